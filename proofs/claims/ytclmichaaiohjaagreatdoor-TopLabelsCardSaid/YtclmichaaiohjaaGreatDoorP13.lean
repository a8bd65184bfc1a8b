import Derived.Test.YtclmichaaiohjaaGreatDoorP12
import Derived.Great.BuildSlice
set_option maxRecDepth 100000
set_option linter.unusedVariables false
set_option linter.unusedSimpArgs false
set_option maxHeartbeats 6400000
namespace Go.Proofs.YtclmichaaiohjaaGreatDoor
open RowKit
open Bool renaming true->G,false->Y
open Go renaming World->H,Calls->Ef,TypeId->Ez,Value->M,Addr->Et,bodyPost_ret->EQ,Oper->EK,below_setRow->E2
open Act renaming put->Ic
open Ending renaming returned->Eg
open IntKind renaming i64->I
open Lib renaming hid->J
open Obj renaming cells->EI
open Go.Proofs.Tryz renaming prog->EJ
open Region renaming wanted->IQ
open RowKit renaming Hid->Ea
open RowKit.Below renaming refl->E6
open Value renaming bool->Eb,int->E,agg->EU,slice->u,tuple->Es,pointer->V
open List renaming take_succ_cons->Il,take_zero->Ij,setIfInBounds_toArray->Ig,length_append->IL,set_cons_succ->IJ,set_cons_zero->IU,drop_succ_cons->Iz,drop_zero->Ix
open Nat renaming le_trans->Ey,le_refl->E5
open Option renaming some->X,none->Z
open KQ
variable{vs:List Nat}{L:List One}{W W' w:H}{lo n gq gp k lo2 gc gt gm b n0 gl:Nat}{A:Option Et}{p q:Tmp}{m:Int}{cs:Array M}{g g2:Nat->M}{v:M}{c:EA}{a:UA}{rs:Int->List Int}{fn:Func}{T:Ez}{ops:Array EK}{rest:List EK}{o:EK}{Q:Exit->Act->H->Prop}{Y5:Array M->Prop}
theorem jY{vs:List M}{L:List Int}(h:vs=L.map (E .i64)): ∀Y3∈vs,∃x,Y3=E .i64 x:=by subst h;intro Y3 hu;obtain⟨x,-,e⟩:=List.mem_map.1 hu;exact⟨x,e.symm⟩
theorem EdM(r0 r1 r2 r3:Int)(w:H): Ef EJ 65 #[EU #[E I r0,E I r1,E I r2,E I r3]] w fun e w'=>e=Eg (Eb (pw (EU #[E I r0,E I r1,E I r2,E I r3])))/\Below w.heap.size w w':=by
 obtain⟨bo,U2⟩: ∃bo,bo=pw (EU #[E I r0,E I r1,E I r2,E I r3]):=⟨_,O⟩;rw[<-U2];have yM:Ea (bo=([r0,r1,r2,r3].map (E .i64)).all (Ol 0 15)):=J (by rw[U2];rfl);have K0:=J<|D.new w #[E I r0,E I r1,E I r2,E I r3] 25;have b1:=Eo w (EI #[E I r0,E I r1,E I r2,E I r3] 25);clear U2;go_enter Tryz.func65,Tryz.ntmps65;go_wp2_with fail;obtain⟨gb,hgb⟩:=En w.heap.size;rw[<-hgb] at K0⊢;have KB:=J K0.out;have BB:=J b1;clear K0 b1;generalize w.alloc (EI #[E I r0,E I r1,E I r2,E I r3] 25)=w1 at*;refine Zy (Ph:=fun _ wq=>Below w1.heap.size w1 wq) (Rel:=Jr) (If:=fun w w'=>w=w') [kq (u (X ⟨gb,0,Z⟩) 4 4),.dep (Jp 0 15) (fun v w w' h hr=>h.B hr) (fun v w w' h hr=>UP),kq (Eb bo),kq (Eb bo)] [Y,Y,Y,Y] O [] [(0,0),(0,0),(0,0),(0,0)] Ec Ec Ec Ec Ec On Ec ?hPh ?h0 ?hstep ?hend;case hPh=> intro p w2 w3 h hr;exact bt h hr
 case h0=> exact I1 w1
 case hstep=>
  refine⟨?_,?_,?_,?_,trivial⟩;all_goals intro xv wq p hlo hhi hp hd
  all_goals simp only[EB,Ic,Ig,IJ,IU]
  ·exact Eja
  ·refine IY (f:=66) (args:= #[E I 0,E I 15]) (Ei O) Ew ?_;exact(X3 0 15 wq).mono fun e w2 ⟨v,he,hv,hb⟩=>⟨v,he,hb,hv⟩
  ·have d0:xv 0=u (X ⟨gb,0,Z⟩) 4 4:=hd.at 0 rfl;obtain⟨cap,e1,hok⟩:=Jp.ok (hd.at 1 rfl:Jp 0 15 (xv 1) wq);refine IY (f:=62) (args:= #[u (X ⟨gb,0,Z⟩) 4 4,.func (.func 80) #[] cap]) (Ei O) (by simp[go_sem,e1,d0]) ?_;exact(gd _ cap ([r0,r1,r2,r3].map (E .i64)) (Ol 0 15) gb 0 4 4 wq O U (hok _ (jY O)) (fun i v hi=>(D.cell (D.B KB.out hp) i).trans Om|>fun h=>Ou)).mono fun e w2 ⟨he,hb⟩=>⟨Eb bo,he.trans (by rw[yM.out]),hb,O⟩
  ·have d2:xv 2=Eb bo:=hd.at 2 rfl;exact Ep (by simp[go_sem,d2]) O
 case hend=> intro xv W6 hp hd;simp only[EB,Ic,Ig,IJ,IU];have a2:xv 2=Eb bo:=hd 2 EZ;have a3:xv 3=Eb bo:=hd 3 EZ;rw[a2,a3];clear hd a2 a3;replace BB:=ET BB hp;clear hp;go_wp2_with fail;go_ret;exact Elr
structure t_(g:Nat->M)(p:Nat->Int)(kl:Nat->Nat):Prop where
 int: ∀i,i<56->i<5\/8<i->g i=E I (p i)/\I3 (p i)
 key: ∀i,5<=i->i<=8-> ∃(A:Option Et) (c:Nat),g i=u A (kl i) c
def yN(p:Nat->Int):Bool:=yL (p 0) (p 1) (p 2) (p 3) (p 4)
def px(kl:Nat->Nat):Bool:=((Us (kl 5) 1 64&&Us (kl 6) 1 64)&&Us (kl 7) 1 64)&&Us (kl 8) 1 64
def uE(p:Nat->Int):Bool:=(p 9==1&&p 13==0)&&([p 10,p 11,p 12].map (E .i64)).all mT
def cL(p:Nat->Int)(k:Nat):M:=EU #[E I (p (14+k*4)),E I (p (15+k*4)),E I (p (16+k*4)),E I (p (17+k*4))]
def uI(p:Nat->Int):Bool:=[cL p 0,cL p 1,cL p 2,cL p 3,cL p 4].all pw
def uJ(p:Nat->Int):Bool:=([p 34,p 35,p 36,p 37,p 38].map (E .i64)).all (Ol 0 31)
def uO(p:Nat->Int):Bool:=([p 39,p 40,p 41].map (E .i64)).all (Ol 0 4)
def uU(p:Nat->Int):Bool:=([p 42,p 43,p 44,p 45].map (E .i64)).all (Ol 1 1000)
def uX(p:Nat->Int):Bool:=Us (p 46) 1 1000&&Us (p 47) 0 1000
def uZ(p:Nat->Int):Bool:=([p 48,p 49].map (E .i64)).all (Ol 1 3)
def ua(p:Nat->Int):Bool:=(p 50==0&&([p 51,p 52,p 53].map (E .i64)).all (Ol 0 1000))&&Us (p 54) 1 1000
def yP(p:Nat->Int):Bool:=Us (p 55) 0 65535
def Gc(b1 b2 b3 b4 b5 b6 b7 b8 b9 b10 b11:Bool):Int:=
 bif b1 then bif b2 then bif b3 then bif b4 then bif b5 then bif b6 then bif b7 then bif b8 then bif b9 then bif b10 then bif b11 then 0 else 50 else 49 else 48 else 47 else 46 else 45 else 44 else 43 else 42 else 41 else 40
def Ut(p:Nat->Int)(kl:Nat->Nat):Int:=Gc (yN p) (px kl) (uE p) (uI p) (uJ p) (uO p) (uU p) (uX p) (uZ p) (ua p) (yP p)
theorem EdN:ID EJ 22 5:=⟨⟨_,Tryz.underlying22,O⟩,Ec⟩
theorem EdP(g:Nat->M)(p:Nat->Int)(kl:Nat->Nat)(w:H)(hv:t_ g p kl): Ef EJ 39 #[EU (EH 56 g)] w fun e w'=>e=Eg (E I (Ut p kl))/\Below w.heap.size w w':=by
 obtain⟨r,hr⟩:=En (Ut p kl);rw[<-hr];unfold Ut at hr;obtain⟨b1,hb1⟩:=En (yN p);rw[<-hb1] at hr;replace hb1:=J hb1;obtain⟨b2,hb2⟩:=En (px kl);rw[<-hb2] at hr;replace hb2:=J hb2;obtain⟨b3,hb3⟩:=En (uE p);rw[<-hb3] at hr;replace hb3:=J hb3;obtain⟨b4,hb4⟩:=En (uI p);rw[<-hb4] at hr;replace hb4:=J hb4;obtain⟨b5,hb5⟩:=En (uJ p);rw[<-hb5] at hr;replace hb5:=J hb5;obtain⟨b6,hb6⟩:=En (uO p);rw[<-hb6] at hr;replace hb6:=J hb6;obtain⟨b7,mf⟩:=En (uU p);rw[<-mf] at hr;replace mf:=J mf;obtain⟨b8,yQ⟩:=En (uX p);rw[<-yQ] at hr;replace yQ:=J yQ;obtain⟨b9,yR⟩:=En (uZ p);rw[<-yR] at hr;replace yR:=J yR;obtain⟨b10,yS⟩:=En (ua p);rw[<-yS] at hr;replace yS:=J yS;obtain⟨b11,yT⟩:=En (yP p);rw[<-yT] at hr;replace yT:=J yT;have HRR:=J hr;have K0:=J<|D.new w (EH 56 g) 28;have pA:=Eo w (EI (EH 56 g) 28);have PV:=J hv;clear hr hv;go_enter Tryz.func39,Tryz.ntmps39;go_wp2_with (with_reducible refine I2 4 ?_);refine Ed.in ?_;obtain⟨gp,O8⟩:=En w.heap.size;rw[<-O8] at K0⊢;have KP:=J K0.out;have B1:=J pA;clear K0 pA O8;generalize w.alloc (EI (EH 56 g) 28)=w1 at*;have BB:=J<|E6 w1.heap.size w1;have PC:Ea (∀W,Below w1.heap.size w1 W-> ∀i,i<56->i<5\/8<i->W.cell? ⟨gp,i,Z⟩=X (E I (p i))):=J (fun W hW i h1 h2=>by rw[D.cell (D.B KP.out hW) i,bI,if_pos h1,(PV.out.int i h1 h2).1]);have aF:Ea ((EH 56 g).extract 0 (0+5)= #[E I (p 0),E I (p 1),E I (p 2),E I (p 3),E I (p 4)]):=J (by have e:(EH 56 g).extract 0 (0+5)= #[g 0,g 1,g 2,g 3,g 4]:=dU;rw[e,(PV.out.int 0 U U).1,(PV.out.int 1 U U).1,(PV.out.int 2 U U).1,(PV.out.int 3 U U).1,(PV.out.int 4 U U).1]);have CO:Ea (∀W,Ef EJ 59 #[EU #[E I (p 0),E I (p 1),E I (p 2),E I (p 3),E I (p 4)]] W fun e w'=>e=Eg (Eb b1)/\Below W.heap.size W w'):=J (fun W=>by rw[hb1.out];exact EdL _ _ _ _ _ W);go_wp2_with (with_reducible refine wM (off:=0) (cs:= #[E I (p 0),E I (p 1),E I (p 2),E I (p 3),E I (p 4)]) EdN KP ?_ (he:=aF.out));(with_reducible refine(CO.out _).mono ?_);rintro e W1 ⟨rfl,bb⟩;replace BB:=ET BB bb;clear bb CO aF;cases b1 with
 |false=> go_wp2_with fail;go_ret;exact⟨X4,bt B1.out BB.out⟩
 |true=>
 obtain⟨A5,c5,e5⟩:=PV.out.key 5 U U;obtain⟨A6,c6,e6⟩:=PV.out.key 6 U U;obtain⟨A7,c7,e7⟩:=PV.out.key 7 U U;obtain⟨A8,c8,e8⟩:=PV.out.key 8 U U;obtain⟨Gd,Gf⟩:=En ([Value.slice A5 (kl 5) c5,u A6 (kl 6) c6,u A7 (kl 7) c7].all Gb);obtain⟨Gg,Gh⟩:=En (Us (kl 8) 1 64);obtain rfl:b2=(Gd&&Gg):=by rw[hb2.out,Gf,Gh];unfold px;simp[Gb,Bool.and_assoc]
 have CK:Ea (∀W,Below w1.heap.size w1 W->Ef EJ 60 #[u (X ⟨gp,5,Z⟩) 3 3,.func (.func 61) #[] #[]] W fun e w'=>e=Eg (Eb Gd)/\Below W.heap.size W w'):=J (fun W hW=>by
  rw[Gf];refine EdB 61 #[] _ Gb gp 5 3 3 W O U ⟨fun _ _=>Ec,fun v hv W2 hW2=> ?_⟩ (fun i v hi=> ?_)
  ·obtain⟨A,n,c,rfl⟩: ∃A n c,v=u A n c:=by simp only[List.mem_cons,List.not_mem_nil,or_false] at hv;rcases hv with rfl|rfl|rfl<;>exact⟨_,_,_,rfl⟩
   refine(VI A n c W2).mono ?_;rintro e w' ⟨rfl,rfl⟩;exact⟨O,E6 _ _⟩
  ·have hc: ∀i,i<56->W.cell? ⟨gp,i,Z⟩=X (g i):=fun i h=>by rw[D.cell (D.B KP.out hW) i,bI,if_pos h]
   match i,hi with
   |0,hi=>injection hi with hi;rw[<-hi,<-e5];exact hc 5 U
   |1,hi=>injection hi with hi;rw[<-hi,<-e6];exact hc 6 U
   |2,hi=>injection hi with hi;rw[<-hi,<-e7];exact hc 7 U)
 have VJ:Ea (∀W,Ef EJ 61 #[u A8 (kl 8) c8] W fun e w'=>e=Eg (Eb Gg)/\W=w'):=J (fun W=>by rw[Gh];exact VI _ _ _ W);have C8:Ea (∀W,Below w1.heap.size w1 W->W.cell? ⟨gp,8,Z⟩=X (u A8 (kl 8) c8)):=J (fun W hW=>by rw[D.cell (D.B KP.out hW) 8,bI,if_pos U,e8]);clear e5 e6 e7 e8 Gf Gh;go_wp2_with fail;(with_reducible refine(CK.out _ BB.out).mono ?_);rintro e W2 ⟨rfl,bb⟩;replace BB:=ET BB bb;clear bb CK;have cc8:=C8.out _ BB.out;cases Gd with
 |false=> go_wp2_with fail;go_ret;exact⟨X4,bt B1.out BB.out⟩
 |true=>
 go_wp2_with fail;(with_reducible refine(VJ.out _).mono ?_);rintro e W2' ⟨rfl,rfl⟩;cases Gg with
 |false=> go_wp2_with fail;go_ret;exact⟨X4,bt B1.out BB.out⟩
 |true=>
 clear VJ C8 cc8;have c9:=PC.out _ BB.out 9 U U;have c13:=PC.out _ BB.out 13 U U;obtain⟨Gi,Gj⟩: ∃b,b=([p 10,p 11,p 12].map (E .i64)).all mT:=⟨_,O⟩
 have VO:Ea (∀W,Below w1.heap.size w1 W-> ∀i v,([p 10,p 11,p 12].map (E .i64))[i]?=X v->W.cell? ⟨gp,10+i,Z⟩=X v):=J (fun W hW i v hi=>by
  match i,hi with
  |0,hi=>injection hi with hi;rw[<-hi];exact PC.out W hW 10 U U
  |1,hi=>injection hi with hi;rw[<-hi];exact PC.out W hW 11 U U
  |2,hi=>injection hi with hi;rw[<-hi];exact PC.out W hW 12 U U
  )
 have CR:Ea (∀W,Below w1.heap.size w1 W->Ef EJ 62 #[u (X ⟨gp,10,Z⟩) 3 4,.func (.func 63) #[] #[]] W fun e w'=>e=Eg (Eb Gi)/\Below W.heap.size W w'):=J (fun W hW=>by
  rw[Gj];refine gd 63 #[] _ mT gp 10 3 4 W O U ⟨fun _ _=>Ec,fun v hv W2 hW2=> ?_⟩ (VO.out W hW)
  obtain⟨x,rfl,hx⟩: ∃x,v=E I x/\I3 x:=by
   simp only[List.map_cons,List.map_nil,List.mem_cons,List.not_mem_nil,or_false] at hv;rcases hv with rfl|rfl|rfl;·exact⟨_,O,(PV.out.int 10 U U).2⟩
   ·exact⟨_,O,(PV.out.int 11 U U).2⟩
   ·exact⟨_,O,(PV.out.int 12 U U).2⟩
  exact EdF x W2 hx)
 have e3:Ea (b3=((p 9==1&&p 13==0)&&Gi)):=J (by rw[hb3.out,Gj];rfl);clear Gj VO;by_cases h9:p 9=1
 case neg=>
  have t9:(p 9 !=1)=G:=by simp[h9]
  obtain rfl:b3=Y:=by rw[e3.out];simp[h9]
  go_wp2_with fail;exact EjM
 have t9:(p 9 !=1)=Y:=by simp[h9]
 by_cases bZ:p 13=0
 case neg=>
  have t13:(p 13 !=0)=G:=by simp[bZ]
  obtain rfl:b3=Y:=by rw[e3.out];simp[bZ]
  go_wp2_with fail;exact EjM
 have t13:(p 13 !=0)=Y:=by simp[bZ]
 obtain rfl:b3=Gi:=by rw[e3.out];simp[h9,bZ]
 clear h9 bZ e3;go_wp2_with fail;(with_reducible refine(CR.out _ BB.out).mono ?_);rintro e W3 ⟨rfl,bb⟩;replace BB:=ET BB bb;clear bb CR c9 c13 t9 t13;cases b3 with
 |false=> go_wp2_with fail;go_ret;exact⟨X4,bt B1.out BB.out⟩
 |true=>
 have CR:Ea (∀W,Below w1.heap.size w1 W->Ef EJ 64 #[u (X ⟨gp,14,Z⟩) 5 5,.func (.func 65) #[] #[]] W fun e w'=>e=Eg (Eb b4)/\Below W.heap.size W w'):=J (fun W hW=>by
  rw[hb4.out];have hrow: ∀v∈[cL p 0,cL p 1,cL p 2,cL p 3,cL p 4],∃r0 r1 r2 r3:Int,v=EU #[E I r0,E I r1,E I r2,E I r3]:=fun v hv=>by simp only[List.mem_cons,List.not_mem_nil,or_false] at hv;rcases hv with rfl|rfl|rfl|rfl|rfl<;>exact⟨_,_,_,_,rfl⟩
  refine EdC 65 #[] _ pw gp 14 5 5 W O U ⟨fun _ _=>Ec,fun v hv W2 hW2=> ?_⟩ 28 (EH 56 g) (D.B KP.out hW) (fun row hr=> ?_) (fun i v hi=> ?_);·obtain⟨r0,r1,r2,r3,rfl⟩:=hrow v hv;exact EdM r0 r1 r2 r3 W2
  ·obtain⟨r0,r1,r2,r3,e⟩:=hrow _ hr;injection e with e;rw[e];simp[Value.oneCell']
  ·match i,hi with
   |0,hi=> injection hi with hi;refine⟨_,hi.symm,O,?_⟩;have e:(EH 56 g).extract (14) (14+4)= #[g 14,g 15,g 16,g 17]:=dU;rw[show 14+0*4=14 from rfl,e,(PV.out.int 14 U U).1,(PV.out.int 15 U U).1,(PV.out.int 16 U U).1,(PV.out.int 17 U U).1]
   |1,hi=> injection hi with hi;refine⟨_,hi.symm,O,?_⟩;have e:(EH 56 g).extract (18) (18+4)= #[g 18,g 19,g 20,g 21]:=dU;rw[show 14+1*4=18 from rfl,e,(PV.out.int 18 U U).1,(PV.out.int 19 U U).1,(PV.out.int 20 U U).1,(PV.out.int 21 U U).1]
   |2,hi=> injection hi with hi;refine⟨_,hi.symm,O,?_⟩;have e:(EH 56 g).extract (22) (22+4)= #[g 22,g 23,g 24,g 25]:=dU;rw[show 14+2*4=22 from rfl,e,(PV.out.int 22 U U).1,(PV.out.int 23 U U).1,(PV.out.int 24 U U).1,(PV.out.int 25 U U).1]
   |3,hi=> injection hi with hi;refine⟨_,hi.symm,O,?_⟩;have e:(EH 56 g).extract (26) (26+4)= #[g 26,g 27,g 28,g 29]:=dU;rw[show 14+3*4=26 from rfl,e,(PV.out.int 26 U U).1,(PV.out.int 27 U U).1,(PV.out.int 28 U U).1,(PV.out.int 29 U U).1]
   |4,hi=> injection hi with hi;refine⟨_,hi.symm,O,?_⟩;have e:(EH 56 g).extract (30) (30+4)= #[g 30,g 31,g 32,g 33]:=dU;rw[show 14+4*4=30 from rfl,e,(PV.out.int 30 U U).1,(PV.out.int 31 U U).1,(PV.out.int 32 U U).1,(PV.out.int 33 U U).1]
   )
 go_wp2_with fail;(with_reducible refine(CR.out _ BB.out).mono ?_);rintro e W4 ⟨rfl,bb⟩;replace BB:=ET BB bb;clear bb CR;cases b4 with
 |false=> go_wp2_with fail;go_ret;exact⟨X4,bt B1.out BB.out⟩
 |true=>
 have rm:Ea (b5=([p 34,p 35,p 36,p 37,p 38].map (E .i64)).all (Ol 0 31)):=J hb5.out
 have VU:Ea (∀W,Below w1.heap.size w1 W-> ∀i v,([p 34,p 35,p 36,p 37,p 38].map (E .i64))[i]?=X v->W.cell? ⟨gp,34+i,Z⟩=X v):=J (fun W hW i v hi=>by
  match i,hi with
  |0,hi=>injection hi with hi;rw[<-hi];exact PC.out W hW 34 U U
  |1,hi=>injection hi with hi;rw[<-hi];exact PC.out W hW 35 U U
  |2,hi=>injection hi with hi;rw[<-hi];exact PC.out W hW 36 U U
  |3,hi=>injection hi with hi;rw[<-hi];exact PC.out W hW 37 U U
  |4,hi=>injection hi with hi;rw[<-hi];exact PC.out W hW 38 U U
  )
 go_wp2_with fail;refine Zy (Ph:=fun _ wq=>Below w1.heap.size w1 wq) (Rel:=Jr) (If:=fun w w'=>w=w') [kp gp 34,kq (u (X ⟨gp,34,Z⟩) 5 5),.dep (Jp 0 31) (fun v w w' h hr=>h.B hr) (fun v w w' h hr=>UP),kq (Eb b5),kq (Eb (!b5)),kq (Eb (!b5))] [Y,Y,Y,Y,Y,Y] O [] [(0,0),(0,0),(0,0),(0,0),(0,0),(0,0)] Ec Ec Ec Ec Ec On Ec ?hPh ?h0 ?hstep ?hend;case hPh=> intro p_ w2 w3 h hr;exact bt h hr
 case h0=> exact bt BB.out (I1 W4)
 case hstep=>
  refine⟨?_,?_,?_,?_,?_,?_,trivial⟩;all_goals intro xv wq p_ hlo hhi hp hd
  all_goals simp only[EB,Ic,Ig,IJ,IU]
  ·exact Eja
  ·have d0:xv 0=V (X ⟨gp,34,Z⟩):=hd.at 0 rfl;exact El8
  ·refine IY (f:=66) (args:= #[E I 0,E I 31]) (Ei O) Ew ?_;exact(X3 0 31 wq).mono fun e w2 ⟨v,he,hv,hb⟩=>⟨v,he,hb,hv⟩
  ·have d1:xv 1=u (X ⟨gp,34,Z⟩) 5 5:=hd.at 1 rfl;obtain⟨cap,e1,hok⟩:=Jp.ok (hd.at 2 rfl:Jp 0 31 (xv 2) wq);refine IY (f:=62) (args:= #[u (X ⟨gp,34,Z⟩) 5 5,.func (.func 80) #[] cap]) (Ei O) (by simp[go_sem,e1,d1]) ?_;exact(gd _ cap ([p 34,p 35,p 36,p 37,p 38].map (E .i64)) (Ol 0 31) gp 34 5 5 wq O U (hok _ (jY O)) (VU.out wq hp)).mono fun e w2 ⟨he,hb⟩=>⟨Eb b5,he.trans (by rw[rm.out]),hb,O⟩
  ·have d3:xv 3=Eb b5:=hd.at 3 rfl;exact Elz
  ·have d4:xv 4=Eb (!b5):=hd.at 4 rfl;exact Emb
 case hend=>
  intro xv W5 hp hd;simp only[EB,Ic,Ig,IJ,IU];have a4:xv 4=Eb (!b5):=hd 4 EZ;have a5:xv 5=Eb (!b5):=hd 5 EZ;rw[a4,a5];clear hd a4 a5;replace BB:=J hp;clear hp;clear VU rm;cases b5 with
  |false=> go_wp2_with fail;go_ret;exact⟨X4,bt B1.out BB.out⟩
  |true=>
  have rp:Ea (b6=([p 39,p 40,p 41].map (E .i64)).all (Ol 0 4)):=J hb6.out;go_wp2_with fail;refine Zy (Ph:=fun _ wq=>Below w1.heap.size w1 wq) (Rel:=Jr) (If:=fun w w'=>w=w') [kp gp 39,kq (E I (p 39)),kp gp 40,kq (E I (p 40)),kp gp 41,kq (E I (p 41)),.dep (fun v w=> ∃b:Nat,v=u (X ⟨b,0,Z⟩) 3 3/\D w b #[E I (p 39),E I (p 40),E I (p 41)] 3) (fun v w w' h hr=>Gk) (fun v w w' h hr=>UP),.dep (Jp 0 4) (fun v w w' h hr=>h.B hr) (fun v w w' h hr=>UP),kq (Eb b6),kq (Eb (!b6)),kq (Eb (!b6))] [Y,Y,Y,Y,Y,Y,Y,Y,Y,Y,Y] O [] [(0,0),(0,0),(0,0),(0,0),(0,0),(0,0),(0,0),(0,0),(0,0),(0,0),(0,0)] Ec Ec Ec Ec Ec On Ec ?hPh ?h0 ?hstep ?hend;case hPh=> intro p_ w2 w3 h hr;exact bt h hr
  case h0=> exact bt BB.out (I1 W5)
  case hstep=>
   refine⟨?_,?_,?_,?_,?_,?_,?_,?_,?_,?_,?_,trivial⟩;all_goals intro xv wq p_ hlo hhi hp hd
   all_goals simp only[EB,Ic,Ig,IJ,IU]
   ·exact Eja
   ·have d0:xv 0=V (X ⟨gp,39,Z⟩):=hd.at 0 rfl;have cc:wq.cell? ⟨gp,39,Z⟩=X (E I (p 39)):=(PC.out _ hp 39 U U);exact Ep Gl O
   ·exact Eja
   ·have d2:xv 2=V (X ⟨gp,40,Z⟩):=hd.at 2 rfl;have cc:wq.cell? ⟨gp,40,Z⟩=X (E I (p 40)):=(PC.out _ hp 40 U U);exact Emw
   ·exact Eja
   ·have d4:xv 4=V (X ⟨gp,41,Z⟩):=hd.at 4 rfl;have cc:wq.cell? ⟨gp,41,Z⟩=X (E I (p 41)):=(PC.out _ hp 41 U U);exact Ep Cn O
   ·have d1:xv 1=E I (p 39):=hd.at 1 rfl;have d3:xv 3=E I (p 40):=hd.at 3 rfl;have d5:xv 5=E I (p 41):=hd.at 5 rfl;exact XD (w':=wq.alloc (EI #[E I (p 39),E I (p 40),E I (p 41)] 3)) (Ei O) (by simp[go_sem,d1,d3,d5]) (Eo wq _) ⟨wq.heap.size,O,D.new _ _ _⟩
   ·refine IY (f:=66) (args:= #[E I 0,E I 4]) (Ei O) Ew ?_;exact(X3 0 4 wq).mono fun e w2 ⟨v,he,hv,hb⟩=>⟨v,he,hb,hv⟩
   ·obtain⟨cap,e1,hok⟩:=Jp.ok (hd.at 7 rfl:Jp 0 4 (xv 7) wq);obtain⟨b,e2,kb⟩: ∃b:Nat,xv 6=u (X ⟨b,0,Z⟩) 3 3/\D wq b #[E I (p 39),E I (p 40),E I (p 41)] 3:=hd.at 6 rfl;refine IY (f:=62) (args:= #[u (X ⟨b,0,Z⟩) 3 3,.func (.func 80) #[] cap]) (Ei O) Gm ?_;exact(gd _ cap ([p 39,p 40,p 41].map (E .i64)) (Ol 0 4) b 0 3 3 wq O U (hok _ (jY O)) (fun i v hi=>by have:=(D.cell kb i).trans Om;simpa using this)).mono fun e w2 ⟨he,hb⟩=>⟨Eb b6,he.trans (by rw[rp.out]),hb,O⟩
   ·have d8:xv 8=Eb b6:=hd.at 8 rfl;exact Ep am O
   ·have d9:xv 9=Eb (!b6):=hd.at 9 rfl;exact Ep lX O
  case hend=>
   intro xv W6 hp hd;simp only[EB,Ic,Ig,IJ,IU];have a9:xv 9=Eb (!b6):=hd 9 EZ;have Oq:xv 10=Eb (!b6):=hd 10 EZ;rw[a9,Oq];clear hd a9 Oq;replace BB:=J hp;clear hp;clear rp;cases b6 with
   |false=> go_wp2_with fail;go_ret;exact⟨X4,bt B1.out BB.out⟩
   |true=>
   have rq:Ea (b7=([p 42,p 43,p 44,p 45].map (E .i64)).all (Ol 1 1000)):=J mf.out;go_wp2_with fail;refine Zy (Ph:=fun _ wq=>Below w1.heap.size w1 wq) (Rel:=Jr) (If:=fun w w'=>w=w') [kp gp 42,kq (E I (p 42)),kp gp 43,kq (E I (p 43)),kp gp 44,kq (E I (p 44)),kp gp 45,kq (E I (p 45)),.dep (fun v w=> ∃b:Nat,v=u (X ⟨b,0,Z⟩) 4 4/\D w b #[E I (p 42),E I (p 43),E I (p 44),E I (p 45)] 3) (fun v w w' h hr=>Gk) (fun v w w' h hr=>UP),.dep (Jp 1 1000) (fun v w w' h hr=>h.B hr) (fun v w w' h hr=>UP),kq (Eb b7),kq (Eb (!b7)),kq (Eb (!b7))] [Y,Y,Y,Y,Y,Y,Y,Y,Y,Y,Y,Y,Y] O [] [(0,0),(0,0),(0,0),(0,0),(0,0),(0,0),(0,0),(0,0),(0,0),(0,0),(0,0),(0,0),(0,0)] Ec Ec Ec Ec Ec On Ec ?hPh ?h0 ?hstep ?hend;case hPh=> intro p_ w2 w3 h hr;exact bt h hr
   case h0=> exact bt BB.out (I1 W6)
   case hstep=>
    refine⟨?_,?_,?_,?_,?_,?_,?_,?_,?_,?_,?_,?_,?_,trivial⟩;all_goals intro xv wq p_ hlo hhi hp hd
    all_goals simp only[EB,Ic,Ig,IJ,IU]
    ·exact Eja
    ·have d0:xv 0=V (X ⟨gp,42,Z⟩):=hd.at 0 rfl;have cc:wq.cell? ⟨gp,42,Z⟩=X (E I (p 42)):=(PC.out _ hp 42 U U);exact Ep Gl O
    ·exact Eja
    ·have d2:xv 2=V (X ⟨gp,43,Z⟩):=hd.at 2 rfl;have cc:wq.cell? ⟨gp,43,Z⟩=X (E I (p 43)):=(PC.out _ hp 43 U U);exact Emw
    ·exact Eja
    ·have d4:xv 4=V (X ⟨gp,44,Z⟩):=hd.at 4 rfl;have cc:wq.cell? ⟨gp,44,Z⟩=X (E I (p 44)):=(PC.out _ hp 44 U U);exact Ep Cn O
    ·exact Eja
    ·have d6:xv 6=V (X ⟨gp,45,Z⟩):=hd.at 6 rfl;have cc:wq.cell? ⟨gp,45,Z⟩=X (E I (p 45)):=(PC.out _ hp 45 U U);exact Ep xq O
    ·have d1:xv 1=E I (p 42):=hd.at 1 rfl;have d3:xv 3=E I (p 43):=hd.at 3 rfl;have d5:xv 5=E I (p 44):=hd.at 5 rfl;have d7:xv 7=E I (p 45):=hd.at 7 rfl;exact XD (w':=wq.alloc (EI #[E I (p 42),E I (p 43),E I (p 44),E I (p 45)] 3)) (Ei O) (by simp[go_sem,d1,d3,d5,d7]) (Eo wq _) ⟨wq.heap.size,O,D.new _ _ _⟩
    ·exact EiQ
    ·obtain⟨cap,e1,hok⟩:=Jp.ok (hd.at 9 rfl:Jp 1 1000 (xv 9) wq);obtain⟨b,e2,kb⟩: ∃b:Nat,xv 8=u (X ⟨b,0,Z⟩) 4 4/\D wq b #[E I (p 42),E I (p 43),E I (p 44),E I (p 45)] 3:=hd.at 8 rfl;refine IY (f:=62) (args:= #[u (X ⟨b,0,Z⟩) 4 4,.func (.func 80) #[] cap]) (Ei O) Gm ?_;exact(gd _ cap ([p 42,p 43,p 44,p 45].map (E .i64)) (Ol 1 1000) b 0 4 4 wq O U (hok _ (jY O)) (fun i v hi=>by have:=(D.cell kb i).trans Om;simpa using this)).mono fun e w2 ⟨he,hb⟩=>⟨Eb b7,he.trans (by rw[rq.out]),hb,O⟩
    ·have d10:xv 10=Eb b7:=hd.at 10 rfl;exact Eml
    ·have d11:xv 11=Eb (!b7):=hd.at 11 rfl;exact El2
   case hend=>
    intro xv W7 hp hd;simp only[EB,Ic,Ig,IJ,IU];have Jt:xv 11=Eb (!b7):=hd 11 EZ;have a12:xv 12=Eb (!b7):=hd 12 EZ;rw[Jt,a12];clear hd Jt a12;replace BB:=J hp;clear hp;clear rq;cases b7 with
    |false=> go_wp2_with fail;go_ret;exact⟨X4,bt B1.out BB.out⟩
    |true=>
    obtain⟨VX,pB⟩:=En (Us (p 46) 1 1000);obtain⟨VZ,ub⟩:=En (Us (p 47) 0 1000);obtain rfl:b8=(VX&&VZ):=by rw[yQ.out,pB,ub];rfl
    replace pB:=J pB;replace ub:=J ub;cases VX with
    |false=>
     go_wp2_with fail;refine Zy (Ph:=fun _ wq=>Below w1.heap.size w1 wq) (Rel:=Jr) (If:=fun w w'=>w=w') [.dep (Jp 1 1000) (fun v w w' h hr=>h.B hr) (fun v w w' h hr=>UP),kp gp 46,kq (E I (p 46)),kq (Eb Y),kq (Eb G),kq (Eb G),kq undef,kq undef,kq undef,kq undef,kq undef,kq (Eb G),kq (Eb G)] [Y,Y,Y,Y,Y,Y,Y,Y,Y,Y,Y,Y,Y] O [] [(0,0),(0,0),(0,0),(0,0),(0,0),(0,0),(0,0),(0,0),(0,0),(0,0),(0,0),(0,0),(0,0)] Ec Ec Ec Ec Ec On Ec ?hPh ?h0 ?hstep ?hend;case hPh=> intro p_ w2 w3 h hr;exact bt h hr
     case h0=> exact bt BB.out (I1 W7)
     case hstep=>
      refine⟨?_,?_,?_,?_,?_,?_,?_,?_,?_,?_,?_,?_,?_,trivial⟩;all_goals intro xv wq p_ hlo hhi hp hd
      all_goals simp only[EB,Ic,Ig,IJ,IU]
      ·exact EiQ
      ·exact Eja
      ·exact Ejm
      ·have d2:xv 2=E I (p 46):=hd.at 2 rfl;obtain⟨wa,wb,e1,ca,cb⟩:Jp 1 1000 (xv 0) wq:=hd.at 0 rfl;refine IY (f:=80) (args:= #[E I (p 46),V (X ⟨wa,0,Z⟩),V (X ⟨wb,0,Z⟩)]) (Ei O) yV ?_;exact(fE (p 46) 1 1000 wa wb wq ca cb).mono fun e w2 ⟨he,hb⟩=>⟨Eb Y,he.trans (by rw[pB.out]),j4,O⟩
      ·exact Ek1
      ·have d4:xv 4=Eb G:=hd.at 4 rfl;exact Emb
      ·exact Ejj
      ·exact Ejj
      ·exact Ejj
      ·exact Ejj
      ·exact Ejj
      ·have d5:xv 5=Eb G:=hd.at 5 rfl;exact Ep Zq O
      ·exact EkQ
     case hend=> exact EmP
    |true=>
    cases VZ with
    |false=>
     go_wp2_with fail;refine Zy (Ph:=fun _ wq=>Below w1.heap.size w1 wq) (Rel:=Jr) (If:=fun w w'=>w=w') [.dep (Jp 1 1000) (fun v w w' h hr=>h.B hr) (fun v w w' h hr=>UP),kp gp 46,kq (E I (p 46)),kq (Eb G),kq (Eb Y),kq (Eb Y),.dep (Jp 0 1000) (fun v w w' h hr=>h.B hr) (fun v w w' h hr=>UP),kp gp 47,kq (E I (p 47)),kq (Eb Y),kq (Eb G),kq (Eb G),kq (Eb G)] [Y,Y,Y,Y,Y,Y,Y,Y,Y,Y,Y,Y,Y] O [] [(0,0),(0,0),(0,0),(0,0),(0,0),(0,0),(0,0),(0,0),(0,0),(0,0),(0,0),(0,0),(0,0)] Ec Ec Ec Ec Ec On Ec ?hPh ?h0 ?hstep ?hend;case hPh=> intro p_ w2 w3 h hr;exact bt h hr
     case h0=> exact bt BB.out (I1 W7)
     case hstep=>
      refine⟨?_,?_,?_,?_,?_,?_,?_,?_,?_,?_,?_,?_,?_,trivial⟩;all_goals intro xv wq p_ hlo hhi hp hd
      all_goals simp only[EB,Ic,Ig,IJ,IU]
      ·exact EiQ
      ·exact Eja
      ·exact Ejm
      ·exact Ei5
      ·exact Em8
      ·have d4:xv 4=Eb Y:=hd.at 4 rfl;exact Emb
      ·exact EmS
      ·exact El6
      ·exact EjL
      ·have d5:xv 5=Eb Y:=hd.at 5 rfl;have d8:xv 8=E I (p 47):=hd.at 8 rfl;obtain⟨wa,wb,e1,ca,cb⟩:Jp 0 1000 (xv 6) wq:=hd.at 6 rfl;refine IY (f:=80) (args:= #[E I (p 47),V (X ⟨wa,0,Z⟩),V (X ⟨wb,0,Z⟩)]) (J6 O O (congrArg X d5)) (by simp[go_sem,e1,d8]) ?_;exact(fE (p 47) 0 1000 wa wb wq ca cb).mono fun e w2 ⟨he,hb⟩=>⟨Eb Y,he.trans (by rw[ub.out]),j4,O⟩
      ·have d5:xv 5=Eb Y:=hd.at 5 rfl;have d9:xv 9=Eb Y:=hd.at 9 rfl;exact Ir EF (J6 O O (congrArg X d5)) lX O
      ·have d5:xv 5=Eb Y:=hd.at 5 rfl;have d10:xv 10=Eb G:=hd.at 10 rfl;exact Ep (by simp[go_sem,d5,d10]) O
      ·exact EkQ
     case hend=> exact EmP
    |true=>
    go_wp2_with fail;refine Zy (Ph:=fun _ wq=>Below w1.heap.size w1 wq) (Rel:=Jr) (If:=fun w w'=>w=w') [.dep (Jp 1 1000) (fun v w w' h hr=>h.B hr) (fun v w w' h hr=>UP),kp gp 46,kq (E I (p 46)),kq (Eb G),kq (Eb Y),kq (Eb Y),.dep (Jp 0 1000) (fun v w w' h hr=>h.B hr) (fun v w w' h hr=>UP),kp gp 47,kq (E I (p 47)),kq (Eb G),kq (Eb Y),kq (Eb Y),kq (Eb Y)] [Y,Y,Y,Y,Y,Y,Y,Y,Y,Y,Y,Y,Y] O [] [(0,0),(0,0),(0,0),(0,0),(0,0),(0,0),(0,0),(0,0),(0,0),(0,0),(0,0),(0,0),(0,0)] Ec Ec Ec Ec Ec On Ec ?hPh ?h0 ?hstep ?hend;case hPh=> intro p_ w2 w3 h hr;exact bt h hr
    case h0=> exact bt BB.out (I1 W7)
    case hstep=>
     refine⟨?_,?_,?_,?_,?_,?_,?_,?_,?_,?_,?_,?_,?_,trivial⟩;all_goals intro xv wq p_ hlo hhi hp hd
     all_goals simp only[EB,Ic,Ig,IJ,IU]
     ·exact EiQ
     ·exact Eja
     ·exact Ejm
     ·exact Ei5
     ·exact Em8
     ·have d4:xv 4=Eb Y:=hd.at 4 rfl;exact Emb
     ·exact EmS
     ·exact El6
     ·exact EjL
     ·have d5:xv 5=Eb Y:=hd.at 5 rfl;have d8:xv 8=E I (p 47):=hd.at 8 rfl;obtain⟨wa,wb,e1,ca,cb⟩:Jp 0 1000 (xv 6) wq:=hd.at 6 rfl;refine IY (f:=80) (args:= #[E I (p 47),V (X ⟨wa,0,Z⟩),V (X ⟨wb,0,Z⟩)]) (J6 O O (congrArg X d5)) (by simp[go_sem,e1,d8]) ?_;exact(fE (p 47) 0 1000 wa wb wq ca cb).mono fun e w2 ⟨he,hb⟩=>⟨Eb G,he.trans (by rw[ub.out]),j4,O⟩
     ·have d5:xv 5=Eb Y:=hd.at 5 rfl;have d9:xv 9=Eb G:=hd.at 9 rfl;exact Ir EF (J6 O O (congrArg X d5)) lX O
     ·have d5:xv 5=Eb Y:=hd.at 5 rfl;have d10:xv 10=Eb Y:=hd.at 10 rfl;exact Ep (by simp[go_sem,d5,d10]) O
     ·have d11:xv 11=Eb Y:=hd.at 11 rfl;exact El2
    case hend=>
     intro xv W8 hp hd;simp only[EB,Ic,Ig,IJ,IU];have Jt:xv 11=Eb Y:=hd 11 EZ;have a12:xv 12=Eb Y:=hd 12 EZ;rw[Jt,a12];clear hd Jt a12;replace BB:=J hp;clear hp;have Va:Ea (b9=([p 48,p 49].map (E .i64)).all (Ol 1 3)):=J yR.out;go_wp2_with fail;refine Zy (Ph:=fun _ wq=>Below w1.heap.size w1 wq) (Rel:=Jr) (If:=fun w w'=>w=w') [kp gp 48,kq (E I (p 48)),kp gp 49,kq (E I (p 49)),.dep (fun v w=> ∃b:Nat,v=u (X ⟨b,0,Z⟩) 2 2/\D w b #[E I (p 48),E I (p 49)] 3) (fun v w w' h hr=>Gk) (fun v w w' h hr=>UP),.dep (Jp 1 3) (fun v w w' h hr=>h.B hr) (fun v w w' h hr=>UP),kq (Eb b9),kq (Eb (!b9)),kq (Eb (!b9))] [Y,Y,Y,Y,Y,Y,Y,Y,Y] O [] [(0,0),(0,0),(0,0),(0,0),(0,0),(0,0),(0,0),(0,0),(0,0)] Ec Ec Ec Ec Ec On Ec ?hPh ?h0 ?hstep ?hend;case hPh=> intro p_ w2 w3 h hr;exact bt h hr
     case h0=> exact bt BB.out (I1 W8)
     case hstep=>
      refine⟨?_,?_,?_,?_,?_,?_,?_,?_,?_,trivial⟩;all_goals intro xv wq p_ hlo hhi hp hd
      all_goals simp only[EB,Ic,Ig,IJ,IU]
      ·exact Eja
      ·have d0:xv 0=V (X ⟨gp,48,Z⟩):=hd.at 0 rfl;have cc:wq.cell? ⟨gp,48,Z⟩=X (E I (p 48)):=(PC.out _ hp 48 U U);exact Ep Gl O
      ·exact Eja
      ·have d2:xv 2=V (X ⟨gp,49,Z⟩):=hd.at 2 rfl;have cc:wq.cell? ⟨gp,49,Z⟩=X (E I (p 49)):=(PC.out _ hp 49 U U);exact Emw
      ·have d1:xv 1=E I (p 48):=hd.at 1 rfl;have d3:xv 3=E I (p 49):=hd.at 3 rfl;exact XD (w':=wq.alloc (EI #[E I (p 48),E I (p 49)] 3)) (Ei O) (by simp[go_sem,d1,d3]) (Eo wq _) ⟨wq.heap.size,O,D.new _ _ _⟩
      ·refine IY (f:=66) (args:= #[E I 1,E I 3]) (Ei O) Ew ?_;exact(X3 1 3 wq).mono fun e w2 ⟨v,he,hv,hb⟩=>⟨v,he,hb,hv⟩
      ·obtain⟨cap,e1,hok⟩:=Jp.ok (hd.at 5 rfl:Jp 1 3 (xv 5) wq);obtain⟨b,e2,kb⟩: ∃b:Nat,xv 4=u (X ⟨b,0,Z⟩) 2 2/\D wq b #[E I (p 48),E I (p 49)] 3:=hd.at 4 rfl;refine IY (f:=62) (args:= #[u (X ⟨b,0,Z⟩) 2 2,.func (.func 80) #[] cap]) (Ei O) Gm ?_;exact(gd _ cap ([p 48,p 49].map (E .i64)) (Ol 1 3) b 0 2 2 wq O U (hok _ (jY O)) (fun i v hi=>by have:=(D.cell kb i).trans Om;simpa using this)).mono fun e w2 ⟨he,hb⟩=>⟨Eb b9,he.trans (by rw[Va.out]),hb,O⟩
      ·have d6:xv 6=Eb b9:=hd.at 6 rfl;exact Ep lJ O
      ·have d7:xv 7=Eb (!b9):=hd.at 7 rfl;exact Ep dk O
     case hend=>
      intro xv W9 hp hd;simp only[EB,Ic,Ig,IJ,IU];have a7:xv 7=Eb (!b9):=hd 7 EZ;have a8:xv 8=Eb (!b9):=hd 8 EZ;rw[a7,a8];clear hd a7 a8;replace BB:=J hp;clear hp;clear Va;cases b9 with
      |false=> go_wp2_with fail;go_ret;exact⟨X4,bt B1.out BB.out⟩
      |true=>
      obtain⟨Gn,yW⟩: ∃b,b=([p 51,p 52,p 53].map (E .i64)).all (Ol 0 1000):=⟨_,O⟩;obtain⟨Gp,uc⟩:=En (Us (p 54) 1 1000);have e10:Ea (b10=((p 50==0&&Gn)&&Gp)):=J (by rw[yS.out,yW,uc];rfl);replace yW:=J yW;replace uc:=J uc
      have Gq:Ea (∀W,Below w1.heap.size w1 W-> ∀i v,([p 51,p 52,p 53].map (E .i64))[i]?=X v->W.cell? ⟨gp,51+i,Z⟩=X v):=J (fun W hW i v hi=>by
       match i,hi with
       |0,hi=>injection hi with hi;rw[<-hi];exact PC.out W hW 51 U U
       |1,hi=>injection hi with hi;rw[<-hi];exact PC.out W hW 52 U U
       |2,hi=>injection hi with hi;rw[<-hi];exact PC.out W hW 53 U U
       )
      by_cases h50:p 50=0
      case neg=>
       have t50:(p 50 !=0)=G:=by simp[h50]
       obtain rfl:b10=Y:=by rw[e10.out];simp[h50]
       go_wp2_with fail;refine Zy (Ph:=fun _ wq=>Below w1.heap.size w1 wq) (Rel:=Jr) (If:=fun w w'=>w=w') [kp gp 50,kp gp 50,kq (E I (p 50)),kq (Eb G),kq (Eb G),kq undef,kq undef,kq undef,kq undef,kq undef,kq (Eb G),kq (Eb G),kq undef,kq undef,kq undef,kq undef,kq undef,kq (Eb G),kq (Eb G)] [Y,Y,Y,Y,Y,Y,Y,Y,Y,Y,Y,Y,Y,Y,Y,Y,Y,Y,Y] O [] [(0,0),(0,0),(0,0),(0,0),(0,0),(0,0),(0,0),(0,0),(0,0),(0,0),(0,0),(0,0),(0,0),(0,0),(0,0),(0,0),(0,0),(0,0),(0,0)] Ec Ec Ec Ec Ec On Ec ?hPh ?h0 ?hstep ?hend;case hPh=> intro p_ w2 w3 h hr;exact bt h hr
       case h0=> exact bt BB.out (I1 W9)
       case hstep=>
        refine⟨?_,?_,?_,?_,?_,?_,?_,?_,?_,?_,?_,?_,?_,?_,?_,?_,?_,?_,?_,trivial⟩;all_goals intro xv wq p_ hlo hhi hp hd
        all_goals simp only[EB,Ic,Ig,IJ,IU]
        ·exact Eja
        ·exact EkJ
        ·exact EiP
        ·exact Eky
        ·exact Em8
        ·exact Ejk
        ·exact Ejk
        ·exact Ejk
        ·exact Ejk
        ·exact Ejk
        ·have d4:xv 4=Eb G:=hd.at 4 rfl;exact Emb
        ·have d10:xv 10=Eb G:=hd.at 10 rfl;exact Eml
        ·exact Eig
        ·exact Eig
        ·exact Eig
        ·exact Eig
        ·exact Eig
        ·exact EkQ
        ·exact Elv
       case hend=> exact EiG
      have t50:(p 50 !=0)=Y:=by simp[h50]
      obtain rfl:b10=(Gn&&Gp):=by rw[e10.out];simp[h50]
      clear e10 h50;cases Gn with
      |false=>
       go_wp2_with fail;refine Zy (Ph:=fun _ wq=>Below w1.heap.size w1 wq) (Rel:=Jr) (If:=fun w w'=>w=w') [kp gp 50,kp gp 50,kq (E I (p 50)),kq (Eb Y),kq (Eb Y),kp gp 50,kq (u (X ⟨gp,51,Z⟩) 3 3),.dep (Jp 0 1000) (fun v w w' h hr=>h.B hr) (fun v w w' h hr=>UP),kq (Eb Y),kq (Eb G),kq (Eb G),kq (Eb G),kq undef,kq undef,kq undef,kq undef,kq undef,kq (Eb G),kq (Eb G)] [Y,Y,Y,Y,Y,Y,Y,Y,Y,Y,Y,Y,Y,Y,Y,Y,Y,Y,Y] O [] [(0,0),(0,0),(0,0),(0,0),(0,0),(0,0),(0,0),(0,0),(0,0),(0,0),(0,0),(0,0),(0,0),(0,0),(0,0),(0,0),(0,0),(0,0),(0,0)] Ec Ec Ec Ec Ec On Ec ?hPh ?h0 ?hstep ?hend;case hPh=> intro p_ w2 w3 h hr;exact bt h hr
       case h0=> exact bt BB.out (I1 W9)
       case hstep=>
        refine⟨?_,?_,?_,?_,?_,?_,?_,?_,?_,?_,?_,?_,?_,?_,?_,?_,?_,?_,?_,trivial⟩;all_goals intro xv wq p_ hlo hhi hp hd
        all_goals simp only[EB,Ic,Ig,IJ,IU]
        ·exact Eja
        ·exact EkJ
        ·exact EiP
        ·exact Eky
        ·exact Ek1
        ·exact Eku
        ·exact Eju
        ·exact EiV
        ·have d4:xv 4=Eb Y:=hd.at 4 rfl;have d6:xv 6=u (X ⟨gp,51,Z⟩) 3 3:=hd.at 6 rfl;obtain⟨cap,e1,hok⟩:=Jp.ok (hd.at 7 rfl:Jp 0 1000 (xv 7) wq);refine IY (f:=62) (args:= #[u (X ⟨gp,51,Z⟩) 3 3,.func (.func 80) #[] cap]) (J6 O O (congrArg X d4)) Gr ?_;exact(gd _ cap ([p 51,p 52,p 53].map (E .i64)) (Ol 0 1000) gp 51 3 3 wq O U (hok _ (jY O)) (Gq.out wq hp)).mono fun e w2 ⟨he,hb⟩=>⟨Eb Y,he.trans Gt,hb,O⟩
        ·have d4:xv 4=Eb Y:=hd.at 4 rfl;have d8:xv 8=Eb Y:=hd.at 8 rfl;exact El4
        ·have d4:xv 4=Eb Y:=hd.at 4 rfl;have d9:xv 9=Eb G:=hd.at 9 rfl;exact Ep Gu O
        ·have d10:xv 10=Eb G:=hd.at 10 rfl;exact Eml
        ·exact Eig
        ·exact Eig
        ·exact Eig
        ·exact Eig
        ·exact Eig
        ·exact EkQ
        ·exact Elv
       case hend=> exact EiG
      |true=>
      cases Gp with
      |false=>
       go_wp2_with fail;refine Zy (Ph:=fun _ wq=>Below w1.heap.size w1 wq) (Rel:=Jr) (If:=fun w w'=>w=w') [kp gp 50,kp gp 50,kq (E I (p 50)),kq (Eb Y),kq (Eb Y),kp gp 50,kq (u (X ⟨gp,51,Z⟩) 3 3),.dep (Jp 0 1000) (fun v w w' h hr=>h.B hr) (fun v w w' h hr=>UP),kq (Eb G),kq (Eb Y),kq (Eb Y),kq (Eb Y),.dep (Jp 1 1000) (fun v w w' h hr=>h.B hr) (fun v w w' h hr=>UP),kp gp 54,kq (E I (p 54)),kq (Eb Y),kq (Eb G),kq (Eb G),kq (Eb G)] [Y,Y,Y,Y,Y,Y,Y,Y,Y,Y,Y,Y,Y,Y,Y,Y,Y,Y,Y] O [] [(0,0),(0,0),(0,0),(0,0),(0,0),(0,0),(0,0),(0,0),(0,0),(0,0),(0,0),(0,0),(0,0),(0,0),(0,0),(0,0),(0,0),(0,0),(0,0)] Ec Ec Ec Ec Ec On Ec ?hPh ?h0 ?hstep ?hend;case hPh=> intro p_ w2 w3 h hr;exact bt h hr
       case h0=> exact bt BB.out (I1 W9)
       case hstep=>
        refine⟨?_,?_,?_,?_,?_,?_,?_,?_,?_,?_,?_,?_,?_,?_,?_,?_,?_,?_,?_,trivial⟩;all_goals intro xv wq p_ hlo hhi hp hd
        all_goals simp only[EB,Ic,Ig,IJ,IU]
        ·exact Eja
        ·exact EkJ
        ·exact EiP
        ·exact Eky
        ·exact Ek1
        ·exact Eku
        ·exact Eju
        ·exact EiV
        ·exact EiD
        ·exact ElO
        ·exact El0
        ·have d10:xv 10=Eb Y:=hd.at 10 rfl;exact Eml
        ·exact EmR
        ·exact ElV
        ·exact EjG
        ·have d11:xv 11=Eb Y:=hd.at 11 rfl;have d14:xv 14=E I (p 54):=hd.at 14 rfl;obtain⟨wa,wb,e1,ca,cb⟩:Jp 1 1000 (xv 12) wq:=hd.at 12 rfl;refine IY (f:=80) (args:= #[E I (p 54),V (X ⟨wa,0,Z⟩),V (X ⟨wb,0,Z⟩)]) (J6 O O (congrArg X d11)) (by simp[go_sem,e1,d14]) ?_;exact(fE (p 54) 1 1000 wa wb wq ca cb).mono fun e w2 ⟨he,hb⟩=>⟨Eb Y,he.trans (by rw[uc.out]),j4,O⟩
        ·have d11:xv 11=Eb Y:=hd.at 11 rfl;have d15:xv 15=Eb Y:=hd.at 15 rfl;exact Ir EF (J6 O O (congrArg X d11)) sy O
        ·have d11:xv 11=Eb Y:=hd.at 11 rfl;have d16:xv 16=Eb G:=hd.at 16 rfl;exact Ep (by simp[go_sem,d11,d16]) O
        ·exact Elv
       case hend=> exact EiG
      |true=>
      go_wp2_with fail;refine Zy (Ph:=fun _ wq=>Below w1.heap.size w1 wq) (Rel:=Jr) (If:=fun w w'=>w=w') [kp gp 50,kp gp 50,kq (E I (p 50)),kq (Eb Y),kq (Eb Y),kp gp 50,kq (u (X ⟨gp,51,Z⟩) 3 3),.dep (Jp 0 1000) (fun v w w' h hr=>h.B hr) (fun v w w' h hr=>UP),kq (Eb G),kq (Eb Y),kq (Eb Y),kq (Eb Y),.dep (Jp 1 1000) (fun v w w' h hr=>h.B hr) (fun v w w' h hr=>UP),kp gp 54,kq (E I (p 54)),kq (Eb G),kq (Eb Y),kq (Eb Y),kq (Eb Y)] [Y,Y,Y,Y,Y,Y,Y,Y,Y,Y,Y,Y,Y,Y,Y,Y,Y,Y,Y] O [] [(0,0),(0,0),(0,0),(0,0),(0,0),(0,0),(0,0),(0,0),(0,0),(0,0),(0,0),(0,0),(0,0),(0,0),(0,0),(0,0),(0,0),(0,0),(0,0)] Ec Ec Ec Ec Ec On Ec ?hPh ?h0 ?hstep ?hend;case hPh=> intro p_ w2 w3 h hr;exact bt h hr
      case h0=> exact bt BB.out (I1 W9)
      case hstep=>
       refine⟨?_,?_,?_,?_,?_,?_,?_,?_,?_,?_,?_,?_,?_,?_,?_,?_,?_,?_,?_,trivial⟩;all_goals intro xv wq p_ hlo hhi hp hd
       all_goals simp only[EB,Ic,Ig,IJ,IU]
       ·exact Eja
       ·exact EkJ
       ·exact EiP
       ·exact Eky
       ·exact Ek1
       ·exact Eku
       ·exact Eju
       ·exact EiV
       ·exact EiD
       ·exact ElO
       ·exact El0
       ·have d10:xv 10=Eb Y:=hd.at 10 rfl;exact Eml
       ·exact EmR
       ·exact ElV
       ·exact EjG
       ·have d11:xv 11=Eb Y:=hd.at 11 rfl;have d14:xv 14=E I (p 54):=hd.at 14 rfl;obtain⟨wa,wb,e1,ca,cb⟩:Jp 1 1000 (xv 12) wq:=hd.at 12 rfl;refine IY (f:=80) (args:= #[E I (p 54),V (X ⟨wa,0,Z⟩),V (X ⟨wb,0,Z⟩)]) (J6 O O (congrArg X d11)) (by simp[go_sem,e1,d14]) ?_;exact(fE (p 54) 1 1000 wa wb wq ca cb).mono fun e w2 ⟨he,hb⟩=>⟨Eb G,he.trans (by rw[uc.out]),j4,O⟩
       ·have d11:xv 11=Eb Y:=hd.at 11 rfl;have d15:xv 15=Eb G:=hd.at 15 rfl;exact Ir EF (J6 O O (congrArg X d11)) sy O
       ·have d11:xv 11=Eb Y:=hd.at 11 rfl;have d16:xv 16=Eb Y:=hd.at 16 rfl;exact Ep (by simp[go_sem,d11,d16]) O
       ·have d17:xv 17=Eb Y:=hd.at 17 rfl;exact Ep jy O
      case hend=>
       intro xv y_ hp hd;simp only[EB,Ic,Ig,IJ,IU];have a17:xv 17=Eb Y:=hd 17 EZ;have fI:xv 18=Eb Y:=hd 18 EZ;rw[a17,fI];clear hd a17 fI;replace BB:=J hp;clear hp;have Vb:Ea (b11=Us (p 55) 0 65535):=J yT.out;go_wp2_with fail;refine Zy (Ph:=fun _ wq=>Below w1.heap.size w1 wq) (Rel:=Jr) (If:=fun w w'=>w=w') [.dep (Jp 0 65535) (fun v w w' h hr=>h.B hr) (fun v w w' h hr=>UP),kp gp 55,kq (E I (p 55)),kq (Eb b11),kq (Eb (!b11)),kq (Eb (!b11))] [Y,Y,Y,Y,Y,Y] O [] [(0,0),(0,0),(0,0),(0,0),(0,0),(0,0)] Ec Ec Ec Ec Ec On Ec ?hPh ?h0 ?hstep ?hend;case hPh=> intro p_ w2 w3 h hr;exact bt h hr
       case h0=> exact bt BB.out (I1 y_)
       case hstep=>
        refine⟨?_,?_,?_,?_,?_,?_,trivial⟩;all_goals intro xv wq p_ hlo hhi hp hd
        all_goals simp only[EB,Ic,Ig,IJ,IU]
        ·refine IY (f:=66) (args:= #[E I 0,E I 65535]) (Ei O) Ew ?_;exact(X3 0 65535 wq).mono fun e w2 ⟨v,he,hv,hb⟩=>⟨v,he,hb,hv⟩
        ·exact Eja
        ·have d1:xv 1=V (X ⟨gp,55,Z⟩):=hd.at 1 rfl;have cc:wq.cell? ⟨gp,55,Z⟩=X (E I (p 55)):=(PC.out _ hp 55 U U);exact Ep iG O
        ·have d2:xv 2=E I (p 55):=hd.at 2 rfl;obtain⟨wa,wb,e1,ca,cb⟩:Jp 0 65535 (xv 0) wq:=hd.at 0 rfl;refine IY (f:=80) (args:= #[E I (p 55),V (X ⟨wa,0,Z⟩),V (X ⟨wb,0,Z⟩)]) (Ei O) yV ?_;exact(fE (p 55) 0 65535 wa wb wq ca cb).mono fun e w2 ⟨he,hb⟩=>⟨Eb b11,he.trans (by rw[Vb.out]),j4,O⟩
        ·have d3:xv 3=Eb b11:=hd.at 3 rfl;exact Elz
        ·have d4:xv 4=Eb (!b11):=hd.at 4 rfl;exact Emb
       case hend=>
        intro xv W11 hp hd;simp only[EB,Ic,Ig,IJ,IU];have a4:xv 4=Eb (!b11):=hd 4 EZ;have a5:xv 5=Eb (!b11):=hd 5 EZ;rw[a4,a5];clear hd a4 a5;replace BB:=J hp;clear hp;clear Vb;cases b11 with
        |false=> go_wp2_with fail;go_ret;exact⟨X4,bt B1.out BB.out⟩
        |true=>
        go_wp2_with fail;exact EjM
def c0(p:Nat->Int):EA:=⟨⟨4,p 55,-1,0,0,0,0,Y⟩,[],dp (p 42) (p 49),0,0,p 39,AJ,⟨1,0,0,0,0,0,0,0,0,AJ⟩⟩
def mW:Dr:=⟨0,Y,[0,0,0,0,0,0,0,0]⟩
theorem Gv:mW.ok:=⟨EZ,O,EZ⟩
def core0(g:Nat->M)(p:Nat->Int)(gq gt:Nat):Array M:=(ZJ (EH 56 g).toList (c0 p) gq gt mW mW mW (Er 32)).flatten.toArray
theorem EdR(g:Nat->M)(p:Nat->Int)(gq gt:Nat):Tryz.prog.built 120 [(0,EU (EH 56 g)),(1,EU #[E I 4,E I (p 55),E I (-1),E I 0,E I 0,E I 0,E I 0,Eb Y]),(2,V (X ⟨gq,0,Z⟩)),(4,V (X ⟨gt,0,Z⟩)),(7,E I (p 39)),(8,EU #[E I 2,E I 4,E I 0]),(9,EU #[E I 1,E I 0,E I 0,E I 0,E I 0,E I 0,E I 0,E I 0,E I 0,E I 2,E I 4,E I 0]),(10,EU (Ej (Er 32)))]=X (core0 g p gq gt):=Ec
theorem zE{cap:Nat}{ys:List Int}(h:Own W lo A cap ys)(hn:ys.length=n)(h1:1<=n)(h64:n<=64):dw W lo (u A n cap):=by obtain⟨g,cur,e,hg,hk,ht,hc⟩:=Pf h U;have:=FY h;subst hn;exact⟨g,_,cap,cur,ys,by rw[e],hg,O,h1,h64,hc,this.2,hk,ht,h.2⟩
theorem EdS{b1 b2 b3 b4 b5 b6 b7 b8 b9 b10 b11:Bool}(h:Gc b1 b2 b3 b4 b5 b6 b7 b8 b9 b10 b11=0):b1=G/\b2=G/\b3=G/\b4=G/\b5=G/\b6=G/\b7=G/\b8=G/\b9=G/\b10=G/\b11=G:=by revert h;unfold Gc;cases b1<;>cases b2<;>cases b3<;>cases b4<;>cases b5<;>cases b6<;>cases b7<;>cases b8<;>cases b9<;>cases b10<;>cases b11<;>simp
theorem cM{x lo hi:Int}:Us x lo hi=G↔lo<=x/\x<=hi:=by unfold Us;simp
theorem EdT{p:Nat->Int}{kl:Nat->Nat}(h:Ut p kl=0):(∀i,9<=i->i<56->(Xk i:Int)<=p i/\p i<=Ub i/\(9<i->i<13->p i%2=0))/\ ∀i,5<=i->i<=8->1<=kl i/\kl i<=64:=by
 obtain⟨h1,h2,h3,h4,h5,h6,h7,h8,h9,h10,h11⟩:=EdS h;refine⟨fun i hi1 hi2=> ?_,fun i hi1 hi2=> ?_⟩;·simp only[uE,Bool.and_eq_true,beq_iff_eq,List.map_cons,List.map_nil,List.all_cons,List.all_nil,mT,cM] at h3;simp only[uI,cL,List.all_cons,List.all_nil,pw,Ol,cM,Bool.and_eq_true,Nat.reduceMul,Nat.reduceAdd,Nat.zero_mul,Nat.add_zero] at h4;simp only[uJ,Bool.and_eq_true,List.map_cons,List.map_nil,List.all_cons,List.all_nil,Ol,cM] at h5;simp only[uO,Bool.and_eq_true,List.map_cons,List.map_nil,List.all_cons,List.all_nil,Ol,cM] at h6;simp only[uU,Bool.and_eq_true,List.map_cons,List.map_nil,List.all_cons,List.all_nil,Ol,cM] at h7;simp only[uX,Bool.and_eq_true,cM] at h8;simp only[uZ,Bool.and_eq_true,List.map_cons,List.map_nil,List.all_cons,List.all_nil,Ol,cM] at h9;simp only[ua,Bool.and_eq_true,beq_iff_eq,List.map_cons,List.map_nil,List.all_cons,List.all_nil,Ol,cM] at h10;simp only[yP,cM] at h11;have hc:i=9\/i=10\/i=11\/i=12\/i=13\/i=14\/i=15\/i=16\/i=17\/i=18\/i=19\/i=20\/i=21\/i=22\/i=23\/i=24\/i=25\/i=26\/i=27\/i=28\/i=29\/i=30\/i=31\/i=32\/i=33\/i=34\/i=35\/i=36\/i=37\/i=38\/i=39\/i=40\/i=41\/i=42\/i=43\/i=44\/i=45\/i=46\/i=47\/i=48\/i=49\/i=50\/i=51\/i=52\/i=53\/i=54\/i=55:=U;rcases hc with rfl|rfl|rfl|rfl|rfl|rfl|rfl|rfl|rfl|rfl|rfl|rfl|rfl|rfl|rfl|rfl|rfl|rfl|rfl|rfl|rfl|rfl|rfl|rfl|rfl|rfl|rfl|rfl|rfl|rfl|rfl|rfl|rfl|rfl|rfl|rfl|rfl|rfl|rfl|rfl|rfl|rfl|rfl|rfl|rfl|rfl|rfl<;>simp[Xk,Ub]<;>omega
 ·simp only[px,Bool.and_eq_true,cM] at h2;have hc:i=5\/i=6\/i=7\/i=8:=U;rcases hc with rfl|rfl|rfl|rfl<;>omega
theorem EdV:ID EJ 24 3:=⟨⟨_,Tryz.underlying24,O⟩,Ec⟩
theorem EdW(a b c:M)(W:H):(Instr.index 24 (EU #[a,b,c]) (E I 0)).run EJ W= .ok a W:=Ec
theorem EdY(a b c:M)(W:H):(Instr.index 24 (EU #[a,b,c]) (E I 1)).run EJ W= .ok b W:=Ec
theorem Ed0(a b c:M)(W:H):(Instr.index 24 (EU #[a,b,c]) (E I 2)).run EJ W= .ok c W:=Ec
def ud(w:H)(g:Nat->M)(kl:Nat->Nat):Prop:= ∀i,5<=i->i<=8-> ∃(A:Option Et) (cap:Nat) (ys:List Int),g i=u A (kl i) cap/\ys.length=kl i/\Row w A ys
theorem uf(h:JZ W lo gq L m)(hb:Below W.heap.size W W'):JZ W' lo gq L m:=by obtain⟨v,came,k,r2,r3⟩:=h;exact⟨v,came,k.B hb,r2,EW r3 fun _ _ hk=>hk.B hb⟩
theorem zI{S:Ez}(h:JZ W lo gq L m)(ho:EG gp W W')(K:D W gp cs S)(h1:152≠S)(h2:171≠S):JZ W' lo gq L m:=by obtain⟨v,came,k,r2,r3⟩:=h;exact⟨v,came,ho.Em k (E7 k K h1),r2,EW r3 fun _ _ hk=>ho.Em hk (E7 hk K h2)⟩
theorem Ed1(pv:Array M)(e5:Int)(w:H)(hs:pv.size=56)(h5:pv[55]?=X (E I e5)): Ef EJ 42 #[EU pv] w fun e w'=>e=Eg (EU #[E I 4,E I e5,E I (-1),E I 0,E I 0,E I 0,E I 0,Eb Y])/\Below w.heap.size w w':=by
 have K0:=J<|D.new w pv 28;have b2:=JF w (EI pv 28) (EI #[E I 0,E I 0,E I 0,E I 0,E I 0,E I 0,E I 0,Eb Y] 109);have c1:((w.alloc (EI pv 28)).alloc (EI #[E I 0,E I 0,E I 0,E I 0,E I 0,E I 0,E I 0,Eb Y] 109)).cell? ⟨w.heap.size,55,Z⟩=X (E I e5):=by rw[(D.B K0.out (Eo _ _)).cell,h5]
 have KT:Ea (D ((w.alloc (EI pv 28)).alloc (EI #[E I 0,E I 0,E I 0,E I 0,E I 0,E I 0,E I 0,Eb Y] 109)) (w.heap.size+1) #[E I 0,E I 0,E I 0,E I 0,E I 0,E I 0,E I 0,Eb Y] 109):=J (by have:=D.new (w.alloc (EI pv 28)) #[E I 0,E I 0,E I 0,E I 0,E I 0,E I 0,E I 0,Eb Y] 109;simpa using this);have BB:=J b2;clear b2 hs h5 K0;go_enter Tryz.func42,Tryz.ntmps42;go_wp2_with (with_reducible refine I2 4 ?_);refine Ed.in ?_;generalize (w.alloc (EI pv 28)).alloc (EI #[E I 0,E I 0,E I 0,E I 0,E I 0,E I 0,E I 0,Eb Y] 109)=w1 at*;go_wp2_with fail;have TP:Ef EJ 67 #[EU #[E I 0,E I 0,E I 0,E I 0,E I 0,E I 0,E I 0,Eb Y],E I 4,E I e5] w1 fun x w'=>x=Eg (EL.pass ⟨0,0,0,0,0,0,0,Y⟩ 4 e5).a/\Below w1.heap.size w1 w':=Ad ⟨0,0,0,0,0,0,0,Y⟩ 4 e5 w1;(with_reducible refine TP.mono ?_);rintro e w2 ⟨rfl,bb⟩;replace KT:=EN KT bb;replace BB:=ET BB bb;clear bb c1;obtain⟨tv,IE⟩: ∃tv,(EL.pass ⟨0,0,0,0,0,0,0,Y⟩ 4 e5).a=EU tv/\tv= #[E I 4,E I e5,E I (-1),E I 0,E I 0,E I 0,E I 0,Eb Y]:=⟨_,O,O⟩;rw[IE.1];have TS:Ea (tv.size=8):=J (by rw[IE.2];rfl);have TO:Ea (tv.all (·.oneCell')=G):=J (by rw[IE.2];simp[Value.oneCell']);have JM:=J IE.2;clear IE;go_wp2_with (with_reducible refine wS (cs:=tv) EP KT ?_ (hn:=TS.out) (h1:=TO.out));refine EQ (Jb EP O _ _ (w.heap.size+1) tv O (KT.out.setRow tv) TS.out) O ?_;rw[JM.out];exact⟨O,E2 BB.out U _⟩
theorem Gw:TM 0 0:=by unfold TM;omega
def Vc(g:Nat->M)(p:Nat->Int)(kl:Nat->Nat)(w:H)(e:Ending)(w':H):Prop:=
 (Ut p kl≠0/\e=Eg (Es #[V Z,E I (Ut p kl)]))\/(Ut p kl=0/\ ∃(g2:Nat->M) (gc gq gt:Nat),e=Eg (Es #[V (X ⟨gc,0,Z⟩),E I 0])/\Jz w.heap.size g2 gc gq gt (c0 p) w'/\ ∀i,i<56->i<5\/8<i->g2 i=E I (p i))
structure j5(W:H)(lo gp k:Nat)(g g2:Nat->M):Prop where
 Em:D W gp (EH 56 g2) 28
 num: ∀i,i<56->i<5\/8<i->g2 i=g i
 old: ∀i,5+k<=i->i<=8->g2 i=g i
 new: ∀i,5<=i->i<5+k->dw W lo (g2 i)
theorem j5.B(h:j5 W lo gp k g g2)(hb:Below W.heap.size W W'):j5 W' lo gp k g g2:=
 ⟨h.Em.B hb,h.num,h.old,fun i h1 h2=>(h.new i h1 h2).Em fun _ _ hk=>hk.B hb⟩
theorem j5.set(h:j5 W lo gp k g g2)(hk:k<4)(hv:dw W lo v):j5 (W.setCell ⟨gp,5+k,Z⟩ v) lo gp (k+1) g (UU g2 (5+k) v):=by
 have ho:=OH (g:=gp) (W:=W) (5+k) v;have hb: ∀Y3,dw W lo Y3->dw (W.setCell ⟨gp,5+k,Z⟩ v) lo Y3:=fun Y3 hu=>hu.Em fun _ _ hk=>ho.Em hk (E7 hk h.Em EZ);refine⟨?_,fun i h1 h2=> ?_,fun i h1 h2=> ?_,fun i h1 h2=> ?_⟩;·rw[<-vJ];exact h.Em.set _ _
 ·rw[kB _ _ _ _ U];exact h.num i h1 h2
 ·rw[kB _ _ _ _ U];exact h.old i U h2
 ·by_cases hi:i=5+k;·subst hi;rw[Ay];exact hb _ hv
  ·rw[kB _ _ _ _ hi];exact hb _ (h.new i h1 U)
theorem Ed2(g:Nat->M)(p:Nat->Int)(kl:Nat->Nat)(w:H)(hv:t_ g p kl)(hk:ud w g kl)(hR:Jc w)(hC:Uz w)(h2:2<=w.heap.size): Ef EJ 23 #[EU (EH 56 g)] w fun e w'=>Vc g p kl w e w'/\Below w.heap.size w w':=by
 have PV:=J hv;have KI:=J hk;have RC:=J<|And.intro hR hC;have K0:=J<|D.new w (EH 56 g) 28;have pA:=Eo w (EI (EH 56 g) 28);obtain⟨ck,hck⟩:=En (Ut p kl);have CK:Ea (∀W,Ef EJ 39 #[EU (EH 56 g)] W fun e w'=>e=Eg (E I ck)/\Below W.heap.size W w'):=J (fun W=>by rw[hck];exact EdP g p kl W hv);have mY:=J hck;clear hv hk hR hC hck;obtain⟨pv,hpv⟩:=En (EH 56 g);rw[<-hpv] at K0 pA CK⊢;have PS:Ea (pv.size=56):=J (by rw[hpv];simp);have Vd:=J hpv;clear hpv;go_enter Tryz.func23,Tryz.ntmps23;go_wp2_with (with_reducible refine I2 9 ?_);refine Ed.in ?_;obtain⟨gp,O8⟩:=En w.heap.size;rw[<-O8] at K0⊢;have HGP:=J O8;have KP:=J K0.out;have BB:=J pA;clear K0 pA O8;generalize w.alloc (EI pv 28)=w1 at*;go_wp2_with (with_reducible refine wL UZ KP ?_ (hn:=PS.out));(with_reducible refine(CK.out _).mono ?_);rintro e w2 ⟨rfl,bb⟩;replace BB:=ET BB bb;replace KP:=EN KP bb;clear bb CK PS;by_cases hc:ck=0
 case neg=>
  have t1:(ck !=0)=G:=by simp[hc]
  go_wp2_with fail;go_ret2;refine⟨Or.inl ⟨?_,?_⟩,BB.out⟩;·rw[<-mY.out];exact hc
  ·rw[<-mY.out];rfl
 subst hc;have OK:=J<|EdT mY.out.symm;rw[Vd.out] at KP;clear Vd;have c48:w2.cell? ⟨gp,48,Z⟩=X (E I (p 48)):=by rw[D.cell KP.out 48,bI,if_pos U,(PV.out.int 48 U U).1]
 have h48:=OK.out.1 48 U U;simp only[Xk,Ub] at h48;go_wp2_with fail;(with_reducible refine(EZS w.heap.size (p 48) _ (by simp at h48;omega) BB.out.size).mono ?_);rintro e w3 ⟨⟨gq,rfl,Vf,qb⟩,bb⟩;have QB:=J qb;have HGQ:Ea (w.heap.size<=gq):=J<|Ey BB.out.size Vf;replace BB:=ET BB bb;replace KP:=EN KP bb;clear bb qb Vf c48 h48;obtain⟨A5,d5,ys5,e5,l5,r5⟩:=KI.out 5 U U;obtain⟨A6,d6,ys6,e6,l6,r6⟩:=KI.out 6 U U;obtain⟨A7,d7,ys7,e7,l7,r7⟩:=KI.out 7 U U;obtain⟨A8,d8,Lu,e8,l8,r8⟩:=KI.out 8 U U;have Vg:Ea ((EH 56 g).extract 5 (5+3)= #[u A5 (kl 5) d5,u A6 (kl 6) d6,u A7 (kl 7) d7]):=J (by have e:(EH 56 g).extract 5 (5+3)= #[g 5,g 6,g 7]:=dU;rw[e,e5,e6,e7]);have E8:=J e8;have R5:=J r5;have R6:=J r6;have R7:=J r7;have R8:=J r8;have CB:Ea (j5 w3 w.heap.size gp 0 g g):=J ⟨KP.out,fun _ _ _=>rfl,fun _ _ _=>rfl,fun i h1 h2=>U⟩;clear e5 e6 e7 e8 r5 r6 r7 r8;have k5:=OK.out.2 5 U U;have k6:=OK.out.2 6 U U;have k7:=OK.out.2 7 U U;have k8:=OK.out.2 8 U U;go_wp2_with (with_reducible refine wM (off:=5) (cs:= #[u A5 (kl 5) d5,u A6 (kl 6) d6,u A7 (kl 7) d7]) EdV KP ?_ (he:=Vg.out));clear Vg KP;go_loopw[25] (fun y wr=> ∃(k:Nat) (g2:Nat->M),k<=3/\y=E I k/\j5 wr w.heap.size gp k g g2/\JZ wr w.heap.size gq [] (p 48)/\Below w.heap.size w wr) (fun y _=>3-(intOf y).toNat);case atStart=>exact⟨0,g,U,O,CB.out,QB.out,BB.out⟩
 case round=>
  obtain⟨k,g2,hk,rfl,cb,qb,bb⟩:=hrel;replace CB:=J cb;replace QB:=J qb;replace BB:=J bb;clear cb qb bb;have hkk:k=0\/k=1\/k=2\/k=3:=U;rcases hkk with rfl|rfl|rfl|rfl
  ·have IX:=EdW (u A5 (kl 5) d5) (u A6 (kl 6) d6) (u A7 (kl 7) d7);simp only[show((0:Nat):Int)=0 from rfl];go_wp2_with fail;(with_reducible refine(yn A5 ys5 (kl 5) d5 _ l5 (Iq R5.out BB.out) U).mono ?_);rintro e w4 ⟨⟨A',c',rfl,ow⟩,bb⟩;have KY:=J<|zE (X9 ow (show w.heap.size<=wr.heap.size from BB.out.size)) l5 k5.1 k5.2;replace CB:=J<|CB.out.B bb;replace QB:=J<|uf QB.out bb;replace BB:=ET BB bb;clear ow bb IX;have cs:w4.cell? ⟨gp,5,Z⟩=X (g2 5):=by rw[D.cell CB.out.Em 5,bI,if_pos U]
   have ff:w4.frozen? ⟨gp,5,Z⟩=Y:=D.Jw CB.out.Em 5;have S4:=J<|CB.out.set (k:=0) U KY.out;have Q4:=J<|zI QB.out (OH (g:=gp) (W:=w4) 5 (u A' (kl 5) c')) CB.out.Em EZ EZ;have B4:=J<|BB.out.setCell (p:=⟨gp,5,Z⟩) zJ (u A' (kl 5) c');go_wp2_with fail;exact⟨⟨1,_,U,Ek,S4.out,Q4.out,B4.out⟩,Xl⟩
  ·have IX:=EdY (u A5 (kl 5) d5) (u A6 (kl 6) d6) (u A7 (kl 7) d7);simp only[show((1:Nat):Int)=1 from rfl];go_wp2_with fail;(with_reducible refine(yn A6 ys6 (kl 6) d6 _ l6 (Iq R6.out BB.out) U).mono ?_);rintro e w4 ⟨⟨A',c',rfl,ow⟩,bb⟩;have KY:=J<|zE (X9 ow (show w.heap.size<=wr.heap.size from BB.out.size)) l6 k6.1 k6.2;replace CB:=J<|CB.out.B bb;replace QB:=J<|uf QB.out bb;replace BB:=ET BB bb;clear ow bb IX;have cs:w4.cell? ⟨gp,6,Z⟩=X (g2 6):=by rw[D.cell CB.out.Em 6,bI,if_pos U]
   have ff:w4.frozen? ⟨gp,6,Z⟩=Y:=D.Jw CB.out.Em 6;have S4:=J<|CB.out.set (k:=1) U KY.out;have Q4:=J<|zI QB.out (OH (g:=gp) (W:=w4) 6 (u A' (kl 6) c')) CB.out.Em EZ EZ;have B4:=J<|BB.out.setCell (p:=⟨gp,6,Z⟩) zJ (u A' (kl 6) c');go_wp2_with fail;exact⟨⟨2,_,U,Ek,S4.out,Q4.out,B4.out⟩,Xl⟩
  ·have IX:=Ed0 (u A5 (kl 5) d5) (u A6 (kl 6) d6) (u A7 (kl 7) d7);simp only[show((2:Nat):Int)=2 from rfl];go_wp2_with fail;(with_reducible refine(yn A7 ys7 (kl 7) d7 _ l7 (Iq R7.out BB.out) U).mono ?_);rintro e w4 ⟨⟨A',c',rfl,ow⟩,bb⟩;have KY:=J<|zE (X9 ow (show w.heap.size<=wr.heap.size from BB.out.size)) l7 k7.1 k7.2;replace CB:=J<|CB.out.B bb;replace QB:=J<|uf QB.out bb;replace BB:=ET BB bb;clear ow bb IX;have cs:w4.cell? ⟨gp,7,Z⟩=X (g2 7):=by rw[D.cell CB.out.Em 7,bI,if_pos U]
   have ff:w4.frozen? ⟨gp,7,Z⟩=Y:=D.Jw CB.out.Em 7;have S4:=J<|CB.out.set (k:=2) U KY.out;have Q4:=J<|zI QB.out (OH (g:=gp) (W:=w4) 7 (u A' (kl 7) c')) CB.out.Em EZ EZ;have B4:=J<|BB.out.setCell (p:=⟨gp,7,Z⟩) zJ (u A' (kl 7) c');go_wp2_with fail;exact⟨⟨3,_,U,Ek,S4.out,Q4.out,B4.out⟩,Xl⟩
  ·simp only[show((3:Nat):Int)=3 from rfl];have c8:wr.cell? ⟨gp,8,Z⟩=X (u A8 (kl 8) d8):=by rw[D.cell CB.out.Em 8,bI,if_pos U,CB.out.old 8 U U,E8.out]
   go_wp2_with fail;(with_reducible refine(yn A8 Lu (kl 8) d8 _ l8 (Iq R8.out BB.out) U).mono ?_);rintro e w4 ⟨⟨A',c',rfl,ow⟩,bb⟩;have KY:=J<|zE (X9 ow (show w.heap.size<=wr.heap.size from BB.out.size)) l8 k8.1 k8.2;replace CB:=J<|CB.out.B bb;replace QB:=J<|uf QB.out bb;replace BB:=ET BB bb;clear ow bb c8;have cs:w4.cell? ⟨gp,8,Z⟩=X (g2 8):=by rw[D.cell CB.out.Em 8,bI,if_pos U]
   have ff:w4.frozen? ⟨gp,8,Z⟩=Y:=D.Jw CB.out.Em 8;have S4:=J<|CB.out.set (k:=3) U KY.out;have Q4:=J<|zI QB.out (OH (g:=gp) (W:=w4) 8 (u A' (kl 8) c')) CB.out.Em EZ EZ;have B4:=J<|BB.out.setCell (p:=⟨gp,8,Z⟩) zJ (u A' (kl 8) c');go_wp2_with fail;obtain⟨g3,hg3⟩: ∃g3,g3=UU g2 (5+3) (u A' (kl 8) c'):=⟨_,O⟩;rw[<-hg3] at S4;have K3:=J S4.out.Em;clear cs ff CB QB BB KY hg3;generalize w4.setCell ⟨gp,8,Z⟩ (u A' (kl 8) c')=w5 at*;have G3: ∀i,i<56->i<5\/8<i->g3 i=E I (p i):=fun i h1 h2=>(S4.out.num i h1 h2).trans (PV.out.int i h1 h2).1;have GN:=J G3;obtain⟨bD,ug⟩:=En (EH 56 g3);rw[<-ug] at K3;have uh:Ea (bD.size=56):=J (by rw[ug];simp);have P3: ∀i,i<56->i<5\/8<i->bD[i]?=X (E I (p i)):=fun i h1 h2=>by rw[ug,bI,if_pos h1,G3 i h1 h2]
   obtain⟨m5,pU⟩:=En (p 39);have Vh:Ea (∀W,Below w5.heap.size w5 W->W.cell? ⟨gp,39,Z⟩=X (E I m5)):=J (fun W hW=>by rw[D.cell (D.B K3.out hW) 39,P3 39 U U,pU]);obtain⟨zO,htk⟩:=En (#[E I 4,E I (p 55),E I (-1),E I 0,E I 0,E I 0,E I 0,Eb Y]:Array M);have TN:Ea (∀W,Ef EJ 42 #[EU bD] W fun e w'=>e=Eg (EU zO)/\Below W.heap.size W w'):=J (fun W=>by rw[htk];exact Ed1 bD (p 55) W uh.out (P3 55 U U));obtain⟨T0,hT0⟩:=En (dp (p 42) (p 49));obtain⟨n0,hn0⟩:=En w5.heap.size;have U0:=J hn0;have TT:Ea (∀W,Below w5.heap.size w5 W->Ef EJ 43 #[EU bD] W fun e w'=> ∃g,n0<=g/\e=Eg (V (X ⟨g,0,Z⟩))/\EV w' g T0/\Below W.heap.size W w'):=J (fun W hW=>by rw[hT0];refine(EOM bD (p 42) (p 49) W uh.out (P3 42 U U) (P3 49 U U)).mono ?_;rintro e w' ⟨g,h1,h2,h3,h4⟩;exact⟨g,Ey (Ey (Nat.le_of_eq hn0) hW.size) h1,h2,h3,h4⟩);obtain⟨zh,Gx⟩:=En (Ej (Er 32));have Vi:Ea (∀W,Ef EJ 45 #[u Z 0 0] W fun e w'=>e=Eg (EU zh)/\Below W.heap.size W w'):=J (fun W=>by rw[Gx];exact of_nil W);have Vj:Ea (Tryz.prog.built 50 [(0,E I 1),(3,EU #[E I 2,E I 4,E I 0])]=X #[E I 1,E I 0,E I 0,E I 0,E I 0,E I 0,E I 0,E I 0,E I 0,E I 2,E I 4,E I 0]):=J Ec;obtain⟨cv,hcv⟩:=En (core0 g3 p gq);have BC:Ea (∀gt:Nat,Tryz.prog.built 120 [(0,EU bD),(1,EU zO),(2,V (X ⟨gq,0,Z⟩)),(4,V (X ⟨gt,0,Z⟩)),(7,E I m5),(8,EU #[E I 2,E I 4,E I 0]),(9,EU #[E I 1,E I 0,E I 0,E I 0,E I 0,E I 0,E I 0,E I 0,E I 0,E I 2,E I 4,E I 0]),(10,EU zh)]=X (cv gt)):=J (fun gt=>by rw[ug,htk,pU,Gx,hcv];exact EdR g3 p gq gt);have Gy:=J hcv;have HT0:=J hT0;clear G3 ug P3 pU htk hT0 hn0 Gx hcv;refine Zy (Ph:=fun _ wq=>Below w5.heap.size w5 wq) (Rel:=Jr) (If:=fun w w'=>w=w') [kq (EU bD),kq (EU bD),kq (EU zO),kp gq 0,kq (EU bD),.dep (fun v w=> ∃gt:Nat,v=V (X ⟨gt,0,Z⟩)/\n0<=gt/\EV w gt T0) (fun v w w' h hr=>Vk) (fun v w w' h hr=>UP),kp gp 39,kq (E I m5),kq (EU #[E I 2,E I 4,E I 0]),kq (EU #[E I 2,E I 4,E I 0]),kq (EU #[E I 1,E I 0,E I 0,E I 0,E I 0,E I 0,E I 0,E I 0,E I 0,E I 2,E I 4,E I 0]),kq (EU zh),.dep (fun v w=> ∃gt:Nat,v=EU (cv gt)/\n0<=gt/\EV w gt T0) (fun v w w' h hr=>Vk) (fun v w w' h hr=>UP),.dep (fun v w=> ∃gc gt:Nat,v=V (X ⟨gc,0,Z⟩)/\n0<=gc/\n0<=gt/\D w gc (cv gt) 120/\EV w gt T0) (fun v w w' h hr=>Vl) (fun v w w' h hr=>UP),.dep (fun v w=> ∃gc gt:Nat,v=V (X ⟨gc,0,Z⟩)/\n0<=gc/\n0<=gt/\D w gc (cv gt) 120/\EV w gt T0) (fun v w w' h hr=>Vl) (fun v w w' h hr=>UP),kq (E I 0)] [Y,Y,Y,Y,Y,Y,Y,Y,Y,Y,Y,Y,Y,Y,Y,Y] O [] [(0,0),(0,0),(0,0),(0,0),(0,0),(0,0),(0,0),(0,0),(0,0),(0,0),(0,0),(0,0),(0,0),(0,0),(0,0),(0,0)] Ec Ec Ec Ec Ec On Ec ?hPh ?h0 ?hstep ?hend;case hPh=> intro p_ w2 w3 h hr;exact bt h hr
   case h0=> exact I1 w5
   case hstep=>
    refine⟨?_,?_,?_,?_,?_,?_,?_,?_,?_,?_,?_,?_,?_,?_,?_,?_,trivial⟩;all_goals intro xv wq p_ hlo hhi hp hd
    all_goals simp only[EB,Ic,Ig,IJ,IU]
    ·exact Elk
    ·exact Elk
    ·have d1:xv 1=EU bD:=hd.at 1 rfl;refine IY (f:=42) (args:= #[xv 1]) (Ei O) Ew ?_;rw[d1];exact(TN.out wq).mono fun e w2 ⟨he,hb⟩=>⟨_,he,hb,O⟩
    ·exact Eja
    ·exact Elk
    ·have d4:xv 4=EU bD:=hd.at 4 rfl;refine IY (f:=43) (args:= #[xv 4]) (Ei O) Ew ?_;rw[d4];exact(TT.out wq hp).mono fun e w2 ⟨gt,hg,he,ht,hb⟩=>⟨_,he,hb,gt,O,hg,ht⟩
    ·exact Eja
    ·have d6:xv 6=V (X ⟨gp,39,Z⟩):=hd.at 6 rfl;have cc:wq.cell? ⟨gp,39,Z⟩=X (E I m5):=(Vh.out wq hp);exact Ep xq O
    ·exact Elc
    ·exact Elc
    ·have d9:xv 9=EU #[E I 2,E I 4,E I 0]:=hd.at 9 rfl;exact Ir EF (Ei O) (TU O (by simp only[List.map_cons,List.map_nil,d9];exact Vj.out)) O
    ·refine IY (f:=45) (args:= #[Value.slice Z 0 0]) (Ei O) Ew ?_;exact(Vi.out wq).mono fun e w2 ⟨he,hb⟩=>⟨_,he,hb,O⟩
    ·have d0:xv 0=EU bD:=hd.at 0 rfl;have d2:xv 2=EU zO:=hd.at 2 rfl;have d3:xv 3=V (X ⟨gq,0,Z⟩):=hd.at 3 rfl;have d7:xv 7=E I m5:=hd.at 7 rfl;have d8:xv 8=EU #[E I 2,E I 4,E I 0]:=hd.at 8 rfl;have d10:xv 10=EU #[E I 1,E I 0,E I 0,E I 0,E I 0,E I 0,E I 0,E I 0,E I 0,E I 2,E I 4,E I 0]:=hd.at 10 rfl;have d11:xv 11=EU zh:=hd.at 11 rfl;obtain⟨gt,e5_,l5_,t5_⟩: ∃gt:Nat,xv 5=V (X ⟨gt,0,Z⟩)/\n0<=gt/\EV wq gt T0:=hd.at 5 rfl;exact Ir EF (Ei O) (TU O (by simp only[List.map_cons,List.map_nil,d0,d2,d3,e5_,d7,d8,d10,d11];exact BC.out gt)) ⟨gt,O,l5_,t5_⟩
    ·obtain⟨gt,e12,N8,t12⟩: ∃gt:Nat,xv 12=EU (cv gt)/\n0<=gt/\EV wq gt T0:=hd.at 12 rfl;exact XD (w':=wq.alloc (EI (cv gt) 120)) (Ei O) (by simp[go_sem,e12]) (Eo wq _) ⟨wq.heap.size,gt,O,Ey (Nat.le_of_eq U0.out) hp.size,N8,D.new _ _ _,t12.B (Eo wq _)⟩
    ·exact Ep Ew (hd.at 13 rfl: ∃gc gt:Nat,xv 13=V (X ⟨gc,0,Z⟩)/\n0<=gc/\n0<=gt/\D wq gc (cv gt) 120/\EV wq gt T0)
    ·exact Eja
   case hend=>
    intro xv W6 hp hd;simp only[EB,Ic,Ig,IJ,IU];obtain⟨gc,gt,e14,l1,l2,kc,kt⟩: ∃gc gt:Nat,xv 14=V (X ⟨gc,0,Z⟩)/\n0<=gc/\n0<=gt/\D W6 gc (cv gt) 120/\EV W6 gt T0:=hd 14 EZ;have e15:xv 15=E I 0:=hd 15 EZ;rw[e14,e15];have KC:=J kc;have KT:=J kt;have QF:=J<|uf Q4.out hp;have SF:=J<|S4.out.B hp;have BF:=ET B4 hp;have HL:Ea (w.heap.size<=n0):=J (by rw[U0.out];exact B4.out.size);clear hd kc kt e14 e15 hp Q4 S4 B4 TN TT Vi Vj BC Vh K3;go_wp2_with fail;go_ret2;refine⟨Or.inr ⟨mY.out.symm,g3,gc,gq,gt,O,?_,GN.out⟩,BF.out⟩;have hl:=HL.out;refine⟨h2,⟨fun i h1 h3=> ?_,fun i h1 h3=> ?_⟩,?_,Ey hl l1,HGQ.out,Ey hl l2,⟨mW,mW,mW,Er 32,?_,Gv,Gv,Gv,O,EZ⟩,?_,?_,fun i h1 h3=>SF.out.new i h1 U,(RC.out.1).B BF.out,(RC.out.2).B BF.out⟩;·rw[GN.out i h1 h3];exact⟨O,(PV.out.int i h1 h3).2⟩
    ·have ho:=OK.out.1 i h1 h3;refine⟨(p i).toNat,?_,?_,?_,fun h4 h5=> ?_⟩;·rw[GN.out i h3 U,Int.toNat_of_nonneg U]
     ·omega
     ·omega
     ·have:=ho.2.2 h4 h5;omega
    ·have Vm:=OK.out.1 55 U U;have Vn:=OK.out.1 42 U U;have o49:=OK.out.1 49 U U;have Vo:=OK.out.1 39 U U;simp only[Xk,Ub] at Vm Vn o49 Vo;refine⟨⟨bF,?_,bF,bF,bF,bF,bF,bF⟩,EOK _ _,bF,bF,bF,bF,bF,bF,?_,⟨Gz,Gz,Gz⟩,⟨iK,iK,iK,iK,iK,iK,iK,iK,iK⟩,?_⟩;·show 0<=p 55/\p 55<=65535;simp at Vm;omega
     ·show 0<=p 39/\p 39<=4;simp at Vo;omega
     ·refine⟨?_,⟨zU,zU,zU,zU⟩,fun i=> ?_⟩;·show 0<=p 42/\p 42<=1000;simp at Vn;omega
      ·show TM ((dp (p 42) (p 49)).ER i).a ((dp (p 42) (p 49)).ER i).m;match i with
       |0=>exact Gw
       |1=>exact Gw
       |_+2=>exact Gw
    ·have:=KC.out;rw[Gy.out] at this;exact this
    ·have:=KT.out;rw[HT0.out] at this;exact this
    ·have e48:pn g3 48=p 48:=by unfold pn;rw[GN.out 48 U U];rfl
     rw[e48];exact QF.out
theorem Jz.mono(h:Jz lo g gc gq gt c W)(hl:lo2<=lo)(h2:2<=lo2):Jz lo2 g gc gq gt c W:=by obtain⟨v,came,k,r2,r3⟩:=h.XV;refine⟨h2,h.U8,h.ok,Ey hl h.lc,Ey hl h.lq,Ey hl h.lt,h.Em,h.tab,⟨v,came,k,r2,pi r3 hl⟩,fun i a b=> ?_,h.roots,h.cmds⟩;obtain⟨gk,n,cap,cur,ys,h1,h3,h4⟩:=h.keys i a b;exact⟨gk,n,cap,cur,ys,h1,Ey hl h3,h4⟩
def EfJ(vs:List Nat):List M:=vs.map (fun s=>V (X ⟨s,0,Z⟩))++List.replicate (3-vs.length) (V Z)
def j6(gc:Nat)(vs:List Nat):Array M:=([V (X ⟨gc,0,Z⟩),E I 0]++EfJ vs).toArray
theorem EfO(gc:Nat)(vs:List Nat)(b:Nat)(h:vs.length<3):(j6 gc vs).setIfInBounds (2+vs.length) (V (X ⟨b,0,Z⟩))=j6 gc (vs++[b]):=by
 match vs,h with
 |[],_=>rfl
 |[_],_=>rfl
 |[_,_],_=>rfl
structure gh(lo gm gc:Nat)(vs:List Nat)(W:H):Prop where
 Em:D W gm (j6 gc vs) 84
 st: ∀s∈vs,lo<=s/\D W s #[u Z 0 0] 122
 nd:vs.Nodup
theorem gh.B(h:gh lo gm gc vs W)(hb:Below W.heap.size W W'):gh lo gm gc vs W':=
 ⟨h.Em.B hb,fun s hs=>⟨(h.st s hs).1,D.B (h.st s hs).2 hb⟩,h.nd⟩
theorem gh.add{W2:H}(h:gh lo gm gc vs W)(hb:Below W.heap.size W W2)(hl:lo<=b)(hn:W.heap.size<=b)(kb:D W2 b #[u Z 0 0] 122)(h3:vs.length<3):gh lo gm gc (vs++[b]) (W2.setCell ⟨gm,2+vs.length,Z⟩ (V (X ⟨b,0,Z⟩))):=by
 have k2:=h.Em.B hb;have on:=OH (g:=gm) (W:=W2) (2+vs.length) (V (X ⟨b,0,Z⟩));refine⟨by rw[<-EfO gc vs b h3];exact k2.set _ _,fun s hs=> ?_,?_⟩
 ·rcases List.mem_append.1 hs with hs|hs;·exact⟨(h.st s hs).1,on.Em (D.B (h.st s hs).2 hb) (E7 (D.B (h.st s hs).2 hb) k2 EZ)⟩
  ·rw[List.mem_singleton.1 hs];exact⟨hl,on.Em kb (E7 kb k2 EZ)⟩
 ·rw[List.nodup_append];refine⟨h.nd,Ek,fun s hs t ht e=> ?_⟩;rw[List.mem_singleton.1 ht] at e;have:=(h.st s hs).2.lt;omega
theorem EfU(gm:Nat)(j:Nat)(hj:j<3)(W:H):(Instr.indexAt 82 (V (X ⟨gm,2,Z⟩)) (E I (j:Int))).run EJ W= .ok (V (X ⟨gm,2+j,Z⟩)) W:=by have:=Tf gm ((j:Int)+1) j O hj W;rwa [Int.add_sub_cancel] at this
def EfX(p:Nat->Int)(kl:Nat->Nat)(w:H)(e:Ending)(w':H):Prop:=
 (Ut p kl≠0/\ ∃gm,e=Eg (V (X ⟨gm,0,Z⟩))/\w.heap.size<=gm/\D w' gm #[V Z,E I (Ut p kl),V Z,V Z,V Z] 84)
 \/(Ut p kl=0/\ ∃(g2:Nat->M) (a:UA),e=Eg (V (X ⟨a.gm,0,Z⟩))/\Jl w.heap.size g2 a (c0 p) (fun _=>[]) w'/\ ∀i,i<56->i<5\/8<i->g2 i=E I (p i))
theorem Jl.EfZ(h:gh lo gm gc vs W)(C:Jz lo g gc gq gt c W)(hm:lo<=gm)(h3:vs.length=3): ∃a:UA,a.gm=gm/\Jl lo g a c (fun _=>[]) W:=by
 match vs,h3 with
 |[s1,s2,s3],_=> have hn:=h.nd;simp only[List.nodup_cons,List.mem_cons,List.not_mem_nil,or_false,not_or,not_false_eq_true,List.nodup_nil,and_true] at hn;have st: ∀s∈[s1,s2,s3],aZ lo s [] W:=fun s hs=>⟨Z,0,(h.st s hs).2,XJ _ _⟩;exact⟨⟨gc,gq,gt,gm,s1,s2,s3⟩,O,⟨C,h.Em,hm,(h.st s1 Ek).1,(h.st s2 Ek).1,(h.st s3 Ek).1,hn.1.1,hn.1.2,hn.2,st s1 Ek,st s2 Ek,st s3 Ek,fun _=>⟨by intro x hx;simp at hx,Ek⟩⟩⟩
theorem Efa(gc:Nat)(vs:List Nat)(h:vs.length<3):(j6 gc vs)[2+vs.length]?=X (V Z):=by
 match vs,h with
 |[],_=>rfl
 |[_],_=>rfl
 |[_,_],_=>rfl
theorem Vp(g:Nat->M)(p:Nat->Int)(kl:Nat->Nat)(w:H)(hv:t_ g p kl)(hk:ud w g kl)(hR:Jc w)(hC:Uz w)(h2:2<=w.heap.size): Ef EJ 10 #[EU (EH 56 g)] w fun e w'=>EfX p kl w e w'/\Below w.heap.size w w':=by
 have K0:=J<|D.new w (EH 56 g) 28;have b1:=Eo w (EI (EH 56 g) 28);have CN:Ea (Ef EJ 23 #[EU (EH 56 g)] (w.alloc (EI (EH 56 g) 28)) fun e w'=>Vc g p kl (w.alloc (EI (EH 56 g) 28)) e w'/\Below (w.alloc (EI (EH 56 g) 28)).heap.size (w.alloc (EI (EH 56 g) 28)) w'):=J<|Ed2 g p kl _ hv (fun i h1 h2=>by obtain⟨A,cap,ys,e1,e2,e3⟩:=hk i h1 h2;exact⟨A,cap,ys,e1,e2,Iq e3 b1⟩) (hR.B b1) (hC.B b1) JJ;obtain⟨pv,hpv⟩:=En (EH 56 g);rw[<-hpv] at K0 b1 CN⊢;have PS:Ea (pv.size=56):=J (by rw[hpv];simp);have H2:=J h2;clear hpv hv hk hR hC h2;go_enter Tryz.func10,Tryz.ntmps10;obtain⟨gp,O8⟩:=En w.heap.size;go_wp2_with (with_reducible refine wL UZ K0 ?_ (hn:=PS.out));(with_reducible refine CN.out.mono ?_);rintro e w2 ⟨hn,b2⟩;have BB:=J<|bt b1 b2;have LW:=J (show w.heap.size<=(w.alloc (EI pv 28)).heap.size from Ek);clear b1 b2 CN K0;rcases hn with⟨hc,rfl⟩|⟨hc,g2,gc,gq,gt,rfl,C,hg⟩
 ·obtain⟨ck,hck⟩:=En (Ut p kl);rw[<-hck] at hc⊢;have mY:=J hck;have t1:(ck !=0)=G:=uN;have HC:=J hc;have bm:Tryz.prog.built 84 [(1,E I ck)]=X #[V Z,E I ck,V Z,V Z,V Z]:=Ec;clear hck hc;go_wp2_with (first|((with_reducible refine In 15 ?_);refine IP rfl 84 _ rfl #[V Z,E I ck,V Z,V Z,V Z] bm ?_));go_ret;refine⟨.inl ⟨?_,_,O,BB.out.size,?_⟩,bt BB.out (Eo _ _)⟩;·rw[<-mY.out];exact HC.out
  ·rw[<-mY.out];exact D.new _ _ _
 have bm:Tryz.prog.built 84 [(0,V (X ⟨gc,0,Z⟩))]=X #[V (X ⟨gc,0,Z⟩),E I 0,V Z,V Z,V Z]:=Ec;have CC:=J<|C.mono LW.out H2.out;have HG:=J<|And.intro hc hg;clear C hg hc;go_wp2_with (first|((with_reducible refine In 18 ?_);refine IP rfl 84 _ rfl #[V (X ⟨gc,0,Z⟩),E I 0,V Z,V Z,V Z] bm ?_));obtain⟨gm,hgm⟩:=En w2.heap.size;have K3:=J<|D.new w2 (j6 gc []) 84;have b3:=Eo w2 (EI (j6 gc []) 84);change _=_ at hgm;rw[show(#[V (X ⟨gc,0,Z⟩),E I 0,V Z,V Z,V Z]:Array M)=j6 gc [] from rfl];rw[<-hgm] at K3⊢;have pC:Ea (w.heap.size<=gm):=J (by rw[hgm];exact BB.out.size);clear hgm bm;generalize w2.alloc (EI (j6 gc []) 84)=w3 at*;replace CC:=J<|CC.out.B b3;replace BB:=ET BB b3;have SB:Ea (gh w.heap.size gm gc [] w3):=J ⟨K3.out,fun _ h=>absurd h List.not_mem_nil,List.nodup_nil⟩;obtain⟨lo,hlo⟩:=En w.heap.size;obtain⟨p0,hp0⟩:=En p;rw[<-hlo] at SB CC pC;rw[<-hp0] at CC;have XS:Ea (Below lo w w3):=J (by rw[hlo];exact BB.out);have ZB:=J hlo;have HP0:=J hp0;clear b3 K3 hlo hp0 BB;have BB:=XS;clear XS;go_wp2_with fail;go_loopw[20] (fun Y3 wr=> ∃vs:List Nat,Y3=E I vs.length/\vs.length<=3/\gh lo gm gc vs wr/\Jz lo g2 gc gq gt (c0 p0) wr/\Below lo w wr) (fun Y3 _=>3-(intOf Y3).toNat);case atStart=>exact⟨[],O,Ek,SB.out,CC.out,BB.out⟩
 case round=>
  clear SB CC BB;obtain⟨vs,rfl,hv3,SB,CC,BB⟩:=hrel;replace SB:=J SB;replace CC:=J CC;replace BB:=J BB;by_cases hlt:vs.length<3
  ·have t8:decide ((vs.length:Int)<3)=G:=Ia U;have H3:=J hlt;have IX:=J<|fun W=>EfU gm vs.length hlt W;have iC:=J (show lo<=wr.heap.size by have:=SB.out.Em.lt;have:=pC.out;omega);go_wp2_with fail;refine uV (Ph:=fun p wq=>match p with|0=>Below wr.heap.size wr wq|_=>(∃b:Nat,gh lo gm gc (vs++[b]) wq/\Jz lo g2 gc gq gt (c0 p0) wq/\Below lo w wq)) (Rel:=Jr) (If:=fun w w'=> ∀g c,D w g c 122->D w' g c 122) [kp gm 0,kq (E I vs.length),.dep (fun v w=> ∃b:Nat,v=V (X ⟨b,0,Z⟩)/\lo<=b/\wr.heap.size<=b/\D w b #[u Z 0 0] 122) (fun v w w' h hr=>by obtain⟨b,h1,h2,h3,h4⟩:=h;exact⟨b,h1,h2,h3,D.B h4 hr⟩) (fun v w w' h hr=>by obtain⟨b,h1,h2,h3,h4⟩:=h;exact⟨b,h1,h2,h3,hr _ _ h4⟩),kp gm 0,kp gm 2,kq (V (X ⟨gm,2+vs.length,Z⟩)),.val (fun _=>True)] [6] [(0,0),(0,0),(0,0),(0,0),(0,0),(0,0),(0,0)] Ec Ec Ec Ec On Ec ?hPh ?h0 ?hstep ?hend
   case hPh=>
    intro p w2 w3 h hr;match p,h with
    |0,h=>exact bt h hr
    |_+1,⟨b,h1,h2,h3⟩=>exact⟨b,h1.B hr,h2.B hr,h3.trans (Below.mono hr (Ey pC.out (Nat.le_of_lt h1.Em.lt)))⟩
   case h0=> exact I1 wr
   case hstep=>
    refine⟨?_,?_,?_,?_,?_,?_,?_,trivial⟩;all_goals first|intro xv wq p9 hlo hhi hp hd|intro xv wq hp hd
    all_goals simp only[EB,Ic,Ig,IJ,IU]
    ·obtain rfl:p9=0:=U;exact Eja
    ·obtain rfl:p9=0:=U;exact Eja
    ·obtain rfl:p9=0:=U;refine IY (f:=24) (args:= #[]) (Ei O) Ew ?_;exact(Ec4 wq).mono fun e w2 h=>⟨_,h.1,by rw[h.2];exact Eo wq _,wq.heap.size,O,Ey iC.out hp.size,hp.size,by rw[h.2];exact D.new _ _ _⟩
    ·obtain rfl:p9=0:=U;have d0:xv 0=V (X ⟨gm,0,Z⟩):=hd.at 0 rfl;exact El8
    ·obtain rfl:p9=0:=U;have d3:xv 3=V (X ⟨gm,0,Z⟩):=hd.at 3 rfl;exact Elz
    ·obtain rfl:p9=0:=U;have d4:xv 4=V (X ⟨gm,2,Z⟩):=hd.at 4 rfl;have d1:xv 1=E I vs.length:=hd.at 1 rfl;exact Ir EF (Ei O) (mj O d4 d1 IX.out) O
    ·have d5:xv 5=V (X ⟨gm,2+vs.length,Z⟩):=hd.at 5 rfl;obtain⟨b,e2,h1,h2,h3⟩: ∃b:Nat,xv 2=V (X ⟨b,0,Z⟩)/\lo<=b/\wr.heap.size<=b/\D wq b #[u Z 0 0] 122:=hd.at 2 rfl;have k2:=D.B SB.out.Em hp;have ff:wq.frozen? ⟨gm,2+vs.length,Z⟩=Y:=D.Jw k2 _;have cc:wq.cell? ⟨gm,2+vs.length,Z⟩=X (V Z):=(D.cell k2 _).trans (Efa gc vs H3.out);have ad:=SB.out.add hp h1 h2 h3 H3.out;have on:=OH (g:=gm) (W:=wq) (2+vs.length) (V (X ⟨b,0,Z⟩));refine AZ (w':=wq.setCell ⟨gm,2+vs.length,Z⟩ (V (X ⟨b,0,Z⟩))) (Ei O) (by simp[go_sem,d5,e2,cc,ff]) ⟨fun g2 c2 h4=>h4.other gm _ _ (az h4 k2 EZ),b,ad,?_,?_⟩ trivial;·exact(CC.out.B hp).via (fun k cs S hS hk=>on.Em hk (E7 hk k2 pp)) (on.bel lo pC.out (Ey iC.out hp.size))
     ·exact(BB.out.trans (Below.mono hp iC.out)).trans (on.bel lo pC.out (Ey iC.out hp.size))
   case hend=>
    intro xv w6 hp hd;simp only[EB,Ic,Ig,IJ,IU,Nat.reduceAdd];obtain⟨b,s6,c6,b6⟩:=hp;clear hd;go_wp2_with fail;go_roundw;case rel=>exact⟨vs++[b],Ek,JJ,s6,c6,b6⟩
    case measure=> exact Emx
  ·have t8:decide ((vs.length:Int)<3)=Y:=E9 U;go_wp2_with fail;go_ret;obtain⟨a,ha,Y8⟩:=Jl.EfZ SB.out CC.out pC.out U;refine⟨.inr ⟨HG.out.1,g2,a,by rw[ha];rfl,?_,HG.out.2⟩,by rw[<-ZB.out];exact BB.out⟩;rw[<-ZB.out,<-HP0.out];exact Y8
def Zh:List M:=[E I 4,E I 1,E I 0,E I 0,E I 0,E I 0,E I 2,E I 4,E I 0,E I 2,E I 4,E I 0]
theorem Efc:Og EJ 38 #[E I 0,E I 0,E I 0,E I 0,E I 0,E I 0,E I 0,E I 0,E I 0,E I 0,E I 0,E I 0]:=by exact Eiz
theorem Efd:Zh.toArray.all (·.oneCell')=G:=by simp[Zh,Value.oneCell']
theorem Vq(w:H):Ef EJ 16 #[] w fun e w'=>e=Eg (EU Zh.toArray)/\Below w.heap.size w w':=by have BL:=J<|Fj 2 4;have BF:Ea (Tryz.prog.built 38 [(0,E I 4),(1,E I 1),(3,EU #[E I 2,E I 4,E I 0]),(4,EU #[E I 2,E I 4,E I 0])]=X Zh.toArray):=J Ec;obtain⟨fv,Ox⟩:=En Zh.toArray;have FSq:Ea (fv.size=12):=J (by rw[Ox];rfl);have FO:Ea (fv.all (·.oneCell')=G):=J (by rw[Ox];exact Efd);rw[<-Ox] at BF⊢;clear Ox;go_enter Tryz.func16,Tryz.ntmps16;go_wp2_with (with_reducible refine wA Efc (Ed.mk ?_));refine Ed.in ?_;obtain⟨zv,hzv⟩:=En (#[E I 0,E I 0,E I 0,E I 0,E I 0,E I 0,E I 0,E I 0,E I 0,E I 0,E I 0,E I 0]:Array M);rw[<-hzv];have ZS:Ea (zv.size=12):=J (by rw[hzv];rfl);clear hzv;have K0:=J<|D.new w zv 38;have b0:=Eo w (EI zv 38);generalize w.alloc (EI zv 38)=w1 at*;go_wp2_with (first|((with_reducible refine In 2 ?_);refine IP rfl 36 _ rfl #[E I 2,E I 4,E I 0] BL.out ?_)|(with_reducible refine wA Fc (Ed.mk ?_)));refine Ed.in ?_;have K1:=J<|D.new w1 #[E I 0,E I 0,E I 0] 36;have b1:=Eo w1 (EI #[E I 0,E I 0,E I 0] 36);have K2:=J<|K0.out.B b1;have HN:=J (show w.heap.size<w1.heap.size by have:=K0.out.lt;omega);have b2:=J<|bt b0 b1;clear b0 b1 K0;obtain⟨gl,hgl⟩:=En w1.heap.size;rw[<-hgl] at K1 HN⊢;clear hgl;generalize w1.alloc (EI #[E I 0,E I 0,E I 0] 36)=w2 at*;go_wp2_with (with_reducible refine wS (cs:= #[E I 2,E I 4,E I 0]) cF K1 (Ed.mk ?_) (h1:=OP));refine Ed.in ?_;have KL:=J<|K1.out.setRow #[E I 2,E I 4,E I 0];have KF:=J<|D.setRow_other K2.out gl #[E I 2,E I 4,E I 0] JP;have b3:=J<|E2 (g:=gl) b2.out JP #[E I 2,E I 4,E I 0];clear K1 K2 b2;generalize w2.setRow gl #[E I 2,E I 4,E I 0]=w3 at*;go_wp2_with (first|(with_reducible refine wL cF KL ?_)|((with_reducible refine In 5 ?_);refine IP rfl 38 _ rfl fv BF.out ?_)|(with_reducible refine wS (cs:=fv) tS KF ?_ (ho:=ZS.out) (hn:=FSq.out) (h1:=FO.out)));exact EQ (Jb tS O _ _ w.heap.size fv O (KF.out.setRow fv) FSq.out) O ⟨O,E2 (g:=w.heap.size) b3.out (E5 _) fv⟩
def m0:Array M:=(I7 Zh (u Z 0 0) (u Z 0 0) (Er 32)).toArray
theorem Vr:m0.all (·.oneCell')=G:=by
 refine all_oneCell_toArray ?_;intro v hv;simp only[I7,List.mem_append,List.mem_map] at hv;rcases hv with hv|hv|⟨x,-,rfl⟩;·simp only[Zh,List.mem_cons,List.not_mem_nil,or_false] at hv;exact EmE
 ·simp only[List.mem_cons,List.not_mem_nil,or_false] at hv;rcases hv with rfl|rfl<;>rfl
 ·rfl
theorem Eff(gm:Nat)(x y1 y2 y3:M)(cv:Array M)(w:H)(K:D w gm #[V Z,x,y1,y2,y3] 84): Ef EJ 12 #[V (X ⟨gm,0,Z⟩),EU cv] w fun e w'=>e=Eg (EU m0)/\Below w.heap.size w w':=by obtain⟨zt,gZ⟩:=En ((I7 [E I 0,E I 0,E I 0,E I 0,E I 0,E I 0,E I 0,E I 0,E I 0,E I 0,E I 0,E I 0] (u Z 0 0) (u Z 0 0) (Er 32)).toArray:Array M);have ZT:Ea (Og EJ 43 zt):=J F7;have ZS:Ea (zt.size=46):=J (by rw[gZ];rfl);clear gZ;obtain⟨fv,Ox⟩:=En Zh.toArray;obtain⟨tn,htn⟩:=En m0;have BN:Ea (Tryz.prog.built 43 [(0,EU fv)]=X tn):=J (by rw[Ox,htn];kernel_rfl);have NS:Ea (tn.size=46):=J (by rw[htn];rfl);have NO:Ea (tn.all (·.oneCell')=G):=J (by rw[htn];exact Vr);have CF:=J<|fun W=>Vq W;rw[<-Ox] at CF;rw[<-htn];clear Ox htn;have KE:=J<|D.new w cv 48;go_enter Tryz.func12,Tryz.ntmps12;go_wp2_with (with_reducible refine wA ZT.out (Ed.mk ?_));refine Ed.in ?_;have b1:=JF w (EI cv 48) (EI zt 43);have KR:Ea (D ((w.alloc (EI cv 48)).alloc (EI zt 43)) (w.heap.size+1) zt 43):=J To;obtain⟨gr,hgr⟩:=En (w.heap.size+1);rw[<-hgr] at KR⊢;have gj:=J (show w.heap.size<=gr from U);clear hgr KE;have KM:=D.B K b1;have BB:=J b1;generalize (w.alloc (EI cv 48)).alloc (EI zt 43)=w1 at*;have cc:w1.cell? ⟨gm,0,Z⟩=X (V Z):=(D.cell KM 0).trans O;clear KM b1 K;go_wp2_with fail;(with_reducible refine(CF.out _).mono ?_);rintro e w2 ⟨rfl,b2⟩;replace KR:=J<|KR.out.B b2;replace BB:=ET BB b2;clear b2 cc CF;go_wp2_with (first|((with_reducible refine In 13 ?_);refine IP rfl 43 _ rfl tn BN.out ?_)|(with_reducible refine wS (cs:=tn) Xt KR ?_ (ho:=ZS.out) (hn:=NS.out) (h1:=NO.out)));exact EQ (Jb Xt O _ _ gr tn O (KR.out.setRow tn) NS.out) O ⟨O,E2 (g:=gr) BB.out gj.out tn⟩
theorem GA:bv.size=31:=Ec
theorem GB:bv.all (·.oneCell')=G:=Ec
theorem Efg(gm:Nat)(x y1 y2 y3:M)(w:H)(K:D w gm #[V Z,x,y1,y2,y3] 84): Ef EJ 13 #[V (X ⟨gm,0,Z⟩)] w fun e w'=>e=Eg (EU bv)/\Below w.heap.size w w':=by have KR:=J<|D.new w bv 54;have b1:=Eo w (EI bv 54);have BZ:Ea (Tryz.prog.built 54 []=X bv):=J Ec;go_enter Tryz.func13,Tryz.ntmps13;go_wp2_with (with_reducible refine wA FG (Ed.mk ?_));refine Ed.in ?_;have KM:=D.B K b1;have BB:=J b1;generalize w.alloc (EI bv 54)=w1 at*;have cc:w1.cell? ⟨gm,0,Z⟩=X (V Z):=(D.cell KM 0).trans O;clear KM b1 K;obtain⟨zv,hzv⟩:=En bv;have SS:Ea (zv.size=31):=J (by rw[hzv];exact GA);have SO:Ea (zv.all (·.oneCell')=G):=J (by rw[hzv];exact GB);rw[<-hzv] at BZ KR;have HZV:=J hzv;clear hzv;go_wp2_with (first|((with_reducible refine In 8 ?_);refine IP rfl 54 _ rfl zv BZ.out ?_)|(with_reducible refine wS (cs:=zv) tF KR ?_ (ho:=SS.out) (hn:=SS.out) (h1:=SO.out)));exact EQ (Jb tF O _ _ w.heap.size zv O (KR.out.setRow zv) SS.out) O ⟨by rw[HZV.out],E2 (g:=w.heap.size) BB.out (E5 _) zv⟩
def XI(g:Nat->M)(i:Nat):Int:=intOf (g i)
def iL(g:Nat->M)(i:Nat):Nat:=lenOf (g i)
theorem Efi(h: ∀i,9<=i->i<56-> ∃n:Nat,g i=E I n/\ZQ i n)(i:Nat)(h1:9<=i)(h2:i<56):(Xk i:Int)<=XI g i/\XI g i<=Ub i/\(9<i->i<13->XI g i%2=0):=by obtain⟨n,e,a,b,c⟩:=h i h1 h2;unfold XI;rw[e];simp only[intOf];exact⟨U,U,fun x y=>by have:=c x y;omega⟩
theorem Efj{a c:Nat}(h:1<=a/\a<=3/\1<=b/\b<=3/\1<=c/\c<=3/\a≠b/\a≠c/\b≠c):[E .i64 1,E I 2,E I 3].all (mV (a:Int) (b:Int) (c:Int))=G:=by simp only[List.all_cons,List.all_nil,mV,List.mem_cons,List.not_mem_nil,or_false,Bool.and_true,Bool.and_eq_true,decide_eq_true_eq];omega
theorem Efk(h:ZR w g):Ut (XI g) (iL g)=0:=by
 have ok:=Efi h.int;obtain⟨a,b,c,e1,e2,e3,hp⟩:=h.perm;have k: ∀i,5<=i->i<=8->Us (iL g i) 1 64=G:=fun i h1 h2=>by obtain⟨A,n,cap,ys,base,e,_,_,x,y⟩:=h.keys i h1 h2;unfold iL;rw[e];simp only[lenOf];exact cM.2 ⟨U,U⟩
 have r: ∀i,9<=i->i<56-> ∀lo hi:Int,lo<=Xk i->(Ub i:Int)<=hi->Us (XI g i) lo hi=G:=fun i h1 h2 lo hi h3 h4=>by have:=ok i h1 h2;exact cM.2 ⟨U,U⟩
 have b1:yN (XI g)=G:=by unfold yN yL XI;rw[h.o0,h.o4,e1,e2,e3];simp only[intOf];rw[Efj hp];rfl
 have b2:px (iL g)=G:=by unfold px;rw[k 5 U U,k 6 U U,k 7 U U,k 8 U U];rfl
 have b3:uE (XI g)=G:=by have o9:=ok 9 U U;have o13:=ok 13 U U;have M9:=(ok 10 U U).2.2 U U;have M_:=(ok 11 U U).2.2 U U;have q12:=(ok 12 U U).2.2 U U;simp[Xk,Ub] at o9 o13;simp only[uE,List.map_cons,List.map_nil,List.all_cons,List.all_nil,mT,Bool.and_eq_true,beq_iff_eq];exact⟨⟨U,U⟩,⟨r 10 U U _ _ fJ fU,M9⟩,⟨r 11 U U _ _ fJ fU,M_⟩,⟨r 12 U U _ _ fJ fU,q12⟩,trivial⟩
 have b4:uI (XI g)=G:=by simp only[uI,cL,List.all_cons,List.all_nil,pw,Ol,Bool.and_eq_true,Nat.reduceMul,Nat.reduceAdd,Nat.zero_mul,Nat.add_zero];refine⟨⟨?_,?_,?_,?_,trivial⟩,⟨?_,?_,?_,?_,trivial⟩,⟨?_,?_,?_,?_,trivial⟩,⟨?_,?_,?_,?_,trivial⟩,⟨?_,?_,?_,?_,trivial⟩,trivial⟩<;>exact r _ U U _ _ fJ fU
 have b5:uJ (XI g)=G:=by simp only[uJ,List.map_cons,List.map_nil,List.all_cons,List.all_nil,Ol,Bool.and_eq_true];refine⟨?_,?_,?_,?_,?_,trivial⟩<;>exact r _ U U _ _ fJ fU
 have b6:uO (XI g)=G:=by simp only[uO,List.map_cons,List.map_nil,List.all_cons,List.all_nil,Ol,Bool.and_eq_true];refine⟨?_,?_,?_,trivial⟩<;>exact r _ U U _ _ fJ fU
 have b7:uU (XI g)=G:=by simp only[uU,List.map_cons,List.map_nil,List.all_cons,List.all_nil,Ol,Bool.and_eq_true];refine⟨?_,?_,?_,?_,trivial⟩<;>exact r _ U U _ _ fJ fU
 have b8:uX (XI g)=G:=by simp only[uX,Bool.and_eq_true];constructor<;>exact r _ U U _ _ fJ fU
 have b9:uZ (XI g)=G:=by simp only[uZ,List.map_cons,List.map_nil,List.all_cons,List.all_nil,Ol,Bool.and_eq_true];refine⟨?_,?_,trivial⟩<;>exact r _ U U _ _ fJ fU
 have b10:ua (XI g)=G:=by have o50:=ok 50 U U;simp[Xk,Ub] at o50;simp only[ua,List.map_cons,List.map_nil,List.all_cons,List.all_nil,Ol,Bool.and_eq_true,beq_iff_eq];refine⟨⟨U,?_,?_,?_,trivial⟩,?_⟩<;>exact r _ U U _ _ fJ fU
 have b11:yP (XI g)=G:=r _ U U _ _ fJ fU;unfold Ut;rw[b1,b2,b3,b4,b5,b6,b7,b8,b9,b10,b11];rfl
theorem GC(h:ZR w g):t_ g (XI g) (iL g)/\ud w g (iL g):=by
 obtain⟨a,b,c,e1,e2,e3,hp⟩:=h.perm;refine⟨⟨fun i h1 h2=> ?_,fun i h1 h2=> ?_⟩,fun i h1 h2=> ?_⟩
 ·have hc:i=0\/i=1\/i=2\/i=3\/i=4\/9<=i:=U;unfold XI I3;rcases hc with rfl|rfl|rfl|rfl|rfl|hc;·rw[h.o0];simp[intOf]
  ·rw[e1];exact Emd
  ·rw[e2];exact Emd
  ·rw[e3];exact Emd
  ·rw[h.o4];simp[intOf]
  ·obtain⟨n,e,_,x,_⟩:=h.int i hc h1;rw[e];simp only[intOf]
   have:Ub i<=65535:=by unfold Ub;(repeat' split);all_goals omega
   exact⟨trivial,U⟩
 ·obtain⟨A,n,cap,ys,base,e,_⟩:=h.keys i h1 h2;exact⟨A,cap,by unfold iL;rw[e];rfl⟩
 ·obtain⟨A,n,cap,ys,base,e,l,ho,_⟩:=h.keys i h1 h2;exact⟨A,cap,ys,by unfold iL;rw[e];rfl,by unfold iL;rw[e];exact l,ho.row⟩
theorem Jl.mono(h:Jl lo g a c rs W)(hl:lo2<=lo)(h2:2<=lo2):Jl lo2 g a c rs W:=by have st: ∀{s r},aZ lo s r W->aZ lo2 s r W:=fun⟨A,c,k,o⟩=>⟨A,c,k,X9 o hl⟩;exact⟨h.core.mono hl h2,h.Em,Ey hl h.lm,Ey hl h.l1,Ey hl h.l2,Ey hl h.l3,h.n12,h.n13,h.n23,st h.st1,st h.st2,st h.mK,h.mM⟩
theorem Vs(g:Nat->M)(h: ∀i,i<56->(g i).oneCell'=G):(EH 56 g).all (·.oneCell')=G:=by rw[Array.all_eq_true_iff_forall_mem];intro v hv;obtain⟨i,hi,e⟩:=Array.mem_iff_getElem.1 hv;rw[<-e,nA];exact h i Om
theorem Efo(hT:ID EJ T n)(h:fn.results= #[.tmp q,.cell p T])(tmps:Array M)(w:H)(g:Nat)(cs:Array M)(v:M) (hp:tmps.getD p undef=V (X ⟨g,0,Z⟩)) (hq:tmps.getD q undef=v) (hg:D w g cs T) (hn:cs.size=n):(results fn tmps).run EJ w= .ok (Es #[v,EU cs]) w:=by exact EkG
def cV:Array M:=EH 56 fun i=>if 5<=i/\i<=8 then .slice Z 0 0 else E I 0
theorem GD:Og EJ 28 cV:=by exact Eiz
def GF:List Ez:=[120,152,171,163,5,84,122]
theorem Jl.keep(h:Jl lo g a c rs W)(hb: ∀k cs S,GF.contains S=G->D W k cs S->D W' k cs S)(hl:Below lo W W'):Jl lo g a c rs W':=by have st: ∀{s r},aZ lo s r W->aZ lo s r W':=fun h=>h.via (fun _ _=>hb _ _ _ EZ) (fun _ _=>hb _ _ _ EZ);refine⟨h.core.via (fun k cs S hS hk=>hb k cs S ?_ hk) hl,hb _ _ _ EZ h.Em,h.lm,h.l1,h.l2,h.l3,h.n12,h.n13,h.n23,st h.st1,st h.st2,st h.mK,h.mM⟩;simp only[wV,List.contains_eq_mem,List.mem_cons,List.not_mem_nil,or_false,decide_eq_true_eq] at hS;rcases hS with rfl|rfl|rfl|rfl|rfl<;>decide
theorem Jl.only{gx:Nat}(h:Jl lo g a c rs W)(ho:EG gx W W')(K:D W gx cs T)(hT:GF.contains T=Y)(hl:lo<=gx):Jl lo g a c rs W':=
 h.keep (fun _ _ _ hS hk=>ho.Em hk (E7 hk K Tk)) (ho.bel lo hl (Ey h.lm (Nat.le_of_lt h.Em.lt)))
theorem ZR.keep{w':H}(h:ZR w g)(hb: ∀k cs,D w k cs 5->D w' k cs 5):ZR w' g:=
 ⟨h.o0,h.o4,h.perm,fun i h1 h2=>by obtain⟨A,n,cap,ys,base,e,l,ho,r⟩:=h.keys i h1 h2;exact⟨A,n,cap,ys,base,e,l,bC ho hb,r⟩,h.int⟩
def cW(g:Nat->M)(n0:Nat)(v:M)(W:H):Prop:=
 ∃(g2:Nat->M) (a:UA),v=V (X ⟨a.gm,0,Z⟩)/\Jl n0 g2 a (c0 (XI g)) (fun _=>[]) W/\ ∀i,i<56->i<5\/8<i->g2 i=E I (XI g i)
theorem cW.B(h:cW g n0 v W)(hb:Below W.heap.size W W'):cW g n0 v W':=by obtain⟨g2,a,e,m,r⟩:=h;exact⟨g2,a,e,m.B hb,r⟩
theorem Efp(g:Nat->M)(n0:Nat)(w:H)(hf:ZR w g)(hR:Jc w)(hC:Uz w)(h2:2<=n0)(hn:n0<=w.heap.size): Ef EJ 10 #[EU (EH 56 g)] w fun e w'=>(∃v,e=Eg v/\cW g n0 v w')/\Below w.heap.size w w':=by
 obtain⟨pv,kv⟩:=GC hf;refine(Vp g _ _ w pv kv hR hC U).mono ?_;rintro e w' ⟨hm,hb⟩;rcases hm with⟨h1,-⟩|⟨-,g2,a,rfl,m,r⟩;·exact absurd (Efk hf) h1
 ·exact⟨⟨_,O,g2,a,O,m.mono hn h2,r⟩,hb⟩
theorem Efq(f:Nat->M)(w:H)(hp:nB w f)(hR:Jc w)(hC:Uz w)(h2:2<=w.heap.size): Ef EJ 18 #[EU (EH 56 f)] w fun e w'=>(∃g v,e=Eg (Es #[v,EU (EH 56 g)])/\ZR w' g/\cW g w.heap.size v w')/\Below w.heap.size w w':=by
 obtain⟨n0,hn0⟩:=En w.heap.size;have CN:Ea (∀(g:Nat->M) (W:H),ZR W g->Jc W->Uz W->n0<=W.heap.size->_):=J<|fun g W hf hR hC hn=>Efp g n0 W hf hR hC U hn;have K0:=J<|D.new w (EH 56 f) 28;have b1:=Eo w (EI (EH 56 f) 28);have CF:=J<|fun W (hb:Below w.heap.size w W)=>EEp f W ⟨hp.int,fun i h1 h2=>by obtain⟨A,xs,cap,e,l1,l2,r,x⟩:=hp.key i h1 h2;exact⟨A,xs,cap,e,l1,l2,Iq r hb,x⟩⟩;have RT:=J<|And.intro hR hC;obtain⟨fv,Ox⟩:=En (EH 56 f);rw[<-Ox] at CF K0 b1⊢;have FSq:Ea (fv.size=56):=J (by rw[Ox];simp);clear Ox hp hR hC h2;go_enter Tryz.func18,Tryz.ntmps18;go_wp2_with (with_reducible refine wA GD (Ed.mk ?_));refine Ed.in ?_;obtain⟨zv,hzv⟩:=En cV;rw[<-hzv];have ZS:Ea (zv.size=56):=J (by rw[hzv];simp[cV]);clear hzv;have dY:Ea (D ((w.alloc (EI fv 28)).alloc (EI zv 28)) (w.heap.size+1) zv 28):=J (by have:=D.new (w.alloc (EI fv 28)) zv 28;simpa using this);have b2:=Eo (w.alloc (EI fv 28)) (EI zv 28);have KP:=J<|K0.out.B b2;have BB:=J<|bt b1 b2;have gj:Ea (n0<=w.heap.size+1):=J U;clear b1 b2 K0;obtain⟨gr,hgr⟩:=En (w.heap.size+1);obtain⟨gp,O8⟩:=En w.heap.size;rw[<-hgr] at dY gj⊢;rw[<-O8] at KP⊢;clear hgr O8;generalize (w.alloc (EI fv 28)).alloc (EI zv 28)=w2 at*;go_wp2_with (with_reducible refine wL UZ KP ?_ (hn:=FSq.out));(with_reducible refine(CF.out _ BB.out).mono ?_);rintro e w3 ⟨⟨g,rfl,hf⟩,b3⟩;obtain⟨gv,hgv⟩:=En (EH 56 g);rw[<-hgv];have GG:=J hgv;have GS:Ea (gv.size=56):=J (by rw[hgv];simp);have FP:=GC hf
 have GO:Ea (gv.all (·.oneCell')=G):=J (by rw[hgv];exact Vs g (fun i hi=>by
  by_cases h5:i<5\/8<i;·rw[(FP.1.int i hi h5).1];rfl
  ·obtain⟨A,c,e⟩:=FP.1.key i U U;rw[e];rfl))
 have GH:=J<|CN.out g;rw[<-hgv] at GH;replace CN:=GH;have Vt:=J hf;replace dY:=J<|dY.out.B b3;replace BB:=ET BB b3;clear hgv FP hf b3 CF KP FSq GH;go_wp2_with (with_reducible refine wA GD (Ed.mk ?_));refine Ed.in ?_;obtain⟨z2,hz2⟩:=En cV;rw[<-hz2];have Z2:Ea (z2.size=56):=J (by rw[hz2];simp[cV]);clear hz2;have iH:=J<|D.new w3 z2 28;have b2:=Eo w3 (EI z2 28);obtain⟨ga,hga⟩:=En w3.heap.size;rw[<-hga] at iH⊢;have pu:=J (show w3.heap.size<=ga/\gr≠ga by have:=dY.out.lt;omega);clear hga;generalize w3.alloc (EI z2 28)=w4 at*;go_wp2_with (with_reducible refine wS (cs:=gv) UZ iH (Ed.mk ?_) (ho:=Z2.out) (hn:=GS.out) (h1:=GO.out));refine Ed.in ?_;have KA:=J<|iH.out.setRow gv;have b3:=E2 (g:=ga) b2 pu.out.1 gv;generalize w4.setRow ga gv=w5 at*;have FF:=J<|Vt.out.B b3;have KR:=J<|dY.out.B b3;replace BB:=ET BB b3;replace RT:=J<|And.intro (RT.out.1.B BB.out) (RT.out.2.B BB.out);replace BB:Ea (Below n0 w w5):=J (by rw[hn0];exact BB.out);have U0:=J hn0;have LE:=J<|Nat.le_of_eq hn0;clear iH dY Vt b2 b3 pu Z2 hn0;go_wp2_with fail;refine uV (Ph:=fun p wq=>match p with|0=>(Jc wq/\D wq ga gv 28/\ZR wq g/\D wq gr zv 28/\Uz wq/\Below n0 w wq)|_=>(D wq gr gv 28/\ZR wq g/\Below n0 w wq)) (Rel:=Jr) (If:=fun w w'=> ∀v,cW g n0 v w->cW g n0 v w') [kq (EU gv),.dep (fun v w=>cW g n0 v w) (fun v w w' h hr=>h.B hr) (fun v w w' h hr=>hr v h),kq (EU gv),.dep (fun v w=>cW g n0 v w) (fun v w w' h hr=>h.B hr) (fun v w w' h hr=>hr v h),.val (fun _=>True)] [4] [(0,0),(0,0),(0,0),(0,0),(0,0)] Ec Ec Ec Ec On Ec ?hPh ?h0 ?hstep ?hend
 case hPh=>
  intro p w2 w3 h hr;match p,h with
  |0,⟨h1,h2,h3,h4,h5,h6⟩=>exact⟨h1.B hr,D.B h2 hr,h3.B hr,D.B h4 hr,h5.B hr,h6.trans (Below.mono hr (Ey LE.out h6.size))⟩
  |_+1,⟨h1,h2,h3⟩=>exact⟨D.B h1 hr,h2.B hr,h3.trans (Below.mono hr (Ey LE.out h3.size))⟩
 case h0=> have hb:=I1 w5;exact⟨RT.out.1.B hb,D.B KA.out hb,FF.out.B hb,D.B KR.out hb,RT.out.2.B hb,BB.out.trans (Below.mono hb (Ey LE.out BB.out.size))⟩
 case hstep=>
  refine⟨?_,?_,?_,?_,?_,trivial⟩;·exact EkT
  ·intro xv wq p hlo hhi hp hd;obtain rfl:p=0:=U;simp only[EB,Ic,Ig,IJ,IU];have d0:xv 0=EU gv:=hd.at 0 rfl;refine IY (f:=10) (args:= #[xv 0]) (Ei O) Ew ?_;rw[d0];exact(CN.out wq hp.2.2.1 hp.1 hp.2.2.2.2.1 (Ey LE.out hp.2.2.2.2.2.size)).mono fun e w2 h=>by obtain⟨⟨v,he,hm⟩,hb⟩:=h;exact⟨v,he,hb,hm⟩
  ·exact EkT
  ·intro xv wq p hlo hhi hp hd;obtain rfl:p=0:=U;simp only[EB,Ic,Ig,IJ,IU];exact Ep Ew (hd.at 1 rfl:cW g n0 (xv 1) wq)
  ·intro xv wq hp hd;simp only[EB,Ic,Ig,IJ,IU];have d2:xv 2=EU gv:=hd.at 2 rfl;have on:=Od (g:=gr) (W:=wq) gv;refine ag UZ (Ei O) ⟨O,O,d2⟩ hp.2.2.2.1 ZS.out GS.out GO.out ⟨fun v h=> ?_,?_,?_,?_⟩ trivial;·obtain⟨g2,a,e,m,r⟩:=h;exact⟨g2,a,e,m.only on hp.2.2.2.1 EZ gj.out,r⟩
   ·exact D.setRow hp.2.2.2.1 gv
   ·exact hp.2.2.1.keep fun _ _ hk=>on.Em hk (E7 hk hp.2.2.2.1 EZ)
   ·exact hp.2.2.2.2.2.trans (on.bel n0 gj.out (Ey LE.out hp.2.2.2.2.2.size))
 case hend=> intro xv w6 hp hd;simp only[EB,Ic,Ig,IJ,IU,Nat.reduceAdd];have m3:cW g n0 (xv 3) w6:=hd 3 EZ;obtain⟨g2,a,e3,m,r⟩:=m3;rw[e3];have HE:=J<|show cW g n0 (V (X ⟨a.gm,0,Z⟩)) w6 from⟨g2,a,O,m,r⟩;clear hd e3 m r;obtain⟨kr,ft,bb⟩:=hp;go_wp2_with fail;refine EQ (v:=Es #[V (X ⟨a.gm,0,Z⟩),EU gv]) (Efo UZ O _ _ gr _ _ O O kr GS.out) O ?_;rw[<-U0.out];exact⟨⟨g,_,by rw[GG.out],ft,HE.out⟩,bb⟩
section
variable{P:Program}
theorem GK{a:Act}(hg:o.guard=Z)(st T:Ez)(x:Operand)(n:Nat)(tv:Array M)(ho:o.op= .buildSlice st 1 #[(0,x)])(hx:a.eval x=EU tv)(hs:tv.size=n) (hu:P.underlying st=X (.slice T)) (hi: ∃ie z,P.info? T=X ie/\ie.zero=X z/\ie.size=n) (hn:0<n) (hn2:n<=1000) (h:wpList P ops Q rest (a.put o.dst (u (X ⟨w.heap.size,0,Z⟩) 1 1)) (w.alloc (EI tv T))):wpList P ops Q (o::rest) a w:=by obtain⟨ie,z,h1,h2,h3⟩:=hi;subst h3;refine wpList_buildSlice hg st T 1 _ ho tv ie z hu h1 h2 U U ?_ h;have e:(#[((0:Nat),x)].map fun(i,x)=>(i,a.eval x)).toList=([Value.agg tv].zipIdx 0).map fun x=>(x.2,x.1):=qm;rw[e];have hz:1*ie.size=((Array.range (1*ie.size)).map (z.cells[· %z.cells.size]!)).size:=Ek;have:=Great.fill_whole hn [Value.agg tv] ((Array.range (1*ie.size)).map (z.cells[· %z.cells.size]!)) (by simp[Value.cells,hs]) Ek;rw[this];simp[Value.cells]
end
theorem Efr: ∃ie z,Tryz.prog.info? 43=X ie/\ie.zero=X z/\ie.size=46:=by
 have h:(Tryz.prog.info? 43).map (fun i=>(i.zero.isSome,i.size))=X (G,46):=Ec;cases hi:Tryz.prog.info? 43 with
 |none=>rw[hi] at h;cases h
 |some ie=> rw[hi] at h;simp only[Option.map_some,Option.some.injEq,Prod.mk.injEq] at h;obtain⟨z,hz⟩:=Option.isSome_iff_exists.1 h.1;exact⟨ie,z,O,hz,h.2⟩
theorem Efs: ∃i z,Tryz.prog.info? 43=X i/\i.zero=X z/\i.size=46/\i.bytes=176/\z.cells.size=46:=by
 have h:(Tryz.prog.info? 43).map (fun i=>(i.zero.isSome,(i.zero.map fun z=>z.cells.size),i.size,i.bytes))=X (G,X 46,46,176):=Ec;cases hi:Tryz.prog.info? 43 with
 |none=>rw[hi] at h;cases h
 |some ie=> rw[hi] at h;simp only[Option.map_some,Option.some.injEq,Prod.mk.injEq] at h;obtain⟨z,hz⟩:=Option.isSome_iff_exists.1 h.1;rw[hz] at h;simp only[Option.map_some,Option.some.injEq] at h;exact⟨ie,z,O,hz,h.2.2.1,h.2.2.2,h.2.1⟩
theorem Eft(gl base b2:Nat)(A:Option Et)(n c:Nat)(xs:List M)(Y3:M)(m:Nat)(ys:List M)(w:H)(K:D w gl #[u A n c] 91)(hown:w.ownsRow base 43 46 (u A n c) n xs)(hu:w.ownsRow b2 43 46 Y3 m ys)(h1: ∀y∈ys,y.oneCell'=G)(hsz:n+m<=1000)(hb:base<=w.heap.size): Ef EJ 28 #[V (X ⟨gl,0,Z⟩),Y3] w fun e w'=>e=Eg (Es #[])/\ ∃A' c' w1,w'=w1.setCell ⟨gl,0,Z⟩ (u A' (n+m) c')/\D w1 gl #[u A n c] 91/\w1.ownsRow base 43 46 (u A' (n+m) c') (n+m) (xs++ys)/\w.grownBy w1 (Value.slice A n c).ownBlock:=by obtain⟨i,z,hI1,hI2,aN,aP,ui⟩:=Efs;obtain⟨Y4,d,rfl⟩:=mN hu;obtain⟨A9,c9,V5,hrun,d_,Zg⟩:=tN (P:=EJ) (w:=w) base b2 60 60 43 i z 46 176 Tryz.underlying60 hI1 hI2 aN aP ui U (u A n c) n xs hown (u Y4 m d) m ys hu h1 Ob U hb;have c0:w.cell? ⟨gl,0,Z⟩=X (u A n c):=(D.cell K 0).trans O;have OWN:=J d_;have KG:=J<|jR hown Zg K EZ;have GR:=J Zg;clear d_ Zg hI1 hI2 aN aP ui K hown hu h1;go_enter Tryz.func28,Tryz.ntmps28;go_wp2_with ((with_reducible refine In 10 ?_);(refine JT (Ei O) (Ov O O O hrun) ?_);refine Ed.mk ?_);refine Ed.in ?_;clear hrun c0;have c1:V5.cell? ⟨gl,0,Z⟩=X (u A n c):=(D.cell KG.out 0).trans O;have f1:V5.frozen? ⟨gl,0,Z⟩=Y:=D.Jw KG.out 0;go_wp2_with fail;go_end0;exact⟨O,A9,c9,V5,O,KG.out,OWN.out,GR.out⟩
theorem GL{P:Program}{a:Act}{off:Nat}{cs:List M}(hT:ID P T n)(hw:IQ o (yielded ops a.tmps)=G)(hl:gC o a T b off)(hr:Ea (w.rangeAt b off cs))(hn:cs.length=n) (h:wpList P ops Q rest (a.put o.dst (EU cs.toArray)) w):wpList P ops Q (o::rest) a w:=by
 obtain⟨⟨d,hu,hd⟩,hi⟩:=hT;unfold gC at hl;split at hl;·rename_i t x ho;obtain⟨rfl,hx⟩:=hl;refine JT hw ?_ h;have hrun:=run_loadVar_mid w b off t cs d hr.out hu kf bG;unfold execOp;exact Eiv
 ·exact hl.elim
def iM:JE:=⟨0,0,[],Y,0,0,0,0,Y,Y⟩
theorem Vu:Og EJ 48 (iM.cells Z 0).toArray:=by intro ev o w ho;unfold execOp;simp only[ho];simp[go_sem];exact congrArg (fun c=>w.alloc (EI c 48)) Ec
theorem Vv: ∃i z,Tryz.prog.info? 48=X i/\i.zero=X z/\i.size=10/\i.bytes=96/\z.cells.size=10:=by
 have h:(Tryz.prog.info? 48).map (fun i=>(i.zero.isSome,(i.zero.map fun z=>z.cells.size),i.size,i.bytes))=X (G,X 10,10,96):=Ec;cases hi:Tryz.prog.info? 48 with
 |none=>rw[hi] at h;cases h
 |some ie=> rw[hi] at h;simp only[Option.map_some,Option.some.injEq,Prod.mk.injEq] at h;obtain⟨z,hz⟩:=Option.isSome_iff_exists.1 h.1;rw[hz] at h;simp only[Option.map_some,Option.some.injEq] at h;exact⟨ie,z,O,hz,h.2.2.1,h.2.2.2,h.2.1⟩
abbrev cY:=List (JE×Option Et×Nat)
def m_(es:cY):List M:=es.flatMap fun x=>x.1.cells x.2.1 x.2.2
structure U3(n0:Nat)(W:H)(A:Option Et)(n c:Nat)(es:cY):Prop where
 own:W.ownsRow n0 48 10 (u A n c) n (m_ es)
 len:es.length=n
 each: ∀x∈es,x.1.ok/\x.1.b.length<=120/\Own W n0 x.2.1 x.2.2 x.1.b
theorem U3.B{c:Nat}{es:cY}(h:U3 n0 W A n c es)(hb:Below W.heap.size W W'):U3 n0 W' A n c es:=
 ⟨EW h.own fun _ _ hk=>D.B hk hb,h.len,fun x hx=>⟨(h.each x hx).1,(h.each x hx).2.1,XF (h.each x hx).2.2 hb⟩⟩
theorem U3.keep{c:Nat}{es:cY}(h:U3 n0 W A n c es)(hb: ∀S,S=48\/S=5-> ∀k cs,D W k cs S->D W' k cs S):U3 n0 W' A n c es:=
 ⟨EW h.own (hb _ (.inl O)),h.len,fun x hx=>⟨(h.each x hx).1,(h.each x hx).2.1,bC (h.each x hx).2.2 (hb _ (.inr O))⟩⟩
theorem JE.pD(e:JE)(A:Option Et)(d:Nat):(e.cells A d).length=10:=rfl
theorem Efu(es:cY): ∀(i j:Nat),j<10-> ∀x,es[i]?=X x->(m_ es)[i*10+j]?=(x.1.cells x.2.1 x.2.2)[j]?:=by
 induction es with
 |nil=>intro i j _ x h;simp at h
 |cons y t ih=>
  intro i j hj x h;rw[m_,List.flatMap_cons];match i,h with
  |0,h=> simp only[List.getElem?_cons_zero,Option.some.injEq] at h;subst h;rw[List.getElem?_append_left zX,Nat.zero_mul,Nat.zero_add]
  |i+1,h=> rw[List.getElem?_append_right zX,JE.pD,show(i+1)*10+j-10=i*10+j from U];exact ih i j hj x Ou
theorem Efv(es:cY)(x:JE×Option Et×Nat):m_ (es++[x])=m_ es++x.1.cells x.2.1 x.2.2:=by simp[m_]
theorem U3.at{c:Nat}{es:cY}(h:U3 n0 W A n c es)(i:Nat)(hi:i<n): ∃b x,A=X ⟨b,0,Z⟩/\es[i]?=X x/\x∈es/\n0<=b/\W.rangeAt b (i*10) (x.1.cells x.2.1 x.2.2):=by
 obtain⟨x,hx⟩: ∃x,es[i]?=X x:=⟨es[i]'(by rw[h.len];exact hi),List.getElem?_eq_getElem _⟩;rcases h.own.2 with⟨-,h0⟩|⟨g,cap,cur,hv,hb,hrest⟩;·omega
 ·injection hv with e1 e2 e3;subst e1 e3;refine⟨g,x,O,hx,List.mem_of_getElem? hx,hb,fun j v hj=> ?_⟩
  have hjl:j<10:=by
   rcases Nat.lt_or_ge j 10 with h|h;·exact h
   ·rw[List.getElem?_eq_none zX] at hj;cases hj
  rw[h.own.cellAt (i*10+j) U,Efu es i j hjl x hx];exact hj
theorem Efw(e:JE)(A A2:Option Et)(d d2:Nat)(n:Nat)(b:List Int)(h:b.length=n):(e.cells A d).toArray.setIfInBounds 2 (u A2 n d2)=(JE.cells {e with b:=b} A2 d2).toArray:=by subst h;rfl
theorem U3.nil(n0:Nat)(w:H)(h:n0<=w.heap.size):U3 n0 (w.alloc (EI #[] 48)) (X ⟨w.heap.size,0,Z⟩) 0 0 []:=
 ⟨World.ownsRow_lit w #[] 0 h Ob O,O,fun x hx=>absurd hx (List.not_mem_nil)⟩
theorem Efx(v:M)(w:H)(hv:pb w v): Ef EJ 11 #[v] w fun e w'=>(∃A n c es,e=Eg (u A n c)/\n<=60/\U3 w.heap.size w' A n c es)/\Below w.heap.size w w':=by
 obtain⟨A,m,cap,rfl,hx⟩:=hv;have HX:=J hx;obtain⟨n0,hn0⟩:=En w.heap.size;have E0:=J<|U3.nil n0 w U;have B0:Ea (Below n0 w (w.alloc (EI #[] 48))):=J (by rw[hn0];exact Eo w _);have B1:Ea (∀W,Below n0 w W->Below w.heap.size w W):=J Vw;have B2:Ea (∀W,Below w.heap.size w W->Below n0 w W):=J Vw;have HN:=J hn0;clear hx;rw[<-hn0];clear hn0;obtain⟨i,z,hI1,hI2,aN,aP,ui⟩:=Vv;have AP:=J<|fun(Y6:H) (Ax:Option Et) (n c:Nat) (es:cY) (Bx:Option Et) (x:JE×Option Et×Nat) (ho:U3 n0 Y6 Ax n c es) (hu:Y6.ownsRow n0 48 10 (u Bx 1 1) 1 (x.1.cells x.2.1 x.2.2)) (h1:n<=60) (hb:n0<=Y6.heap.size)=>tN (P:=EJ) (w:=Y6) n0 n0 29 29 48 i z 10 96 Tryz.underlying29 hI1 hI2 aN aP ui U (u Ax n c) n (m_ es) ho.own (u Bx 1 1) 1 (x.1.cells x.2.1 x.2.2) hu (fun y hy=>by have:=JE.one x.1 x.2.1 x.2.2;rw[Array.all_eq_true_iff_forall_mem] at this;exact this y (by simpa using hy)) Ob U hb;clear hI1 hI2 aN aP ui;go_enter Tryz.func11,Tryz.ntmps11;go_wp2_with fail;go_loopw[3,4] (fun x y wr=> ∃(i n c:Nat) (A:Option Et) (es:cY),i<=60/\n<=i/\y=E I i/\x=u A n c/\U3 n0 wr A n c es/\Below n0 w wr) (fun _ y _=>60-(intOf y).toNat);case atStart=>exact⟨0,0,0,_,_,U,U,O,O,E0.out,B0.out⟩
 case round=>
  clear E0 B0;obtain⟨i,n,c,Ao,es,Ehi,hni,rfl,rfl,EE,BB⟩:=hrel;replace EE:=J EE;replace BB:=J BB;by_cases hlt:i<m
  ·by_cases hl2:i<60
   ·have t1:decide ((i:Int)<(m:Int))=G:=Ia U;have t2:decide ((i:Int)<60)=G:=Ia U;obtain⟨b,off,hA,hcx⟩:=HX.out.resolve_left U;obtain⟨e,Ab,d,hin,hoc⟩:=hcx i hlt;subst hA
    have RA:Ea (wr.rangeAt b (off+i*10) (e.cells Ab d)):=J (by
     intro j v hj
     have hjl:j<10:=by
      rcases Nat.lt_or_ge j 10 with h|h;·exact h
      ·rw[List.getElem?_eq_none zX] at hj;cases hj
     have hc:=(hoc j hjl).trans hj;rw[(B1.out wr BB.out).cell (World.block_lt_of_cell? _ _ hc)];exact hc)
    have IN:=J<|hin.B (B1.out wr BB.out);obtain⟨k,hk⟩:=En (min e.b.length 120);have hk1:k<=d:=by have:=hin.le;omega
    have ek:min (e.b.length:Int) 120=(k:Int):=U;have hk2:k<=e.b.length/\k<=120:=U;have hd:=hin.max;obtain⟨lb,hlb⟩:=En e.b.length;rw[<-hlb] at ek hk2;have HLB:=J hlb;have ii:Ea ((iM.cells Z 0).toArray.size=10):=J O;have pF:Ea ((e.cells Ab d).toArray.size=10):=J O;have uj:=J<|e.one Ab d;have c2:(e.cells Ab d).toArray[2]?=X (u Ab lb d):=by rw[hlb];rfl
    obtain⟨cv,hcv⟩:=En ((e.cells Ab d).toArray);have Gy:=J hcv;have CL:Ea ((e.cells Ab d).length=10):=J<|JE.pD _ _ _;clear hcx hoc hin hk hlb;go_wp2_with (first|((with_reducible refine UB 48 ?_);(with_reducible refine GL (b:=b) (off:=off+i*10) (cs:=e.cells Ab d) jS ?_ ?_ RA ?_ ?_);(·exact Ei rfl);(·exact⟨rfl,rfl⟩);(·exact CL.out))|(with_reducible refine wA Vu (Ed.mk ?_)));refine Ed.in ?_;rw[<-hcv] at pF uj c2⊢;clear hcv RA;have KE:=J<|D.new wr (iM.cells Z 0).toArray 48;have b1:=Eo wr (EI (iM.cells Z 0).toArray 48);have Z_:=J (show n0<=wr.heap.size from Vx);obtain⟨ge,hge⟩:=En wr.heap.size;rw[<-hge] at KE Z_⊢;have HG2:=J (show wr.heap.size<=ge from U);clear hge;generalize wr.alloc (EI (iM.cells Z 0).toArray 48)=w1 at*;go_wp2_with (with_reducible refine wS (cs:=cv) jS KE (Ed.mk ?_) (ho:=ii.out) (hn:=pF.out) (h1:=uj.out));refine Ed.in ?_;have K1:=J<|KE.out.setRow cv;have b2:=E2 (g:=ge) b1 HG2.out cv;generalize w1.setRow ge cv=w2 at*;have EE2:=J<|EE.out.B b2;have XS:=J<|BB.out.trans (b2.mono Vx);have RB:=J<|Iq IN.out.row b2;have LTO:=J<|xh EE.out.own;clear KE b1 b2 EE BB;obtain⟨A5,c5,V5,hrun,GM,Vy,-⟩:=u4 (w2.alloc (EI #[] 5)) w2.heap.size (X ⟨w2.heap.size,0,Z⟩) 0 [] (Aj w2 w2.heap.size (E5 _)) Ab d (e.b.take k) (Iq (j9 RB.out k) (Eo w2 _)) (by have:=List.length_take_le k e.b;simp only[List.length_nil];omega) Ek 23;have hkl:(e.b.take k).length=k:=by rw[List.length_take,<-HLB.out];omega
    rw[hkl] at hrun;simp only[List.length_nil,Nat.zero_add] at hrun;rw[List.nil_append] at GM;have OWN:=J GM;have b5:=(Eo w2 (EI #[] 5)).trans Vy;have f2:(w2.alloc (EI #[] 5)).cell? ⟨ge,2,Z⟩=X (u Ab lb d):=((K1.out.B (Eo w2 _)).cell 2).trans c2;have aj:=J hkl;clear GM Vy hkl;go_wp2_with ((with_reducible refine In 29 ?_);(refine JT (Ei O) (Ov O O O hrun) ?_);refine Ed.mk ?_);refine Ed.in ?_;clear hrun f2;have K5:=J<|K1.out.B b5;have fX:=J<|EE2.out.B b5;have GG:=J<|show ge<V5.heap.size from K5.out.lt;have f5:V5.frozen? ⟨ge,2,Z⟩=Y:=K5.out.Jw 2;have g5:V5.cell? ⟨ge,2,Z⟩=X (u Ab lb d):=(K5.out.cell 2).trans c2;go_wp2_with (with_reducible refine Hu 48 ?_);refine Ed.in ?_;obtain⟨e2,he2⟩:=En ({e with b:=e.b.take k}:JE);have hc2:cv.setIfInBounds 2 (u A5 k c5)=(e2.cells A5 c5).toArray:=by rw[Gy.out,he2];exact Efw e Ab A5 d c5 k _ aj.out
    have K6:=J<|hc2▸K5.out.set 2 (u A5 k c5);have zZ:=OH (g:=ge) (W:=V5) 2 (u A5 k c5);have KU:=K5.out;have hb2:e2.b=e.b.take k:=by rw[he2]
    have EO:Ea (JE.ok e2/\e2.b.length<=120/\Own (V5.setCell ⟨ge,2,Z⟩ (u A5 k c5)) n0 A5 c5 e2.b):=J ⟨by rw[he2];exact⟨IN.out.ok.x0,IN.out.ok.x1,IN.out.ok.x2,IN.out.ok.x3⟩,by rw[hb2,aj.out];exact hk2.2,by rw[hb2];exact bC (X9 OWN.out Vz) fun _ _ hk=>zZ.Em hk (E7 hk KU EZ)⟩;have nE:Ea (U3 n0 (V5.setCell ⟨ge,2,Z⟩ (u A5 k c5)) Ao n c es):=J ⟨P9 fX.out.own fun a ha=>zZ.keep _ (Nat.ne_of_lt (Nat.lt_of_lt_of_le (LTO.out a ha) HG2.out)) (xh fX.out.own a ha),fX.out.len,fun x hx=>⟨(fX.out.each x hx).1,(fX.out.each x hx).2.1,bC (fX.out.each x hx).2.2 fun _ _ hk=>zZ.Em hk (E7 hk KU EZ)⟩⟩;have u3:=J<|(XS.out.trans (b5.mono Vz)).trans (zZ.bel n0 Z_.out (by have:=Z_.out;have:=GG.out;omega));generalize V5.setCell ⟨ge,2,Z⟩ (u A5 k c5)=w6 at*;have mQ:=J<|show(e2.cells A5 c5).toArray.size=10 from rfl;have za:=J (show∃ie z,Tryz.prog.info? 48=X ie/\ie.zero=X z/\ie.size=10 from VA);have b7:=Eo w6 (EI (e2.cells A5 c5).toArray 48);have GP:=J (show n0<=w6.heap.size by have:=u3.out.size;have:=HN.out;omega);obtain⟨A8,c8,V8,VB,VC,VD⟩:=AP.out (w6.alloc (EI (e2.cells A5 c5).toArray 48)) Ao n c es (X ⟨w6.heap.size,0,Z⟩) (e2,A5,c5) (nE.out.B b7) (World.ownsRow_lit w6 _ 1 GP.out Ob O) U VF;have OW8:=J VC;have VG:=J VD;clear VC VD AP;obtain⟨v2,hv2⟩:=En ((e2.cells A5 c5).toArray);rw[<-hv2] at K6 mQ VB;have sK:=J hv2;clear hv2 hc2;go_wp2_with (first|(with_reducible refine wL jS K6 ?_ (hn:=mQ.out))|((with_reducible refine In 33 ?_);(refine GK rfl 29 48 _ 10 v2 rfl rfl mQ.out Tryz.underlying29 za.out U U ?_))|((with_reducible refine In 34 ?_);(refine JT (Ei rfl) (Ov rfl rfl rfl VB) ?_)));refine⟨⟨i+1,n+1,c8,A8,es++[(e2,A5,c5)],U,U,Ek,O,⟨?_,?_,?_⟩,?_⟩,JN⟩;·rw[Efv];exact OW8.out
    ·rw[IL,nE.out.len];rfl
    ·intro x hx;have keep: ∀A c b,Own w6 n0 A c b->Own V8 n0 A c b:=fun A c b h=>bC h fun _ _ hk=>jR (nE.out.B b7).own VG.out (D.B hk b7) EZ;rcases List.mem_append.1 hx with hx|hx;·exact⟨(nE.out.each x hx).1,(nE.out.each x hx).2.1,keep _ _ _ (nE.out.each x hx).2.2⟩
     ·rw[List.mem_singleton.1 hx];exact⟨EO.out.1,EO.out.2.1,keep _ _ _ EO.out.2.2⟩
    ·exact(u3.out.trans (b7.mono GP.out)).trans (yt (nE.out.B b7).own VG.out VF)
   ·have t1:decide ((i:Int)<(m:Int))=G:=Ia U;have t2:decide ((i:Int)<60)=Y:=E9 U;exact EmX
  ·have t1:decide ((i:Int)<(m:Int))=Y:=E9 U;exact EmX
theorem EfC{r:Tmp}(hT:ID EJ T n)(h:fn.results= #[.tmp q,.cell p T,.tmp r])(tmps:Array M)(w:H)(g:Nat)(cs:Array M)(v Y3:M) (hp:tmps.getD p undef=V (X ⟨g,0,Z⟩)) (hq:tmps.getD q undef=v) (hr:tmps.getD r undef=Y3) (hg:D w g cs T) (hn:cs.size=n):(results fn tmps).run EJ w= .ok (Es #[v,EU cs,Y3]) w:=by
 have hp':tmps[p]?.getD undef=V (X ⟨g,0,Z⟩):=gy;have hq':tmps[q]?.getD undef=v:=kn;have hr':tmps[r]?.getD undef=Y3:=by simpa using hr
 simp[results,h,hp',hq',hr',asAddr,qS hT hg hn]
theorem EfD(gm:Nat)(v:M)(w:H)(h:w.cell? ⟨gm,1,Z⟩=X v): Ef EJ 29 #[V (X ⟨gm,0,Z⟩)] w fun e w'=>e=Eg v/\Below w.heap.size w w':=by go_enter Tryz.func29,Tryz.ntmps29;go_wp2_with fail;go_ret;exact⟨O,E6 _ _⟩
theorem EfF:Og EJ 91 #[u Z 0 0]:=by intro ev o w ho;unfold execOp;simp only[ho];simp[go_sem]
structure zc(n0 gm:Nat)(code:Int)(S:H->Prop)(Y5 PS:Array M->Prop):Prop where
 keep: ∀W W',S W->(∀k cs T,GF.contains T=G->D W k cs T->D W' k cs T)->Below n0 W W'->S W'
 step: ∀W (e:JE) A d,S W->e.ok->Own W 0 A d e.b->e.b.length<=120->Ef EJ 12 #[V (X ⟨gm,0,Z⟩),EU (e.cells A d).toArray] W fun en w'=> ∃tv:Array M,en=Eg (EU tv)/\tv.size=46/\tv.all (·.oneCell')=G/\Y5 tv/\S w'/\Jo n0 W.heap.size W w'
 site: ∀W,S W->Ef EJ 13 #[V (X ⟨gm,0,Z⟩)] W fun en w'=> ∃sv:Array M,en=Eg (EU sv)/\sv.size=31/\sv.all (·.oneCell')=G/\PS sv/\Below W.heap.size W w'
 code: ∀W,S W->W.cell? ⟨gm,1,Z⟩=X (E I code)
theorem zc.B{code:Int}{S:H->Prop}{PS:Array M->Prop}(h:zc n0 gm code S Y5 PS)(hs:S W)(hb:Below W.heap.size W W')(hn:n0<=W.heap.size):S W':=
 h.keep W W' hs (fun _ _ _ _ hk=>hk.B hb) (hb.mono hn)
def c_(Jd:List (Array M)):List M:=Jd.flatMap Array.toList
theorem EfG(Jd:List (Array M))(t:Array M):c_ (Jd++[t])=c_ Jd++t.toList:=by simp[c_]
structure iN(n0 gl:Nat)(n:Nat)(Y5:Array M->Prop)(W:H):Prop where
 ex: ∃(A:Option Et) (c:Nat) (Jd:List (Array M)),D W gl #[u A n c] 91/\W.ownsRow n0 43 46 (u A n c) n (c_ Jd)/\Jd.length=n/\ ∀tv∈Jd,Y5 tv/\tv.size=46
theorem iN.keep(h:iN n0 gl n Y5 W)(hb: ∀S,S=91\/S=43-> ∀k cs,D W k cs S->D W' k cs S):iN n0 gl n Y5 W':=by obtain⟨A,c,Jd,k,o,r⟩:=h;exact⟨A,c,Jd,hb _ (.inl O) _ _ k,EW o (hb _ (.inr O)),r⟩
theorem iN.B(h:iN n0 gl n Y5 W)(hb:Below W.heap.size W W'):iN n0 gl n Y5 W':=h.keep fun _ _ _ _ hk=>hk.B hb
def zd(gl gm:Nat)(n0 n:Nat)(code:Int)(Y5 PS:Array M->Prop)(j:Nat)(v:M)(w:H):Prop:=match j with
 |0=>v=V (X ⟨gl,0,Z⟩)
 |1=> ∃(A:Option Et) (c:Nat) (Jd:List (Array M)),v=u A n c/\w.ownsRow n0 43 46 (u A n c) n (c_ Jd)/\Jd.length=n/\ ∀tv∈Jd,Y5 tv/\tv.size=46
 |2=>v=V (X ⟨gm,0,Z⟩)
 |3=> ∃sv:Array M,v=EU sv/\sv.size=31/\sv.all (·.oneCell')=G/\PS sv
 |4=>v=V (X ⟨gm,0,Z⟩)
 |_=>v=E I code
theorem EfH(gl gm:Nat)(n0 n:Nat)(code:Int)(Y5 PS:Array M->Prop): ∀j v w w',j<6->zd gl gm n0 n code Y5 PS j v w->Jr w w'->zd gl gm n0 n code Y5 PS j v w':=by
 intro j v w w' hi h hb;unfold zd at*;split at h;case h_2=>obtain⟨A,c,Jd,e,o,r⟩:=h;exact⟨A,c,Jd,e,EW o fun _ _ hk=>D.B hk hb,r⟩
 all_goals exact h
theorem EfK(pv:Array M)(Y5:Array M->Prop)(PS:Int->Array M->Prop)(b0:Nat)(A0:Option Et)(n c0:Nat)(es:cY)(w:H)(hp:pv.size=56)(hn:n<=60)(hE:U3 b0 w A0 n c0 es) (hN: ∀W,Below w.heap.size w W->Ef EJ 10 #[EU pv] W fun e w'=>(∃gm code S,e=Eg (V (X ⟨gm,0,Z⟩))/\zc w.heap.size gm code S Y5 (PS code)/\S w')/\Below W.heap.size W w'): Ef EJ 14 #[EU pv,u A0 n c0] w fun e w'=>(∃A c Jd sv code,e=Eg (Es #[u A n c,EU sv,E I code])/\w'.ownsRow w.heap.size 43 46 (u A n c) n (c_ Jd)/\Jd.length=n/\(∀tv∈Jd,Y5 tv/\tv.size=46)/\sv.size=31/\PS code sv)/\Below w.heap.size w w':=by
 obtain⟨n0,hn0⟩:=En w.heap.size;rw[<-hn0] at hN⊢;have CN:=J hN;have HN:=J hn0;have HP:=J hp;have K0:=J<|D.new w pv 28;have b1:=Eo w (EI pv 28);have EE:=J hE;clear hN hn0 hp hE;go_enter Tryz.func14,Tryz.ntmps14;go_wp2_with (with_reducible refine wA FG (Ed.mk ?_));refine Ed.in ?_;obtain⟨zs,hzs⟩:=En bv;rw[<-hzs];have ZS:Ea (zs.size=31):=J VH;clear hzs;have zg:Ea (D ((w.alloc (EI pv 28)).alloc (EI zs 54)) (w.heap.size+1) zs 54):=J (by have:=D.new (w.alloc (EI pv 28)) zs 54;simpa using this);have b2:=Eo (w.alloc (EI pv 28)) (EI zs 54);have KP:=J<|K0.out.B b2;have bb:=bt b1 b2;replace EE:=J<|EE.out.B bb;have BB:Ea (Below n0 w ((w.alloc (EI pv 28)).alloc (EI zs 54))):=J (by rw[HN.out];exact bb);have GT:Ea (n0<=w.heap.size+1):=J JP;clear b1 b2 bb K0;obtain⟨gs,hgs⟩:=En (w.heap.size+1);obtain⟨gp,O8⟩:=En w.heap.size;rw[<-hgs] at zg GT⊢;rw[<-O8] at KP⊢;clear hgs O8;generalize (w.alloc (EI pv 28)).alloc (EI zs 54)=w2 at*;go_wp2_with (with_reducible refine wL UZ KP ?_ (hn:=HP.out));(with_reducible refine(CN.out _ BB.out).mono ?_);rintro e w3 ⟨⟨gm,code,S,rfl,rs,ss⟩,b3⟩;have RS:=J rs;have SS:=J ss;have KS:=J<|zg.out.B b3;replace EE:=J<|EE.out.B b3;have HS2:=J (show n0<=w2.heap.size by have:=GT.out;have:=zg.out.lt;omega);replace BB:=J<|BB.out.trans (b3.mono HS2.out);have LN:=J<|Ey HS2.out b3.size;clear rs ss b3 KP zg CN HS2;go_wp2_with (with_reducible refine wA EfF (Ed.mk ?_));refine Ed.in ?_;have GW:=J<|D.new w3 #[u Z 0 0] 91;have b4:=Eo w3 (EI #[u Z 0 0] 91);have iB:=J<|show n0<=w3.heap.size from LN.out;obtain⟨gl,hgl⟩:=En w3.heap.size;rw[<-hgl] at GW iB⊢;clear hgl;replace SS:=J<|RS.out.B SS.out b4 LN.out;replace KS:=J<|KS.out.B b4;replace EE:=J<|EE.out.B b4;replace BB:=J<|BB.out.trans (b4.mono LN.out);replace LN:=J<|Ey LN.out b4.size;have TL:Ea (iN n0 gl 0 Y5 (w3.alloc (EI #[u Z 0 0] 91))):=J ⟨Z,0,[],GW.out,World.ownsRow_nil _ _ _ _,O,fun tv h=>absurd h (List.not_mem_nil)⟩;clear b4 GW;generalize w3.alloc (EI #[u Z 0 0] 91)=w4 at*;go_wp2_with fail;go_loopw[15] (fun y wr=> ∃i:Nat,i<=n/\y=E I i/\S wr/\D wr gs zs 54/\U3 b0 wr A0 n c0 es/\iN n0 gl i Y5 wr/\Below n0 w wr/\n0<=wr.heap.size) (fun y _=>n-(intOf y).toNat);case atStart=>exact⟨0,U,O,SS.out,KS.out,EE.out,TL.out,BB.out,LN.out⟩
 case round=>
  clear SS KS EE TL BB LN;obtain⟨i,hin,rfl,SS,KS,EE,TL,BB,LN⟩:=hrel;replace SS:=J SS;replace KS:=J KS;replace EE:=J EE;replace TL:=J TL;replace BB:=J BB;replace LN:=J LN;by_cases hlt:i<n
  ·have t1:decide ((i:Int)<(n:Int))=G:=Ia U;obtain⟨b,x,hA,hx1,hx2,-,hra⟩:=EE.out.at i hlt;obtain⟨eo,el,ew⟩:=EE.out.each x hx2;subst hA;have RA:=J hra;have OW:=J ew;have EO:=J<|And.intro eo el;have CL:Ea ((x.1.cells x.2.1 x.2.2).length=10):=J<|JE.pD _ _ _;have pF:Ea ((x.1.cells x.2.1 x.2.2).toArray.size=10):=J O;have uj:=J<|x.1.one x.2.1 x.2.2;have ii:Ea ((iM.cells Z 0).toArray.size=10):=J O;have pG:=J<|fun W (hs:S W) (ho:Own W 0 x.2.1 x.2.2 x.1.b)=>RS.out.step W x.1 x.2.1 x.2.2 hs eo ho el;clear hx1 hra ew eo el;go_wp2_with (first|((with_reducible refine UB 48 ?_);(with_reducible refine GL (b:=b) (off:=i*10) (cs:=x.1.cells x.2.1 x.2.2) jS ?_ ?_ RA ?_ ?_);(·exact Ei rfl);(·exact⟨rfl,rfl⟩);(·exact CL.out))|(with_reducible refine wA Vu (Ed.mk ?_)));refine Ed.in ?_;have KE:=J<|D.new wr (iM.cells Z 0).toArray 48;have b1:=Eo wr (EI (iM.cells Z 0).toArray 48);obtain⟨cv,hcv⟩:=En ((x.1.cells x.2.1 x.2.2).toArray);obtain⟨ge,hge⟩:=En wr.heap.size;rw[<-hcv] at pF uj⊢;simp only[<-hcv] at pG;rw[<-hge] at KE⊢;have HG2:=J (show wr.heap.size<=ge from U);clear hge hcv RA;generalize wr.alloc (EI (iM.cells Z 0).toArray 48)=w1 at*;go_wp2_with (with_reducible refine wS (cs:=cv) jS KE (Ed.mk ?_) (ho:=ii.out) (hn:=pF.out) (h1:=uj.out));refine Ed.in ?_;have VK:=J<|KE.out.setRow cv;have b2:=E2 (g:=ge) b1 HG2.out cv;generalize w1.setRow ge cv=w2 at*;replace SS:=J<|RS.out.B SS.out b2 LN.out;replace KS:=J<|KS.out.B b2;replace EE:=J<|EE.out.B b2;replace TL:=J<|TL.out.B b2;replace BB:=J<|BB.out.trans (b2.mono LN.out);replace OW:=J<|X9 (XF OW.out b2) (Nat.zero_le _);replace LN:=J<|Ey LN.out b2.size;clear KE b1 b2;go_wp2_with (with_reducible refine wL jS VK ?_ (hn:=pF.out));(with_reducible refine(pG.out _ SS.out OW.out).mono ?_);rintro e w5 ⟨tv,rfl,ts,tn,tg,ss,mm⟩;have TS:=J ts;have TO:=J tn;have TG:=J tg;have zi:=J ss;have zj:=J<|mm.Em _ _ _ KS.out.lt EZ EZ KS.out;have fX:=J<|EE.out.keep fun S hS k cs hk=>mm.Em k cs S hk.lt iP iP hk;have VL:=J<|TL.out.keep fun S hS k cs hk=>mm.Em k cs S hk.lt iP iP hk;have zk:=J<|BB.out.trans mm.bel;have go:=J<|Ey LN.out mm.bel.size;clear ts tn tg ss mm SS KS EE TL BB LN VK OW pG;go_wp2_with ((with_reducible refine In 22 ?_);(refine GK O 60 43 _ 46 tv O O TS.out Tryz.underlying60 Efr U U ?_);refine Ed.mk ?_);refine Ed.in ?_;have b6:=Eo w5 (EI tv 43);have GY:=J<|World.ownsRow_lit (base:=n0) (e:=43) (size:=46) w5 tv 1 go.out Ob (by rw[TS.out]);obtain⟨gt,hgt⟩:=En w5.heap.size;rw[<-hgt] at GY⊢;clear hgt;replace zi:=J<|RS.out.B zi.out b6 go.out;replace zj:=J<|zj.out.B b6;replace fX:=J<|fX.out.B b6;obtain⟨A,c,Jd,kl,own,VM,VN⟩:=(VL.out.B b6).ex;have KL:=J kl;have OWN:=J own;have VP:=J<|And.intro VM VN;replace zk:=J<|zk.out.trans (b6.mono go.out);replace go:=J<|Ey go.out b6.size;clear b6 kl own VM VN VL;generalize w5.alloc (EI tv 43)=w6 at*;go_wp2_with fail;(with_reducible refine(Eft gl n0 n0 A i c (c_ Jd) (u (X ⟨gt,0,Z⟩) 1 1) 1 tv.toList w6 KL.out OWN.out GY.out (fun y hy=>by have:=TO.out;rw[Array.all_eq_true_iff_forall_mem] at this;exact this y (by simpa using hy)) U go.out).mono ?_);rintro e w9 ⟨rfl,A9,c9,w7,rfl,k7,VQ,gr⟩;have on:=OH (g:=gl) (W:=w7) 0 (u A9 (i+1) c9);have Ehj:=J iB.out;have b7:=yt OWN.out gr go.out;have kp: ∀k cs T,T≠43->T≠91->D w6 k cs T->D (w7.setCell ⟨gl,0,Z⟩ (u A9 (i+1) c9)) k cs T:=fun k cs T h1 h2 hk=>on.Em (jR OWN.out gr hk h1) (E7 (jR OWN.out gr hk h1) k7 h2);have b8:Below n0 w6 (w7.setCell ⟨gl,0,Z⟩ (u A9 (i+1) c9)):=b7.trans (on.bel n0 iB.out (Ey go.out b7.size));have SS9:=J<|RS.out.keep _ _ zi.out (fun k cs T hT hk=>kp k cs T VR VR hk) b8;have uk:=J<|kp _ _ _ EZ EZ zj.out;have ul:=J<|fX.out.keep fun S hS k cs hk=>kp k cs S iP iP hk;have nI:=J<|zk.out.trans b8;have G0:=J<|Ey go.out b8.size
   have zl:Ea (iN n0 gl (i+1) Y5 (w7.setCell ⟨gl,0,Z⟩ (u A9 (i+1) c9))):=J ⟨A9,c9,Jd++[tv],k7.set 0 _,by rw[EfG];exact EW VQ fun _ _ hk=>on.Em hk (E7 hk k7 EZ),by rw[IL,VP.out.1];rfl,fun t ht=>by
    rcases List.mem_append.1 ht with ht|ht;·exact VP.out.2 t ht
    ·rw[List.mem_singleton.1 ht];exact⟨TG.out,TS.out⟩⟩
   clear on b7 b8 kp k7 VQ gr zi zj fX zk go KL OWN GY;generalize w7.setCell ⟨gl,0,Z⟩ (u A9 (i+1) c9)=w8 at*;go_wp2_with fail;exact⟨⟨i+1,U,Ek,SS9.out,uk.out,ul.out,zl.out,nI.out,G0.out⟩,JN⟩
  ·have t1:decide ((i:Int)<(n:Int))=Y:=E9 U;obtain rfl:i=n:=U;go_wp2_with fail;refine Zj EF Ec 6 Ec Ek EZ (zd gl gm n0 i code Y5 (PS code)) (EfH _ _ _ _ _ _ _) ?_ ?_
   ·simp only[U6,Il,Ij,EB,Ic,Ig,IJ,IU,and_true];refine⟨?_,?_,?_,?_,?_,?_⟩;all_goals intro v w' hb hd
    ·exact EiU
    ·have d0:v 0=V (X ⟨gl,0,Z⟩):=hd.at 0 rfl;obtain⟨A,c,Jd,k,o,r⟩:=(TL.out.B hb).ex;have hc:w'.cell? ⟨gl,0,Z⟩=X (u A i c):=(k.cell 0).trans O;exact E_ EF (Ei O) (by simp[go_sem,d0,hc]) ⟨A,c,Jd,O,o,r⟩
    ·exact EiU
    ·have d2:v 2=V (X ⟨gm,0,Z⟩):=hd.at 2 rfl;refine JY (f:=13) (args:= #[v 2]) (Ei O) Ew ?_;rw[d2];exact(RS.out.site w' (RS.out.B SS.out hb LN.out)).mono fun e w'' ⟨sv,he,h1,h2,h3,hb'⟩=>⟨_,he,hb',sv,O,h1,h2,h3⟩
    ·exact EiU
    ·have d4:v 4=V (X ⟨gm,0,Z⟩):=hd.at 4 rfl;refine JY (f:=29) (args:= #[v 4]) (Ei O) Ew ?_;rw[d4];exact(EfD gm _ w' (RS.out.code w' (RS.out.B SS.out hb LN.out))).mono fun e w'' ⟨he,hb'⟩=>⟨_,he,hb',O⟩
   ·intro v w9 hb hr;obtain⟨A,c,Jd,d1,own,tl⟩: ∃(A:Option Et) (c:Nat) (Jd:List (Array M)),v 1=u A i c/\w9.ownsRow n0 43 46 (u A i c) i (c_ Jd)/\Jd.length=i/\ ∀tv∈Jd,Y5 tv/\tv.size=46:=hr 1 U;obtain⟨sv,d3,sz,so,ps⟩: ∃sv:Array M,v 3=EU sv/\sv.size=31/\sv.all (·.oneCell')=G/\PS code sv:=hr 3 U;have d5:v 5=E I code:=hr 5 U;simp only[Il,Ij,Iz,Ix,EB,Ic,Ig,IJ,IU];rw[d1,d3,d5];have uk:=J<|KS.out.B hb;have nI:=J<|BB.out.trans (hb.mono LN.out);have OWN:=J own;have zl:=J tl;have SZ:=J sz;have SO:=J so;have PP:=J ps;have G0:=J<|Ey LN.out hb.size;clear own tl sz so ps hr hb d1 d3 d5 SS KS EE TL BB;go_wp2_with (with_reducible refine wS (cs:=sv) tF uk ?_ (ho:=ZS.out) (hn:=SZ.out) (h1:=SO.out));have on:=Od (g:=gs) (W:=w9) sv;refine EQ (v:=Es #[u A i c,EU sv,E I code]) (EfC tF O _ _ gs sv _ _ O O O (uk.out.setRow sv) SZ.out) O ?_;exact⟨⟨A,c,Jd,sv,code,O,EW OWN.out fun _ _ hk=>on.Em hk (E7 hk uk.out EZ),zl.out.1,zl.out.2,SZ.out,PP.out⟩,nI.out.trans (on.bel n0 GT.out G0.out)⟩
end Go.Proofs.YtclmichaaiohjaaGreatDoor
