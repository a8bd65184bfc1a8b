import Derived.Test.YtclmichaaiohjaaGreatDoorP11
import Derived.RangeFuncRecord
import Derived.WalkMore
set_option maxRecDepth 100000
set_option linter.unusedVariables false
set_option linter.unusedSimpArgs false
set_option maxHeartbeats 6400000
namespace Go.Proofs.YtclmichaaiohjaaGreatDoor
open RowKit
open _root_.Array renaming getElem?_eq_some_iff->Ja
open Bool renaming true->G,false->Y
open Go renaming World->H,Calls->Ef,TypeId->Ez,Value->M,Addr->Et,bodyPost_ret->EQ,Oper->EK,below_setRow->E2
open Act renaming put->Ic
open Ending renaming returned->Eg
open IntKind renaming i64->I,u8->IB
open Lib renaming hid->J
open Obj renaming cells->EI
open Go.Proofs.Tryz renaming prog->EJ
open Region renaming wanted->IQ
open RowKit renaming Hid->Ea
open RowKit.Below renaming refl->E6
open Value renaming bool->Eb,int->E,agg->EU,slice->u,tuple->Es,pointer->V
open List renaming take_succ_cons->Il,take_zero->Ij,setIfInBounds_toArray->Ig,length_append->IL,set_cons_succ->IJ,set_cons_zero->IU,drop_succ_cons->Iz,drop_zero->Ix
open Nat renaming le_trans->Ey,le_refl->E5
open Option renaming some->X,none->Z
open KQ
variable{W W' w w':H}{base k gs b size n hi lo d ge gb gm l ga gr Y_ m:Nat}{A:Option Et}{c c':EA}{T S:Ez}{v sv rv:M}{o o2:Obj}{g:Nat->M}{rs:Int->List Int}{Q:Exit->Act->H->Prop}{R:Ending->H->Prop}{cs:Array M}{P:Program}{rc:Loop}{act:List M}{hd:List Int}
theorem EcN(b off:Nat)(a:Int)(n c:Nat)(w:H)(hn:([a]).length=n)(hr:Row w (X ⟨b,off,Z⟩) ([a]))(hc:n<=c)(hm:c<=9223372036854775807): Ef EJ 83 #[u (X ⟨b,off,Z⟩) n c] w fun e w'=>(∃Y3,e=Eg Y3/\mG w' w.heap.size (nx ([a])) Y3)/\Eh w w':=by
 have HR:=J hr;have HN:=J hn;clear hr;obtain⟨f,hf⟩:=En (nx ([a]));rw[<-hf];have HF:=J hf;have I5:=J<|JF w (EI #[E I 0,E I 0,E I 0,u Z 0 0] 101) (EI #[E I 0,E I 0,E I 0,u Z 0 0] 101);have K2:Ea (D ((w.alloc (EI #[E I 0,E I 0,E I 0,u Z 0 0] 101)).alloc (EI #[E I 0,E I 0,E I 0,u Z 0 0] 101)) w.heap.size #[E I 0,E I 0,E I 0,u Z 0 0] 101):=J<|D.B (D.new w #[E I 0,E I 0,E I 0,u Z 0 0] 101) (Eo _ _);have K3:Ea (D ((w.alloc (EI #[E I 0,E I 0,E I 0,u Z 0 0] 101)).alloc (EI #[E I 0,E I 0,E I 0,u Z 0 0] 101)) (w.heap.size+1) #[E I 0,E I 0,E I 0,u Z 0 0] 101):=J FH;have OW:=J<|XJ ((w.alloc (EI #[E I 0,E I 0,E I 0,u Z 0 0] 101)).alloc (EI #[E I 0,E I 0,E I 0,u Z 0 0] 101)) w.heap.size;have TS:=0;have TO:=0;have JM:=0;clear hf;obtain rfl:n=1:=hn.symm;go_enter Tryz.func83,Tryz.ntmps83;have c0:((w.alloc (EI #[E I 0,E I 0,E I 0,u Z 0 0] 101)).alloc (EI #[E I 0,E I 0,E I 0,u Z 0 0] 101)).cell? ⟨b,off,Z⟩=X (E IB a):=mH (Iq HR.out I5.out) 0 rfl;by_cases h5:a=165;·have q5:(a !=165)=Y:=tH;replace HF:Ea (f=jN ([])):=J<|HF.out.trans (by rw[gU,if_neg U]);clear h5;exact Ejp
 ·have q5:(a !=165)=G:=tK;replace HF:Ea (f=gO (O9 ([a]))):=J<|HF.out.trans tL;clear h5;go_wp2_with fail;(with_reducible refine(tG (X ⟨b,off,Z⟩) ([a]) 1 c _ oc U (Iq HR.out I5.out) U).mono ?_);rintro e W1 ⟨rfl,b2⟩;replace OW:=J<|XF OW.out b2;replace K2:=EN K2 b2;replace K3:=EN K3 b2;replace I5:=ET I5 b2;clear b2 c0 OW;obtain⟨OJ,IE⟩:=En (#[E I 1,E I (O9 ([a])),E I 0,u Z 0 0]:Array M);rw[<-IE];have jP:=TS;clear TS TO JM;have TS:Ea (OJ.size=4):=J bA;have TO:Ea (OJ.all (·.oneCell')=G):=J bB;have JM:=J IE;clear IE;have OW:=J<|XJ W1 w.heap.size;go_wp2_with (with_reducible refine wS (cs:=OJ) JK K3 (Ed.mk ?_) (ho:=jQ) (hn:=TS.out) (h1:=TO.out));refine Ed.in ?_;have hne:w.heap.size≠(w.heap.size+1):=U;replace OW:=J<|Zc OW.out K3.out OJ;replace I5:=J<|E2 I5.out (U:w.heap.size<=(w.heap.size+1)) OJ;replace K2:=J<|(Od OJ).Em K2.out hne;replace K3:=J<|K3.out.setRow OJ;clear hne;generalize W1.setRow (w.heap.size+1) OJ=V1 at*;go_wp2_with (with_reducible first|refine wL JK K3 ?_ (hn:=TS.out)|refine wS (cs:=OJ) JK K2 ?_ (hn:=TS.out) (h1:=TO.out));refine EQ (Jb JK O _ _ w.heap.size OJ O (K2.out.setRow OJ) TS.out) O ?_;rw[JM.out,HF.out];exact EjJ
theorem EcP(b off:Nat)(a v:Int)(n c:Nat)(w:H)(hn:([a,v]).length=n)(hr:Row w (X ⟨b,off,Z⟩) ([a,v]))(hc:n<=c)(hm:c<=9223372036854775807): Ef EJ 83 #[u (X ⟨b,off,Z⟩) n c] w fun e w'=>(∃Y3,e=Eg Y3/\mG w' w.heap.size (nx ([a,v])) Y3)/\Eh w w':=by
 have HR:=J hr;have HN:=J hn;clear hr;obtain⟨f,hf⟩:=En (nx ([a,v]));rw[<-hf];have HF:=J hf;have I5:=J<|JF w (EI #[E I 0,E I 0,E I 0,u Z 0 0] 101) (EI #[E I 0,E I 0,E I 0,u Z 0 0] 101);have K2:Ea (D ((w.alloc (EI #[E I 0,E I 0,E I 0,u Z 0 0] 101)).alloc (EI #[E I 0,E I 0,E I 0,u Z 0 0] 101)) w.heap.size #[E I 0,E I 0,E I 0,u Z 0 0] 101):=J<|D.B (D.new w #[E I 0,E I 0,E I 0,u Z 0 0] 101) (Eo _ _);have K3:Ea (D ((w.alloc (EI #[E I 0,E I 0,E I 0,u Z 0 0] 101)).alloc (EI #[E I 0,E I 0,E I 0,u Z 0 0] 101)) (w.heap.size+1) #[E I 0,E I 0,E I 0,u Z 0 0] 101):=J FH;have OW:=J<|XJ ((w.alloc (EI #[E I 0,E I 0,E I 0,u Z 0 0] 101)).alloc (EI #[E I 0,E I 0,E I 0,u Z 0 0] 101)) w.heap.size;have TS:=0;have TO:=0;have JM:=0;clear hf;obtain rfl:n=2:=hn.symm;go_enter Tryz.func83,Tryz.ntmps83;have c1:((w.alloc (EI #[E I 0,E I 0,E I 0,u Z 0 0] 101)).alloc (EI #[E I 0,E I 0,E I 0,u Z 0 0] 101)).cell? ⟨b,off+1,Z⟩=X (E IB v):=mH (Iq HR.out I5.out) 1 rfl;by_cases h1:v=1
 ·have q1:(v !=1)=Y:=by rw[h1];rfl
  have c0:((w.alloc (EI #[E I 0,E I 0,E I 0,u Z 0 0] 101)).alloc (EI #[E I 0,E I 0,E I 0,u Z 0 0] 101)).cell? ⟨b,off,Z⟩=X (E IB a):=mH (Iq HR.out I5.out) 0 rfl;by_cases h5:a=165;·have q5:(a !=165)=Y:=tH;replace HF:Ea (f=jN ([v])):=J<|HF.out.trans (by rw[gU,if_neg U]);clear h5;have HF:=J<|HF.out.trans (by rw[mC,if_neg U];rfl:_=aO);exact Ejp
  ·exact EmC
 ·have q1:(v !=1)=G:=oA;go_wp2_with fail;(with_reducible refine(yo 10 _).mono ?_);rintro e W1 ⟨rfl,b2⟩;replace OW:=J<|XF OW.out b2;replace K2:=EN K2 b2;replace K3:=EN K3 b2;replace I5:=ET I5 b2;clear b2 c1 OW;obtain⟨OJ,IE⟩:=En (#[E I 3,E I 1,E I 10,u Z 0 0]:Array M);rw[<-IE];have jP:=TS;clear TS TO JM;have TS:Ea (OJ.size=4):=J bA;have TO:Ea (OJ.all (·.oneCell')=G):=J bB;have JM:=J IE;clear IE;have OW:=J<|XJ W1 w.heap.size;go_wp2_with (with_reducible refine wS (cs:=OJ) JK K3 (Ed.mk ?_) (ho:=jQ) (hn:=TS.out) (h1:=TO.out));refine Ed.in ?_;have hne:w.heap.size≠(w.heap.size+1):=U;replace OW:=J<|Zc OW.out K3.out OJ;replace I5:=J<|E2 I5.out (U:w.heap.size<=(w.heap.size+1)) OJ;replace K2:=J<|(Od OJ).Em K2.out hne;replace K3:=J<|K3.out.setRow OJ;clear hne;generalize W1.setRow (w.heap.size+1) OJ=V1 at*;have c0:V1.cell? ⟨b,off,Z⟩=X (E IB a):=mH (Iq HR.out I5.out) 0 rfl;by_cases h5:a=165;·have q5:(a !=165)=Y:=tH;clear h5;go_wp2_with (with_reducible first|refine wL JK K3 ?_ (hn:=TS.out)|refine wS (cs:=OJ) JK K2 ?_ (hn:=TS.out) (h1:=TO.out));refine EQ (Jb JK O _ _ w.heap.size OJ O (K2.out.setRow OJ) TS.out) O ?_;rw[JM.out,HF.out,gU,if_neg (by simpa using q5),mC,if_pos h1];exact⟨⟨_,O,_,_,O,Zc OW.out K2.out _⟩,E2 I5.out (E5 _) _⟩
  ·exact EmC
theorem EcQ(b off:Nat)(a v:Int)(k:Nat)(r:List Int)(n c:Nat)(w:H)(hn:(a::v::(k:Int)::r).length=n)(hr:Row w (X ⟨b,off,Z⟩) (a::v::(k:Int)::r))(hc:n<=c)(hm:c<=9223372036854775807): Ef EJ 83 #[u (X ⟨b,off,Z⟩) n c] w fun e w'=>(∃Y3,e=Eg Y3/\mG w' w.heap.size (nx (a::v::(k:Int)::r)) Y3)/\Eh w w':=by
 have HR:=J hr;have HN:=J hn;clear hr;obtain⟨f,hf⟩:=En (nx (a::v::(k:Int)::r));rw[<-hf];have HF:=J hf;have I5:=J<|JF w (EI #[E I 0,E I 0,E I 0,u Z 0 0] 101) (EI #[E I 0,E I 0,E I 0,u Z 0 0] 101);have K2:Ea (D ((w.alloc (EI #[E I 0,E I 0,E I 0,u Z 0 0] 101)).alloc (EI #[E I 0,E I 0,E I 0,u Z 0 0] 101)) w.heap.size #[E I 0,E I 0,E I 0,u Z 0 0] 101):=J<|D.B (D.new w #[E I 0,E I 0,E I 0,u Z 0 0] 101) (Eo _ _);have K3:Ea (D ((w.alloc (EI #[E I 0,E I 0,E I 0,u Z 0 0] 101)).alloc (EI #[E I 0,E I 0,E I 0,u Z 0 0] 101)) (w.heap.size+1) #[E I 0,E I 0,E I 0,u Z 0 0] 101):=J FH;have OW:=J<|XJ ((w.alloc (EI #[E I 0,E I 0,E I 0,u Z 0 0] 101)).alloc (EI #[E I 0,E I 0,E I 0,u Z 0 0] 101)) w.heap.size;have TS:=0;have TO:=0;have JM:=0;clear hf
 have tm:min (n:Int) 3=3:=by have:3<=n:=by rw[<-hn];simp
                             omega
 have EcR:=I5;go_enter Tryz.func83,Tryz.ntmps83;go_wp2_with fail;(with_reducible refine(EcM b off a v k r n c _ Al (Iq HR.out I5.out) hc hm).mono ?_);rintro e W0 ⟨⟨Y3,rfl,A9,c9,rfl,ow⟩,b2⟩;replace K2:=EN K2 b2;replace K3:=EN K3 b2;replace I5:=ET I5 b2;replace OW:=J<|X9 ow (show w.heap.size<=_ from EcR.out.size);clear b2 ow;have kP:(bu v k r).b=(bu v k r).b:=rfl;obtain⟨Ik,IE⟩:=En (#[E I (bu v k r).kd,E I (bu v k r).sz,E I (bu v k r).cd,.slice A9 (bu v k r).b.length c9]:Array M);rw[<-IE];have jP:=TS;clear TS TO JM;have TS:Ea (Ik.size=4):=J bA;have TO:Ea (Ik.all (·.oneCell')=G):=J bB;have JM:=J IE;clear IE;go_wp2_with (with_reducible refine wS (cs:=Ik) JK K3 (Ed.mk ?_) (ho:=jQ) (hn:=TS.out) (h1:=TO.out));refine Ed.in ?_;have hne:w.heap.size≠(w.heap.size+1):=U;replace OW:=J<|Zc OW.out K3.out Ik;replace I5:=J<|E2 I5.out (U:w.heap.size<=(w.heap.size+1)) Ik;replace K2:=J<|(Od Ik).Em K2.out hne;replace K3:=J<|K3.out.setRow Ik;clear hne;generalize W0.setRow (w.heap.size+1) Ik=V0 at*;have c1:V0.cell? ⟨b,off+1,Z⟩=X (E IB v):=mH (Iq HR.out I5.out) 1 rfl;by_cases h1:v=1
 ·have q1:(v !=1)=Y:=by rw[h1];rfl
  subst h1;have c0:V0.cell? ⟨b,off,Z⟩=X (E IB a):=mH (Iq HR.out I5.out) 0 rfl;by_cases h5:a=165;·have q5:(a !=165)=Y:=tH;replace HF:Ea (f=jN (1::(k:Int)::r)):=J<|HF.out.trans (by rw[gU,if_neg U]);clear h5;go_wp2_with (with_reducible first|refine wL JK K3 ?_ (hn:=TS.out)|refine wS (cs:=Ik) JK K2 ?_ (hn:=TS.out) (h1:=TO.out));refine EQ (Jb JK O _ _ w.heap.size Ik O (K2.out.setRow Ik) TS.out) O ?_;rw[JM.out,HF.out,mC,if_neg Ek];exact EjJ
  ·have q5:(a !=165)=G:=tK;replace HF:Ea (f=gO (O9 (a::1::(k:Int)::r))):=J<|HF.out.trans tL;clear h5;go_wp2_with fail;(with_reducible refine(tG (X ⟨b,off,Z⟩) (a::1::(k:Int)::r) n c _ oc U (Iq HR.out I5.out) U).mono ?_);rintro e W2 ⟨rfl,b2⟩;replace OW:=J<|XF OW.out b2;replace K2:=EN K2 b2;replace K3:=EN K3 b2;replace I5:=ET I5 b2;clear b2 c0 OW;obtain⟨Jk,IE⟩:=En (#[E I 1,E I (O9 (a::1::(k:Int)::r)),E I 0,u Z 0 0]:Array M);exact EhV
 ·have q1:(v !=1)=G:=oA;go_wp2_with fail;(with_reducible refine(yo 10 _).mono ?_);rintro e W1 ⟨rfl,b2⟩;replace OW:=J<|XF OW.out b2;replace K2:=EN K2 b2;replace K3:=EN K3 b2;replace I5:=ET I5 b2;clear b2 c1 OW;obtain⟨OJ,IE⟩:=En (#[E I 3,E I 1,E I 10,u Z 0 0]:Array M);rw[<-IE];have jP:=TS;clear TS TO JM;have TS:Ea (OJ.size=4):=J bA;have TO:Ea (OJ.all (·.oneCell')=G):=J bB;have JM:=J IE;clear IE;have OW:=J<|XJ W1 w.heap.size;go_wp2_with (with_reducible refine wS (cs:=OJ) JK K3 (Ed.mk ?_) (ho:=jQ) (hn:=TS.out) (h1:=TO.out));refine Ed.in ?_;have hne:w.heap.size≠(w.heap.size+1):=U;replace OW:=J<|Zc OW.out K3.out OJ;replace I5:=J<|E2 I5.out (U:w.heap.size<=(w.heap.size+1)) OJ;replace K2:=J<|(Od OJ).Em K2.out hne;replace K3:=J<|K3.out.setRow OJ;clear hne;generalize W1.setRow (w.heap.size+1) OJ=V1 at*;have c0:V1.cell? ⟨b,off,Z⟩=X (E IB a):=mH (Iq HR.out I5.out) 0 rfl;by_cases h5:a=165;·have q5:(a !=165)=Y:=tH;clear h5;go_wp2_with (with_reducible first|refine wL JK K3 ?_ (hn:=TS.out)|refine wS (cs:=OJ) JK K2 ?_ (hn:=TS.out) (h1:=TO.out));refine EQ (Jb JK O _ _ w.heap.size OJ O (K2.out.setRow OJ) TS.out) O ?_;rw[JM.out,HF.out,gU,if_neg (by simpa using q5),mC,if_pos h1];exact⟨⟨_,O,_,_,O,Zc OW.out K2.out _⟩,E2 I5.out (E5 _) _⟩
  ·have q5:(a !=165)=G:=tK;replace HF:Ea (f=gO (O9 (a::v::(k:Int)::r))):=J<|HF.out.trans tL;clear h5;go_wp2_with fail;(with_reducible refine(tG (X ⟨b,off,Z⟩) (a::v::(k:Int)::r) n c _ oc U (Iq HR.out I5.out) U).mono ?_);rintro e W2 ⟨rfl,b2⟩;replace OW:=J<|XF OW.out b2;replace K2:=EN K2 b2;replace K3:=EN K3 b2;replace I5:=ET I5 b2;clear b2 c0 OW;obtain⟨Jk,IE⟩:=En (#[E I 1,E I (O9 (a::v::(k:Int)::r)),E I 0,u Z 0 0]:Array M);exact EhV
theorem FN(A:Option Et)(c:Nat)(w:H): Ef EJ 83 #[u A 0 c] w fun e w'=>(∃Y3,e=Eg Y3/\mG w' w.heap.size aO Y3)/\Eh w w':=by obtain⟨f,hf⟩:=En aO;rw[<-hf];have HF:=J hf;clear hf;go_enter Tryz.func83,Tryz.ntmps83;exact Ejp
theorem EcS(A:Option Et)(xs:List Int)(n c:Nat)(w:H)(hn:xs.length=n)(hr:Row w A xs)(hc:n<=c)(hm:c<=9223372036854775807): Ef EJ 83 #[u A n c] w fun e w'=>(∃Y3,e=Eg Y3/\mG w' w.heap.size (nx xs) Y3)/\Eh w w':=by
 rcases hr.1 with h|⟨b,off,h,-⟩;·subst h;obtain rfl:n=0:=hn.symm;exact FN A c w
 ·subst h;match xs,hn,hr with
  |[],hn,hr=>obtain rfl:n=0:=hn.symm;exact FN _ c w
  |[a],hn,hr=>exact EcN b off a n c w hn hr hc hm
  |[a,v],hn,hr=>exact EcP b off a v n c w hn hr hc hm
  |a::v::k::r,hn,hr=> have hk:=hr.2 k Ek;obtain⟨k,rfl⟩:=Int.eq_ofNat_of_zero_le hk.1;exact EcQ b off a v k r n c w hn hr hc hm
def O_(W:H)(base:Nat):List (Int×List Int)->List M->Prop
 |[],vs=>vs=[]
 |x::r,vs=> ∃(A:Option Et) (c:Nat) (vs':List M),vs=E I x.1:: .slice A x.2.length c::vs'/\Own W base A c x.2/\O_ W base r vs'
theorem O_.keep{W W':H}{base:Nat}: ∀{its:List (Int×List Int)} {vs:List M},O_ W base its vs->(∀g cs,D W g cs 5->D W' g cs 5)->O_ W' base its vs
 |[],_,h,_=>h
 |x::r,_,⟨A,c,vs',e,o,t⟩,hb=>⟨A,c,vs',e,⟨EW o.1 hb,o.2⟩,O_.keep t hb⟩
theorem FR{W:H}{base:Nat}{cd:Int}{b:List Int}{A:Option Et}{c:Nat}: ∀{its:List (Int×List Int)} {vs:List M},O_ W base its vs->Own W base A c b->O_ W base (its++[(cd,b)]) (vs++[E I cd,u A b.length c])
 |[],vs,h,ho=>by rw[show vs=[] from h];exact⟨A,c,[],O,ho,O⟩
 |x::r,_,⟨A',c',vs',e,o,t⟩,ho=>⟨A',c',_,by rw[e];rfl,o,FR t ho⟩
theorem O_.get{W:H}{base:Nat}: ∀{its:List (Int×List Int)} {vs:List M} {j:Nat} {x:Int×List Int},O_ W base its vs->its[j]?=X x-> ∃(A:Option Et) (c:Nat),vs[j*2]?=X (E I x.1)/\vs[j*2+1]?=X (.slice A x.2.length c)/\Own W base A c x.2
 |[],_,j,x,_,hx=>pK
 |y::r,_,0,x,⟨A,c,vs',e,o,t⟩,hx=>by obtain rfl:y=x:=AB;exact⟨A,c,by rw[e];rfl,by rw[e];rfl,o⟩
 |y::r,_,j+1,x,⟨A,c,vs',e,o,t⟩,hx=>by
  obtain⟨A',c',h1,h2,h3⟩:=O_.get t (show r[j]?=X x from AB);refine⟨A',c',?_,?_,h3⟩;·rw[e,show(j+1)*2=j*2+1+1 from U];simpa using h1
  ·rw[e,show(j+1)*2+1=j*2+1+1+1 from U];simpa using h2
theorem bC{c:Nat}{xs:List Int}(h:Own W base A c xs)(hb: ∀g cs,D W g cs 5->D W' g cs 5):Own W' base A c xs:=⟨EW h.1 hb,h.2⟩
theorem EcT:Og EJ 101 #[E I 0,E I 0,E I 0,u Z 0 0]:=by exact Eiz
theorem EcV: ∃i,Tryz.prog.info? 74=X i/\i.zero=X (EU #[E I 0,u Z 0 0])/\i.size=2/\i.bytes=32:=by have h:(Tryz.prog.info? 74).map (fun i=>(i.zero,i.size,i.bytes))=X (X (EU #[E I 0,u Z 0 0]),2,32):=Ec;exact Ejs
def lenOf(v:M):Nat:=match v with
 |u _ n _=>n
 |_=>0
def At(xs:List Int)(k:Nat)(its:List (Int×List Int)):Prop:= ∀i r,Ur (xs.drop k) i r->Ur xs (its++i) r
theorem At.zero(xs:List Int):At xs 0 []:=fun i r h=>Ou
theorem At.step{xs:List Int}{its:List (Int×List Int)}(h:At xs k its)(h0:(nx (xs.drop k)).kd≠0):At xs (k+(nx (xs.drop k)).sz) (its++(nx (xs.drop k)).item):=fun i r t=>by rw[List.append_assoc];exact h _ _ (.step h0 (by rw[List.drop_drop];exact t))
theorem EcW{xs:List Int}(hb:Ua xs):(nx xs).kd=0\/(nx xs).kd=1\/(nx xs).kd=2\/(nx xs).kd=3:=by
 cases yg xs hb with
 |wait e=>rw[e];exact .inl O
 |mD c e hc hl=>rw[e];exact .inr (.inr (.inr O))
 |skip e h1=>rw[e];exact .inr (.inl O)
 |frame n e hl hn=>rw[e];exact .inr (.inr (.inl O))
theorem all_some(b off:Nat)(xs:List Int)(n c:Nat)(w:H)(hn:xs.length=n)(hr:Row w (X ⟨b,off,Z⟩) xs)(hc:n<=c)(hm:c<=9223372036854775807)(hs:n<=1000000): Ef EJ 69 #[u (X ⟨b,off,Z⟩) n c] w fun e w'=>(∃(its:List (Int×List Int)) (r:List Int) (v:M) (vals:List M),e=Eg (Es #[v,E I r.length])/\Ur xs its r/\w'.ownsRow w.heap.size 74 2 v its.length vals/\O_ w' w.heap.size its vals)/\Eh w w':=by
 have HR:=J hr;have HN:=J hn;have II:=J EcV;have pE:Ea (Ua xs):=J hr.2;clear hr hn;go_enter Tryz.func69,Tryz.ntmps69;(iterate 2 go_wp2_with fail;go_step3);go_wp2_with fail;go_loopw[0,4] (fun x y wr=> ∃(k i o2:Nat) (its:List (Int×List Int)) (A2:Option Et) (c2:Nat) (vals:List M),k<=n/\i<=k/\x=u (X ⟨b,o2,Z⟩) (n-k) (c-k)/\(k<n->o2=off+k)/\y=u A2 i c2/\its.length=i/\At xs k its/\wr.ownsRow w.heap.size 74 2 (u A2 i c2) i vals/\O_ wr w.heap.size its vals/\Eh w wr) (fun x _ _=>lenOf x);case atStart=>exact⟨0,0,off,[],Z,0,[],U,U,O,fun _=>rfl,O,O,At.zero _,World.ownsRow_nil _ _ _ _,O,E6 _ _⟩
 case round=>
  obtain⟨k,i,o2,its,A2,c2,vals,hk,hik,rfl,ho2,rfl,qP,hat,oi,iv,bb⟩:=hrel;have OI:=J oi;have IV:=J iv;have BB:=J bb;have lZ:=J qP;have HAT:=J hat;clear oi iv bb qP hat
  have RD:Ea (Row wr (X ⟨b,o2,Z⟩) (xs.drop k)):=J (by
   by_cases hkn:k<n;·rw[ho2 hkn];exact ji (Iq HR.out BB.out) k
   ·rw[List.drop_eq_nil_of_le ky];exact j8 _ _)
  have HL:Ea ((xs.drop k).length=n-k):=J (by rw[List.length_drop,HN.out]);go_wp2_with fail;(with_reducible refine(EcS (X ⟨b,o2,Z⟩) (xs.drop k) (n-k) (c-k) _ HL.out RD.out U U).mono ?_);rintro e w1 ⟨⟨Y3,rfl,A9,c9,rfl,ow⟩,b2⟩;have OW:=J<|X9 ow (show w.heap.size<=wr.heap.size from BB.out.size);replace OI:=J<|EW OI.out fun _ _ h=>D.B h b2;replace IV:=J<|IV.out.keep fun _ _ h=>D.B h b2;replace BB:=ET BB b2;clear ow b2 RD;have FT:=J<|EcW (pE.out.dr k);have yp:Ea ((nx (xs.drop k)).kd≠0->1<=(nx (xs.drop k)).sz/\(nx (xs.drop k)).sz<=n-k):=J (fun h=>by have:=Fv (pE.out.dr k) h;rw[HL.out] at this;exact this);have HST:=J<|fun h=>HAT.out.step h;have HIT:Ea ((nx (xs.drop k)).item=if(nx (xs.drop k)).kd=2 then [(0,(nx (xs.drop k)).b)] else if(nx (xs.drop k)).kd=3 then [((nx (xs.drop k)).cd,[])] else []):=J O;have HW:Ea ((nx (xs.drop k)).kd=0->Ur (xs.drop k) [] (xs.drop k)):=J<|fun h=> .wait h;obtain⟨f,hf⟩:=En (nx (xs.drop k));rw[<-hf] at FT yp HST HIT HW OW⊢;clear hf;obtain⟨kd,sz,cd,bd⟩:=f;simp only at FT yp HST HIT HW OW⊢;obtain⟨tv,IE⟩:=En (#[E I kd,E I sz,E I cd,u A9 bd.length c9]:Array M);rw[<-IE];have TS:Ea (tv.size=4):=J bA;have TO:Ea (tv.all (·.oneCell')=G):=J bB;replace IE:=J IE;have K0:=J<|D.new w1 #[E I 0,E I 0,E I 0,u Z 0 0] 101;have b2:=Eo w1 (EI #[E I 0,E I 0,E I 0,u Z 0 0] 101);go_wp2_with (with_reducible first|refine wA EcT ?_|refine wS (cs:=tv) JK K0 (Ed.mk ?_) (hn:=TS.out) (h1:=TO.out));refine Ed.in ?_;obtain⟨gx,hgx⟩:=En w1.heap.size;rw[<-hgx] at K0⊢;generalize w1.alloc (EI #[E I 0,E I 0,E I 0,u Z 0 0] 101)=Xz at*;have KF:=J<|K0.out.setRow tv;have b3:=E2 (g:=gx) b2 (Nat.le_of_eq hgx.symm) tv;generalize Xz.setRow gx tv=wf at*;clear K0 b2 hgx;replace OI:=J<|EW OI.out fun _ _ h=>D.B h b3;replace IV:=J<|IV.out.keep fun _ _ h=>D.B h b3;replace OW:=J<|XF OW.out b3;replace BB:=ET BB b3;clear b3;have Ta:wf.cell? ⟨gx,0,Z⟩=X (E I kd):=(D.cell KF.out 0).trans ph;have yq:wf.cell? ⟨gx,1,Z⟩=X (E I sz):=(D.cell KF.out 1).trans ph;have Tb:wf.cell? ⟨gx,2,Z⟩=X (E I cd):=(D.cell KF.out 2).trans ph;have Tc:wf.cell? ⟨gx,3,Z⟩=X (u A9 bd.length c9):=(D.cell KF.out 3).trans ph;clear TS TO;by_cases h0:kd=0;·have HP:=J<|HAT.out _ _ (HW.out h0);subst h0;go_wp2_with fail;go_ret2;refine⟨⟨its,xs.drop k,_,vals,by rw[HL.out];rfl,?_,by rw[lZ.out];exact OI.out,IV.out⟩,BB.out⟩;have:=HP.out;rwa [List.append_nil] at this
  ·have hsz:=yp.out h0;have e0:(kd==0)=Y:=pI;replace HAT:=J<|HST.out h0;rw[HIT.out] at HAT;clear HST HW yp;by_cases h2:kd=2
   ·subst h2;simp only[if_pos] at HAT;go_wp2_with (with_reducible refine I2 19 ?_);refine Ed.in ?_;have KI:=J<|D.new wf #[E I 0,u A9 bd.length c9] 74;have b4:=J<|Eo wf (EI #[E I 0,u A9 bd.length c9] 74);replace BB:=ET BB b4.out;replace OI:=J<|EW OI.out fun _ _ h=>D.B h b4.out;replace IV:=J<|IV.out.keep fun _ _ h=>D.B h b4.out;replace OW:=J<|XF OW.out b4.out;replace KF:=EN KF b4.out;clear Ta yq Tb Tc;clear b4;generalize wf.alloc (EI #[E I 0,u A9 bd.length c9] 74)=oV at*;generalize wf.heap.size=gb at*;obtain⟨qA,qc,qw,UM,XL,Oz,-,-⟩:=a_ (P:=EJ) oV w.heap.size w.heap.size 70 70 74 II.out.choose _ 2 32 Tryz.underlying70 II.out.choose_spec.1 II.out.choose_spec.2.1 II.out.choose_spec.2.2.1 II.out.choose_spec.2.2.2 rfl A2 c2 i vals OI.out ⟨gb,0,Z⟩ 1 1 [E I 0,u A9 bd.length c9] O (fun j Y3 hu=>by rw[show(⟨gb,0,Z⟩:Et).add j=⟨gb,j,Z⟩ from U4];rw[D.cell KI.out,List.getElem?_toArray];exact hu) ct (fun _=>U) Ob U BB.out.size (E5 _);go_wp2_with ((with_reducible refine In 19 ?_);(refine JT (Ei O) (Ov O O O UM) ?_);refine Ed.mk ?_);refine Ed.in ?_;replace OI:=J XL;replace IV:=J<|FR (cd:=0) (b:=bd) (IV.out.keep fun _ _ h=>XQ Oz h EZ) (bC OW.out fun _ _ h=>XQ Oz h EZ);replace KF:=J<|XQ Oz KF.out EZ;replace BB:=J<|BB.out.trans (Oz.2.1 BB.out.size);clear XL Oz UM KI;have yq:qw.cell? ⟨gx,1,Z⟩=X (E I sz):=(D.cell KF.out 1).trans ph;go_wp2_with fail;have HO:=ho2 U;subst HO;clear ho2;refine⟨⟨k+sz,i+1,if c-k=sz then off+k else off+(k+sz),its++[(0,bd)],qA,qc,_,U,U,?_,fun h=>if_neg U,O,?_,HAT.out,OI.out,IV.out,BB.out⟩,?_⟩;·split<;>simp only[Nat.sub_sub,Nat.add_assoc]
    ·rw[IL,lZ.out];rfl
    ·simp only[lenOf];omega
   ·by_cases h3:kd=3
    ·subst h3;simp only[if_pos,if_neg (show¬((3:Int)=2) from EZ)] at HAT;go_wp2_with (with_reducible refine I2 27 ?_);refine Ed.in ?_;have KI:=J<|D.new wf #[E I cd,u Z 0 0] 74;have b4:=J<|Eo wf (EI #[E I cd,u Z 0 0] 74);replace BB:=ET BB b4.out;replace OI:=J<|EW OI.out fun _ _ h=>D.B h b4.out;replace IV:=J<|IV.out.keep fun _ _ h=>D.B h b4.out;replace KF:=EN KF b4.out;clear Ta yq Tb Tc;clear b4;generalize wf.alloc (EI #[E I cd,u Z 0 0] 74)=oV at*;generalize wf.heap.size=gb at*;obtain⟨qA,qc,qw,UM,XL,Oz,-,-⟩:=a_ (P:=EJ) oV w.heap.size w.heap.size 70 70 74 II.out.choose _ 2 32 Tryz.underlying70 II.out.choose_spec.1 II.out.choose_spec.2.1 II.out.choose_spec.2.2.1 II.out.choose_spec.2.2.2 rfl A2 c2 i vals OI.out ⟨gb,0,Z⟩ 1 1 [E I cd,u Z 0 0] O (fun j Y3 hu=>by rw[show(⟨gb,0,Z⟩:Et).add j=⟨gb,j,Z⟩ from U4];rw[D.cell KI.out,List.getElem?_toArray];exact hu) ct (fun _=>U) Ob U BB.out.size (E5 _);go_wp2_with ((with_reducible refine In 27 ?_);(refine JT (Ei O) (Ov O O O UM) ?_);refine Ed.mk ?_);refine Ed.in ?_;replace OI:=J XL;replace IV:=J<|FR (cd:=cd) (b:=[]) (IV.out.keep fun _ _ h=>XQ Oz h EZ) (XJ _ _);replace KF:=J<|XQ Oz KF.out EZ;replace BB:=J<|BB.out.trans (Oz.2.1 BB.out.size);clear XL Oz UM KI;have yq:qw.cell? ⟨gx,1,Z⟩=X (E I sz):=(D.cell KF.out 1).trans ph;go_wp2_with fail;have HO:=ho2 U;subst HO;clear ho2;refine⟨⟨k+sz,i+1,if c-k=sz then off+k else off+(k+sz),its++[(cd,[])],qA,qc,_,U,U,?_,fun h=>if_neg U,O,?_,HAT.out,OI.out,IV.out,BB.out⟩,?_⟩;·split<;>simp only[Nat.sub_sub,Nat.add_assoc]
     ·rw[IL,lZ.out];rfl
     ·simp only[lenOf];omega
    ·have e1:kd=1:=by have:=FT.out;omega
     subst e1;simp only[if_neg (show¬((1:Int)=2) from EZ),if_neg (show¬((1:Int)=3) from EZ),List.append_nil] at HAT;go_wp2_with fail;have HO:=ho2 U;subst HO;clear ho2;refine⟨⟨k+sz,i,if c-k=sz then off+k else off+(k+sz),its,A2,c2,vals,U,U,?_,fun h=>if_neg U,O,lZ.out,HAT.out,OI.out,IV.out,BB.out⟩,?_⟩;·split<;>simp only[Nat.sub_sub,Nat.add_assoc]
     ·simp only[lenOf];omega
theorem all_nil(A:Option Et)(c:Nat)(w:H)(hm:c<=9223372036854775807): Ef EJ 69 #[u A 0 c] w fun e w'=>e=Eg (Es #[u Z 0 0,E I 0])/\Eh w w':=by
 go_enter Tryz.func69,Tryz.ntmps69;(iterate 2 go_wp2_with fail;go_step3);go_wp2_with fail;go_loopw[0,4] (fun x y wr=>x=u A 0 c/\y=u Z 0 0/\w=wr) (fun x _ _=>lenOf x);case atStart=>exact⟨O,O,O⟩
 case round=> obtain⟨rfl,rfl,rfl⟩:=hrel;go_wp2_with fail;(with_reducible refine(FN A c _).mono ?_);rintro e w1 ⟨⟨Y3,rfl,A9,c9,rfl,ow⟩,b2⟩;have BB:=J b2;clear ow b2;simp only[aO,List.length_nil,Int.natCast_zero,Int.ofNat_zero,show((0:Nat):Int)=0 from rfl];go_wp2_with fail;simp only[Exit.noGoto_ret];go_ret2;exact⟨O,bt BB.out (Eo _ _)⟩
theorem EcY(A:Option Et)(xs:List Int)(n c:Nat)(w:H)(hn:xs.length=n)(hr:Row w A xs)(hc:n<=c)(hm:c<=9223372036854775807)(hs:n<=1000000): Ef EJ 69 #[u A n c] w fun e w'=>(∃(its:List (Int×List Int)) (r:List Int) (v:M) (vals:List M),e=Eg (Es #[v,E I r.length])/\Ur xs its r/\w'.ownsRow w.heap.size 74 2 v its.length vals/\O_ w' w.heap.size its vals)/\Eh w w':=by
 rcases hr.1 with h|⟨b,off,h,-⟩;·subst h;obtain rfl:n=0:=hn.symm;refine(all_nil A c w hm).mono ?_;rintro e w' ⟨rfl,hb⟩;exact⟨⟨[],[],_,[],O,.wait O,World.ownsRow_nil _ _ _ _,O⟩,hb⟩
 ·subst h;exact all_some b off xs n c w hn hr hc hm hs
theorem FW{c:Nat}{xs:List Int}{z:Array M}(h:Own W base A c xs)(K:D W gs z 122)(i:Nat)(v:M):Own (W.setCell ⟨gs,i,Z⟩ v) base A c xs:=
 bC h fun _ _ hk=>(OH (g:=gs) i v).Em hk (E7 hk K EZ)
theorem FY{c:Nat}{xs:List Int}(h:Own W base A c xs):xs.length<=c/\c<=9223372036854775807:=by
 rcases h.1.2 with⟨hv,hn⟩|⟨g,cap',cur,hv,hg,hh,hl,hm,hs,ht⟩;·injection hv with h1 h2 h3;subst h3;exact⟨U,U⟩
 ·injection hv with h1 h2 h3;unfold maxLen at hm;exact⟨U,U⟩
theorem Ec0{c:Nat}{xs:List Int}(h:Own W base A c xs):(∃g,A=X ⟨g,0,Z⟩)\/(A=Z/\c=0):=by
 rcases h.1.2 with⟨hv,hn⟩|⟨g,cap',cur,hv,hg,hh,hl,hm,hs,ht⟩;·injection hv with h1 h2 h3;exact .inr ⟨h1,h3⟩
 ·injection hv with h1 h2 h3;exact .inl ⟨g,h1⟩
theorem F0(h:Below b w w')(hk: ∀k,k<w.heap.size->w'.heap[k]?=w.heap[k]?):Eh w w':=⟨h.os,h.tape,h.output,h.size,hk⟩
theorem pi{b':Nat}{xs:List M}(h:W.ownsRow b T size v n xs)(hb:b'<=b):W.ownsRow b' T size v n xs:=by
 obtain⟨h1,h2|⟨gg,cap,cur,hv,hg,r⟩⟩:=h;·exact⟨h1,.inl h2⟩
 ·exact⟨h1,.inr ⟨gg,cap,cur,hv,Ey hb hg,r⟩⟩
theorem O_.mono{W:H}{b b':Nat}: ∀{its:List (Int×List Int)} {vs:List M},O_ W b its vs->b'<=b->O_ W b' its vs
 |[],_,h,_=>h
 |x::r,_,⟨A,c,vs',e,o,t⟩,hb=>⟨A,c,vs',e,X9 o hb,O_.mono t hb⟩
theorem Ec1{xs i r}(h:Ur xs i r): ∃k,r=xs.drop k/\k+r.length=xs.length:=by
 obtain⟨k,e⟩:=h.left;refine⟨min k xs.length,?_,?_⟩
 ·by_cases hk:k<=xs.length;·rw[Nat.min_eq_left hk];exact e
  ·rw[Nat.min_eq_right U,e,List.drop_eq_nil_of_le U,List.drop_eq_nil_of_le (E5 _)]
 ·rw[e,List.length_drop];omega
def Ec2(gs lo:Nat)(rest xs:List Int)(w:H)(e:Ending)(w':H):Prop:=
 ∃(its:List (Int×List Int)) (r:List Int) (v:M) (vals:List M) (A:Option Et) (c:Nat) (w2:H),e=Eg v/\Ur (rest++xs) its r/\w'.ownsRow w.heap.size 74 2 v its.length vals/\O_ w' w.heap.size its vals/\Eh w w2/\w'=w2.setCell ⟨gs,0,Z⟩ (u A r.length c)/\Own w' lo A c r
theorem Ec3(gs lo:Nat)(A0:Option Et)(c0 m:Nat)(rest:List Int)(A:Option Et)(n c:Nat)(xs:List Int)(w:H)(ks:D w gs #[u A0 m c0] 122)(own:Own w lo A0 c0 rest)(hm:rest.length=m)(hr:Row w A xs)(hn:xs.length=n)(hl:lo<=gs)(h1:m<=100000)(h2:n<=100000): Ef EJ 48 #[V (X ⟨gs,0,Z⟩),u A n c] w (Ec2 gs lo rest xs w):=by
 have KS:=J ks;have OR:=J own;have HR:=J hr;have HN:=J hn;have HM:=J hm;have BB:=J<|E6 w.heap.size w;clear ks own hr hn hm;have hmk: ∀W:H,(Instr.makeSlice 23 (E I 0) (E I ((m:Int)+(n:Int)))).run EJ W= .ok (u (X ⟨W.heap.size,0,Z⟩) 0 (m+n)) (W.alloc (EI (madeCells #[E .u8 0] (m+n)) 5)):=Pr _ _ U U;have cs0:w.cell? ⟨gs,0,Z⟩=X (u A0 m c0):=(D.cell KS.out 0).trans O;have b1:=Eo w (EI (madeCells #[E .u8 0] (m+n)) 5);have cs1:(w.alloc (EI (madeCells #[E .u8 0] (m+n)) 5)).cell? ⟨gs,0,Z⟩=X (u A0 m c0):=(D.cell (D.B KS.out b1) 0).trans O;have O1:=J<|Ps w w.heap.size (m+n) (E5 _) U;go_enter Tryz.func48,Tryz.ntmps48;go_wp2_with (with_reducible refine I2 22 ?_);refine Ed.in ?_;clear cs0 cs1 hmk;replace BB:=ET BB b1;clear b1;generalize w.alloc (EI (madeCells #[E .u8 0] (m+n)) 5)=w1 at*;go_wp2_with ((with_reducible refine In 22 ?_);(with_reducible refine i_ _ (Ei O) (.tmp 17) (.tmp 21) O w.heap.size (X ⟨w.heap.size,0,Z⟩) (m+n) 0 [] O ?_ O1.out A0 c0 m rest HM.out ?_ (Iq OR.out.row BB.out) U BB.out.size ?_);(·rfl);(·rfl);intro A2 c2 w2 o2 b2 k2;refine Ed.mk ?_);refine Ed.in ?_;replace BB:=J<|BB.out.trans b2;replace O1:=J o2;clear o2 b2 k2;rw[List.nil_append] at O1;go_wp2_with ((with_reducible refine In 25 ?_);(with_reducible refine i_ _ (Ei O) (.tmp 23) (.tmp 24) O w.heap.size A2 c2 m rest HM.out ?_ O1.out A c n xs HN.out ?_ (Iq HR.out BB.out) U BB.out.size ?_);(·rfl);(·rfl);intro A3 c3 w3 o3 b3 k3;refine Ed.mk ?_);refine Ed.in ?_;replace BB:=J<|BB.out.trans b3;replace O1:=J o3;clear o3 b3 k3;have gX:Ea ((rest++xs).length=m+n):=J (by rw[IL,HM.out,HN.out]);obtain⟨N,hN⟩:=En (m+n);rw[<-hN] at gX;have hN2:N<=200000:=U;have F1:=J<|FY O1.out;go_wp2_with fail;rw[<-hN];(with_reducible refine(EcY A3 (rest++xs) N c3 _ gX.out O1.out.row (by have:=F1.out.1;have:=gX.out;omega) F1.out.2 U).mono ?_);rintro e w4 ⟨⟨its,r,v,vals,rfl,hp,hv,hi⟩,b4⟩;have HP:=J hp;have BV:=J<|show w.heap.size<=w3.heap.size from BB.out.size;have HV:=J<|pi hv BV.out;have HI:=J<|O_.mono hi BV.out;replace O1:=J<|XF O1.out b4;replace BB:=ET BB b4;clear hp hv hi b4 BV;have HL:=J<|Ec1 HP.out;obtain⟨k,hk,hkl⟩:=HL.out;obtain⟨rl,hrl⟩:=En r.length;rw[<-hrl] at hkl⊢;have tM:=J hrl;have HK:=J hk;have hkN:k+rl=N:=by rw[<-gX.out];exact hkl
 have hsub:(N:Int)-(rl:Int)=(k:Int):=U;clear hrl hk hkl HL hN;have cs0:w4.cell? ⟨gs,0,Z⟩=X (u A0 m c0):=(D.cell (D.B KS.out BB.out) 0).trans O;have pj:w4.frozen? ⟨gs,0,Z⟩=Y:=D.Jw (D.B KS.out BB.out) 0;have hcp:=F1.out.1;rw[gX.out] at hcp;obtain⟨g3,hA3⟩|⟨hA3,hc3⟩:=Ec0 O1.out
 ·subst hA3;have RK:Ea (Row w4 (X ⟨g3,k,Z⟩) r):=J (by have:=ji O1.out.row k;rw[Nat.zero_add] at this;rw[HK.out];exact this);by_cases hck:c3=k
  ·have e2:N-k=rl:=U;have hr0:rl=0:=U
   have RN:Ea (Row w4 (X ⟨g3,0,Z⟩) r):=J (by have e:r=[]:=List.eq_nil_of_length_eq_zero (by rw[<-tM.out];exact hr0);rw[e];exact j8 _ _)
   clear hr0;go_wp2_with ((with_reducible refine In 38 ?_);(with_reducible refine i_ _ (Ei O) (.const (u Z 0 0)) (.tmp 37) O w.heap.size Z 0 0 [] O ?_ (XJ _ _) (X ⟨g3,0,Z⟩) 0 rl r tM.out.symm ?_ RN.out U BB.out.size ?_);(·rfl);(·rfl);intro A6 c6 w6 o6 b6 k6;refine Ed.mk ?_);refine Ed.in ?_;have b7:=F0 b6 (fun k hk=>(k6 k hk (fun b h=>Uf)).1);rw[List.nil_append] at o6;have O6:=J<|X9 o6 (show lo<=w.heap.size from Ey hl (Nat.le_of_lt KS.out.lt));replace HV:=J<|EW HV.out fun _ _ h=>D.B h b7;replace HI:=J<|O_.keep HI.out fun _ _ h=>D.B h b7;replace BB:=J<|BB.out.trans b6;clear o6 b6 k6 b7 cs0 pj;have Zd:=EN KS BB.out;have cs0:w6.cell? ⟨gs,0,Z⟩=X (u A0 m c0):=(D.cell Zd.out 0).trans O;have pj:w6.frozen? ⟨gs,0,Z⟩=Y:=D.Jw Zd.out 0;go_wp2_with fail;go_ret;refine⟨its,r,v,vals,A6,c6,w6,O,HP.out,?_,?_,BB.out,yr,FW O6.out Zd.out _ _⟩;·exact Emf
   ·exact EkA
  ·have e2:N-k=rl:=U;go_wp2_with ((with_reducible refine In 38 ?_);(with_reducible refine i_ _ (Ei O) (.const (u Z 0 0)) (.tmp 37) O w.heap.size Z 0 0 [] O ?_ (XJ _ _) (X ⟨g3,k,Z⟩) (c3-k) rl r tM.out.symm ?_ RK.out U BB.out.size ?_);(·rfl);(·rfl);intro A6 c6 w6 o6 b6 k6;refine Ed.mk ?_);refine Ed.in ?_;have b7:=F0 b6 (fun k hk=>(k6 k hk (fun b h=>Uf)).1);rw[List.nil_append] at o6;have O6:=J<|X9 o6 (show lo<=w.heap.size from Ey hl (Nat.le_of_lt KS.out.lt));replace HV:=J<|EW HV.out fun _ _ h=>D.B h b7;replace HI:=J<|O_.keep HI.out fun _ _ h=>D.B h b7;replace BB:=J<|BB.out.trans b6;clear o6 b6 k6 b7 cs0 pj;have Zd:=EN KS BB.out;have cs0:w6.cell? ⟨gs,0,Z⟩=X (u A0 m c0):=(D.cell Zd.out 0).trans O;have pj:w6.frozen? ⟨gs,0,Z⟩=Y:=D.Jw Zd.out 0;go_wp2_with fail;go_ret;refine⟨its,r,v,vals,A6,c6,w6,O,HP.out,?_,?_,BB.out,yr,FW O6.out Zd.out _ _⟩;·exact EW HV.out fun _ _ h=>(OH (g:=gs) 0 _).Em h (E7 h Zd.out EZ)
   ·exact EkA
 ·subst hA3 hc3;have hN0:N=0:=U;have hk0:k=0:=U;have hr0:rl=0:=U;subst hk0 hr0
  have RN:Ea (Row w4 Z r):=J (by have e:r=[]:=List.eq_nil_of_length_eq_zero yr;rw[e];exact j8 _ _)
  go_wp2_with ((with_reducible refine In 38 ?_);(with_reducible refine i_ _ (Ei O) (.const (u Z 0 0)) (.tmp 37) O w.heap.size Z 0 0 [] O ?_ (XJ _ _) Z 0 0 r tM.out.symm ?_ RN.out U BB.out.size ?_);(·rfl);(·rfl);intro A6 c6 w6 o6 b6 k6;refine Ed.mk ?_);refine Ed.in ?_;have b7:=F0 b6 (fun k hk=>(k6 k hk (fun b h=>Uf)).1);rw[List.nil_append] at o6;have O6:=J<|X9 o6 (show lo<=w.heap.size from Ey hl (Nat.le_of_lt KS.out.lt));replace HV:=J<|EW HV.out fun _ _ h=>D.B h b7;replace HI:=J<|O_.keep HI.out fun _ _ h=>D.B h b7;replace BB:=J<|BB.out.trans b6;clear o6 b6 k6 b7 cs0 pj;have Zd:=EN KS BB.out;have cs0:w6.cell? ⟨gs,0,Z⟩=X (u A0 m c0):=(D.cell Zd.out 0).trans O;have pj:w6.frozen? ⟨gs,0,Z⟩=Y:=D.Jw Zd.out 0;go_wp2_with fail;go_ret;refine⟨its,r,v,vals,A6,c6,w6,O,HP.out,?_,?_,BB.out,yr,FW O6.out Zd.out _ _⟩;·exact Emf
  ·exact EkA
theorem Ec4(w:H):Ef EJ 24 #[] w fun e w'=>e=Eg (V (X ⟨w.heap.size,0,Z⟩))/\w'=w.alloc (EI #[u Z 0 0] 122):=by go_enter Tryz.func24,Tryz.ntmps24;exact Eh9
section
variable{P:Program}{w:World}
theorem tN(base b2:Nat)(t ty e:Ez)(i:TypeInfo)(z:M)(size bytes:Nat)(ht:P.underlying t=X (.slice e))(hi:P.info? e=X i)(hz:i.zero=X z)(hsize:i.size=size)(hby:i.bytes=bytes)(hzs:z.cells.size=size)(hsz:0<size) (v:M) (n:Nat) (xs:List M) (hown:w.ownsRow base e size v n xs) (Y3:M) (m:Nat) (ys:List M) (hu:w.ownsRow b2 e size Y3 m ys) (h1: ∀y∈ys,y.oneCell'=G) (h63:n+m<=maxLen) (hbytes:(n+m)*bytes<=140737488355328) (hbase:base<=w.heap.size): ∃A' c' w',(Builtin.append_ #[t,t] ty #[v,Y3]).run P w= .ok (u A' (n+m) c') w'/\w'.ownsRow base e size (u A' (n+m) c') (n+m) (xs++ys)/\w.grownBy w' v.ownBlock:=by
 have fin: ∀v' w',(Builtin.append_ #[t,t] ty #[v,Y3]).run P w= .ok v' w'->w'.ownsRow base e size v' (n+m) (xs++ys)->w.grownBy w' v.ownBlock-> ∃A' c' w',(Builtin.append_ #[t,t] ty #[v,Y3]).run P w= .ok (u A' (n+m) c') w'/\w'.ownsRow base e size (u A' (n+m) c') (n+m) (xs++ys)/\w.grownBy w' v.ownBlock:=fun v' w' a b c=>by
  rcases b.2 with⟨rfl,h0⟩|⟨g,cap,cur,rfl,_⟩;·refine⟨Z,0,w',by rw[a,h0],?_,c⟩;rw[h0] at b⊢;exact b
  ·exact⟨_,_,w',a,b,c⟩
 rcases hu.2 with⟨rfl,h0⟩|⟨g,cap,cur,rfl,-⟩;·have hy:ys=[]:=List.eq_nil_of_length_eq_zero (by rw[hu.1,h0,Nat.zero_mul]);subst hy;subst h0;refine fin v w (run_append_owned_none w base t ty e i size ht hi v n xs hown) Ak ⟨O,O,O,E5 _,fun _ _ _=>rfl⟩
 ·obtain⟨v',w',h2,h3,h4,-⟩:=run_append_own_at (P:=P) (w:=w) base t ty e i z size bytes ht hi hz hsize hby hzs hsz v n xs hown ⟨g,0,Z⟩ m cap ys hu.1 (hu.cells (g:=g) O) h1 h63 hbytes hbase;exact fin v' w' h2 h3 h4
end
theorem jR{e:Ez}{xs:List M}(hown:w.ownsRow base e size v n xs)(hg:w.grownBy w' v.ownBlock){c:Array M}(h:D w k c S)(hS:S≠e):D w' k c S:=by
 refine(hg.block k h.lt fun e2=> ?_).trans h;rcases hown.2 with⟨rfl,-⟩|⟨g,cap,cur,rfl,-,hb,-⟩;·simp[Value.ownBlock] at e2
 ·have:k=g:=F2;subst this;have hb2:w.heap[k]?=X (EI c S (0,0)):=h;rw[hb] at hb2;injection hb2 with hb2;injection hb2 with _ h2 _;exact hS h2.symm
theorem yt{e:Ez}{xs:List M}(hown:w.ownsRow base e size v n xs)(hg:w.grownBy w' v.ownBlock)(hb:base<=w.heap.size):Below base w w':=by
 refine⟨hg.os,hg.tape,hg.output,hg.size,fun k hk=>hg.block k U fun e2=> ?_⟩;rcases hown.2 with⟨rfl,-⟩|⟨g,cap,cur,rfl,hl,-,-⟩;·simp[Value.ownBlock] at e2
 ·have:k=g:=F2;omega
theorem Td{e:Ez}{xs:List M}(hown:w.ownsRow base e size v n xs)(hg:w.grownBy w' v.ownBlock)(h:w.heap[k]?=X o)(ho:o.isCells=Y):w'.heap[k]?=X o:=by
 refine(hg.block k (Ja.1 h).1 fun e2=> ?_).trans h;rcases hown.2 with⟨rfl,-⟩|⟨g,cap,cur,rfl,-,hb,-⟩;·simp[Value.ownBlock] at e2
 ·have:k=g:=F2;subst this;rw[hb] at h;injection h with h;subst h;cases ho
def tP:List Ez:=[43,264,58]
structure aM(hi:Nat)(w w':H):Prop where
 bel:Below hi w w'
 Em: ∀k c S,tP.contains S=Y->D w k c S->D w' k c S
theorem aM.trans{a b c:H}(h:aM hi a b)(k:aM hi b c):aM hi a c:=⟨h.bel.trans k.bel,fun i d S hS hb=>k.Em i d S hS (h.Em i d S hS hb)⟩
theorem aM.Eu(h:Eh w w')(hh:hi<=w.heap.size):aM hi w w':=⟨h.mono hh,fun _ _ _ _ hb=>hb.B h⟩
structure Jo(lo hi:Nat)(w w':H):Prop where
 bel:Below lo w w'
 Em: ∀k c S,k<hi->gF.contains S=Y->S≠122->D w k c S->D w' k c S
theorem Jo.refl(lo hi:Nat)(w:H):Jo lo hi w w:=⟨E6 _ _,fun _ _ _ _ _ _ h=>h⟩
theorem Jo.trans{a b c:H}(h:Jo lo hi a b)(k:Jo lo hi b c):Jo lo hi a c:=
 ⟨h.bel.trans k.bel,fun i d S hi hm hs hb=>k.Em i d S hi hm hs (h.Em i d S hi hm hs hb)⟩
theorem Jo.Eu(h:Eh w w')(hl:lo<=w.heap.size):Jo lo hi w w':=⟨h.mono hl,fun _ _ _ _ _ _ hb=>hb.B h⟩
theorem Jo.pk(h:aM hi w w')(hl:lo<=hi):Jo lo hi w w':=
 ⟨h.bel.mono hl,fun k _ _ hk _ _ hb=>(h.bel.block k hk).trans hb⟩
theorem Ev.low'(h:Ev lo hi w w')(hl:lo<=hi)(hh:hi<=w.heap.size):Below lo w w':=
 (h.EXv hh).B hl
theorem Jo.tQ{h2:Nat}(h:Ev lo h2 w w')(hl:lo<=hi)(hh:hi<=h2)(hs:h2<=w.heap.size):Jo lo hi w w':=
 ⟨h.low' U hs,fun k _ _ hk hm _ hb=>h.old hb hm U⟩
theorem Ev.obj(h:Ev lo hi w w')(hk:k<hi)(ho:w.heap[k]?=X o)(hc:o.isCells=Y):w'.heap[k]?=X o:=by refine(h.low k hk (Ja.1 ho).1 fun c T p hp=> ?_).trans ho;rw[ho] at hp;injection hp with hp;subst hp;cases hc
def aZ(lo:Nat)(gs:Nat)(r:List Int)(W:H):Prop:= ∃(A:Option Et) (c:Nat),D W gs #[u A r.length c] 122/\Own W lo A c r
def mcV(gc s1 s2 s3:Nat):Array M:= #[V (X ⟨gc,0,Z⟩),E I 0,V (X ⟨s1,0,Z⟩),V (X ⟨s2,0,Z⟩),V (X ⟨s3,0,Z⟩)]
structure UA where
 (gc gq gt gm s1 s2 s3:Nat)
structure Jl(lo:Nat)(g:Nat->M)(a:UA)(c:EA)(rs:Int->List Int)(W:H):Prop where
 core:Jz lo g a.gc a.gq a.gt c W
 Em:D W a.gm (mcV a.gc a.s1 a.s2 a.s3) 84
 lm:lo<=a.gm
 l1:lo<=a.s1
 l2:lo<=a.s2
 l3:lo<=a.s3
 n12:a.s1≠a.s2
 n13:a.s1≠a.s3
 n23:a.s2≠a.s3
 st1:aZ lo a.s1 (rs 1) W
 st2:aZ lo a.s2 (rs 2) W
 mK:aZ lo a.s3 (rs 3) W
 mM: ∀i,Ua (rs i)/\(rs i).length<=40
theorem aZ.via{r:List Int}(h:aZ lo gs r W)(h1: ∀k c,D W k c 122->D W' k c 122)(h2: ∀k c,D W k c 5->D W' k c 5):aZ lo gs r W':=by obtain⟨A,c,k,o⟩:=h;exact⟨A,c,h1 _ _ k,bC o h2⟩
theorem Jl.via{a:UA}(h:Jl lo g a c rs W)(hb: ∀k cs S,S≠43->S≠264->S≠58->D W k cs S->D W' k cs S)(hl:Below lo W W'):Jl lo g a c rs W':=
 ⟨h.core.via (fun k cs S hS hk=>hb k cs S pp pp pp hk) hl,hb _ _ _ EZ EZ EZ h.Em,h.lm,h.l1,h.l2,h.l3,h.n12,h.n13,h.n23,
  h.st1.via (fun _ _=>hb _ _ _ EZ EZ EZ) (fun _ _=>hb _ _ _ EZ EZ EZ),h.st2.via (fun _ _=>hb _ _ _ EZ EZ EZ) (fun _ _=>hb _ _ _ EZ EZ EZ),
  h.mK.via (fun _ _=>hb _ _ _ EZ EZ EZ) (fun _ _=>hb _ _ _ EZ EZ EZ),h.mM⟩
theorem Ec6(h1:S≠43)(h2:S≠264)(h3:S≠58):tP.contains S=Y:=by
 simp only[tP,List.contains_eq_mem,List.mem_cons,List.not_mem_nil,or_false,decide_eq_false_iff_not];rintro(h|h|h);·exact h1 h
 ·exact h2 h
 ·exact h3 h
theorem Jl.y{a:UA}(h:Jl lo g a c rs W)(hy:aM hi W W')(hl:lo<=hi):Jl lo g a c rs W':=
 h.via (fun k cs S h1 h2 h3=>hy.Em k cs S (Ec6 h1 h2 h3)) (hy.bel.mono hl)
theorem Jl.B{a:UA}(h:Jl lo g a c rs W)(hb:Eh W W'):Jl lo g a c rs W':=
 h.via (fun _ _ _ _ _ _ hk=>hk.B hb) (hb.mono (Ey h.lm (Nat.le_of_lt h.Em.lt)))
theorem Jl.mut{a:UA}(h:Jl lo g a c rs W)(m:Ev lo hi W W')(C:Jz lo g a.gc a.gq a.gt c' W'):Jl lo g a c' rs W':=
 ⟨C,m.Em h.Em EZ EZ,h.lm,h.l1,h.l2,h.l3,h.n12,h.n13,h.n23,h.st1.via (fun _ _ hk=>m.Em hk EZ EZ) (fun _ _ hk=>m.Em hk EZ EZ),
  h.st2.via (fun _ _ hk=>m.Em hk EZ EZ) (fun _ _ hk=>m.Em hk EZ EZ),h.mK.via (fun _ _ hk=>m.Em hk EZ EZ) (fun _ _ hk=>m.Em hk EZ EZ),h.mM⟩
def UA.s(a:UA)(k:Int):Nat:=if k=1 then a.s1 else if k=2 then a.s2 else a.s3
theorem Jl.str{a:UA}(h:Jl lo g a c rs W){k:Int}(hk:1<=k/\k<=3):aZ lo (a.s k) (rs k) W/\lo<=a.s k/\W.cell? ⟨a.gm,2+(k-1).toNat,Z⟩=X (V (X ⟨a.s k,0,Z⟩)):=by
 have hc:k=1\/k=2\/k=3:=U;have hb:=D.cell h.Em;rcases hc with rfl|rfl|rfl;·exact⟨h.st1,h.l1,(hb 2).trans O⟩
 ·exact⟨h.st2,h.l2,(hb 3).trans O⟩
 ·exact⟨h.mK,h.l3,(hb 4).trans O⟩
theorem Ec7{xs:List Int}(h:(nx xs).kd=0)(hb:Ua xs):xs.length<=40:=by
 match xs,h,hb with
 |[],_,_=>simp
 |[_],_,_=>simp
 |[_,_],_,_=>simp
 |a::v::n::r,h,hb=>
  have hn:=hb n Ek;rw[gU] at h;by_cases h1:a≠165;·rw[if_pos h1] at h;cases h
  ·rw[if_neg h1] at h;rw[mC] at h;by_cases h2:v≠1;·rw[if_pos h2] at h;cases h
   ·rw[if_neg h2] at h;rw[show yf (n::r)=bu 1 n r from rfl] at h;unfold bu at h;by_cases h3:32<n;·rw[if_pos h3] at h;cases h
    ·rw[if_neg h3] at h;by_cases h4:(r.length:Int)<n+2;·simp only[List.length_cons];omega
     ·rw[if_neg h4] at h;split at h<;>cases h
theorem Ur.Ec8{xs i r}(h:Ur xs i r):Ua xs->r.length<=40:=by
 induction h with
 |wait h=>exact fun hb=>Ec7 h hb
 |step h t ih=>exact fun hb=>ih (hb.dr _)
theorem Jl.take{a:UA}{w2:H}(h:Jl lo g a c rs W){k:Int}(hk:1<=k/\k<=3)(hb:Eh W w2){r:List Int}(e:W'=w2.setCell ⟨a.s k,0,Z⟩ (u A r.length d))(ho:Own W' lo A d r)(hr:Ua r/\r.length<=40):Jl lo g a c (fun s=>if s=k then r else rs s) W'/\EG (a.s k) W W':=by
 obtain⟨⟨A0,c0,kb,o0⟩,hl,-⟩:=h.str hk;have Y9:=h.B hb;have jg:=kb.B hb;have on:EG (a.s k) w2 W':=by rw[e];exact OH 0 _
 have keep: ∀i cs S,S≠122->D w2 i cs S->D W' i cs S:=fun i cs S hS hi=>on.Em hi (E7 hi jg hS);have ks:D W' (a.s k) #[u A r.length d] 122:=by rw[e];exact jg.set 0 _
 have new:aZ lo (a.s k) r W':=⟨A,d,ks,ho⟩;have old: ∀gs x,aZ lo gs x w2->gs≠a.s k->aZ lo gs x W':=fun gs x ⟨A1,c1,k1,o1⟩ hne=>⟨A1,c1,on.Em k1 hne,bC o1 fun _ _=>keep _ _ _ EZ⟩;have hlo:Below lo w2 W':=on.bel lo hl (Ey Y9.lm (Nat.le_of_lt Y9.Em.lt))
 have Ec9: ∀i,Ua ((fun s=>if s=k then r else rs s) i)/\((fun s=>if s=k then r else rs s) i).length<=40:=fun i=>by
  dsimp only;split;·exact hr
  ·exact h.mM i
 refine⟨⟨Y9.core.via (fun i cs S hS=>keep i cs S pp) hlo,keep _ _ _ EZ Y9.Em,h.lm,h.l1,h.l2,h.l3,h.n12,h.n13,h.n23,?_,?_,?_,Ec9⟩,(EG.Eu hb).trans on⟩
 all_goals
  have hc:k=1\/k=2\/k=3:=U
  rcases hc with rfl|rfl|rfl
 ·exact new
 ·exact old _ _ Y9.st1 h.n12
 ·exact old _ _ Y9.st1 h.n13
 ·exact old _ _ Y9.st2 h.n12.symm
 ·exact new
 ·exact old _ _ Y9.st2 h.n23
 ·exact old _ _ Y9.mK h.n13.symm
 ·exact old _ _ Y9.mK h.n23.symm
 ·exact new
theorem jS:ID EJ 48 10:=⟨⟨_,Tryz.underlying48,O⟩,Ec⟩
theorem JE.one(e:JE)(A:Option Et)(d:Nat):(e.cells A d).toArray.all (·.oneCell')=G:=by simp[JE.cells,JE.Y5,Value.oneCell']
structure U1(ge gb:Nat)(e:JE)(A:Option Et)(d gm:Nat)(W:H):Prop where
 ev:D W ge (e.cells A d).toArray 48
 mb:D W gb #[V (X ⟨gm,0,Z⟩)] 32
theorem U1.via{e:JE}(h:U1 ge gb e A d gm W)(h1: ∀k c,D W k c 48->D W' k c 48)(h2: ∀k c,D W k c 32->D W' k c 32):U1 ge gb e A d gm W':=⟨h1 _ _ h.ev,h2 _ _ h.mb⟩
theorem U1.mut{e:JE}(h:U1 ge gb e A d gm W)(m:Ev lo hi W W'):U1 ge gb e A d gm W':=h.via (fun _ _ hk=>m.Em hk EZ EZ) (fun _ _ hk=>m.Em hk EZ EZ)
theorem U1.y{e:JE}(h:U1 ge gb e A d gm W)(m:aM hi W W'):U1 ge gb e A d gm W':=h.via (fun _ _ hk=>m.Em _ _ _ EZ hk) (fun _ _ hk=>m.Em _ _ _ EZ hk)
theorem U1.B{e:JE}(h:U1 ge gb e A d gm W)(m:Eh W W'):U1 ge gb e A d gm W':=h.via (fun _ _ hk=>hk.B m) (fun _ _ hk=>hk.B m)
structure jT(lo hi l:Nat)(RA:EA->Nat->List Rec->H->Prop):Prop where
 lh:lo<=hi
 dz: ∀c m new W,RA c m new W->hi<=W.heap.size
 B: ∀c m new W W',RA c m new W->Eh W W'->RA c m new W'
 mu: ∀c m new W W',RA c m new W->Ev lo W.heap.size W W'->RA c m new W'
 only: ∀c m new W W' gs cs,RA c m new W->D W gs cs 122->EG gs W W'->RA c m new W'
 yu: ∀(c c':EA) (m:Nat) (new:List Rec) (W:H) (sv rv:M) (ns:Nat) (nw:List Rec) (sc:oU) (hd:List Int) (b:Nat),RA c m new W->hd.length=32->(∀x∈hd,0<=x/\x<=255)->W.ownsRow b 264 2 sv ns sc.l->W.ownsRow b 58 6 rv nw.length (J1 nw)->m<=100000->new.length<=100000->ns<=15->nw.length<=13->
  YieldAt Fence.wide 8 EJ l #[EU (I7 (JD c') sv rv hd).toArray] W fun en W'=>en=Eg (Eb G)/\RA c' (m+ns) (new++nw) W'/\aM hi W W'
theorem yv{ops:Array EK}{rest:List EK}{o:EK}{a:Act}(hw:IQ o (yielded ops a.tmps)=G)(hY:YieldAt Fence.wide 8 EJ l #[v] W R)(he: ∀nx,(Instr.yield l #[v]).run EJ W= .ok nx W->(execOp a.eval o).run EJ W= .ok nx W)(hd: ∀c,o.op≠ .defer c) (hk: ∀e W',R e W'-> ∃Y3,e=Eg Y3/\wpListIn Fence.wide 9 EJ ops Q rest (a.put o.dst Y3) W'):wpListIn Fence.wide 9 EJ ops Q (o::rest) a W:=by obtain⟨fn,tmps,assign,body,hy,hR⟩:=hY;unfold wpListIn;rw[if_pos hw];refine⟨fun _ _=>trivial,?_⟩;rw[show o.semAt Fence.wide.round a.eval=execOp a.eval o from rfl,he _ hy];refine⟨fun _=>U,hR.mono ?_⟩;intro e W' h;obtain⟨Y3,rfl,h2⟩:=hk e W' h;exact h2
theorem jL.len{b:Bool}{new:List Rec}(h:jL b c c' new):new.length<=1:=by rcases h with⟨_,_,rfl⟩|⟨_,_,_,_,_,_,_,_,⟨rfl,_⟩|rfl⟩<;>simp
theorem jH.len{new:List Rec}(h:jH c c' new):new.length<=1:=by obtain⟨_,_,_,⟨_,rfl⟩|⟨_,_,_,rfl⟩|⟨_,_,_,_,_,_,_,rfl⟩|⟨rfl,_⟩⟩:=h<;>simp
def jV(lo hi:Nat)(g:Nat->M)(a:UA)(e:JE)(c:EA)(rs:Int->List Int)(RA:EA->Nat->List Rec->H->Prop)(W:H)(en:Ending)(W':H):Prop:=
 (∃v,en=Eg v)/\ ∃(c':EA) (rs':Int->List Int) (m:Nat) (new:List Rec),Jl lo g a c' rs' W'/\RA c' m new W'/\yh g e c rs c' rs' m new/\new.length<=5000/\Jo lo hi W W'
theorem Ec_(lo hi l ge gb:Nat)(g:Nat->M)(a:UA)(c:EA)(rs:Int->List Int)(e:JE)(A:Option Et)(d:Nat)(RA:EA->Nat->List Rec->H->Prop)(w:H)(Y7:jT lo hi l RA)(Y8:Jl lo g a c rs w)(K:U1 ge gb e A d a.gm w)(R0:RA c 0 [] w)(hk:e.kind=3): Ef EJ 47 #[.func (.yield l) #[] #[],V (X ⟨ge,0,Z⟩),V (X ⟨gb,0,Z⟩)] w (jV lo hi g a e c rs RA w):=by
 have ck:w.cell? ⟨ge,0,Z⟩=X (E I e.kind):=(D.cell K.ev 0).trans O;have cm:w.cell? ⟨gb,0,Z⟩=X (V (X ⟨a.gm,0,Z⟩)):=(D.cell K.mb 0).trans O;have cc:w.cell? ⟨a.gm,0,Z⟩=X (V (X ⟨a.gc,0,Z⟩)):=(D.cell Y8.Em 0).trans O;have t0:(e.kind==0)=Y:=dV;have t1:(e.kind==1)=Y:=dV;have t2:(e.kind==2)=Y:=dV;have t3:(e.kind==3)=G:=dV;have YY:=J Y7;have MM:=J Y8;have KK:=J K;have RR:=J R0;have HK:=J hk;clear Y7 Y8 K R0;clear hk;go_enter Tryz.func47,Tryz.ntmps47;generalize hc:Code.region 13 _ _=c13;go_wp2_with fail;subst hc;refine(wpIn_wide (n:=9)).1 (wpIn_region_lit ?_);refine tA 6 (.inl O) tR Ec ?_;simp only[Il,Ij,Iz,Ix];go_wp2_with fail;(with_reducible refine(Ecf lo g a.gc a.gq a.gt c _ MM.out.core).mono ?_);rintro e2 w2 ⟨c',ns,new,sv,rv,sc,hd,rfl,JA,J5,os,JS,C2,⟨hns,hnl,hR⟩,mm⟩;go_wp2_with fail;have RW:=YY.out.mu c 0 [] w w2 RR.out mm;refine yv (Ei O) (YY.out.yu c c' 0 [] w2 sv rv ns new sc hd w.heap.size RW JA J5 os JS U Ek U U) (fun nx hy=> ?_) (fun _ h=>Uf) ?_;·simp[go_sem,hy]
 rintro e3 w3 ⟨rfl,r3,y3⟩;refine⟨_,O,wpListIn_nil ?_⟩;go_wp2_with fail;go_end0;rw[List.nil_append,Nat.zero_add] at r3;refine⟨⟨_,O⟩,c',rs,ns,new,(MM.out.mut mm C2).y y3 YY.out.lh,r3,?_,U,(Jo.tQ mm YY.out.lh (YY.out.dz _ _ _ _ RR.out) (E5 _)).trans (Jo.pk y3 YY.out.lh)⟩;exact .inr (.inr (.inr (.inl ⟨HK.out,O,hR⟩)))
theorem EdE(lo hi l ge gb:Nat)(g:Nat->M)(a:UA)(c:EA)(rs:Int->List Int)(e:JE)(A:Option Et)(d:Nat)(RA:EA->Nat->List Rec->H->Prop)(w:H)(Y7:jT lo hi l RA)(Y8:Jl lo g a c rs w)(K:U1 ge gb e A d a.gm w)(R0:RA c 0 [] w)(hk:e.kind=2): Ef EJ 47 #[.func (.yield l) #[] #[],V (X ⟨ge,0,Z⟩),V (X ⟨gb,0,Z⟩)] w (jV lo hi g a e c rs RA w):=by
 have ck:w.cell? ⟨ge,0,Z⟩=X (E I e.kind):=(D.cell K.ev 0).trans O;have cm:w.cell? ⟨gb,0,Z⟩=X (V (X ⟨a.gm,0,Z⟩)):=(D.cell K.mb 0).trans O;have cc:w.cell? ⟨a.gm,0,Z⟩=X (V (X ⟨a.gc,0,Z⟩)):=(D.cell Y8.Em 0).trans O;have t0:(e.kind==0)=Y:=dV;have t1:(e.kind==1)=Y:=dV;have t2:(e.kind==2)=G:=dV;have YY:=J Y7;have MM:=J Y8;have KK:=J K;have RR:=J R0;have HK:=J hk;clear Y7 Y8 K R0;clear hk;go_enter Tryz.func47,Tryz.ntmps47;go_wp2_with fail;have ym: ∀y:Ext w,(Ex w y).cell? ⟨gb,0,Z⟩=X (V (X ⟨a.gm,0,Z⟩)):=fun y=>(D.cell (KK.out.B (EC y)).mb 0).trans O;have yc: ∀y:Ext w,(Ex w y).cell? ⟨a.gm,0,Z⟩=X (V (X ⟨a.gc,0,Z⟩)):=fun y=>(D.cell (MM.out.B (EC y)).Em 0).trans O;have yb: ∀y:Ext w,(Ex w y).cell? ⟨ge,4+5,Z⟩=X (Eb e.bad):=fun y=>(D.cell (KK.out.B (EC y)).ev 9).trans O;have yb2: ∀y:Ext w,(Ex w y).cell? ⟨ge,9,Z⟩=X (Eb e.bad):=fun y=>(D.cell (KK.out.B (EC y)).ev 9).trans O;refine Fz 7 Ec Ec O O O (fun _ _ _ h=>h) ?_;simp only[Il,Ij,Iz,Ix];repeat (go_big_quiet_step (fail))
 refine wpQuiet_nil ?_;intro _ hw';obtain⟨y9,rfl⟩:=hw';have El:=EC y9;clear yb yb2;have MB:=J<|Jo.Eu (lo:=lo) (hi:=hi) El (Ey MM.out.lm (Nat.le_of_lt MM.out.Em.lt));replace MM:=J<|MM.out.B El;replace RR:=J<|YY.out.B _ _ _ _ _ RR.out El;clear KK El ym yc;generalize Ex w y9=w1 at*;refine tA 1 (.inl O) tR Ec ?_;simp only[Il,Ij,Iz,Ix];go_wp2_with fail;(with_reducible refine(Ecg lo g a.gc a.gq a.gt c e.bad _ MM.out.core).mono ?_);rintro e2 w2 ⟨c',ns,new,sv,rv,sc,hd,rfl,JA,J5,os,JS,C2,⟨hns,hR⟩,mm⟩;go_wp2_with fail;have RW:=YY.out.mu c 0 [] w1 w2 RR.out mm;refine yv (Ei O) (YY.out.yu c c' 0 [] w2 sv rv ns new sc hd w1.heap.size RW JA J5 os JS U Ek U (by have:=jL.len hR;omega)) (fun nx hy=> ?_) (fun _ h=>Uf) ?_;·simp[go_sem,hy]
 rintro e3 w3 ⟨rfl,r3,y3⟩;refine⟨_,O,wpListIn_nil ?_⟩;go_wp2_with fail;go_end0;rw[List.nil_append,Nat.zero_add] at r3;refine⟨⟨_,O⟩,c',rs,ns,new,(MM.out.mut mm C2).y y3 YY.out.lh,r3,?_,by have:=(jL.len hR);omega,MB.out.trans ((Jo.tQ mm YY.out.lh (YY.out.dz _ _ _ _ RR.out) (E5 _)).trans (Jo.pk y3 YY.out.lh))⟩;exact .inr (.inr (.inl ⟨HK.out,O,hR⟩))
theorem EdJ(lo hi l ge gb:Nat)(g:Nat->M)(a:UA)(c:EA)(rs:Int->List Int)(e:JE)(A:Option Et)(d:Nat)(RA:EA->Nat->List Rec->H->Prop)(w:H)(Y7:jT lo hi l RA)(Y8:Jl lo g a c rs w)(K:U1 ge gb e A d a.gm w)(R0:RA c 0 [] w)(hk:e.kind=1)(hx:e.ok): Ef EJ 47 #[.func (.yield l) #[] #[],V (X ⟨ge,0,Z⟩),V (X ⟨gb,0,Z⟩)] w (jV lo hi g a e c rs RA w):=by
 have ck:w.cell? ⟨ge,0,Z⟩=X (E I e.kind):=(D.cell K.ev 0).trans O;have cm:w.cell? ⟨gb,0,Z⟩=X (V (X ⟨a.gm,0,Z⟩)):=(D.cell K.mb 0).trans O;have cc:w.cell? ⟨a.gm,0,Z⟩=X (V (X ⟨a.gc,0,Z⟩)):=(D.cell Y8.Em 0).trans O;have t0:(e.kind==0)=Y:=dV;have t1:(e.kind==1)=G:=dV;have YY:=J Y7;have MM:=J Y8;have KK:=J K;have RR:=J R0;have HK:=J hk;clear Y7 Y8 K R0;have HX:=J hx;clear hk hx;go_enter Tryz.func47,Tryz.ntmps47;go_wp2_with fail;have ym: ∀y:Ext w,(Ex w y).cell? ⟨gb,0,Z⟩=X (V (X ⟨a.gm,0,Z⟩)):=fun y=>(D.cell (KK.out.B (EC y)).mb 0).trans O;have yc: ∀y:Ext w,(Ex w y).cell? ⟨a.gm,0,Z⟩=X (V (X ⟨a.gc,0,Z⟩)):=fun y=>(D.cell (MM.out.B (EC y)).Em 0).trans O;have KG:Ea (OZ w ge (e.Y5 A d) 48):=J KK.out.ev;have HF:Ea (aV (e.Y5 A d) 3=3):=J O;refine Fz 7 Ec Ec O O O (fun _ _ _ h=>h) ?_;simp only[Il,Ij,Iz,Ix]
 repeat (first
  |go_big_quiet_skip
  |(go_big_quiet_want
    first
     |(refine Xa (T:=46) (g:=ge) (off:=3) x_ _ rfl rfl KG 3 rfl HF.out rfl ?_;go_simp;go_big_quiet_on)
     |(go_big_quiet_op
       go_big_quiet_on)))
 refine wpQuiet_nil ?_;intro _ hw';obtain⟨y9,rfl⟩:=hw';have El:=EC y9;clear KG HF;have MB:=J<|Jo.Eu (lo:=lo) (hi:=hi) El (Ey MM.out.lm (Nat.le_of_lt MM.out.Em.lt));replace MM:=J<|MM.out.B El;replace RR:=J<|YY.out.B _ _ _ _ _ RR.out El;clear KK El ym yc;generalize Ex w y9=w1 at*;refine tA 1 (.inl O) tR Ec ?_;simp only[Il,Ij,Iz,Ix];go_wp2_with fail;(with_reducible refine(Ech lo g a.gc a.gq a.gt c e.valid e.give e.x0 e.x1 e.x2 e.x3 _ MM.out.core ⟨HX.out.x0,HX.out.x1,HX.out.x2,HX.out.x3⟩).mono ?_);rintro e2 w2 ⟨c',ns,new,sv,rv,sc,hd,rfl,JA,J5,os,JS,C2,⟨hns,hR⟩,mm⟩;go_wp2_with fail;have RW:=YY.out.mu c 0 [] w1 w2 RR.out mm;refine yv (Ei O) (YY.out.yu c c' 0 [] w2 sv rv ns new sc hd w1.heap.size RW JA J5 os JS U Ek U (by have:=jH.len hR;omega)) (fun nx hy=> ?_) (fun _ h=>Uf) ?_;·simp[go_sem,hy]
 rintro e3 w3 ⟨rfl,r3,y3⟩;refine⟨_,O,wpListIn_nil ?_⟩;go_wp2_with fail;go_end0;rw[List.nil_append,Nat.zero_add] at r3;refine⟨⟨_,O⟩,c',rs,ns,new,(MM.out.mut mm C2).y y3 YY.out.lh,r3,?_,by have:=(jH.len hR);omega,MB.out.trans ((Jo.tQ mm YY.out.lh (YY.out.dz _ _ _ _ RR.out) (E5 _)).trans (Jo.pk y3 YY.out.lh))⟩;exact .inr (.inl ⟨HK.out,O,hR⟩)
theorem EdO(lo hi l ge gb:Nat)(g:Nat->M)(a:UA)(c:EA)(rs:Int->List Int)(e:JE)(A:Option Et)(d:Nat)(RA:EA->Nat->List Rec->H->Prop)(w:H)(Y7:jT lo hi l RA)(Y8:Jl lo g a c rs w)(K:U1 ge gb e A d a.gm w)(R0:RA c 0 [] w)(hk:e.kind≠0/\e.kind≠1/\e.kind≠2/\e.kind≠3): Ef EJ 47 #[.func (.yield l) #[] #[],V (X ⟨ge,0,Z⟩),V (X ⟨gb,0,Z⟩)] w (jV lo hi g a e c rs RA w):=by
 have ck:w.cell? ⟨ge,0,Z⟩=X (E I e.kind):=(D.cell K.ev 0).trans O;have cm:w.cell? ⟨gb,0,Z⟩=X (V (X ⟨a.gm,0,Z⟩)):=(D.cell K.mb 0).trans O;have cc:w.cell? ⟨a.gm,0,Z⟩=X (V (X ⟨a.gc,0,Z⟩)):=(D.cell Y8.Em 0).trans O;have t0:(e.kind==0)=Y:=by simpa using hk.1
 have t1:(e.kind==1)=Y:=by simpa using hk.2.1
 have t2:(e.kind==2)=Y:=by simpa using hk.2.2.1
 have t3:(e.kind==3)=Y:=by simpa using hk.2.2.2
 clear cm cc;go_enter Tryz.func47,Tryz.ntmps47;go_wp2_with fail;go_end0;exact⟨⟨_,O⟩,c,rs,0,[],Y8,R0,.inr (.inr (.inr (.inr ⟨⟨hk.2.1,hk.2.2.1,hk.2.2.2,fun h=>absurd h hk.1⟩,O,O,O,O⟩))),Ek,.refl _ _ _⟩
theorem EdU(lo hi l ge gb:Nat)(g:Nat->M)(a:UA)(c:EA)(rs:Int->List Int)(e:JE)(A:Option Et)(d:Nat)(RA:EA->Nat->List Rec->H->Prop)(w:H)(Y7:jT lo hi l RA)(Y8:Jl lo g a c rs w)(K:U1 ge gb e A d a.gm w)(R0:RA c 0 [] w)(hk:e.kind=0)(hs: ¬(1<=e.src/\e.src<=3)): Ef EJ 47 #[.func (.yield l) #[] #[],V (X ⟨ge,0,Z⟩),V (X ⟨gb,0,Z⟩)] w (jV lo hi g a e c rs RA w):=by
 have ck:w.cell? ⟨ge,0,Z⟩=X (E I e.kind):=(D.cell K.ev 0).trans O;have cm:w.cell? ⟨gb,0,Z⟩=X (V (X ⟨a.gm,0,Z⟩)):=(D.cell K.mb 0).trans O;have cc:w.cell? ⟨a.gm,0,Z⟩=X (V (X ⟨a.gc,0,Z⟩)):=(D.cell Y8.Em 0).trans O;have cs:w.cell? ⟨ge,1,Z⟩=X (E I e.src):=(D.cell K.ev 1).trans O;have t0:(e.kind==0)=G:=dV;clear cm cc;have fin:jV lo hi g a e c rs RA w (Eg (Es #[])) w:=⟨⟨_,O⟩,c,rs,0,[],Y8,R0,.inr (.inr (.inr (.inr ⟨⟨U,U,U,fun _=>hs⟩,O,O,O,O⟩))),Ek,.refl _ _ _⟩;by_cases h1:e.src<1;·have t1:decide (e.src<1)=G:=Ia h1;exact Ek5
 ·have t1:decide (e.src<1)=Y:=E9 h1;have t2:decide (3<e.src)=G:=Ia U;exact Ek5
theorem Tf(gm:Nat)(k:Int)(j:Nat)(hk:k=(j:Int)+1)(hj:j<3)(W:H):(Instr.indexAt 82 (V (X ⟨gm,2,Z⟩)) (E I (k-1))).run EJ W= .ok (V (X ⟨gm,2+j,Z⟩)) W:=by have h:j=0\/j=1\/j=2:=U;subst hk;rcases h with rfl|rfl|rfl<;>rfl
theorem Jo.EdX(ho:EG gs w w')(K:D w gs cs 122)(hl:lo<=gs)(hw:lo<=w.heap.size):Jo lo hi w w':=
 ⟨ho.bel lo hl hw,fun _ _ _ _ _ hS hb=>ho.Em hb (E7 hb K hS)⟩
theorem mN{xs:List M}(h:W.ownsRow b T size v n xs): ∃(A:Option Et) (c:Nat),v=u A n c:=by
 rcases h.2 with⟨rfl,rfl⟩|⟨g,cap,cur,rfl,_⟩;·exact⟨Z,0,O⟩
 ·exact⟨_,_,O⟩
theorem EdZ{c i:Nat}{vals:List M}(h:W.ownsRow base 74 2 (u A n c) n vals)(hi:i<n): ∃ga,A=X ⟨ga,0,Z⟩/\n<=c/\c<=9223372036854775807/\ ∀j Y3,vals[i*2+j]?=X Y3->W.cell? ⟨ga,i*2+j,Z⟩=X Y3:=by
 have h0:=h;rcases h.2 with⟨hv,h1⟩|⟨g,cap',cur,hv,hg,hh,hl,hm,hs,ht⟩;·omega
 ·injection hv with h1 h2 h3;subst h1;subst h3;refine⟨g,O,hl,Tg,fun j Y3 hu=> ?_⟩;have:=h0.cells (g:=g) O _ Y3 hu;rwa [show(⟨g,0,Z⟩:Et).add (i*2+j)=⟨g,i*2+j,Z⟩ from U4] at this
theorem Eda:Og EJ 74 #[E I 0,u Z 0 0]:=by exact Eiz
theorem Edb(lo hi l ge gb:Nat)(g:Nat->M)(a:UA)(c:EA)(rs:Int->List Int)(e:JE)(A:Option Et)(d:Nat)(RA:EA->Nat->List Rec->H->Prop)(w:H)(Y7:jT lo hi l RA)(Y8:Jl lo g a c rs w)(K:U1 ge gb e A d a.gm w)(R0:RA c 0 [] w)(hk:e.kind=0)(hs:1<=e.src/\e.src<=3)(hb:e.b.length<=1000)(hr:Row w A e.b): Ef EJ 47 #[.func (.yield l) #[] #[],V (X ⟨ge,0,Z⟩),V (X ⟨gb,0,Z⟩)] w (jV lo hi g a e c rs RA w):=by
 have ck:w.cell? ⟨ge,0,Z⟩=X (E I e.kind):=(D.cell K.ev 0).trans O;have cs:w.cell? ⟨ge,1,Z⟩=X (E I e.src):=(D.cell K.ev 1).trans O;have t0:(e.kind==0)=G:=dV;have t1:decide (e.src<1)=Y:=E9 U;have t2:decide (3<e.src)=Y:=E9 U;have hbb:Ua e.b:=hr.2;have hbr:=Y8.mM e.src;obtain⟨its,r,hp⟩:=Ur.ex _ (rs e.src++e.b) (E5 _) (hbr.1.app hbb);have hok:=hp.ok (hbr.1.app hbb);have hlen:=hp.len (hbr.1.app hbb);rw[IL] at hlen;have HN:=J (show its.length<=1040 by have:=hbr.2;omega);have xi:=J hok.1;have HR2:=J<|And.intro hok.2 (hp.Ec8 (hbr.1.app hbb));have HP:=J hp;have HS:=J hs;have HB:=J hb;have RW:=J hr;have SB:=J<|fun W=>sub_one e.src hs.1 hs.2 W;obtain⟨j,hj,UC⟩: ∃j:Nat,e.src=(j:Int)+1/\j<3:=⟨(e.src-1).toNat,U,U⟩;have IX:=J<|fun W=>Tf a.gm e.src j hj UC W;have SC:=J (fun W (h:Jl lo g a c rs W)=>show W.cell? ⟨a.gm,2+j,Z⟩=X (V (X ⟨a.s e.src,0,Z⟩)) by have:=(h.str hs).2.2;rwa [show(e.src-1).toNat=j from U] at this);obtain⟨F3,hrs⟩: ∃f:Int->List Int,f=fun s=>if s=e.src then r else rs s:=⟨_,O⟩
 have Z7:=J hrs;have YY:=J Y7;have MM:=J Y8;have KK:=J K;have RR:=J R0;have HK:=J hk;clear Y7 Y8 K R0;clear hj UC hk hs hb hr hbb hbr hp hok hlen hrs;go_enter Tryz.func47,Tryz.ntmps47;go_wp2_with fail;refine Zy (Ph:=fun p wq=>(match p with|0=>Jl lo g a c rs wq/\U1 ge gb e A d a.gm wq/\RA c 0 [] wq/\Row wq A e.b/\Jo lo hi w wq|_=>Jl lo g a c F3 wq/\U1 ge gb e A d a.gm wq/\RA c 0 [] wq/\Jo lo hi w wq)) (Rel:=Jr) (If:=fun _ _=>True) [kq (V (X ⟨a.gm,0,Z⟩)),kp ge 1,kq (E I e.src),kq (E I (e.src-1)),kq (V (X ⟨a.gm,0,Z⟩)),kq (V (X ⟨a.gm,2,Z⟩)),kq (V (X ⟨a.gm,2+j,Z⟩)),kq (V (X ⟨a.s e.src,0,Z⟩)),kp ge 2,kq (u A e.b.length d),.late (fun v w=> ∃(vals:List M),w.ownsRow lo 74 2 v its.length vals/\O_ w lo its vals) (fun v w w' h hr=>by obtain⟨vals,h1,h2⟩:=h;exact⟨vals,EW h1 fun _ _ hk=>D.B hk hr,h2.keep fun _ _ hk=>D.B hk hr⟩),kq (E I its.length),kq (E I 0)] [Y,Y,Y,Y,Y,Y,Y,Y,Y,Y,G,Y,Y] O [10] [(0,0),(0,0),(0,0),(0,0),(0,0),(0,0),(0,0),(0,0),(0,0),(0,0),(0,0),(1,1),(0,1)] Ec Ec Ec Ec Ec On Ec ?hPh ?h0 ?hstep ?hend
 case hPh=>
  intro p w2 w3 h hr;match p,h with
  |0,h=>exact⟨h.1.B hr,h.2.1.B hr,YY.out.B _ _ _ _ _ h.2.2.1 hr,Iq h.2.2.2.1 hr,h.2.2.2.2.trans (Jo.Eu hr (Ey h.1.lm (Nat.le_of_lt h.1.Em.lt)))⟩
  |_+1,h=>exact⟨h.1.B hr,h.2.1.B hr,YY.out.B _ _ _ _ _ h.2.2.1 hr,h.2.2.2.trans (Jo.Eu hr (Ey h.1.lm (Nat.le_of_lt h.1.Em.lt)))⟩
 case h0=> have hb:=I1 w;exact⟨MM.out.B hb,KK.out.B hb,YY.out.B _ _ _ _ _ RR.out hb,Iq RW.out hb,Jo.Eu hb (Ey MM.out.lm (Nat.le_of_lt MM.out.Em.lt))⟩
 case hstep=>
  refine⟨?_,?_,?_,?_,?_,?_,?_,?_,?_,?_,?_,?_,?_,trivial⟩;all_goals first|intro xv wq p hlo hhi hp hd|intro xv wq hp hd
  all_goals simp only[EB,Ic,Ig,IJ,IU]
  ·obtain rfl:p=0:=U;have cc:wq.cell? ⟨gb,0,Z⟩=X (V (X ⟨a.gm,0,Z⟩)):=(D.cell hp.2.1.mb 0).trans O;exact Ep (by simp[go_sem,cc]) O
  ·exact EiE
  ·obtain rfl:p=0:=U;have d1:xv 1=V (X ⟨ge,1,Z⟩):=hd.at 1 rfl;have cc:wq.cell? ⟨ge,1,Z⟩=X (E I e.src):=(D.cell hp.2.1.ev 1).trans O;exact Ep iG O
  ·obtain rfl:p=0:=U;have d2:xv 2=E I e.src:=hd.at 2 rfl;exact Ir EF (Ei O) (oS O d2 O SB.out) O
  ·obtain rfl:p=0:=U;have d0:xv 0=V (X ⟨a.gm,0,Z⟩):=hd.at 0 rfl;exact El8
  ·obtain rfl:p=0:=U;have d4:xv 4=V (X ⟨a.gm,0,Z⟩):=hd.at 4 rfl;exact Emb
  ·obtain rfl:p=0:=U;have d5:xv 5=V (X ⟨a.gm,2,Z⟩):=hd.at 5 rfl;have d3:xv 3=E I (e.src-1):=hd.at 3 rfl;exact Ir EF (Ei O) (mj O d5 d3 IX.out) O
  ·obtain rfl:p=0:=U;have d6:xv 6=V (X ⟨a.gm,2+j,Z⟩):=hd.at 6 rfl;have cc:wq.cell? ⟨a.gm,2+j,Z⟩=X (V (X ⟨a.s e.src,0,Z⟩)):=SC.out wq hp.1;exact Ep xq O
  ·exact EiE
  ·obtain rfl:p=0:=U;have d8:xv 8=V (X ⟨ge,2,Z⟩):=hd.at 8 rfl;have cc:wq.cell? ⟨ge,2,Z⟩=X (u A e.b.length d):=(D.cell hp.2.1.ev 2).trans O;exact Ep DH O
  ·have d7:xv 7=V (X ⟨a.s e.src,0,Z⟩):=hd.at 7 rfl;have d9:xv 9=u A e.b.length d:=hd.at 9 rfl;refine IY (f:=48) (args:= #[xv 7,xv 9]) (Ei O) Ew ?_;rw[d7,d9];obtain⟨A0,c0,kb,o0⟩:=(hp.1.str HS.out).1;refine(Ec3 (a.s e.src) lo A0 c0 (rs e.src).length (rs e.src) A e.b.length d e.b wq kb o0 O hp.2.2.2.1 rfl (hp.1.str HS.out).2.1 (by have:=(hp.1.mM e.src).2;omega) r_).mono fun en w2 h=> ?_;obtain⟨Ehc,r2,v,vals,A2,c2,w3,rfl,hp2,h1,h2,h3,h4,h5⟩:=h;obtain⟨rfl,rfl⟩:=HP.out.det hp2;have ht:=hp.1.take HS.out h3 h4 h5 HR2.out;exact⟨v,O,⟨trivial,by rw[Z7.out];exact ht.1,hp.2.1.via (fun _ _ hk=>ht.2.Em hk (E7 hk kb EZ)) (fun _ _ hk=>ht.2.Em hk (E7 hk kb EZ)),YY.out.only _ _ _ _ _ _ _ hp.2.2.1 kb ht.2,Jo.trans hp.2.2.2.2 (Jo.EdX ht.2 kb (hp.1.str HS.out).2.1 (Ey hp.1.lm (Nat.le_of_lt hp.1.Em.lt)))⟩,vals,pi h1 (Ey hp.1.lm (Nat.le_of_lt hp.1.Em.lt)),h2.mono (Ey hp.1.lm (Nat.le_of_lt hp.1.Em.lt))⟩
  ·obtain rfl:p=1:=U;obtain⟨vals,h1,h2⟩: ∃(vals:List M),wq.ownsRow lo 74 2 (xv 10) its.length vals/\O_ wq lo its vals:=hd.at 10 rfl;obtain⟨A3,c3,e3⟩:=mN h1;exact Ep (by simp[go_sem,e3]) O
  ·exact Eja
 case hend=>
  intro xv w2 hp hd;simp only[EB,Ic,Ig,IJ,IU,Nat.reduceAdd];obtain⟨vals,ow,iv⟩: ∃(vals:List M),w2.ownsRow lo 74 2 (xv 10) its.length vals/\O_ w2 lo its vals:=hd 10 EZ;obtain⟨A3,c3,e3⟩:=mN ow;have Jt:xv 11=E I its.length:=hd 11 EZ;have a12:xv 12=E I 0:=hd 12 EZ;rw[Jt,a12,e3];rw[e3] at ow;clear hd Jt a12 e3;have I0:=J<|And.intro hp (And.intro ow iv);clear hp ow iv;go_wp2_with fail;go_loopw[30] (fun Y3 wr=> ∃(i:Nat) (ci:EA) (mi:Nat) (ni:List Rec),Y3=E I i/\i<=its.length/\mi<=i*3/\aU g e.src (its.take i) c ci mi ni/\Jl lo g a ci F3 wr/\U1 ge gb e A d a.gm wr/\RA ci mi ni wr/\Jo lo hi w wr/\wr.ownsRow lo 74 2 (u A3 its.length c3) its.length vals/\O_ wr lo its vals) (fun Y3 _=>its.length-(intOf Y3).toNat);case atStart=>exact⟨0,c,0,[],O,Nat.zero_le _,E5 _,.nil c,I0.out.1.1,I0.out.1.2.1,I0.out.1.2.2.1,I0.out.1.2.2.2,I0.out.2.1,I0.out.2.2⟩
  case round=>
   clear I0 MM KK RR;obtain⟨i,ci,mi,ni,rfl,hin,Th,hw,Y8,K,R0,MB,ow,iv⟩:=hrel;have HW:=J hw;have MM:=J Y8;have KK:=J K;have RR:=J R0;replace MB:=J MB;have fY:=J Th;clear hw Y8 K R0 Th;by_cases hlt:i<its.length
   ·have t8:decide ((i:Int)<(its.length:Int))=G:=Ia U;obtain⟨x,hx⟩: ∃x,its[i]?=X x:=⟨_,List.getElem?_eq_getElem hlt⟩;obtain⟨A4,c4,e0,e1,ob⟩:=iv.get hx;obtain⟨ga,rfl,h1,h2,cells⟩:=EdZ ow hlt;have l4:=FY ob;obtain⟨-,hxo,-⟩:=xi.out x (List.mem_of_getElem? hx)
    have F4:Ea (wr.rangeAt ga (i*2) [E I x.1,.slice A4 x.2.length c4]):=J (by
     intro j v hj;match j,hj with
     |0,hj=>exact(cells 0 _ e0).trans hj
     |1,hj=>exact(cells 1 _ e1).trans hj
     |j+2,hj=>simp at hj)
    have OW:=J<|And.intro ow iv;have OB:=J<|And.intro ob.row (And.intro l4 hxo);have HX:=J hx;clear ow iv ob l4 hxo cells e0 e1 hx;have ci0:wr.cell? ⟨ga,i*2,Z⟩=X (E I x.1):=F4.out 0 _ O;have ci1:wr.cell? ⟨ga,i*2+1,Z⟩=X (.slice A4 x.2.length c4):=F4.out 1 _ O;go_wp2_with (with_reducible refine wA Eda (Ed.mk ?_));refine Ed.in ?_;clear ci0 ci1 F4;obtain⟨gi,hgi⟩:=En wr.heap.size;have K0:=J<|D.new wr #[E I 0,u Z 0 0] 74;have b2:=Eo wr (EI #[E I 0,u Z 0 0] 74);rw[<-hgi] at K0⊢;generalize wr.alloc (EI #[E I 0,u Z 0 0] 74)=w4 at*;have Ti:=J<|Nat.le_of_eq hgi.symm;clear hgi;go_wp2_with (with_reducible refine wS (cs:= #[E I x.1,.slice A4 x.2.length c4]) Ft K0 (Ed.mk ?_) (h1:=OP));refine Ed.in ?_;have KI:=J<|K0.out.setRow #[E I x.1,.slice A4 x.2.length c4];have b3:=E2 (g:=gi) b2 Ti.out #[E I x.1,.slice A4 x.2.length c4];generalize w4.setRow gi #[E I x.1,.slice A4 x.2.length c4]=w5 at*;have dS:=Ey MM.out.lm (Nat.le_of_lt MM.out.Em.lt);replace MB:=J<|MB.out.trans (Jo.Eu b3 dS);replace MM:=J<|MM.out.B b3;replace KK:=J<|KK.out.B b3;replace RR:=J<|YY.out.B _ _ _ _ _ RR.out b3;replace OW:=J<|And.intro (EW OW.out.1 fun _ _ hk=>D.B hk b3) (OW.out.2.keep fun _ _ hk=>D.B hk b3);replace OB:=J<|And.intro (Iq OB.out.1 b3) OB.out.2;clear K0 b2 b3 Ti dS;go_wp2_with fail;have ym: ∀y:Ext w5,(Ex w5 y).cell? ⟨gb,0,Z⟩=X (V (X ⟨a.gm,0,Z⟩)):=fun y=>(D.cell (KK.out.B (EC y)).mb 0).trans O;have yc: ∀y:Ext w5,(Ex w5 y).cell? ⟨a.gm,0,Z⟩=X (V (X ⟨a.gc,0,Z⟩)):=fun y=>(D.cell (MM.out.B (EC y)).Em 0).trans O;have ys: ∀y:Ext w5,(Ex w5 y).cell? ⟨ge,1,Z⟩=X (E I e.src):=fun y=>(D.cell (KK.out.B (EC y)).ev 1).trans O;refine Fz 8 Ec Ec O O O (fun _ _ _ h=>h) ?_;simp only[Il,Ij,Iz,Ix]
    repeat (first
     |go_big_quiet_skip
     |(go_big_quiet_want
       first
        |(refine Oj (T:=74) (g:=gi) Ft _ rfl rfl KI ?_ ?_;(·rfl);go_simp;go_big_quiet_on)
        |(go_big_quiet_op
          go_big_quiet_on)))
    refine wpQuiet_nil ?_;intro _ hw';obtain⟨y9,rfl⟩:=hw';have El:=EC y9;have dS:=Ey MM.out.lm (Nat.le_of_lt MM.out.Em.lt);replace MB:=J<|MB.out.trans (Jo.Eu El dS);replace MM:=J<|MM.out.B El;replace KK:=J<|KK.out.B El;replace RR:=J<|YY.out.B _ _ _ _ _ RR.out El;replace OW:=J<|And.intro (EW OW.out.1 fun _ _ hk=>D.B hk El) (OW.out.2.keep fun _ _ hk=>D.B hk El);replace OB:=J<|And.intro (Iq OB.out.1 El) OB.out.2;clear El dS ym yc ys KI;generalize Ex w5 y9=w6 at*;refine tA 1 (.inl O) tR Ec ?_;simp only[Il,Ij,Iz,Ix];go_wp2_with fail;(with_reducible refine(Eci lo g a.gc a.gq a.gt ci x.1 A4 x.2.length c4 x.2 e.src _ MM.out.core HS.out O OB.out.2.1.1 OB.out.2.1.2 (by have:=OB.out.2.2;omega) OB.out.1).mono ?_);rintro e2 w7 ⟨c',ns,new,sv,rv,sc,hd,rfl,JA,J5,os,JS,C2,⟨hns,hR⟩,mm⟩;go_wp2_with fail;have RW:=YY.out.mu ci mi ni w6 w7 RR.out mm;have hl1:=(aU.len HW.out);rw[List.length_take] at hl1;refine yv (Ei O) (YY.out.yu ci c' mi ni w7 sv rv ns new sc hd w6.heap.size RW JA J5 os JS (by have:=fY.out;have:=HN.out;omega) JP U (by have:=hR.len;omega)) (fun nx hy=> ?_) (fun _ h=>Uf) ?_;·simp[go_sem,hy]
    rintro e3 w8 ⟨rfl,r3,y3⟩;refine⟨_,O,?_⟩;refine tA 1 (.inl O) tR Ec ?_;simp only[Il,Ij,Iz,Ix];go_wp2_with fail;refine wpListIn_nil ?_;go_wp2_with fail;go_roundw
    case rel=>
     have hhi:=YY.out.dz _ _ _ _ RR.out;have e9:its.take (i+1)=its.take i++[x]:=by rw[List.take_add_one,HX.out];rfl
     refine⟨i+1,c',mi+ns,ni++new,O,U,by have:=fY.out;omega,?_,(MM.out.mut mm C2).y y3 YY.out.lh,(KK.out.mut mm).y y3,r3,MB.out.trans ((Jo.tQ mm YY.out.lh hhi (E5 _)).trans (Jo.pk y3 YY.out.lh)),?_,?_⟩;·rw[e9];exact aU.snoc HW.out hR
     ·exact EW OW.out.1 fun _ _ hk=>y3.Em _ _ _ EZ (mm.Em hk EZ EZ)
     ·exact OW.out.2.keep fun _ _ hk=>y3.Em _ _ _ EZ (mm.Em hk EZ EZ)
    case measure=> exact Emx
   ·have t8:decide ((i:Int)<(its.length:Int))=Y:=E9 U;go_wp2_with fail;go_end0;have hw:=HW.out;rw[List.take_of_length_le U] at hw;have hl1:=hw.len;refine⟨⟨_,O⟩,ci,F3,mi,ni,MM.out,RR.out,.inl ⟨HK.out,HS.out.1,HS.out.2,its,r,HP.out,Z7.out,hw⟩,JP,MB.out⟩
theorem Edf(lo hi l ge gb:Nat)(g:Nat->M)(a:UA)(c:EA)(rs:Int->List Int)(e:JE)(A:Option Et)(d:Nat)(RA:EA->Nat->List Rec->H->Prop)(w:H)(Y7:jT lo hi l RA)(Y8:Jl lo g a c rs w)(K:U1 ge gb e A d a.gm w)(R0:RA c 0 [] w)(hx:e.ok)(hb:e.b.length<=1000)(hr:Row w A e.b): Ef EJ 47 #[.func (.yield l) #[] #[],V (X ⟨ge,0,Z⟩),V (X ⟨gb,0,Z⟩)] w (jV lo hi g a e c rs RA w):=by
 by_cases h0:e.kind=0
 ·by_cases hs:1<=e.src/\e.src<=3;·exact Edb lo hi l ge gb g a c rs e A d RA w Y7 Y8 K R0 h0 hs hb hr
  ·exact EdU lo hi l ge gb g a c rs e A d RA w Y7 Y8 K R0 h0 hs
 ·by_cases h1:e.kind=1;·exact EdJ lo hi l ge gb g a c rs e A d RA w Y7 Y8 K R0 h1 hx
  ·by_cases h2:e.kind=2;·exact EdE lo hi l ge gb g a c rs e A d RA w Y7 Y8 K R0 h2
   ·by_cases h3:e.kind=3;·exact Ec_ lo hi l ge gb g a c rs e A d RA w Y7 Y8 K R0 h3
    ·exact EdO lo hi l ge gb g a c rs e A d RA w Y7 Y8 K R0 ⟨h0,h1,h2,h3⟩
theorem Edg{α:Type}(f:α->Tmp×M->α)(p:Tmp)(v:M)(t:α):(#[p].zip #[v]).foldl f t=f t (p,v):=by simp[Array.zip]
theorem Edh{f:FuncId}{fn:Func}{c:Code}{args:Array M}(hf:P.funcs[f]?=X fn)(hb:fn.body=X c) (h:c.wp P (bodyPostM Fence.wide 9 P fn R) {tmps:=args++Array.replicate (fn.ntmps-args.size) undef,defers:=[]} w):Ef P f args w R:=
 callsIn_wide.1 (callsIn_of_wp_marks (n:=9) hf hb trivial (wpIn_wide.2 h) O)
theorem Edi{g:Operand}{ps:Array Tmp}{assign body:Code}{a:Act}(gf:Nat)(lb:Array M)(hg:a.eval g= .func (.func gf) #[] lb)(eg: ∀args w,(callFunc gf args).run P w= .ok (.enter gf args) w) (h: ∀(fn:FuncId) (rc:Loop),rc={state:= .ready,pending:=Z,fn,tmps:=a.tmps,params:=ps,assign,body,defers:=w.heap.size}-> Ef P gf (#[.func (.yield (w.heap.size+1)) #[] #[]]++lb) ((w.alloc (.deferred (X []))).alloc (.loop rc)) (rangePost Fence.wide 9 P (w.heap.size+1) Q {a with defers:={target:= .collected w.heap.size,args:= #[]}::a.defers})):(Code.rangeFunc g ps assign body).wp P Q a w:=by
 refine(wpIn_wide (n:=9)).1 (wpIn_rangeFunc ?_);intro fn _;obtain⟨rc,hrc⟩:=En ({state:= .ready,pending:=Z,fn,tmps:=a.tmps,params:=ps,assign,body,defers:=w.heap.size}:Loop);refine⟨w.heap.size+1,[{target:= .collected w.heap.size,args:= #[]}],(w.alloc (.deferred (X []))).alloc (.loop rc),{target:= .fn (.func gf) lb,args:= #[.func (.yield (w.heap.size+1)) #[] #[]]},(w.alloc (.deferred (X []))).alloc (.loop rc),gf,#[.func (.yield (w.heap.size+1)) #[] #[]]++lb,(w.alloc (.deferred (X []))).alloc (.loop rc),?_,?_,fun _ _=>trivial,?_,fun _=>U,?_⟩;·rw[hrc];exact run_enterLoop_outer _ _ _ _ _
 ·simp only[resolve,hg];simp[go_sem]
 ·simp[invoke,go_sem,eg]
 ·exact callsIn_wide.2 (h fn rc hrc)
structure Zf(lo hi ga gr l Y_:Nat)(rc:Loop)(c:EA)(m:Nat)(new:List Rec)(W:H):Prop where
 all: ∃(A1 A2:Option Et) (c1 c2:Nat) (sc:oU) (hd:List Int),D W ga (I7 (JD c) (u A1 m c1) (u A2 new.length c2) hd).toArray 43/\hd.length=32/\(∀x∈hd,0<=x/\x<=255)/\W.ownsRow hi 264 2 (u A1 m c1) m sc.l/\W.ownsRow hi 58 6 (u A2 new.length c2) new.length (J1 new)
 res: ∃z:Array M,z.size=46/\D W gr z 43
 ne:ga≠gr
 lp:W.heap[l]?=X (.loop rc)
 df:W.heap[Y_]?=X (.deferred (X []))
 hga:hi<=ga
 hgr:hi<=gr
 hl:hi<=l
 hD:hi<=Y_
 lh:lo<=hi
theorem Zf.dz{new:List Rec}(h:Zf lo hi ga gr l Y_ rc c m new W):hi<=W.heap.size:=by obtain⟨z,-,k⟩:=h.res;have:=k.lt;have:=h.hgr;omega
theorem Zf.via{new:List Rec}(h:Zf lo hi ga gr l Y_ rc c m new W)(hb: ∀k cs S,S=43\/S=264\/S=58->D W k cs S->D W' k cs S)(ho: ∀(k:Nat) (o:Obj),W.heap[k]?=X o->o.isCells=Y->W'.heap[k]?=X o):Zf lo hi ga gr l Y_ rc c m new W':=by obtain⟨A1,A2,c1,c2,sc,hd,k,x1,x2,r1,r2⟩:=h.all;obtain⟨z,hz,kz⟩:=h.res;exact⟨⟨A1,A2,c1,c2,sc,hd,hb _ _ _ (.inl O) k,x1,x2,EW r1 fun _ _=>hb _ _ _ (.inr (.inl O)),EW r2 fun _ _=>hb _ _ _ (.inr (.inr O))⟩,⟨z,hz,hb _ _ _ (.inl O) kz⟩,h.ne,ho _ _ h.lp O,ho _ _ h.df O,h.hga,h.hgr,h.hl,h.hD,h.lh⟩
theorem Zf.B{new:List Rec}(h:Zf lo hi ga gr l Y_ rc c m new W)(hb:Eh W W'):Zf lo hi ga gr l Y_ rc c m new W':=
 h.via (fun _ _ _ _ hk=>hk.B hb) fun k o ho _=>(hb.block k (Ja.1 ho).1).trans ho
theorem Zf.mu{new:List Rec}(h:Zf lo hi ga gr l Y_ rc c m new W)(hb:Ev lo W.heap.size W W'):Zf lo hi ga gr l Y_ rc c m new W':=
 h.via (fun _ _ _ hS hk=>hb.old hk Tj hk.lt) fun k o ho hc=>hb.obj (Ja.1 ho).1 ho hc
theorem Zf.only{new:List Rec}(h:Zf lo hi ga gr l Y_ rc c m new W)(K:D W gs cs 122)(ho:EG gs W W'):Zf lo hi ga gr l Y_ rc c m new W':=
 h.via (fun _ _ _ hS hk=>ho.Em hk (E7 hk K Tj)) fun k o hk hc=>(ho.keep k (fun e=>by subst e;have K2:W.heap[k]?=X (EI cs 122 (0,0)):=K;rw[K2] at hk;injection hk with hk;subst hk;cases hc) (Ja.1 hk).1).trans hk
theorem pq{g:Nat}(K:D W g (I7 act sv rv hd).toArray 43)(h:act.length=12):W.cell? ⟨g,12,Z⟩=X sv/\W.cell? ⟨g,13,Z⟩=X rv:=by
 have e:=D.cell K;constructor;·exact ElR
 ·exact ElR
theorem Edj(sv rv:M)(hd:List Int)(h:act.length=12):(I7 act sv rv hd).toArray.extract 0 12=act.toArray:=by unfold I7;simp[h]
theorem Edk(sv rv:M)(hd:List Int)(h:act.length=12)(h32:hd.length=32):(I7 act sv rv hd).toArray.extract 14 (14+32)=(Ej hd):=by unfold I7 Ej;rw[List.extract_toArray];congr 1;rw[List.extract_eq_take_drop,<-List.append_assoc,List.drop_left' (by simp[h])];exact List.take_of_length_le (by simp[h32])
theorem tS:ID EJ 38 12:=⟨⟨_,Tryz.underlying38,O⟩,Ec⟩
theorem dW(c:EA):(JD c).length=12:=rfl
theorem Edl(c:EA): ∀Y3∈JD c,Y3.oneCell'=G:=by intro Y3 hu;simp only[JD,List.mem_cons,List.not_mem_nil,or_false] at hu;rcases hu with rfl|rfl|rfl|rfl|rfl|rfl|rfl|rfl|rfl|rfl|rfl|rfl<;>rfl
theorem Edm:Og EJ 43 (I7 [E I 0,E I 0,E I 0,E I 0,E I 0,E I 0,E I 0,E I 0,E I 0,E I 0,E I 0,E I 0] (u Z 0 0) (u Z 0 0) (Er 32)).toArray:=by exact Eiz
theorem Edn{g:Nat}{tT:List M}(K:D W g (I7 act sv rv hd).toArray 43)(h:act.length=12)(h2:tT.length=12):D (W.setCells g 0 tT) g (I7 tT sv rv hd).toArray 43:=
 Xg (post:=[sv,rv]++hd.map (E .u8)) tT act [] 0 W K U O
theorem Edo{g:Nat}(Y3:M)(K:D W g (I7 act sv rv hd).toArray 43)(h:act.length=12):D (W.setCell ⟨g,12,Z⟩ Y3) g (I7 act Y3 rv hd).toArray 43:=by have:=Xg (g:=g) (post:=[rv]++hd.map (E .u8)) (S:=43) [Y3] [sv] act 12 W F5 O h;simpa[I7,World.setCells] using this
theorem Edp{g:Nat}(Y3:M)(K:D W g (I7 act sv rv hd).toArray 43)(h:act.length=12):D (W.setCell ⟨g,13,Z⟩ Y3) g (I7 act sv Y3 hd).toArray 43:=by have:=Xg (g:=g) (post:=hd.map (E .u8)) (S:=43) [Y3] [rv] (act++[sv]) 13 W F5 O (by simp[h]);simpa[I7,World.setCells] using this
theorem Edq{g:Nat}{hd2:List Int}(K:D W g (I7 act sv rv hd).toArray 43)(h:act.length=12)(h1:hd.length=32)(h2:hd2.length=32):D (W.setCells g 14 (hd2.map (E .u8))) g (I7 act sv rv hd2).toArray 43:=by have:=Xg (g:=g) (post:=[]) (S:=43) (hd2.map (E .u8)) (hd.map (E .u8)) (act++[sv,rv]) 14 W F5 (by simp[h1,h2]) (by simp[h]);simpa[I7] using this
theorem XN(h:W.heap[l]?=X o)(hc:o.isCells=Y)(K:D W k cs S):D (W.putObj l o2) k cs S:=by refine(World.putObj_heap_other fun e=> ?_).trans K;subst e;have K2:W.heap[k]?=X (EI cs S (0,0)):=K;rw[h] at K2;injection K2 with K2;subst K2;cases hc
theorem yw(h:W.heap[l]?=X o)(hc:o.isCells=Y)(hl:hi<=l):aM hi W (W.putObj l o2):=
 ⟨⟨O,O,O,Ek,fun k hk=>World.putObj_heap_other U⟩,fun _ _ _ _ hk=>XN h hc hk⟩
theorem tV{g:Nat}(ho:EG g W W')(K:D W g cs S)(hS:tP.contains S=G)(hg:hi<=g)(hw:hi<=W.heap.size):aM hi W W':=
 ⟨ho.bel hi hg hw,fun k c T hT hk=>ho.Em hk (E7 hk K Tk)⟩
theorem Tl{e:Ez}{xs:List M}(hown:W.ownsRow base e size v n xs)(hg:W.grownBy W' v.ownBlock)(he:tP.contains e=G)(hb:hi<=base)(hw:base<=W.heap.size):aM hi W W':=
 ⟨(yt hown hg hw).mono hb,fun k c T hT hk=>jR hown hg hk (by rintro rfl;rw[he] at hT;cases hT)⟩
theorem Tm(l:List Rec): ∀Y3∈J1 l,Y3.oneCell'=G:=by intro Y3 hu;obtain⟨x,-,hx⟩:=List.mem_flatMap.1 hu;simp only[Rec.v,List.mem_cons,List.not_mem_nil,or_false] at hx;rcases hx with rfl|rfl|rfl|rfl|rfl|rfl<;>rfl
theorem Edr(h1:rc.state= .ready)(h2:rc.pending=Z):({({rc with state:= .busy}:Loop) with state:=if(Z:Option Code).isNone=true then .ready else .done,pending:=Z}:Loop)=rc:=by cases rc;simp at h1 h2;simp[h1,h2]
theorem Eds(gm:Nat)(e:JE)(A:Option Et)(d:Nat)(w:H): Ef EJ 26 #[V (X ⟨gm,0,Z⟩),EU (e.cells A d).toArray] w fun en w'=> ∃ge gb,en=Eg (.func (.func 47) #[] #[V (X ⟨ge,0,Z⟩),V (X ⟨gb,0,Z⟩)])/\U1 ge gb e A d gm w'/\Eh w w':=by
 obtain⟨cv,hcv⟩:=En ((e.cells A d).toArray);have HC:=J hcv;rw[<-hcv];clear hcv;go_enter Tryz.func26,Tryz.ntmps26;go_wp2_with fail;go_ret;refine⟨_,_,O,⟨?_,?_⟩,JF w _ _⟩;·rw[<-HC.out];have:=D.new (w.alloc (EI #[V (X ⟨gm,0,Z⟩)] 32)) cv 48;exact Ek_
 ·exact(D.new w _ _).B (Eo _ _)
def F6(lo hi:Nat)(g:Nat->M)(a:UA)(e:JE)(c:EA)(rs:Int->List Int)(w:H)(en:Ending)(w':H):Prop:=
 ∃(c':EA) (rs':Int->List Int) (m:Nat) (new:List Rec) (A1 A2:Option Et) (c1 c2:Nat) (sc:oU) (hd:List Int),en=Eg (EU (I7 (JD c') (u A1 m c1) (u A2 new.length c2) hd).toArray)/\hd.length=32/\(∀x∈hd,0<=x/\x<=255)/\w'.ownsRow hi 264 2 (u A1 m c1) m sc.l/\w'.ownsRow hi 58 6 (u A2 new.length c2) new.length (J1 new)/\Jl lo g a c' rs' w'/\yh g e c rs c' rs' m new/\new.length<=5000/\Jo lo hi w w'
theorem Edt(lo:Nat)(g:Nat->M)(a:UA)(c:EA)(rs:Int->List Int)(e:JE)(A:Option Et)(d:Nat)(w:H)(Y8:Jl lo g a c rs w)(hx:e.ok)(ho:Own w 0 A d e.b)(hb:e.b.length<=1000): Ef EJ 12 #[V (X ⟨a.gm,0,Z⟩),EU (e.cells A d).toArray] w (F6 lo w.heap.size g a e c rs w):=by
 have MM:=J Y8;have EE:=J hx;have OWN:=J ho;have HB:=J hb;obtain⟨cv,hcv⟩:=En ((e.cells A d).toArray);have HC:=J hcv;have CS:Ea (cv.size=10):=J (by rw[hcv];rfl);have CM:=J<|fun W=>Eds a.gm e A d W;rw[<-hcv] at CM⊢;clear Y8 hx ho hb hcv;obtain⟨zt,gZ⟩:=En ((I7 [E I 0,E I 0,E I 0,E I 0,E I 0,E I 0,E I 0,E I 0,E I 0,E I 0,E I 0,E I 0] (u Z 0 0) (u Z 0 0) (Er 32)).toArray:Array M);have HZT:=J gZ;have ZT:Ea (Og EJ 43 zt):=J F7;have ZS:Ea (zt.size=46):=J (by rw[gZ];rfl);clear gZ;refine Edh Tryz.func12 O ?_;simp only[Tryz.ntmps12,List.size_toArray,List.length_cons,List.length_nil,Nat.reduceAdd,Nat.reduceSub,Array.replicate_succ,Array.replicate_zero,List.push_toArray,List.append_toArray,List.nil_append,List.cons_append];go_wp2_with (with_reducible refine wA ZT.out (Ed.mk ?_));refine Ed.in ?_;have Tn:=J<|D.new w cv 48;have b1:=JF w (EI cv 48) (EI zt 43);have dY:Ea (D ((w.alloc (EI cv 48)).alloc (EI zt 43)) (w.heap.size+1) zt 43):=J To;have KE:=J<|Tn.out.B (Eo (w.alloc (EI cv 48)) (EI zt 43));clear Tn;obtain⟨gr,hgr⟩:=En (w.heap.size+1);rw[<-hgr] at dY⊢;obtain⟨ge,hge⟩:=En w.heap.size;obtain⟨hi,hhi⟩:=En w.heap.size;rw[show F6 lo w.heap.size g a e c rs w=F6 lo hi g a e c rs w by rw[hhi]];rw[<-hge] at KE⊢;have Z_:=J (show hi<=gr/\hi<=w.heap.size/\w.heap.size<=hi from U);clear hgr hge hhi;generalize (w.alloc (EI cv 48)).alloc (EI zt 43)=w1 at*;have BB:=J b1;clear b1;have M1:=J<|MM.out.B BB.out;have cc:w1.cell? ⟨a.gm,0,Z⟩=X (V (X ⟨a.gc,0,Z⟩)):=(D.cell M1.out.Em 0).trans O;go_wp2_with fail;(with_reducible refine(Ecd lo g a.gc a.gq a.gt c _ M1.out.core).mono ?_);rintro e2 w2 ⟨c',ns,new,sv,rv,sc,hd,rfl,JA,J5,os,JS,C2,⟨hc',rfl,rfl⟩,mm⟩;rw[hc'] at C2⊢;clear hc' cc;obtain⟨A1,c1,rfl⟩:=mN os;obtain⟨A2,c2,rfl⟩:=mN JS;have mP:=J (show hi<=w1.heap.size by have:=BB.out.size;have:=Z_.out;omega);have ZB:=J (show lo<=hi by have:=Z_.out;have:=MM.out.lm;have:=MM.out.Em.lt;omega);have M2:=J<|M1.out.mut mm C2;replace OWN:=J<|bC OWN.out fun _ _ hk=>mm.Em (D.B hk BB.out) EZ EZ;have MU:=J<|(Jo.Eu (lo:=lo) (hi:=hi) BB.out (by have:=Z_.out;have:=ZB.out;omega)).trans (Jo.tQ mm ZB.out mP.out (E5 _));have Tp:=J<|mm.Em KE.out EZ EZ;have F8:=J<|mm.old dY.out EZ dY.out.lt;obtain⟨tv,IE⟩: ∃tv,tv=(I7 (JD c) (u A1 0 c1) (.slice A2 ([]:List Rec).length c2) hd).toArray:=⟨_,O⟩;have TS:=J<|dT (JD c) (u A1 0 c1) (.slice A2 ([]:List Rec).length c2) hd O JA;have TO:=J<|iD c A1 A2 0 ([]:List Rec).length c1 c2 hd;rw[<-IE] at TS TO⊢;have JM:=J IE;have HD:=J<|And.intro JA J5;have OS:=J os;have OR:=J JS;have mQ:=J mm.size;clear os JS JA J5 IE mm C2 KE dY M1 BB;go_wp2_with (with_reducible refine wA ZT.out (Ed.mk ?_));refine Ed.in ?_;have iH:=J<|D.new w2 zt 43;have b2:=Eo w2 (EI zt 43);obtain⟨ga,hga⟩:=En w2.heap.size;rw[<-hga] at iH⊢;have pu:=J (show w2.heap.size<=ga/\gr<ga by have:=F8.out.lt;omega);clear hga;generalize w2.alloc (EI zt 43)=w3 at*;go_wp2_with (with_reducible refine wS (cs:=tv) Xt iH (Ed.mk ?_) (ho:=ZS.out) (hn:=TS.out) (h1:=TO.out));refine Ed.in ?_;have KA:=J<|iH.out.setRow tv;have b3:=E2 (g:=ga) b2 pu.out.1 tv;generalize w3.setRow ga tv=w4 at*;have M4:=J<|M2.out.B b3;have Tq:=J<|Tp.out.B b3;have Tr:=J<|F8.out.B b3;replace OS:=J<|EW OS.out fun _ _ hk=>D.B hk b3;replace OR:=J<|EW OR.out fun _ _ hk=>D.B hk b3;replace OWN:=J<|bC OWN.out fun _ _ hk=>D.B hk b3;replace MU:=J<|MU.out.trans (Jo.Eu b3 (by have:=ZB.out;have:=mP.out;have:=mQ.out;omega));have F9:=J<|Ey mQ.out (Below.size b3);clear iH b2 b3 M2 Tp F8 mQ;go_wp2_with (with_reducible refine wL jS Tq ?_ (hn:=CS.out));(with_reducible refine(CM.out _).mono ?_);rintro e5 w5 ⟨F_,gb,rfl,cap,b5⟩;have Ts:=J cap;have M5:=J<|M4.out.B b5;have Tt:=J<|Tr.out.B b5;have Tu:=J<|KA.out.B b5;replace OS:=J<|EW OS.out fun _ _ hk=>D.B hk b5;replace OR:=J<|EW OR.out fun _ _ hk=>D.B hk b5;replace OWN:=J<|bC OWN.out fun _ _ hk=>D.B hk b5;replace MU:=J<|MU.out.trans (Jo.Eu b5 (by have:=ZB.out;have:=mP.out;have:=F9.out;omega));have GE:=J<|Ey F9.out (Below.size b5);clear cap b5 M4 Tq Tr KA CM F9;go_wp2_with fail;refine Edi 47 #[V (X ⟨F_,0,Z⟩),V (X ⟨gb,0,Z⟩)] O (fun _ _=>Ec) ?_;intro fn rc hrc;have jW:=J hrc;clear hrc;have b6:=JF w5 (.deferred (X [])) (.loop rc);have lp:((w5.alloc (.deferred (X []))).alloc (.loop rc)).heap[w5.heap.size+1]?=X (.loop rc):=by have:=World.alloc_heap_new (w5.alloc (.deferred (X []))) (.loop rc);rwa [World.size_alloc] at this
 have df:((w5.alloc (.deferred (X []))).alloc (.loop rc)).heap[w5.heap.size]?=X (.deferred (X [])):=(Below.heap_alloc _ _ _ Ek).trans (World.alloc_heap_new w5 _);generalize (w5.alloc (.deferred (X []))).alloc (.loop rc)=w6 at*;obtain⟨ll,hll⟩:=En (w5.heap.size+1);obtain⟨dd,hdd⟩:=En w5.heap.size;rw[<-hll] at lp⊢;rw[<-hdd] at df⊢;have Tv:=J (show hi<=ll/\hi<=dd by have:=mP.out;have:=GE.out;omega);clear hll hdd;have M6:=J<|M5.out.B b6;have GI:=J<|Ts.out.B b6;have Tw:=J<|Tt.out.B b6;have Tx:=J<|Tu.out.B b6;replace OS:=J<|EW OS.out fun _ _ hk=>D.B hk b6;replace OR:=J<|EW OR.out fun _ _ hk=>D.B hk b6;replace OWN:=J<|bC OWN.out fun _ _ hk=>D.B hk b6;replace MU:=J<|MU.out.trans (Jo.Eu b6 (by have:=ZB.out;have:=mP.out;have:=GE.out;omega));have R6:Ea (Zf lo hi ga gr ll dd rc c 0 [] w6):=J (by have ka:=Tx.out;rw[JM.out] at ka;exact⟨⟨A1,A2,c1,c2,sc,hd,ka,HD.out.1,HD.out.2,pi OS.out mP.out,pi OR.out mP.out⟩,⟨zt,ZS.out,Tw.out⟩,by have:=pu.out.2;omega,lp,df,by have:=pu.out;have:=Z_.out;omega,Z_.out.1,Tv.out.1,Tv.out.2,ZB.out⟩);clear b6 lp df M5 Ts Tt Tu GE Tx Tw OS OR TS TO JM HD;have e1:=congrArg Loop.assign jW.out;have e2:=congrArg Loop.body jW.out;have e3:=congrArg Loop.params jW.out;have e4:=congrArg Loop.tmps jW.out;have e5:=congrArg Loop.state jW.out;have e6:=congrArg Loop.pending jW.out;dsimp only at e1 e2 e3 e4 e5 e6
 have YL:jT lo hi ll (Zf lo hi ga gr ll dd rc):=by
  refine⟨ZB.out,fun _ _ _ _ h=>h.dz,fun _ _ _ _ _ h hb=>h.B hb,fun _ _ _ _ _ h hb=>h.mu hb,fun _ _ _ _ _ _ _ h K ho=>h.only K ho,?_⟩;clear R6 M6 GI MU HB EE MM HC CS;intro c0 cn m new W sv rv ns nw yA hd2 b RA h32 J5 os JS hm hnn hns hnw;have hy:=run_yield (P:=EJ) (args:= #[EU (I7 (JD cn) sv rv hd2).toArray]) RA.lp (by rw[e3];rfl);refine⟨rc.fn,rc.tmps.setIfInBounds 22 (EU (I7 (JD cn) sv rv hd2).toArray),rc.assign,rc.body,by rw[e3,Edg] at hy;exact hy,roundIn_of_wpIn trivial ?_⟩;clear hy;rw[e1,e2,e4];obtain⟨B1,d1,rfl⟩:=mN os;obtain⟨B2,d2,rfl⟩:=mN JS;obtain⟨tn,htn⟩: ∃tn,tn=(I7 (JD cn) (u B1 ns d1) (u B2 nw.length d2) hd2).toArray:=⟨_,O⟩;have Ty:=J<|dT (JD cn) (u B1 ns d1) (u B2 nw.length d2) hd2 O h32;have Tz:=J<|iD cn B1 B2 ns nw.length d1 d2 hd2;rw[<-htn] at Ty Tz⊢;have TA:=J htn;have RR:=J RA;have NN:=J<|And.intro h32 (And.intro J5 (And.intro hm (And.intro hnn (And.intro hns hnw))));have OS:=J os;have OR:=J JS;clear e1 e2 e3 e4 jW RA h32 J5 os JS hm hnn hns hnw htn;simp only[Ig,IJ,IU];refine tB pc Ec ?_;go_wp2_with (with_reducible refine wA ZT.out (Ed.mk ?_));refine Ed.in ?_;have K0:=J<|D.new W zt 43;have b1:=Eo W (EI zt 43);obtain⟨gt,hgt⟩:=En W.heap.size;rw[<-hgt] at K0⊢;have TD:=J<|Nat.le_of_eq hgt.symm;have NA:Ea (ga≠gt/\hi<=gt/\gr≠gt):=J (by obtain⟨_,_,_,_,_,_,ka,_⟩:=RR.out.all;obtain⟨_,_,kr⟩:=RR.out.res;have:=ka.lt;have:=kr.lt;have:=RR.out.hga;omega);clear hgt;generalize W.alloc (EI zt 43)=V1 at*;go_wp2_with (with_reducible refine wS (cs:=tn) Xt K0 (Ed.mk ?_) (ho:=ZS.out) (hn:=Ty.out) (h1:=Tz.out));refine Ed.in ?_;have KT:=J<|K0.out.setRow tn;have b2:=E2 (g:=gt) b1 TD.out tn;generalize V1.setRow gt tn=V2 at*;have YS:=J<|aM.Eu (hi:=hi) b2 RR.out.dz;replace RR:=J<|RR.out.B b2;replace OS:=J<|EW OS.out fun _ _ hk=>D.B hk b2;replace OR:=J<|EW OR.out fun _ _ hk=>D.B hk b2;clear K0 b1 b2 TD;refine⟨_,run_beginRound RR.out.lp e5,?_⟩;obtain⟨rb,hrb⟩:=En ({rc with state:= .busy}:Loop);rw[<-hrb];have HRB:=J hrb;clear hrb;obtain⟨B3,B4,d3,d4,GJ,hd3,ka,x1,x2,r1,r2⟩:=RR.out.all;obtain⟨z,hz,kr⟩:=RR.out.res;have KA:=J<|XN (o2:= .loop rb) RR.out.lp O ka;have KR:=J<|XN (o2:= .loop rb) RR.out.lp O kr;replace KT:=J<|XN (o2:= .loop rb) RR.out.lp O KT.out;have R1:=J<|EW r1 fun _ _ hk=>XN (o2:= .loop rb) RR.out.lp O hk;have R2:=J<|EW r2 fun _ _ hk=>XN (o2:= .loop rb) RR.out.lp O hk;replace OS:=J<|EW OS.out fun _ _ hk=>XN (o2:= .loop rb) RR.out.lp O hk;replace OR:=J<|EW OR.out fun _ _ hk=>XN (o2:= .loop rb) RR.out.lp O hk;have LP:Ea ((V2.putObj ll (.loop rb)).heap[ll]?=X (.loop rb)/\(V2.putObj ll (.loop rb)).heap[dd]?=X (.deferred (X []))):=J ⟨World.putObj_heap_same (Ja.1 RR.out.lp).1,(World.putObj_heap_other (fun e=>by have h1:=RR.out.lp;have h2:=RR.out.df;rw[e,h1] at h2;cases h2)).trans RR.out.df⟩;replace YS:=J<|YS.out.trans (yw (o2:= .loop rb) RR.out.lp O RR.out.hl);have cK:Ea (hi<=(V2.putObj ll (.loop rb)).heap.size):=J (by rw[World.putObj_size];exact RR.out.dz);have yB:=J RR.out.hga;have NR:Ea (ga≠gr):=J RR.out.ne;have TF:=J<|And.intro x1 x2;have HZ:=J hz;have R0:=J RR.out;have TQ:=J<|And.intro e5 e6;clear ka kr r1 r2 x1 x2 hz RR e5 e6;generalize V2.putObj ll (.loop rb)=V3 at*;obtain⟨av,tW⟩:=En ((JD cn).toArray);have AE:Ea (tn.extract 0 (0+12)=av):=J (by rw[TA.out,tW];exact Edj _ _ _ O);have AS:Ea (av.size=12):=J (by rw[tW];rfl);have AO:Ea (av.all (·.oneCell')=G):=J (by rw[tW];exact all_oneCell_toArray (Edl cn));have TR:=J tW;have TH:Ea (V3.there ga 0 av.size):=J (by rw[AS.out];exact UR KA.out TY);have AI:Ea ((Tryz.prog.info? 38).map (·.size)=X av.size):=J (by rw[AS.out];exact tS.2);clear tW;refine wpIn_block (wpIn_seq ?_);refine tB pc Ec ?_;go_wp2_with (first|(with_reducible refine wM (off:=0) (cs:=av) tS KT ?_ (hn:=AS.out) (he:=AE.out))|((with_reducible refine JI 38 ?_);(with_reducible refine wpList_store_mid rfl 38 _ _ rfl ga 0 av ?_ ?_ ?_ ?_ ?_ ?_);(·rfl);(·rfl);(·exact TH.out);(·exact AI.out);(·exact AO.out);refine Ed.mk ?_));refine Ed.in ?_;rw[TR.out,List.toList_toArray];have ka:=Edn (tT:=JD cn) KA.out (dW c0) (dW cn);have on:=JX (g:=ga) (JD cn) 0 V3;replace KT:=J<|on.Em KT.out NA.out.1.symm;replace KR:=J<|on.Em KR.out NR.out.symm;replace LP:=J<|And.intro ((on.keep _ (fun e=>by rw[e] at LP;have:=LP.out.1;rw[show V3.heap[ga]?=_ from KA.out] at this;cases this) (Ja.1 LP.out.1).1).trans LP.out.1) ((on.keep _ (fun e=>by rw[e] at LP;have:=LP.out.2;rw[show V3.heap[ga]?=_ from KA.out] at this;cases this) (Ja.1 LP.out.2).1).trans LP.out.2);replace YS:=J<|YS.out.trans (tV on KA.out EZ yB.out cK.out);replace OS:=J<|EW OS.out fun _ _ hk=>on.Em hk (E7 hk KA.out EZ);replace OR:=J<|EW OR.out fun _ _ hk=>on.Em hk (E7 hk KA.out EZ);replace R1:=J<|EW R1.out fun _ _ hk=>on.Em hk (E7 hk KA.out EZ);replace R2:=J<|EW R2.out fun _ _ hk=>on.Em hk (E7 hk KA.out EZ);replace cK:Ea (hi<=(V3.setCells ga 0 (JD cn)).heap.size):=J<|Ey cK.out on.size;replace KA:=J ka;clear ka on TH AE AS AO AI TR;generalize V3.setCells ga 0 (JD cn)=V4 at*;rw[TA.out] at KT;go_wp2_with fail;refine wpIn_seq ?_;refine tB pc Ec ?_;have cA:=(pq KA.out (dW _)).1;have cT:=(pq KT.out (dW _)).1;obtain⟨iE,hI1,hI2,aN,aP⟩:=Px;obtain⟨yC,yD,V5,hrun,d_,Zg⟩:=tN (P:=EJ) (w:=V4) hi b 39 39 264 iE _ 2 32 Tryz.underlying39 hI1 hI2 aN aP O U (u B3 m d3) m (GJ.l) R1.out (u B1 ns d1) ns (yA.l) OS.out yA.one T5 (by have:=NN.out;omega) cK.out;go_wp2_with ((with_reducible refine In 30 ?_);(refine JT (Ei O) (Ov O O O hrun) ?_);refine Ed.mk ?_);refine Ed.in ?_;have y5:=Tl R1.out Zg EZ (E5 hi) cK.out;have o5: ∀{k:Nat} {o:Obj},V4.heap[k]?=X o->o.isCells=Y->V5.heap[k]?=X o:=fun h1 h2=>Td R1.out Zg h1 h2;have k5: ∀{k:Nat} {cs:Array M} {S:Ez},S≠264->D V4 k cs S->D V5 k cs S:=fun hS hk=>jR R1.out Zg hk hS;replace KA:=J<|k5 EZ KA.out;replace KT:=J<|k5 EZ KT.out;replace KR:=J<|k5 EZ KR.out;replace LP:=J<|And.intro (o5 LP.out.1 rfl) (o5 LP.out.2 rfl);replace YS:=J<|YS.out.trans y5;replace R2:=J<|EW R2.out fun _ _ hk=>k5 EZ hk;replace OR:=J<|EW OR.out fun _ _ hk=>k5 EZ hk;replace R1:=J d_;have mR:Ea (hi<=V5.heap.size):=J<|Ey cK.out y5.bel.size;clear hrun d_ Zg y5 o5 k5 cA cT hI1 hI2 aN aP;have cA:=(pq KA.out (dW _)).1;have fA:=D.Jw KA.out 12;go_wp2_with fail;have ka:=Edo (u yC (m+ns) yD) KA.out (dW _);have on:=OH (g:=ga) (W:=V5) 12 (u yC (m+ns) yD);replace KT:=J<|on.Em KT.out NA.out.1.symm;replace KR:=J<|on.Em KR.out NR.out.symm;replace LP:=J<|And.intro ((on.keep _ (fun e=>by rw[e] at LP;have:=LP.out.1;rw[show V5.heap[ga]?=_ from KA.out] at this;cases this) (Ja.1 LP.out.1).1).trans LP.out.1) ((on.keep _ (fun e=>by rw[e] at LP;have:=LP.out.2;rw[show V5.heap[ga]?=_ from KA.out] at this;cases this) (Ja.1 LP.out.2).1).trans LP.out.2);replace YS:=J<|YS.out.trans (tV on KA.out EZ yB.out mR.out);replace R2:=J<|EW R2.out fun _ _ hk=>on.Em hk (E7 hk KA.out EZ);replace OR:=J<|EW OR.out fun _ _ hk=>on.Em hk (E7 hk KA.out EZ);replace R1:=J<|EW R1.out fun _ _ hk=>on.Em hk (E7 hk KA.out EZ);replace cK:=J<|Ey mR.out on.size;replace KA:=J ka;clear ka on cA fA mR;generalize V5.setCell ⟨ga,12,Z⟩ (u yC (m+ns) yD)=V6 at*;refine wpIn_seq ?_;refine tB pc Ec ?_;have cA:=(pq KA.out (dW _)).2;have cT:=(pq KT.out (dW _)).2;obtain⟨iE,hI1,hI2,aN,aP⟩:=Dc;obtain⟨yF,c9b,V8,hrun,d_,Zg⟩:=tN (P:=EJ) (w:=V6) hi b 40 40 58 iE _ 6 48 Tryz.underlying40 hI1 hI2 aN aP O U (u B4 new.length d4) new.length (J1 new) R2.out (u B2 nw.length d2) nw.length (J1 nw) OR.out (Tm nw) T5 (by have:=NN.out;omega) cK.out;go_wp2_with ((with_reducible refine In 36 ?_);(refine JT (Ei O) (Ov O O O hrun) ?_);refine Ed.mk ?_);refine Ed.in ?_;have y5:=Tl R2.out Zg EZ (E5 hi) cK.out;have o5: ∀{k:Nat} {o:Obj},V6.heap[k]?=X o->o.isCells=Y->V8.heap[k]?=X o:=fun h1 h2=>Td R2.out Zg h1 h2;have k5: ∀{k:Nat} {cs:Array M} {S:Ez},S≠58->D V6 k cs S->D V8 k cs S:=fun hS hk=>jR R2.out Zg hk hS;replace KA:=J<|k5 EZ KA.out;replace KT:=J<|k5 EZ KT.out;replace KR:=J<|k5 EZ KR.out;replace LP:=J<|And.intro (o5 LP.out.1 rfl) (o5 LP.out.2 rfl);replace YS:=J<|YS.out.trans y5;replace R1:=J<|EW R1.out fun _ _ hk=>k5 EZ hk;replace R2:=J d_;have mR:Ea (hi<=V8.heap.size):=J<|Ey cK.out y5.bel.size;clear hrun d_ Zg y5 o5 k5 cA cT hI1 hI2 aN aP;have cA:=(pq KA.out (dW _)).2;have fA:=D.Jw KA.out 13;go_wp2_with fail;have ka:=Edp (u yF (new.length+nw.length) c9b) KA.out (dW _);have on:=OH (g:=ga) (W:=V8) 13 (u yF (new.length+nw.length) c9b);replace KT:=J<|on.Em KT.out NA.out.1.symm;replace KR:=J<|on.Em KR.out NR.out.symm;replace LP:=J<|And.intro ((on.keep _ (fun e=>by rw[e] at LP;have:=LP.out.1;rw[show V8.heap[ga]?=_ from KA.out] at this;cases this) (Ja.1 LP.out.1).1).trans LP.out.1) ((on.keep _ (fun e=>by rw[e] at LP;have:=LP.out.2;rw[show V8.heap[ga]?=_ from KA.out] at this;cases this) (Ja.1 LP.out.2).1).trans LP.out.2);replace YS:=J<|YS.out.trans (tV on KA.out EZ yB.out mR.out);replace R1:=J<|EW R1.out fun _ _ hk=>on.Em hk (E7 hk KA.out EZ);replace R2:=J<|EW R2.out fun _ _ hk=>on.Em hk (E7 hk KA.out EZ);replace cK:=J<|Ey mR.out on.size;replace KA:=J ka;clear ka on cA fA mR;generalize V8.setCell ⟨ga,13,Z⟩ (u yF (new.length+nw.length) c9b)=V9 at*;have UE:Ea ((I7 (JD cn) (u B1 ns d1) (u B2 nw.length d2) hd2).toArray.extract 14 (14+32)=Ej hd2):=J<|Edk _ _ _ O NN.out.1;have US:Ea ((Ej hd2).size=32):=J (by rw[JV,NN.out.1]);have UI:Ea ((Tryz.prog.info? 41).map (·.size)=X (Ej hd2).size):=J (by rw[US.out];exact JC.2);have UO:=J<|Uw hd2;have TH:Ea (V9.there ga 14 (Ej hd2).size):=J (by rw[US.out];exact UR KA.out TY);obtain⟨uv,huv⟩:=En (Ej hd2);rw[<-huv] at UE US UI UO TH;have T6:=J huv;clear huv;refine tB pc Ec ?_;go_wp2_with (first|(with_reducible refine wM (off:=14) (cs:=uv) JC KT ?_ (hn:=US.out) (he:=UE.out))|((with_reducible refine JI 41 ?_);(with_reducible refine wpList_store_mid rfl 41 _ _ rfl ga 14 uv ?_ ?_ ?_ ?_ ?_ ?_);(·rfl);(·rfl);(·exact TH.out);(·exact UI.out);(·exact UO.out);refine Ed.mk ?_));refine Ed.in ?_;rw[T6.out,show(Ej hd2).toList=hd2.map (E .u8) from rfl];have ka:=Edq (hd2:=hd2) KA.out (dW _) TF.out.1 NN.out.1;have on:=JX (g:=ga) (hd2.map (E .u8)) 14 V9;replace KR:=J<|on.Em KR.out NR.out.symm;replace LP:=J<|And.intro ((on.keep _ (fun e=>by rw[e] at LP;have:=LP.out.1;rw[show V9.heap[ga]?=_ from KA.out] at this;cases this) (Ja.1 LP.out.1).1).trans LP.out.1) ((on.keep _ (fun e=>by rw[e] at LP;have:=LP.out.2;rw[show V9.heap[ga]?=_ from KA.out] at this;cases this) (Ja.1 LP.out.2).1).trans LP.out.2);replace YS:=J<|YS.out.trans (tV on KA.out EZ yB.out cK.out);replace R1:=J<|EW R1.out fun _ _ hk=>on.Em hk (E7 hk KA.out EZ);replace R2:=J<|EW R2.out fun _ _ hk=>on.Em hk (E7 hk KA.out EZ);replace KA:=J ka;clear ka on TH UE US UI UO T6 KT;generalize V9.setCells ga 14 (hd2.map (E .u8))=V10 at*;go_wp2_with fail;refine⟨_,_,run_endRound Z LP.out.1,O,?_,?_⟩
  ·rw[HRB.out,Edr TQ.out.1 TQ.out.2];refine⟨⟨yC,yF,yD,c9b,⟨GJ.l++yA.l,fun Y3 hu=>(List.mem_append.1 hu).elim (GJ.one Y3) (yA.one Y3)⟩,hd2,?_,NN.out.1,NN.out.2.1,EW R1.out fun _ _ hk=>XN LP.out.1 rfl hk,?_⟩,⟨z,HZ.out,XN LP.out.1 rfl KR.out⟩,NR.out,World.putObj_heap_same (Ja.1 LP.out.1).1,(World.putObj_heap_other (fun e=>by have h1:=LP.out.1;have h2:=LP.out.2;rw[e,h1] at h2;cases h2)).trans LP.out.2,R0.out.hga,R0.out.hgr,R0.out.hl,R0.out.hD,R0.out.lh⟩;·rw[IL];exact XN LP.out.1 rfl KA.out
   ·rw[AU,IL];exact EW R2.out fun _ _ hk=>XN LP.out.1 rfl hk
  ·exact YS.out.trans (yw LP.out.1 rfl R0.out.hl)
 change Ef _ _ #[.func (.yield ll) #[] #[],V (X ⟨F_,0,Z⟩),V (X ⟨gb,0,Z⟩)] _ _;(with_reducible refine(Edf lo hi ll F_ gb g a c rs e A d (Zf lo hi ga gr ll dd rc) w6 YL M6.out GI.out R6.out EE.out HB.out OWN.out.row).mono ?_);rintro e7 w7 ⟨⟨v7,rfl⟩,c7,rs7,m7,yG,T7,ZD,T9,T_,VE⟩;obtain⟨A3,A4,c3,c4,sc4,hd4,ka,x1,x2,r1,r2⟩:=ZD.all;obtain⟨z,hz,kr⟩:=ZD.res;obtain⟨rx,hrx⟩:=En ({rc with state:= .exhausted}:Loop);have hend:(Instr.endLoop ll).run EJ w7= .ok Z (w7.putObj ll (.loop rx)):=by have h:=run_endLoop (P:=EJ) ZD.lp (by rw[e5];simp);rw[<-hrx,e6] at h;exact h
 refine⟨Z,_,hend,?_⟩;have y8:=yw (o2:= .loop rx) ZD.lp O ZD.hl;have KA:=J<|XN (o2:= .loop rx) ZD.lp O ka;have KR:=J<|XN (o2:= .loop rx) ZD.lp O kr;have R1:=J<|EW r1 fun _ _ hk=>XN (o2:= .loop rx) ZD.lp O hk;have R2:=J<|EW r2 fun _ _ hk=>XN (o2:= .loop rx) ZD.lp O hk;have DF:Ea ((w7.putObj ll (.loop rx)).heap[dd]?=X (.deferred (X []))):=J<|(World.putObj_heap_other (fun e=>by have h1:=ZD.lp;have h2:=ZD.df;rw[e,h1] at h2;cases h2)).trans ZD.df;have MB:=J<|T7.y y8 ZB.out;replace MU:=J<|MU.out.trans (VE.trans (Jo.pk y8 ZB.out));have HZ:=J hz;have RD:=J<|And.intro ZD.hgr (And.intro ZD.hD (And.intro ZD.ne (And.intro x1 (And.intro x2 (And.intro T9 T_)))));clear hend hrx y8 ka kr r1 r2 hz ZD T7 VE x1 x2 T9 T_ e1 e2 e3 e4 e5 e6 jW YL M6 GI R6 EE HB OWN;have HW8:Ea (hi<=(w7.putObj ll (.loop rx)).heap.size):=J (by have:=KR.out.lt;have:=RD.out.1;omega);generalize w7.putObj ll (.loop rx)=w8 at*;obtain⟨tw,GU⟩: ∃tw,tw=(I7 (JD c7) (u A3 m7 c3) (u A4 yG.length c4) hd4).toArray:=⟨_,O⟩;have WS:=J<|dT (JD c7) (u A3 m7 c3) (u A4 yG.length c4) hd4 O RD.out.2.2.2.1;have WO:=J<|iD c7 A3 A4 m7 yG.length c3 c4 hd4;rw[<-GU] at WS WO KA;have HTW:=J GU;clear GU;go_wp2_with (with_reducible first|refine wL Xt KA ?_ (hn:=WS.out)|refine wS (cs:=tw) Xt KR ?_ (ho:=HZ.out) (hn:=WS.out) (h1:=WO.out));have on:=Od (g:=gr) (W:=w8) tw;have KF:=KR.out.setRow tw;have tY:(w8.setRow gr tw).heap[dd]?=X (.deferred (X [])):=(on.keep _ (fun e=>by have h1:=DF.out;rw[e,show w8.heap[gr]?=_ from KR.out] at h1;cases h1) (Ja.1 DF.out).1).trans DF.out;refine⟨Ek,.inl ⟨_,_,O,run_takeDeferred tY,_,Jb Xt O _ _ gr tw O (XN tY O KF) WS.out,?_⟩⟩;have yy:=(tV on KR.out EZ RD.out.1 HW8.out).trans (yw (o2:= .deferred Z) tY O RD.out.2.1);have hh:hi=w.heap.size:=by have:=Z_.out;omega
 subst hh;refine⟨c7,rs7,m7,yG,A3,A4,c3,c4,sc4,hd4,by rw[HTW.out],RD.out.2.2.2.1,RD.out.2.2.2.2.1,EW R1.out fun _ _ hk=>XN tY O (on.Em hk (E7 hk KR.out EZ)),EW R2.out fun _ _ hk=>XN tY O (on.Em hk (E7 hk KR.out EZ)),MB.out.y yy ZB.out,RD.out.2.2.2.2.2.1,RD.out.2.2.2.2.2.2,MU.out.trans (Jo.pk yy ZB.out)⟩
def Us(x lo hi:Int):Bool:=decide (lo<=x)&&decide (x<=hi)
theorem Edz(lo hi:Int)(w:H): Ef EJ 66 #[E I lo,E I hi] w fun e w'=>e=Eg (.func (.func 80) #[] #[V (X ⟨w.heap.size,0,Z⟩),V (X ⟨w.heap.size+1,0,Z⟩)])/\w'=((w.alloc (EI #[E I lo] 3)).alloc (EI #[E I hi] 3)):=by go_enter Tryz.func66,Tryz.ntmps66;exact Eh9
theorem fE(x lo hi:Int)(a b:Nat)(w:H)(ha:w.cell? ⟨a,0,Z⟩=X (E I lo))(hb:w.cell? ⟨b,0,Z⟩=X (E I hi)): Ef EJ 80 #[E I x,V (X ⟨a,0,Z⟩),V (X ⟨b,0,Z⟩)] w fun e w'=>e=Eg (Eb (Us x lo hi))/\w=w':=by
 unfold Us;by_cases h1:lo<=x;·have t1:decide (lo<=x)=G:=Ia h1;go_enter Tryz.func80,Tryz.ntmps80;exact Ela
 ·have t1:decide (lo<=x)=Y:=E9 h1;go_enter Tryz.func80,Tryz.ntmps80;exact Ela
def yK(w:H)(f:FuncId)(cap:Array M)(vs:List M)(pr:M->Bool):Prop:=
 fo f/\ ∀v∈vs,∀W,Eh w W->Ef EJ f (#[v]++cap) W fun e w'=>e=Eg (Eb (pr v))/\Eh W w'
theorem GX{pr:M->Bool}{L:List M}(hv:L[k]?=X v)(h:(L.take k).all pr=G):((L.take (k+1)).all pr=pr v)/\(pr v=Y->L.all pr=Y):=by
 refine⟨?_,fun hf=> ?_⟩;·rw[List.take_add_one,hv,List.all_append,h];simp
 ·rw[List.all_eq_false];exact⟨v,List.mem_of_getElem? hv,by rw[hf];simp⟩
theorem EdA:Og EJ 25 #[E I 0,E I 0,E I 0,E I 0]:=by exact Eiz
theorem gd(f:FuncId)(cap:Array M)(L:List M)(pr:M->Bool)(b off n c:Nat)(w:H)(hn:L.length=n)(hs:n<=1000000)(hf:yK w f cap L pr)(hl: ∀i v,L[i]?=X v->w.cell? ⟨b,off+i,Z⟩=X v): Ef EJ 62 #[u (X ⟨b,off,Z⟩) n c,.func (.func f) #[] cap] w fun e w'=>e=Eg (Eb (L.all pr))/\Eh w w':=by
 have HE:=hf.1;unfold fo at HE;have HC:=J hf.2;have HL:=J hl;have HN:=J hn;obtain⟨r,hr⟩:=En (L.all pr);rw[<-hr];replace hr:=J hr;clear hf hl hn;go_enter Tryz.func62,Tryz.ntmps62;go_wp2_with fail;go_loopw[9] (fun y wr=> ∃k:Nat,k<=n/\y=E I k/\Eh w wr/\(L.take k).all pr=G) (fun y _=>n-(intOf y).toNat);case atStart=>exact⟨0,U,O,E6 _ _,O⟩
 case round=>
  obtain⟨k,hk,rfl,bb,ht⟩:=hrel;have BB:=J bb;have HT:=J ht;clear bb ht;by_cases hlt:k<n
  ·have t1:decide ((k:Int)<(n:Int))=G:=Ia U;obtain⟨v,hv⟩: ∃v,L[k]?=X v:=⟨L[k]' gH,List.getElem?_eq_getElem _⟩;have cv:wr.cell? ⟨b,off+k,Z⟩=X v:=(BB.out.cell (World.block_lt_of_cell? _ _ (HL.out k v hv))).trans (HL.out k v hv);have CV:=J<|HC.out _ (List.mem_of_getElem? hv) wr BB.out;have AT:=J<|GX hv HT.out;clear hv;go_wp2_with fail;(with_reducible refine CV.out.mono ?_);rintro e w2 ⟨rfl,b2⟩;replace BB:=ET BB b2;clear b2;cases hp:pr v with
   |true=> go_wp2_with fail;exact⟨⟨k+1,U,Ek,BB.out,GZ⟩,JN⟩
   |false=> go_wp2_with fail;go_ret;exact⟨Ga,BB.out⟩
  ·exact EiR
theorem EdB(f:FuncId)(cap:Array M)(L:List M)(pr:M->Bool)(b off n c:Nat)(w:H)(hn:L.length=n)(hs:n<=1000000)(hf:yK w f cap L pr)(hl: ∀i v,L[i]?=X v->w.cell? ⟨b,off+i,Z⟩=X v): Ef EJ 60 #[u (X ⟨b,off,Z⟩) n c,.func (.func f) #[] cap] w fun e w'=>e=Eg (Eb (L.all pr))/\Eh w w':=by
 have HE:=hf.1;unfold fo at HE;have HC:=J hf.2;have HL:=J hl;have HN:=J hn;obtain⟨r,hr⟩:=En (L.all pr);rw[<-hr];replace hr:=J hr;clear hf hl hn;go_enter Tryz.func60,Tryz.ntmps60;go_wp2_with fail;go_loopw[9] (fun y wr=> ∃k:Nat,k<=n/\y=E I k/\Eh w wr/\(L.take k).all pr=G) (fun y _=>n-(intOf y).toNat);case atStart=>exact⟨0,U,O,E6 _ _,O⟩
 case round=>
  obtain⟨k,hk,rfl,bb,ht⟩:=hrel;have BB:=J bb;have HT:=J ht;clear bb ht;by_cases hlt:k<n
  ·have t1:decide ((k:Int)<(n:Int))=G:=Ia U;obtain⟨v,hv⟩: ∃v,L[k]?=X v:=⟨L[k]' gH,List.getElem?_eq_getElem _⟩;have cv:wr.cell? ⟨b,off+k,Z⟩=X v:=(BB.out.cell (World.block_lt_of_cell? _ _ (HL.out k v hv))).trans (HL.out k v hv);have CV:=J<|HC.out _ (List.mem_of_getElem? hv) wr BB.out;have AT:=J<|GX hv HT.out;clear hv;go_wp2_with fail;(with_reducible refine CV.out.mono ?_);rintro e w2 ⟨rfl,b2⟩;replace BB:=ET BB b2;clear b2;cases hp:pr v with
   |true=> go_wp2_with fail;exact⟨⟨k+1,U,Ek,BB.out,GZ⟩,JN⟩
   |false=> go_wp2_with fail;go_ret;exact⟨Ga,BB.out⟩
  ·exact EiR
theorem EdC(f:FuncId)(cap:Array M)(L:List M)(pr:M->Bool)(b off n c:Nat)(w:H)(hn:L.length=n)(hs:n<=1000000)(hf:yK w f cap L pr)(S:Ez)(CS:Array M)(kb:D w b CS S)(ho: ∀row:Array M,EU row∈L->row.all (·.oneCell')=G)(hl: ∀i v,L[i]?=X v-> ∃row:Array M,v=EU row/\row.size=4/\CS.extract (off+i*4) (off+i*4+4)=row): Ef EJ 64 #[u (X ⟨b,off,Z⟩) n c,.func (.func f) #[] cap] w fun e w'=>e=Eg (Eb (L.all pr))/\Eh w w':=by
 have HE:=hf.1;have KB:=J kb;have HO:=J ho;unfold fo at HE;have HC:=J hf.2;have HL:=J hl;have HN:=J hn;obtain⟨r,hr⟩:=En (L.all pr);rw[<-hr];replace hr:=J hr;clear hf hl hn kb ho;go_enter Tryz.func64,Tryz.ntmps64;go_wp2_with fail;go_loopw[9] (fun y wr=> ∃k:Nat,k<=n/\y=E I k/\Eh w wr/\(L.take k).all pr=G) (fun y _=>n-(intOf y).toNat);case atStart=>exact⟨0,U,O,E6 _ _,O⟩
 case round=>
  obtain⟨k,hk,rfl,bb,ht⟩:=hrel;have BB:=J bb;have HT:=J ht;clear bb ht;by_cases hlt:k<n
  ·have t1:decide ((k:Int)<(n:Int))=G:=Ia U;obtain⟨v,hv⟩: ∃v,L[k]?=X v:=⟨L[k]' gH,List.getElem?_eq_getElem _⟩;obtain⟨row,rfl,hrs,hre⟩:=HL.out k v hv;have KK:=EN KB BB.out;have Z7:=J hrs;have HRE:=J hre;clear hrs hre;have RO:Ea (row.all (·.oneCell')=G):=J<|HO.out row (List.mem_of_getElem? hv);have K0:=J<|D.new wr #[E I 0,E I 0,E I 0,E I 0] 25;have b3:=Eo wr (EI #[E I 0,E I 0,E I 0,E I 0] 25);have HV:=J<|List.mem_of_getElem? hv;have AT:=J<|GX hv HT.out;clear hv;go_wp2_with (with_reducible first|refine wM (off:=off+k*4) (cs:=row) sC KK ?_ (hn:=Z7.out) (he:=HRE.out)|refine wA EdA ?_|refine wS (cs:=row) sC K0 (Ed.mk ?_) (hn:=Z7.out) (h1:=RO.out));refine Ed.in ?_;obtain⟨gx,hgx⟩:=En wr.heap.size;rw[<-hgx] at K0⊢;generalize wr.alloc (EI #[E I 0,E I 0,E I 0,E I 0] 25)=Xz at*;have KX:=J<|K0.out.setRow row;have b4:=E2 (g:=gx) b3 (Nat.le_of_eq hgx.symm) row;generalize Xz.setRow gx row=J_ at*;clear K0 b3 hgx;have CV:=J<|HC.out _ HV.out J_ (bt BB.out b4);replace BB:=ET BB b4;clear b4;go_wp2_with (with_reducible refine wL sC KX ?_ (hn:=Z7.out));(with_reducible refine CV.out.mono ?_);rintro e w2 ⟨rfl,b2⟩;replace BB:=ET BB b2;clear b2;cases hp:pr (EU row) with
   |true=> go_wp2_with fail;exact⟨⟨k+1,U,Ek,BB.out,GZ⟩,JN⟩
   |false=> go_wp2_with fail;go_ret;exact⟨Ga,BB.out⟩
  ·exact EiR
def Ol(lo hi:Int)(v:M):Bool:=match v with
 | .int _ x=>Us x lo hi
 |_=>Y
def Gb(v:M):Bool:=match v with
 |u _ n _=>Us n 1 64
 |_=>Y
def mT(v:M):Bool:=match v with
 | .int _ x=>Us x 0 15&&x%2==0
 |_=>Y
def pw(v:M):Bool:=match v with
 |EU a=>a.toList.all (Ol 0 15)
 |_=>Y
def mV(o1 o2 o3:Int)(v:M):Bool:=match v with
 | .int _ x=>decide (x∈[o1,o2,o3])
 |_=>Y
def Jp(lo hi:Int)(v:M)(w:H):Prop:= ∃a b:Nat,v= .func (.func 80) #[] #[V (X ⟨a,0,Z⟩),V (X ⟨b,0,Z⟩)]/\w.cell? ⟨a,0,Z⟩=X (E I lo)/\w.cell? ⟨b,0,Z⟩=X (E I hi)
theorem Jp.B{lo hi:Int}(h:Jp lo hi v w)(hb:Eh w w'):Jp lo hi v w':=by obtain⟨a,b,e,ca,cb⟩:=h;exact⟨a,b,e,(hb.cell (World.block_lt_of_cell? _ _ ca)).trans ca,(hb.cell (World.block_lt_of_cell? _ _ cb)).trans cb⟩
theorem X3(lo hi:Int)(w:H):Ef EJ 66 #[E I lo,E I hi] w fun e w'=> ∃v,e=Eg v/\Jp lo hi v w'/\Eh w w':=by
 refine(Edz lo hi w).mono ?_;rintro e w' ⟨rfl,rfl⟩;refine⟨_,O,⟨_,_,O,?_,?_⟩,JF _ _ _⟩;·exact(D.cell (D.B (D.new w #[E I lo] 3) (Eo _ _)) 0).trans O
 ·simp
theorem Jp.ok{lo hi:Int}(h:Jp lo hi v w): ∃cap,v= .func (.func 80) #[] cap/\ ∀vs:List M,(∀Y3∈vs,∃x,Y3=E I x)->yK w 80 cap vs (Ol lo hi):=by obtain⟨a,b,e,ca,cb⟩:=h;refine⟨_,e,fun vs hvs=>⟨fun _ _=>Ec,fun Y3 hu W hW=> ?_⟩⟩;obtain⟨x,rfl⟩:=hvs Y3 hu;refine(fE x lo hi a b W ((hW.cell (World.block_lt_of_cell? _ _ ca)).trans ca) ((hW.cell (World.block_lt_of_cell? _ _ cb)).trans cb)).mono ?_;rintro e w' ⟨rfl,rfl⟩;exact⟨O,E6 _ _⟩
theorem VI(A:Option Et)(n c:Nat)(w:H): Ef EJ 61 #[u A n c] w fun e w'=>e=Eg (Eb (Us n 1 64))/\w=w':=by
 unfold Us;by_cases h1:(1:Int)<=n;·have t1:decide ((1:Int)<=(n:Int))=G:=Ia h1;go_enter Tryz.func61,Tryz.ntmps61;exact Ela
 ·have t1:decide ((1:Int)<=(n:Int))=Y:=E9 h1;go_enter Tryz.func61,Tryz.ntmps61;exact Ela
theorem EdF(x:Int)(w:H)(hx:I3 x): Ef EJ 63 #[E I x] w fun e w'=>e=Eg (Eb (mT (E I x)))/\Eh w w':=by
 unfold mT;cases hb:Us x 0 15 with
 |true=>
  have h0:0<=x/\x<=15:=by unfold Us at hb;simpa using hb
  simp only[Bool.true_and];obtain⟨r,hr⟩:=En ((x%2==0));rw[<-hr];have hm:x.tmod 2=x%2:=Int.tmod_eq_emod_of_nonneg h0.1;have hr2:(x.tmod 2==0)=r:=by rw[hm,hr]
  have HB:=J hb;have HRR:=J hr;clear hr hm hb;go_enter Tryz.func63,Tryz.ntmps63;go_wp2_with fail;(with_reducible refine(X3 0 15 _).mono ?_);rintro e w1 ⟨v,rfl,⟨a,b,rfl,ca,cb⟩,b1⟩;go_wp2_with fail;(with_reducible refine(fE x 0 15 a b _ ca cb).mono ?_);rintro e w2 ⟨rfl,rfl⟩;rw[HB.out];go_wp2_with fail;go_ret;exact⟨by rw[HB.out,HRR.out];rfl,b1⟩
 |false=> simp only[Bool.false_and];have HB:=J hb;clear hb;go_enter Tryz.func63,Tryz.ntmps63;go_wp2_with fail;(with_reducible refine(X3 0 15 _).mono ?_);rintro e w1 ⟨v,rfl,⟨a,b,rfl,ca,cb⟩,b1⟩;go_wp2_with fail;(with_reducible refine(fE x 0 15 a b _ ca cb).mono ?_);rintro e w2 ⟨rfl,rfl⟩;rw[HB.out];go_wp2_with fail;go_ret;exact⟨by rw[HB.out];rfl,b1⟩
theorem EdG(L:List Int)(x:Int)(b off n c:Nat)(w:H)(hn:L.length=n)(hs:n<=1000000)(hl: ∀i v,L[i]?=X v->w.cell? ⟨b,off+i,Z⟩=X (E I v)): Ef EJ 110 #[u (X ⟨b,off,Z⟩) n c,E I x] w fun e w'=>(∃r:Int,e=Eg (E I r)/\(0<=r↔x∈L))/\w=w':=by
 have HL:=J hl;have HN:=J hn;clear hl hn;go_enter Tryz.func110,Tryz.ntmps110;go_wp2_with fail;go_loop [8] (fun y=> ∃k:Nat,k<=n/\y=E I k/\ ∀j v,j<k->L[j]?=X v->v≠x) (fun y=>n-(intOf y).toNat);case atStart=>exact⟨0,U,O,fun j v h=>U⟩
 case round=>
  obtain⟨k,hk,rfl,ht⟩:=hrel;have HT:=J ht;clear ht;by_cases hlt:k<n
  ·have t1:decide ((k:Int)<(n:Int))=G:=Ia U;obtain⟨v,hv⟩: ∃v,L[k]?=X v:=⟨L[k]' gH,List.getElem?_eq_getElem _⟩;have cv:w.cell? ⟨b,off+k,Z⟩=X (E I v):=HL.out k v hv;have HV:=J hv;clear hv;by_cases hx:x=v;·have t2:(x==v)=G:=qm;go_wp2_with fail;go_ret;refine⟨⟨(k:Int),O,?_⟩,O⟩;exact⟨fun _=>by first|exact List.mem_of_getElem? HV.out|(rw[hx];exact List.mem_of_getElem? HV.out),fun _=>U⟩
   ·have t2:(x==v)=Y:=qm;go_wp2_with fail;refine⟨⟨k+1,U,Ek,fun j Y3 hj hu=> ?_⟩,JN⟩;by_cases hjk:j<k;·exact HT.out j Y3 hjk hu
    ·obtain rfl:j=k:=U;have:=HV.out.symm.trans hu;injection this with this;rw[<-this];exact fun e=>hx e.symm
  ·obtain rfl:k=n:=U;have t1:decide ((k:Int)<(k:Int))=Y:=E9 U;go_wp2_with fail;go_ret;refine⟨⟨-1,O,?_⟩,O⟩;refine⟨fun h=>absurd h U,fun hm=> ?_⟩;exfalso;obtain⟨j,hj⟩:=List.mem_iff_getElem?.1 hm;exact HT.out j x (by have:=(List.getElem?_eq_some_iff.1 hj).1;rw[HN.out] at this;exact this) hj O
theorem EdH(L:List Int)(x:Int)(bo:Bool)(U2:bo=decide (x∈L))(b off n c:Nat)(w:H)(hn:L.length=n)(hs:n<=1000000)(hl: ∀i v,L[i]?=X v->w.cell? ⟨b,off+i,Z⟩=X (E I v)): Ef EJ 79 #[u (X ⟨b,off,Z⟩) n c,E I x] w fun e w'=>e=Eg (Eb bo)/\w=w':=by
 have CI:=J<|EdG L x b off n c w hn hs hl;clear hl hn;go_enter Tryz.func79,Tryz.ntmps79;go_wp2_with fail;(with_reducible refine CI.out.mono ?_);rintro e w2 ⟨⟨r,rfl,hr⟩,rfl⟩;have tb:decide (0<=r)=bo:=by rw[U2];exact decide_eq_decide.2 hr
 clear U2 hr;exact Eh9
theorem EdK(x o0 o1 o2 o3 o4:Int)(b:Nat)(w:H)(kb:D w b #[E I o0,E I o1,E I o2,E I o3,E I o4] 22): Ef EJ 78 #[E I x,V (X ⟨b,0,Z⟩)] w fun e w'=>e=Eg (Eb (mV o1 o2 o3 (E I x)))/\w=w':=by
 obtain⟨bo,U2⟩: ∃bo,bo=mV o1 o2 o3 (E I x):=⟨_,O⟩;rw[<-U2]
 have CT:=J (EdH [o1,o2,o3] x bo U2 b 1 3 4 w O U (fun i v hi=>by
  match i,hi with
  |0,hi=>injection hi with hi;rw[<-hi];exact(D.cell kb 1).trans O
  |1,hi=>injection hi with hi;rw[<-hi];exact(D.cell kb 2).trans O
  |2,hi=>injection hi with hi;rw[<-hi];exact(D.cell kb 3).trans O))
 clear U2 kb;go_enter Tryz.func78,Tryz.ntmps78;go_wp2_with fail;(with_reducible refine CT.out.mono ?_);rintro e w2 ⟨rfl,rfl⟩;exact Eh9
def yL(o0 o1 o2 o3 o4:Int):Bool:=(o0==0&&o4==4)&&[E .i64 1,E I 2,E I 3].all (mV o1 o2 o3)
theorem EdL(o0 o1 o2 o3 o4:Int)(w:H): Ef EJ 59 #[EU #[E I o0,E I o1,E I o2,E I o3,E I o4]] w fun e w'=>e=Eg (Eb (yL o0 o1 o2 o3 o4))/\Eh w w':=by
 unfold yL;obtain⟨bo,U2⟩: ∃bo,bo=[E .i64 1,E I 2,E I 3].all (mV o1 o2 o3):=⟨_,O⟩;rw[<-U2];replace U2:=J U2;by_cases h0:o0=0
 ·have t0:(o0 !=0)=Y:=pI;by_cases h4:o4=4
  ·have t4:(o4 !=4)=Y:=dX;have eb:((o0==0&&o4==4)&&bo)=bo:=by rw[h0,h4];rfl
   rw[eb];clear eb h0 h4;have KB:=J<|D.new w #[E I o0,E I o1,E I o2,E I o3,E I o4] 22;have b1:=Eo w (EI #[E I o0,E I o1,E I o2,E I o3,E I o4] 22);have b2:=Eo (w.alloc (EI #[E I o0,E I o1,E I o2,E I o3,E I o4] 22)) (EI #[E I 1,E I 2,E I 3] 3);have KA:=EN KB b2;have KI:=D.new (w.alloc (EI #[E I o0,E I o1,E I o2,E I o3,E I o4] 22)) #[E I 1,E I 2,E I 3] 3;rw[World.size_alloc] at KI
   have AL:=J (gd 78 #[V (X ⟨w.heap.size,0,Z⟩)] [E I 1,E I 2,E I 3] (mV o1 o2 o3) (w.heap.size+1) 0 3 3 _ O U ⟨fun _ _=>Ec,fun v hv W hW=>by
    obtain⟨x,rfl⟩: ∃x,v=E I x:=by simp only[List.mem_cons,List.not_mem_nil,or_false] at hv;rcases hv with rfl|rfl|rfl<;>exact⟨_,rfl⟩
    refine(EdK x o0 o1 o2 o3 o4 w.heap.size W (D.B KA.out hW)).mono ?_;rintro e w' ⟨rfl,rfl⟩;exact⟨O,E6 _ _⟩⟩ (fun i v hi=>by
    match i,hi with
    |0,hi=>injection hi with hi;rw[<-hi];exact(D.cell KI 0).trans O
    |1,hi=>injection hi with hi;rw[<-hi];exact(D.cell KI 1).trans O
    |2,hi=>injection hi with hi;rw[<-hi];exact(D.cell KI 2).trans O))
   have BB:=J<|bt b1 b2;clear KB b1 b2 KA KI;go_enter Tryz.func59,Tryz.ntmps59;go_wp2_with fail;(with_reducible refine AL.out.mono ?_);rintro e w3 ⟨rfl,b3⟩;rw[<-U2.out];go_wp2_with fail;go_ret;exact⟨O,bt BB.out b3⟩
  ·have t4:(o4 !=4)=G:=dX;have eb:((o0==0&&o4==4)&&bo)=Y:=dX;rw[eb];clear eb h0 h4;exact Em9
 ·have t0:(o0 !=0)=G:=pI;have eb:((o0==0&&o4==4)&&bo)=Y:=pI;rw[eb];clear eb h0;exact Em9
end Go.Proofs.YtclmichaaiohjaaGreatDoor
