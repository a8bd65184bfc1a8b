import Derived.Test.YtclmichaaiohjaaGreatDoorR11
import Derived.RangeFuncRecord
import Derived.WalkMore
set_option maxRecDepth 100000
set_option linter.unusedVariables false
set_option linter.unusedSimpArgs false
set_option maxHeartbeats 6400000
namespace Go.Proofs.YtclmichaaiohjaaGreatDoor
open RowKit
open And renaming intro->Jm
open _root_.Array renaming getElem?_eq_some_iff->Jt,replicate->Zn
open Bool renaming true->u,false->B
open Go renaming World->M,Calls->Ef,TypeId->EC,Value->V,Addr->Eu,Program->Js,bodyPost_ret->ET,results->Xa,Exit->UW,Act->E6,Oper->EN,yielded->Jd,execOp->Iw,undef->I6,Operand->UH,info_parts->bQ,madeCells->aS,below_setRow->E3,wpQuiet_nil->IM,callFunc->Jj,results_none->U1,Ending->Ut,wpList_store_mid->OH,wpListIn->aD
open Act renaming put->In
open Builtin renaming append_->bP
open Code renaming region->ZP
open Ending renaming returned->Eg
open Fence renaming wide->X1
open IntKind renaming i64->I,u8->IP
open Lib renaming hid->O
open Obj renaming cells->EJ
open Go.Proofs.Tryz renaming prog->EU
open Region renaming wanted->I_
open RowKit renaming Below->Io,Hid->Ea,intOf->Iv
open RowKit.Below renaming refl->IE,size->XJ
open Value renaming bool->Ec,int->E,agg->EZ,slice->EI,tuple->Et,pointer->Y,oneCell'->OC,ownBlock->mQ
open World renaming block_lt_of_cell?->XA,ownsRow_nil->cJ
open Int renaming eq_ofNat_of_zero_le->ji
open List renaming eq_nil_of_length_eq_zero->aN,getElem?_eq_getElem->Ok,getElem?_eq_some_iff->UG,mem_iff_getElem?->aP,take_succ_cons->Ir,length_take->aj,take_of_length_le->UZ,getElem?_append_right->ak,take_zero->Im,mem_map->da,getElem?_toArray->Og,setIfInBounds_toArray->Ip,length_append->I2,length_cons->ZV,mem_cons->Ui,append_assoc->U9,set_cons_succ->Ig,set_cons_zero->Ih,mem_append->XP,nil_append->Z8,length_drop->mV,not_mem_nil->UP,drop_succ_cons->IL,drop_zero->IG,append_nil->fc,take_add_one->nm,mem_of_getElem?->dw
open Nat renaming le_trans->EA,le_refl->E7,zero_add->JV,zero_le->bY,add_assoc->js,reduceAdd->bU,le_of_lt->ax,le_of_eq->OQ
open Option renaming some->D,none->Z
open KQ
variable{W W' w w':M}{base k gs b size n hi lo d ge gb gm l ga gr Y_ m:Nat}{A:Option Eu}{c c':EB}{T S:EC}{v sv rv:V}{o o2:Obj}{g:Nat->V}{rs:Int->List Int}{Q:UW->E6->M->Prop}{R:Ut->M->Prop}{cs:Array V}{P:Js}{rc:Loop}{act:List V}{hd:List Int}
theorem Eg4(b off:Nat)(a:Int)(n c:Nat)(w:M)(hn:([a]).length=n)(hr:Row w (D ⟨b,off,Z⟩) ([a]))(hc:n<=c)(hm:c<=9223372036854775807): Ef EU 83 #[EI (D ⟨b,off,Z⟩) n c] w fun e w'=>(∃Y3,e=Eg Y3/\rI w' w.heap.size (nx ([a])) Y3)/\El w w':=by
 have HR:=O hr;have HN:=O hn;clear hr;obtain⟨f,hf⟩:=En (nx ([a]));rw[<-hf];have HF:=O hf;have JU:=O<|J9 w (EJ #[E I 0,E I 0,E I 0,EI Z 0 0] 101) (EJ #[E I 0,E I 0,E I 0,EI Z 0 0] 101);have K2:Ea (H ((w.alloc (EJ #[E I 0,E I 0,E I 0,EI Z 0 0] 101)).alloc (EJ #[E I 0,E I 0,E I 0,EI Z 0 0] 101)) w.heap.size #[E I 0,E I 0,E I 0,EI Z 0 0] 101):=O<|H.G (H.new w #[E I 0,E I 0,E I 0,EI Z 0 0] 101) (Ep _ _);have K3:Ea (H ((w.alloc (EJ #[E I 0,E I 0,E I 0,EI Z 0 0] 101)).alloc (EJ #[E I 0,E I 0,E I 0,EI Z 0 0] 101)) (w.heap.size+1) #[E I 0,E I 0,E I 0,EI Z 0 0] 101):=O Mo;have OW:=O<|X9 ((w.alloc (EJ #[E I 0,E I 0,E I 0,EI Z 0 0] 101)).alloc (EJ #[E I 0,E I 0,E I 0,EI Z 0 0] 101)) w.heap.size;have TS:=0;have TO:=0;have OZ:=0;clear hf;obtain rfl:n=1:=hn.symm;go_enter Tryz.func83,Tryz.ntmps83;have c0:((w.alloc (EJ #[E I 0,E I 0,E I 0,EI Z 0 0] 101)).alloc (EJ #[E I 0,E I 0,E I 0,EI Z 0 0] 101)).cell? ⟨b,off,Z⟩=D (E IP a):=rJ (Iy HR.out JU.out) 0 rfl;by_cases h5:a=165;·have q5:(a !=165)=B:=xL;replace HF:Ea (f=n_ ([])):=O<|HF.out.trans (by rw[jW,if_neg X]);clear h5;exact Emw
 ·have q5:(a !=165)=u:=xM;replace HF:Ea (f=jV (UR ([a]))):=O<|HF.out.trans xN;clear h5;go_wp2_with fail;refine(xK (D ⟨b,off,Z⟩) ([a]) 1 c _ sN X (Iy HR.out JU.out) X).mono ?_;rintro e W1 ⟨rfl,b2⟩;replace OW:=O<|ZW OW.out b2;replace K2:=EQ K2 b2;replace K3:=EQ K3 b2;replace JU:=EW JU b2;clear b2 c0 OW;obtain⟨O0,Ia⟩:=En (#[E I 1,E I (UR ([a])),E I 0,EI Z 0 0]:Array V);rw[<-Ia];have oE:=TS;clear TS TO OZ;have TS:Ea (O0.size=4):=O fC;have TO:Ea (O0.all (·.oneCell')=u):=O fD;have OZ:=O Ia;clear Ia;have OW:=O<|X9 W1 w.heap.size;go_wp2_with (with_reducible refine wS (cs:=O0) OJ K3 (Ev.mk ?_) (ho:=oI) (hn:=TS.out) (h1:=TO.out));apply Eo;have hne:w.heap.size≠(w.heap.size+1):=X;replace OW:=O<|aF OW.out K3.out O0;replace JU:=O<|E3 JU.out (X:w.heap.size<=(w.heap.size+1)) O0;replace K2:=O<|(On O0).Ek K2.out hne;replace K3:=O<|K3.out.setRow O0;clear hne;generalize W1.setRow (w.heap.size+1) O0=V1 at*;go_wp2_with (with_reducible first|refine wL OJ K3 ?_ (hn:=TS.out)|refine wS (cs:=O0) OJ K2 ?_ (hn:=TS.out) (h1:=TO.out));refine ET (Jl OJ U _ _ w.heap.size O0 U (K2.out.setRow O0) TS.out) U ?_;rw[OZ.out,HF.out];exact Emk
theorem Eg5(b off:Nat)(a v:Int)(n c:Nat)(w:M)(hn:([a,v]).length=n)(hr:Row w (D ⟨b,off,Z⟩) ([a,v]))(hc:n<=c)(hm:c<=9223372036854775807): Ef EU 83 #[EI (D ⟨b,off,Z⟩) n c] w fun e w'=>(∃Y3,e=Eg Y3/\rI w' w.heap.size (nx ([a,v])) Y3)/\El w w':=by
 have HR:=O hr;have HN:=O hn;clear hr;obtain⟨f,hf⟩:=En (nx ([a,v]));rw[<-hf];have HF:=O hf;have JU:=O<|J9 w (EJ #[E I 0,E I 0,E I 0,EI Z 0 0] 101) (EJ #[E I 0,E I 0,E I 0,EI Z 0 0] 101);have K2:Ea (H ((w.alloc (EJ #[E I 0,E I 0,E I 0,EI Z 0 0] 101)).alloc (EJ #[E I 0,E I 0,E I 0,EI Z 0 0] 101)) w.heap.size #[E I 0,E I 0,E I 0,EI Z 0 0] 101):=O<|H.G (H.new w #[E I 0,E I 0,E I 0,EI Z 0 0] 101) (Ep _ _);have K3:Ea (H ((w.alloc (EJ #[E I 0,E I 0,E I 0,EI Z 0 0] 101)).alloc (EJ #[E I 0,E I 0,E I 0,EI Z 0 0] 101)) (w.heap.size+1) #[E I 0,E I 0,E I 0,EI Z 0 0] 101):=O Mo;have OW:=O<|X9 ((w.alloc (EJ #[E I 0,E I 0,E I 0,EI Z 0 0] 101)).alloc (EJ #[E I 0,E I 0,E I 0,EI Z 0 0] 101)) w.heap.size;have TS:=0;have TO:=0;have OZ:=0;clear hf;obtain rfl:n=2:=hn.symm;go_enter Tryz.func83,Tryz.ntmps83;have c1:((w.alloc (EJ #[E I 0,E I 0,E I 0,EI Z 0 0] 101)).alloc (EJ #[E I 0,E I 0,E I 0,EI Z 0 0] 101)).cell? ⟨b,off+1,Z⟩=D (E IP v):=rJ (Iy HR.out JU.out) 1 rfl;by_cases h1:v=1
 ·have q1:(v !=1)=B:=by rw[h1];rfl
  have c0:((w.alloc (EJ #[E I 0,E I 0,E I 0,EI Z 0 0] 101)).alloc (EJ #[E I 0,E I 0,E I 0,EI Z 0 0] 101)).cell? ⟨b,off,Z⟩=D (E IP a):=rJ (Iy HR.out JU.out) 0 rfl;by_cases h5:a=165;·have q5:(a !=165)=B:=xL;replace HF:Ea (f=n_ ([v])):=O<|HF.out.trans (by rw[jW,if_neg X]);clear h5;have HF:=O<|HF.out.trans (by rw[qV,if_neg X];rfl:_=dE);exact Emw
  ·exact EpM
 ·have q1:(v !=1)=u:=tE;go_wp2_with fail;refine(Dh 10 _).mono ?_;rintro e W1 ⟨rfl,b2⟩;replace OW:=O<|ZW OW.out b2;replace K2:=EQ K2 b2;replace K3:=EQ K3 b2;replace JU:=EW JU b2;clear b2 c1 OW;obtain⟨O0,Ia⟩:=En (#[E I 3,E I 1,E I 10,EI Z 0 0]:Array V);rw[<-Ia];have oE:=TS;clear TS TO OZ;have TS:Ea (O0.size=4):=O fC;have TO:Ea (O0.all (·.oneCell')=u):=O fD;have OZ:=O Ia;clear Ia;have OW:=O<|X9 W1 w.heap.size;go_wp2_with (with_reducible refine wS (cs:=O0) OJ K3 (Ev.mk ?_) (ho:=oI) (hn:=TS.out) (h1:=TO.out));apply Eo;have hne:w.heap.size≠(w.heap.size+1):=X;replace OW:=O<|aF OW.out K3.out O0;replace JU:=O<|E3 JU.out (X:w.heap.size<=(w.heap.size+1)) O0;replace K2:=O<|(On O0).Ek K2.out hne;replace K3:=O<|K3.out.setRow O0;clear hne;generalize W1.setRow (w.heap.size+1) O0=V1 at*;have c0:V1.cell? ⟨b,off,Z⟩=D (E IP a):=rJ (Iy HR.out JU.out) 0 rfl;by_cases h5:a=165;·have q5:(a !=165)=B:=xL;clear h5;go_wp2_with (with_reducible first|refine wL OJ K3 ?_ (hn:=TS.out)|refine wS (cs:=O0) OJ K2 ?_ (hn:=TS.out) (h1:=TO.out));refine ET (Jl OJ U _ _ w.heap.size O0 U (K2.out.setRow O0) TS.out) U ?_;rw[OZ.out,HF.out,jW,if_neg (by simpa using q5),qV,if_pos h1];exact⟨⟨_,U,_,_,U,aF OW.out K2.out _⟩,E3 JU.out (E7 _) _⟩
  ·exact EpM
theorem Eg6(b off:Nat)(a v:Int)(k:Nat)(r:List Int)(n c:Nat)(w:M)(hn:(a::v::(k:Int)::r).length=n)(hr:Row w (D ⟨b,off,Z⟩) (a::v::(k:Int)::r))(hc:n<=c)(hm:c<=9223372036854775807): Ef EU 83 #[EI (D ⟨b,off,Z⟩) n c] w fun e w'=>(∃Y3,e=Eg Y3/\rI w' w.heap.size (nx (a::v::(k:Int)::r)) Y3)/\El w w':=by
 have HR:=O hr;have HN:=O hn;clear hr;obtain⟨f,hf⟩:=En (nx (a::v::(k:Int)::r));rw[<-hf];have HF:=O hf;have JU:=O<|J9 w (EJ #[E I 0,E I 0,E I 0,EI Z 0 0] 101) (EJ #[E I 0,E I 0,E I 0,EI Z 0 0] 101);have K2:Ea (H ((w.alloc (EJ #[E I 0,E I 0,E I 0,EI Z 0 0] 101)).alloc (EJ #[E I 0,E I 0,E I 0,EI Z 0 0] 101)) w.heap.size #[E I 0,E I 0,E I 0,EI Z 0 0] 101):=O<|H.G (H.new w #[E I 0,E I 0,E I 0,EI Z 0 0] 101) (Ep _ _);have K3:Ea (H ((w.alloc (EJ #[E I 0,E I 0,E I 0,EI Z 0 0] 101)).alloc (EJ #[E I 0,E I 0,E I 0,EI Z 0 0] 101)) (w.heap.size+1) #[E I 0,E I 0,E I 0,EI Z 0 0] 101):=O Mo;have OW:=O<|X9 ((w.alloc (EJ #[E I 0,E I 0,E I 0,EI Z 0 0] 101)).alloc (EJ #[E I 0,E I 0,E I 0,EI Z 0 0] 101)) w.heap.size;have TS:=0;have TO:=0;have OZ:=0;clear hf;have tm:min (n:Int) 3=3:=by have:3<=n:=(by rw[<-hn];simp);omega
 have Eg7:=JU;go_enter Tryz.func83,Tryz.ntmps83;go_wp2_with fail;refine(Eg3 b off a v k r n c _ (by simpa using hn) (Iy HR.out JU.out) hc hm).mono ?_;rintro e W0 ⟨⟨Y3,rfl,A9,c9,rfl,ow⟩,b2⟩;replace K2:=EQ K2 b2;replace K3:=EQ K3 b2;replace JU:=EW JU b2;replace OW:=O<|bJ ow (show w.heap.size<=_ from Eg7.out.size);clear b2 ow;have ph:(fy v k r).b=(fy v k r).b:=rfl;obtain⟨Iq,Ia⟩:=En (#[E I (fy v k r).kd,E I (fy v k r).sz,E I (fy v k r).cd,.slice A9 (fy v k r).b.length c9]:Array V);rw[<-Ia];have oE:=TS;clear TS TO OZ;have TS:Ea (Iq.size=4):=O fC;have TO:Ea (Iq.all (·.oneCell')=u):=O fD;have OZ:=O Ia;clear Ia;go_wp2_with (with_reducible refine wS (cs:=Iq) OJ K3 (Ev.mk ?_) (ho:=oI) (hn:=TS.out) (h1:=TO.out));apply Eo;have hne:w.heap.size≠(w.heap.size+1):=X;replace OW:=O<|aF OW.out K3.out Iq;replace JU:=O<|E3 JU.out (X:w.heap.size<=(w.heap.size+1)) Iq;replace K2:=O<|(On Iq).Ek K2.out hne;replace K3:=O<|K3.out.setRow Iq;clear hne;generalize W0.setRow (w.heap.size+1) Iq=V0 at*;have c1:V0.cell? ⟨b,off+1,Z⟩=D (E IP v):=rJ (Iy HR.out JU.out) 1 rfl;by_cases h1:v=1
 ·have q1:(v !=1)=B:=by rw[h1];rfl
  subst h1;have c0:V0.cell? ⟨b,off,Z⟩=D (E IP a):=rJ (Iy HR.out JU.out) 0 rfl;by_cases h5:a=165;·have q5:(a !=165)=B:=xL;replace HF:Ea (f=n_ (1::(k:Int)::r)):=O<|HF.out.trans (by rw[jW,if_neg X]);clear h5;go_wp2_with (with_reducible first|refine wL OJ K3 ?_ (hn:=TS.out)|refine wS (cs:=Iq) OJ K2 ?_ (hn:=TS.out) (h1:=TO.out));refine ET (Jl OJ U _ _ w.heap.size Iq U (K2.out.setRow Iq) TS.out) U ?_;rw[OZ.out,HF.out,qV,if_neg Eh];exact Emk
  ·have q5:(a !=165)=u:=xM;replace HF:Ea (f=jV (UR (a::1::(k:Int)::r))):=O<|HF.out.trans xN;clear h5;go_wp2_with fail;refine(xK (D ⟨b,off,Z⟩) (a::1::(k:Int)::r) n c _ sN X (Iy HR.out JU.out) X).mono ?_;rintro e W2 ⟨rfl,b2⟩;replace OW:=O<|ZW OW.out b2;replace K2:=EQ K2 b2;replace K3:=EQ K3 b2;replace JU:=EW JU b2;clear b2 c0 OW;obtain⟨JF,Ia⟩:=En (#[E I 1,E I (UR (a::1::(k:Int)::r)),E I 0,EI Z 0 0]:Array V);exact Elh
 ·have q1:(v !=1)=u:=tE;go_wp2_with fail;refine(Dh 10 _).mono ?_;rintro e W1 ⟨rfl,b2⟩;replace OW:=O<|ZW OW.out b2;replace K2:=EQ K2 b2;replace K3:=EQ K3 b2;replace JU:=EW JU b2;clear b2 c1 OW;obtain⟨O0,Ia⟩:=En (#[E I 3,E I 1,E I 10,EI Z 0 0]:Array V);rw[<-Ia];have oE:=TS;clear TS TO OZ;have TS:Ea (O0.size=4):=O fC;have TO:Ea (O0.all (·.oneCell')=u):=O fD;have OZ:=O Ia;clear Ia;have OW:=O<|X9 W1 w.heap.size;go_wp2_with (with_reducible refine wS (cs:=O0) OJ K3 (Ev.mk ?_) (ho:=oI) (hn:=TS.out) (h1:=TO.out));apply Eo;have hne:w.heap.size≠(w.heap.size+1):=X;replace OW:=O<|aF OW.out K3.out O0;replace JU:=O<|E3 JU.out (X:w.heap.size<=(w.heap.size+1)) O0;replace K2:=O<|(On O0).Ek K2.out hne;replace K3:=O<|K3.out.setRow O0;clear hne;generalize W1.setRow (w.heap.size+1) O0=V1 at*;have c0:V1.cell? ⟨b,off,Z⟩=D (E IP a):=rJ (Iy HR.out JU.out) 0 rfl;by_cases h5:a=165;·have q5:(a !=165)=B:=xL;clear h5;go_wp2_with (with_reducible first|refine wL OJ K3 ?_ (hn:=TS.out)|refine wS (cs:=O0) OJ K2 ?_ (hn:=TS.out) (h1:=TO.out));refine ET (Jl OJ U _ _ w.heap.size O0 U (K2.out.setRow O0) TS.out) U ?_;rw[OZ.out,HF.out,jW,if_neg (by simpa using q5),qV,if_pos h1];exact⟨⟨_,U,_,_,U,aF OW.out K2.out _⟩,E3 JU.out (E7 _) _⟩
  ·have q5:(a !=165)=u:=xM;replace HF:Ea (f=jV (UR (a::v::(k:Int)::r))):=O<|HF.out.trans xN;clear h5;go_wp2_with fail;refine(xK (D ⟨b,off,Z⟩) (a::v::(k:Int)::r) n c _ sN X (Iy HR.out JU.out) X).mono ?_;rintro e W2 ⟨rfl,b2⟩;replace OW:=O<|ZW OW.out b2;replace K2:=EQ K2 b2;replace K3:=EQ K3 b2;replace JU:=EW JU b2;clear b2 c0 OW;obtain⟨JF,Ia⟩:=En (#[E I 1,E I (UR (a::v::(k:Int)::r)),E I 0,EI Z 0 0]:Array V);exact Elh
theorem Mq(A:Option Eu)(c:Nat)(w:M): Ef EU 83 #[EI A 0 c] w fun e w'=>(∃Y3,e=Eg Y3/\rI w' w.heap.size dE Y3)/\El w w':=by obtain⟨f,hf⟩:=En dE;rw[<-hf];have HF:=O hf;clear hf;go_enter Tryz.func83,Tryz.ntmps83;exact Emw
theorem Eg8(A:Option Eu)(xs:List Int)(n c:Nat)(w:M)(hn:xs.length=n)(hr:Row w A xs)(hc:n<=c)(hm:c<=9223372036854775807): Ef EU 83 #[EI A n c] w fun e w'=>(∃Y3,e=Eg Y3/\rI w' w.heap.size (nx xs) Y3)/\El w w':=by
 rcases hr.1 with h|⟨b,off,h,-⟩;·subst h;obtain rfl:n=0:=hn.symm;exact Mq A c w
 ·subst h;match xs,hn,hr with
  |[],hn,hr=>obtain rfl:n=0:=hn.symm;exact Mq _ c w
  |[a],hn,hr=>exact Eg4 b off a n c w hn hr hc hm
  |[a,v],hn,hr=>exact Eg5 b off a v n c w hn hr hc hm
  |a::v::k::r,hn,hr=> have hk:=hr.2 k Eh;obtain⟨k,rfl⟩:=ji hk.1;exact Eg6 b off a v k r n c w hn hr hc hm
def UV(W:M)(base:Nat):List (Int×List Int)->List V->Prop
 |[],vs=>vs=[]
 |x::r,vs=> ∃(A:Option Eu) (c:Nat) (vs':List V),vs=E I x.1:: .slice A x.2.length c::vs'/\Own W base A c x.2/\UV W base r vs'
theorem UV.keep{W W':M}{base:Nat}: ∀{its:List (Int×List Int)} {vs:List V},UV W base its vs->(∀g cs,H W g cs 5->H W' g cs 5)->UV W' base its vs
 |[],_,h,_=>h
 |x::r,_,⟨A,c,vs',e,o,t⟩,hb=>⟨A,c,vs',e,⟨ER o.1 hb,o.2⟩,UV.keep t hb⟩
theorem Mr{W:M}{base:Nat}{cd:Int}{b:List Int}{A:Option Eu}{c:Nat}: ∀{its:List (Int×List Int)} {vs:List V},UV W base its vs->Own W base A c b->UV W base (its++[(cd,b)]) (vs++[E I cd,EI A b.length c])
 |[],vs,h,ho=>by rw[show vs=[] from h];exact⟨A,c,[],U,ho,U⟩
 |x::r,_,⟨A',c',vs',e,o,t⟩,ho=>⟨A',c',_,by rw[e];rfl,o,Mr t ho⟩
theorem UV.get{W:M}{base:Nat}: ∀{its:List (Int×List Int)} {vs:List V} {j:Nat} {x:Int×List Int},UV W base its vs->its[j]?=D x-> ∃(A:Option Eu) (c:Nat),vs[j*2]?=D (E I x.1)/\vs[j*2+1]?=D (.slice A x.2.length c)/\Own W base A c x.2
 |[],_,j,x,_,hx=>uO
 |y::r,_,0,x,⟨A,c,vs',e,o,t⟩,hx=>by
  obtain rfl:y=x:=by simpa using hx
  exact⟨A,c,by rw[e];rfl,by rw[e];rfl,o⟩
 |y::r,_,j+1,x,⟨A,c,vs',e,o,t⟩,hx=>by
  obtain⟨A',c',h1,h2,h3⟩:=UV.get t (show r[j]?=D x by simpa using hx);refine⟨A',c',?_,?_,h3⟩;·rw[e,show(j+1)*2=j*2+1+1 from X];simpa using h1
  ·rw[e,show(j+1)*2+1=j*2+1+1+1 from X];simpa using h2
theorem dJ{c:Nat}{xs:List Int}(h:Own W base A c xs)(hb: ∀g cs,H W g cs 5->H W' g cs 5):Own W' base A c xs:=⟨ER h.1 hb,h.2⟩
theorem Eg9:Od EU 101 #[E I 0,E I 0,E I 0,EI Z 0 0]:=by exact El7
theorem Eg_: ∃i,Tryz.prog.info? 74=D i/\i.zero=D (EZ #[E I 0,EI Z 0 0])/\i.size=2/\i.bytes=32:=by have h:(Tryz.prog.info? 74).map (fun i=>(i.zero,i.size,i.bytes))=D (D (EZ #[E I 0,EI Z 0 0]),2,32):=Ed;exact EmQ
def lenOf(v:V):Nat:=match v with
 |EI _ n _=>n
 |_=>0
def At(xs:List Int)(k:Nat)(its:List (Int×List Int)):Prop:= ∀i r,Xo (xs.drop k) i r->Xo xs (its++i) r
theorem At.zero(xs:List Int):At xs 0 []:=fun i r h=>Un
theorem At.step{xs:List Int}{its:List (Int×List Int)}(h:At xs k its)(h0:(nx (xs.drop k)).kd≠0):At xs (k+(nx (xs.drop k)).sz) (its++(nx (xs.drop k)).item):=fun i r t=>by rw[U9];exact h _ _ (.step h0 (by rw[List.drop_drop];exact t))
theorem EhE{xs:List Int}(hb:U8 xs):(nx xs).kd=0\/(nx xs).kd=1\/(nx xs).kd=2\/(nx xs).kd=3:=by
 cases DX xs hb with
 |wait e=>rw[e];exact .inl U
 |qW c e hc hl=>rw[e];exact .inr (.inr (.inr U))
 |skip e h1=>rw[e];exact .inr (.inl U)
 |frame n e hl hn=>rw[e];exact .inr (.inr (.inl U))
theorem all_some(b off:Nat)(xs:List Int)(n c:Nat)(w:M)(hn:xs.length=n)(hr:Row w (D ⟨b,off,Z⟩) xs)(hc:n<=c)(hm:c<=9223372036854775807)(hs:n<=1000000): Ef EU 69 #[EI (D ⟨b,off,Z⟩) n c] w fun e w'=>(∃(its:List (Int×List Int)) (r:List Int) (v:V) (vals:List V),e=Eg (Et #[v,E I r.length])/\Xo xs its r/\w'.ownsRow w.heap.size 74 2 v its.length vals/\UV w' w.heap.size its vals)/\El w w':=by
 have HR:=O hr;have HN:=O hn;have II:=O Eg_;have tu:Ea (U8 xs):=O hr.2;clear hr hn;go_enter Tryz.func69,Tryz.ntmps69;(iterate 2 go_wp2_with fail;go_step3);go_wp2_with fail;go_loopw[0,4] (fun x y wr=> ∃(k i o2:Nat) (its:List (Int×List Int)) (A2:Option Eu) (c2:Nat) (vals:List V),k<=n/\i<=k/\x=EI (D ⟨b,o2,Z⟩) (n-k) (c-k)/\(k<n->o2=off+k)/\y=EI A2 i c2/\its.length=i/\At xs k its/\wr.ownsRow w.heap.size 74 2 (EI A2 i c2) i vals/\UV wr w.heap.size its vals/\El w wr) (fun x _ _=>lenOf x);case atStart=>exact⟨0,0,off,[],Z,0,[],X,X,U,fun _=>rfl,U,U,At.zero _,cJ _ _ _ _,U,IE _ _⟩
 case round=>
  obtain⟨k,i,o2,its,A2,c2,vals,hk,hik,rfl,ho2,rfl,u3,hat,oi,iv,bb⟩:=hrel;have OI:=O oi;have IV:=O iv;have BB:=O bb;have pB:=O u3;have HAT:=O hat;clear oi iv bb u3 hat
  have RD:Ea (Row wr (D ⟨b,o2,Z⟩) (xs.drop k)):=O (by
   by_cases hkn:k<n;·rw[ho2 hkn];exact np (Iy HR.out BB.out) k
   ·rw[List.drop_eq_nil_of_le rY];exact oF _ _)
  have HL:Ea ((xs.drop k).length=n-k):=O (by rw[mV,HN.out]);go_wp2_with fail;refine(Eg8 (D ⟨b,o2,Z⟩) (xs.drop k) (n-k) (c-k) _ HL.out RD.out X X).mono ?_;rintro e w1 ⟨⟨Y3,rfl,A9,c9,rfl,ow⟩,b2⟩;have OW:=O<|bJ ow (show w.heap.size<=wr.heap.size from BB.out.size);replace OI:=O<|ER OI.out fun _ _ h=>H.G h b2;replace IV:=O<|IV.out.keep fun _ _ h=>H.G h b2;replace BB:=EW BB b2;clear ow b2 RD;have Ms:=O<|EhE (tu.out.dr k);have Di:Ea ((nx (xs.drop k)).kd≠0->1<=(nx (xs.drop k)).sz/\(nx (xs.drop k)).sz<=n-k):=O (fun h=>by have:=Mi (tu.out.dr k) h;rw[HL.out] at this;exact this);have HST:=O<|fun h=>HAT.out.step h;have HIT:Ea ((nx (xs.drop k)).item=if(nx (xs.drop k)).kd=2 then [(0,(nx (xs.drop k)).b)] else if(nx (xs.drop k)).kd=3 then [((nx (xs.drop k)).cd,[])] else []):=O U;have HW:Ea ((nx (xs.drop k)).kd=0->Xo (xs.drop k) [] (xs.drop k)):=O<|fun h=> .wait h;obtain⟨f,hf⟩:=En (nx (xs.drop k));rw[<-hf] at Ms Di HST HIT HW OW⊢;clear hf;obtain⟨kd,sz,cd,bd⟩:=f;simp only at Ms Di HST HIT HW OW⊢;obtain⟨tv,Ia⟩:=En (#[E I kd,E I sz,E I cd,EI A9 bd.length c9]:Array V);rw[<-Ia];have TS:Ea (tv.size=4):=O fC;have TO:Ea (tv.all (·.oneCell')=u):=O fD;replace Ia:=O Ia;have K0:=O<|H.new w1 #[E I 0,E I 0,E I 0,EI Z 0 0] 101;have b2:=Ep w1 (EJ #[E I 0,E I 0,E I 0,EI Z 0 0] 101);go_wp2_with (with_reducible first|refine wA Eg9 ?_|refine wS (cs:=tv) OJ K0 (Ev.mk ?_) (hn:=TS.out) (h1:=TO.out));apply Eo;obtain⟨gx,hgx⟩:=En w1.heap.size;rw[<-hgx] at K0⊢;generalize w1.alloc (EJ #[E I 0,E I 0,E I 0,EI Z 0 0] 101)=Xz at*;have KF:=O<|K0.out.setRow tv;have b3:=E3 (g:=gx) b2 (OQ hgx.symm) tv;generalize Xz.setRow gx tv=wf at*;clear K0 b2 hgx;replace OI:=O<|ER OI.out fun _ _ h=>H.G h b3;replace IV:=O<|IV.out.keep fun _ _ h=>H.G h b3;replace OW:=O<|ZW OW.out b3;replace BB:=EW BB b3;clear b3;have YT:wf.cell? ⟨gx,0,Z⟩=D (E I kd):=(H.cell KF.out 0).trans tM;have Dj:wf.cell? ⟨gx,1,Z⟩=D (E I sz):=(H.cell KF.out 1).trans tM;have YV:wf.cell? ⟨gx,2,Z⟩=D (E I cd):=(H.cell KF.out 2).trans tM;have YW:wf.cell? ⟨gx,3,Z⟩=D (EI A9 bd.length c9):=(H.cell KF.out 3).trans tM;clear TS TO;by_cases h0:kd=0;·have HP:=O<|HAT.out _ _ (HW.out h0);subst h0;go_wp2_with fail;go_ret2;refine⟨⟨its,xs.drop k,_,vals,by rw[HL.out];rfl,?_,by rw[pB.out];exact OI.out,IV.out⟩,BB.out⟩;have:=HP.out;rwa [fc] at this
  ·have hsz:=Di.out h0;have e0:(kd==0)=B:=tx;replace HAT:=O<|HST.out h0;rw[HIT.out] at HAT;clear HST HW Di;by_cases h2:kd=2
   ·subst h2;simp only[if_pos] at HAT;go_wp2_with (with_reducible refine I7 19 ?_);apply Eo;have KI:=O<|H.new wf #[E I 0,EI A9 bd.length c9] 74;have b4:=O<|Ep wf (EJ #[E I 0,EI A9 bd.length c9] 74);replace BB:=EW BB b4.out;replace OI:=O<|ER OI.out fun _ _ h=>H.G h b4.out;replace IV:=O<|IV.out.keep fun _ _ h=>H.G h b4.out;replace OW:=O<|ZW OW.out b4.out;replace KF:=EQ KF b4.out;clear YT Dj YV YW;clear b4;generalize wf.alloc (EJ #[E I 0,EI A9 bd.length c9] 74)=cW at*;generalize wf.heap.size=gb at*;obtain⟨qA,qc,qw,U6,ZX,Oj,-,-⟩:=dc (P:=EU) cW w.heap.size w.heap.size 70 70 74 II.out.choose _ 2 32 Tryz.underlying70 II.out.choose_spec.1 II.out.choose_spec.2.1 II.out.choose_spec.2.2.1 II.out.choose_spec.2.2.2 rfl A2 c2 i vals OI.out ⟨gb,0,Z⟩ 1 1 [E I 0,EI A9 bd.length c9] U (fun j Y3 hu=>by rw[show(⟨gb,0,Z⟩:Eu).add j=⟨gb,j,Z⟩ from XB];rw[H.cell KI.out,Og];exact hu) dB (fun _=>X) OD X BB.out.size (E7 _);go_wp2_with ((with_reducible refine Is 19 ?_);(refine Ol (Ei U) (Up U U U U6) ?_);refine Ev.mk ?_);apply Eo;replace OI:=O ZX;replace IV:=O<|Mr (cd:=0) (b:=bd) (IV.out.keep fun _ _ h=>X_ Oj h Eb) (dJ OW.out fun _ _ h=>X_ Oj h Eb);replace KF:=O<|X_ Oj KF.out Eb;replace BB:=O<|BB.out.trans (Oj.2.1 BB.out.size);clear ZX Oj U6 KI;have Dj:qw.cell? ⟨gx,1,Z⟩=D (E I sz):=(H.cell KF.out 1).trans tM;go_wp2_with fail;have HO:=ho2 X;subst HO;clear ho2;refine⟨⟨k+sz,i+1,if c-k=sz then off+k else off+(k+sz),its++[(0,bd)],qA,qc,_,X,X,?_,fun h=>if_neg X,U,?_,HAT.out,OI.out,IV.out,BB.out⟩,?_⟩;·split<;>simp only[Nat.sub_sub,js]
    ·rw[I2,pB.out];rfl
    ·simp only[lenOf];omega
   ·by_cases h3:kd=3
    ·subst h3;simp only[if_pos,if_neg (show¬((3:Int)=2) from Eb)] at HAT;go_wp2_with (with_reducible refine I7 27 ?_);apply Eo;have KI:=O<|H.new wf #[E I cd,EI Z 0 0] 74;have b4:=O<|Ep wf (EJ #[E I cd,EI Z 0 0] 74);replace BB:=EW BB b4.out;replace OI:=O<|ER OI.out fun _ _ h=>H.G h b4.out;replace IV:=O<|IV.out.keep fun _ _ h=>H.G h b4.out;replace KF:=EQ KF b4.out;clear YT Dj YV YW;clear b4;generalize wf.alloc (EJ #[E I cd,EI Z 0 0] 74)=cW at*;generalize wf.heap.size=gb at*;obtain⟨qA,qc,qw,U6,ZX,Oj,-,-⟩:=dc (P:=EU) cW w.heap.size w.heap.size 70 70 74 II.out.choose _ 2 32 Tryz.underlying70 II.out.choose_spec.1 II.out.choose_spec.2.1 II.out.choose_spec.2.2.1 II.out.choose_spec.2.2.2 rfl A2 c2 i vals OI.out ⟨gb,0,Z⟩ 1 1 [E I cd,EI Z 0 0] U (fun j Y3 hu=>by rw[show(⟨gb,0,Z⟩:Eu).add j=⟨gb,j,Z⟩ from XB];rw[H.cell KI.out,Og];exact hu) dB (fun _=>X) OD X BB.out.size (E7 _);go_wp2_with ((with_reducible refine Is 27 ?_);(refine Ol (Ei U) (Up U U U U6) ?_);refine Ev.mk ?_);apply Eo;replace OI:=O ZX;replace IV:=O<|Mr (cd:=cd) (b:=[]) (IV.out.keep fun _ _ h=>X_ Oj h Eb) (X9 _ _);replace KF:=O<|X_ Oj KF.out Eb;replace BB:=O<|BB.out.trans (Oj.2.1 BB.out.size);clear ZX Oj U6 KI;have Dj:qw.cell? ⟨gx,1,Z⟩=D (E I sz):=(H.cell KF.out 1).trans tM;go_wp2_with fail;have HO:=ho2 X;subst HO;clear ho2;refine⟨⟨k+sz,i+1,if c-k=sz then off+k else off+(k+sz),its++[(cd,[])],qA,qc,_,X,X,?_,fun h=>if_neg X,U,?_,HAT.out,OI.out,IV.out,BB.out⟩,?_⟩;·split<;>simp only[Nat.sub_sub,js]
     ·rw[I2,pB.out];rfl
     ·simp only[lenOf];omega
    ·have e1:kd=1:=by have:=Ms.out;omega
     subst e1;simp only[if_neg (show¬((1:Int)=2) from Eb),if_neg (show¬((1:Int)=3) from Eb),fc] at HAT;go_wp2_with fail;have HO:=ho2 X;subst HO;clear ho2;refine⟨⟨k+sz,i,if c-k=sz then off+k else off+(k+sz),its,A2,c2,vals,X,X,?_,fun h=>if_neg X,U,pB.out,HAT.out,OI.out,IV.out,BB.out⟩,?_⟩;·split<;>simp only[Nat.sub_sub,js]
     ·simp only[lenOf];omega
theorem all_nil(A:Option Eu)(c:Nat)(w:M)(hm:c<=9223372036854775807): Ef EU 69 #[EI A 0 c] w fun e w'=>e=Eg (Et #[EI Z 0 0,E I 0])/\El w w':=by
 go_enter Tryz.func69,Tryz.ntmps69;(iterate 2 go_wp2_with fail;go_step3);go_wp2_with fail;go_loopw[0,4] (fun x y wr=>x=EI A 0 c/\y=EI Z 0 0/\w=wr) (fun x _ _=>lenOf x);case atStart=>exact⟨U,U,U⟩
 case round=> obtain⟨rfl,rfl,rfl⟩:=hrel;go_wp2_with fail;refine(Mq A c _).mono ?_;rintro e w1 ⟨⟨Y3,rfl,A9,c9,rfl,ow⟩,b2⟩;have BB:=O b2;clear ow b2;simp only[dE,List.length_nil,Int.natCast_zero,Int.ofNat_zero,show((0:Nat):Int)=0 from rfl];go_wp2_with fail;simp only[Exit.noGoto_ret];go_ret2;exact⟨U,bt BB.out (Ep _ _)⟩
theorem EhI(A:Option Eu)(xs:List Int)(n c:Nat)(w:M)(hn:xs.length=n)(hr:Row w A xs)(hc:n<=c)(hm:c<=9223372036854775807)(hs:n<=1000000): Ef EU 69 #[EI A n c] w fun e w'=>(∃(its:List (Int×List Int)) (r:List Int) (v:V) (vals:List V),e=Eg (Et #[v,E I r.length])/\Xo xs its r/\w'.ownsRow w.heap.size 74 2 v its.length vals/\UV w' w.heap.size its vals)/\El w w':=by
 rcases hr.1 with h|⟨b,off,h,-⟩;·subst h;obtain rfl:n=0:=hn.symm;refine(all_nil A c w hm).mono ?_;rintro e w' ⟨rfl,hb⟩;exact⟨⟨[],[],_,[],U,.wait U,cJ _ _ _ _,U⟩,hb⟩
 ·subst h;exact all_some b off xs n c w hn hr hc hm hs
theorem Mt{c:Nat}{xs:List Int}{z:Array V}(h:Own W base A c xs)(K:H W gs z 122)(i:Nat)(v:V):Own (W.setCell ⟨gs,i,Z⟩ v) base A c xs:=
 dJ h fun _ _ hk=>(J6 (g:=gs) i v).Ek hk (E5 hk K Eb)
theorem Mu{c:Nat}{xs:List Int}(h:Own W base A c xs):xs.length<=c/\c<=9223372036854775807:=by
 rcases h.1.2 with⟨hv,hn⟩|⟨g,cap',cur,hv,hg,hh,hl,hm,hs,ht⟩;·injection hv with h1 h2 h3;subst h3;exact⟨X,X⟩
 ·injection hv with h1 h2 h3;unfold maxLen at hm;exact⟨X,X⟩
theorem EhJ{c:Nat}{xs:List Int}(h:Own W base A c xs):(∃g,A=D ⟨g,0,Z⟩)\/(A=Z/\c=0):=by
 rcases h.1.2 with⟨hv,hn⟩|⟨g,cap',cur,hv,hg,hh,hl,hm,hs,ht⟩;·injection hv with h1 h2 h3;exact .inr ⟨h1,h3⟩
 ·injection hv with h1 h2 h3;exact .inl ⟨g,h1⟩
theorem Mv(h:Io b w w')(hk: ∀k,k<w.heap.size->w'.heap[k]?=w.heap[k]?):El w w':=⟨h.os,h.tape,h.output,h.size,hk⟩
theorem oJ{b':Nat}{xs:List V}(h:W.ownsRow b T size v n xs)(hb:b'<=b):W.ownsRow b' T size v n xs:=by
 obtain⟨h1,h2|⟨gg,cap,cur,hv,hg,r⟩⟩:=h;·exact⟨h1,.inl h2⟩
 ·exact⟨h1,.inr ⟨gg,cap,cur,hv,EA hb hg,r⟩⟩
theorem UV.mono{W:M}{b b':Nat}: ∀{its:List (Int×List Int)} {vs:List V},UV W b its vs->b'<=b->UV W b' its vs
 |[],_,h,_=>h
 |x::r,_,⟨A,c,vs',e,o,t⟩,hb=>⟨A,c,vs',e,bJ o hb,UV.mono t hb⟩
theorem EhO{xs i r}(h:Xo xs i r): ∃k,r=xs.drop k/\k+r.length=xs.length:=by
 obtain⟨k,e⟩:=h.left;refine⟨min k xs.length,?_,?_⟩
 ·by_cases hk:k<=xs.length;·rw[Nat.min_eq_left hk];exact e
  ·rw[Nat.min_eq_right X,e,List.drop_eq_nil_of_le X,List.drop_eq_nil_of_le (E7 _)]
 ·rw[e,mV];omega
def EhU(gs lo:Nat)(rest xs:List Int)(w:M)(e:Ut)(w':M):Prop:=
 ∃(its:List (Int×List Int)) (r:List Int) (v:V) (vals:List V) (A:Option Eu) (c:Nat) (w2:M),e=Eg v/\Xo (rest++xs) its r/\w'.ownsRow w.heap.size 74 2 v its.length vals/\UV w' w.heap.size its vals/\El w w2/\w'=w2.setCell ⟨gs,0,Z⟩ (EI A r.length c)/\Own w' w.heap.size A c r
theorem EhX(gs lo:Nat)(A0:Option Eu)(c0 m:Nat)(rest:List Int)(A:Option Eu)(n c:Nat)(xs:List Int)(w:M)(ks:H w gs #[EI A0 m c0] 122)(own:Own w lo A0 c0 rest)(hm:rest.length=m)(hr:Row w A xs)(hn:xs.length=n)(hl:lo<=gs)(h1:m<=100000)(h2:n<=100000): Ef EU 48 #[Y (D ⟨gs,0,Z⟩),EI A n c] w (EhU gs lo rest xs w):=by
 have KS:=O ks;have OR:=O own;have HR:=O hr;have HN:=O hn;have HM:=O hm;have BB:=O<|IE w.heap.size w;clear ks own hr hn hm;have hmk: ∀W:M,(Instr.makeSlice 23 (E I 0) (E I ((m:Int)+(n:Int)))).run EU W= .ok (EI (D ⟨W.heap.size,0,Z⟩) 0 (m+n)) (W.alloc (EJ (aS #[E .u8 0] (m+n)) 5)):=Tr _ _ X X;have cs0:w.cell? ⟨gs,0,Z⟩=D (EI A0 m c0):=(H.cell KS.out 0).trans U;have b1:=Ep w (EJ (aS #[E .u8 0] (m+n)) 5);have cs1:(w.alloc (EJ (aS #[E .u8 0] (m+n)) 5)).cell? ⟨gs,0,Z⟩=D (EI A0 m c0):=(H.cell (H.G KS.out b1) 0).trans U;have O1:=O<|Ts w w.heap.size (m+n) (E7 _) X;go_enter Tryz.func48,Tryz.ntmps48;go_wp2_with (with_reducible refine I7 22 ?_);apply Eo;clear cs0 cs1 hmk;replace BB:=EW BB b1;clear b1;generalize w.alloc (EJ (aS #[E .u8 0] (m+n)) 5)=w1 at*;go_wp2_with ((with_reducible refine Is 22 ?_);(with_reducible refine mR _ (Ei U) (.tmp 17) (.tmp 21) U w.heap.size (D ⟨w.heap.size,0,Z⟩) (m+n) 0 [] U ?_ O1.out A0 c0 m rest HM.out ?_ (Iy OR.out.row BB.out) X BB.out.size ?_);(·rfl);(·rfl);intro A2 c2 w2 o2 b2 k2;refine Ev.mk ?_);apply Eo;replace BB:=O<|BB.out.trans b2;replace O1:=O o2;clear o2 b2 k2;rw[Z8] at O1;go_wp2_with ((with_reducible refine Is 25 ?_);(with_reducible refine mR _ (Ei U) (.tmp 23) (.tmp 24) U w.heap.size A2 c2 m rest HM.out ?_ O1.out A c n xs HN.out ?_ (Iy HR.out BB.out) X BB.out.size ?_);(·rfl);(·rfl);intro A3 c3 w3 o3 b3 k3;refine Ev.mk ?_);apply Eo;replace BB:=O<|BB.out.trans b3;replace O1:=O o3;clear o3 b3 k3;have xP:Ea ((rest++xs).length=m+n):=O (by rw[I2,HM.out,HN.out]);obtain⟨N,hN⟩:=En (m+n);rw[<-hN] at xP;have hN2:N<=200000:=X;have Mw:=O<|Mu O1.out;go_wp2_with fail;rw[<-hN];refine(EhI A3 (rest++xs) N c3 _ xP.out O1.out.row (by have:=Mw.out.1;have:=xP.out;omega) Mw.out.2 X).mono ?_;rintro e w4 ⟨⟨its,r,v,vals,rfl,hp,hv,hi⟩,b4⟩;have HP:=O hp;have BV:=O<|show w.heap.size<=w3.heap.size from BB.out.size;have HV:=O<|oJ hv BV.out;have HI:=O<|UV.mono hi BV.out;replace O1:=O<|ZW O1.out b4;replace BB:=EW BB b4;clear hp hv hi b4 BV;have HL:=O<|EhO HP.out;obtain⟨k,hk,hkl⟩:=HL.out;obtain⟨rl,hrl⟩:=En r.length;rw[<-hrl] at hkl⊢;have xQ:=O hrl;have HK:=O hk;have hkN:k+rl=N:=by rw[<-xP.out];exact hkl
 have hsub:(N:Int)-(rl:Int)=(k:Int):=X;clear hrl hk hkl HL hN;have cs0:w4.cell? ⟨gs,0,Z⟩=D (EI A0 m c0):=(H.cell (H.G KS.out BB.out) 0).trans U;have tN:w4.frozen? ⟨gs,0,Z⟩=B:=H.JX (H.G KS.out BB.out) 0;have hcp:=Mw.out.1;rw[xP.out] at hcp;obtain⟨g3,hA3⟩|⟨hA3,hc3⟩:=EhJ O1.out
 ·subst hA3;have RK:Ea (Row w4 (D ⟨g3,k,Z⟩) r):=O (by have:=np O1.out.row k;rw[JV] at this;rw[HK.out];exact this);by_cases hck:c3=k
  ·have e2:N-k=rl:=X;have hr0:rl=0:=X;have RN:Ea (Row w4 (D ⟨g3,0,Z⟩) r):=O (by have e:r=[]:=aN (by rw[<-xQ.out];exact hr0);rw[e];exact oF _ _);clear hr0;go_wp2_with ((with_reducible refine Is 38 ?_);(with_reducible refine mR _ (Ei U) (.const (EI Z 0 0)) (.tmp 37) U w.heap.size Z 0 0 [] U ?_ (X9 _ _) (D ⟨g3,0,Z⟩) 0 rl r xQ.out.symm ?_ RN.out X BB.out.size ?_);(·rfl);(·rfl);intro A6 c6 w6 o6 b6 k6;refine Ev.mk ?_);apply Eo;have b7:=Mv b6 (fun k hk=>(k6 k hk (fun b h=>XZ)).1);rw[Z8] at o6;have O6:=O o6;replace HV:=O<|ER HV.out fun _ _ h=>H.G h b7;replace HI:=O<|UV.keep HI.out fun _ _ h=>H.G h b7;replace BB:=O<|BB.out.trans b6;clear o6 b6 k6 b7 cs0 tN;have aG:=EQ KS BB.out;have cs0:w6.cell? ⟨gs,0,Z⟩=D (EI A0 m c0):=(H.cell aG.out 0).trans U;have tN:w6.frozen? ⟨gs,0,Z⟩=B:=H.JX aG.out 0;go_wp2_with fail;go_ret;refine⟨its,r,v,vals,A6,c6,w6,U,HP.out,?_,?_,BB.out,Dk,Mt O6.out aG.out _ _⟩;·exact ER HV.out fun _ _ h=>(J6 (g:=gs) 0 _).Ek h (E5 h aG.out Eb)
   ·exact EnD
  ·have e2:N-k=rl:=X;go_wp2_with ((with_reducible refine Is 38 ?_);(with_reducible refine mR _ (Ei U) (.const (EI Z 0 0)) (.tmp 37) U w.heap.size Z 0 0 [] U ?_ (X9 _ _) (D ⟨g3,k,Z⟩) (c3-k) rl r xQ.out.symm ?_ RK.out X BB.out.size ?_);(·rfl);(·rfl);intro A6 c6 w6 o6 b6 k6;refine Ev.mk ?_);apply Eo;have b7:=Mv b6 (fun k hk=>(k6 k hk (fun b h=>XZ)).1);rw[Z8] at o6;have O6:=O o6;replace HV:=O<|ER HV.out fun _ _ h=>H.G h b7;replace HI:=O<|UV.keep HI.out fun _ _ h=>H.G h b7;replace BB:=O<|BB.out.trans b6;clear o6 b6 k6 b7 cs0 tN;have aG:=EQ KS BB.out;have cs0:w6.cell? ⟨gs,0,Z⟩=D (EI A0 m c0):=(H.cell aG.out 0).trans U;have tN:w6.frozen? ⟨gs,0,Z⟩=B:=H.JX aG.out 0;go_wp2_with fail;go_ret;refine⟨its,r,v,vals,A6,c6,w6,U,HP.out,?_,?_,BB.out,Dk,Mt O6.out aG.out _ _⟩;·exact ER HV.out fun _ _ h=>(J6 (g:=gs) 0 _).Ek h (E5 h aG.out Eb)
   ·exact EnD
 ·subst hA3 hc3;have hN0:N=0:=X;have hk0:k=0:=X;have hr0:rl=0:=X;subst hk0 hr0;have RN:Ea (Row w4 Z r):=O (by have e:r=[]:=aN Dk;rw[e];exact oF _ _);go_wp2_with ((with_reducible refine Is 38 ?_);(with_reducible refine mR _ (Ei U) (.const (EI Z 0 0)) (.tmp 37) U w.heap.size Z 0 0 [] U ?_ (X9 _ _) Z 0 0 r xQ.out.symm ?_ RN.out X BB.out.size ?_);(·rfl);(·rfl);intro A6 c6 w6 o6 b6 k6;refine Ev.mk ?_);apply Eo;have b7:=Mv b6 (fun k hk=>(k6 k hk (fun b h=>XZ)).1);rw[Z8] at o6;have O6:=O o6;replace HV:=O<|ER HV.out fun _ _ h=>H.G h b7;replace HI:=O<|UV.keep HI.out fun _ _ h=>H.G h b7;replace BB:=O<|BB.out.trans b6;clear o6 b6 k6 b7 cs0 tN;have aG:=EQ KS BB.out;have cs0:w6.cell? ⟨gs,0,Z⟩=D (EI A0 m c0):=(H.cell aG.out 0).trans U;have tN:w6.frozen? ⟨gs,0,Z⟩=B:=H.JX aG.out 0;go_wp2_with fail;go_ret;refine⟨its,r,v,vals,A6,c6,w6,U,HP.out,?_,?_,BB.out,Dk,Mt O6.out aG.out _ _⟩;·exact ER HV.out fun _ _ h=>(J6 (g:=gs) 0 _).Ek h (E5 h aG.out Eb)
  ·exact EnD
theorem EhZ(w:M):Ef EU 24 #[] w fun e w'=>e=Eg (Y (D ⟨w.heap.size,0,Z⟩))/\w'=w.alloc (EJ #[EI Z 0 0] 122):=by go_enter Tryz.func24,Tryz.ntmps24;exact Els
section
variable{P:Program}{w:World}
theorem Dl(base b2:Nat)(t ty e:EC)(i:TypeInfo)(z:V)(size bytes:Nat)(ht:P.underlying t=D (.slice e))(hi:P.info? e=D i)(hz:i.zero=D z)(hsize:i.size=size)(hby:i.bytes=bytes)(hzs:z.cells.size=size)(hsz:0<size) (v:V) (n:Nat) (xs:List V) (hown:w.ownsRow base e size v n xs) (Y3:V) (m:Nat) (ys:List V) (hu:w.ownsRow b2 e size Y3 m ys) (h1: ∀y∈ys,y.oneCell'=u) (h63:n+m<=maxLen) (hbytes:(n+m)*bytes<=140737488355328) (hbase:base<=w.heap.size): ∃A' c' w',(bP #[t,t] ty #[v,Y3]).run P w= .ok (EI A' (n+m) c') w'/\w'.ownsRow base e size (EI A' (n+m) c') (n+m) (xs++ys)/\w.grownBy w' v.ownBlock:=by
 have fin: ∀v' w',(bP #[t,t] ty #[v,Y3]).run P w= .ok v' w'->w'.ownsRow base e size v' (n+m) (xs++ys)->w.grownBy w' v.ownBlock-> ∃A' c' w',(bP #[t,t] ty #[v,Y3]).run P w= .ok (EI A' (n+m) c') w'/\w'.ownsRow base e size (EI A' (n+m) c') (n+m) (xs++ys)/\w.grownBy w' v.ownBlock:=fun v' w' a b c=>by
  rcases b.2 with⟨rfl,h0⟩|⟨g,cap,cur,rfl,_⟩;·refine⟨Z,0,w',by rw[a,h0],?_,c⟩;rw[h0] at b⊢;exact b
  ·exact⟨_,_,w',a,b,c⟩
 rcases hu.2 with⟨rfl,h0⟩|⟨g,cap,cur,rfl,-⟩;·have hy:ys=[]:=aN (by rw[hu.1,h0,Nat.zero_mul]);subst hy;subst h0;refine fin v w (run_append_owned_none w base t ty e i size ht hi v n xs hown) F7 ⟨U,U,U,E7 _,fun _ _ _=>rfl⟩
 ·obtain⟨v',w',h2,h3,h4,-⟩:=run_append_own_at (P:=P) (w:=w) base t ty e i z size bytes ht hi hz hsize hby hzs hsz v n xs hown ⟨g,0,Z⟩ m cap ys hu.1 (hu.cells (g:=g) U) h1 h63 hbytes hbase;exact fin v' w' h2 h3 h4
end
theorem rO{e:EC}{xs:List V}(hown:w.ownsRow base e size v n xs)(hg:w.grownBy w' v.ownBlock){c:Array V}(h:H w k c S)(hS:S≠e):H w' k c S:=by
 refine(hg.block k h.lt fun e2=> ?_).trans h;rcases hown.2 with⟨rfl,-⟩|⟨g,cap,cur,rfl,-,hb,-⟩;·simp[mQ] at e2
 ·have:k=g:=Mx;subst this;have hb2:w.heap[k]?=D (EJ c S (0,0)):=h;rw[hb] at hb2;injection hb2 with hb2;injection hb2 with _ h2 _;exact hS h2.symm
theorem My{e:EC}{xs:List V}(hown:w.ownsRow base e size v n xs)(hg:w.grownBy w' v.ownBlock)(hb:base<=w.heap.size):Io base w w':=by
 refine⟨hg.os,hg.tape,hg.output,hg.size,fun k hk=>hg.block k X fun e2=> ?_⟩;rcases hown.2 with⟨rfl,-⟩|⟨g,cap,cur,rfl,hl,-,-⟩;·simp[mQ] at e2
 ·have:k=g:=Mx;omega
theorem Y0{e:EC}{xs:List V}(hown:w.ownsRow base e size v n xs)(hg:w.grownBy w' v.ownBlock)(h:w.heap[k]?=D o)(ho:o.isCells=B):w'.heap[k]?=D o:=by
 refine(hg.block k (Jt.1 h).1 fun e2=> ?_).trans h;rcases hown.2 with⟨rfl,-⟩|⟨g,cap,cur,rfl,-,hb,-⟩;·simp[mQ] at e2
 ·have:k=g:=Mx;subst this;rw[hb] at h;injection h with h;subst h;cases ho
def xR:List EC:=[43,264,58]
structure dS(hi:Nat)(w w':M):Prop where
 bel:Io hi w w'
 Ek: ∀k c S,xR.contains S=B->H w k c S->H w' k c S
theorem dS.trans{a b c:M}(h:dS hi a b)(k:dS hi b c):dS hi a c:=⟨h.bel.trans k.bel,fun i d S hS hb=>k.Ek i d S hS (h.Ek i d S hS hb)⟩
theorem dS.Ew(h:El w w')(hh:hi<=w.heap.size):dS hi w w':=⟨h.mono hh,fun _ _ _ _ hb=>hb.G h⟩
structure JN(lo hi:Nat)(w w':M):Prop where
 bel:Io lo w w'
 Ek: ∀k c S,k<hi->ki.contains S=B->S≠122->H w k c S->H w' k c S
 strm: ∀g A n c,g<hi->H w g #[EI A n c] 122-> ∃A' n' c',H w' g #[EI A' n' c'] 122/\ ∀k,k<hi->pI A k->pI A' k
theorem JN.refl(lo hi:Nat)(w:M):JN lo hi w w:=⟨IE _ _,fun _ _ _ _ _ _ h=>h,fun _ _ _ _ _ h=>⟨_,_,_,h,fun _ _ h=>h⟩⟩
theorem JN.trans{a b c:M}(h:JN lo hi a b)(k:JN lo hi b c):JN lo hi a c:=
 ⟨h.bel.trans k.bel,fun i d S hi hm hs hb=>k.Ek i d S hi hm hs (h.Ek i d S hi hm hs hb),fun i A n c hi hb=>by obtain⟨A1,n1,c1,b1,f1⟩:=h.strm i A n c hi hb;obtain⟨A2,n2,c2,b2,f2⟩:=k.strm i A1 n1 c1 hi b1;exact⟨A2,n2,c2,b2,fun j hj ha=>f2 j hj (f1 j hj ha)⟩⟩
theorem JN.Ew(h:El w w')(hl:lo<=w.heap.size):JN lo hi w w':=⟨h.mono hl,fun _ _ _ _ _ _ hb=>hb.G h,fun _ _ _ _ _ hb=>⟨_,_,_,hb.G h,fun _ _ h=>h⟩⟩
theorem JN.tP(h:dS hi w w')(hl:lo<=hi):JN lo hi w w':=
 ⟨h.bel.mono hl,fun k _ _ hk _ _ hb=>(h.bel.block k hk).trans hb,fun k _ _ _ hk hb=>⟨_,_,_,(h.bel.block k hk).trans hb,fun _ _ h=>h⟩⟩
theorem Ex.low'(h:Ex lo hi w w')(hl:lo<=hi)(hh:hi<=w.heap.size):Io lo w w':=
 (h.EbL hh).G hl
theorem JN.xS{h2:Nat}(h:Ex lo h2 w w')(hl:lo<=hi)(hh:hi<=h2)(hs:h2<=w.heap.size):JN lo hi w w':=
 ⟨h.low' X hs,fun k _ _ hk hm _ hb=>h.old hb hm X,fun k _ _ _ hk hb=>⟨_,_,_,h.old hb Eb X,fun _ _ h=>h⟩⟩
theorem Ex.obj(h:Ex lo hi w w')(hk:k<hi)(ho:w.heap[k]?=D o)(hc:o.isCells=B):w'.heap[k]?=D o:=by refine(h.low k hk (Jt.1 ho).1 fun c T p hp=> ?_).trans ho;rw[ho] at hp;injection hp with hp;subst hp;cases hc
def dO(lo:Nat)(gs:Nat)(r:List Int)(W:M):Prop:= ∃(A:Option Eu) (c:Nat),H W gs #[EI A r.length c] 122/\Own W lo A c r
def mcV(gc s1 s2 s3:Nat):Array V:= #[Y (D ⟨gc,0,Z⟩),E I 0,Y (D ⟨s1,0,Z⟩),Y (D ⟨s2,0,Z⟩),Y (D ⟨s3,0,Z⟩)]
structure XU where
 (gc gq gt gm s1 s2 s3:Nat)
structure Jh(lo:Nat)(g:Nat->V)(a:XU)(c:EB)(rs:Int->List Int)(W:M):Prop where
 core:JO lo g a.gc a.gq a.gt c W
 Ek:H W a.gm (mcV a.gc a.s1 a.s2 a.s3) 84
 lm:lo<=a.gm
 l1:lo<=a.s1
 l2:lo<=a.s2
 l3:lo<=a.s3
 n12:a.s1≠a.s2
 n13:a.s1≠a.s3
 n23:a.s2≠a.s3
 st1:dO lo a.s1 (rs 1) W
 st2:dO lo a.s2 (rs 2) W
 rU:dO lo a.s3 (rs 3) W
 rX: ∀i,U8 (rs i)/\(rs i).length<=40
theorem dO.via{r:List Int}(h:dO lo gs r W)(h1: ∀k c,H W k c 122->H W' k c 122)(h2: ∀k c,H W k c 5->H W' k c 5):dO lo gs r W':=by obtain⟨A,c,k,o⟩:=h;exact⟨A,c,h1 _ _ k,dJ o h2⟩
theorem Jh.via{a:XU}(h:Jh lo g a c rs W)(hb: ∀k cs S,S≠43->S≠264->S≠58->H W k cs S->H W' k cs S)(hl:Io lo W W'):Jh lo g a c rs W':=
 ⟨h.core.via (fun k cs S hS hk=>hb k cs S xT xT xT hk) hl,hb _ _ _ Eb Eb Eb h.Ek,h.lm,h.l1,h.l2,h.l3,h.n12,h.n13,h.n23,
  h.st1.via (fun _ _=>hb _ _ _ Eb Eb Eb) (fun _ _=>hb _ _ _ Eb Eb Eb),h.st2.via (fun _ _=>hb _ _ _ Eb Eb Eb) (fun _ _=>hb _ _ _ Eb Eb Eb),
  h.rU.via (fun _ _=>hb _ _ _ Eb Eb Eb) (fun _ _=>hb _ _ _ Eb Eb Eb),h.rX⟩
theorem Ehb(h1:S≠43)(h2:S≠264)(h3:S≠58):xR.contains S=B:=by
 simp only[xR,List.contains_eq_mem,Ui,UP,or_false,decide_eq_false_iff_not];rintro(h|h|h);·exact h1 h
 ·exact h2 h
 ·exact h3 h
theorem Jh.y{a:XU}(h:Jh lo g a c rs W)(hy:dS hi W W')(hl:lo<=hi):Jh lo g a c rs W':=
 h.via (fun k cs S h1 h2 h3=>hy.Ek k cs S (Ehb h1 h2 h3)) (hy.bel.mono hl)
theorem Jh.G{a:XU}(h:Jh lo g a c rs W)(hb:El W W'):Jh lo g a c rs W':=
 h.via (fun _ _ _ _ _ _ hk=>hk.G hb) (hb.mono (EA h.lm (ax h.Ek.lt)))
theorem Jh.mut{a:XU}(h:Jh lo g a c rs W)(m:Ex lo hi W W')(C:JO lo g a.gc a.gq a.gt c' W'):Jh lo g a c' rs W':=
 ⟨C,m.Ek h.Ek Eb Eb,h.lm,h.l1,h.l2,h.l3,h.n12,h.n13,h.n23,h.st1.via (fun _ _ hk=>m.Ek hk Eb Eb) (fun _ _ hk=>m.Ek hk Eb Eb),
  h.st2.via (fun _ _ hk=>m.Ek hk Eb Eb) (fun _ _ hk=>m.Ek hk Eb Eb),h.rU.via (fun _ _ hk=>m.Ek hk Eb Eb) (fun _ _ hk=>m.Ek hk Eb Eb),h.rX⟩
def XU.s(a:XU)(k:Int):Nat:=if k=1 then a.s1 else if k=2 then a.s2 else a.s3
theorem Jh.str{a:XU}(h:Jh lo g a c rs W){k:Int}(hk:1<=k/\k<=3):dO lo (a.s k) (rs k) W/\lo<=a.s k/\W.cell? ⟨a.gm,2+(k-1).toNat,Z⟩=D (Y (D ⟨a.s k,0,Z⟩)):=by
 have hc:k=1\/k=2\/k=3:=X;have hb:=H.cell h.Ek;rcases hc with rfl|rfl|rfl;·exact⟨h.st1,h.l1,(hb 2).trans U⟩
 ·exact⟨h.st2,h.l2,(hb 3).trans U⟩
 ·exact⟨h.rU,h.l3,(hb 4).trans U⟩
theorem Ehc{xs:List Int}(h:(nx xs).kd=0)(hb:U8 xs):xs.length<=40:=by
 match xs,h,hb with
 |[],_,_=>simp
 |[_],_,_=>simp
 |[_,_],_,_=>simp
 |a::v::n::r,h,hb=>
  have hn:=hb n Eh;rw[jW] at h;by_cases h1:a≠165;·rw[if_pos h1] at h;cases h
  ·rw[if_neg h1] at h;rw[qV] at h;by_cases h2:v≠1;·rw[if_pos h2] at h;cases h
   ·rw[if_neg h2] at h;rw[show DU (n::r)=fy 1 n r from rfl] at h;unfold fy at h;by_cases h3:32<n;·rw[if_pos h3] at h;cases h
    ·rw[if_neg h3] at h;by_cases h4:(r.length:Int)<n+2;·simp only[ZV];omega
     ·rw[if_neg h4] at h;split at h<;>cases h
theorem Xo.Ehd{xs i r}(h:Xo xs i r):U8 xs->r.length<=40:=by
 induction h with
 |wait h=>exact fun hb=>Ehc h hb
 |step h t ih=>exact fun hb=>ih (hb.dr _)
theorem Jh.take{a:XU}{w2:M}(h:Jh lo g a c rs W){k:Int}(hk:1<=k/\k<=3)(hb:El W w2){r:List Int}(e:W'=w2.setCell ⟨a.s k,0,Z⟩ (EI A r.length d))(ho:Own W' lo A d r)(hr:U8 r/\r.length<=40):Jh lo g a c (fun s=>if s=k then r else rs s) W'/\EH (a.s k) W W':=by
 obtain⟨⟨A0,c0,kb,o0⟩,hl,-⟩:=h.str hk;have Y9:=h.G hb;have nj:=kb.G hb;have on:EH (a.s k) w2 W':=by rw[e];exact J6 0 _
 have keep: ∀i cs S,S≠122->H w2 i cs S->H W' i cs S:=fun i cs S hS hi=>on.Ek hi (E5 hi nj hS);have ks:H W' (a.s k) #[EI A r.length d] 122:=by rw[e];exact nj.set 0 _
 have new:dO lo (a.s k) r W':=⟨A,d,ks,ho⟩;have old: ∀gs x,dO lo gs x w2->gs≠a.s k->dO lo gs x W':=fun gs x ⟨A1,c1,k1,o1⟩ hne=>⟨A1,c1,on.Ek k1 hne,dJ o1 fun _ _=>keep _ _ _ Eb⟩;have hlo:Io lo w2 W':=on.bel lo hl (EA Y9.lm (ax Y9.Ek.lt))
 have Ehf: ∀i,U8 ((fun s=>if s=k then r else rs s) i)/\((fun s=>if s=k then r else rs s) i).length<=40:=fun i=>by
  dsimp only;split;·exact hr
  ·exact h.rX i
 refine⟨⟨Y9.core.via (fun i cs S hS=>keep i cs S xT) hlo,keep _ _ _ Eb Y9.Ek,h.lm,h.l1,h.l2,h.l3,h.n12,h.n13,h.n23,?_,?_,?_,Ehf⟩,(EH.Ew hb).trans on⟩
 all_goals
  have hc:k=1\/k=2\/k=3:=X
  rcases hc with rfl|rfl|rfl
 ·exact new
 ·exact old _ _ Y9.st1 h.n12
 ·exact old _ _ Y9.st1 h.n13
 ·exact old _ _ Y9.st2 h.n12.symm
 ·exact new
 ·exact old _ _ Y9.st2 h.n23
 ·exact old _ _ Y9.rU h.n13.symm
 ·exact old _ _ Y9.rU h.n23.symm
 ·exact new
theorem gN:IW EU 48 10:=⟨⟨_,Tryz.underlying48,U⟩,Ed⟩
theorem JZ.one(e:JZ)(A:Option Eu)(d:Nat):(e.cells A d).toArray.all (·.oneCell')=u:=by simp[JZ.cells,JZ.Y5,OC]
structure X3(ge gb:Nat)(e:JZ)(A:Option Eu)(d gm:Nat)(W:M):Prop where
 ev:H W ge (e.cells A d).toArray 48
 mb:H W gb #[Y (D ⟨gm,0,Z⟩)] 32
theorem X3.via{e:JZ}(h:X3 ge gb e A d gm W)(h1: ∀k c,H W k c 48->H W' k c 48)(h2: ∀k c,H W k c 32->H W' k c 32):X3 ge gb e A d gm W':=⟨h1 _ _ h.ev,h2 _ _ h.mb⟩
theorem X3.mut{e:JZ}(h:X3 ge gb e A d gm W)(m:Ex lo hi W W'):X3 ge gb e A d gm W':=h.via (fun _ _ hk=>m.Ek hk Eb Eb) (fun _ _ hk=>m.Ek hk Eb Eb)
theorem X3.y{e:JZ}(h:X3 ge gb e A d gm W)(m:dS hi W W'):X3 ge gb e A d gm W':=h.via (fun _ _ hk=>m.Ek _ _ _ Eb hk) (fun _ _ hk=>m.Ek _ _ _ Eb hk)
theorem X3.G{e:JZ}(h:X3 ge gb e A d gm W)(m:El W W'):X3 ge gb e A d gm W':=h.via (fun _ _ hk=>hk.G m) (fun _ _ hk=>hk.G m)
structure oO(lo hi l:Nat)(RA:EB->Nat->List Rec->M->Prop):Prop where
 lh:lo<=hi
 gG: ∀c m new W,RA c m new W->hi<=W.heap.size
 G: ∀c m new W W',RA c m new W->El W W'->RA c m new W'
 mu: ∀c m new W W',RA c m new W->Ex lo W.heap.size W W'->RA c m new W'
 only: ∀c m new W W' gs cs,RA c m new W->H W gs cs 122->EH gs W W'->RA c m new W'
 Dm: ∀(c c':EB) (m:Nat) (new:List Rec) (W:M) (sv rv:V) (ns:Nat) (nw:List Rec) (sc:sK) (hd:List Int) (b:Nat),RA c m new W->hd.length=32->(∀x∈hd,0<=x/\x<=255)->W.ownsRow b 264 2 sv ns sc.l->W.ownsRow b 58 6 rv nw.length (Uh nw)->m<=100000->new.length<=100000->ns<=15->nw.length<=13->
  YieldAt X1 8 EU l #[EZ (Jb (J8 c') sv rv hd).toArray] W fun en W'=>en=Eg (Ec u)/\RA c' (m+ns) (new++nw) W'/\dS hi W W'
theorem Dn{ops:Array EN}{rest:List EN}{o:EN}{a:E6}(hw:I_ o (Jd ops a.tmps)=u)(hY:YieldAt X1 8 EU l #[v] W R)(he: ∀nx,(Instr.yield l #[v]).run EU W= .ok nx W->(Iw a.eval o).run EU W= .ok nx W)(hd: ∀c,o.op≠ .defer c) (hk: ∀e W',R e W'-> ∃Y3,e=Eg Y3/\aD X1 9 EU ops Q rest (a.put o.dst Y3) W'):aD X1 9 EU ops Q (o::rest) a W:=by obtain⟨fn,tmps,assign,body,hy,hR⟩:=hY;unfold aD;rw[if_pos hw];refine⟨fun _ _=>trivial,?_⟩;rw[show o.semAt Fence.wide.round a.eval=Iw a.eval o from rfl,he _ hy];refine⟨fun _=>X,hR.mono ?_⟩;intro e W' h;obtain⟨Y3,rfl,h2⟩:=hk e W' h;exact h2
theorem qN.len{b:Bool}{new:List Rec}(h:qN b c c' new):new.length<=1:=by rcases h with⟨_,_,rfl⟩|⟨_,_,_,_,_,_,_,_,⟨rfl,_⟩|rfl⟩<;>simp
theorem qM.len{new:List Rec}(h:qM c c' new):new.length<=1:=by obtain⟨_,_,_,⟨_,rfl⟩|⟨_,_,_,rfl⟩|⟨_,_,_,_,_,_,_,rfl⟩|⟨rfl,_⟩⟩:=h<;>simp
def oU(lo hi:Nat)(g:Nat->V)(a:XU)(e:JZ)(c:EB)(rs:Int->List Int)(RA:EB->Nat->List Rec->M->Prop)(W:M)(en:Ut)(W':M):Prop:=
 (∃v,en=Eg v)/\ ∃(c':EB) (rs':Int->List Int) (m:Nat) (new:List Rec),Jh lo g a c' rs' W'/\RA c' m new W'/\DZ g e c rs c' rs' m new/\new.length<=5000/\JN lo hi W W'
theorem Ehg(lo hi l ge gb:Nat)(g:Nat->V)(a:XU)(c:EB)(rs:Int->List Int)(e:JZ)(A:Option Eu)(d:Nat)(RA:EB->Nat->List Rec->M->Prop)(w:M)(Y7:oO lo hi l RA)(Y8:Jh lo g a c rs w)(K:X3 ge gb e A d a.gm w)(R0:RA c 0 [] w)(hk:e.kind=3): Ef EU 47 #[.func (.yield l) #[] #[],Y (D ⟨ge,0,Z⟩),Y (D ⟨gb,0,Z⟩)] w (oU lo hi g a e c rs RA w):=by
 have ck:w.cell? ⟨ge,0,Z⟩=D (E I e.kind):=(H.cell K.ev 0).trans U;have cm:w.cell? ⟨gb,0,Z⟩=D (Y (D ⟨a.gm,0,Z⟩)):=(H.cell K.mb 0).trans U;have cc:w.cell? ⟨a.gm,0,Z⟩=D (Y (D ⟨a.gc,0,Z⟩)):=(H.cell Y8.Ek 0).trans U;have t0:(e.kind==0)=B:=i6;have t1:(e.kind==1)=B:=i6;have t2:(e.kind==2)=B:=i6;have t3:(e.kind==3)=u:=i6;have YY:=O Y7;have MM:=O Y8;have KK:=O K;have RR:=O R0;have HK:=O hk;clear Y7 Y8 K R0;clear hk;go_enter Tryz.func47,Tryz.ntmps47;generalize hc:ZP 13 _ _=c13;go_wp2_with fail;subst hc;refine(wpIn_wide (n:=9)).1 (wpIn_region_lit ?_);refine xq 6 (.inl U) xV Ed ?_;simp only[Ir,Im,IL,IG];go_wp2_with fail;refine(Egj lo g a.gc a.gq a.gt c _ MM.out.core).mono ?_;rintro e2 w2 ⟨c',ns,new,sv,rv,sc,hd,rfl,J2,Oy,os,J3,C2,⟨hns,hnl,hR⟩,mm⟩;go_wp2_with fail;have RW:=YY.out.mu c 0 [] w w2 RR.out mm;refine Dn (Ei U) (YY.out.Dm c c' 0 [] w2 sv rv ns new sc hd w.heap.size RW J2 Oy os J3 X Eh X X) (fun nx hy=> ?_) (fun _ h=>XZ) ?_;·simp[go_sem,hy]
 rintro e3 w3 ⟨rfl,r3,y3⟩;refine⟨_,U,wpListIn_nil ?_⟩;go_wp2_with fail;go_end0;rw[Z8,JV] at r3;refine⟨⟨_,U⟩,c',rs,ns,new,(MM.out.mut mm C2).y y3 YY.out.lh,r3,?_,X,(JN.xS mm YY.out.lh (YY.out.gG _ _ _ _ RR.out) (E7 _)).trans (JN.tP y3 YY.out.lh)⟩;exact .inr (.inr (.inr (.inl ⟨HK.out,U,hR⟩)))
theorem Ehh(lo hi l ge gb:Nat)(g:Nat->V)(a:XU)(c:EB)(rs:Int->List Int)(e:JZ)(A:Option Eu)(d:Nat)(RA:EB->Nat->List Rec->M->Prop)(w:M)(Y7:oO lo hi l RA)(Y8:Jh lo g a c rs w)(K:X3 ge gb e A d a.gm w)(R0:RA c 0 [] w)(hk:e.kind=2): Ef EU 47 #[.func (.yield l) #[] #[],Y (D ⟨ge,0,Z⟩),Y (D ⟨gb,0,Z⟩)] w (oU lo hi g a e c rs RA w):=by
 have ck:w.cell? ⟨ge,0,Z⟩=D (E I e.kind):=(H.cell K.ev 0).trans U;have cm:w.cell? ⟨gb,0,Z⟩=D (Y (D ⟨a.gm,0,Z⟩)):=(H.cell K.mb 0).trans U;have cc:w.cell? ⟨a.gm,0,Z⟩=D (Y (D ⟨a.gc,0,Z⟩)):=(H.cell Y8.Ek 0).trans U;have t0:(e.kind==0)=B:=i6;have t1:(e.kind==1)=B:=i6;have t2:(e.kind==2)=u:=i6;have YY:=O Y7;have MM:=O Y8;have KK:=O K;have RR:=O R0;have HK:=O hk;clear Y7 Y8 K R0;clear hk;go_enter Tryz.func47,Tryz.ntmps47;go_wp2_with fail;have ym: ∀y:Ext w,(Ey w y).cell? ⟨gb,0,Z⟩=D (Y (D ⟨a.gm,0,Z⟩)):=fun y=>(H.cell (KK.out.G (ED y)).mb 0).trans U;have yc: ∀y:Ext w,(Ey w y).cell? ⟨a.gm,0,Z⟩=D (Y (D ⟨a.gc,0,Z⟩)):=fun y=>(H.cell (MM.out.G (ED y)).Ek 0).trans U;have yb: ∀y:Ext w,(Ey w y).cell? ⟨ge,4+5,Z⟩=D (Ec e.bad):=fun y=>(H.cell (KK.out.G (ED y)).ev 9).trans U;have yb2: ∀y:Ext w,(Ey w y).cell? ⟨ge,9,Z⟩=D (Ec e.bad):=fun y=>(H.cell (KK.out.G (ED y)).ev 9).trans U;refine Ml 7 Ed Ed U U U (fun _ _ _ h=>h) ?_;simp only[Ir,Im,IL,IG];repeat (go_big_quiet_step (fail))
 refine IM ?_;intro _ hw';obtain⟨y9,rfl⟩:=hw';have Em:=ED y9;clear yb yb2;have MB:=O<|JN.Ew (lo:=lo) (hi:=hi) Em (EA MM.out.lm (ax MM.out.Ek.lt));replace MM:=O<|MM.out.G Em;replace RR:=O<|YY.out.G _ _ _ _ _ RR.out Em;clear KK Em ym yc;generalize Ey w y9=w1 at*;refine xq 1 (.inl U) xV Ed ?_;simp only[Ir,Im,IL,IG];go_wp2_with fail;refine(Egk lo g a.gc a.gq a.gt c e.bad _ MM.out.core).mono ?_;rintro e2 w2 ⟨c',ns,new,sv,rv,sc,hd,rfl,J2,Oy,os,J3,C2,⟨hns,hR⟩,mm⟩;go_wp2_with fail;have RW:=YY.out.mu c 0 [] w1 w2 RR.out mm;refine Dn (Ei U) (YY.out.Dm c c' 0 [] w2 sv rv ns new sc hd w1.heap.size RW J2 Oy os J3 X Eh X (by have:=qN.len hR;omega)) (fun nx hy=> ?_) (fun _ h=>XZ) ?_;·simp[go_sem,hy]
 rintro e3 w3 ⟨rfl,r3,y3⟩;refine⟨_,U,wpListIn_nil ?_⟩;go_wp2_with fail;go_end0;rw[Z8,JV] at r3;refine⟨⟨_,U⟩,c',rs,ns,new,(MM.out.mut mm C2).y y3 YY.out.lh,r3,?_,by have:=(qN.len hR);omega,MB.out.trans ((JN.xS mm YY.out.lh (YY.out.gG _ _ _ _ RR.out) (E7 _)).trans (JN.tP y3 YY.out.lh))⟩;exact .inr (.inr (.inl ⟨HK.out,U,hR⟩))
theorem Ehj(lo hi l ge gb:Nat)(g:Nat->V)(a:XU)(c:EB)(rs:Int->List Int)(e:JZ)(A:Option Eu)(d:Nat)(RA:EB->Nat->List Rec->M->Prop)(w:M)(Y7:oO lo hi l RA)(Y8:Jh lo g a c rs w)(K:X3 ge gb e A d a.gm w)(R0:RA c 0 [] w)(hk:e.kind=1)(hx:e.ok): Ef EU 47 #[.func (.yield l) #[] #[],Y (D ⟨ge,0,Z⟩),Y (D ⟨gb,0,Z⟩)] w (oU lo hi g a e c rs RA w):=by
 have ck:w.cell? ⟨ge,0,Z⟩=D (E I e.kind):=(H.cell K.ev 0).trans U;have cm:w.cell? ⟨gb,0,Z⟩=D (Y (D ⟨a.gm,0,Z⟩)):=(H.cell K.mb 0).trans U;have cc:w.cell? ⟨a.gm,0,Z⟩=D (Y (D ⟨a.gc,0,Z⟩)):=(H.cell Y8.Ek 0).trans U;have t0:(e.kind==0)=B:=i6;have t1:(e.kind==1)=u:=i6;have YY:=O Y7;have MM:=O Y8;have KK:=O K;have RR:=O R0;have HK:=O hk;clear Y7 Y8 K R0;have HX:=O hx;clear hk hx;go_enter Tryz.func47,Tryz.ntmps47;go_wp2_with fail;have ym: ∀y:Ext w,(Ey w y).cell? ⟨gb,0,Z⟩=D (Y (D ⟨a.gm,0,Z⟩)):=fun y=>(H.cell (KK.out.G (ED y)).mb 0).trans U;have yc: ∀y:Ext w,(Ey w y).cell? ⟨a.gm,0,Z⟩=D (Y (D ⟨a.gc,0,Z⟩)):=fun y=>(H.cell (MM.out.G (ED y)).Ek 0).trans U;have KG:Ea (Ji w ge (e.Y5 A d) 48):=O KK.out.ev;have HF:Ea (aT (e.Y5 A d) 3=3):=O U;refine Ml 7 Ed Ed U U U (fun _ _ _ h=>h) ?_;simp only[Ir,Im,IL,IG]
 repeat (first
  |go_big_quiet_skip
  |(go_big_quiet_want
    first
     |(refine Zj (T:=46) (g:=ge) (off:=3) Cw _ rfl rfl KG 3 rfl HF.out rfl ?_;go_simp;go_big_quiet_on)
     |(go_big_quiet_op
       go_big_quiet_on)))
 refine IM ?_;intro _ hw';obtain⟨y9,rfl⟩:=hw';have Em:=ED y9;clear KG HF;have MB:=O<|JN.Ew (lo:=lo) (hi:=hi) Em (EA MM.out.lm (ax MM.out.Ek.lt));replace MM:=O<|MM.out.G Em;replace RR:=O<|YY.out.G _ _ _ _ _ RR.out Em;clear KK Em ym yc;generalize Ey w y9=w1 at*;refine xq 1 (.inl U) xV Ed ?_;simp only[Ir,Im,IL,IG];go_wp2_with fail;refine(Egl lo g a.gc a.gq a.gt c e.valid e.give e.x0 e.x1 e.x2 e.x3 _ MM.out.core ⟨HX.out.x0,HX.out.x1,HX.out.x2,HX.out.x3⟩).mono ?_;rintro e2 w2 ⟨c',ns,new,sv,rv,sc,hd,rfl,J2,Oy,os,J3,C2,⟨hns,hR⟩,mm⟩;go_wp2_with fail;have RW:=YY.out.mu c 0 [] w1 w2 RR.out mm;refine Dn (Ei U) (YY.out.Dm c c' 0 [] w2 sv rv ns new sc hd w1.heap.size RW J2 Oy os J3 X Eh X (by have:=qM.len hR;omega)) (fun nx hy=> ?_) (fun _ h=>XZ) ?_;·simp[go_sem,hy]
 rintro e3 w3 ⟨rfl,r3,y3⟩;refine⟨_,U,wpListIn_nil ?_⟩;go_wp2_with fail;go_end0;rw[Z8,JV] at r3;refine⟨⟨_,U⟩,c',rs,ns,new,(MM.out.mut mm C2).y y3 YY.out.lh,r3,?_,by have:=(qM.len hR);omega,MB.out.trans ((JN.xS mm YY.out.lh (YY.out.gG _ _ _ _ RR.out) (E7 _)).trans (JN.tP y3 YY.out.lh))⟩;exact .inr (.inl ⟨HK.out,U,hR⟩)
theorem Ehk(lo hi l ge gb:Nat)(g:Nat->V)(a:XU)(c:EB)(rs:Int->List Int)(e:JZ)(A:Option Eu)(d:Nat)(RA:EB->Nat->List Rec->M->Prop)(w:M)(Y7:oO lo hi l RA)(Y8:Jh lo g a c rs w)(K:X3 ge gb e A d a.gm w)(R0:RA c 0 [] w)(hk:e.kind≠0/\e.kind≠1/\e.kind≠2/\e.kind≠3): Ef EU 47 #[.func (.yield l) #[] #[],Y (D ⟨ge,0,Z⟩),Y (D ⟨gb,0,Z⟩)] w (oU lo hi g a e c rs RA w):=by
 have ck:w.cell? ⟨ge,0,Z⟩=D (E I e.kind):=(H.cell K.ev 0).trans U;have cm:w.cell? ⟨gb,0,Z⟩=D (Y (D ⟨a.gm,0,Z⟩)):=(H.cell K.mb 0).trans U;have cc:w.cell? ⟨a.gm,0,Z⟩=D (Y (D ⟨a.gc,0,Z⟩)):=(H.cell Y8.Ek 0).trans U;have t0:(e.kind==0)=B:=by simpa using hk.1
 have t1:(e.kind==1)=B:=by simpa using hk.2.1
 have t2:(e.kind==2)=B:=by simpa using hk.2.2.1
 have t3:(e.kind==3)=B:=by simpa using hk.2.2.2
 clear cm cc;go_enter Tryz.func47,Tryz.ntmps47;go_wp2_with fail;go_end0;exact⟨⟨_,U⟩,c,rs,0,[],Y8,R0,.inr (.inr (.inr (.inr ⟨⟨hk.2.1,hk.2.2.1,hk.2.2.2,fun h=>absurd h hk.1⟩,U,U,U,U⟩))),Eh,.refl _ _ _⟩
theorem Ehl(lo hi l ge gb:Nat)(g:Nat->V)(a:XU)(c:EB)(rs:Int->List Int)(e:JZ)(A:Option Eu)(d:Nat)(RA:EB->Nat->List Rec->M->Prop)(w:M)(Y7:oO lo hi l RA)(Y8:Jh lo g a c rs w)(K:X3 ge gb e A d a.gm w)(R0:RA c 0 [] w)(hk:e.kind=0)(hs: ¬(1<=e.src/\e.src<=3)): Ef EU 47 #[.func (.yield l) #[] #[],Y (D ⟨ge,0,Z⟩),Y (D ⟨gb,0,Z⟩)] w (oU lo hi g a e c rs RA w):=by
 have ck:w.cell? ⟨ge,0,Z⟩=D (E I e.kind):=(H.cell K.ev 0).trans U;have cm:w.cell? ⟨gb,0,Z⟩=D (Y (D ⟨a.gm,0,Z⟩)):=(H.cell K.mb 0).trans U;have cc:w.cell? ⟨a.gm,0,Z⟩=D (Y (D ⟨a.gc,0,Z⟩)):=(H.cell Y8.Ek 0).trans U;have cs:w.cell? ⟨ge,1,Z⟩=D (E I e.src):=(H.cell K.ev 1).trans U;have t0:(e.kind==0)=u:=i6;clear cm cc;have fin:oU lo hi g a e c rs RA w (Eg (Et #[])) w:=⟨⟨_,U⟩,c,rs,0,[],Y8,R0,.inr (.inr (.inr (.inr ⟨⟨X,X,X,fun _=>hs⟩,U,U,U,U⟩))),Eh,.refl _ _ _⟩;by_cases h1:e.src<1;·have t1:decide (e.src<1)=u:=Ib h1;exact En_
 ·have t1:decide (e.src<1)=B:=IJ h1;have t2:decide (3<e.src)=u:=Ib X;exact En_
theorem Y1(gm:Nat)(k:Int)(j:Nat)(hk:k=(j:Int)+1)(hj:j<3)(W:M):(Instr.indexAt 82 (Y (D ⟨gm,2,Z⟩)) (E I (k-1))).run EU W= .ok (Y (D ⟨gm,2+j,Z⟩)) W:=by have h:j=0\/j=1\/j=2:=X;subst hk;rcases h with rfl|rfl|rfl<;>rfl
theorem JN.Ehm{r:List Int}{c:Nat}(ho:EH gs w w')(K:H w gs cs 122)(K':H w' gs #[EI A r.length c] 122)(hr:Own w' b A c r)(hh:hi<=b)(hl:lo<=gs)(hw:lo<=w.heap.size):JN lo hi w w':=
 ⟨ho.bel lo hl hw,fun _ _ _ _ _ hS hb=>ho.Ek hb (E5 hb K hS),fun g _ _ _ _ hb=>by
  by_cases e:g=gs;·subst e;exact⟨_,_,_,K',fun k hk _ a ha=>by have:=EJR hr a ha;omega⟩
  ·exact⟨_,_,_,ho.Ek hb e,fun _ _ h=>h⟩⟩
theorem oX{xs:List V}(h:W.ownsRow b T size v n xs): ∃(A:Option Eu) (c:Nat),v=EI A n c:=by
 rcases h.2 with⟨rfl,rfl⟩|⟨g,cap,cur,rfl,_⟩;·exact⟨Z,0,U⟩
 ·exact⟨_,_,U⟩
theorem Ehn{c i:Nat}{vals:List V}(h:W.ownsRow base 74 2 (EI A n c) n vals)(hi:i<n): ∃ga,A=D ⟨ga,0,Z⟩/\n<=c/\c<=9223372036854775807/\ ∀j Y3,vals[i*2+j]?=D Y3->W.cell? ⟨ga,i*2+j,Z⟩=D Y3:=by
 have h0:=h;rcases h.2 with⟨hv,h1⟩|⟨g,cap',cur,hv,hg,hh,hl,hm,hs,ht⟩;·omega
 ·injection hv with h1 h2 h3;subst h1;subst h3;refine⟨g,U,hl,by unfold maxLen at hm;exact hm,fun j Y3 hu=> ?_⟩;have:=h0.cells (g:=g) U _ Y3 hu;rwa [show(⟨g,0,Z⟩:Eu).add (i*2+j)=⟨g,i*2+j,Z⟩ from XB] at this
theorem Eho:Od EU 74 #[E I 0,EI Z 0 0]:=by exact El7
theorem Ehp(lo hi l ge gb:Nat)(g:Nat->V)(a:XU)(c:EB)(rs:Int->List Int)(e:JZ)(A:Option Eu)(d:Nat)(RA:EB->Nat->List Rec->M->Prop)(w:M)(Y7:oO lo hi l RA)(Y8:Jh lo g a c rs w)(K:X3 ge gb e A d a.gm w)(R0:RA c 0 [] w)(hk:e.kind=0)(hs:1<=e.src/\e.src<=3)(hb:e.b.length<=1000)(hr:Row w A e.b): Ef EU 47 #[.func (.yield l) #[] #[],Y (D ⟨ge,0,Z⟩),Y (D ⟨gb,0,Z⟩)] w (oU lo hi g a e c rs RA w):=by
 have ck:w.cell? ⟨ge,0,Z⟩=D (E I e.kind):=(H.cell K.ev 0).trans U;have cs:w.cell? ⟨ge,1,Z⟩=D (E I e.src):=(H.cell K.ev 1).trans U;have t0:(e.kind==0)=u:=i6;have t1:decide (e.src<1)=B:=IJ X;have t2:decide (3<e.src)=B:=IJ X;have hbb:U8 e.b:=hr.2;have hbr:=Y8.rX e.src;obtain⟨its,r,hp⟩:=Xo.ex _ (rs e.src++e.b) (E7 _) (hbr.1.app hbb);have hok:=hp.ok (hbr.1.app hbb);have hlen:=hp.len (hbr.1.app hbb);rw[I2] at hlen;have HN:=O (show its.length<=1040 by have:=hbr.2;omega);have qO:=O hok.1;have HR2:=O<|Jm hok.2 (hp.Ehd (hbr.1.app hbb));have HP:=O hp;have HS:=O hs;have HB:=O hb;have RW:=O hr;have SB:=O<|fun W=>sub_one e.src hs.1 hs.2 W;obtain⟨j,hj,XC⟩: ∃j:Nat,e.src=(j:Int)+1/\j<3:=⟨(e.src-1).toNat,X,X⟩;have IX:=O<|fun W=>Y1 a.gm e.src j hj XC W;have SC:=O (fun W (h:Jh lo g a c rs W)=>show W.cell? ⟨a.gm,2+j,Z⟩=D (Y (D ⟨a.s e.src,0,Z⟩)) by have:=(h.str hs).2.2;rwa [show(e.src-1).toNat=j from X] at this);obtain⟨Mz,hrs⟩: ∃f:Int->List Int,f=fun s=>if s=e.src then r else rs s:=⟨_,U⟩
 have cF:=O hrs;have YY:=O Y7;have MM:=O Y8;have KK:=O K;have RR:=O R0;have HK:=O hk;clear Y7 Y8 K R0;clear hj XC hk hs hb hr hbb hbr hp hok hlen hrs;go_enter Tryz.func47,Tryz.ntmps47;go_wp2_with fail;refine iA (Ph:=fun p wq=>(match p with|0=>Jh lo g a c rs wq/\X3 ge gb e A d a.gm wq/\RA c 0 [] wq/\Row wq A e.b/\JN lo hi w wq|_=>Jh lo g a c Mz wq/\X3 ge gb e A d a.gm wq/\RA c 0 [] wq/\JN lo hi w wq)) (Rel:=Oa) (Ij:=fun _ _=>True) [kq (Y (D ⟨a.gm,0,Z⟩)),kp ge 1,kq (E I e.src),kq (E I (e.src-1)),kq (Y (D ⟨a.gm,0,Z⟩)),kq (Y (D ⟨a.gm,2,Z⟩)),kq (Y (D ⟨a.gm,2+j,Z⟩)),kq (Y (D ⟨a.s e.src,0,Z⟩)),kp ge 2,kq (EI A e.b.length d),.late (fun v w=> ∃(vals:List V),w.ownsRow lo 74 2 v its.length vals/\UV w lo its vals) (fun v w w' h hr=>by obtain⟨vals,h1,h2⟩:=h;exact⟨vals,ER h1 fun _ _ hk=>H.G hk hr,h2.keep fun _ _ hk=>H.G hk hr⟩),kq (E I its.length),kq (E I 0)] [B,B,B,B,B,B,B,B,B,B,u,B,B] U [10] [(0,0),(0,0),(0,0),(0,0),(0,0),(0,0),(0,0),(0,0),(0,0),(0,0),(0,0),(1,1),(0,1)] Ed Ed Ed Ed Ed U_ Ed ?hPh ?h0 ?hstep ?hend
 case hPh=>
  intro p w2 w3 h hr;match p,h with
  |0,h=>exact⟨h.1.G hr,h.2.1.G hr,YY.out.G _ _ _ _ _ h.2.2.1 hr,Iy h.2.2.2.1 hr,h.2.2.2.2.trans (JN.Ew hr (EA h.1.lm (ax h.1.Ek.lt)))⟩
  |_+1,h=>exact⟨h.1.G hr,h.2.1.G hr,YY.out.G _ _ _ _ _ h.2.2.1 hr,h.2.2.2.trans (JN.Ew hr (EA h.1.lm (ax h.1.Ek.lt)))⟩
 case h0=> have hb:=Jk w;exact⟨MM.out.G hb,KK.out.G hb,YY.out.G _ _ _ _ _ RR.out hb,Iy RW.out hb,JN.Ew hb (EA MM.out.lm (ax MM.out.Ek.lt))⟩
 case hstep=>
  refine⟨?_,?_,?_,?_,?_,?_,?_,?_,?_,?_,?_,?_,?_,trivial⟩;all_goals first|intro xv wq p hlo hhi hp hd|intro xv wq hp hd
  all_goals simp only[EL,In,Ip,Ig,Ih]
  ·obtain rfl:p=0:=X;have cc:wq.cell? ⟨gb,0,Z⟩=D (Y (D ⟨a.gm,0,Z⟩)):=(H.cell hp.2.1.mb 0).trans U;exact Es (by simp[go_sem,cc]) U
  ·exact Elu
  ·obtain rfl:p=0:=X;have d1:xv 1=Y (D ⟨ge,1,Z⟩):=hd.at 1 rfl;have cc:wq.cell? ⟨ge,1,Z⟩=D (E I e.src):=(H.cell hp.2.1.ev 1).trans U;exact Es Do U
  ·obtain rfl:p=0:=X;have d2:xv 2=E I e.src:=hd.at 2 rfl;exact IQ EM (Ei U) (tj U d2 U SB.out) U
  ·obtain rfl:p=0:=X;have d0:xv 0=Y (D ⟨a.gm,0,Z⟩):=hd.at 0 rfl;exact EpX
  ·obtain rfl:p=0:=X;have d4:xv 4=Y (D ⟨a.gm,0,Z⟩):=hd.at 4 rfl;exact Ept
  ·obtain rfl:p=0:=X;have d5:xv 5=Y (D ⟨a.gm,2,Z⟩):=hd.at 5 rfl;have d3:xv 3=E I (e.src-1):=hd.at 3 rfl;exact IQ EM (Ei U) (qC U d5 d3 IX.out) U
  ·obtain rfl:p=0:=X;have d6:xv 6=Y (D ⟨a.gm,2+j,Z⟩):=hd.at 6 rfl;have cc:wq.cell? ⟨a.gm,2+j,Z⟩=D (Y (D ⟨a.s e.src,0,Z⟩)):=SC.out wq hp.1;exact Es Bz U
  ·exact Elu
  ·obtain rfl:p=0:=X;have d8:xv 8=Y (D ⟨ge,2,Z⟩):=hd.at 8 rfl;have cc:wq.cell? ⟨ge,2,Z⟩=D (EI A e.b.length d):=(H.cell hp.2.1.ev 2).trans U;exact Es CU U
  ·have d7:xv 7=Y (D ⟨a.s e.src,0,Z⟩):=hd.at 7 rfl;have d9:xv 9=EI A e.b.length d:=hd.at 9 rfl;refine JR (f:=48) (args:= #[xv 7,xv 9]) (Ei U) Ez ?_;rw[d7,d9];obtain⟨A0,c0,kb,o0⟩:=(hp.1.str HS.out).1;refine(EhX (a.s e.src) lo A0 c0 (rs e.src).length (rs e.src) A e.b.length d e.b wq kb o0 U hp.2.2.2.1 rfl (hp.1.str HS.out).2.1 (by have:=(hp.1.rX e.src).2;omega) vT).mono fun en w2 h=> ?_;obtain⟨EkF,r2,v,vals,A2,c2,w3,rfl,hp2,h1,h2,h3,h4,h5⟩:=h;obtain⟨rfl,rfl⟩:=HP.out.det hp2;have ht:=hp.1.take HS.out h3 h4 (bJ h5 (EA hp.1.lm (ax hp.1.Ek.lt))) HR2.out;exact⟨v,U,⟨trivial,by rw[cF.out];exact ht.1,hp.2.1.via (fun _ _ hk=>ht.2.Ek hk (E5 hk kb Eb)) (fun _ _ hk=>ht.2.Ek hk (E5 hk kb Eb)),YY.out.only _ _ _ _ _ _ _ hp.2.2.1 kb ht.2,JN.trans hp.2.2.2.2 (JN.Ehm ht.2 kb (by rw[h4];exact(kb.G h3).set 0 _) h5 (YY.out.gG _ _ _ _ hp.2.2.1) (hp.1.str HS.out).2.1 (EA hp.1.lm (ax hp.1.Ek.lt)))⟩,vals,oJ h1 (EA hp.1.lm (ax hp.1.Ek.lt)),h2.mono (EA hp.1.lm (ax hp.1.Ek.lt))⟩
  ·obtain rfl:p=1:=X;obtain⟨vals,h1,h2⟩: ∃(vals:List V),wq.ownsRow lo 74 2 (xv 10) its.length vals/\UV wq lo its vals:=hd.at 10 rfl;obtain⟨A3,c3,e3⟩:=oX h1;exact Es (by simp[go_sem,e3]) U
  ·exact Emq
 case hend=>
  intro xv w2 hp hd;simp only[EL,In,Ip,Ig,Ih,bU];obtain⟨vals,ow,iv⟩: ∃(vals:List V),w2.ownsRow lo 74 2 (xv 10) its.length vals/\UV w2 lo its vals:=hd 10 Eb;obtain⟨A3,c3,e3⟩:=oX ow;have Oi:xv 11=E I its.length:=hd 11 Eb;have a12:xv 12=E I 0:=hd 12 Eb;rw[Oi,a12,e3];rw[e3] at ow;clear hd Oi a12 e3;have I0:=O<|Jm hp (Jm ow iv);clear hp ow iv;go_wp2_with fail;go_loopw[30] (fun Y3 wr=> ∃(i:Nat) (ci:EB) (mi:Nat) (ni:List Rec),Y3=E I i/\i<=its.length/\mi<=i*3/\dI g e.src (its.take i) c ci mi ni/\Jh lo g a ci Mz wr/\X3 ge gb e A d a.gm wr/\RA ci mi ni wr/\JN lo hi w wr/\wr.ownsRow lo 74 2 (EI A3 its.length c3) its.length vals/\UV wr lo its vals) (fun Y3 _=>its.length-(Iv Y3).toNat);case atStart=>exact⟨0,c,0,[],U,bY _,E7 _,.nil c,I0.out.1.1,I0.out.1.2.1,I0.out.1.2.2.1,I0.out.1.2.2.2,I0.out.2.1,I0.out.2.2⟩
  case round=>
   clear I0 MM KK RR;obtain⟨i,ci,mi,ni,rfl,hin,Y2,hw,Y8,K,R0,MB,ow,iv⟩:=hrel;have HW:=O hw;have MM:=O Y8;have KK:=O K;have RR:=O R0;replace MB:=O MB;have jM:=O Y2;clear hw Y8 K R0 Y2;by_cases hlt:i<its.length
   ·have t8:decide ((i:Int)<(its.length:Int))=u:=Ib X;obtain⟨x,hx⟩: ∃x,its[i]?=D x:=⟨_,Ok hlt⟩;obtain⟨A4,c4,e0,e1,ob⟩:=iv.get hx;obtain⟨ga,rfl,h1,h2,cells⟩:=Ehn ow hlt;have l4:=Mu ob;obtain⟨-,hxo,-⟩:=qO.out x (dw hx)
    have MA:Ea (wr.rangeAt ga (i*2) [E I x.1,.slice A4 x.2.length c4]):=O (by
     intro j v hj;match j,hj with
     |0,hj=>exact(cells 0 _ e0).trans hj
     |1,hj=>exact(cells 1 _ e1).trans hj
     |j+2,hj=>simp at hj)
    have OW:=O<|Jm ow iv;have OB:=O<|Jm ob.row (Jm l4 hxo);have HX:=O hx;clear ow iv ob l4 hxo cells e0 e1 hx;have ci0:wr.cell? ⟨ga,i*2,Z⟩=D (E I x.1):=MA.out 0 _ U;have ci1:wr.cell? ⟨ga,i*2+1,Z⟩=D (.slice A4 x.2.length c4):=MA.out 1 _ U;go_wp2_with (with_reducible refine wA Eho (Ev.mk ?_));apply Eo;clear ci0 ci1 MA;obtain⟨gi,hgi⟩:=En wr.heap.size;have K0:=O<|H.new wr #[E I 0,EI Z 0 0] 74;have b2:=Ep wr (EJ #[E I 0,EI Z 0 0] 74);rw[<-hgi] at K0⊢;generalize wr.alloc (EJ #[E I 0,EI Z 0 0] 74)=w4 at*;have HGI:=O<|OQ hgi.symm;clear hgi;go_wp2_with (with_reducible refine wS (cs:= #[E I x.1,.slice A4 x.2.length c4]) Mg K0 (Ev.mk ?_) (h1:=Us));apply Eo;have KI:=O<|K0.out.setRow #[E I x.1,.slice A4 x.2.length c4];have b3:=E3 (g:=gi) b2 HGI.out #[E I x.1,.slice A4 x.2.length c4];generalize w4.setRow gi #[E I x.1,.slice A4 x.2.length c4]=w5 at*;have iT:=EA MM.out.lm (ax MM.out.Ek.lt);replace MB:=O<|MB.out.trans (JN.Ew b3 iT);replace MM:=O<|MM.out.G b3;replace KK:=O<|KK.out.G b3;replace RR:=O<|YY.out.G _ _ _ _ _ RR.out b3;replace OW:=O<|Jm (ER OW.out.1 fun _ _ hk=>H.G hk b3) (OW.out.2.keep fun _ _ hk=>H.G hk b3);replace OB:=O<|Jm (Iy OB.out.1 b3) OB.out.2;clear K0 b2 b3 HGI iT;go_wp2_with fail;have ym: ∀y:Ext w5,(Ey w5 y).cell? ⟨gb,0,Z⟩=D (Y (D ⟨a.gm,0,Z⟩)):=fun y=>(H.cell (KK.out.G (ED y)).mb 0).trans U;have yc: ∀y:Ext w5,(Ey w5 y).cell? ⟨a.gm,0,Z⟩=D (Y (D ⟨a.gc,0,Z⟩)):=fun y=>(H.cell (MM.out.G (ED y)).Ek 0).trans U;have ys: ∀y:Ext w5,(Ey w5 y).cell? ⟨ge,1,Z⟩=D (E I e.src):=fun y=>(H.cell (KK.out.G (ED y)).ev 1).trans U;refine Ml 8 Ed Ed U U U (fun _ _ _ h=>h) ?_;simp only[Ir,Im,IL,IG]
    repeat (first
     |go_big_quiet_skip
     |(go_big_quiet_want
       first
        |(refine Ub (T:=74) (g:=gi) Mg _ rfl rfl KI ?_ ?_;(·rfl);go_simp;go_big_quiet_on)
        |(go_big_quiet_op
          go_big_quiet_on)))
    refine IM ?_;intro _ hw';obtain⟨y9,rfl⟩:=hw';have Em:=ED y9;have iT:=EA MM.out.lm (ax MM.out.Ek.lt);replace MB:=O<|MB.out.trans (JN.Ew Em iT);replace MM:=O<|MM.out.G Em;replace KK:=O<|KK.out.G Em;replace RR:=O<|YY.out.G _ _ _ _ _ RR.out Em;replace OW:=O<|Jm (ER OW.out.1 fun _ _ hk=>H.G hk Em) (OW.out.2.keep fun _ _ hk=>H.G hk Em);replace OB:=O<|Jm (Iy OB.out.1 Em) OB.out.2;clear Em iT ym yc ys KI;generalize Ey w5 y9=w6 at*;refine xq 1 (.inl U) xV Ed ?_;simp only[Ir,Im,IL,IG];go_wp2_with fail;refine(Egm lo g a.gc a.gq a.gt ci x.1 A4 x.2.length c4 x.2 e.src _ MM.out.core HS.out U OB.out.2.1.1 OB.out.2.1.2 (by have:=OB.out.2.2;omega) OB.out.1).mono ?_;rintro e2 w7 ⟨c',ns,new,sv,rv,sc,hd,rfl,J2,Oy,os,J3,C2,⟨hns,hR⟩,mm⟩;go_wp2_with fail;have RW:=YY.out.mu ci mi ni w6 w7 RR.out mm;have hl1:=(dI.len HW.out);rw[aj] at hl1;refine Dn (Ei U) (YY.out.Dm ci c' mi ni w7 sv rv ns new sc hd w6.heap.size RW J2 Oy os J3 (by have:=jM.out;have:=HN.out;omega) Ob X (by have:=hR.len;omega)) (fun nx hy=> ?_) (fun _ h=>XZ) ?_;·simp[go_sem,hy]
    rintro e3 w8 ⟨rfl,r3,y3⟩;refine⟨_,U,?_⟩;refine xq 1 (.inl U) xV Ed ?_;simp only[Ir,Im,IL,IG];go_wp2_with fail;refine wpListIn_nil ?_;go_wp2_with fail;go_roundw
    case rel=>
     have hhi:=YY.out.gG _ _ _ _ RR.out;have e9:its.take (i+1)=its.take i++[x]:=by rw[nm,HX.out];rfl
     refine⟨i+1,c',mi+ns,ni++new,U,X,by have:=jM.out;omega,?_,(MM.out.mut mm C2).y y3 YY.out.lh,(KK.out.mut mm).y y3,r3,MB.out.trans ((JN.xS mm YY.out.lh hhi (E7 _)).trans (JN.tP y3 YY.out.lh)),?_,?_⟩;·rw[e9];exact dI.snoc HW.out hR
     ·exact ER OW.out.1 fun _ _ hk=>y3.Ek _ _ _ Eb (mm.Ek hk Eb Eb)
     ·exact OW.out.2.keep fun _ _ hk=>y3.Ek _ _ _ Eb (mm.Ek hk Eb Eb)
    case measure=>simp[Iv];omega
   ·have t8:decide ((i:Int)<(its.length:Int))=B:=IJ X;go_wp2_with fail;go_end0;have hw:=HW.out;rw[UZ X] at hw;have hl1:=hw.len;refine⟨⟨_,U⟩,ci,Mz,mi,ni,MM.out,RR.out,.inl ⟨HK.out,HS.out.1,HS.out.2,its,r,HP.out,cF.out,hw⟩,Ob,MB.out⟩
theorem Ehs(lo hi l ge gb:Nat)(g:Nat->V)(a:XU)(c:EB)(rs:Int->List Int)(e:JZ)(A:Option Eu)(d:Nat)(RA:EB->Nat->List Rec->M->Prop)(w:M)(Y7:oO lo hi l RA)(Y8:Jh lo g a c rs w)(K:X3 ge gb e A d a.gm w)(R0:RA c 0 [] w)(hx:e.ok)(hb:e.b.length<=1000)(hr:Row w A e.b): Ef EU 47 #[.func (.yield l) #[] #[],Y (D ⟨ge,0,Z⟩),Y (D ⟨gb,0,Z⟩)] w (oU lo hi g a e c rs RA w):=by
 by_cases h0:e.kind=0
 ·by_cases hs:1<=e.src/\e.src<=3;·exact Ehp lo hi l ge gb g a c rs e A d RA w Y7 Y8 K R0 h0 hs hb hr
  ·exact Ehl lo hi l ge gb g a c rs e A d RA w Y7 Y8 K R0 h0 hs
 ·by_cases h1:e.kind=1;·exact Ehj lo hi l ge gb g a c rs e A d RA w Y7 Y8 K R0 h1 hx
  ·by_cases h2:e.kind=2;·exact Ehh lo hi l ge gb g a c rs e A d RA w Y7 Y8 K R0 h2
   ·by_cases h3:e.kind=3;·exact Ehg lo hi l ge gb g a c rs e A d RA w Y7 Y8 K R0 h3
    ·exact Ehk lo hi l ge gb g a c rs e A d RA w Y7 Y8 K R0 ⟨h0,h1,h2,h3⟩
theorem Eht{α:Type}(f:α->Tmp×V->α)(p:Tmp)(v:V)(t:α):(#[p].zip #[v]).foldl f t=f t (p,v):=by simp[Array.zip]
theorem Ehu{f:FuncId}{fn:Func}{c:Code}{args:Array V}(hf:P.funcs[f]?=D fn)(hb:fn.body=D c) (h:c.wp P (bodyPostM X1 9 P fn R) {tmps:=args++Zn (fn.ntmps-args.size) I6,defers:=[]} w):Ef P f args w R:=
 callsIn_wide.1 (callsIn_of_wp_marks (n:=9) hf hb trivial (wpIn_wide.2 h) U)
theorem Ehv{g:UH}{ps:Array Tmp}{assign body:Code}{a:E6}(gf:Nat)(lb:Array V)(hg:a.eval g= .func (.func gf) #[] lb)(eg: ∀args w,(Jj gf args).run P w= .ok (.enter gf args) w) (h: ∀(fn:FuncId) (rc:Loop),rc={state:= .ready,pending:=Z,fn,tmps:=a.tmps,params:=ps,assign,body,defers:=w.heap.size}-> Ef P gf (#[.func (.yield (w.heap.size+1)) #[] #[]]++lb) ((w.alloc (.deferred (D []))).alloc (.loop rc)) (rangePost X1 9 P (w.heap.size+1) Q {a with defers:={target:= .collected w.heap.size,args:= #[]}::a.defers})):(Code.rangeFunc g ps assign body).wp P Q a w:=by
 refine(wpIn_wide (n:=9)).1 (wpIn_rangeFunc ?_);intro fn _;obtain⟨rc,hrc⟩:=En ({state:= .ready,pending:=Z,fn,tmps:=a.tmps,params:=ps,assign,body,defers:=w.heap.size}:Loop);refine⟨w.heap.size+1,[{target:= .collected w.heap.size,args:= #[]}],(w.alloc (.deferred (D []))).alloc (.loop rc),{target:= .fn (.func gf) lb,args:= #[.func (.yield (w.heap.size+1)) #[] #[]]},(w.alloc (.deferred (D []))).alloc (.loop rc),gf,#[.func (.yield (w.heap.size+1)) #[] #[]]++lb,(w.alloc (.deferred (D []))).alloc (.loop rc),?_,?_,fun _ _=>trivial,?_,fun _=>X,?_⟩;·rw[hrc];exact run_enterLoop_outer _ _ _ _ _
 ·simp only[resolve,hg];simp[go_sem]
 ·simp[invoke,go_sem,eg]
 ·exact callsIn_wide.2 (h fn rc hrc)
structure aH(lo hi ga gr l Y_:Nat)(rc:Loop)(c:EB)(m:Nat)(new:List Rec)(W:M):Prop where
 all: ∃(A1 A2:Option Eu) (c1 c2:Nat) (sc:sK) (hd:List Int),H W ga (Jb (J8 c) (EI A1 m c1) (EI A2 new.length c2) hd).toArray 43/\hd.length=32/\(∀x∈hd,0<=x/\x<=255)/\W.ownsRow hi 264 2 (EI A1 m c1) m sc.l/\W.ownsRow hi 58 6 (EI A2 new.length c2) new.length (Uh new)
 res: ∃z:Array V,z.size=46/\H W gr z 43
 ne:ga≠gr
 lp:W.heap[l]?=D (.loop rc)
 df:W.heap[Y_]?=D (.deferred (D []))
 hga:hi<=ga
 hgr:hi<=gr
 hl:hi<=l
 hD:hi<=Y_
 lh:lo<=hi
theorem aH.gG{new:List Rec}(h:aH lo hi ga gr l Y_ rc c m new W):hi<=W.heap.size:=by obtain⟨z,-,k⟩:=h.res;have:=k.lt;have:=h.hgr;omega
theorem aH.via{new:List Rec}(h:aH lo hi ga gr l Y_ rc c m new W)(hb: ∀k cs S,S=43\/S=264\/S=58->H W k cs S->H W' k cs S)(ho: ∀(k:Nat) (o:Obj),W.heap[k]?=D o->o.isCells=B->W'.heap[k]?=D o):aH lo hi ga gr l Y_ rc c m new W':=by obtain⟨A1,A2,c1,c2,sc,hd,k,x1,x2,r1,r2⟩:=h.all;obtain⟨z,hz,kz⟩:=h.res;exact⟨⟨A1,A2,c1,c2,sc,hd,hb _ _ _ (.inl U) k,x1,x2,ER r1 fun _ _=>hb _ _ _ (.inr (.inl U)),ER r2 fun _ _=>hb _ _ _ (.inr (.inr U))⟩,⟨z,hz,hb _ _ _ (.inl U) kz⟩,h.ne,ho _ _ h.lp U,ho _ _ h.df U,h.hga,h.hgr,h.hl,h.hD,h.lh⟩
theorem aH.G{new:List Rec}(h:aH lo hi ga gr l Y_ rc c m new W)(hb:El W W'):aH lo hi ga gr l Y_ rc c m new W':=
 h.via (fun _ _ _ _ hk=>hk.G hb) fun k o ho _=>(hb.block k (Jt.1 ho).1).trans ho
theorem aH.mu{new:List Rec}(h:aH lo hi ga gr l Y_ rc c m new W)(hb:Ex lo W.heap.size W W'):aH lo hi ga gr l Y_ rc c m new W':=
 h.via (fun _ _ _ hS hk=>hb.old hk EEI hk.lt) fun k o ho hc=>hb.obj (Jt.1 ho).1 ho hc
theorem aH.only{new:List Rec}(h:aH lo hi ga gr l Y_ rc c m new W)(K:H W gs cs 122)(ho:EH gs W W'):aH lo hi ga gr l Y_ rc c m new W':=
 h.via (fun _ _ _ hS hk=>ho.Ek hk (E5 hk K EEI)) fun k o hk hc=>(ho.keep k (fun e=>by subst e;have K2:W.heap[k]?=D (EJ cs 122 (0,0)):=K;rw[K2] at hk;injection hk with hk;subst hk;cases hc) (Jt.1 hk).1).trans hk
theorem tQ{g:Nat}(K:H W g (Jb act sv rv hd).toArray 43)(h:act.length=12):W.cell? ⟨g,12,Z⟩=D sv/\W.cell? ⟨g,13,Z⟩=D rv:=by
 have e:=H.cell K;constructor;·rw[e,Og];unfold Jb;rw[ak X,h];rfl
 ·rw[e,Og];unfold Jb;rw[ak X,h];rfl
theorem Ehw(sv rv:V)(hd:List Int)(h:act.length=12):(Jb act sv rv hd).toArray.extract 0 12=act.toArray:=by unfold Jb;simp[h]
theorem Ehx(sv rv:V)(hd:List Int)(h:act.length=12)(h32:hd.length=32):(Jb act sv rv hd).toArray.extract 14 (14+32)=(Ej hd):=by unfold Jb Ej;rw[List.extract_toArray];congr 1;rw[List.extract_eq_take_drop,<-U9,List.drop_left' (by simp[h])];exact UZ (by simp[h32])
theorem xW:IW EU 38 12:=⟨⟨_,Tryz.underlying38,U⟩,Ed⟩
theorem i7(c:EB):(J8 c).length=12:=rfl
theorem Ehy(c:EB): ∀Y3∈J8 c,Y3.oneCell'=u:=by intro Y3 hu;simp only[J8,Ui,UP,or_false] at hu;rcases hu with rfl|rfl|rfl|rfl|rfl|rfl|rfl|rfl|rfl|rfl|rfl|rfl<;>rfl
theorem Ehz:Od EU 43 (Jb [E I 0,E I 0,E I 0,E I 0,E I 0,E I 0,E I 0,E I 0,E I 0,E I 0,E I 0,E I 0] (EI Z 0 0) (EI Z 0 0) (Er 32)).toArray:=by exact El7
theorem EhA{g:Nat}{xY:List V}(K:H W g (Jb act sv rv hd).toArray 43)(h:act.length=12)(h2:xY.length=12):H (W.setCells g 0 xY) g (Jb xY sv rv hd).toArray 43:=
 Zp (post:=[sv,rv]++hd.map (E .u8)) xY act [] 0 W K X U
theorem EhB{g:Nat}(Y3:V)(K:H W g (Jb act sv rv hd).toArray 43)(h:act.length=12):H (W.setCell ⟨g,12,Z⟩ Y3) g (Jb act Y3 rv hd).toArray 43:=by have:=Zp (g:=g) (post:=[rv]++hd.map (E .u8)) (S:=43) [Y3] [sv] act 12 W MC U h;simpa[Jb,World.setCells] using this
theorem EhC{g:Nat}(Y3:V)(K:H W g (Jb act sv rv hd).toArray 43)(h:act.length=12):H (W.setCell ⟨g,13,Z⟩ Y3) g (Jb act sv Y3 hd).toArray 43:=by have:=Zp (g:=g) (post:=hd.map (E .u8)) (S:=43) [Y3] [rv] (act++[sv]) 13 W MC U (by simp[h]);simpa[Jb,World.setCells] using this
theorem EhD{g:Nat}{hd2:List Int}(K:H W g (Jb act sv rv hd).toArray 43)(h:act.length=12)(h1:hd.length=32)(h2:hd2.length=32):H (W.setCells g 14 (hd2.map (E .u8))) g (Jb act sv rv hd2).toArray 43:=by have:=Zp (g:=g) (post:=[]) (S:=43) (hd2.map (E .u8)) (hd.map (E .u8)) (act++[sv,rv]) 14 W MC (by simp[h1,h2]) (by simp[h]);simpa[Jb] using this
theorem Z5(h:W.heap[l]?=D o)(hc:o.isCells=B)(K:H W k cs S):H (W.putObj l o2) k cs S:=by refine(World.putObj_heap_other fun e=> ?_).trans K;subst e;have K2:W.heap[k]?=D (EJ cs S (0,0)):=K;rw[h] at K2;injection K2 with K2;subst K2;cases hc
theorem Dp(h:W.heap[l]?=D o)(hc:o.isCells=B)(hl:hi<=l):dS hi W (W.putObj l o2):=
 ⟨⟨U,U,U,Eh,fun k hk=>World.putObj_heap_other X⟩,fun _ _ _ _ hk=>Z5 h hc hk⟩
theorem x_{g:Nat}(ho:EH g W W')(K:H W g cs S)(hS:xR.contains S=u)(hg:hi<=g)(hw:hi<=W.heap.size):dS hi W W':=
 ⟨ho.bel hi hg hw,fun k c T hT hk=>ho.Ek hk (E5 hk K EEJ)⟩
theorem EEO{e:EC}{xs:List V}(hown:W.ownsRow base e size v n xs)(hg:W.grownBy W' v.ownBlock)(he:xR.contains e=u)(hb:hi<=base)(hw:base<=W.heap.size):dS hi W W':=
 ⟨(My hown hg hw).mono hb,fun k c T hT hk=>rO hown hg hk (by rintro rfl;rw[he] at hT;cases hT)⟩
theorem EhF(l:List Rec): ∀Y3∈Uh l,Y3.oneCell'=u:=by intro Y3 hu;obtain⟨x,-,hx⟩:=List.mem_flatMap.1 hu;simp only[Rec.v,Ui,UP,or_false] at hx;rcases hx with rfl|rfl|rfl|rfl|rfl|rfl<;>rfl
theorem EhG(h1:rc.state= .ready)(h2:rc.pending=Z):({({rc with state:= .busy}:Loop) with state:=if(Z:Option Code).isNone=true then .ready else .done,pending:=Z}:Loop)=rc:=by cases rc;simp at h1 h2;simp[h1,h2]
theorem EhH(gm:Nat)(e:JZ)(A:Option Eu)(d:Nat)(w:M): Ef EU 26 #[Y (D ⟨gm,0,Z⟩),EZ (e.cells A d).toArray] w fun en w'=> ∃ge gb,en=Eg (.func (.func 47) #[] #[Y (D ⟨ge,0,Z⟩),Y (D ⟨gb,0,Z⟩)])/\X3 ge gb e A d gm w'/\El w w':=by
 obtain⟨cv,hcv⟩:=En ((e.cells A d).toArray);have HC:=O hcv;rw[<-hcv];clear hcv;go_enter Tryz.func26,Tryz.ntmps26;go_wp2_with fail;go_ret;refine⟨_,_,U,⟨?_,?_⟩,J9 w _ _⟩;·rw[<-HC.out];have:=H.new (w.alloc (EJ #[Y (D ⟨gm,0,Z⟩)] 32)) cv 48;exact En4
 ·exact(H.new w _ _).G (Ep _ _)
def Dq(lo hi:Nat)(g:Nat->V)(a:XU)(e:JZ)(c:EB)(rs:Int->List Int)(w:M)(en:Ut)(w':M):Prop:=
 ∃(c':EB) (rs':Int->List Int) (m:Nat) (new:List Rec) (A1 A2:Option Eu) (c1 c2:Nat) (sc:sK) (hd:List Int),en=Eg (EZ (Jb (J8 c') (EI A1 m c1) (EI A2 new.length c2) hd).toArray)/\hd.length=32/\(∀x∈hd,0<=x/\x<=255)/\w'.ownsRow hi 264 2 (EI A1 m c1) m sc.l/\w'.ownsRow hi 58 6 (EI A2 new.length c2) new.length (Uh new)/\Jh lo g a c' rs' w'/\DZ g e c rs c' rs' m new/\new.length<=5000/\JN lo hi w w'
theorem MD(lo:Nat)(g:Nat->V)(a:XU)(c:EB)(rs:Int->List Int)(e:JZ)(A:Option Eu)(d:Nat)(w:M)(Y8:Jh lo g a c rs w)(hx:e.ok)(ho:Own w 0 A d e.b)(hb:e.b.length<=1000): Ef EU 12 #[Y (D ⟨a.gm,0,Z⟩),EZ (e.cells A d).toArray] w (Dq lo w.heap.size g a e c rs w):=by
 have MM:=O Y8;have EE:=O hx;have OWN:=O ho;have HB:=O hb;obtain⟨cv,hcv⟩:=En ((e.cells A d).toArray);have HC:=O hcv;have CS:Ea (cv.size=10):=O (by rw[hcv];rfl);have CM:=O<|fun W=>EhH a.gm e A d W;rw[<-hcv] at CM⊢;clear Y8 hx ho hb hcv;obtain⟨zt,jY⟩:=En ((Jb [E I 0,E I 0,E I 0,E I 0,E I 0,E I 0,E I 0,E I 0,E I 0,E I 0,E I 0,E I 0] (EI Z 0 0) (EI Z 0 0) (Er 32)).toArray:Array V);have HZT:=O jY;have ZT:Ea (Od EU 43 zt):=O MF;have ZS:Ea (zt.size=46):=O (by rw[jY];rfl);clear jY;refine Ehu Tryz.func12 U ?_;simp only[Tryz.ntmps12,List.size_toArray,ZV,List.length_nil,bU,Nat.reduceSub,Array.replicate_succ,Array.replicate_zero,List.push_toArray,List.append_toArray,Z8,List.cons_append];go_wp2_with (with_reducible refine wA ZT.out (Ev.mk ?_));apply Eo;have dT:=O<|H.new w cv 48;have b1:=J9 w (EJ cv 48) (EJ zt 43);have Ds:Ea (H ((w.alloc (EJ cv 48)).alloc (EJ zt 43)) (w.heap.size+1) zt 43):=O EEU;have KE:=O<|dT.out.G (Ep (w.alloc (EJ cv 48)) (EJ zt 43));clear dT;obtain⟨gr,hgr⟩:=En (w.heap.size+1);rw[<-hgr] at Ds⊢;obtain⟨ge,hge⟩:=En w.heap.size;obtain⟨hi,hhi⟩:=En w.heap.size;rw[show Dq lo w.heap.size g a e c rs w=Dq lo hi g a e c rs w by rw[hhi]];rw[<-hge] at KE⊢;have cM:=O (show hi<=gr/\hi<=w.heap.size/\w.heap.size<=hi from X);clear hgr hge hhi;generalize (w.alloc (EJ cv 48)).alloc (EJ zt 43)=w1 at*;have BB:=O b1;clear b1;have M1:=O<|MM.out.G BB.out;have cc:w1.cell? ⟨a.gm,0,Z⟩=D (Y (D ⟨a.gc,0,Z⟩)):=(H.cell M1.out.Ek 0).trans U;go_wp2_with fail;refine(Egi lo g a.gc a.gq a.gt c _ M1.out.core).mono ?_;rintro e2 w2 ⟨c',ns,new,sv,rv,sc,hd,rfl,J2,Oy,os,J3,C2,⟨hc',rfl,rfl⟩,mm⟩;rw[hc'] at C2⊢;clear hc' cc;obtain⟨A1,c1,rfl⟩:=oX os;obtain⟨A2,c2,rfl⟩:=oX J3;have rZ:=O (show hi<=w1.heap.size by have:=BB.out.size;have:=cM.out;omega);have Z4:=O (show lo<=hi by have:=cM.out;have:=MM.out.lm;have:=MM.out.Ek.lt;omega);have M2:=O<|M1.out.mut mm C2;replace OWN:=O<|dJ OWN.out fun _ _ hk=>mm.Ek (H.G hk BB.out) Eb Eb;have MU:=O<|(JN.Ew (lo:=lo) (hi:=hi) BB.out (by have:=cM.out;have:=Z4.out;omega)).trans (JN.xS mm Z4.out rZ.out (E7 _));have KE2:=O<|mm.Ek KE.out Eb Eb;have JT:=O<|mm.old Ds.out Eb Ds.out.lt;obtain⟨tv,Ia⟩: ∃tv,tv=(Jb (J8 c) (EI A1 0 c1) (.slice A2 ([]:List Rec).length c2) hd).toArray:=⟨_,U⟩;have TS:=O<|iV (J8 c) (EI A1 0 c1) (.slice A2 ([]:List Rec).length c2) hd U J2;have TO:=O<|mI c A1 A2 0 ([]:List Rec).length c1 c2 hd;rw[<-Ia] at TS TO⊢;have OZ:=O Ia;have HD:=O<|Jm J2 Oy;have OS:=O os;have OR:=O J3;have ra:=O mm.size;clear os J3 J2 Oy Ia mm C2 KE Ds M1 BB;go_wp2_with (with_reducible refine wA ZT.out (Ev.mk ?_));apply Eo;have Dt:=O<|H.new w2 zt 43;have b2:=Ep w2 (EJ zt 43);obtain⟨ga,hga⟩:=En w2.heap.size;rw[<-hga] at Dt⊢;have MH:=O (show w2.heap.size<=ga/\gr<ga by have:=JT.out.lt;omega);clear hga;generalize w2.alloc (EJ zt 43)=w3 at*;go_wp2_with (with_reducible refine wS (cs:=tv) ZD Dt (Ev.mk ?_) (ho:=ZS.out) (hn:=TS.out) (h1:=TO.out));apply Eo;have KA:=O<|Dt.out.setRow tv;have b3:=E3 (g:=ga) b2 MH.out.1 tv;generalize w3.setRow ga tv=w4 at*;have M4:=O<|M2.out.G b3;have KE4:=O<|KE2.out.G b3;have KR4:=O<|JT.out.G b3;replace OS:=O<|ER OS.out fun _ _ hk=>H.G hk b3;replace OR:=O<|ER OR.out fun _ _ hk=>H.G hk b3;replace OWN:=O<|dJ OWN.out fun _ _ hk=>H.G hk b3;replace MU:=O<|MU.out.trans (JN.Ew b3 (by have:=Z4.out;have:=rZ.out;have:=ra.out;omega));have ML:=O<|EA ra.out (XJ b3);clear Dt b2 b3 M2 KE2 JT ra;go_wp2_with (with_reducible refine wL gN KE4 ?_ (hn:=CS.out));refine(CM.out _).mono ?_;rintro e5 w5 ⟨MN,gb,rfl,cap,b5⟩;have CAP:=O cap;have M5:=O<|M4.out.G b5;have KR5:=O<|KR4.out.G b5;have KA5:=O<|KA.out.G b5;replace OS:=O<|ER OS.out fun _ _ hk=>H.G hk b5;replace OR:=O<|ER OR.out fun _ _ hk=>H.G hk b5;replace OWN:=O<|dJ OWN.out fun _ _ hk=>H.G hk b5;replace MU:=O<|MU.out.trans (JN.Ew b5 (by have:=Z4.out;have:=rZ.out;have:=ML.out;omega));have MP:=O<|EA ML.out (XJ b5);clear cap b5 M4 KE4 KR4 KA CM ML;go_wp2_with fail;refine Ehv 47 #[Y (D ⟨MN,0,Z⟩),Y (D ⟨gb,0,Z⟩)] U (fun _ _=>Ed) ?_;intro fn rc hrc;have oZ:=O hrc;clear hrc;have b6:=J9 w5 (.deferred (D [])) (.loop rc);have lp:((w5.alloc (.deferred (D []))).alloc (.loop rc)).heap[w5.heap.size+1]?=D (.loop rc):=by have:=World.alloc_heap_new (w5.alloc (.deferred (D []))) (.loop rc);rwa [World.size_alloc] at this
 have df:((w5.alloc (.deferred (D []))).alloc (.loop rc)).heap[w5.heap.size]?=D (.deferred (D [])):=(Below.heap_alloc _ _ _ Eh).trans (World.alloc_heap_new w5 _);generalize (w5.alloc (.deferred (D []))).alloc (.loop rc)=w6 at*;obtain⟨ll,hll⟩:=En (w5.heap.size+1);obtain⟨dd,hdd⟩:=En w5.heap.size;rw[<-hll] at lp⊢;rw[<-hdd] at df⊢;have HLD:=O (show hi<=ll/\hi<=dd by have:=rZ.out;have:=MP.out;omega);clear hll hdd;have M6:=O<|M5.out.G b6;have MQ:=O<|CAP.out.G b6;have KR6:=O<|KR5.out.G b6;have KA6:=O<|KA5.out.G b6;replace OS:=O<|ER OS.out fun _ _ hk=>H.G hk b6;replace OR:=O<|ER OR.out fun _ _ hk=>H.G hk b6;replace OWN:=O<|dJ OWN.out fun _ _ hk=>H.G hk b6;replace MU:=O<|MU.out.trans (JN.Ew b6 (by have:=Z4.out;have:=rZ.out;have:=MP.out;omega));have R6:Ea (aH lo hi ga gr ll dd rc c 0 [] w6):=O (by have ka:=KA6.out;rw[OZ.out] at ka;exact⟨⟨A1,A2,c1,c2,sc,hd,ka,HD.out.1,HD.out.2,oJ OS.out rZ.out,oJ OR.out rZ.out⟩,⟨zt,ZS.out,KR6.out⟩,by have:=MH.out.2;omega,lp,df,by have:=MH.out;have:=cM.out;omega,cM.out.1,HLD.out.1,HLD.out.2,Z4.out⟩);clear b6 lp df M5 CAP KR5 KA5 MP KA6 KR6 OS OR TS TO OZ HD;have e1:=congrArg Loop.assign oZ.out;have e2:=congrArg Loop.body oZ.out;have e3:=congrArg Loop.params oZ.out;have e4:=congrArg Loop.tmps oZ.out;have e5:=congrArg Loop.state oZ.out;have e6:=congrArg Loop.pending oZ.out;dsimp only at e1 e2 e3 e4 e5 e6
 have YL:oO lo hi ll (aH lo hi ga gr ll dd rc):=by
  refine⟨Z4.out,fun _ _ _ _ h=>h.gG,fun _ _ _ _ _ h hb=>h.G hb,fun _ _ _ _ _ h hb=>h.mu hb,fun _ _ _ _ _ _ _ h K ho=>h.only K ho,?_⟩;clear R6 M6 MQ MU HB EE MM HC CS;intro c0 cn m new W sv rv ns nw Du hd2 b RA h32 Oy os J3 hm hnn hns hnw;have hy:=run_yield (P:=EU) (args:= #[EZ (Jb (J8 cn) sv rv hd2).toArray]) RA.lp (by rw[e3];rfl);refine⟨rc.fn,rc.tmps.setIfInBounds 22 (EZ (Jb (J8 cn) sv rv hd2).toArray),rc.assign,rc.body,by rw[e3,Eht] at hy;exact hy,roundIn_of_wpIn trivial ?_⟩;clear hy;rw[e1,e2,e4];obtain⟨B1,d1,rfl⟩:=oX os;obtain⟨B2,d2,rfl⟩:=oX J3;obtain⟨tn,htn⟩: ∃tn,tn=(Jb (J8 cn) (EI B1 ns d1) (EI B2 nw.length d2) hd2).toArray:=⟨_,U⟩;have TNS:=O<|iV (J8 cn) (EI B1 ns d1) (EI B2 nw.length d2) hd2 U h32;have TNO:=O<|mI cn B1 B2 ns nw.length d1 d2 hd2;rw[<-htn] at TNS TNO⊢;have HTN:=O htn;have RR:=O RA;have NN:=O<|Jm h32 (Jm Oy (Jm hm (Jm hnn (Jm hns hnw))));have OS:=O os;have OR:=O J3;clear e1 e2 e3 e4 oZ RA h32 Oy os J3 hm hnn hns hnw htn;simp only[Ip,Ig,Ih];refine xr tG Ed ?_;go_wp2_with (with_reducible refine wA ZT.out (Ev.mk ?_));apply Eo;have K0:=O<|H.new W zt 43;have b1:=Ep W (EJ zt 43);obtain⟨gt,hgt⟩:=En W.heap.size;rw[<-hgt] at K0⊢;have HGT:=O<|OQ hgt.symm;have NA:Ea (ga≠gt/\hi<=gt/\gr≠gt):=O (by obtain⟨_,_,_,_,_,_,ka,_⟩:=RR.out.all;obtain⟨_,_,kr⟩:=RR.out.res;have:=ka.lt;have:=kr.lt;have:=RR.out.hga;omega);clear hgt;generalize W.alloc (EJ zt 43)=V1 at*;go_wp2_with (with_reducible refine wS (cs:=tn) ZD K0 (Ev.mk ?_) (ho:=ZS.out) (hn:=TNS.out) (h1:=TNO.out));apply Eo;have KT:=O<|K0.out.setRow tn;have b2:=E3 (g:=gt) b1 HGT.out tn;generalize V1.setRow gt tn=V2 at*;have YS:=O<|dS.Ew (hi:=hi) b2 RR.out.gG;replace RR:=O<|RR.out.G b2;replace OS:=O<|ER OS.out fun _ _ hk=>H.G hk b2;replace OR:=O<|ER OR.out fun _ _ hk=>H.G hk b2;clear K0 b1 b2 HGT;refine⟨_,run_beginRound RR.out.lp e5,?_⟩;obtain⟨rb,hrb⟩:=En ({rc with state:= .busy}:Loop);rw[<-hrb];have HRB:=O hrb;clear hrb;obtain⟨B3,B4,d3,d4,MR,hd3,ka,x1,x2,r1,r2⟩:=RR.out.all;obtain⟨z,hz,kr⟩:=RR.out.res;have KA:=O<|Z5 (o2:= .loop rb) RR.out.lp U ka;have KR:=O<|Z5 (o2:= .loop rb) RR.out.lp U kr;replace KT:=O<|Z5 (o2:= .loop rb) RR.out.lp U KT.out;have R1:=O<|ER r1 fun _ _ hk=>Z5 (o2:= .loop rb) RR.out.lp U hk;have R2:=O<|ER r2 fun _ _ hk=>Z5 (o2:= .loop rb) RR.out.lp U hk;replace OS:=O<|ER OS.out fun _ _ hk=>Z5 (o2:= .loop rb) RR.out.lp U hk;replace OR:=O<|ER OR.out fun _ _ hk=>Z5 (o2:= .loop rb) RR.out.lp U hk;have LP:Ea ((V2.putObj ll (.loop rb)).heap[ll]?=D (.loop rb)/\(V2.putObj ll (.loop rb)).heap[dd]?=D (.deferred (D []))):=O ⟨World.putObj_heap_same (Jt.1 RR.out.lp).1,(World.putObj_heap_other (fun e=>by have h1:=RR.out.lp;have h2:=RR.out.df;rw[e,h1] at h2;cases h2)).trans RR.out.df⟩;replace YS:=O<|YS.out.trans (Dp (o2:= .loop rb) RR.out.lp U RR.out.hl);have gP:Ea (hi<=(V2.putObj ll (.loop rb)).heap.size):=O (by rw[World.putObj_size];exact RR.out.gG);have Dv:=O RR.out.hga;have NR:Ea (ga≠gr):=O RR.out.ne;have HX3:=O<|Jm x1 x2;have HZ:=O hz;have R0:=O RR.out;have E56:=O<|Jm e5 e6;clear ka kr r1 r2 x1 x2 hz RR e5 e6;generalize V2.putObj ll (.loop rb)=V3 at*;obtain⟨av,yE⟩:=En ((J8 cn).toArray);have AE:Ea (tn.extract 0 (0+12)=av):=O (by rw[HTN.out,yE];exact Ehw _ _ _ U);have AS:Ea (av.size=12):=O (by rw[yE];rfl);have AO:Ea (av.all (·.oneCell')=u):=O (by rw[yE];exact all_oneCell_toArray (Ehy cn));have HAV:=O yE;have TH:Ea (V3.there ga 0 av.size):=O (by rw[AS.out];exact XN KA.out EEp);have AI:Ea ((Tryz.prog.info? 38).map (·.size)=D av.size):=O (by rw[AS.out];exact xW.2);clear yE;refine wpIn_block (wpIn_seq ?_);refine xr tG Ed ?_;go_wp2_with (first|(with_reducible refine wM (off:=0) (cs:=av) xW KT ?_ (hn:=AS.out) (he:=AE.out))|((with_reducible refine JE 38 ?_);(with_reducible refine OH rfl 38 _ _ rfl ga 0 av ?_ ?_ ?_ ?_ ?_ ?_);(·rfl);(·rfl);(·exact TH.out);(·exact AI.out);(·exact AO.out);refine Ev.mk ?_));apply Eo;rw[HAV.out,List.toList_toArray];have ka:=EhA (xY:=J8 cn) KA.out (i7 c0) (i7 cn);have on:=Jq (g:=ga) (J8 cn) 0 V3;replace KT:=O<|on.Ek KT.out NA.out.1.symm;replace KR:=O<|on.Ek KR.out NR.out.symm;replace LP:=O<|Jm ((on.keep _ (fun e=>by rw[e] at LP;have:=LP.out.1;rw[show V3.heap[ga]?=_ from KA.out] at this;cases this) (Jt.1 LP.out.1).1).trans LP.out.1) ((on.keep _ (fun e=>by rw[e] at LP;have:=LP.out.2;rw[show V3.heap[ga]?=_ from KA.out] at this;cases this) (Jt.1 LP.out.2).1).trans LP.out.2);replace YS:=O<|YS.out.trans (x_ on KA.out Eb Dv.out gP.out);replace OS:=O<|ER OS.out fun _ _ hk=>on.Ek hk (E5 hk KA.out Eb);replace OR:=O<|ER OR.out fun _ _ hk=>on.Ek hk (E5 hk KA.out Eb);replace R1:=O<|ER R1.out fun _ _ hk=>on.Ek hk (E5 hk KA.out Eb);replace R2:=O<|ER R2.out fun _ _ hk=>on.Ek hk (E5 hk KA.out Eb);replace gP:Ea (hi<=(V3.setCells ga 0 (J8 cn)).heap.size):=O<|EA gP.out on.size;replace KA:=O ka;clear ka on TH AE AS AO AI HAV;generalize V3.setCells ga 0 (J8 cn)=V4 at*;rw[HTN.out] at KT;go_wp2_with fail;refine wpIn_seq ?_;refine xr tG Ed ?_;have cA:=(tQ KA.out (i7 _)).1;have cT:=(tQ KT.out (i7 _)).1;obtain⟨iE,hI1,hI2,i8,i9⟩:=Tv;obtain⟨Dw,Dx,V5,hrun,oc,fF⟩:=Dl (P:=EU) (w:=V4) hi b 39 39 264 iE _ 2 32 Tryz.underlying39 hI1 hI2 i8 i9 U X (EI B3 m d3) m (MR.l) R1.out (EI B1 ns d1) ns (Du.l) OS.out Du.one EEq (by have:=NN.out;omega) gP.out;go_wp2_with ((with_reducible refine Is 30 ?_);(refine Ol (Ei U) (Up U U U hrun) ?_);refine Ev.mk ?_);apply Eo;have y5:=EEO R1.out fF Eb (E7 hi) gP.out;have o5: ∀{k:Nat} {o:Obj},V4.heap[k]?=D o->o.isCells=B->V5.heap[k]?=D o:=fun h1 h2=>Y0 R1.out fF h1 h2;have k5: ∀{k:Nat} {cs:Array V} {S:EC},S≠264->H V4 k cs S->H V5 k cs S:=fun hS hk=>rO R1.out fF hk hS;replace KA:=O<|k5 Eb KA.out;replace KT:=O<|k5 Eb KT.out;replace KR:=O<|k5 Eb KR.out;replace LP:=O<|Jm (o5 LP.out.1 rfl) (o5 LP.out.2 rfl);replace YS:=O<|YS.out.trans y5;replace R2:=O<|ER R2.out fun _ _ hk=>k5 Eb hk;replace OR:=O<|ER OR.out fun _ _ hk=>k5 Eb hk;replace R1:=O oc;have rd:Ea (hi<=V5.heap.size):=O<|EA gP.out y5.bel.size;clear hrun oc fF y5 o5 k5 cA cT hI1 hI2 i8 i9;have cA:=(tQ KA.out (i7 _)).1;have fA:=H.JX KA.out 12;go_wp2_with fail;have ka:=EhB (EI Dw (m+ns) Dx) KA.out (i7 _);have on:=J6 (g:=ga) (W:=V5) 12 (EI Dw (m+ns) Dx);replace KT:=O<|on.Ek KT.out NA.out.1.symm;replace KR:=O<|on.Ek KR.out NR.out.symm;replace LP:=O<|Jm ((on.keep _ (fun e=>by rw[e] at LP;have:=LP.out.1;rw[show V5.heap[ga]?=_ from KA.out] at this;cases this) (Jt.1 LP.out.1).1).trans LP.out.1) ((on.keep _ (fun e=>by rw[e] at LP;have:=LP.out.2;rw[show V5.heap[ga]?=_ from KA.out] at this;cases this) (Jt.1 LP.out.2).1).trans LP.out.2);replace YS:=O<|YS.out.trans (x_ on KA.out Eb Dv.out rd.out);replace R2:=O<|ER R2.out fun _ _ hk=>on.Ek hk (E5 hk KA.out Eb);replace OR:=O<|ER OR.out fun _ _ hk=>on.Ek hk (E5 hk KA.out Eb);replace R1:=O<|ER R1.out fun _ _ hk=>on.Ek hk (E5 hk KA.out Eb);replace gP:=O<|EA rd.out on.size;replace KA:=O ka;clear ka on cA fA rd;generalize V5.setCell ⟨ga,12,Z⟩ (EI Dw (m+ns) Dx)=V6 at*;refine wpIn_seq ?_;refine xr tG Ed ?_;have cA:=(tQ KA.out (i7 _)).2;have cT:=(tQ KT.out (i7 _)).2;obtain⟨iE,hI1,hI2,i8,i9⟩:=Tk;obtain⟨Dy,c9b,V8,hrun,oc,fF⟩:=Dl (P:=EU) (w:=V6) hi b 40 40 58 iE _ 6 48 Tryz.underlying40 hI1 hI2 i8 i9 U X (EI B4 new.length d4) new.length (Uh new) R2.out (EI B2 nw.length d2) nw.length (Uh nw) OR.out (EhF nw) EEq (by have:=NN.out;omega) gP.out;go_wp2_with ((with_reducible refine Is 36 ?_);(refine Ol (Ei U) (Up U U U hrun) ?_);refine Ev.mk ?_);apply Eo;have y5:=EEO R2.out fF Eb (E7 hi) gP.out;have o5: ∀{k:Nat} {o:Obj},V6.heap[k]?=D o->o.isCells=B->V8.heap[k]?=D o:=fun h1 h2=>Y0 R2.out fF h1 h2;have k5: ∀{k:Nat} {cs:Array V} {S:EC},S≠58->H V6 k cs S->H V8 k cs S:=fun hS hk=>rO R2.out fF hk hS;replace KA:=O<|k5 Eb KA.out;replace KT:=O<|k5 Eb KT.out;replace KR:=O<|k5 Eb KR.out;replace LP:=O<|Jm (o5 LP.out.1 rfl) (o5 LP.out.2 rfl);replace YS:=O<|YS.out.trans y5;replace R1:=O<|ER R1.out fun _ _ hk=>k5 Eb hk;replace R2:=O oc;have rd:Ea (hi<=V8.heap.size):=O<|EA gP.out y5.bel.size;clear hrun oc fF y5 o5 k5 cA cT hI1 hI2 i8 i9;have cA:=(tQ KA.out (i7 _)).2;have fA:=H.JX KA.out 13;go_wp2_with fail;have ka:=EhC (EI Dy (new.length+nw.length) c9b) KA.out (i7 _);have on:=J6 (g:=ga) (W:=V8) 13 (EI Dy (new.length+nw.length) c9b);replace KT:=O<|on.Ek KT.out NA.out.1.symm;replace KR:=O<|on.Ek KR.out NR.out.symm;replace LP:=O<|Jm ((on.keep _ (fun e=>by rw[e] at LP;have:=LP.out.1;rw[show V8.heap[ga]?=_ from KA.out] at this;cases this) (Jt.1 LP.out.1).1).trans LP.out.1) ((on.keep _ (fun e=>by rw[e] at LP;have:=LP.out.2;rw[show V8.heap[ga]?=_ from KA.out] at this;cases this) (Jt.1 LP.out.2).1).trans LP.out.2);replace YS:=O<|YS.out.trans (x_ on KA.out Eb Dv.out rd.out);replace R1:=O<|ER R1.out fun _ _ hk=>on.Ek hk (E5 hk KA.out Eb);replace R2:=O<|ER R2.out fun _ _ hk=>on.Ek hk (E5 hk KA.out Eb);replace gP:=O<|EA rd.out on.size;replace KA:=O ka;clear ka on cA fA rd;generalize V8.setCell ⟨ga,13,Z⟩ (EI Dy (new.length+nw.length) c9b)=V9 at*;have UE:Ea ((Jb (J8 cn) (EI B1 ns d1) (EI B2 nw.length d2) hd2).toArray.extract 14 (14+32)=Ej hd2):=O<|Ehx _ _ _ U NN.out.1;have US:Ea ((Ej hd2).size=32):=O (by rw[Om,NN.out.1]);have UI:Ea ((Tryz.prog.info? 41).map (·.size)=D (Ej hd2).size):=O (by rw[US.out];exact J7.2);have UO:=O<|Xt hd2;have TH:Ea (V9.there ga 14 (Ej hd2).size):=O (by rw[US.out];exact XN KA.out EEp);obtain⟨uv,huv⟩:=En (Ej hd2);rw[<-huv] at UE US UI UO TH;have HUV:=O huv;clear huv;refine xr tG Ed ?_;go_wp2_with (first|(with_reducible refine wM (off:=14) (cs:=uv) J7 KT ?_ (hn:=US.out) (he:=UE.out))|((with_reducible refine JE 41 ?_);(with_reducible refine OH rfl 41 _ _ rfl ga 14 uv ?_ ?_ ?_ ?_ ?_ ?_);(·rfl);(·rfl);(·exact TH.out);(·exact UI.out);(·exact UO.out);refine Ev.mk ?_));apply Eo;rw[HUV.out,show(Ej hd2).toList=hd2.map (E .u8) from rfl];have ka:=EhD (hd2:=hd2) KA.out (i7 _) HX3.out.1 NN.out.1;have on:=Jq (g:=ga) (hd2.map (E .u8)) 14 V9;replace KR:=O<|on.Ek KR.out NR.out.symm;replace LP:=O<|Jm ((on.keep _ (fun e=>by rw[e] at LP;have:=LP.out.1;rw[show V9.heap[ga]?=_ from KA.out] at this;cases this) (Jt.1 LP.out.1).1).trans LP.out.1) ((on.keep _ (fun e=>by rw[e] at LP;have:=LP.out.2;rw[show V9.heap[ga]?=_ from KA.out] at this;cases this) (Jt.1 LP.out.2).1).trans LP.out.2);replace YS:=O<|YS.out.trans (x_ on KA.out Eb Dv.out gP.out);replace R1:=O<|ER R1.out fun _ _ hk=>on.Ek hk (E5 hk KA.out Eb);replace R2:=O<|ER R2.out fun _ _ hk=>on.Ek hk (E5 hk KA.out Eb);replace KA:=O ka;clear ka on TH UE US UI UO HUV KT;generalize V9.setCells ga 14 (hd2.map (E .u8))=V10 at*;go_wp2_with fail;refine⟨_,_,run_endRound Z LP.out.1,U,?_,?_⟩
  ·rw[HRB.out,EhG E56.out.1 E56.out.2];refine⟨⟨Dw,Dy,Dx,c9b,⟨MR.l++Du.l,fun Y3 hu=>(XP.1 hu).elim (MR.one Y3) (Du.one Y3)⟩,hd2,?_,NN.out.1,NN.out.2.1,ER R1.out fun _ _ hk=>Z5 LP.out.1 rfl hk,?_⟩,⟨z,HZ.out,Z5 LP.out.1 rfl KR.out⟩,NR.out,World.putObj_heap_same (Jt.1 LP.out.1).1,(World.putObj_heap_other (fun e=>by have h1:=LP.out.1;have h2:=LP.out.2;rw[e,h1] at h2;cases h2)).trans LP.out.2,R0.out.hga,R0.out.hgr,R0.out.hl,R0.out.hD,R0.out.lh⟩;·rw[I2];exact Z5 LP.out.1 rfl KA.out
   ·rw[Px,I2];exact ER R2.out fun _ _ hk=>Z5 LP.out.1 rfl hk
  ·exact YS.out.trans (Dp LP.out.1 rfl R0.out.hl)
 change Ef _ _ #[.func (.yield ll) #[] #[],Y (D ⟨MN,0,Z⟩),Y (D ⟨gb,0,Z⟩)] _ _;refine(Ehs lo hi ll MN gb g a c rs e A d (aH lo hi ga gr ll dd rc) w6 YL M6.out MQ.out R6.out EE.out HB.out OWN.out.row).mono ?_;rintro e7 w7 ⟨⟨v7,rfl⟩,c7,rs7,m7,Dz,mb7,bG,sw7,EEu,mu7⟩;obtain⟨A3,A4,c3,c4,sc4,hd4,ka,x1,x2,r1,r2⟩:=bG.all;obtain⟨z,hz,kr⟩:=bG.res;obtain⟨rx,hrx⟩:=En ({rc with state:= .exhausted}:Loop);have hend:(Instr.endLoop ll).run EU w7= .ok Z (w7.putObj ll (.loop rx)):=by have h:=run_endLoop (P:=EU) bG.lp (by rw[e5];simp);rw[<-hrx,e6] at h;exact h
 refine⟨Z,_,hend,?_⟩;have y8:=Dp (o2:= .loop rx) bG.lp U bG.hl;have KA:=O<|Z5 (o2:= .loop rx) bG.lp U ka;have KR:=O<|Z5 (o2:= .loop rx) bG.lp U kr;have R1:=O<|ER r1 fun _ _ hk=>Z5 (o2:= .loop rx) bG.lp U hk;have R2:=O<|ER r2 fun _ _ hk=>Z5 (o2:= .loop rx) bG.lp U hk;have DF:Ea ((w7.putObj ll (.loop rx)).heap[dd]?=D (.deferred (D []))):=O<|(World.putObj_heap_other (fun e=>by have h1:=bG.lp;have h2:=bG.df;rw[e,h1] at h2;cases h2)).trans bG.df;have MB:=O<|mb7.y y8 Z4.out;replace MU:=O<|MU.out.trans (mu7.trans (JN.tP y8 Z4.out));have HZ:=O hz;have RD:=O<|Jm bG.hgr (Jm bG.hD (Jm bG.ne (Jm x1 (Jm x2 (Jm sw7 EEu)))));clear hend hrx y8 ka kr r1 r2 hz bG mb7 mu7 x1 x2 sw7 EEu e1 e2 e3 e4 e5 e6 oZ YL M6 MQ R6 EE HB OWN;have HW8:Ea (hi<=(w7.putObj ll (.loop rx)).heap.size):=O (by have:=KR.out.lt;have:=RD.out.1;omega);generalize w7.putObj ll (.loop rx)=w8 at*;obtain⟨tw,MS⟩: ∃tw,tw=(Jb (J8 c7) (EI A3 m7 c3) (EI A4 Dz.length c4) hd4).toArray:=⟨_,U⟩;have WS:=O<|iV (J8 c7) (EI A3 m7 c3) (EI A4 Dz.length c4) hd4 U RD.out.2.2.2.1;have WO:=O<|mI c7 A3 A4 m7 Dz.length c3 c4 hd4;rw[<-MS] at WS WO KA;have HTW:=O MS;clear MS;go_wp2_with (with_reducible first|refine wL ZD KA ?_ (hn:=WS.out)|refine wS (cs:=tw) ZD KR ?_ (ho:=HZ.out) (hn:=WS.out) (h1:=WO.out));have on:=On (g:=gr) (W:=w8) tw;have KF:=KR.out.setRow tw;have yI:(w8.setRow gr tw).heap[dd]?=D (.deferred (D [])):=(on.keep _ (fun e=>by have h1:=DF.out;rw[e,show w8.heap[gr]?=_ from KR.out] at h1;cases h1) (Jt.1 DF.out).1).trans DF.out;refine⟨Eh,.inl ⟨_,_,U,run_takeDeferred yI,_,Jl ZD U _ _ gr tw U (Z5 yI U KF) WS.out,?_⟩⟩;have yy:=(x_ on KR.out Eb RD.out.1 HW8.out).trans (Dp (o2:= .deferred Z) yI U RD.out.2.1);have hh:hi=w.heap.size:=by have:=cM.out;omega
 subst hh;refine⟨c7,rs7,m7,Dz,A3,A4,c3,c4,sc4,hd4,by rw[HTW.out],RD.out.2.2.2.1,RD.out.2.2.2.2.1,ER R1.out fun _ _ hk=>Z5 yI U (on.Ek hk (E5 hk KR.out Eb)),ER R2.out fun _ _ hk=>Z5 yI U (on.Ek hk (E5 hk KR.out Eb)),MB.out.y yy Z4.out,RD.out.2.2.2.2.2.1,RD.out.2.2.2.2.2.2,MU.out.trans (JN.tP yy Z4.out)⟩
def Xp(x lo hi:Int):Bool:=decide (lo<=x)&&decide (x<=hi)
theorem EhQ(lo hi:Int)(w:M): Ef EU 66 #[E I lo,E I hi] w fun e w'=>e=Eg (.func (.func 80) #[] #[Y (D ⟨w.heap.size,0,Z⟩),Y (D ⟨w.heap.size+1,0,Z⟩)])/\w'=((w.alloc (EJ #[E I lo] 3)).alloc (EJ #[E I hi] 3)):=by go_enter Tryz.func66,Tryz.ntmps66;exact Els
theorem rf(x lo hi:Int)(a b:Nat)(w:M)(ha:w.cell? ⟨a,0,Z⟩=D (E I lo))(hb:w.cell? ⟨b,0,Z⟩=D (E I hi)): Ef EU 80 #[E I x,Y (D ⟨a,0,Z⟩),Y (D ⟨b,0,Z⟩)] w fun e w'=>e=Eg (Ec (Xp x lo hi))/\w=w':=by
 unfold Xp;by_cases h1:lo<=x;·have t1:decide (lo<=x)=u:=Ib h1;go_enter Tryz.func80,Tryz.ntmps80;exact EoJ
 ·have t1:decide (lo<=x)=B:=IJ h1;go_enter Tryz.func80,Tryz.ntmps80;exact EoJ
def DB(w:M)(f:FuncId)(cap:Array V)(vs:List V)(pr:V->Bool):Prop:=
 jj f/\ ∀v∈vs,∀W,El w W->Ef EU f (#[v]++cap) W fun e w'=>e=Eg (Ec (pr v))/\El W w'
theorem MT{pr:V->Bool}{L:List V}(hv:L[k]?=D v)(h:(L.take k).all pr=u):((L.take (k+1)).all pr=pr v)/\(pr v=B->L.all pr=B):=by
 refine⟨?_,fun hf=> ?_⟩;·rw[nm,hv,List.all_append,h];simp
 ·rw[List.all_eq_false];exact⟨v,dw hv,by rw[hf];simp⟩
theorem EhR:Od EU 25 #[E I 0,E I 0,E I 0,E I 0]:=by exact El7
theorem oh(f:FuncId)(cap:Array V)(L:List V)(pr:V->Bool)(b off n c:Nat)(w:M)(hn:L.length=n)(hs:n<=1000000)(hf:DB w f cap L pr)(hl: ∀i v,L[i]?=D v->w.cell? ⟨b,off+i,Z⟩=D v): Ef EU 62 #[EI (D ⟨b,off,Z⟩) n c,.func (.func f) #[] cap] w fun e w'=>e=Eg (Ec (L.all pr))/\El w w':=by
 have HE:=hf.1;unfold jj at HE;have HC:=O hf.2;have HL:=O hl;have HN:=O hn;obtain⟨r,hr⟩:=En (L.all pr);rw[<-hr];replace hr:=O hr;clear hf hl hn;go_enter Tryz.func62,Tryz.ntmps62;go_wp2_with fail;go_loopw[9] (fun y wr=> ∃k:Nat,k<=n/\y=E I k/\El w wr/\(L.take k).all pr=u) (fun y _=>n-(Iv y).toNat);case atStart=>exact⟨0,X,U,IE _ _,U⟩
 case round=>
  obtain⟨k,hk,rfl,bb,ht⟩:=hrel;have BB:=O bb;have HT:=O ht;clear bb ht;by_cases hlt:k<n
  ·have t1:decide ((k:Int)<(n:Int))=u:=Ib X;obtain⟨v,hv⟩: ∃v,L[k]?=D v:=⟨L[k]' mY,Ok _⟩;have cv:wr.cell? ⟨b,off+k,Z⟩=D v:=(BB.out.cell (XA _ _ (HL.out k v hv))).trans (HL.out k v hv);have CV:=O<|HC.out _ (dw hv) wr BB.out;have AT:=O<|MT hv HT.out;clear hv;go_wp2_with fail;refine CV.out.mono ?_;rintro e w2 ⟨rfl,b2⟩;replace BB:=EW BB b2;clear b2;cases hp:pr v with
   |true=> go_wp2_with fail;exact⟨⟨k+1,X,Eh,BB.out,MV⟩,Jv⟩
   |false=> go_wp2_with fail;go_ret;exact⟨MW,BB.out⟩
  ·exact Emb
theorem EhS(f:FuncId)(cap:Array V)(L:List V)(pr:V->Bool)(b off n c:Nat)(w:M)(hn:L.length=n)(hs:n<=1000000)(hf:DB w f cap L pr)(hl: ∀i v,L[i]?=D v->w.cell? ⟨b,off+i,Z⟩=D v): Ef EU 60 #[EI (D ⟨b,off,Z⟩) n c,.func (.func f) #[] cap] w fun e w'=>e=Eg (Ec (L.all pr))/\El w w':=by
 have HE:=hf.1;unfold jj at HE;have HC:=O hf.2;have HL:=O hl;have HN:=O hn;obtain⟨r,hr⟩:=En (L.all pr);rw[<-hr];replace hr:=O hr;clear hf hl hn;go_enter Tryz.func60,Tryz.ntmps60;go_wp2_with fail;go_loopw[9] (fun y wr=> ∃k:Nat,k<=n/\y=E I k/\El w wr/\(L.take k).all pr=u) (fun y _=>n-(Iv y).toNat);case atStart=>exact⟨0,X,U,IE _ _,U⟩
 case round=>
  obtain⟨k,hk,rfl,bb,ht⟩:=hrel;have BB:=O bb;have HT:=O ht;clear bb ht;by_cases hlt:k<n
  ·have t1:decide ((k:Int)<(n:Int))=u:=Ib X;obtain⟨v,hv⟩: ∃v,L[k]?=D v:=⟨L[k]' mY,Ok _⟩;have cv:wr.cell? ⟨b,off+k,Z⟩=D v:=(BB.out.cell (XA _ _ (HL.out k v hv))).trans (HL.out k v hv);have CV:=O<|HC.out _ (dw hv) wr BB.out;have AT:=O<|MT hv HT.out;clear hv;go_wp2_with fail;refine CV.out.mono ?_;rintro e w2 ⟨rfl,b2⟩;replace BB:=EW BB b2;clear b2;cases hp:pr v with
   |true=> go_wp2_with fail;exact⟨⟨k+1,X,Eh,BB.out,MV⟩,Jv⟩
   |false=> go_wp2_with fail;go_ret;exact⟨MW,BB.out⟩
  ·exact Emb
theorem EhT(f:FuncId)(cap:Array V)(L:List V)(pr:V->Bool)(b off n c:Nat)(w:M)(hn:L.length=n)(hs:n<=1000000)(hf:DB w f cap L pr)(S:EC)(CS:Array V)(kb:H w b CS S)(ho: ∀row:Array V,EZ row∈L->row.all (·.oneCell')=u)(hl: ∀i v,L[i]?=D v-> ∃row:Array V,v=EZ row/\row.size=4/\CS.extract (off+i*4) (off+i*4+4)=row): Ef EU 64 #[EI (D ⟨b,off,Z⟩) n c,.func (.func f) #[] cap] w fun e w'=>e=Eg (Ec (L.all pr))/\El w w':=by
 have HE:=hf.1;have KB:=O kb;have HO:=O ho;unfold jj at HE;have HC:=O hf.2;have HL:=O hl;have HN:=O hn;obtain⟨r,hr⟩:=En (L.all pr);rw[<-hr];replace hr:=O hr;clear hf hl hn kb ho;go_enter Tryz.func64,Tryz.ntmps64;go_wp2_with fail;go_loopw[9] (fun y wr=> ∃k:Nat,k<=n/\y=E I k/\El w wr/\(L.take k).all pr=u) (fun y _=>n-(Iv y).toNat);case atStart=>exact⟨0,X,U,IE _ _,U⟩
 case round=>
  obtain⟨k,hk,rfl,bb,ht⟩:=hrel;have BB:=O bb;have HT:=O ht;clear bb ht;by_cases hlt:k<n
  ·have t1:decide ((k:Int)<(n:Int))=u:=Ib X;obtain⟨v,hv⟩: ∃v,L[k]?=D v:=⟨L[k]' mY,Ok _⟩;obtain⟨row,rfl,hrs,hre⟩:=HL.out k v hv;have KK:=EQ KB BB.out;have cF:=O hrs;have MY:=O hre;clear hrs hre;have RO:Ea (row.all (·.oneCell')=u):=O<|HO.out row (dw hv);have K0:=O<|H.new wr #[E I 0,E I 0,E I 0,E I 0] 25;have b3:=Ep wr (EJ #[E I 0,E I 0,E I 0,E I 0] 25);have HV:=O<|dw hv;have AT:=O<|MT hv HT.out;clear hv;go_wp2_with (with_reducible first|refine wM (off:=off+k*4) (cs:=row) wy KK ?_ (hn:=cF.out) (he:=MY.out)|refine wA EhR ?_|refine wS (cs:=row) wy K0 (Ev.mk ?_) (hn:=cF.out) (h1:=RO.out));apply Eo;obtain⟨gx,hgx⟩:=En wr.heap.size;rw[<-hgx] at K0⊢;generalize wr.alloc (EJ #[E I 0,E I 0,E I 0,E I 0] 25)=Xz at*;have KX:=O<|K0.out.setRow row;have b4:=E3 (g:=gx) b3 (OQ hgx.symm) row;generalize Xz.setRow gx row=Jx at*;clear K0 b3 hgx;have CV:=O<|HC.out _ HV.out Jx (bt BB.out b4);replace BB:=EW BB b4;clear b4;go_wp2_with (with_reducible refine wL wy KX ?_ (hn:=cF.out));refine CV.out.mono ?_;rintro e w2 ⟨rfl,b2⟩;replace BB:=EW BB b2;clear b2;cases hp:pr (EZ row) with
   |true=> go_wp2_with fail;exact⟨⟨k+1,X,Eh,BB.out,MV⟩,Jv⟩
   |false=> go_wp2_with fail;go_ret;exact⟨MW,BB.out⟩
  ·exact Emb
def Uz(lo hi:Int)(v:V):Bool:=match v with
 | .int _ x=>Xp x lo hi
 |_=>B
def M0(v:V):Bool:=match v with
 |EI _ n _=>Xp n 1 64
 |_=>B
def rh(v:V):Bool:=match v with
 | .int _ x=>Xp x 0 15&&x%2==0
 |_=>B
def tR(v:V):Bool:=match v with
 |EZ a=>a.toList.all (Uz 0 15)
 |_=>B
def ri(o1 o2 o3:Int)(v:V):Bool:=match v with
 | .int _ x=>decide (x∈[o1,o2,o3])
 |_=>B
def Um(lo hi:Int)(v:V)(w:M):Prop:= ∃a b:Nat,v= .func (.func 80) #[] #[Y (D ⟨a,0,Z⟩),Y (D ⟨b,0,Z⟩)]/\w.cell? ⟨a,0,Z⟩=D (E I lo)/\w.cell? ⟨b,0,Z⟩=D (E I hi)
theorem Um.G{lo hi:Int}(h:Um lo hi v w)(hb:El w w'):Um lo hi v w':=by obtain⟨a,b,e,ca,cb⟩:=h;exact⟨a,b,e,(hb.cell (XA _ _ ca)).trans ca,(hb.cell (XA _ _ cb)).trans cb⟩
theorem gQ(lo hi:Int)(w:M):Ef EU 66 #[E I lo,E I hi] w fun e w'=> ∃v,e=Eg v/\Um lo hi v w'/\El w w':=by
 refine(EhQ lo hi w).mono ?_;rintro e w' ⟨rfl,rfl⟩;refine⟨_,U,⟨_,_,U,?_,?_⟩,J9 _ _ _⟩;·exact(H.cell (H.G (H.new w #[E I lo] 3) (Ep _ _)) 0).trans U
 ·simp
theorem Um.ok{lo hi:Int}(h:Um lo hi v w): ∃cap,v= .func (.func 80) #[] cap/\ ∀vs:List V,(∀Y3∈vs,∃x,Y3=E I x)->DB w 80 cap vs (Uz lo hi):=by obtain⟨a,b,e,ca,cb⟩:=h;refine⟨_,e,fun vs hvs=>⟨fun _ _=>Ed,fun Y3 hu W hW=> ?_⟩⟩;obtain⟨x,rfl⟩:=hvs Y3 hu;refine(rf x lo hi a b W ((hW.cell (XA _ _ ca)).trans ca) ((hW.cell (XA _ _ cb)).trans cb)).mono ?_;rintro e w' ⟨rfl,rfl⟩;exact⟨U,IE _ _⟩
theorem EEw(A:Option Eu)(n c:Nat)(w:M): Ef EU 61 #[EI A n c] w fun e w'=>e=Eg (Ec (Xp n 1 64))/\w=w':=by
 unfold Xp;by_cases h1:(1:Int)<=n;·have t1:decide ((1:Int)<=(n:Int))=u:=Ib h1;go_enter Tryz.func61,Tryz.ntmps61;exact EoJ
 ·have t1:decide ((1:Int)<=(n:Int))=B:=IJ h1;go_enter Tryz.func61,Tryz.ntmps61;exact EoJ
theorem EhV(x:Int)(w:M)(hx:JI x): Ef EU 63 #[E I x] w fun e w'=>e=Eg (Ec (rh (E I x)))/\El w w':=by
 unfold rh;cases hb:Xp x 0 15 with
 |true=>
  have h0:0<=x/\x<=15:=by unfold Xp at hb;simpa using hb
  simp only[Bool.true_and];obtain⟨r,hr⟩:=En ((x%2==0));rw[<-hr];have hm:x.tmod 2=x%2:=Int.tmod_eq_emod_of_nonneg h0.1;have hr2:(x.tmod 2==0)=r:=by rw[hm,hr]
  have HB:=O hb;have HRR:=O hr;clear hr hm hb;go_enter Tryz.func63,Tryz.ntmps63;go_wp2_with fail;refine(gQ 0 15 _).mono ?_;rintro e w1 ⟨v,rfl,⟨a,b,rfl,ca,cb⟩,b1⟩;go_wp2_with fail;refine(rf x 0 15 a b _ ca cb).mono ?_;rintro e w2 ⟨rfl,rfl⟩;rw[HB.out];go_wp2_with fail;go_ret;exact⟨by rw[HB.out,HRR.out];rfl,b1⟩
 |false=> simp only[Bool.false_and];have HB:=O hb;clear hb;go_enter Tryz.func63,Tryz.ntmps63;go_wp2_with fail;refine(gQ 0 15 _).mono ?_;rintro e w1 ⟨v,rfl,⟨a,b,rfl,ca,cb⟩,b1⟩;go_wp2_with fail;refine(rf x 0 15 a b _ ca cb).mono ?_;rintro e w2 ⟨rfl,rfl⟩;rw[HB.out];go_wp2_with fail;go_ret;exact⟨by rw[HB.out];rfl,b1⟩
theorem EhW(L:List Int)(x:Int)(b off n c:Nat)(w:M)(hn:L.length=n)(hs:n<=1000000)(hl: ∀i v,L[i]?=D v->w.cell? ⟨b,off+i,Z⟩=D (E I v)): Ef EU 110 #[EI (D ⟨b,off,Z⟩) n c,E I x] w fun e w'=>(∃r:Int,e=Eg (E I r)/\(0<=r↔x∈L))/\w=w':=by
 have HL:=O hl;have HN:=O hn;clear hl hn;go_enter Tryz.func110,Tryz.ntmps110;go_wp2_with fail;go_loop [8] (fun y=> ∃k:Nat,k<=n/\y=E I k/\ ∀j v,j<k->L[j]?=D v->v≠x) (fun y=>n-(Iv y).toNat);case atStart=>exact⟨0,X,U,fun j v h=>X⟩
 case round=>
  obtain⟨k,hk,rfl,ht⟩:=hrel;have HT:=O ht;clear ht;by_cases hlt:k<n
  ·have t1:decide ((k:Int)<(n:Int))=u:=Ib X;obtain⟨v,hv⟩: ∃v,L[k]?=D v:=⟨L[k]' mY,Ok _⟩;have cv:w.cell? ⟨b,off+k,Z⟩=D (E I v):=HL.out k v hv;have HV:=O hv;clear hv;by_cases hx:x=v;·have t2:(x==v)=u:=uB;go_wp2_with fail;go_ret;refine⟨⟨(k:Int),U,?_⟩,U⟩;exact⟨fun _=>by first|exact dw HV.out|(rw[hx];exact dw HV.out),fun _=>X⟩
   ·have t2:(x==v)=B:=uB;go_wp2_with fail;refine⟨⟨k+1,X,Eh,fun j Y3 hj hu=> ?_⟩,Jv⟩;by_cases hjk:j<k;·exact HT.out j Y3 hjk hu
    ·obtain rfl:j=k:=X;have:=HV.out.symm.trans hu;injection this with this;rw[<-this];exact fun e=>hx e.symm
  ·obtain rfl:k=n:=X;have t1:decide ((k:Int)<(k:Int))=B:=IJ X;go_wp2_with fail;go_ret;refine⟨⟨-1,U,?_⟩,U⟩;refine⟨fun h=>absurd h X,fun hm=> ?_⟩;exfalso;obtain⟨j,hj⟩:=aP.1 hm;exact HT.out j x (by have:=(UG.1 hj).1;rw[HN.out] at this;exact this) hj U
theorem EhY(L:List Int)(x:Int)(bo:Bool)(aa:bo=decide (x∈L))(b off n c:Nat)(w:M)(hn:L.length=n)(hs:n<=1000000)(hl: ∀i v,L[i]?=D v->w.cell? ⟨b,off+i,Z⟩=D (E I v)): Ef EU 79 #[EI (D ⟨b,off,Z⟩) n c,E I x] w fun e w'=>e=Eg (Ec bo)/\w=w':=by
 have CI:=O<|EhW L x b off n c w hn hs hl;clear hl hn;go_enter Tryz.func79,Tryz.ntmps79;go_wp2_with fail;refine CI.out.mono ?_;rintro e w2 ⟨⟨r,rfl,hr⟩,rfl⟩;have tb:decide (0<=r)=bo:=by rw[aa];exact decide_eq_decide.2 hr
 clear aa hr;exact Els
theorem Eh0(x o0 o1 o2 o3 o4:Int)(b:Nat)(w:M)(kb:H w b #[E I o0,E I o1,E I o2,E I o3,E I o4] 22): Ef EU 78 #[E I x,Y (D ⟨b,0,Z⟩)] w fun e w'=>e=Eg (Ec (ri o1 o2 o3 (E I x)))/\w=w':=by
 obtain⟨bo,aa⟩: ∃bo,bo=ri o1 o2 o3 (E I x):=⟨_,U⟩;rw[<-aa]
 have CT:=O (EhY [o1,o2,o3] x bo aa b 1 3 4 w U X (fun i v hi=>by
  match i,hi with
  |0,hi=>injection hi with hi;rw[<-hi];exact(H.cell kb 1).trans U
  |1,hi=>injection hi with hi;rw[<-hi];exact(H.cell kb 2).trans U
  |2,hi=>injection hi with hi;rw[<-hi];exact(H.cell kb 3).trans U))
 clear aa kb;go_enter Tryz.func78,Tryz.ntmps78;go_wp2_with fail;refine CT.out.mono ?_;rintro e w2 ⟨rfl,rfl⟩;exact Els
def DC(o0 o1 o2 o3 o4:Int):Bool:=(o0==0&&o4==4)&&[E .i64 1,E I 2,E I 3].all (ri o1 o2 o3)
theorem Eh1(o0 o1 o2 o3 o4:Int)(w:M): Ef EU 59 #[EZ #[E I o0,E I o1,E I o2,E I o3,E I o4]] w fun e w'=>e=Eg (Ec (DC o0 o1 o2 o3 o4))/\El w w':=by
 unfold DC;obtain⟨bo,aa⟩: ∃bo,bo=[E .i64 1,E I 2,E I 3].all (ri o1 o2 o3):=⟨_,U⟩;rw[<-aa];replace aa:=O aa;by_cases h0:o0=0
 ·have t0:(o0 !=0)=B:=tx;by_cases h4:o4=4
  ·have t4:(o4 !=4)=B:=iI;have eb:((o0==0&&o4==4)&&bo)=bo:=by rw[h0,h4];rfl
   rw[eb];clear eb h0 h4;have KB:=O<|H.new w #[E I o0,E I o1,E I o2,E I o3,E I o4] 22;have b1:=Ep w (EJ #[E I o0,E I o1,E I o2,E I o3,E I o4] 22);have b2:=Ep (w.alloc (EJ #[E I o0,E I o1,E I o2,E I o3,E I o4] 22)) (EJ #[E I 1,E I 2,E I 3] 3);have KA:=EQ KB b2;have KI:=H.new (w.alloc (EJ #[E I o0,E I o1,E I o2,E I o3,E I o4] 22)) #[E I 1,E I 2,E I 3] 3;rw[World.size_alloc] at KI
   have AL:=O (oh 78 #[Y (D ⟨w.heap.size,0,Z⟩)] [E I 1,E I 2,E I 3] (ri o1 o2 o3) (w.heap.size+1) 0 3 3 _ U X ⟨fun _ _=>Ed,fun v hv W hW=>by
    obtain⟨x,rfl⟩: ∃x,v=E I x:=by simp only[Ui,UP,or_false] at hv;rcases hv with rfl|rfl|rfl<;>exact⟨_,rfl⟩
    refine(Eh0 x o0 o1 o2 o3 o4 w.heap.size W (H.G KA.out hW)).mono ?_;rintro e w' ⟨rfl,rfl⟩;exact⟨U,IE _ _⟩⟩ (fun i v hi=>by
    match i,hi with
    |0,hi=>injection hi with hi;rw[<-hi];exact(H.cell KI 0).trans U
    |1,hi=>injection hi with hi;rw[<-hi];exact(H.cell KI 1).trans U
    |2,hi=>injection hi with hi;rw[<-hi];exact(H.cell KI 2).trans U))
   have BB:=O<|bt b1 b2;clear KB b1 b2 KA KI;go_enter Tryz.func59,Tryz.ntmps59;go_wp2_with fail;refine AL.out.mono ?_;rintro e w3 ⟨rfl,b3⟩;rw[<-aa.out];go_wp2_with fail;go_ret;exact⟨U,bt BB.out b3⟩
  ·have t4:(o4 !=4)=u:=iI;have eb:((o0==0&&o4==4)&&bo)=B:=iI;rw[eb];clear eb h0 h4;exact EqE
 ·have t0:(o0 !=0)=u:=tx;have eb:((o0==0&&o4==4)&&bo)=B:=tx;rw[eb];clear eb h0;exact EqE
theorem tS{vs:List V}{L:List Int}(h:vs=L.map (E .i64)): ∀Y3∈vs,∃x,Y3=E .i64 x:=by subst h;intro Y3 hu;obtain⟨x,-,e⟩:=da.1 hu;exact⟨x,e.symm⟩
theorem Eh2(r0 r1 r2 r3:Int)(w:M): Ef EU 65 #[EZ #[E I r0,E I r1,E I r2,E I r3]] w fun e w'=>e=Eg (Ec (tR (EZ #[E I r0,E I r1,E I r2,E I r3])))/\El w w':=by
 obtain⟨bo,aa⟩: ∃bo,bo=tR (EZ #[E I r0,E I r1,E I r2,E I r3]):=⟨_,U⟩;rw[<-aa];have HBO:Ea (bo=([r0,r1,r2,r3].map (E .i64)).all (Uz 0 15)):=O (by rw[aa];rfl);have K0:=O<|H.new w #[E I r0,E I r1,E I r2,E I r3] 25;have b1:=Ep w (EJ #[E I r0,E I r1,E I r2,E I r3] 25);clear aa;go_enter Tryz.func65,Tryz.ntmps65;go_wp2_with fail;obtain⟨gb,hgb⟩:=En w.heap.size;rw[<-hgb] at K0⊢;have KB:=O K0.out;have BB:=O b1;clear K0 b1;generalize w.alloc (EJ #[E I r0,E I r1,E I r2,E I r3] 25)=w1 at*;refine iA (Ph:=fun _ wq=>El w1 wq) (Rel:=Oa) (Ij:=fun w w'=>w=w') [kq (EI (D ⟨gb,0,Z⟩) 4 4),.dep (Um 0 15) (fun v w w' h hr=>h.G hr) (fun v w w' h hr=>aX),kq (Ec bo),kq (Ec bo)] [B,B,B,B] U [] [(0,0),(0,0),(0,0),(0,0)] Ed Ed Ed Ed Ed U_ Ed ?hPh ?h0 ?hstep ?hend;case hPh=> intro p w2 w3 h hr;exact bt h hr
 case h0=> exact Jk w1
 case hstep=>
  refine⟨?_,?_,?_,?_,trivial⟩;all_goals intro xv wq p hlo hhi hp hd
  all_goals simp only[EL,In,Ip,Ig,Ih]
  ·exact Emq
  ·refine JR (f:=66) (args:= #[E I 0,E I 15]) (Ei U) Ez ?_;exact(gQ 0 15 wq).mono fun e w2 ⟨v,he,hv,hb⟩=>⟨v,he,hb,hv⟩
  ·have d0:xv 0=EI (D ⟨gb,0,Z⟩) 4 4:=hd.at 0 rfl;obtain⟨cap,e1,hok⟩:=Um.ok (hd.at 1 rfl:Um 0 15 (xv 1) wq);refine JR (f:=62) (args:= #[EI (D ⟨gb,0,Z⟩) 4 4,.func (.func 80) #[] cap]) (Ei U) (by simp[go_sem,e1,d0]) ?_;exact(oh _ cap ([r0,r1,r2,r3].map (E .i64)) (Uz 0 15) gb 0 4 4 wq U X (hok _ (tS U)) (fun i v hi=>(H.cell (H.G KB.out hp) i).trans Ug|>fun h=>Un)).mono fun e w2 ⟨he,hb⟩=>⟨Ec bo,he.trans (by rw[HBO.out]),hb,U⟩
  ·have d2:xv 2=Ec bo:=hd.at 2 rfl;exact Es Kk U
 case hend=> intro xv W6 hp hd;simp only[EL,In,Ip,Ig,Ih];have a2:xv 2=Ec bo:=hd 2 Eb;have a3:xv 3=Ec bo:=hd 3 Eb;rw[a2,a3];clear hd a2 a3;replace BB:=EW BB hp;clear hp;go_wp2_with fail;go_ret;exact Eoq
end Go.Proofs.YtclmichaaiohjaaGreatDoor
