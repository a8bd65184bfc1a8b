import Derived.Test.YtclmichaaiohjaaGreatDoorU08
import Derived.Deep.Slices
import Derived.OrdersIn
import Derived.RangeFuncLeaves
import Derived.RangeFuncNested
import Derived.WalkMore
set_option maxRecDepth 100000
set_option linter.unusedVariables false
set_option linter.unusedSimpArgs false
set_option maxHeartbeats 6400000
namespace Go.Proofs.YtclmichaaiohjaaGreatDoor
open RowKit
open _root_.Array renaming getElem?_eq_none->fD,replicate->au,getElem?_eq_some_iff->J4,getElem?_eq_getElem->ji
open Bool renaming true->EI,false->V,or_eq_true->k_,and_eq_true->UJ
open Classical renaming byContradiction->qi
open Go renaming World->M,Calls->Eg,TypeId->Ez,Value->G,Addr->Ev,Program->Jd,bodyPost_ret->EV,results->UW,Act->E2,Oper->EG,wpQuiet->Xd,yielded->Ja,execOp->Ig,wpList->Ih,undef->Iv,getD_set_ne->Z4,mem_ready->Zt,Operand->JN,info_parts->bZ,madeCells->az,below_setRow->E6,wp_loop_rounds->OJ,rounds_succ->Ib,Ending->Uv,wpListIn->ai
open Act renaming put->Ic
open Builtin renaming append_->bX
open Code renaming region->Z3
open DataW renaming trod->Zr
open Ending renaming returned->Eh
open Fence renaming wide->XD
open IntKind renaming bits->jZ,signed->ja,i64->I,u8->IT
open Lib renaming hid->J
open Obj renaming cells->Ec
open Oper renaming wp->cE,quietAt->ik
open Go.Proofs.Tryz renaming prog->Ea,underlying23->ba
open Region renaming wanted->I8,binds->Ur,ready->jh
open RowKit renaming Below->Ir,Hid->Ed,intOf->I5
open RowKit.Below renaming refl->E_,alloc->J1
open Value renaming bool->EU,int->E,agg->EZ,slice->EJ,tuple->Es,pointer->Y,oneCell'->Ov,ownBlock->lu
open World renaming block_lt_of_cell?->UV,ownsRow_nil->bw
open Int renaming eq_ofNat_of_zero_le->ib,le_refl->X6
open List renaming eq_nil_of_length_eq_zero->ao,getElem?_eq_getElem->JY,range->UM,mem_range->ar,mem_cons_self->fG,all_eq_true->XJ,getElem?_eq_some_iff->Xr,mem_iff_getElem?->da,cons_append->lI,take_append_drop->dR,take_succ_cons->Is,drop_eq_getElem_cons->lO,length_take->ZJ,take_of_length_le->OV,map_cons->Xs,map_nil->Zu,take_zero->Io,mem_map->bc,getElem?_toArray->J0,setIfInBounds_toArray->Ii,length_append->I1,length_cons->Zw,mem_cons->OY,append_assoc->UY,set_cons_succ->IJ,set_cons_zero->IU,nil_append->cX,length_drop->ly,not_mem_nil->Uu,drop_succ_cons->IS,drop_zero->IM,append_nil->fX,take_add_one->lL,all_nil->jF,all_cons->io,mem_of_getElem?->cG
open List.cons renaming injEq->bK
open Nat renaming lt_or_ge->JW,le_trans->EB,le_refl->E9,zero_add->J9,add_assoc->iq,le_of_lt->aM,le_of_eq->Ud
open Option renaming some->X,none->Z
open Option.some renaming inj->cI
open KQ
variable{W W' w' w0:M}{base gs size n lo m id:Nat}{A:Option Ev}{c c1 c':EF}{k code:Int}{its:List (Int×List Int)}{v:G}{g:Nat->G}{l:List EG}{e t S:Ez}{rs:Int->List Int}{Y9:Type}{P:Jd}{cs:List G}{kd:IntKind}{o o0:EG}{F:Fence}{K:E2->M->Prop}{a0:E2}
theorem Ed8(b off:Nat)(a:Int)(n c:Nat)(w:M)(hn:([a]).length=n)(hr:Row w (X ⟨b,off,Z⟩) ([a]))(hc:n<=c)(hm:c<=9223372036854775807): Eg Ea 83 #[EJ (X ⟨b,off,Z⟩) n c] w fun e w'=>(∃Y3,e=Eh Y3/\pG w' w.heap.size (nx ([a])) Y3)/\Ek w w':=by
 have HR:=J hr;have HN:=J hn;clear hr;obtain⟨f,hf⟩:=Eo (nx ([a]));rw[<-hf];have HF:=J hf;have JJ:=J<|J3 w (Ec #[E I 0,E I 0,E I 0,EJ Z 0 0] 101) (Ec #[E I 0,E I 0,E I 0,EJ Z 0 0] 101);have K2:Ed (H ((w.alloc (Ec #[E I 0,E I 0,E I 0,EJ Z 0 0] 101)).alloc (Ec #[E I 0,E I 0,E I 0,EJ Z 0 0] 101)) w.heap.size #[E I 0,E I 0,E I 0,EJ Z 0 0] 101):=J<|H.u (H.new w #[E I 0,E I 0,E I 0,EJ Z 0 0] 101) (Er _ _);have K3:Ed (H ((w.alloc (Ec #[E I 0,E I 0,E I 0,EJ Z 0 0] 101)).alloc (Ec #[E I 0,E I 0,E I 0,EJ Z 0 0] 101)) (w.heap.size+1) #[E I 0,E I 0,E I 0,EJ Z 0 0] 101):=J Hv;have OW:=J<|XY ((w.alloc (Ec #[E I 0,E I 0,E I 0,EJ Z 0 0] 101)).alloc (Ec #[E I 0,E I 0,E I 0,EJ Z 0 0] 101)) w.heap.size;have TS:=0;have TO:=0;have Ok:=0;clear hf;obtain rfl:n=1:=hn.symm;go_enter Tryz.func83,Tryz.ntmps83;have c0:((w.alloc (Ec #[E I 0,E I 0,E I 0,EJ Z 0 0] 101)).alloc (Ec #[E I 0,E I 0,E I 0,EJ Z 0 0] 101)).cell? ⟨b,off,Z⟩=X (E IT a):=pH (IH HR.out JJ.out) 0 rfl;by_cases h5:a=165;·have q5:(a !=165)=V:=wI;replace HF:Ed (f=mE ([])):=J<|HF.out.trans (by rw[iF,if_neg D]);clear h5;exact Ek9
 ·have q5:(a !=165)=EI:=wJ;replace HF:Ed (f=iD (Uw ([a]))):=J<|HF.out.trans wO;clear h5;go_wp2_with fail;refine(wE (X ⟨b,off,Z⟩) ([a]) 1 c _ rX D (IH HR.out JJ.out) D).mono ?_;rintro e W1 ⟨rfl,b2⟩;replace OW:=J<|Z8 OW.out b2;replace K2:=EP K2 b2;replace K3:=EP K3 b2;replace JJ:=EW JJ b2;clear b2 c0 OW;obtain⟨Ou,Ik⟩:=Eo (#[E I 1,E I (Uw ([a])),E I 0,EJ Z 0 0]:Array G);rw[<-Ik];have mD:=TS;clear TS TO Ok;have TS:Ed (Ou.size=4):=J dH;have TO:Ed (Ou.all (·.oneCell')=EI):=J dK;have Ok:=J Ik;clear Ik;have OW:=J<|XY W1 w.heap.size;go_wp2_with (with_reducible refine wS (cs:=Ou) JV K3 (Ey.mk ?_) (ho:=mF) (hn:=TS.out) (h1:=TO.out));apply Et;have hne:w.heap.size≠(w.heap.size+1):=D;replace OW:=J<|ag OW.out K3.out Ou;replace JJ:=J<|E6 JJ.out (D:w.heap.size<=(w.heap.size+1)) Ou;replace K2:=J<|(O9 Ou).El K2.out hne;replace K3:=J<|K3.out.setRow Ou;clear hne;generalize W1.setRow (w.heap.size+1) Ou=V1 at*;go_wp2_with (with_reducible first|refine wL JV K3 ?_ (hn:=TS.out)|refine wS (cs:=Ou) JV K2 ?_ (hn:=TS.out) (h1:=TO.out));refine EV (JB JV U _ _ w.heap.size Ou U (K2.out.setRow Ou) TS.out) U ?_;rw[Ok.out,HF.out];exact EkT
theorem Ed9(b off:Nat)(a v:Int)(n c:Nat)(w:M)(hn:([a,v]).length=n)(hr:Row w (X ⟨b,off,Z⟩) ([a,v]))(hc:n<=c)(hm:c<=9223372036854775807): Eg Ea 83 #[EJ (X ⟨b,off,Z⟩) n c] w fun e w'=>(∃Y3,e=Eh Y3/\pG w' w.heap.size (nx ([a,v])) Y3)/\Ek w w':=by
 have HR:=J hr;have HN:=J hn;clear hr;obtain⟨f,hf⟩:=Eo (nx ([a,v]));rw[<-hf];have HF:=J hf;have JJ:=J<|J3 w (Ec #[E I 0,E I 0,E I 0,EJ Z 0 0] 101) (Ec #[E I 0,E I 0,E I 0,EJ Z 0 0] 101);have K2:Ed (H ((w.alloc (Ec #[E I 0,E I 0,E I 0,EJ Z 0 0] 101)).alloc (Ec #[E I 0,E I 0,E I 0,EJ Z 0 0] 101)) w.heap.size #[E I 0,E I 0,E I 0,EJ Z 0 0] 101):=J<|H.u (H.new w #[E I 0,E I 0,E I 0,EJ Z 0 0] 101) (Er _ _);have K3:Ed (H ((w.alloc (Ec #[E I 0,E I 0,E I 0,EJ Z 0 0] 101)).alloc (Ec #[E I 0,E I 0,E I 0,EJ Z 0 0] 101)) (w.heap.size+1) #[E I 0,E I 0,E I 0,EJ Z 0 0] 101):=J Hv;have OW:=J<|XY ((w.alloc (Ec #[E I 0,E I 0,E I 0,EJ Z 0 0] 101)).alloc (Ec #[E I 0,E I 0,E I 0,EJ Z 0 0] 101)) w.heap.size;have TS:=0;have TO:=0;have Ok:=0;clear hf;obtain rfl:n=2:=hn.symm;go_enter Tryz.func83,Tryz.ntmps83;have c1:((w.alloc (Ec #[E I 0,E I 0,E I 0,EJ Z 0 0] 101)).alloc (Ec #[E I 0,E I 0,E I 0,EJ Z 0 0] 101)).cell? ⟨b,off+1,Z⟩=X (E IT v):=pH (IH HR.out JJ.out) 1 rfl;by_cases h1:v=1
 ·have q1:(v !=1)=V:=by rw[h1];rfl
  have c0:((w.alloc (Ec #[E I 0,E I 0,E I 0,EJ Z 0 0] 101)).alloc (Ec #[E I 0,E I 0,E I 0,EJ Z 0 0] 101)).cell? ⟨b,off,Z⟩=X (E IT a):=pH (IH HR.out JJ.out) 0 rfl;by_cases h5:a=165;·have q5:(a !=165)=V:=wI;replace HF:Ed (f=mE ([v])):=J<|HF.out.trans (by rw[iF,if_neg D]);clear h5;have HF:=J<|HF.out.trans (by rw[oA,if_neg D];rfl:_=bP);exact Ek9
  ·exact En_
 ·have q1:(v !=1)=EI:=rp;go_wp2_with fail;refine(AV 10 _).mono ?_;rintro e W1 ⟨rfl,b2⟩;replace OW:=J<|Z8 OW.out b2;replace K2:=EP K2 b2;replace K3:=EP K3 b2;replace JJ:=EW JJ b2;clear b2 c1 OW;obtain⟨Ou,Ik⟩:=Eo (#[E I 3,E I 1,E I 10,EJ Z 0 0]:Array G);rw[<-Ik];have mD:=TS;clear TS TO Ok;have TS:Ed (Ou.size=4):=J dH;have TO:Ed (Ou.all (·.oneCell')=EI):=J dK;have Ok:=J Ik;clear Ik;have OW:=J<|XY W1 w.heap.size;go_wp2_with (with_reducible refine wS (cs:=Ou) JV K3 (Ey.mk ?_) (ho:=mF) (hn:=TS.out) (h1:=TO.out));apply Et;have hne:w.heap.size≠(w.heap.size+1):=D;replace OW:=J<|ag OW.out K3.out Ou;replace JJ:=J<|E6 JJ.out (D:w.heap.size<=(w.heap.size+1)) Ou;replace K2:=J<|(O9 Ou).El K2.out hne;replace K3:=J<|K3.out.setRow Ou;clear hne;generalize W1.setRow (w.heap.size+1) Ou=V1 at*;have c0:V1.cell? ⟨b,off,Z⟩=X (E IT a):=pH (IH HR.out JJ.out) 0 rfl;by_cases h5:a=165;·have q5:(a !=165)=V:=wI;clear h5;go_wp2_with (with_reducible first|refine wL JV K3 ?_ (hn:=TS.out)|refine wS (cs:=Ou) JV K2 ?_ (hn:=TS.out) (h1:=TO.out));refine EV (JB JV U _ _ w.heap.size Ou U (K2.out.setRow Ou) TS.out) U ?_;rw[Ok.out,HF.out,iF,if_neg (by simpa using q5),oA,if_pos h1];exact⟨⟨_,U,_,_,U,ag OW.out K2.out _⟩,E6 JJ.out (E9 _) _⟩
  ·exact En_
theorem Ed_(b off:Nat)(a v:Int)(k:Nat)(r:List Int)(n c:Nat)(w:M)(hn:(a::v::(k:Int)::r).length=n)(hr:Row w (X ⟨b,off,Z⟩) (a::v::(k:Int)::r))(hc:n<=c)(hm:c<=9223372036854775807): Eg Ea 83 #[EJ (X ⟨b,off,Z⟩) n c] w fun e w'=>(∃Y3,e=Eh Y3/\pG w' w.heap.size (nx (a::v::(k:Int)::r)) Y3)/\Ek w w':=by
 have HR:=J hr;have HN:=J hn;clear hr;obtain⟨f,hf⟩:=Eo (nx (a::v::(k:Int)::r));rw[<-hf];have HF:=J hf;have JJ:=J<|J3 w (Ec #[E I 0,E I 0,E I 0,EJ Z 0 0] 101) (Ec #[E I 0,E I 0,E I 0,EJ Z 0 0] 101);have K2:Ed (H ((w.alloc (Ec #[E I 0,E I 0,E I 0,EJ Z 0 0] 101)).alloc (Ec #[E I 0,E I 0,E I 0,EJ Z 0 0] 101)) w.heap.size #[E I 0,E I 0,E I 0,EJ Z 0 0] 101):=J<|H.u (H.new w #[E I 0,E I 0,E I 0,EJ Z 0 0] 101) (Er _ _);have K3:Ed (H ((w.alloc (Ec #[E I 0,E I 0,E I 0,EJ Z 0 0] 101)).alloc (Ec #[E I 0,E I 0,E I 0,EJ Z 0 0] 101)) (w.heap.size+1) #[E I 0,E I 0,E I 0,EJ Z 0 0] 101):=J Hv;have OW:=J<|XY ((w.alloc (Ec #[E I 0,E I 0,E I 0,EJ Z 0 0] 101)).alloc (Ec #[E I 0,E I 0,E I 0,EJ Z 0 0] 101)) w.heap.size;have TS:=0;have TO:=0;have Ok:=0;clear hf;have tm:min (n:Int) 3=3:=by have:3<=n:=(by rw[<-hn];simp);omega
 have EfE:=JJ;go_enter Tryz.func83,Tryz.ntmps83;go_wp2_with fail;refine(Ed7 b off a v k r n c _ (by simpa using hn) (IH HR.out JJ.out) hc hm).mono ?_;rintro e W0 ⟨⟨Y3,rfl,A9,c9,rfl,ow⟩,b2⟩;replace K2:=EP K2 b2;replace K3:=EP K3 b2;replace JJ:=EW JJ b2;replace OW:=J<|cB ow (show w.heap.size<=_ from EfE.out.size);clear b2 ow;have tC:(dx v k r).b=(dx v k r).b:=rfl;obtain⟨Im,Ik⟩:=Eo (#[E I (dx v k r).kd,E I (dx v k r).sz,E I (dx v k r).cd,.slice A9 (dx v k r).b.length c9]:Array G);rw[<-Ik];have mD:=TS;clear TS TO Ok;have TS:Ed (Im.size=4):=J dH;have TO:Ed (Im.all (·.oneCell')=EI):=J dK;have Ok:=J Ik;clear Ik;go_wp2_with (with_reducible refine wS (cs:=Im) JV K3 (Ey.mk ?_) (ho:=mF) (hn:=TS.out) (h1:=TO.out));apply Et;have hne:w.heap.size≠(w.heap.size+1):=D;replace OW:=J<|ag OW.out K3.out Im;replace JJ:=J<|E6 JJ.out (D:w.heap.size<=(w.heap.size+1)) Im;replace K2:=J<|(O9 Im).El K2.out hne;replace K3:=J<|K3.out.setRow Im;clear hne;generalize W0.setRow (w.heap.size+1) Im=V0 at*;have c1:V0.cell? ⟨b,off+1,Z⟩=X (E IT v):=pH (IH HR.out JJ.out) 1 rfl;by_cases h1:v=1
 ·have q1:(v !=1)=V:=by rw[h1];rfl
  subst h1;have c0:V0.cell? ⟨b,off,Z⟩=X (E IT a):=pH (IH HR.out JJ.out) 0 rfl;by_cases h5:a=165;·have q5:(a !=165)=V:=wI;replace HF:Ed (f=mE (1::(k:Int)::r)):=J<|HF.out.trans (by rw[iF,if_neg D]);clear h5;go_wp2_with (with_reducible first|refine wL JV K3 ?_ (hn:=TS.out)|refine wS (cs:=Im) JV K2 ?_ (hn:=TS.out) (h1:=TO.out));refine EV (JB JV U _ _ w.heap.size Im U (K2.out.setRow Im) TS.out) U ?_;rw[Ok.out,HF.out,oA,if_neg Ej];exact EkT
  ·have q5:(a !=165)=EI:=wJ;replace HF:Ed (f=iD (Uw (a::1::(k:Int)::r))):=J<|HF.out.trans wO;clear h5;go_wp2_with fail;refine(wE (X ⟨b,off,Z⟩) (a::1::(k:Int)::r) n c _ rX D (IH HR.out JJ.out) D).mono ?_;rintro e W2 ⟨rfl,b2⟩;replace OW:=J<|Z8 OW.out b2;replace K2:=EP K2 b2;replace K3:=EP K3 b2;replace JJ:=EW JJ b2;clear b2 c0 OW;obtain⟨Jx,Ik⟩:=Eo (#[E I 1,E I (Uw (a::1::(k:Int)::r)),E I 0,EJ Z 0 0]:Array G);exact EjV
 ·have q1:(v !=1)=EI:=rp;go_wp2_with fail;refine(AV 10 _).mono ?_;rintro e W1 ⟨rfl,b2⟩;replace OW:=J<|Z8 OW.out b2;replace K2:=EP K2 b2;replace K3:=EP K3 b2;replace JJ:=EW JJ b2;clear b2 c1 OW;obtain⟨Ou,Ik⟩:=Eo (#[E I 3,E I 1,E I 10,EJ Z 0 0]:Array G);rw[<-Ik];have mD:=TS;clear TS TO Ok;have TS:Ed (Ou.size=4):=J dH;have TO:Ed (Ou.all (·.oneCell')=EI):=J dK;have Ok:=J Ik;clear Ik;have OW:=J<|XY W1 w.heap.size;go_wp2_with (with_reducible refine wS (cs:=Ou) JV K3 (Ey.mk ?_) (ho:=mF) (hn:=TS.out) (h1:=TO.out));apply Et;have hne:w.heap.size≠(w.heap.size+1):=D;replace OW:=J<|ag OW.out K3.out Ou;replace JJ:=J<|E6 JJ.out (D:w.heap.size<=(w.heap.size+1)) Ou;replace K2:=J<|(O9 Ou).El K2.out hne;replace K3:=J<|K3.out.setRow Ou;clear hne;generalize W1.setRow (w.heap.size+1) Ou=V1 at*;have c0:V1.cell? ⟨b,off,Z⟩=X (E IT a):=pH (IH HR.out JJ.out) 0 rfl;by_cases h5:a=165;·have q5:(a !=165)=V:=wI;clear h5;go_wp2_with (with_reducible first|refine wL JV K3 ?_ (hn:=TS.out)|refine wS (cs:=Ou) JV K2 ?_ (hn:=TS.out) (h1:=TO.out));refine EV (JB JV U _ _ w.heap.size Ou U (K2.out.setRow Ou) TS.out) U ?_;rw[Ok.out,HF.out,iF,if_neg (by simpa using q5),oA,if_pos h1];exact⟨⟨_,U,_,_,U,ag OW.out K2.out _⟩,E6 JJ.out (E9 _) _⟩
  ·have q5:(a !=165)=EI:=wJ;replace HF:Ed (f=iD (Uw (a::v::(k:Int)::r))):=J<|HF.out.trans wO;clear h5;go_wp2_with fail;refine(wE (X ⟨b,off,Z⟩) (a::v::(k:Int)::r) n c _ rX D (IH HR.out JJ.out) D).mono ?_;rintro e W2 ⟨rfl,b2⟩;replace OW:=J<|Z8 OW.out b2;replace K2:=EP K2 b2;replace K3:=EP K3 b2;replace JJ:=EW JJ b2;clear b2 c0 OW;obtain⟨Jx,Ik⟩:=Eo (#[E I 1,E I (Uw (a::v::(k:Int)::r)),E I 0,EJ Z 0 0]:Array G);exact EjV
theorem Hx(A:Option Ev)(c:Nat)(w:M): Eg Ea 83 #[EJ A 0 c] w fun e w'=>(∃Y3,e=Eh Y3/\pG w' w.heap.size bP Y3)/\Ek w w':=by obtain⟨f,hf⟩:=Eo bP;rw[<-hf];have HF:=J hf;clear hf;go_enter Tryz.func83,Tryz.ntmps83;exact Ek9
theorem EfI(A:Option Ev)(xs:List Int)(n c:Nat)(w:M)(hn:xs.length=n)(hr:Row w A xs)(hc:n<=c)(hm:c<=9223372036854775807): Eg Ea 83 #[EJ A n c] w fun e w'=>(∃Y3,e=Eh Y3/\pG w' w.heap.size (nx xs) Y3)/\Ek w w':=by
 rcases hr.1 with h|⟨b,off,h,-⟩;·subst h;obtain rfl:n=0:=hn.symm;exact Hx A c w
 ·subst h;match xs,hn,hr with
  |[],hn,hr=>obtain rfl:n=0:=hn.symm;exact Hx _ c w
  |[a],hn,hr=>exact Ed8 b off a n c w hn hr hc hm
  |[a,v],hn,hr=>exact Ed9 b off a v n c w hn hr hc hm
  |a::v::k::r,hn,hr=> have hk:=hr.2 k Ej;obtain⟨k,rfl⟩:=ib hk.1;exact Ed_ b off a v k r n c w hn hr hc hm
def Uz(W:M)(base:Nat):List (Int×List Int)->List G->Prop
 |[],vs=>vs=[]
 |x::r,vs=> ∃(A:Option Ev) (c:Nat) (vs':List G),vs=E I x.1:: .slice A x.2.length c::vs'/\Own W base A c x.2/\Uz W base r vs'
theorem Uz.keep{W W':M}{base:Nat}: ∀{its:List (Int×List Int)} {vs:List G},Uz W base its vs->(∀g cs,H W g cs 5->H W' g cs 5)->Uz W' base its vs
 |[],_,h,_=>h
 |x::r,_,⟨A,c,vs',e,o,t⟩,hb=>⟨A,c,vs',e,⟨EQ o.1 hb,o.2⟩,Uz.keep t hb⟩
theorem Hy{W:M}{base:Nat}{cd:Int}{b:List Int}{A:Option Ev}{c:Nat}: ∀{its:List (Int×List Int)} {vs:List G},Uz W base its vs->Own W base A c b->Uz W base (its++[(cd,b)]) (vs++[E I cd,EJ A b.length c])
 |[],vs,h,ho=>by rw[show vs=[] from h];exact⟨A,c,[],U,ho,U⟩
 |x::r,_,⟨A',c',vs',e,o,t⟩,ho=>⟨A',c',_,by rw[e];rfl,o,Hy t ho⟩
theorem Uz.get{W:M}{base:Nat}: ∀{its:List (Int×List Int)} {vs:List G} {j:Nat} {x:Int×List Int},Uz W base its vs->its[j]?=X x-> ∃(A:Option Ev) (c:Nat),vs[j*2]?=X (E I x.1)/\vs[j*2+1]?=X (.slice A x.2.length c)/\Own W base A c x.2
 |[],_,j,x,_,hx=>sH
 |y::r,_,0,x,⟨A,c,vs',e,o,t⟩,hx=>by
  obtain rfl:y=x:=by simpa using hx
  exact⟨A,c,by rw[e];rfl,by rw[e];rfl,o⟩
 |y::r,_,j+1,x,⟨A,c,vs',e,o,t⟩,hx=>by
  obtain⟨A',c',h1,h2,h3⟩:=Uz.get t (show r[j]?=X x by simpa using hx);refine⟨A',c',?_,?_,h3⟩;·rw[e,show(j+1)*2=j*2+1+1 from D];simpa using h1
  ·rw[e,show(j+1)*2+1=j*2+1+1+1 from D];simpa using h2
theorem fz{c:Nat}{xs:List Int}(h:Own W base A c xs)(hb: ∀g cs,H W g cs 5->H W' g cs 5):Own W' base A c xs:=⟨EQ h.1 hb,h.2⟩
theorem EfJ:Ow Ea 101 #[E I 0,E I 0,E I 0,EJ Z 0 0]:=by exact Ekv
theorem EfO: ∃i,Tryz.prog.info? 74=X i/\i.zero=X (EZ #[E I 0,EJ Z 0 0])/\i.size=2/\i.bytes=32:=by have h:(Tryz.prog.info? 74).map (fun i=>(i.zero,i.size,i.bytes))=X (X (EZ #[E I 0,EJ Z 0 0]),2,32):=Ef;exact Elh
def lenOf(v:G):Nat:=match v with
 |EJ _ n _=>n
 |_=>0
def At(xs:List Int)(k:Nat)(its:List (Int×List Int)):Prop:= ∀i r,U5 (xs.drop k) i r->U5 xs (its++i) r
theorem At.zero(xs:List Int):At xs 0 []:=fun i r h=>UB
theorem At.step{xs:List Int}{k:Nat}(h:At xs k its)(h0:(nx (xs.drop k)).kd≠0):At xs (k+(nx (xs.drop k)).sz) (its++(nx (xs.drop k)).item):=fun i r t=>by rw[UY];exact h _ _ (.step h0 (by rw[List.drop_drop];exact t))
theorem EfU{xs:List Int}(hb:UD xs):(nx xs).kd=0\/(nx xs).kd=1\/(nx xs).kd=2\/(nx xs).kd=3:=by
 cases zA xs hb with
 |wait e=>rw[e];exact .inl U
 |oB c e hc hl=>rw[e];exact .inr (.inr (.inr U))
 |skip e h1=>rw[e];exact .inr (.inl U)
 |frame n e hl hn=>rw[e];exact .inr (.inr (.inl U))
theorem all_some(b off:Nat)(xs:List Int)(n c:Nat)(w:M)(hn:xs.length=n)(hr:Row w (X ⟨b,off,Z⟩) xs)(hc:n<=c)(hm:c<=9223372036854775807)(hs:n<=1000000): Eg Ea 69 #[EJ (X ⟨b,off,Z⟩) n c] w fun e w'=>(∃(its:List (Int×List Int)) (r:List Int) (v:G) (vals:List G),e=Eh (Es #[v,E I r.length])/\U5 xs its r/\w'.ownsRow w.heap.size 74 2 v its.length vals/\Uz w' w.heap.size its vals)/\Ek w w':=by
 have HR:=J hr;have HN:=J hn;have II:=J EfO;have rT:Ed (UD xs):=J hr.2;clear hr hn;go_enter Tryz.func69,Tryz.ntmps69;(iterate 2 go_wp2_with fail;go_step3);go_wp2_with fail;go_loopw[0,4] (fun x y wr=> ∃(k i o2:Nat) (its:List (Int×List Int)) (A2:Option Ev) (c2:Nat) (vals:List G),k<=n/\i<=k/\x=EJ (X ⟨b,o2,Z⟩) (n-k) (c-k)/\(k<n->o2=off+k)/\y=EJ A2 i c2/\its.length=i/\At xs k its/\wr.ownsRow w.heap.size 74 2 (EJ A2 i c2) i vals/\Uz wr w.heap.size its vals/\Ek w wr) (fun x _ _=>lenOf x);case atStart=>exact⟨0,0,off,[],Z,0,[],D,D,U,fun _=>rfl,U,U,At.zero _,bw _ _ _ _,U,E_ _ _⟩
 case round=>
  obtain⟨k,i,o2,its,A2,c2,vals,hk,hik,rfl,ho2,rfl,tQ,hat,oi,iv,bb⟩:=hrel;have OI:=J oi;have IV:=J iv;have B:=J bb;have n_:=J tQ;have HAT:=J hat;clear oi iv bb tQ hat
  have RD:Ed (Row wr (X ⟨b,o2,Z⟩) (xs.drop k)):=J (by
   by_cases hkn:k<n;·rw[ho2 hkn];exact lN (IH HR.out B.out) k
   ·rw[List.drop_eq_nil_of_le qu];exact nf _ _)
  have HL:Ed ((xs.drop k).length=n-k):=J (by rw[ly,HN.out]);go_wp2_with fail;refine(EfI (X ⟨b,o2,Z⟩) (xs.drop k) (n-k) (c-k) _ HL.out RD.out D D).mono ?_;rintro e w1 ⟨⟨Y3,rfl,A9,c9,rfl,ow⟩,b2⟩;have OW:=J<|cB ow (show w.heap.size<=wr.heap.size from B.out.size);replace OI:=J<|EQ OI.out fun _ _ h=>H.u h b2;replace IV:=J<|IV.out.keep fun _ _ h=>H.u h b2;replace B:=EW B b2;clear ow b2 RD;have Hz:=J<|EfU (rT.out.dr k);have AW:Ed ((nx (xs.drop k)).kd≠0->1<=(nx (xs.drop k)).sz/\(nx (xs.drop k)).sz<=n-k):=J (fun h=>by have:=GO (rT.out.dr k) h;rw[HL.out] at this;exact this);have HST:=J<|fun h=>HAT.out.step h;have HIT:Ed ((nx (xs.drop k)).item=if(nx (xs.drop k)).kd=2 then [(0,(nx (xs.drop k)).b)] else if(nx (xs.drop k)).kd=3 then [((nx (xs.drop k)).cd,[])] else []):=J U;have HW:Ed ((nx (xs.drop k)).kd=0->U5 (xs.drop k) [] (xs.drop k)):=J<|fun h=> .wait h;obtain⟨f,hf⟩:=Eo (nx (xs.drop k));rw[<-hf] at Hz AW HST HIT HW OW⊢;clear hf;obtain⟨kd,sz,cd,bd⟩:=f;simp only at Hz AW HST HIT HW OW⊢;obtain⟨tv,Ik⟩:=Eo (#[E I kd,E I sz,E I cd,EJ A9 bd.length c9]:Array G);rw[<-Ik];have TS:Ed (tv.size=4):=J dH;have TO:Ed (tv.all (·.oneCell')=EI):=J dK;replace Ik:=J Ik;have K0:=J<|H.new w1 #[E I 0,E I 0,E I 0,EJ Z 0 0] 101;have b2:=Er w1 (Ec #[E I 0,E I 0,E I 0,EJ Z 0 0] 101);go_wp2_with (with_reducible first|refine wA EfJ ?_|refine wS (cs:=tv) JV K0 (Ey.mk ?_) (hn:=TS.out) (h1:=TO.out));apply Et;obtain⟨gx,hgx⟩:=Eo w1.heap.size;rw[<-hgx] at K0⊢;generalize w1.alloc (Ec #[E I 0,E I 0,E I 0,EJ Z 0 0] 101)=Xz at*;have KF:=J<|K0.out.setRow tv;have b3:=E6 (g:=gx) b2 (Ud hgx.symm) tv;generalize Xz.setRow gx tv=wf at*;clear K0 b2 hgx;replace OI:=J<|EQ OI.out fun _ _ h=>H.u h b3;replace IV:=J<|IV.out.keep fun _ _ h=>H.u h b3;replace OW:=J<|Z8 OW.out b3;replace B:=EW B b3;clear b3;have VF:wf.cell? ⟨gx,0,Z⟩=X (E I kd):=(H.cell KF.out 0).trans sO;have AY:wf.cell? ⟨gx,1,Z⟩=X (E I sz):=(H.cell KF.out 1).trans sO;have VG:wf.cell? ⟨gx,2,Z⟩=X (E I cd):=(H.cell KF.out 2).trans sO;have VH:wf.cell? ⟨gx,3,Z⟩=X (EJ A9 bd.length c9):=(H.cell KF.out 3).trans sO;clear TS TO;by_cases h0:kd=0;·have HP:=J<|HAT.out _ _ (HW.out h0);subst h0;go_wp2;go_ret2;refine⟨⟨its,xs.drop k,_,vals,by rw[HL.out];rfl,?_,by rw[n_.out];exact OI.out,IV.out⟩,B.out⟩;have:=HP.out;rwa [fX] at this
  ·have hsz:=AW.out h0;have e0:(kd==0)=V:=rV;replace HAT:=J<|HST.out h0;rw[HIT.out] at HAT;clear HST HW AW;by_cases h2:kd=2
   ·subst h2;simp only[if_pos] at HAT;go_wp2_with (with_reducible refine JU 19 ?_);apply Et;have KI:=J<|H.new wf #[E I 0,EJ A9 bd.length c9] 74;have b4:=J<|Er wf (Ec #[E I 0,EJ A9 bd.length c9] 74);replace B:=EW B b4.out;replace OI:=J<|EQ OI.out fun _ _ h=>H.u h b4.out;replace IV:=J<|IV.out.keep fun _ _ h=>H.u h b4.out;replace OW:=J<|Z8 OW.out b4.out;replace KF:=EP KF b4.out;clear VF AY VG VH;clear b4;generalize wf.alloc (Ec #[E I 0,EJ A9 bd.length c9] 74)=kf at*;generalize wf.heap.size=gb at*;obtain⟨qA,qc,qw,UG,XR,OU,-,-⟩:=cU (P:=Ea) kf w.heap.size w.heap.size 70 70 74 II.out.choose _ 2 32 Tryz.underlying70 II.out.choose_spec.1 II.out.choose_spec.2.1 II.out.choose_spec.2.2.1 II.out.choose_spec.2.2.2 rfl A2 c2 i vals OI.out ⟨gb,0,Z⟩ 1 1 [E I 0,EJ A9 bd.length c9] U (fun j Y3 hu=>by rw[show(⟨gb,0,Z⟩:Ev).add j=⟨gb,j,Z⟩ from Xo];rw[H.cell KI.out,J0];exact hu) cR (fun _=>D) Oy D B.out.size (E9 _);go_wp2_with ((with_reducible refine It 19 ?_);(refine Jq (Ei U) (UU U U U UG) ?_);refine Ey.mk ?_);apply Et;replace OI:=J XR;replace IV:=J<|Hy (cd:=0) (b:=bd) (IV.out.keep fun _ _ h=>XN OU h Eb) (fz OW.out fun _ _ h=>XN OU h Eb);replace KF:=J<|XN OU KF.out Eb;replace B:=J<|B.out.trans (OU.2.1 B.out.size);clear XR OU UG KI;have AY:qw.cell? ⟨gx,1,Z⟩=X (E I sz):=(H.cell KF.out 1).trans sO;go_wp2_with fail;have HO:=ho2 D;subst HO;clear ho2;refine⟨⟨k+sz,i+1,if c-k=sz then off+k else off+(k+sz),its++[(0,bd)],qA,qc,_,D,D,?_,fun h=>if_neg D,U,?_,HAT.out,OI.out,IV.out,B.out⟩,?_⟩;·split<;>simp only[Nat.sub_sub,iq]
    ·rw[I1,n_.out];rfl
    ·simp only[lenOf];omega
   ·by_cases h3:kd=3
    ·subst h3;simp only[if_pos,if_neg (show¬((3:Int)=2) from Eb)] at HAT;go_wp2_with (with_reducible refine JU 27 ?_);apply Et;have KI:=J<|H.new wf #[E I cd,EJ Z 0 0] 74;have b4:=J<|Er wf (Ec #[E I cd,EJ Z 0 0] 74);replace B:=EW B b4.out;replace OI:=J<|EQ OI.out fun _ _ h=>H.u h b4.out;replace IV:=J<|IV.out.keep fun _ _ h=>H.u h b4.out;replace KF:=EP KF b4.out;clear VF AY VG VH;clear b4;generalize wf.alloc (Ec #[E I cd,EJ Z 0 0] 74)=kf at*;generalize wf.heap.size=gb at*;obtain⟨qA,qc,qw,UG,XR,OU,-,-⟩:=cU (P:=Ea) kf w.heap.size w.heap.size 70 70 74 II.out.choose _ 2 32 Tryz.underlying70 II.out.choose_spec.1 II.out.choose_spec.2.1 II.out.choose_spec.2.2.1 II.out.choose_spec.2.2.2 rfl A2 c2 i vals OI.out ⟨gb,0,Z⟩ 1 1 [E I cd,EJ Z 0 0] U (fun j Y3 hu=>by rw[show(⟨gb,0,Z⟩:Ev).add j=⟨gb,j,Z⟩ from Xo];rw[H.cell KI.out,J0];exact hu) cR (fun _=>D) Oy D B.out.size (E9 _);go_wp2_with ((with_reducible refine It 27 ?_);(refine Jq (Ei U) (UU U U U UG) ?_);refine Ey.mk ?_);apply Et;replace OI:=J XR;replace IV:=J<|Hy (cd:=cd) (b:=[]) (IV.out.keep fun _ _ h=>XN OU h Eb) (XY _ _);replace KF:=J<|XN OU KF.out Eb;replace B:=J<|B.out.trans (OU.2.1 B.out.size);clear XR OU UG KI;have AY:qw.cell? ⟨gx,1,Z⟩=X (E I sz):=(H.cell KF.out 1).trans sO;go_wp2_with fail;have HO:=ho2 D;subst HO;clear ho2;refine⟨⟨k+sz,i+1,if c-k=sz then off+k else off+(k+sz),its++[(cd,[])],qA,qc,_,D,D,?_,fun h=>if_neg D,U,?_,HAT.out,OI.out,IV.out,B.out⟩,?_⟩;·split<;>simp only[Nat.sub_sub,iq]
     ·rw[I1,n_.out];rfl
     ·simp only[lenOf];omega
    ·have e1:kd=1:=by have:=Hz.out;omega
     subst e1;simp only[if_neg (show¬((1:Int)=2) from Eb),if_neg (show¬((1:Int)=3) from Eb),fX] at HAT;go_wp2_with fail;have HO:=ho2 D;subst HO;clear ho2;refine⟨⟨k+sz,i,if c-k=sz then off+k else off+(k+sz),its,A2,c2,vals,D,D,?_,fun h=>if_neg D,U,n_.out,HAT.out,OI.out,IV.out,B.out⟩,?_⟩;·split<;>simp only[Nat.sub_sub,iq]
     ·simp only[lenOf];omega
theorem all_nil(A:Option Ev)(c:Nat)(w:M)(hm:c<=9223372036854775807): Eg Ea 69 #[EJ A 0 c] w fun e w'=>e=Eh (Es #[EJ Z 0 0,E I 0])/\Ek w w':=by
 go_enter Tryz.func69,Tryz.ntmps69;(iterate 2 go_wp2_with fail;go_step3);go_wp2_with fail;go_loopw[0,4] (fun x y wr=>x=EJ A 0 c/\y=EJ Z 0 0/\w=wr) (fun x _ _=>lenOf x);case atStart=>exact⟨U,U,U⟩
 case round=> obtain⟨rfl,rfl,rfl⟩:=hrel;go_wp2_with fail;refine(Hx A c _).mono ?_;rintro e w1 ⟨⟨Y3,rfl,A9,c9,rfl,ow⟩,b2⟩;have B:=J b2;clear ow b2;simp only[bP,List.length_nil,Int.natCast_zero,Int.ofNat_zero,show((0:Nat):Int)=0 from rfl];go_wp2_with fail;simp only[Exit.noGoto_ret];go_ret2;exact⟨U,bt B.out (Er _ _)⟩
theorem EfX(A:Option Ev)(xs:List Int)(n c:Nat)(w:M)(hn:xs.length=n)(hr:Row w A xs)(hc:n<=c)(hm:c<=9223372036854775807)(hs:n<=1000000): Eg Ea 69 #[EJ A n c] w fun e w'=>(∃(its:List (Int×List Int)) (r:List Int) (v:G) (vals:List G),e=Eh (Es #[v,E I r.length])/\U5 xs its r/\w'.ownsRow w.heap.size 74 2 v its.length vals/\Uz w' w.heap.size its vals)/\Ek w w':=by
 rcases hr.1 with h|⟨b,off,h,-⟩;·subst h;obtain rfl:n=0:=hn.symm;refine(all_nil A c w hm).mono ?_;rintro e w' ⟨rfl,hb⟩;exact⟨⟨[],[],_,[],U,.wait U,bw _ _ _ _,U⟩,hb⟩
 ·subst h;exact all_some b off xs n c w hn hr hc hm hs
theorem H_{c:Nat}{xs:List Int}{z:Array G}(h:Own W base A c xs)(K:H W gs z 122)(i:Nat)(v:G):Own (W.setCell ⟨gs,i,Z⟩ v) base A c xs:=
 fz h fun _ _ hk=>(JS (g:=gs) i v).El hk (E7 hk K Eb)
theorem Ka{c:Nat}{xs:List Int}(h:Own W base A c xs):xs.length<=c/\c<=9223372036854775807:=by
 rcases h.1.2 with⟨hv,hn⟩|⟨g,cap',cur,hv,hg,hh,hl,hm,hs,ht⟩;·injection hv with h1 h2 h3;subst h3;exact⟨D,D⟩
 ·injection hv with h1 h2 h3;unfold maxLen at hm;exact⟨D,D⟩
theorem EfZ{c:Nat}{xs:List Int}(h:Own W base A c xs):(∃g,A=X ⟨g,0,Z⟩)\/(A=Z/\c=0):=by
 rcases h.1.2 with⟨hv,hn⟩|⟨g,cap',cur,hv,hg,hh,hl,hm,hs,ht⟩;·injection hv with h1 h2 h3;exact .inr ⟨h1,h3⟩
 ·injection hv with h1 h2 h3;exact .inl ⟨g,h1⟩
theorem Kb{b:Nat}{w:M}(h:Ir b w w')(hk: ∀k,k<w.heap.size->w'.heap[k]?=w.heap[k]?):Ek w w':=⟨h.os,h.tape,h.output,h.size,hk⟩
theorem sU{b b':Nat}{T:Ez}{xs:List G}(h:W.ownsRow b T size v n xs)(hb:b'<=b):W.ownsRow b' T size v n xs:=by
 obtain⟨h1,h2|⟨gg,cap,cur,hv,hg,r⟩⟩:=h;·exact⟨h1,.inl h2⟩
 ·exact⟨h1,.inr ⟨gg,cap,cur,hv,EB hb hg,r⟩⟩
theorem Uz.mono{W:M}{b b':Nat}: ∀{its:List (Int×List Int)} {vs:List G},Uz W b its vs->b'<=b->Uz W b' its vs
 |[],_,h,_=>h
 |x::r,_,⟨A,c,vs',e,o,t⟩,hb=>⟨A,c,vs',e,cB o hb,Uz.mono t hb⟩
theorem Efa{xs i r}(h:U5 xs i r): ∃k,r=xs.drop k/\k+r.length=xs.length:=by
 obtain⟨k,e⟩:=h.left;refine⟨min k xs.length,?_,?_⟩
 ·by_cases hk:k<=xs.length;·rw[Nat.min_eq_left hk];exact e
  ·rw[Nat.min_eq_right D,e,List.drop_eq_nil_of_le D,List.drop_eq_nil_of_le (E9 _)]
 ·rw[e,ly];omega
def Efb(gs lo:Nat)(rest xs:List Int)(w:M)(e:Uv)(w':M):Prop:=
 ∃(its:List (Int×List Int)) (r:List Int) (v:G) (vals:List G) (A:Option Ev) (c:Nat) (w2:M),e=Eh v/\U5 (rest++xs) its r/\w'.ownsRow w.heap.size 74 2 v its.length vals/\Uz w' w.heap.size its vals/\Ek w w2/\w'=w2.setCell ⟨gs,0,Z⟩ (EJ A r.length c)/\Own w' w.heap.size A c r
theorem Efc(gs lo:Nat)(A0:Option Ev)(c0 m:Nat)(rest:List Int)(A:Option Ev)(n c:Nat)(xs:List Int)(w:M)(ks:H w gs #[EJ A0 m c0] 122)(own:Own w lo A0 c0 rest)(hm:rest.length=m)(hr:Row w A xs)(hn:xs.length=n)(hl:lo<=gs)(h1:m<=100000)(h2:n<=100000): Eg Ea 48 #[Y (X ⟨gs,0,Z⟩),EJ A n c] w (Efb gs lo rest xs w):=by
 have KS:=J ks;have OR:=J own;have HR:=J hr;have HN:=J hn;have HM:=J hm;have B:=J<|E_ w.heap.size w;clear ks own hr hn hm;have hmk: ∀W:M,(Instr.makeSlice 23 (E I 0) (E I ((m:Int)+(n:Int)))).run Ea W= .ok (EJ (X ⟨W.heap.size,0,Z⟩) 0 (m+n)) (W.alloc (Ec (az #[E .u8 0] (m+n)) 5)):=Q9 _ _ D D;have cs0:w.cell? ⟨gs,0,Z⟩=X (EJ A0 m c0):=(H.cell KS.out 0).trans U;have b1:=Er w (Ec (az #[E .u8 0] (m+n)) 5);have cs1:(w.alloc (Ec (az #[E .u8 0] (m+n)) 5)).cell? ⟨gs,0,Z⟩=X (EJ A0 m c0):=(H.cell (H.u KS.out b1) 0).trans U;have O1:=J<|Q_ w w.heap.size (m+n) (E9 _) D;go_enter Tryz.func48,Tryz.ntmps48;go_wp2_with (with_reducible refine JU 22 ?_);apply Et;clear cs0 cs1 hmk;replace B:=EW B b1;clear b1;generalize w.alloc (Ec (az #[E .u8 0] (m+n)) 5)=w1 at*;go_wp2_with ((with_reducible refine It 22 ?_);(with_reducible refine lv _ (Ei U) (.tmp 17) (.tmp 21) U w.heap.size (X ⟨w.heap.size,0,Z⟩) (m+n) 0 [] U ?_ O1.out A0 c0 m rest HM.out ?_ (IH OR.out.row B.out) D B.out.size ?_);(·rfl);(·rfl);intro A2 c2 w2 o2 b2 k2;refine Ey.mk ?_);apply Et;replace B:=J<|B.out.trans b2;replace O1:=J o2;clear o2 b2 k2;rw[cX] at O1;go_wp2_with ((with_reducible refine It 25 ?_);(with_reducible refine lv _ (Ei U) (.tmp 23) (.tmp 24) U w.heap.size A2 c2 m rest HM.out ?_ O1.out A c n xs HN.out ?_ (IH HR.out B.out) D B.out.size ?_);(·rfl);(·rfl);intro A3 c3 w3 o3 b3 k3;refine Ey.mk ?_);apply Et;replace B:=J<|B.out.trans b3;replace O1:=J o3;clear o3 b3 k3;have wU:Ed ((rest++xs).length=m+n):=J (by rw[I1,HM.out,HN.out]);obtain⟨N,hN⟩:=Eo (m+n);rw[<-hN] at wU;have hN2:N<=200000:=D;have Kc:=J<|Ka O1.out;go_wp2_with fail;rw[<-hN];refine(EfX A3 (rest++xs) N c3 _ wU.out O1.out.row (by have:=Kc.out.1;have:=wU.out;omega) Kc.out.2 D).mono ?_;rintro e w4 ⟨⟨its,r,v,vals,rfl,hp,hv,hi⟩,b4⟩;have HP:=J hp;have BV:=J<|show w.heap.size<=w3.heap.size from B.out.size;have HV:=J<|sU hv BV.out;have HI:=J<|Uz.mono hi BV.out;replace O1:=J<|Z8 O1.out b4;replace B:=EW B b4;clear hp hv hi b4 BV;have HL:=J<|Efa HP.out;obtain⟨k,hk,hkl⟩:=HL.out;obtain⟨rl,hrl⟩:=Eo r.length;rw[<-hrl] at hkl⊢;have wX:=J hrl;have HK:=J hk;have hkN:k+rl=N:=by rw[<-wU.out];exact hkl
 have hsub:(N:Int)-(rl:Int)=(k:Int):=D;clear hrl hk hkl HL hN;have cs0:w4.cell? ⟨gs,0,Z⟩=X (EJ A0 m c0):=(H.cell (H.u KS.out B.out) 0).trans U;have sX:w4.frozen? ⟨gs,0,Z⟩=V:=H.I_ (H.u KS.out B.out) 0;have hcp:=Kc.out.1;rw[wU.out] at hcp;obtain⟨g3,hA3⟩|⟨hA3,hc3⟩:=EfZ O1.out
 ·subst hA3;have RK:Ed (Row w4 (X ⟨g3,k,Z⟩) r):=J (by have:=lN O1.out.row k;rw[J9] at this;rw[HK.out];exact this);by_cases hck:c3=k
  ·have e2:N-k=rl:=D;have hr0:rl=0:=D;have RN:Ed (Row w4 (X ⟨g3,0,Z⟩) r):=J (by have e:r=[]:=ao (by rw[<-wX.out];exact hr0);rw[e];exact nf _ _);clear hr0;go_wp2_with ((with_reducible refine It 38 ?_);(with_reducible refine lv _ (Ei U) (.const (EJ Z 0 0)) (.tmp 37) U w.heap.size Z 0 0 [] U ?_ (XY _ _) (X ⟨g3,0,Z⟩) 0 rl r wX.out.symm ?_ RN.out D B.out.size ?_);(·rfl);(·rfl);intro A6 c6 w6 o6 b6 k6;refine Ey.mk ?_);apply Et;have b7:=Kb b6 (fun k hk=>(k6 k hk (fun b h=>Uq)).1);rw[cX] at o6;have O6:=J o6;replace HV:=J<|EQ HV.out fun _ _ h=>H.u h b7;replace HI:=J<|Uz.keep HI.out fun _ _ h=>H.u h b7;replace B:=J<|B.out.trans b6;clear o6 b6 k6 b7 cs0 sX;have ah:=EP KS B.out;have cs0:w6.cell? ⟨gs,0,Z⟩=X (EJ A0 m c0):=(H.cell ah.out 0).trans U;have sX:w6.frozen? ⟨gs,0,Z⟩=V:=H.I_ ah.out 0;go_wp2;go_ret;refine⟨its,r,v,vals,A6,c6,w6,U,HP.out,?_,?_,B.out,A_,H_ O6.out ah.out _ _⟩;·exact EQ HV.out fun _ _ h=>(JS (g:=gs) 0 _).El h (E7 h ah.out Eb)
   ·exact El8
  ·have e2:N-k=rl:=D;go_wp2_with ((with_reducible refine It 38 ?_);(with_reducible refine lv _ (Ei U) (.const (EJ Z 0 0)) (.tmp 37) U w.heap.size Z 0 0 [] U ?_ (XY _ _) (X ⟨g3,k,Z⟩) (c3-k) rl r wX.out.symm ?_ RK.out D B.out.size ?_);(·rfl);(·rfl);intro A6 c6 w6 o6 b6 k6;refine Ey.mk ?_);apply Et;have b7:=Kb b6 (fun k hk=>(k6 k hk (fun b h=>Uq)).1);rw[cX] at o6;have O6:=J o6;replace HV:=J<|EQ HV.out fun _ _ h=>H.u h b7;replace HI:=J<|Uz.keep HI.out fun _ _ h=>H.u h b7;replace B:=J<|B.out.trans b6;clear o6 b6 k6 b7 cs0 sX;have ah:=EP KS B.out;have cs0:w6.cell? ⟨gs,0,Z⟩=X (EJ A0 m c0):=(H.cell ah.out 0).trans U;have sX:w6.frozen? ⟨gs,0,Z⟩=V:=H.I_ ah.out 0;go_wp2;go_ret;refine⟨its,r,v,vals,A6,c6,w6,U,HP.out,?_,?_,B.out,A_,H_ O6.out ah.out _ _⟩;·exact EQ HV.out fun _ _ h=>(JS (g:=gs) 0 _).El h (E7 h ah.out Eb)
   ·exact El8
 ·subst hA3 hc3;have hN0:N=0:=D;have hk0:k=0:=D;have hr0:rl=0:=D;subst hk0 hr0;have RN:Ed (Row w4 Z r):=J (by have e:r=[]:=ao A_;rw[e];exact nf _ _);go_wp2_with ((with_reducible refine It 38 ?_);(with_reducible refine lv _ (Ei U) (.const (EJ Z 0 0)) (.tmp 37) U w.heap.size Z 0 0 [] U ?_ (XY _ _) Z 0 0 r wX.out.symm ?_ RN.out D B.out.size ?_);(·rfl);(·rfl);intro A6 c6 w6 o6 b6 k6;refine Ey.mk ?_);apply Et;have b7:=Kb b6 (fun k hk=>(k6 k hk (fun b h=>Uq)).1);rw[cX] at o6;have O6:=J o6;replace HV:=J<|EQ HV.out fun _ _ h=>H.u h b7;replace HI:=J<|Uz.keep HI.out fun _ _ h=>H.u h b7;replace B:=J<|B.out.trans b6;clear o6 b6 k6 b7 cs0 sX;have ah:=EP KS B.out;have cs0:w6.cell? ⟨gs,0,Z⟩=X (EJ A0 m c0):=(H.cell ah.out 0).trans U;have sX:w6.frozen? ⟨gs,0,Z⟩=V:=H.I_ ah.out 0;go_wp2;go_ret;refine⟨its,r,v,vals,A6,c6,w6,U,HP.out,?_,?_,B.out,A_,H_ O6.out ah.out _ _⟩;·exact EQ HV.out fun _ _ h=>(JS (g:=gs) 0 _).El h (E7 h ah.out Eb)
  ·exact El8
theorem Efd(w:M):Eg Ea 24 #[] w fun e w'=>e=Eh (Y (X ⟨w.heap.size,0,Z⟩))/\w'=w.alloc (Ec #[EJ Z 0 0] 122):=by go_enter Tryz.func24,Tryz.ntmps24;exact Ej7
def I6(x lo hi:Int):Bool:=decide (lo<=x)&&decide (x<=hi)
theorem Eff(lo hi:Int)(w:M): Eg Ea 66 #[E I lo,E I hi] w fun e w'=>e=Eh (.func (.func 80) #[] #[Y (X ⟨w.heap.size,0,Z⟩),Y (X ⟨w.heap.size+1,0,Z⟩)])/\w'=((w.alloc (Ec #[E I lo] 3)).alloc (Ec #[E I hi] 3)):=by go_enter Tryz.func66,Tryz.ntmps66;exact Ej7
theorem gY(x lo hi:Int)(a b:Nat)(w:M)(ha:w.cell? ⟨a,0,Z⟩=X (E I lo))(hb:w.cell? ⟨b,0,Z⟩=X (E I hi)): Eg Ea 80 #[E I x,Y (X ⟨a,0,Z⟩),Y (X ⟨b,0,Z⟩)] w fun e w'=>e=Eh (EU (I6 x lo hi))/\w=w':=by
 unfold I6;by_cases h1:lo<=x;·have t1:decide (lo<=x)=EI:=IE h1;go_enter Tryz.func80,Tryz.ntmps80;exact Enj
 ·have t1:decide (lo<=x)=V:=Ia h1;go_enter Tryz.func80,Tryz.ntmps80;exact Enj
def BJ(w:M)(f:FuncId)(cap:Array G)(vs:List G)(pr:G->Bool):Prop:=
 ic f/\ ∀v∈vs,∀W,Ek w W->Eg Ea f (#[v]++cap) W fun e w'=>e=Eh (EU (pr v))/\Ek W w'
theorem Kd{pr:G->Bool}{L:List G}{k:Nat}(hv:L[k]?=X v)(h:(L.take k).all pr=EI):((L.take (k+1)).all pr=pr v)/\(pr v=V->L.all pr=V):=by
 refine⟨?_,fun hf=> ?_⟩;·rw[lL,hv,List.all_append,h];simp
 ·rw[List.all_eq_false];exact⟨v,cG hv,by rw[hf];simp⟩
theorem Efg:Ow Ea 25 #[E I 0,E I 0,E I 0,E I 0]:=by exact Ekv
theorem i9(f:FuncId)(cap:Array G)(L:List G)(pr:G->Bool)(b off n c:Nat)(w:M)(hn:L.length=n)(hs:n<=1000000)(hf:BJ w f cap L pr)(hl: ∀i v,L[i]?=X v->w.cell? ⟨b,off+i,Z⟩=X v): Eg Ea 62 #[EJ (X ⟨b,off,Z⟩) n c,.func (.func f) #[] cap] w fun e w'=>e=Eh (EU (L.all pr))/\Ek w w':=by
 have HE:=hf.1;unfold ic at HE;have HC:=J hf.2;have HL:=J hl;have HN:=J hn;obtain⟨r,hr⟩:=Eo (L.all pr);rw[<-hr];replace hr:=J hr;clear hf hl hn;go_enter Tryz.func62,Tryz.ntmps62;go_wp2_with fail;go_loopw[9] (fun y wr=> ∃k:Nat,k<=n/\y=E I k/\Ek w wr/\(L.take k).all pr=EI) (fun y _=>n-(I5 y).toNat);case atStart=>exact⟨0,D,U,E_ _ _,U⟩
 case round=>
  obtain⟨k,hk,rfl,bb,ht⟩:=hrel;have B:=J bb;have HT:=J ht;clear bb ht;by_cases hlt:k<n
  ·have t1:decide ((k:Int)<(n:Int))=EI:=IE D;obtain⟨v,hv⟩: ∃v,L[k]?=X v:=⟨L[k]' lB,JY _⟩;have cv:wr.cell? ⟨b,off+k,Z⟩=X v:=(B.out.cell (UV _ _ (HL.out k v hv))).trans (HL.out k v hv);have CV:=J<|HC.out _ (cG hv) wr B.out;have AT:=J<|Kd hv HT.out;clear hv;go_wp2_with fail;refine CV.out.mono ?_;rintro e w2 ⟨rfl,b2⟩;replace B:=EW B b2;clear b2;cases hp:pr v with
   |true=> go_wp2_with fail;exact⟨⟨k+1,D,Ej,B.out,Kf⟩,J6⟩
   |false=> go_wp2;go_ret;exact⟨Kg,B.out⟩
  ·exact EkS
theorem Efh(f:FuncId)(cap:Array G)(L:List G)(pr:G->Bool)(b off n c:Nat)(w:M)(hn:L.length=n)(hs:n<=1000000)(hf:BJ w f cap L pr)(hl: ∀i v,L[i]?=X v->w.cell? ⟨b,off+i,Z⟩=X v): Eg Ea 60 #[EJ (X ⟨b,off,Z⟩) n c,.func (.func f) #[] cap] w fun e w'=>e=Eh (EU (L.all pr))/\Ek w w':=by
 have HE:=hf.1;unfold ic at HE;have HC:=J hf.2;have HL:=J hl;have HN:=J hn;obtain⟨r,hr⟩:=Eo (L.all pr);rw[<-hr];replace hr:=J hr;clear hf hl hn;go_enter Tryz.func60,Tryz.ntmps60;go_wp2_with fail;go_loopw[9] (fun y wr=> ∃k:Nat,k<=n/\y=E I k/\Ek w wr/\(L.take k).all pr=EI) (fun y _=>n-(I5 y).toNat);case atStart=>exact⟨0,D,U,E_ _ _,U⟩
 case round=>
  obtain⟨k,hk,rfl,bb,ht⟩:=hrel;have B:=J bb;have HT:=J ht;clear bb ht;by_cases hlt:k<n
  ·have t1:decide ((k:Int)<(n:Int))=EI:=IE D;obtain⟨v,hv⟩: ∃v,L[k]?=X v:=⟨L[k]' lB,JY _⟩;have cv:wr.cell? ⟨b,off+k,Z⟩=X v:=(B.out.cell (UV _ _ (HL.out k v hv))).trans (HL.out k v hv);have CV:=J<|HC.out _ (cG hv) wr B.out;have AT:=J<|Kd hv HT.out;clear hv;go_wp2_with fail;refine CV.out.mono ?_;rintro e w2 ⟨rfl,b2⟩;replace B:=EW B b2;clear b2;cases hp:pr v with
   |true=> go_wp2_with fail;exact⟨⟨k+1,D,Ej,B.out,Kf⟩,J6⟩
   |false=> go_wp2;go_ret;exact⟨Kg,B.out⟩
  ·exact EkS
theorem Efi(f:FuncId)(cap:Array G)(L:List G)(pr:G->Bool)(b off n c:Nat)(w:M)(hn:L.length=n)(hs:n<=1000000)(hf:BJ w f cap L pr)(S:Ez)(CS:Array G)(kb:H w b CS S)(ho: ∀row:Array G,EZ row∈L->row.all (·.oneCell')=EI)(hl: ∀i v,L[i]?=X v-> ∃row:Array G,v=EZ row/\row.size=4/\CS.extract (off+i*4) (off+i*4+4)=row): Eg Ea 64 #[EJ (X ⟨b,off,Z⟩) n c,.func (.func f) #[] cap] w fun e w'=>e=Eh (EU (L.all pr))/\Ek w w':=by
 have HE:=hf.1;have KB:=J kb;have HO:=J ho;unfold ic at HE;have HC:=J hf.2;have HL:=J hl;have HN:=J hn;obtain⟨r,hr⟩:=Eo (L.all pr);rw[<-hr];replace hr:=J hr;clear hf hl hn kb ho;go_enter Tryz.func64,Tryz.ntmps64;go_wp2_with fail;go_loopw[9] (fun y wr=> ∃k:Nat,k<=n/\y=E I k/\Ek w wr/\(L.take k).all pr=EI) (fun y _=>n-(I5 y).toNat);case atStart=>exact⟨0,D,U,E_ _ _,U⟩
 case round=>
  obtain⟨k,hk,rfl,bb,ht⟩:=hrel;have B:=J bb;have HT:=J ht;clear bb ht;by_cases hlt:k<n
  ·have t1:decide ((k:Int)<(n:Int))=EI:=IE D;obtain⟨v,hv⟩: ∃v,L[k]?=X v:=⟨L[k]' lB,JY _⟩;obtain⟨row,rfl,hrs,hre⟩:=HL.out k v hv;have KK:=EP KB B.out;have bH:=J hrs;have HRE:=J hre;clear hrs hre;have RO:Ed (row.all (·.oneCell')=EI):=J<|HO.out row (cG hv);have K0:=J<|H.new wr #[E I 0,E I 0,E I 0,E I 0] 25;have b3:=Er wr (Ec #[E I 0,E I 0,E I 0,E I 0] 25);have HV:=J<|cG hv;have AT:=J<|Kd hv HT.out;clear hv;go_wp2_with (with_reducible first|refine wM (off:=off+k*4) (cs:=row) vb KK ?_ (hn:=bH.out) (he:=HRE.out)|refine wA Efg ?_|refine wS (cs:=row) vb K0 (Ey.mk ?_) (hn:=bH.out) (h1:=RO.out));apply Et;obtain⟨gx,hgx⟩:=Eo wr.heap.size;rw[<-hgx] at K0⊢;generalize wr.alloc (Ec #[E I 0,E I 0,E I 0,E I 0] 25)=Xz at*;have KX:=J<|K0.out.setRow row;have b4:=E6 (g:=gx) b3 (Ud hgx.symm) row;generalize Xz.setRow gx row=JQ at*;clear K0 b3 hgx;have CV:=J<|HC.out _ HV.out JQ (bt B.out b4);replace B:=EW B b4;clear b4;go_wp2_with (with_reducible refine wL vb KX ?_ (hn:=bH.out));refine CV.out.mono ?_;rintro e w2 ⟨rfl,b2⟩;replace B:=EW B b2;clear b2;cases hp:pr (EZ row) with
   |true=> go_wp2_with fail;exact⟨⟨k+1,D,Ej,B.out,Kf⟩,J6⟩
   |false=> go_wp2;go_ret;exact⟨Kg,B.out⟩
  ·exact EkS
def OZ(lo hi:Int)(v:G):Bool:=match v with
 | .int _ x=>I6 x lo hi
 |_=>V
def Kh(v:G):Bool:=match v with
 |EJ _ n _=>I6 n 1 64
 |_=>V
def g_(v:G):Bool:=match v with
 | .int _ x=>I6 x 0 15&&x%2==0
 |_=>V
def kx(v:G):Bool:=match v with
 |EZ a=>a.toList.all (OZ 0 15)
 |_=>V
def sZ(o1 o2 o3:Int)(v:G):Bool:=match v with
 | .int _ x=>decide (x∈[o1,o2,o3])
 |_=>V
def JA(lo hi:Int)(v:G)(w:M):Prop:= ∃a b:Nat,v= .func (.func 80) #[] #[Y (X ⟨a,0,Z⟩),Y (X ⟨b,0,Z⟩)]/\w.cell? ⟨a,0,Z⟩=X (E I lo)/\w.cell? ⟨b,0,Z⟩=X (E I hi)
theorem JA.u{lo hi:Int}{w:M}(h:JA lo hi v w)(hb:Ek w w'):JA lo hi v w':=by obtain⟨a,b,e,ca,cb⟩:=h;exact⟨a,b,e,(hb.cell (UV _ _ ca)).trans ca,(hb.cell (UV _ _ cb)).trans cb⟩
theorem ZY(lo hi:Int)(w:M):Eg Ea 66 #[E I lo,E I hi] w fun e w'=> ∃v,e=Eh v/\JA lo hi v w'/\Ek w w':=by
 refine(Eff lo hi w).mono ?_;rintro e w' ⟨rfl,rfl⟩;refine⟨_,U,⟨_,_,U,?_,?_⟩,J3 _ _ _⟩;·exact(H.cell (H.u (H.new w #[E I lo] 3) (Er _ _)) 0).trans U
 ·simp
theorem JA.ok{lo hi:Int}{w:M}(h:JA lo hi v w): ∃cap,v= .func (.func 80) #[] cap/\ ∀vs:List G,(∀Y3∈vs,∃x,Y3=E I x)->BJ w 80 cap vs (OZ lo hi):=by obtain⟨a,b,e,ca,cb⟩:=h;refine⟨_,e,fun vs hvs=>⟨fun _ _=>Ef,fun Y3 hu W hW=> ?_⟩⟩;obtain⟨x,rfl⟩:=hvs Y3 hu;refine(gY x lo hi a b W ((hW.cell (UV _ _ ca)).trans ca) ((hW.cell (UV _ _ cb)).trans cb)).mono ?_;rintro e w' ⟨rfl,rfl⟩;exact⟨U,E_ _ _⟩
theorem VK(A:Option Ev)(n c:Nat)(w:M): Eg Ea 61 #[EJ A n c] w fun e w'=>e=Eh (EU (I6 n 1 64))/\w=w':=by
 unfold I6;by_cases h1:(1:Int)<=n;·have t1:decide ((1:Int)<=(n:Int))=EI:=IE h1;go_enter Tryz.func61,Tryz.ntmps61;exact Enj
 ·have t1:decide ((1:Int)<=(n:Int))=V:=Ia h1;go_enter Tryz.func61,Tryz.ntmps61;exact Enj
theorem Efk(x:Int)(w:M)(hx:I4 x): Eg Ea 63 #[E I x] w fun e w'=>e=Eh (EU (g_ (E I x)))/\Ek w w':=by
 unfold g_;cases hb:I6 x 0 15 with
 |true=>
  have h0:0<=x/\x<=15:=by unfold I6 at hb;simpa using hb
  simp only[Bool.true_and];obtain⟨r,hr⟩:=Eo ((x%2==0));rw[<-hr];have hm:x.tmod 2=x%2:=Int.tmod_eq_emod_of_nonneg h0.1;have hr2:(x.tmod 2==0)=r:=by rw[hm,hr]
  have HB:=J hb;have HRR:=J hr;clear hr hm hb;go_enter Tryz.func63,Tryz.ntmps63;go_wp2_with fail;refine(ZY 0 15 _).mono ?_;rintro e w1 ⟨v,rfl,⟨a,b,rfl,ca,cb⟩,b1⟩;go_wp2_with fail;refine(gY x 0 15 a b _ ca cb).mono ?_;rintro e w2 ⟨rfl,rfl⟩;rw[HB.out];go_wp2;go_ret;exact⟨by rw[HB.out,HRR.out];rfl,b1⟩
 |false=> simp only[Bool.false_and];have HB:=J hb;clear hb;go_enter Tryz.func63,Tryz.ntmps63;go_wp2_with fail;refine(ZY 0 15 _).mono ?_;rintro e w1 ⟨v,rfl,⟨a,b,rfl,ca,cb⟩,b1⟩;go_wp2_with fail;refine(gY x 0 15 a b _ ca cb).mono ?_;rintro e w2 ⟨rfl,rfl⟩;rw[HB.out];go_wp2;go_ret;exact⟨by rw[HB.out];rfl,b1⟩
theorem Efl(L:List Int)(x:Int)(b off n c:Nat)(w:M)(hn:L.length=n)(hs:n<=1000000)(hl: ∀i v,L[i]?=X v->w.cell? ⟨b,off+i,Z⟩=X (E I v)): Eg Ea 110 #[EJ (X ⟨b,off,Z⟩) n c,E I x] w fun e w'=>(∃r:Int,e=Eh (E I r)/\(0<=r↔x∈L))/\w=w':=by
 have HL:=J hl;have HN:=J hn;clear hl hn;go_enter Tryz.func110,Tryz.ntmps110;go_wp2_with fail;go_loop [8] (fun y=> ∃k:Nat,k<=n/\y=E I k/\ ∀j v,j<k->L[j]?=X v->v≠x) (fun y=>n-(I5 y).toNat);case atStart=>exact⟨0,D,U,fun j v h=>D⟩
 case round=>
  obtain⟨k,hk,rfl,ht⟩:=hrel;have HT:=J ht;clear ht;by_cases hlt:k<n
  ·have t1:decide ((k:Int)<(n:Int))=EI:=IE D;obtain⟨v,hv⟩: ∃v,L[k]?=X v:=⟨L[k]' lB,JY _⟩;have cv:w.cell? ⟨b,off+k,Z⟩=X (E I v):=HL.out k v hv;have HV:=J hv;clear hv;by_cases hx:x=v;·have t2:(x==v)=EI:=td;go_wp2;go_ret;refine⟨⟨(k:Int),U,?_⟩,U⟩;exact⟨fun _=>by first|exact cG HV.out|(rw[hx];exact cG HV.out),fun _=>D⟩
   ·have t2:(x==v)=V:=td;go_wp2_with fail;refine⟨⟨k+1,D,Ej,fun j Y3 hj hu=> ?_⟩,J6⟩;by_cases hjk:j<k;·exact HT.out j Y3 hjk hu
    ·obtain rfl:j=k:=D;have:=HV.out.symm.trans hu;injection this with this;rw[<-this];exact fun e=>hx e.symm
  ·obtain rfl:k=n:=D;have t1:decide ((k:Int)<(k:Int))=V:=Ia D;go_wp2;go_ret;refine⟨⟨-1,U,?_⟩,U⟩;refine⟨fun h=>absurd h D,fun hm=> ?_⟩;exfalso;obtain⟨j,hj⟩:=da.1 hm;exact HT.out j x (by have:=(Xr.1 hj).1;rw[HN.out] at this;exact this) hj U
theorem Efm(L:List Int)(x:Int)(bo:Bool)(bV:bo=decide (x∈L))(b off n c:Nat)(w:M)(hn:L.length=n)(hs:n<=1000000)(hl: ∀i v,L[i]?=X v->w.cell? ⟨b,off+i,Z⟩=X (E I v)): Eg Ea 79 #[EJ (X ⟨b,off,Z⟩) n c,E I x] w fun e w'=>e=Eh (EU bo)/\w=w':=by
 have CI:=J<|Efl L x b off n c w hn hs hl;clear hl hn;go_enter Tryz.func79,Tryz.ntmps79;go_wp2_with fail;refine CI.out.mono ?_;rintro e w2 ⟨⟨r,rfl,hr⟩,rfl⟩;have tb:decide (0<=r)=bo:=by rw[bV];exact decide_eq_decide.2 hr
 clear bV hr;exact Ej7
theorem Efn(x o0 o1 o2 o3 o4:Int)(b:Nat)(w:M)(kb:H w b #[E I o0,E I o1,E I o2,E I o3,E I o4] 22): Eg Ea 78 #[E I x,Y (X ⟨b,0,Z⟩)] w fun e w'=>e=Eh (EU (sZ o1 o2 o3 (E I x)))/\w=w':=by
 obtain⟨bo,bV⟩: ∃bo,bo=sZ o1 o2 o3 (E I x):=⟨_,U⟩;rw[<-bV]
 have CT:=J (Efm [o1,o2,o3] x bo bV b 1 3 4 w U D (fun i v hi=>by
  match i,hi with
  |0,hi=>injection hi with hi;rw[<-hi];exact(H.cell kb 1).trans U
  |1,hi=>injection hi with hi;rw[<-hi];exact(H.cell kb 2).trans U
  |2,hi=>injection hi with hi;rw[<-hi];exact(H.cell kb 3).trans U))
 clear bV kb;go_enter Tryz.func78,Tryz.ntmps78;go_wp2_with fail;refine CT.out.mono ?_;rintro e w2 ⟨rfl,rfl⟩;exact Ej7
def i_(o0 o1 o2 o3 o4:Int):Bool:=(o0==0&&o4==4)&&[E .i64 1,E I 2,E I 3].all (sZ o1 o2 o3)
theorem Efo(o0 o1 o2 o3 o4:Int)(w:M): Eg Ea 59 #[EZ #[E I o0,E I o1,E I o2,E I o3,E I o4]] w fun e w'=>e=Eh (EU (i_ o0 o1 o2 o3 o4))/\Ek w w':=by
 unfold i_;obtain⟨bo,bV⟩: ∃bo,bo=[E .i64 1,E I 2,E I 3].all (sZ o1 o2 o3):=⟨_,U⟩;rw[<-bV];replace bV:=J bV;by_cases h0:o0=0
 ·have t0:(o0 !=0)=V:=rV;by_cases h4:o4=4
  ·have t4:(o4 !=4)=V:=fR;have eb:((o0==0&&o4==4)&&bo)=bo:=by rw[h0,h4];rfl
   rw[eb];clear eb h0 h4;have KB:=J<|H.new w #[E I o0,E I o1,E I o2,E I o3,E I o4] 22;have b1:=Er w (Ec #[E I o0,E I o1,E I o2,E I o3,E I o4] 22);have b2:=Er (w.alloc (Ec #[E I o0,E I o1,E I o2,E I o3,E I o4] 22)) (Ec #[E I 1,E I 2,E I 3] 3);have KA:=EP KB b2;have KI:=H.new (w.alloc (Ec #[E I o0,E I o1,E I o2,E I o3,E I o4] 22)) #[E I 1,E I 2,E I 3] 3;rw[World.size_alloc] at KI
   have AL:=J (i9 78 #[Y (X ⟨w.heap.size,0,Z⟩)] [E I 1,E I 2,E I 3] (sZ o1 o2 o3) (w.heap.size+1) 0 3 3 _ U D ⟨fun _ _=>Ef,fun v hv W hW=>by
    obtain⟨x,rfl⟩: ∃x,v=E I x:=by simp only[OY,Uu,or_false] at hv;rcases hv with rfl|rfl|rfl<;>exact⟨_,rfl⟩
    refine(Efn x o0 o1 o2 o3 o4 w.heap.size W (H.u KA.out hW)).mono ?_;rintro e w' ⟨rfl,rfl⟩;exact⟨U,E_ _ _⟩⟩ (fun i v hi=>by
    match i,hi with
    |0,hi=>injection hi with hi;rw[<-hi];exact(H.cell KI 0).trans U
    |1,hi=>injection hi with hi;rw[<-hi];exact(H.cell KI 1).trans U
    |2,hi=>injection hi with hi;rw[<-hi];exact(H.cell KI 2).trans U))
   have B:=J<|bt b1 b2;clear KB b1 b2 KA KI;go_enter Tryz.func59,Tryz.ntmps59;go_wp2_with fail;refine AL.out.mono ?_;rintro e w3 ⟨rfl,b3⟩;rw[<-bV.out];go_wp2;go_ret;exact⟨U,bt B.out b3⟩
  ·have t4:(o4 !=4)=EI:=fR;have eb:((o0==0&&o4==4)&&bo)=V:=fR;rw[eb];clear eb h0 h4;exact Eov
 ·have t0:(o0 !=0)=EI:=rV;have eb:((o0==0&&o4==4)&&bo)=V:=rV;rw[eb];clear eb h0;exact Eov
theorem mG{vs:List G}{L:List Int}(h:vs=L.map (E .i64)): ∀Y3∈vs,∃x,Y3=E .i64 x:=by subst h;intro Y3 hu;obtain⟨x,-,e⟩:=bc.1 hu;exact⟨x,e.symm⟩
theorem Efp(r0 r1 r2 r3:Int)(w:M): Eg Ea 65 #[EZ #[E I r0,E I r1,E I r2,E I r3]] w fun e w'=>e=Eh (EU (kx (EZ #[E I r0,E I r1,E I r2,E I r3])))/\Ek w w':=by
 obtain⟨bo,bV⟩: ∃bo,bo=kx (EZ #[E I r0,E I r1,E I r2,E I r3]):=⟨_,U⟩;rw[<-bV];have HBO:Ed (bo=([r0,r1,r2,r3].map (E .i64)).all (OZ 0 15)):=J (by rw[bV];rfl);have K0:=J<|H.new w #[E I r0,E I r1,E I r2,E I r3] 25;have b1:=Er w (Ec #[E I r0,E I r1,E I r2,E I r3] 25);clear bV;go_enter Tryz.func65,Tryz.ntmps65;go_wp2_with fail;obtain⟨gb,hgb⟩:=Eo w.heap.size;rw[<-hgb] at K0⊢;have KB:=J K0.out;have B:=J b1;clear K0 b1;generalize w.alloc (Ec #[E I r0,E I r1,E I r2,E I r3] 25)=w1 at*;refine Zx (Ph:=fun _ wq=>Ek w1 wq) (Rel:=Jn) (In:=fun w w'=>w=w') [kq (EJ (X ⟨gb,0,Z⟩) 4 4),.dep (JA 0 15) (fun v w w' h hr=>h.u hr) (fun v w w' h hr=>Xn),kq (EU bo),kq (EU bo)] [V,V,V,V] U [] [(0,0),(0,0),(0,0),(0,0)] Ef Ef Ef Ef Ef O0 Ef ?hPh ?h0 ?hstep ?hend;case hPh=> intro p w2 w3 h hr;exact bt h hr
 case h0=> exact JZ w1
 case hstep=>
  refine⟨?_,?_,?_,?_,trivial⟩;all_goals intro xv wq p hlo hhi hp hd
  all_goals simp only[ED,Ic,Ii,IJ,IU]
  ·exact EkN
  ·refine JE (f:=66) (args:= #[E I 0,E I 15]) (Ei U) Ew ?_;exact(ZY 0 15 wq).mono fun e w2 ⟨v,he,hv,hb⟩=>⟨v,he,hb,hv⟩
  ·have d0:xv 0=EJ (X ⟨gb,0,Z⟩) 4 4:=hd.at 0 rfl;obtain⟨cap,e1,hok⟩:=JA.ok (hd.at 1 rfl:JA 0 15 (xv 1) wq);refine JE (f:=62) (args:= #[EJ (X ⟨gb,0,Z⟩) 4 4,.func (.func 80) #[] cap]) (Ei U) (by simp[go_sem,e1,d0]) ?_;exact(i9 _ cap ([r0,r1,r2,r3].map (E .i64)) (OZ 0 15) gb 0 4 4 wq U D (hok _ (mG U)) (fun i v hi=>(H.cell (H.u KB.out hp) i).trans XO|>fun h=>UB)).mono fun e w2 ⟨he,hb⟩=>⟨EU bo,he.trans (by rw[HBO.out]),hb,U⟩
  ·have d2:xv 2=EU bo:=hd.at 2 rfl;exact Ep GE U
 case hend=> intro xv W6 hp hd;simp only[ED,Ic,Ii,IJ,IU];have a2:xv 2=EU bo:=hd 2 Eb;have a3:xv 3=EU bo:=hd 3 Eb;rw[a2,a3];clear hd a2 a3;replace B:=EW B hp;clear hp;go_wp2;go_ret;exact Env
structure mH(g:Nat->G)(p:Nat->Int)(kl:Nat->Nat):Prop where
 int: ∀i,i<56->i<5\/8<i->g i=E I (p i)/\I4 (p i)
 key: ∀i,5<=i->i<=8-> ∃(A:Option Ev) (c:Nat),g i=EJ A (kl i) c
def Ki(p:Nat->Int):Bool:=i_ (p 0) (p 1) (p 2) (p 3) (p 4)
def ky(kl:Nat->Nat):Bool:=((I6 (kl 5) 1 64&&I6 (kl 6) 1 64)&&I6 (kl 7) 1 64)&&I6 (kl 8) 1 64
def BO(p:Nat->Int):Bool:=(p 9==1&&p 13==0)&&([p 10,p 11,p 12].map (E .i64)).all g_
def hI(p:Nat->Int)(k:Nat):G:=EZ #[E I (p (14+k*4)),E I (p (15+k*4)),E I (p (16+k*4)),E I (p (17+k*4))]
def BU(p:Nat->Int):Bool:=[hI p 0,hI p 1,hI p 2,hI p 3,hI p 4].all kx
def Ba(p:Nat->Int):Bool:=([p 34,p 35,p 36,p 37,p 38].map (E .i64)).all (OZ 0 31)
def wZ(p:Nat->Int):Bool:=([p 39,p 40,p 41].map (E .i64)).all (OZ 0 4)
def wg(p:Nat->Int):Bool:=([p 42,p 43,p 44,p 45].map (E .i64)).all (OZ 1 1000)
def Bb(p:Nat->Int):Bool:=I6 (p 46) 1 1000&&I6 (p 47) 0 1000
def wh(p:Nat->Int):Bool:=([p 48,p 49].map (E .i64)).all (OZ 1 3)
def mK(p:Nat->Int):Bool:=(p 50==0&&([p 51,p 52,p 53].map (E .i64)).all (OZ 0 1000))&&I6 (p 54) 1 1000
def Bc(p:Nat->Int):Bool:=I6 (p 55) 0 65535
def Kj(b1 b2 b3 b4 b5 b6 b7 b8 b9 b10 b11:Bool):Int:=
 bif b1 then bif b2 then bif b3 then bif b4 then bif b5 then bif b6 then bif b7 then bif b8 then bif b9 then bif b10 then bif b11 then 0 else 50 else 49 else 48 else 47 else 46 else 45 else 44 else 43 else 42 else 41 else 40
def UA(p:Nat->Int)(kl:Nat->Nat):Int:=Kj (Ki p) (ky kl) (BO p) (BU p) (Ba p) (wZ p) (wg p) (Bb p) (wh p) (mK p) (Bc p)
theorem Xb:IF Ea 22 5:=⟨⟨_,Tryz.underlying22,U⟩,Ef⟩
theorem Efr(g:Nat->G)(p:Nat->Int)(kl:Nat->Nat)(w:M)(hv:mH g p kl): Eg Ea 39 #[EZ (EN 56 g)] w fun e w'=>e=Eh (E I (UA p kl))/\Ek w w':=by
 obtain⟨r,hr⟩:=Eo (UA p kl);rw[<-hr];unfold UA at hr;obtain⟨b1,hb1⟩:=Eo (Ki p);rw[<-hb1] at hr;replace hb1:=J hb1;obtain⟨b2,hb2⟩:=Eo (ky kl);rw[<-hb2] at hr;replace hb2:=J hb2;obtain⟨b3,hb3⟩:=Eo (BO p);rw[<-hb3] at hr;replace hb3:=J hb3;obtain⟨b4,hb4⟩:=Eo (BU p);rw[<-hb4] at hr;replace hb4:=J hb4;obtain⟨b5,hb5⟩:=Eo (Ba p);rw[<-hb5] at hr;replace hb5:=J hb5;obtain⟨b6,hb6⟩:=Eo (wZ p);rw[<-hb6] at hr;replace hb6:=J hb6;obtain⟨b7,gH⟩:=Eo (wg p);rw[<-gH] at hr;replace gH:=J gH;obtain⟨b8,mM⟩:=Eo (Bb p);rw[<-mM] at hr;replace mM:=J mM;obtain⟨b9,mN⟩:=Eo (wh p);rw[<-mN] at hr;replace mN:=J mN;obtain⟨b10,mP⟩:=Eo (mK p);rw[<-mP] at hr;replace mP:=J mP;obtain⟨b11,mQ⟩:=Eo (Bc p);rw[<-mQ] at hr;replace mQ:=J mQ;have HRR:=J hr;have K0:=J<|H.new w (EN 56 g) 28;have sb:=Er w (Ec (EN 56 g) 28);have PV:=J hv;clear hr hv;go_enter Tryz.func39,Tryz.ntmps39;go_wp2_with (with_reducible refine JU 4 ?_);apply Et;obtain⟨gp,O8⟩:=Eo w.heap.size;rw[<-O8] at K0⊢;have KP:=J K0.out;have B1:=J sb;clear K0 sb O8;generalize w.alloc (Ec (EN 56 g) 28)=w1 at*;have B:=J<|E_ w1.heap.size w1;have PC:Ed (∀W,Ek w1 W-> ∀i,i<56->i<5\/8<i->W.cell? ⟨gp,i,Z⟩=X (E I (p i))):=J (fun W hW i h1 h2=>by rw[H.cell (H.u KP.out hW) i,Zz,if_pos h1,(PV.out.int i h1 h2).1]);have c_:Ed ((EN 56 g).extract 0 (0+5)= #[E I (p 0),E I (p 1),E I (p 2),E I (p 3),E I (p 4)]):=J (by have e:(EN 56 g).extract 0 (0+5)= #[g 0,g 1,g 2,g 3,g 4]:=bu;rw[e,(PV.out.int 0 D D).1,(PV.out.int 1 D D).1,(PV.out.int 2 D D).1,(PV.out.int 3 D D).1,(PV.out.int 4 D D).1]);have CO:Ed (∀W,Eg Ea 59 #[EZ #[E I (p 0),E I (p 1),E I (p 2),E I (p 3),E I (p 4)]] W fun e w'=>e=Eh (EU b1)/\Ek W w'):=J (fun W=>by rw[hb1.out];exact Efo _ _ _ _ _ W);go_wp2_with (with_reducible refine wM (off:=0) (cs:= #[E I (p 0),E I (p 1),E I (p 2),E I (p 3),E I (p 4)]) Xb KP ?_ (he:=c_.out));refine(CO.out _).mono ?_;rintro e W1 ⟨rfl,bb⟩;replace B:=EW B bb;clear bb CO c_;cases b1 with
 |false=> go_wp2;go_ret;exact⟨Z0,bt B1.out B.out⟩
 |true=>
 obtain⟨A5,c5,e5⟩:=PV.out.key 5 D D;obtain⟨A6,c6,e6⟩:=PV.out.key 6 D D;obtain⟨A7,c7,e7⟩:=PV.out.key 7 D D;obtain⟨A8,c8,e8⟩:=PV.out.key 8 D D;obtain⟨Kk,Kl⟩:=Eo ([EJ A5 (kl 5) c5,EJ A6 (kl 6) c6,EJ A7 (kl 7) c7].all Kh);obtain⟨Km,Ko⟩:=Eo (I6 (kl 8) 1 64);obtain rfl:b2=(Kk&&Km):=by rw[hb2.out,Kl,Ko];unfold ky;simp[Kh,Bool.and_assoc]
 have CK:Ed (∀W,Ek w1 W->Eg Ea 60 #[EJ (X ⟨gp,5,Z⟩) 3 3,.func (.func 61) #[] #[]] W fun e w'=>e=Eh (EU Kk)/\Ek W w'):=J (fun W hW=>by
  rw[Kl];refine Efh 61 #[] _ Kh gp 5 3 3 W U D ⟨fun _ _=>Ef,fun v hv W2 hW2=> ?_⟩ (fun i v hi=> ?_)
  ·obtain⟨A,n,c,rfl⟩: ∃A n c,v=EJ A n c:=by simp only[OY,Uu,or_false] at hv;rcases hv with rfl|rfl|rfl<;>exact⟨_,_,_,rfl⟩
   refine(VK A n c W2).mono ?_;rintro e w' ⟨rfl,rfl⟩;exact⟨U,E_ _ _⟩
  ·have hc: ∀i,i<56->W.cell? ⟨gp,i,Z⟩=X (g i):=fun i h=>by rw[H.cell (H.u KP.out hW) i,Zz,if_pos h]
   match i,hi with
   |0,hi=>injection hi with hi;rw[<-hi,<-e5];exact hc 5 D
   |1,hi=>injection hi with hi;rw[<-hi,<-e6];exact hc 6 D
   |2,hi=>injection hi with hi;rw[<-hi,<-e7];exact hc 7 D)
 have VL:Ed (∀W,Eg Ea 61 #[EJ A8 (kl 8) c8] W fun e w'=>e=Eh (EU Km)/\W=w'):=J (fun W=>by rw[Ko];exact VK _ _ _ W);have C8:Ed (∀W,Ek w1 W->W.cell? ⟨gp,8,Z⟩=X (EJ A8 (kl 8) c8)):=J (fun W hW=>by rw[H.cell (H.u KP.out hW) 8,Zz,if_pos D,e8]);clear e5 e6 e7 e8 Kl Ko;go_wp2_with fail;refine(CK.out _ B.out).mono ?_;rintro e W2 ⟨rfl,bb⟩;replace B:=EW B bb;clear bb CK;have cc8:=C8.out _ B.out;cases Kk with
 |false=> go_wp2;go_ret;exact⟨Z0,bt B1.out B.out⟩
 |true=>
 go_wp2_with fail;refine(VL.out _).mono ?_;rintro e W2' ⟨rfl,rfl⟩;cases Km with
 |false=> go_wp2;go_ret;exact⟨Z0,bt B1.out B.out⟩
 |true=>
 clear VL C8 cc8;have c9:=PC.out _ B.out 9 D D;have c13:=PC.out _ B.out 13 D D;obtain⟨Kp,Kq⟩: ∃b,b=([p 10,p 11,p 12].map (E .i64)).all g_:=⟨_,U⟩
 have VM:Ed (∀W,Ek w1 W-> ∀i v,([p 10,p 11,p 12].map (E .i64))[i]?=X v->W.cell? ⟨gp,10+i,Z⟩=X v):=J (fun W hW i v hi=>by
  match i,hi with
  |0,hi=>injection hi with hi;rw[<-hi];exact PC.out W hW 10 D D
  |1,hi=>injection hi with hi;rw[<-hi];exact PC.out W hW 11 D D
  |2,hi=>injection hi with hi;rw[<-hi];exact PC.out W hW 12 D D
  )
 have CR:Ed (∀W,Ek w1 W->Eg Ea 62 #[EJ (X ⟨gp,10,Z⟩) 3 4,.func (.func 63) #[] #[]] W fun e w'=>e=Eh (EU Kp)/\Ek W w'):=J (fun W hW=>by
  rw[Kq];refine i9 63 #[] _ g_ gp 10 3 4 W U D ⟨fun _ _=>Ef,fun v hv W2 hW2=> ?_⟩ (VM.out W hW)
  obtain⟨x,rfl,hx⟩: ∃x,v=E I x/\I4 x:=by
   simp only[Xs,Zu,OY,Uu,or_false] at hv;rcases hv with rfl|rfl|rfl;·exact⟨_,U,(PV.out.int 10 D D).2⟩
   ·exact⟨_,U,(PV.out.int 11 D D).2⟩
   ·exact⟨_,U,(PV.out.int 12 D D).2⟩
  exact Efk x W2 hx)
 have e3:Ed (b3=((p 9==1&&p 13==0)&&Kp)):=J (by rw[hb3.out,Kq];rfl);clear Kq VM;by_cases h9:p 9=1
 case neg=>
  have t9:(p 9 !=1)=EI:=by simp[h9]
  obtain rfl:b3=V:=by rw[e3.out];simp[h9]
  go_wp2;exact Elg
 have t9:(p 9 !=1)=V:=by simp[h9]
 by_cases dy:p 13=0
 case neg=>
  have t13:(p 13 !=0)=EI:=by simp[dy]
  obtain rfl:b3=V:=by rw[e3.out];simp[dy]
  go_wp2;exact Elg
 have t13:(p 13 !=0)=V:=by simp[dy]
 obtain rfl:b3=Kp:=by rw[e3.out];simp[h9,dy]
 clear h9 dy e3;go_wp2_with fail;refine(CR.out _ B.out).mono ?_;rintro e W3 ⟨rfl,bb⟩;replace B:=EW B bb;clear bb CR c9 c13 t9 t13;cases b3 with
 |false=> go_wp2;go_ret;exact⟨Z0,bt B1.out B.out⟩
 |true=>
 have CR:Ed (∀W,Ek w1 W->Eg Ea 64 #[EJ (X ⟨gp,14,Z⟩) 5 5,.func (.func 65) #[] #[]] W fun e w'=>e=Eh (EU b4)/\Ek W w'):=J (fun W hW=>by
  rw[hb4.out];have hrow: ∀v∈[hI p 0,hI p 1,hI p 2,hI p 3,hI p 4],∃r0 r1 r2 r3:Int,v=EZ #[E I r0,E I r1,E I r2,E I r3]:=fun v hv=>by simp only[OY,Uu,or_false] at hv;rcases hv with rfl|rfl|rfl|rfl|rfl<;>exact⟨_,_,_,_,rfl⟩
  refine Efi 65 #[] _ kx gp 14 5 5 W U D ⟨fun _ _=>Ef,fun v hv W2 hW2=> ?_⟩ 28 (EN 56 g) (H.u KP.out hW) (fun row hr=> ?_) (fun i v hi=> ?_);·obtain⟨r0,r1,r2,r3,rfl⟩:=hrow v hv;exact Efp r0 r1 r2 r3 W2
  ·obtain⟨r0,r1,r2,r3,e⟩:=hrow _ hr;injection e with e;rw[e];simp[Ov]
  ·match i,hi with
   |0,hi=> injection hi with hi;refine⟨_,hi.symm,U,?_⟩;have e:(EN 56 g).extract (14) (14+4)= #[g 14,g 15,g 16,g 17]:=bu;rw[show 14+0*4=14 from rfl,e,(PV.out.int 14 D D).1,(PV.out.int 15 D D).1,(PV.out.int 16 D D).1,(PV.out.int 17 D D).1]
   |1,hi=> injection hi with hi;refine⟨_,hi.symm,U,?_⟩;have e:(EN 56 g).extract (18) (18+4)= #[g 18,g 19,g 20,g 21]:=bu;rw[show 14+1*4=18 from rfl,e,(PV.out.int 18 D D).1,(PV.out.int 19 D D).1,(PV.out.int 20 D D).1,(PV.out.int 21 D D).1]
   |2,hi=> injection hi with hi;refine⟨_,hi.symm,U,?_⟩;have e:(EN 56 g).extract (22) (22+4)= #[g 22,g 23,g 24,g 25]:=bu;rw[show 14+2*4=22 from rfl,e,(PV.out.int 22 D D).1,(PV.out.int 23 D D).1,(PV.out.int 24 D D).1,(PV.out.int 25 D D).1]
   |3,hi=> injection hi with hi;refine⟨_,hi.symm,U,?_⟩;have e:(EN 56 g).extract (26) (26+4)= #[g 26,g 27,g 28,g 29]:=bu;rw[show 14+3*4=26 from rfl,e,(PV.out.int 26 D D).1,(PV.out.int 27 D D).1,(PV.out.int 28 D D).1,(PV.out.int 29 D D).1]
   |4,hi=> injection hi with hi;refine⟨_,hi.symm,U,?_⟩;have e:(EN 56 g).extract (30) (30+4)= #[g 30,g 31,g 32,g 33]:=bu;rw[show 14+4*4=30 from rfl,e,(PV.out.int 30 D D).1,(PV.out.int 31 D D).1,(PV.out.int 32 D D).1,(PV.out.int 33 D D).1]
   )
 go_wp2_with fail;refine(CR.out _ B.out).mono ?_;rintro e W4 ⟨rfl,bb⟩;replace B:=EW B bb;clear bb CR;cases b4 with
 |false=> go_wp2;go_ret;exact⟨Z0,bt B1.out B.out⟩
 |true=>
 have ui:Ed (b5=([p 34,p 35,p 36,p 37,p 38].map (E .i64)).all (OZ 0 31)):=J hb5.out
 have VN:Ed (∀W,Ek w1 W-> ∀i v,([p 34,p 35,p 36,p 37,p 38].map (E .i64))[i]?=X v->W.cell? ⟨gp,34+i,Z⟩=X v):=J (fun W hW i v hi=>by
  match i,hi with
  |0,hi=>injection hi with hi;rw[<-hi];exact PC.out W hW 34 D D
  |1,hi=>injection hi with hi;rw[<-hi];exact PC.out W hW 35 D D
  |2,hi=>injection hi with hi;rw[<-hi];exact PC.out W hW 36 D D
  |3,hi=>injection hi with hi;rw[<-hi];exact PC.out W hW 37 D D
  |4,hi=>injection hi with hi;rw[<-hi];exact PC.out W hW 38 D D
  )
 go_wp2_with fail;refine Zx (Ph:=fun _ wq=>Ek w1 wq) (Rel:=Jn) (In:=fun w w'=>w=w') [kp gp 34,kq (EJ (X ⟨gp,34,Z⟩) 5 5),.dep (JA 0 31) (fun v w w' h hr=>h.u hr) (fun v w w' h hr=>Xn),kq (EU b5),kq (EU (!b5)),kq (EU (!b5))] [V,V,V,V,V,V] U [] [(0,0),(0,0),(0,0),(0,0),(0,0),(0,0)] Ef Ef Ef Ef Ef O0 Ef ?hPh ?h0 ?hstep ?hend;case hPh=> intro p_ w2 w3 h hr;exact bt h hr
 case h0=> exact bt B.out (JZ W4)
 case hstep=>
  refine⟨?_,?_,?_,?_,?_,?_,trivial⟩;all_goals intro xv wq p_ hlo hhi hp hd
  all_goals simp only[ED,Ic,Ii,IJ,IU]
  ·exact EkN
  ·have d0:xv 0=Y (X ⟨gp,34,Z⟩):=hd.at 0 rfl;exact EnX
  ·refine JE (f:=66) (args:= #[E I 0,E I 31]) (Ei U) Ew ?_;exact(ZY 0 31 wq).mono fun e w2 ⟨v,he,hv,hb⟩=>⟨v,he,hb,hv⟩
  ·have d1:xv 1=EJ (X ⟨gp,34,Z⟩) 5 5:=hd.at 1 rfl;obtain⟨cap,e1,hok⟩:=JA.ok (hd.at 2 rfl:JA 0 31 (xv 2) wq);refine JE (f:=62) (args:= #[EJ (X ⟨gp,34,Z⟩) 5 5,.func (.func 80) #[] cap]) (Ei U) (by simp[go_sem,e1,d1]) ?_;exact(i9 _ cap ([p 34,p 35,p 36,p 37,p 38].map (E .i64)) (OZ 0 31) gp 34 5 5 wq U D (hok _ (mG U)) (VN.out wq hp)).mono fun e w2 ⟨he,hb⟩=>⟨EU b5,he.trans (by rw[ui.out]),hb,U⟩
  ·have d3:xv 3=EU b5:=hd.at 3 rfl;exact EmW
  ·have d4:xv 4=EU (!b5):=hd.at 4 rfl;exact Ens
 case hend=>
  intro xv W5 hp hd;simp only[ED,Ic,Ii,IJ,IU];have a4:xv 4=EU (!b5):=hd 4 Eb;have a5:xv 5=EU (!b5):=hd 5 Eb;rw[a4,a5];clear hd a4 a5;replace B:=J hp;clear hp;clear VN ui;cases b5 with
  |false=> go_wp2;go_ret;exact⟨Z0,bt B1.out B.out⟩
  |true=>
  have gX:Ed (b6=([p 39,p 40,p 41].map (E .i64)).all (OZ 0 4)):=J hb6.out;go_wp2_with fail;refine Zx (Ph:=fun _ wq=>Ek w1 wq) (Rel:=Jn) (In:=fun w w'=>w=w') [kp gp 39,kq (E I (p 39)),kp gp 40,kq (E I (p 40)),kp gp 41,kq (E I (p 41)),.dep (fun v w=> ∃b:Nat,v=EJ (X ⟨b,0,Z⟩) 3 3/\H w b #[E I (p 39),E I (p 40),E I (p 41)] 3) (fun v w w' h hr=>Kr) (fun v w w' h hr=>Xn),.dep (JA 0 4) (fun v w w' h hr=>h.u hr) (fun v w w' h hr=>Xn),kq (EU b6),kq (EU (!b6)),kq (EU (!b6))] [V,V,V,V,V,V,V,V,V,V,V] U [] [(0,0),(0,0),(0,0),(0,0),(0,0),(0,0),(0,0),(0,0),(0,0),(0,0),(0,0)] Ef Ef Ef Ef Ef O0 Ef ?hPh ?h0 ?hstep ?hend;case hPh=> intro p_ w2 w3 h hr;exact bt h hr
  case h0=> exact bt B.out (JZ W5)
  case hstep=>
   refine⟨?_,?_,?_,?_,?_,?_,?_,?_,?_,?_,?_,trivial⟩;all_goals intro xv wq p_ hlo hhi hp hd
   all_goals simp only[ED,Ic,Ii,IJ,IU]
   ·exact EkN
   ·have d0:xv 0=Y (X ⟨gp,39,Z⟩):=hd.at 0 rfl;have cc:wq.cell? ⟨gp,39,Z⟩=X (E I (p 39)):=(PC.out _ hp 39 D D);exact Ep Kt U
   ·exact EkN
   ·have d2:xv 2=Y (X ⟨gp,40,Z⟩):=hd.at 2 rfl;have cc:wq.cell? ⟨gp,40,Z⟩=X (E I (p 40)):=(PC.out _ hp 40 D D);exact EnK
   ·exact EkN
   ·have d4:xv 4=Y (X ⟨gp,41,Z⟩):=hd.at 4 rfl;have cc:wq.cell? ⟨gp,41,Z⟩=X (E I (p 41)):=(PC.out _ hp 41 D D);exact Ep Fy U
   ·have d1:xv 1=E I (p 39):=hd.at 1 rfl;have d3:xv 3=E I (p 40):=hd.at 3 rfl;have d5:xv 5=E I (p 41):=hd.at 5 rfl;exact Za (w':=wq.alloc (Ec #[E I (p 39),E I (p 40),E I (p 41)] 3)) (Ei U) (by simp[go_sem,d1,d3,d5]) (Er wq _) ⟨wq.heap.size,U,H.new _ _ _⟩
   ·refine JE (f:=66) (args:= #[E I 0,E I 4]) (Ei U) Ew ?_;exact(ZY 0 4 wq).mono fun e w2 ⟨v,he,hv,hb⟩=>⟨v,he,hb,hv⟩
   ·obtain⟨cap,e1,hok⟩:=JA.ok (hd.at 7 rfl:JA 0 4 (xv 7) wq);obtain⟨b,e2,kb⟩: ∃b:Nat,xv 6=EJ (X ⟨b,0,Z⟩) 3 3/\H wq b #[E I (p 39),E I (p 40),E I (p 41)] 3:=hd.at 6 rfl;refine JE (f:=62) (args:= #[EJ (X ⟨b,0,Z⟩) 3 3,.func (.func 80) #[] cap]) (Ei U) Ku ?_;exact(i9 _ cap ([p 39,p 40,p 41].map (E .i64)) (OZ 0 4) b 0 3 3 wq U D (hok _ (mG U)) (fun i v hi=>by have:=(H.cell kb i).trans XO;simpa using this)).mono fun e w2 ⟨he,hb⟩=>⟨EU b6,he.trans (by rw[gX.out]),hb,U⟩
   ·have d8:xv 8=EU b6:=hd.at 8 rfl;exact Ep cu U
   ·have d9:xv 9=EU (!b6):=hd.at 9 rfl;exact Ep nW U
  case hend=>
   intro xv W6 hp hd;simp only[ED,Ic,Ii,IJ,IU];have a9:xv 9=EU (!b6):=hd 9 Eb;have Un:xv 10=EU (!b6):=hd 10 Eb;rw[a9,Un];clear hd a9 Un;replace B:=J hp;clear hp;clear gX;cases b6 with
   |false=> go_wp2;go_ret;exact⟨Z0,bt B1.out B.out⟩
   |true=>
   have uj:Ed (b7=([p 42,p 43,p 44,p 45].map (E .i64)).all (OZ 1 1000)):=J gH.out;go_wp2_with fail;refine Zx (Ph:=fun _ wq=>Ek w1 wq) (Rel:=Jn) (In:=fun w w'=>w=w') [kp gp 42,kq (E I (p 42)),kp gp 43,kq (E I (p 43)),kp gp 44,kq (E I (p 44)),kp gp 45,kq (E I (p 45)),.dep (fun v w=> ∃b:Nat,v=EJ (X ⟨b,0,Z⟩) 4 4/\H w b #[E I (p 42),E I (p 43),E I (p 44),E I (p 45)] 3) (fun v w w' h hr=>Kr) (fun v w w' h hr=>Xn),.dep (JA 1 1000) (fun v w w' h hr=>h.u hr) (fun v w w' h hr=>Xn),kq (EU b7),kq (EU (!b7)),kq (EU (!b7))] [V,V,V,V,V,V,V,V,V,V,V,V,V] U [] [(0,0),(0,0),(0,0),(0,0),(0,0),(0,0),(0,0),(0,0),(0,0),(0,0),(0,0),(0,0),(0,0)] Ef Ef Ef Ef Ef O0 Ef ?hPh ?h0 ?hstep ?hend;case hPh=> intro p_ w2 w3 h hr;exact bt h hr
   case h0=> exact bt B.out (JZ W6)
   case hstep=>
    refine⟨?_,?_,?_,?_,?_,?_,?_,?_,?_,?_,?_,?_,?_,trivial⟩;all_goals intro xv wq p_ hlo hhi hp hd
    all_goals simp only[ED,Ic,Ii,IJ,IU]
    ·exact EkN
    ·have d0:xv 0=Y (X ⟨gp,42,Z⟩):=hd.at 0 rfl;have cc:wq.cell? ⟨gp,42,Z⟩=X (E I (p 42)):=(PC.out _ hp 42 D D);exact Ep Kt U
    ·exact EkN
    ·have d2:xv 2=Y (X ⟨gp,43,Z⟩):=hd.at 2 rfl;have cc:wq.cell? ⟨gp,43,Z⟩=X (E I (p 43)):=(PC.out _ hp 43 D D);exact EnK
    ·exact EkN
    ·have d4:xv 4=Y (X ⟨gp,44,Z⟩):=hd.at 4 rfl;have cc:wq.cell? ⟨gp,44,Z⟩=X (E I (p 44)):=(PC.out _ hp 44 D D);exact Ep Fy U
    ·exact EkN
    ·have d6:xv 6=Y (X ⟨gp,45,Z⟩):=hd.at 6 rfl;have cc:wq.cell? ⟨gp,45,Z⟩=X (E I (p 45)):=(PC.out _ hp 45 D D);exact Ep z5 U
    ·have d1:xv 1=E I (p 42):=hd.at 1 rfl;have d3:xv 3=E I (p 43):=hd.at 3 rfl;have d5:xv 5=E I (p 44):=hd.at 5 rfl;have d7:xv 7=E I (p 45):=hd.at 7 rfl;exact Za (w':=wq.alloc (Ec #[E I (p 42),E I (p 43),E I (p 44),E I (p 45)] 3)) (Ei U) (by simp[go_sem,d1,d3,d5,d7]) (Er wq _) ⟨wq.heap.size,U,H.new _ _ _⟩
    ·exact EkA
    ·obtain⟨cap,e1,hok⟩:=JA.ok (hd.at 9 rfl:JA 1 1000 (xv 9) wq);obtain⟨b,e2,kb⟩: ∃b:Nat,xv 8=EJ (X ⟨b,0,Z⟩) 4 4/\H wq b #[E I (p 42),E I (p 43),E I (p 44),E I (p 45)] 3:=hd.at 8 rfl;refine JE (f:=62) (args:= #[EJ (X ⟨b,0,Z⟩) 4 4,.func (.func 80) #[] cap]) (Ei U) Ku ?_;exact(i9 _ cap ([p 42,p 43,p 44,p 45].map (E .i64)) (OZ 1 1000) b 0 4 4 wq U D (hok _ (mG U)) (fun i v hi=>by have:=(H.cell kb i).trans XO;simpa using this)).mono fun e w2 ⟨he,hb⟩=>⟨EU b7,he.trans (by rw[uj.out]),hb,U⟩
    ·have d10:xv 10=EU b7:=hd.at 10 rfl;exact Enr
    ·have d11:xv 11=EU (!b7):=hd.at 11 rfl;exact Em9
   case hend=>
    intro xv W7 hp hd;simp only[ED,Ic,Ii,IJ,IU];have JP:xv 11=EU (!b7):=hd 11 Eb;have a12:xv 12=EU (!b7):=hd 12 Eb;rw[JP,a12];clear hd JP a12;replace B:=J hp;clear hp;clear uj;cases b7 with
    |false=> go_wp2;go_ret;exact⟨Z0,bt B1.out B.out⟩
    |true=>
    obtain⟨VP,sd⟩:=Eo (I6 (p 46) 1 1000);obtain⟨VQ,wi⟩:=Eo (I6 (p 47) 0 1000);obtain rfl:b8=(VP&&VQ):=by rw[mM.out,sd,wi];rfl
    replace sd:=J sd;replace wi:=J wi;cases VP with
    |false=>
     go_wp2_with fail;refine Zx (Ph:=fun _ wq=>Ek w1 wq) (Rel:=Jn) (In:=fun w w'=>w=w') [.dep (JA 1 1000) (fun v w w' h hr=>h.u hr) (fun v w w' h hr=>Xn),kp gp 46,kq (E I (p 46)),kq (EU V),kq (EU EI),kq (EU EI),kq Iv,kq Iv,kq Iv,kq Iv,kq Iv,kq (EU EI),kq (EU EI)] [V,V,V,V,V,V,V,V,V,V,V,V,V] U [] [(0,0),(0,0),(0,0),(0,0),(0,0),(0,0),(0,0),(0,0),(0,0),(0,0),(0,0),(0,0),(0,0)] Ef Ef Ef Ef Ef O0 Ef ?hPh ?h0 ?hstep ?hend;case hPh=> intro p_ w2 w3 h hr;exact bt h hr
     case h0=> exact bt B.out (JZ W7)
     case hstep=>
      refine⟨?_,?_,?_,?_,?_,?_,?_,?_,?_,?_,?_,?_,?_,trivial⟩;all_goals intro xv wq p_ hlo hhi hp hd
      all_goals simp only[ED,Ic,Ii,IJ,IU]
      ·exact EkA
      ·exact EkN
      ·exact Ek8
      ·have d2:xv 2=E I (p 46):=hd.at 2 rfl;obtain⟨wa,wb,e1,ca,cb⟩:JA 1 1000 (xv 0) wq:=hd.at 0 rfl;refine JE (f:=80) (args:= #[E I (p 46),Y (X ⟨wa,0,Z⟩),Y (X ⟨wb,0,Z⟩)]) (Ei U) Bd ?_;exact(gY (p 46) 1 1000 wa wb wq ca cb).mono fun e w2 ⟨he,hb⟩=>⟨EU V,he.trans (by rw[sd.out]),mR,U⟩
      ·exact EmZ
      ·have d4:xv 4=EU EI:=hd.at 4 rfl;exact Ens
      ·exact Ek4
      ·exact Ek4
      ·exact Ek4
      ·exact Ek4
      ·exact Ek4
      ·have d5:xv 5=EU EI:=hd.at 5 rfl;exact Ep aJ U
      ·exact EmE
     case hend=> exact Eoa
    |true=>
    cases VQ with
    |false=>
     go_wp2_with fail;refine Zx (Ph:=fun _ wq=>Ek w1 wq) (Rel:=Jn) (In:=fun w w'=>w=w') [.dep (JA 1 1000) (fun v w w' h hr=>h.u hr) (fun v w w' h hr=>Xn),kp gp 46,kq (E I (p 46)),kq (EU EI),kq (EU V),kq (EU V),.dep (JA 0 1000) (fun v w w' h hr=>h.u hr) (fun v w w' h hr=>Xn),kp gp 47,kq (E I (p 47)),kq (EU V),kq (EU EI),kq (EU EI),kq (EU EI)] [V,V,V,V,V,V,V,V,V,V,V,V,V] U [] [(0,0),(0,0),(0,0),(0,0),(0,0),(0,0),(0,0),(0,0),(0,0),(0,0),(0,0),(0,0),(0,0)] Ef Ef Ef Ef Ef O0 Ef ?hPh ?h0 ?hstep ?hend;case hPh=> intro p_ w2 w3 h hr;exact bt h hr
     case h0=> exact bt B.out (JZ W7)
     case hstep=>
      refine⟨?_,?_,?_,?_,?_,?_,?_,?_,?_,?_,?_,?_,?_,trivial⟩;all_goals intro xv wq p_ hlo hhi hp hd
      all_goals simp only[ED,Ic,Ii,IJ,IU]
      ·exact EkA
      ·exact EkN
      ·exact Ek8
      ·exact EkM
      ·exact Eon
      ·have d4:xv 4=EU V:=hd.at 4 rfl;exact Ens
      ·exact Eod
      ·exact Eng
      ·exact Elf
      ·have d5:xv 5=EU V:=hd.at 5 rfl;have d8:xv 8=E I (p 47):=hd.at 8 rfl;obtain⟨wa,wb,e1,ca,cb⟩:JA 0 1000 (xv 6) wq:=hd.at 6 rfl;refine JE (f:=80) (args:= #[E I (p 47),Y (X ⟨wa,0,Z⟩),Y (X ⟨wb,0,Z⟩)]) (Oo U U (congrArg X d5)) (by simp[go_sem,e1,d8]) ?_;exact(gY (p 47) 0 1000 wa wb wq ca cb).mono fun e w2 ⟨he,hb⟩=>⟨EU V,he.trans (by rw[wi.out]),mR,U⟩
      ·have d5:xv 5=EU V:=hd.at 5 rfl;have d9:xv 9=EU V:=hd.at 9 rfl;exact Iw EK (Oo U U (congrArg X d5)) nW U
      ·have d5:xv 5=EU V:=hd.at 5 rfl;have d10:xv 10=EU EI:=hd.at 10 rfl;exact Ep (by simp[go_sem,d5,d10]) U
      ·exact EmE
     case hend=> exact Eoa
    |true=>
    go_wp2_with fail;refine Zx (Ph:=fun _ wq=>Ek w1 wq) (Rel:=Jn) (In:=fun w w'=>w=w') [.dep (JA 1 1000) (fun v w w' h hr=>h.u hr) (fun v w w' h hr=>Xn),kp gp 46,kq (E I (p 46)),kq (EU EI),kq (EU V),kq (EU V),.dep (JA 0 1000) (fun v w w' h hr=>h.u hr) (fun v w w' h hr=>Xn),kp gp 47,kq (E I (p 47)),kq (EU EI),kq (EU V),kq (EU V),kq (EU V)] [V,V,V,V,V,V,V,V,V,V,V,V,V] U [] [(0,0),(0,0),(0,0),(0,0),(0,0),(0,0),(0,0),(0,0),(0,0),(0,0),(0,0),(0,0),(0,0)] Ef Ef Ef Ef Ef O0 Ef ?hPh ?h0 ?hstep ?hend;case hPh=> intro p_ w2 w3 h hr;exact bt h hr
    case h0=> exact bt B.out (JZ W7)
    case hstep=>
     refine⟨?_,?_,?_,?_,?_,?_,?_,?_,?_,?_,?_,?_,?_,trivial⟩;all_goals intro xv wq p_ hlo hhi hp hd
     all_goals simp only[ED,Ic,Ii,IJ,IU]
     ·exact EkA
     ·exact EkN
     ·exact Ek8
     ·exact EkM
     ·exact Eon
     ·have d4:xv 4=EU V:=hd.at 4 rfl;exact Ens
     ·exact Eod
     ·exact Eng
     ·exact Elf
     ·have d5:xv 5=EU V:=hd.at 5 rfl;have d8:xv 8=E I (p 47):=hd.at 8 rfl;obtain⟨wa,wb,e1,ca,cb⟩:JA 0 1000 (xv 6) wq:=hd.at 6 rfl;refine JE (f:=80) (args:= #[E I (p 47),Y (X ⟨wa,0,Z⟩),Y (X ⟨wb,0,Z⟩)]) (Oo U U (congrArg X d5)) (by simp[go_sem,e1,d8]) ?_;exact(gY (p 47) 0 1000 wa wb wq ca cb).mono fun e w2 ⟨he,hb⟩=>⟨EU EI,he.trans (by rw[wi.out]),mR,U⟩
     ·have d5:xv 5=EU V:=hd.at 5 rfl;have d9:xv 9=EU EI:=hd.at 9 rfl;exact Iw EK (Oo U U (congrArg X d5)) nW U
     ·have d5:xv 5=EU V:=hd.at 5 rfl;have d10:xv 10=EU V:=hd.at 10 rfl;exact Ep (by simp[go_sem,d5,d10]) U
     ·have d11:xv 11=EU V:=hd.at 11 rfl;exact Em9
    case hend=>
     intro xv W8 hp hd;simp only[ED,Ic,Ii,IJ,IU];have JP:xv 11=EU V:=hd 11 Eb;have a12:xv 12=EU V:=hd 12 Eb;rw[JP,a12];clear hd JP a12;replace B:=J hp;clear hp;have VR:Ed (b9=([p 48,p 49].map (E .i64)).all (OZ 1 3)):=J mN.out;go_wp2_with fail;refine Zx (Ph:=fun _ wq=>Ek w1 wq) (Rel:=Jn) (In:=fun w w'=>w=w') [kp gp 48,kq (E I (p 48)),kp gp 49,kq (E I (p 49)),.dep (fun v w=> ∃b:Nat,v=EJ (X ⟨b,0,Z⟩) 2 2/\H w b #[E I (p 48),E I (p 49)] 3) (fun v w w' h hr=>Kr) (fun v w w' h hr=>Xn),.dep (JA 1 3) (fun v w w' h hr=>h.u hr) (fun v w w' h hr=>Xn),kq (EU b9),kq (EU (!b9)),kq (EU (!b9))] [V,V,V,V,V,V,V,V,V] U [] [(0,0),(0,0),(0,0),(0,0),(0,0),(0,0),(0,0),(0,0),(0,0)] Ef Ef Ef Ef Ef O0 Ef ?hPh ?h0 ?hstep ?hend;case hPh=> intro p_ w2 w3 h hr;exact bt h hr
     case h0=> exact bt B.out (JZ W8)
     case hstep=>
      refine⟨?_,?_,?_,?_,?_,?_,?_,?_,?_,trivial⟩;all_goals intro xv wq p_ hlo hhi hp hd
      all_goals simp only[ED,Ic,Ii,IJ,IU]
      ·exact EkN
      ·have d0:xv 0=Y (X ⟨gp,48,Z⟩):=hd.at 0 rfl;have cc:wq.cell? ⟨gp,48,Z⟩=X (E I (p 48)):=(PC.out _ hp 48 D D);exact Ep Kt U
      ·exact EkN
      ·have d2:xv 2=Y (X ⟨gp,49,Z⟩):=hd.at 2 rfl;have cc:wq.cell? ⟨gp,49,Z⟩=X (E I (p 49)):=(PC.out _ hp 49 D D);exact EnK
      ·have d1:xv 1=E I (p 48):=hd.at 1 rfl;have d3:xv 3=E I (p 49):=hd.at 3 rfl;exact Za (w':=wq.alloc (Ec #[E I (p 48),E I (p 49)] 3)) (Ei U) (by simp[go_sem,d1,d3]) (Er wq _) ⟨wq.heap.size,U,H.new _ _ _⟩
      ·refine JE (f:=66) (args:= #[E I 1,E I 3]) (Ei U) Ew ?_;exact(ZY 1 3 wq).mono fun e w2 ⟨v,he,hv,hb⟩=>⟨v,he,hb,hv⟩
      ·obtain⟨cap,e1,hok⟩:=JA.ok (hd.at 5 rfl:JA 1 3 (xv 5) wq);obtain⟨b,e2,kb⟩: ∃b:Nat,xv 4=EJ (X ⟨b,0,Z⟩) 2 2/\H wq b #[E I (p 48),E I (p 49)] 3:=hd.at 4 rfl;refine JE (f:=62) (args:= #[EJ (X ⟨b,0,Z⟩) 2 2,.func (.func 80) #[] cap]) (Ei U) Ku ?_;exact(i9 _ cap ([p 48,p 49].map (E .i64)) (OZ 1 3) b 0 2 2 wq U D (hok _ (mG U)) (fun i v hi=>by have:=(H.cell kb i).trans XO;simpa using this)).mono fun e w2 ⟨he,hb⟩=>⟨EU b9,he.trans (by rw[VR.out]),hb,U⟩
      ·have d6:xv 6=EU b9:=hd.at 6 rfl;exact Ep nS U
      ·have d7:xv 7=EU (!b9):=hd.at 7 rfl;exact Ep f_ U
     case hend=>
      intro xv W9 hp hd;simp only[ED,Ic,Ii,IJ,IU];have a7:xv 7=EU (!b9):=hd 7 Eb;have a8:xv 8=EU (!b9):=hd 8 Eb;rw[a7,a8];clear hd a7 a8;replace B:=J hp;clear hp;clear VR;cases b9 with
      |false=> go_wp2;go_ret;exact⟨Z0,bt B1.out B.out⟩
      |true=>
      obtain⟨Kv,sf⟩: ∃b,b=([p 51,p 52,p 53].map (E .i64)).all (OZ 0 1000):=⟨_,U⟩;obtain⟨Kw,wj⟩:=Eo (I6 (p 54) 1 1000);have e10:Ed (b10=((p 50==0&&Kv)&&Kw)):=J (by rw[mP.out,sf,wj];rfl);replace sf:=J sf;replace wj:=J wj
      have Kx:Ed (∀W,Ek w1 W-> ∀i v,([p 51,p 52,p 53].map (E .i64))[i]?=X v->W.cell? ⟨gp,51+i,Z⟩=X v):=J (fun W hW i v hi=>by
       match i,hi with
       |0,hi=>injection hi with hi;rw[<-hi];exact PC.out W hW 51 D D
       |1,hi=>injection hi with hi;rw[<-hi];exact PC.out W hW 52 D D
       |2,hi=>injection hi with hi;rw[<-hi];exact PC.out W hW 53 D D
       )
      by_cases h50:p 50=0
      case neg=>
       have t50:(p 50 !=0)=EI:=by simp[h50]
       obtain rfl:b10=V:=by rw[e10.out];simp[h50]
       go_wp2_with fail;refine Zx (Ph:=fun _ wq=>Ek w1 wq) (Rel:=Jn) (In:=fun w w'=>w=w') [kp gp 50,kp gp 50,kq (E I (p 50)),kq (EU EI),kq (EU EI),kq Iv,kq Iv,kq Iv,kq Iv,kq Iv,kq (EU EI),kq (EU EI),kq Iv,kq Iv,kq Iv,kq Iv,kq Iv,kq (EU EI),kq (EU EI)] [V,V,V,V,V,V,V,V,V,V,V,V,V,V,V,V,V,V,V] U [] [(0,0),(0,0),(0,0),(0,0),(0,0),(0,0),(0,0),(0,0),(0,0),(0,0),(0,0),(0,0),(0,0),(0,0),(0,0),(0,0),(0,0),(0,0),(0,0)] Ef Ef Ef Ef Ef O0 Ef ?hPh ?h0 ?hstep ?hend;case hPh=> intro p_ w2 w3 h hr;exact bt h hr
       case h0=> exact En6
       case hstep=>
        refine⟨?_,?_,?_,?_,?_,?_,?_,?_,?_,?_,?_,?_,?_,?_,?_,?_,?_,?_,?_,trivial⟩;all_goals intro xv wq p_ hlo hhi hp hd
        all_goals simp only[ED,Ic,Ii,IJ,IU]
        ·exact EkN
        ·exact ElA
        ·exact Ekz
        ·exact El5
        ·exact Eon
        ·exact Ek5
        ·exact Ek5
        ·exact Ek5
        ·exact Ek5
        ·exact Ek5
        ·have d4:xv 4=EU EI:=hd.at 4 rfl;exact Ens
        ·have d10:xv 10=EU EI:=hd.at 10 rfl;exact Enr
        ·exact Ekc
        ·exact Ekc
        ·exact Ekc
        ·exact Ekc
        ·exact Ekc
        ·exact EmE
        ·exact EmR
       case hend=> exact Eky
      have t50:(p 50 !=0)=V:=by simp[h50]
      obtain rfl:b10=(Kv&&Kw):=by rw[e10.out];simp[h50]
      clear e10 h50;cases Kv with
      |false=>
       go_wp2_with fail;refine Zx (Ph:=fun _ wq=>Ek w1 wq) (Rel:=Jn) (In:=fun w w'=>w=w') [kp gp 50,kp gp 50,kq (E I (p 50)),kq (EU V),kq (EU V),kp gp 50,kq (EJ (X ⟨gp,51,Z⟩) 3 3),.dep (JA 0 1000) (fun v w w' h hr=>h.u hr) (fun v w w' h hr=>Xn),kq (EU V),kq (EU EI),kq (EU EI),kq (EU EI),kq Iv,kq Iv,kq Iv,kq Iv,kq Iv,kq (EU EI),kq (EU EI)] [V,V,V,V,V,V,V,V,V,V,V,V,V,V,V,V,V,V,V] U [] [(0,0),(0,0),(0,0),(0,0),(0,0),(0,0),(0,0),(0,0),(0,0),(0,0),(0,0),(0,0),(0,0),(0,0),(0,0),(0,0),(0,0),(0,0),(0,0)] Ef Ef Ef Ef Ef O0 Ef ?hPh ?h0 ?hstep ?hend;case hPh=> intro p_ w2 w3 h hr;exact bt h hr
       case h0=> exact En6
       case hstep=>
        refine⟨?_,?_,?_,?_,?_,?_,?_,?_,?_,?_,?_,?_,?_,?_,?_,?_,?_,?_,?_,trivial⟩;all_goals intro xv wq p_ hlo hhi hp hd
        all_goals simp only[ED,Ic,Ii,IJ,IU]
        ·exact EkN
        ·exact ElA
        ·exact Ekz
        ·exact El5
        ·exact EmZ
        ·exact ElY
        ·exact ElI
        ·exact EkF
        ·have d4:xv 4=EU V:=hd.at 4 rfl;have d6:xv 6=EJ (X ⟨gp,51,Z⟩) 3 3:=hd.at 6 rfl;obtain⟨cap,e1,hok⟩:=JA.ok (hd.at 7 rfl:JA 0 1000 (xv 7) wq);refine JE (f:=62) (args:= #[EJ (X ⟨gp,51,Z⟩) 3 3,.func (.func 80) #[] cap]) (Oo U U (congrArg X d4)) Ky ?_;exact(i9 _ cap ([p 51,p 52,p 53].map (E .i64)) (OZ 0 1000) gp 51 3 3 wq U D (hok _ (mG U)) (Kx.out wq hp)).mono fun e w2 ⟨he,hb⟩=>⟨EU V,he.trans (by rw[sf.out]),hb,U⟩
        ·have d4:xv 4=EU V:=hd.at 4 rfl;have d8:xv 8=EU V:=hd.at 8 rfl;exact Enb
        ·have d4:xv 4=EU V:=hd.at 4 rfl;have d9:xv 9=EU EI:=hd.at 9 rfl;exact Ep Kz U
        ·have d10:xv 10=EU EI:=hd.at 10 rfl;exact Enr
        ·exact Ekc
        ·exact Ekc
        ·exact Ekc
        ·exact Ekc
        ·exact Ekc
        ·exact EmE
        ·exact EmR
       case hend=> exact Eky
      |true=>
      cases Kw with
      |false=>
       go_wp2_with fail;refine Zx (Ph:=fun _ wq=>Ek w1 wq) (Rel:=Jn) (In:=fun w w'=>w=w') [kp gp 50,kp gp 50,kq (E I (p 50)),kq (EU V),kq (EU V),kp gp 50,kq (EJ (X ⟨gp,51,Z⟩) 3 3),.dep (JA 0 1000) (fun v w w' h hr=>h.u hr) (fun v w w' h hr=>Xn),kq (EU EI),kq (EU V),kq (EU V),kq (EU V),.dep (JA 1 1000) (fun v w w' h hr=>h.u hr) (fun v w w' h hr=>Xn),kp gp 54,kq (E I (p 54)),kq (EU V),kq (EU EI),kq (EU EI),kq (EU EI)] [V,V,V,V,V,V,V,V,V,V,V,V,V,V,V,V,V,V,V] U [] [(0,0),(0,0),(0,0),(0,0),(0,0),(0,0),(0,0),(0,0),(0,0),(0,0),(0,0),(0,0),(0,0),(0,0),(0,0),(0,0),(0,0),(0,0),(0,0)] Ef Ef Ef Ef Ef O0 Ef ?hPh ?h0 ?hstep ?hend;case hPh=> intro p_ w2 w3 h hr;exact bt h hr
       case h0=> exact En6
       case hstep=>
        refine⟨?_,?_,?_,?_,?_,?_,?_,?_,?_,?_,?_,?_,?_,?_,?_,?_,?_,?_,?_,trivial⟩;all_goals intro xv wq p_ hlo hhi hp hd
        all_goals simp only[ED,Ic,Ii,IJ,IU]
        ·exact EkN
        ·exact ElA
        ·exact Ekz
        ·exact El5
        ·exact EmZ
        ·exact ElY
        ·exact ElI
        ·exact EkF
        ·exact Eku
        ·exact Emr
        ·exact EnJ
        ·have d10:xv 10=EU V:=hd.at 10 rfl;exact Enr
        ·exact Eoc
        ·exact EnE
        ·exact Elm
        ·have d11:xv 11=EU V:=hd.at 11 rfl;have d14:xv 14=E I (p 54):=hd.at 14 rfl;obtain⟨wa,wb,e1,ca,cb⟩:JA 1 1000 (xv 12) wq:=hd.at 12 rfl;refine JE (f:=80) (args:= #[E I (p 54),Y (X ⟨wa,0,Z⟩),Y (X ⟨wb,0,Z⟩)]) (Oo U U (congrArg X d11)) (by simp[go_sem,e1,d14]) ?_;exact(gY (p 54) 1 1000 wa wb wq ca cb).mono fun e w2 ⟨he,hb⟩=>⟨EU V,he.trans (by rw[wj.out]),mR,U⟩
        ·have d11:xv 11=EU V:=hd.at 11 rfl;have d15:xv 15=EU V:=hd.at 15 rfl;exact Iw EK (Oo U U (congrArg X d11)) rD U
        ·have d11:xv 11=EU V:=hd.at 11 rfl;have d16:xv 16=EU EI:=hd.at 16 rfl;exact Ep (by simp[go_sem,d11,d16]) U
        ·exact EmR
       case hend=> exact Eky
      |true=>
      go_wp2_with fail;refine Zx (Ph:=fun _ wq=>Ek w1 wq) (Rel:=Jn) (In:=fun w w'=>w=w') [kp gp 50,kp gp 50,kq (E I (p 50)),kq (EU V),kq (EU V),kp gp 50,kq (EJ (X ⟨gp,51,Z⟩) 3 3),.dep (JA 0 1000) (fun v w w' h hr=>h.u hr) (fun v w w' h hr=>Xn),kq (EU EI),kq (EU V),kq (EU V),kq (EU V),.dep (JA 1 1000) (fun v w w' h hr=>h.u hr) (fun v w w' h hr=>Xn),kp gp 54,kq (E I (p 54)),kq (EU EI),kq (EU V),kq (EU V),kq (EU V)] [V,V,V,V,V,V,V,V,V,V,V,V,V,V,V,V,V,V,V] U [] [(0,0),(0,0),(0,0),(0,0),(0,0),(0,0),(0,0),(0,0),(0,0),(0,0),(0,0),(0,0),(0,0),(0,0),(0,0),(0,0),(0,0),(0,0),(0,0)] Ef Ef Ef Ef Ef O0 Ef ?hPh ?h0 ?hstep ?hend;case hPh=> intro p_ w2 w3 h hr;exact bt h hr
      case h0=> exact En6
      case hstep=>
       refine⟨?_,?_,?_,?_,?_,?_,?_,?_,?_,?_,?_,?_,?_,?_,?_,?_,?_,?_,?_,trivial⟩;all_goals intro xv wq p_ hlo hhi hp hd
       all_goals simp only[ED,Ic,Ii,IJ,IU]
       ·exact EkN
       ·exact ElA
       ·exact Ekz
       ·exact El5
       ·exact EmZ
       ·exact ElY
       ·exact ElI
       ·exact EkF
       ·exact Eku
       ·exact Emr
       ·exact EnJ
       ·have d10:xv 10=EU V:=hd.at 10 rfl;exact Enr
       ·exact Eoc
       ·exact EnE
       ·exact Elm
       ·have d11:xv 11=EU V:=hd.at 11 rfl;have d14:xv 14=E I (p 54):=hd.at 14 rfl;obtain⟨wa,wb,e1,ca,cb⟩:JA 1 1000 (xv 12) wq:=hd.at 12 rfl;refine JE (f:=80) (args:= #[E I (p 54),Y (X ⟨wa,0,Z⟩),Y (X ⟨wb,0,Z⟩)]) (Oo U U (congrArg X d11)) (by simp[go_sem,e1,d14]) ?_;exact(gY (p 54) 1 1000 wa wb wq ca cb).mono fun e w2 ⟨he,hb⟩=>⟨EU EI,he.trans (by rw[wj.out]),mR,U⟩
       ·have d11:xv 11=EU V:=hd.at 11 rfl;have d15:xv 15=EU EI:=hd.at 15 rfl;exact Iw EK (Oo U U (congrArg X d11)) rD U
       ·have d11:xv 11=EU V:=hd.at 11 rfl;have d16:xv 16=EU V:=hd.at 16 rfl;exact Ep (by simp[go_sem,d11,d16]) U
       ·have d17:xv 17=EU V:=hd.at 17 rfl;exact Ep mf U
      case hend=>
       intro xv Bg hp hd;simp only[ED,Ic,Ii,IJ,IU];have a17:xv 17=EU V:=hd 17 Eb;have hO:xv 18=EU V:=hd 18 Eb;rw[a17,hO];clear hd a17 hO;replace B:=J hp;clear hp;have VS:Ed (b11=I6 (p 55) 0 65535):=J mQ.out;go_wp2_with fail;refine Zx (Ph:=fun _ wq=>Ek w1 wq) (Rel:=Jn) (In:=fun w w'=>w=w') [.dep (JA 0 65535) (fun v w w' h hr=>h.u hr) (fun v w w' h hr=>Xn),kp gp 55,kq (E I (p 55)),kq (EU b11),kq (EU (!b11)),kq (EU (!b11))] [V,V,V,V,V,V] U [] [(0,0),(0,0),(0,0),(0,0),(0,0),(0,0)] Ef Ef Ef Ef Ef O0 Ef ?hPh ?h0 ?hstep ?hend;case hPh=> intro p_ w2 w3 h hr;exact bt h hr
       case h0=> exact bt B.out (JZ Bg)
       case hstep=>
        refine⟨?_,?_,?_,?_,?_,?_,trivial⟩;all_goals intro xv wq p_ hlo hhi hp hd
        all_goals simp only[ED,Ic,Ii,IJ,IU]
        ·refine JE (f:=66) (args:= #[E I 0,E I 65535]) (Ei U) Ew ?_;exact(ZY 0 65535 wq).mono fun e w2 ⟨v,he,hv,hb⟩=>⟨v,he,hb,hv⟩
        ·exact EkN
        ·have d1:xv 1=Y (X ⟨gp,55,Z⟩):=hd.at 1 rfl;have cc:wq.cell? ⟨gp,55,Z⟩=X (E I (p 55)):=(PC.out _ hp 55 D D);exact Ep kA U
        ·have d2:xv 2=E I (p 55):=hd.at 2 rfl;obtain⟨wa,wb,e1,ca,cb⟩:JA 0 65535 (xv 0) wq:=hd.at 0 rfl;refine JE (f:=80) (args:= #[E I (p 55),Y (X ⟨wa,0,Z⟩),Y (X ⟨wb,0,Z⟩)]) (Ei U) Bd ?_;exact(gY (p 55) 0 65535 wa wb wq ca cb).mono fun e w2 ⟨he,hb⟩=>⟨EU b11,he.trans (by rw[VS.out]),mR,U⟩
        ·have d3:xv 3=EU b11:=hd.at 3 rfl;exact EmW
        ·have d4:xv 4=EU (!b11):=hd.at 4 rfl;exact Ens
       case hend=>
        intro xv W11 hp hd;simp only[ED,Ic,Ii,IJ,IU];have a4:xv 4=EU (!b11):=hd 4 Eb;have a5:xv 5=EU (!b11):=hd 5 Eb;rw[a4,a5];clear hd a4 a5;replace B:=J hp;clear hp;clear VS;cases b11 with
        |false=> go_wp2;go_ret;exact⟨Z0,bt B1.out B.out⟩
        |true=>
        go_wp2;exact Elg
theorem XC(n lo hi:Int)(w:M):Eg Ea 35 #[E I n,E I lo,E I hi] w fun e w'=>e=Eh (EU (I6 n lo hi))/\w=w':=by
 unfold I6;obtain⟨x,hx⟩:=OQ (decide (lo<=n));obtain⟨y,hy⟩:=OQ (decide (n<=hi));rw[hx,hy];cases x
 all_goals
  go_enter Tryz.func35,Tryz.ntmps35
  go_wp2
  go_ret
  exact⟨Ej,U⟩
theorem Eft(x:Nat->Int)(w:M):Eg Ea 34 #[EZ #[E I (x 0),E I (x 1),E I (x 2),E I (x 3),E I (x 4)]] w fun e w'=>e=Eh (EU (([x 0,x 1,x 2,x 3,x 4].map (E .i64)).all (OZ 0 31)))/\Ek w w':=by
 obtain⟨r,hr⟩: ∃r,r=(([x 0,x 1,x 2,x 3,x 4].map (E .i64)).all (OZ 0 31)):=⟨_,U⟩;rw[<-hr];replace hr:=J hr;have B:=J<|Er w (Ec #[E I (x 0),E I (x 1),E I (x 2),E I (x 3),E I (x 4)] 22);go_enter Tryz.func34,Tryz.ntmps34;go_wp2_with fail;refine OJ 6 ?_
 iterate 5
  rw[Ib]
  go_wp2_with fail
  refine(XC _ _ _ _).mono ?_
  rintro e w1 ⟨rfl,rfl⟩
  generalize hb:I6 _ _ _=b
  cases b
  ·go_wp2;go_ret;exact⟨by rw[hr.out];simp[OZ,hb],B.out⟩
  go_wp2_with fail
 rw[Ib];go_wp2;go_ret;exact⟨by rw[hr.out];simp[OZ, *],B.out⟩
theorem Efu(x:Nat->Int)(w:M):Eg Ea 33 #[EZ #[E I (x 0),E I (x 1),E I (x 2),E I (x 3),E I (x 4),E I (x 5),E I (x 6),E I (x 7),E I (x 8),E I (x 9),E I (x 10),E I (x 11),E I (x 12),E I (x 13),E I (x 14),E I (x 15),E I (x 16),E I (x 17),E I (x 18),E I (x 19)]] w fun e w'=>e=Eh (EU (([EZ #[E I (x 0),E I (x 1),E I (x 2),E I (x 3)],EZ #[E I (x 4),E I (x 5),E I (x 6),E I (x 7)],EZ #[E I (x 8),E I (x 9),E I (x 10),E I (x 11)],EZ #[E I (x 12),E I (x 13),E I (x 14),E I (x 15)],EZ #[E I (x 16),E I (x 17),E I (x 18),E I (x 19)]]:List G).all kx))/\Ek w w':=by
 obtain⟨r,hr⟩: ∃r,r=(([EZ #[E I (x 0),E I (x 1),E I (x 2),E I (x 3)],EZ #[E I (x 4),E I (x 5),E I (x 6),E I (x 7)],EZ #[E I (x 8),E I (x 9),E I (x 10),E I (x 11)],EZ #[E I (x 12),E I (x 13),E I (x 14),E I (x 15)],EZ #[E I (x 16),E I (x 17),E I (x 18),E I (x 19)]]:List G).all kx):=⟨_,U⟩;rw[<-hr];replace hr:=J hr;have B:=J<|Er w (Ec #[E I (x 0),E I (x 1),E I (x 2),E I (x 3),E I (x 4),E I (x 5),E I (x 6),E I (x 7),E I (x 8),E I (x 9),E I (x 10),E I (x 11),E I (x 12),E I (x 13),E I (x 14),E I (x 15),E I (x 16),E I (x 17),E I (x 18),E I (x 19)] 26);go_enter Tryz.func33,Tryz.ntmps33;go_wp2_with fail;refine OJ 6 ?_
 iterate 5
  rw[Ib]
  go_wp2_with fail
  refine OJ 5 ?_
  iterate 4
   rw[Ib]
   go_wp2_with fail
   refine(XC _ _ _ _).mono ?_
   rintro e w1 ⟨rfl,rfl⟩
   generalize hb:I6 _ _ _=b
   cases b
   ·go_wp2;go_ret;exact⟨by rw[hr.out];simp[kx,OZ,hb],B.out⟩
   go_wp2_with fail
  rw[Ib]
  go_wp2_with fail
 rw[Ib];go_wp2;go_ret;exact⟨by rw[hr.out];simp[kx,OZ, *],B.out⟩
theorem VT{z:Int}{b:Bool}(h:I6 z 0 15=EI)(e:(z.tmod 2==1)=b):(z%2==0)= !b:=by unfold I6 at h;simp only[UJ,decide_eq_true_eq] at h;rw[<-e,Int.tmod_eq_emod_of_nonneg h.1];rcases Int.emod_two_eq z with h|h<;>rw[h]<;>rfl
theorem Efv(x:Nat->Int)(w:M):Eg Ea 32 #[EZ #[E I (x 0),E I (x 1),E I (x 2),E I (x 3),E I (x 4)]] w fun e w'=>e=Eh (EU ((x 0==1&&x 4==0)&&([x 1,x 2,x 3].map (E .i64)).all g_))/\Ek w w':=by
 obtain⟨r,hr⟩: ∃r,r=((x 0==1&&x 4==0)&&([x 1,x 2,x 3].map (E .i64)).all g_):=⟨_,U⟩;rw[<-hr];replace hr:=J hr;have B:=J<|Er w (Ec #[E I (x 0),E I (x 1),E I (x 2),E I (x 3),E I (x 4)] 22);go_enter Tryz.func32,Tryz.ntmps32;go_wp2_with fail;refine OJ 4 ?_
 iterate 3
  rw[Ib]
  go_wp2_with fail
  refine(XC _ _ _ _).mono ?_
  rintro e w1 ⟨rfl,rfl⟩
  generalize hb:I6 _ _ _=b
  cases b
  ·go_wp2;go_ret;exact⟨by rw[hr.out];simp[g_,hb],B.out⟩
  go_wp2_with fail
  ·rename_i hm;replace hm:=VT hb hm;go_ret;exact⟨by rw[hr.out];simp[g_,hm],B.out⟩
  rename_i hm
  replace hm:=VT hb hm
 rw[Ib];obtain⟨Y3,hu⟩:=OQ ((x 0==1));obtain⟨v,hv⟩:=OQ ((x 4==0));cases Y3
 all_goals
  go_wp2
  go_ret
  exact⟨by rw[hr.out];simp[g_, *],B.out⟩
theorem Efw(g:Nat->G)(p:Nat->Int)(kl:Nat->Nat)(w:M)(hv:mH g p kl):Eg Ea 36 #[EZ (EN 56 g)] w fun e w'=>e=Eh (EU (mK p))/\Ek w w':=by
 obtain⟨r,hr⟩:=Eo ((mK p));rw[<-hr];replace hr:=J hr;have B:=J<|Er w (Ec (EN 56 g) 28);have KP:=J<|H.new w (EN 56 g) 28;have PC:Ed (∀i,i<56->i<5\/8<i->(w.alloc (Ec (EN 56 g) 28)).cell? ⟨w.heap.size,i,Z⟩=X (E I (p i))):=J (fun i h1 h2=>by rw[H.cell KP.out i,Zz,if_pos h1,(hv.int i h1 h2).1]);have c0:=PC.out 50 D D;have c1:=PC.out 51 D D;have c2:=PC.out 52 D D;have c3:=PC.out 53 D D;have c4:=PC.out 54 D D;clear PC KP;go_enter Tryz.func36,Tryz.ntmps36;go_wp2_with fail;refine OJ 4 ?_
 iterate 3
  rw[Ib]
  go_wp2_with fail
  refine(XC _ _ _ _).mono ?_
  rintro e w1 ⟨rfl,rfl⟩
  generalize hb:I6 _ _ _=b
  cases b
  ·go_wp2;go_ret;exact⟨by rw[hr.out];simp[mK,OZ,hb],B.out⟩
  go_wp2_with fail
 rw[Ib];obtain⟨Y3,hu⟩:=OQ ((p 50==0));cases Y3
 all_goals
  go_wp2_with fail
 ·go_ret;exact⟨VV,B.out⟩
 refine(XC _ _ _ _).mono ?_;rintro e w1 ⟨rfl,rfl⟩;go_wp2;go_ret;exact⟨VV,B.out⟩
theorem Efx(g:Nat->G)(p:Nat->Int)(kl:Nat->Nat)(w:M)(hv:mH g p kl):Eg Ea 31 #[EZ (EN 56 g)] w fun e w'=>e=Eh (EU (ky kl))/\Ek w w':=by
 obtain⟨r,hr⟩:=Eo ((ky kl));rw[<-hr];replace hr:=J hr;have B:=J<|Er w (Ec (EN 56 g) 28);have KP:=J<|H.new w (EN 56 g) 28;obtain⟨A5,n5,e5⟩:=hv.key 5 D D;obtain⟨A6,n6,e6⟩:=hv.key 6 D D;obtain⟨A7,n7,e7⟩:=hv.key 7 D D;obtain⟨A8,n8,e8⟩:=hv.key 8 D D;have PC:Ed (∀i,i<56->(w.alloc (Ec (EN 56 g) 28)).cell? ⟨w.heap.size,i,Z⟩=X (g i)):=J (fun i h1=>by rw[H.cell KP.out i,Zz,if_pos h1]);have c5:=(PC.out 5 D).trans (congrArg X e5);have c6:=(PC.out 6 D).trans (congrArg X e6);have c7:=(PC.out 7 D).trans (congrArg X e7);have c8:=(PC.out 8 D).trans (congrArg X e8);clear PC KP e5 e6 e7 e8;go_enter Tryz.func31,Tryz.ntmps31;go_wp2_with fail;refine OJ 4 ?_
 iterate 3
  rw[Ib]
  go_wp2_with fail
  refine(XC _ _ _ _).mono ?_
  rintro e w1 ⟨rfl,rfl⟩
  generalize hb:I6 _ _ _=b
  cases b
  ·go_wp2;go_ret;exact⟨by rw[hr.out];simp[ky,hb],B.out⟩
  go_wp2_with fail
 rw[Ib];go_wp2_with fail;refine(XC _ _ _ _).mono ?_;rintro e w1 ⟨rfl,rfl⟩;go_wp2;go_ret;exact⟨by rw[hr.out];simp[ky, *],B.out⟩
theorem Efy{x:Int}(h:I6 x 1 3=EI):x=1\/x=2\/x=3:=by unfold I6 at h;simp only[UJ,decide_eq_true_eq] at h;omega
theorem KD{x0 x1 x2 x3 x4:Int}(h:I6 x1 1 3=V\/I6 x2 1 3=V\/I6 x3 1 3=V):i_ x0 x1 x2 x3 x4=V:=by
 cases ho:i_ x0 x1 x2 x3 x4;·rfl
 ·exfalso;simp only[i_,sZ,I6,io,jF,UJ,Bool.and_eq_false_iff,decide_eq_true_eq,decide_eq_false_iff_not,OY,Uu,or_false,beq_iff_eq] at h ho;omega
theorem Efz(x0 x1 x2 x3 x4:Int)(w:M):Eg Ea 30 #[EZ #[E I x0,E I x1,E I x2,E I x3,E I x4]] w fun e w'=>e=Eh (EU (i_ x0 x1 x2 x3 x4))/\Ek w w':=by
 obtain⟨r,hr⟩:=Eo (i_ x0 x1 x2 x3 x4);rw[<-hr];replace hr:=J hr;have B:=J<|Er w (Ec #[E I x0,E I x1,E I x2,E I x3,E I x4] 22);have B2:=J<|fun O=>J1 B.out B.out.size O;by_cases hu:x0=0
 ·by_cases hv:x4=4
  ·subst hu hv;go_enter Tryz.func30,Tryz.ntmps30;go_wp2_with fail;refine OJ 4 ?_
   iterate 3
    all_goals
     rw[Ib]
     go_wp2_with fail
     refine(XC _ _ _ _).mono ?_
     rintro e w1 ⟨rfl,rfl⟩
     generalize hb:I6 _ _ _=b
     cases b
     ·have hF:Ed (r=V):=J (by rw[hr.out];first|exact KD (.inl hb)|exact KD (.inr (.inl hb))|exact KD (.inr (.inr hb)));go_wp2;go_ret;exact⟨by rw[hF.out];rfl,B2.out _⟩
     rcases Efy hb with rfl|rfl|rfl
     all_goals go_wp2_with fail
   all_goals
    rw[Ib]
    go_wp2
    go_ret
    exact⟨by rw[hr.out];rfl,B2.out _⟩
  ·have v:(x4 !=4)=EI:=by simpa using hv
   have Y3:(x0 !=0)=V:=by simpa using hu
   clear hu;go_enter Tryz.func30,Tryz.ntmps30;go_wp2;go_ret;exact⟨by rw[hr.out];simp[i_,hv],B.out⟩
 ·have Y3:(x0 !=0)=EI:=by simpa using hu
  go_enter Tryz.func30,Tryz.ntmps30;go_wp2;go_ret;exact⟨by rw[hr.out];simp[i_,hu],B.out⟩
inductive dU(g:Nat->G)(k:Int):List (Int×List Int)->EF->EF->Nat->List Rec->Prop
 |nil (c:EF):dU g k [] c c 0 []
 |cons {i:Int×List Int} {r:List (Int×List Int)} {c c1 c2:EF} {m n:Nat} {a b:List Rec}:mq g k i.1 i.2 c c1 m a->dU g k r c1 c2 n b->dU g k (i::r) c c2 (m+n) (a++b)
theorem dU.snoc{a:List Rec}(h:dU g k its c c1 m a){i:Int×List Int}{c2:EF}{b:List Rec}(h2:mq g k i.1 i.2 c1 c2 n b):dU g k (its++[i]) c c2 (m+n) (a++b):=by
 induction h with
 |nil c=>simpa using dU.cons h2 (.nil _)
 |cons h1 t ih=>rw[lI,iq,UY];exact .cons h1 (ih h2)
theorem rQ.len{l:List Int}{new:List Rec}(h:rQ g k l c c' new):new.length<=2:=by
 rcases h with⟨_,rfl⟩|⟨_,_,_,rfl⟩|⟨_,_,_,_,_,_,_,rfl⟩|⟨_,_,_,_,_,rfl⟩|⟨_,_,_,rfl⟩|⟨_,_,_,rfl⟩|⟨rfl,_⟩;·simp
 ·split<;>simp
 all_goals simp
theorem mq.len{xs:List Int}{new:List Rec}(h:mq g k code xs c c' m new):new.length<=2:=by
 rcases h with⟨_,_,_,rfl,_⟩|⟨_,_,_,_,rfl,_⟩|⟨_,_,_,_,h⟩;·simp
 ·simp
 ·exact h.len
theorem dU.len{a:List Rec}(h:dU g k its c c1 m a):a.length<=its.length*2:=by
 induction h with
 |nil=>simp
 |cons h1 t ih=>have:=h1.len;simp only[I1,Zw];omega
structure Jj where
 (kind src:Int)
 b:List Int
 valid:Bool
 (x0 x1 x2 x3:Int)
 give:Bool
 bad:Bool
def KV(g:Nat->G)(e:Jj)(c:EF)(rs:Int->List Int)(c':EF)(rs':Int->List Int)(m:Nat)(new:List Rec):Prop:=
 (e.kind=0/\1<=e.src/\e.src<=3/\ ∃its r,U5 (rs e.src++e.b) its r/\rs'=(fun s=>if s=e.src then r else rs s)/\dU g e.src its c c' m new)
 \/(e.kind=1/\rs'=rs/\my c c' new)
 \/(e.kind=2/\rs'=rs/\mA e.bad c c' new)
 \/(e.kind=3/\rs'=rs/\vy c c' new)
 \/((e.kind≠1/\e.kind≠2/\e.kind≠3/\(e.kind=0-> ¬(1<=e.src/\e.src<=3)))/\rs'=rs/\c'=c/\m=0/\new=[])
def a_(g:Nat->G)(t:EM):Prop:=0<=t.o->t.om=max (pn g 44) 0
theorem a_.say{l:List Int}{new:List Rec}(h:a_ g c.tok)(w:rQ g k l c c' new):a_ g c'.tok/\c.tok.e<=c'.tok.e:=by
 rcases w with⟨rfl,rfl⟩|⟨_,_,rfl,rfl⟩|⟨L',t2,hw,Ejc,te,hto,rfl,rfl⟩|⟨_,_,_,_,rfl,rfl⟩|⟨h1,h2,rfl,rfl⟩|⟨h1,h2,rfl,rfl⟩|⟨rfl,rfl|⟨p,hp,rfl⟩⟩;·exact EnZ
 ·show a_ g (c.tok.drop k).1/\c.tok.e<=(c.tok.drop k).1.e;unfold EM.drop;split;·exact⟨h,X6 _⟩
  ·exact⟨fun h=>by simp[EM.end_] at h,X6 _⟩
 ·exact Em_
 ·exact EnZ
 ·exact⟨fun h=>by simp[EM.end_] at h,X6 _⟩
 ·exact⟨fun _=>rfl,X6 _⟩
 ·exact EnZ
 ·exact EnZ
theorem a_.item{xs:List Int}{new:List Rec}(h:a_ g c.tok)(w:mq g k code xs c c' m new):a_ g c'.tok/\c.tok.e<=c'.tok.e:=by
 rcases w with⟨_,rfl,_,_,_⟩|⟨_,_,_,_,_,rfl|⟨_,_,rfl⟩⟩|⟨_,_,_,_,w⟩;·exact EnZ
 ·exact EnZ
 ·exact EnZ
 ·exact a_.say (c:={c with T:=(c.T.take k xs).tab}) h w
theorem a_.items{new:List Rec}(w:dU g k its c c' m new):a_ g c.tok->a_ g c'.tok/\c.tok.e<=c'.tok.e:=by
 induction w with
 |nil=>exact fun h=>⟨h,X6 _⟩
 |cons h1 _ ih=>exact fun h=>⟨(ih (h.item h1).1).1,Int.le_trans (h.item h1).2 (ih (h.item h1).1).2⟩
theorem a_.step{e:Jj}{rs':Int->List Int}{new:List Rec}(h:a_ g c.tok)(w:KV g e c rs c' rs' m new):a_ g c'.tok/\c.tok.e<=c'.tok.e:=by
 rcases w with⟨_,h1,h2,its,r,_,_,w⟩|⟨_,_,w⟩|⟨_,_,w⟩|⟨_,_,w⟩|⟨_,_,rfl,_,rfl⟩;·exact a_.items w h
 ·obtain⟨a,b,T1,⟨rfl,rfl⟩|w⟩:=w;·exact⟨h,X6 _⟩
  ·rcases w with⟨_,_,rfl,_⟩|⟨_,t2,_,_,te,hto,rfl,rfl⟩|⟨rfl,p,hp,rfl⟩;·exact⟨h,X6 _⟩
   ·have te2:t2.e=c.tok.e+1:=te;exact Em_
   ·exact EnZ
 ·rcases w with⟨_,rfl,rfl⟩|⟨_,L',t2,md,_,hto,te,rfl,_⟩;·exact⟨h,X6 _⟩
  ·refine⟨fun h=> ?_,te⟩;have h2:0<=t2.o:=h;omega
 ·obtain⟨⟨w1,w2⟩,we,_⟩:=w;refine⟨fun h3=> ?_,we⟩;by_cases ho:0<=c.tok.o
  ·rcases w1 ho with⟨a1,a2,a3,a4,a5⟩|⟨a1,_⟩;·rw[a3];exact h ho
   ·omega
  ·have:=w2 D;omega
 ·exact EnZ
section
open Go.ChangeShapes Go.Deep Go.WideShapes
theorem VW{enc:Ez×G->Y9}{w:M}{fs:Array Field}{x:DataW Y9×List MemPlace}(ht:P.underlying t=X (.struct fs))(h:Zr enc P w 0 (fun _=>EI) EI n t cs=X x): ∃m,cs.length=P.cellsOf t/\ ∀(i:Nat) (f:Field),fs[i]?=X f-> ∃y,Zr enc P w 0 (fun _=>EI) EI m f.type ((cs.drop f.offset).take (P.cellsOf f.type))=X y:=by
 obtain⟨xs,m,-,-,hl,hxl,hf⟩:=DataW.trod_struct ht h;refine⟨m,hl,fun i f hif=> ?_⟩
 have hi:i<fs.size:=by
  rcases JW i fs.size with h|h;·exact h
  ·rw[fD h] at hif;cases hif
 exact⟨_,(hf i f hif).trans (JY D)⟩
theorem EfB{enc:Ez×G->Y9}{w:M}{k:Nat}{x:DataW Y9×List MemPlace}(ht:P.underlying t=X (.array k e))(h:Zr enc P w 0 (fun _=>EI) EI n t cs=X x): ∃m,cs.length=P.cellsOf t/\ ∀(i:Nat),i<k-> ∃y,Zr enc P w 0 (fun _=>EI) EI m e ((cs.drop (i*P.cellsOf e)).take (P.cellsOf e))=X y:=by obtain⟨xs,m,-,-,hl,hxl,hf⟩:=DataW.trod_array ht h;exact⟨m,hl,fun i hi=>⟨_,(hf i hi).trans (JY D)⟩⟩
theorem EfC{enc:Ez×G->Y9}{w:M}{k:Nat}{x:DataW Y9×List MemPlace}(ht:P.underlying t=X (.array k e))(he:P.underlying e=X (.int kd))(hc:P.cellsOf e=1)(hk:P.cellsOf t=k) (h:Zr enc P w 0 (fun _=>EI) EI n t cs=X x): ∃l:List Int,l.length=k/\cs=l.map (E kd)/\ ∀z∈l,(Lit.int kd z).wf=EI:=by
 obtain⟨m,hl,hf⟩:=EfB ht h;rw[hk] at hl;rw[hc] at hf;have key: ∀i (hi:i<cs.length),∃z,cs[i]= .int kd z/\(Lit.int kd z).wf=EI:=by intro i hi;obtain⟨y,hy⟩:=hf i D;rw[Nat.mul_one,lO hi] at hy;obtain⟨z,e1,-,e3⟩:=DataW.trod_int he hy;simp only[Is,Io,bK,and_true] at e1;exact⟨z,e1,e3⟩
 refine⟨cs.map fun v=>match v with| .int _ z=>z|_=>0,by simp[hl],?_,?_⟩;·rw[List.map_map];refine List.ext_getElem Ej fun i h1 h2=> ?_;obtain⟨z,e1,-⟩:=key i h1;simp[e1]
 ·intro z hz;obtain⟨v,hv,rfl⟩:=bc.1 hz;obtain⟨i,hi,rfl⟩:=List.getElem_of_mem hv;obtain⟨z,e1,e3⟩:=key i hi;rw[e1];exact e3
theorem VY{enc:Ez×G->Y9}{w:M}{x:DataW Y9×List MemPlace}(he:P.underlying t=X (.int kd))(h:Zr enc P w 0 (fun _=>EI) EI n t cs=X x): ∃z,cs=[.int kd z]/\(Lit.int kd z).wf=EI:=by obtain⟨z,e1,-,e3⟩:=DataW.trod_int he h;exact⟨z,e1,e3⟩
end
section
open Go.ChangeShapes Go.Deep Go.WideShapes
theorem V7(b o i:Nat):(⟨b,o,Z⟩:Ev).add i=⟨b,o+i,Z⟩:=Xo
theorem Bh{x:Int}(h:(Lit.int .i64 x).wf=EI):I4 x:=by unfold I4;exact EnS
def Jj.Y5(e:Jj)(a:Option Ev)(c:Nat):List (List G):=[[E I e.kind],[E I e.src],[EJ a e.b.length c],[EU e.valid,E I e.x0,E I e.x1,E I e.x2,E I e.x3,EU e.give],[EU e.bad]]
def Jj.cells(e:Jj)(a:Option Ev)(c:Nat):List G:=(e.Y5 a c).flatten
structure Jj.ok(e:Jj):Prop where
 x0:I4 e.x0
 x1:I4 e.x1
 x2:I4 e.x2
 x3:I4 e.x3
structure sg(w:M)(e:Jj)(a:Option Ev)(c:Nat):Prop where
 ok:e.ok
 row:Row w a e.b
 le:e.b.length<=c
 max:c<=9223372036854775807
theorem sg.u{w:M}{e:Jj}{a:Option Ev}{c:Nat}(h:sg w e a c)(hb:Ek w w'):sg w' e a c:=
 ⟨h.ok,IH h.row hb,h.le,h.max⟩
theorem EfD{enc:Ez×G->Y9}{w:M}{x:DataW Y9×List MemPlace}(h:Zr enc Ea w 0 (fun _=>EI) EI n 46 cs=X x): ∃(va gv:Bool) (x0 x1 x2 x3:Int),I4 x0/\I4 x1/\I4 x2/\I4 x3/\cs=[EU va,E I x0,E I x1,E I x2,E I x3,EU gv]:=by
 obtain⟨m,hl,hf⟩:=VW Tryz.underlying46 h;rw[show Tryz.prog.cellsOf 46=6 from Ef] at hl;match cs,hl with
 |[c0,c1,c2,c3,c4,c5],_=>
  obtain⟨y0,h0⟩:=hf 0 _ U;have g0:Zr enc Ea w 0 (fun _=>EI) EI m 4 (([c0,c1,c2,c3,c4,c5].drop 0).take (Tryz.prog.cellsOf 4))=X y0:=h0;rw[show Tryz.prog.cellsOf 4=1 from Ef] at g0;obtain⟨va,e0,-⟩:=DataW.trod_bool Tryz.underlying4 g0;simp only[IS,IM,Is,Io,bK,and_true] at e0;obtain⟨y1,h1⟩:=hf 1 _ U;have g1:Zr enc Ea w 0 (fun _=>EI) EI m 25 (([c0,c1,c2,c3,c4,c5].drop 1).take (Tryz.prog.cellsOf 25))=X y1:=h1;rw[show Tryz.prog.cellsOf 25=4 from Ef] at g1;obtain⟨xl,hxl,ex,hw⟩:=EfC Tryz.underlying25 Tryz.underlying3 Ef Ef g1;obtain⟨y2,h2⟩:=hf 2 _ U;have g2:Zr enc Ea w 0 (fun _=>EI) EI m 4 (([c0,c1,c2,c3,c4,c5].drop 5).take (Tryz.prog.cellsOf 4))=X y2:=h2;rw[show Tryz.prog.cellsOf 4=1 from Ef] at g2;obtain⟨gv,e2,-⟩:=DataW.trod_bool Tryz.underlying4 g2;simp only[IS,IM,Is,Io,bK,and_true] at e2;match xl,hxl with
  |[b0,b1,b2,b3],_=> simp only[IS,IM,Is,Io,Xs,Zu,bK,and_true] at ex;obtain⟨f0,f1,f2,f3⟩:=ex;exact⟨va,gv,b0,b1,b2,b3,Bh (hw _ Ej),Bh (hw _ Ej),Bh (hw _ Ej),Bh (hw _ Ej),by rw[e0,e2,f0,f1,f2,f3]⟩
theorem EfF(cs:List G)(h:cs.length=10):cs=(cs.drop 0).take 1++((cs.drop 1).take 1++((cs.drop 2).take 1++((cs.drop 3).take 6++(cs.drop 9).take 1))):=by
 have st: ∀a n:Nat,cs.drop a=(cs.drop a).take n++cs.drop (a+n):=fun a n=>by rw[<-List.drop_drop,dR]
 have e7:cs.drop 9=(cs.drop 9).take 1:=by rw[OV (by rw[ly];omega)]
 rw[<-e7,<-st 3 6,<-st 2 1,<-st 1 1,<-st 0 1,IM]
theorem EfG{enc:Ez×G->Y9}{w:M}{x:DataW Y9×List MemPlace}(h:Zr enc Ea w 0 (fun _=>EI) EI n 48 cs=X x): ∃(e:Jj) (a:Option Ev) (c:Nat),sg w e a c/\cs=e.cells a c:=by
 obtain⟨m,hl,hf⟩:=VW Tryz.underlying48 h;rw[show Tryz.prog.cellsOf 48=10 from Ef] at hl;have sp:=EfF cs hl;obtain⟨y0,h0⟩:=hf 0 _ U;have g0:Zr enc Ea w 0 (fun _=>EI) EI m 3 ((cs.drop 0).take (Tryz.prog.cellsOf 3))=X y0:=h0;rw[show Tryz.prog.cellsOf 3=1 from Ef] at g0;obtain⟨y1,h1⟩:=hf 1 _ U;have g1:Zr enc Ea w 0 (fun _=>EI) EI m 3 ((cs.drop 1).take (Tryz.prog.cellsOf 3))=X y1:=h1;rw[show Tryz.prog.cellsOf 3=1 from Ef] at g1;obtain⟨y2,h2⟩:=hf 2 _ U;have g2:Zr enc Ea w 0 (fun _=>EI) EI m 23 ((cs.drop 2).take (Tryz.prog.cellsOf 23))=X y2:=h2;rw[show Tryz.prog.cellsOf 23=1 from Ef] at g2;obtain⟨y3,h3⟩:=hf 3 _ U;have g3:Zr enc Ea w 0 (fun _=>EI) EI m 46 ((cs.drop 3).take (Tryz.prog.cellsOf 46))=X y3:=h3;rw[show Tryz.prog.cellsOf 46=6 from Ef] at g3;obtain⟨y4,h4⟩:=hf 4 _ U;have g4:Zr enc Ea w 0 (fun _=>EI) EI m 4 ((cs.drop 9).take (Tryz.prog.cellsOf 4))=X y4:=h4;rw[show Tryz.prog.cellsOf 4=1 from Ef] at g4;obtain⟨b0,e0,-⟩:=VY Tryz.underlying3 g0;obtain⟨b1,e1,-⟩:=VY Tryz.underlying3 g1;obtain⟨va,gv,x0,x1,x2,x3,i0,i1,i2,i3,e3⟩:=EfD g3;obtain⟨b4,e4,-⟩:=DataW.trod_bool Tryz.underlying4 g4
 obtain⟨a,l,c,e2⟩: ∃a l c,(cs.drop 2).take 1=[EJ a l c]:=by
  rcases open_slice ba g2 with⟨hcs,_⟩|⟨a,l,c,m,n,Y_,Pl,hcs,_⟩;·exact⟨_,_,_,hcs⟩
  ·exact⟨_,_,_,hcs⟩
 rw[e2] at g2;obtain⟨A,xs,cap,ev,r1,r2,r3,-⟩:=EOf (EZ7 g2);obtain⟨rfl,rfl,rfl⟩:a=A/\l=xs.length/\c=cap:=by injection ev with a b c;exact⟨a,b,c⟩
 refine⟨⟨b0,b1,xs,va,x0,x1,x2,x3,gv,b4⟩,a,c,⟨⟨i0,i1,i2,i3⟩,r3,r1,r2⟩,?_⟩;rw[sp,e0,e1,e2,e3,e4];rfl
def sh(w:M)(v:G):Prop:= ∃(A:Option Ev) (l c:Nat),v=EJ A l c/\(l=0\/ ∃b off,A=X ⟨b,off,Z⟩/\ ∀i,i<l-> ∃(e:Jj) (a:Option Ev) (d:Nat),sg w e a d/\ ∀j,j<10->w.cell? ⟨b,off+i*10+j,Z⟩=(e.cells a d)[j]?)
theorem mk_sl_api_Event{enc:Ez×G->Y9}{w:M}{r:Reach}{d:DataW Y9}{p:List MemPlace} (h:Value.okWide Ea w r base 29 v) (hd:DataW.Trod enc Ea w 0 (fun _=>EI) EI 29 v d p):sh w v:=by
 obtain⟨a,len,cap,rfl⟩:=okWide_slice Tryz.underlying29 h;obtain⟨fuel,hf⟩:=hd;rcases open_slice Tryz.underlying29 hf with⟨hcs,-⟩|⟨x,l,c,m,n,Y_,Pl,hcs,-,hl,hm,hmm,-,hi⟩;·simp[Value.cells] at hcs;obtain⟨rfl,rfl,rfl⟩:=hcs;exact⟨Z,0,0,U,.inl U⟩
 ·simp[Value.cells] at hcs;obtain⟨rfl,rfl,rfl⟩:=hcs;simp only[if_true] at hmm;subst hmm;rw[show Tryz.prog.cellsOf 48=10 from Ef] at hi;refine⟨X x,len,m,U,?_⟩;have hc: ∀i,i<len-> ∃(e:Jj) (a:Option Ev) (d:Nat),sg w e a d/\ ∀j,j<10->w.cell? ((x.add (i*10)).add j)=(e.cells a d)[j]?:=by intro i hil;obtain⟨cs',h1,h2⟩:=hi i D;obtain⟨e,a,d,ho,hcs⟩:=EfG h2;obtain⟨-,-,h3⟩:=World.cells?_some h1;exact⟨e,a,d,ho,fun j hj=>by rw[h3 j hj,hcs]⟩
  by_cases h0:len=0;·exact .inl h0
  ·have hx:x=⟨x.block,x.off,Z⟩:=by
    obtain⟨e,a,d,-,hj⟩:=hc 0 D;have c0:=hj 0 D;have e1:(x.add (0*10)).add 0=x:=by simp[Addr.add]
    rw[e1] at c0;have:=World.cell?_spot (c0.trans (show(e.cells a d)[0]?=X _ from rfl));cases x;simp_all
   refine .inr ⟨x.block,x.off,by rw[<-hx],fun i hil=> ?_⟩;obtain⟨e,a,d,ho,hj⟩:=hc i hil;refine⟨e,a,d,ho,fun j hjl=> ?_⟩;have h1:=hj j hjl;rw[hx,V7,V7] at h1;exact h1
end
section
variable{P:Program}{ops:Array Oper}{Q:Exit->Act->World->Prop}{C:World->Prop}{n:Nat}
theorem EfH{ro:Option Nat}(hd: ∀c,o.op≠ .defer c)(ρ:JN->G):o.semAt ro ρ=Ig ρ o:=Oper.semAt_eq ro ρ o hd
theorem V_{row:String}{args:Array G}{w:M}{R:G->M->Prop}(h:Rows P row args w R):RowsIn XD n P row args w R:=
 fun c cs _=>let ⟨v,w',r,s⟩:=h c cs;⟨v,w',r,stepsIn_wide.2 s⟩
theorem WE(hF:F=XD\/ ∃l,F=Fence.wide.inRound l)(hd:F=XD\/ ∀c,o.op≠ .defer c){a:E2}{w:M}(hq: ¬LetsOut Q)(h:o.wp P a w K Q):o.wpIn F n P a w K Q:=by
 have hs:o.semAt F.round a.eval=Ig a.eval o:=by
  rcases hd with rfl|hd;·rfl
  ·exact EfH hd _
 have hf: ∀f,F.fn f:=fun f=>WI
 have hc: ∀{f args w R},Eg P f args w R->CallsIn F (n-1) P f args w R:=fun h=>by
  rcases hF with rfl|⟨l,rfl⟩;·exact callsIn_wide.2 h
  ·exact CallsIn.inRound (F:=XD) l (callsIn_wide.2 h)
 have hr: ∀{row args w R},Rows P row args w R->RowsIn F (n-1) P row args w R:=fun h=>by
  rcases hF with rfl|⟨l,rfl⟩;·exact V_ h
  ·exact V_ (n:=n-1) h
 have hdp:F.depth.isSome=EI->1<=n:=fun h=>by rcases hF with rfl|⟨l,rfl⟩<;>cases h
 refine⟨fun f _=>hf f,?_⟩;rw[hs];unfold cE at h;generalize (Ig a.eval o).run P w=r at*;cases r with
 |ok x w'=>
  cases x<;>simp only[Oper.upon,Oper.uponIn] at h⊢ <;>
   first
    |exact h
    |exact⟨hdp,hc h⟩
    |exact⟨hdp,hr h⟩
    |exact h.elim
 |halt x w'=>cases x<;>simp only[Oper.upon,Oper.uponIn] at h⊢ <;>exact h
theorem EfK{a:E2}{w:M}(h:o.wp P a w K (fun _ _ _=>False)):o.wpIn XD n P a w K Q:=by
 have h1:=WE (n:=n) (F:=XD) (.inl U) (.inl U) sj h;unfold Oper.wpIn at*;refine⟨h1.1,?_⟩;have h1:=h1.2;generalize (o.semAt Fence.wide.round a.eval).run P w=r at*;cases r with
 |ok x w'=>
  cases x<;>simp only[Oper.uponIn] at h1⊢ <;>
   first
    |exact h1
    |exact⟨h1.1,CallsIn.mono h1.2 (fun e w'' he=>by cases e<;>first|exact he|exact he.elim|exact WJ)⟩
    |exact⟨h1.1,RoundIn.mono h1.2 (fun e w'' he=>by cases e<;>first|exact he|exact he.elim|exact WJ)⟩
 |halt x w'=>cases x<;>simp only[Oper.uponIn] at h1⊢ <;>exact h1.elim
def sr(l:List EG):Bool:=l.all fun o=>match o.op with| .defer _=>false|_=>true
theorem EfL(h:sr l=EI)(ho:o∈l): ∀c,o.op≠ .defer c:=fun c e=>by have:=XJ.1 h o ho;rw[e] at this;cases this
theorem Bi{F:Fence}(hF:F=XD\/ ∃l,F=Fence.wide.inRound l)(hq: ¬LetsOut Q): ∀(l1 l2:List EG) (a:E2) (w:M),sr l1=EI-> Ih P ops (Exit.then (ai F n P ops Q l2) Q) l1 a w->ai F n P ops Q (l1++l2) a w
 |[],_,_,_,_,h=>h
 |o::l1,l2,a,w,hd,h=>by
  have hd2:sr l1=EI:=by unfold sr at*;rw[io,UJ] at hd;exact hd.2
  have hq': ¬LetsOut (Exit.then (ai F n P ops Q l2) Q):=fun⟨a,w,h⟩=>hq ⟨a,w,h⟩;unfold Ih at h;rw[lI];unfold ai;split
  ·rename_i hw;rw[if_pos hw] at h;rcases h with h|⟨_,h⟩
   ·have h1:=WE (n:=n) hF (.inr (EfL hd (fG ..))) hq' h;unfold Oper.wpIn at*;refine⟨h1.1,?_⟩;have h1:=h1.2;generalize (o.semAt F.round a.eval).run P w=r at*;have ih:=fun a w h=>Bi hF hq l1 l2 a w hd2 h;cases r with
    |ok x w'=>
     cases x<;>simp only[Oper.uponIn] at h1⊢ <;>
      first
       |exact ih _ _ h1
       |exact⟨h1.1,CallsIn.mono h1.2 (fun e w'' he=>WU)⟩
       |exact⟨h1.1,RowsIn.mono h1.2 (fun _ _ he=>ih _ _ he)⟩
       |exact⟨h1.1,RoundIn.mono h1.2 (fun e w'' he=>WU)⟩
    |halt x w'=>cases x<;>simp only[Oper.uponIn] at h1⊢ <;>exact h1
   ·exact absurd h hq'
  ·rename_i hw;rw[if_neg hw] at h;exact⟨fun f _=>WI,Bi hF hq l1 l2 _ w hd2 h⟩
theorem wk(m:Nat){a:E2}{w:M}(hF:F=XD\/ ∃l,F=Fence.wide.inRound l)(hq: ¬LetsOut Q)(hd:sr (l.take m)=EI)(h:Ih P ops (Exit.then (ai F n P ops Q (l.drop m)) Q) (l.take m) a w):ai F n P ops Q l a w:=by have:=Bi (n:=n) hF hq (l.take m) (l.drop m) a w hd h;rwa [dR] at this
theorem wl{l:Nat}{os:List EG}{a:E2}{w:M}(hq: ¬LetsOut Q)(hd:sr os=EI)(h:Ih P os.toArray Q os a w):(Z3 id os.toArray V).wpIn (Fence.wide.inRound l) n P Q a w:=by
 refine wpIn_region_lit ?_;have:=Bi (P:=P) (F:=Fence.wide.inRound l) (n:=n) (ops:=os.toArray) (.inr ⟨l,U⟩) hq os [] a w hd ?_;·rwa [fX] at this
 ·have hm: ∀e a w,Q e a w->Exit.then (ai (Fence.wide.inRound l) n P os.toArray Q []) Q e a w:=fun e a w h=>by cases e<;>exact h
  have hqq:(Exit.then (ai (Fence.wide.inRound l) n P os.toArray Q []) Q)=Q:=by funext e a w;cases e<;>rfl
  rw[hqq];exact h
def wn(ops:Array EG)(m:Nat):Bool:=
 (UM ops.size).all fun i=>match ops[i]? with
  |none=>V
  |some o=>o.after.all (fun e=>decide (e.on<i))&&(decide (i<m)||(UM i).all fun j=>decide (j=0)||(UM (i+1)).any fun k=>decide (j<k)&&match ops[k]? with
   |some p=>p.after.any fun e=>Ur .any e&&e.on==j
   |none=>V)
theorem wo(h:wn ops m=EI){i:Nat}(ho:ops[i]?=X o):(∀e∈o.after,e.on<i)/\(m<=i-> ∀j,j<i->j≠0-> ∃k p,j<k/\k<=i/\ops[k]?=X p/\ ∃e∈p.after,Ur .any e=EI/\e.on=j):=by
 have hi:=(J4.1 ho).1;have h1:=XJ.1 h i (ar.2 hi);simp only[ho,UJ,k_,decide_eq_true_eq] at h1;refine⟨fun e he=> ?_,fun hm j hj h0=> ?_⟩;·exact Eop
 ·rcases h1.2 with h2|h2;·omega
  ·have h3:=XJ.1 h2 j (ar.2 hj);simp only[k_,decide_eq_true_eq] at h3;rcases h3 with h3|h3;·exact absurd h3 h0
   ·obtain⟨k,hk,hk2⟩:=List.any_eq_true.1 h3;have hk1:=ar.1 hk;simp only[UJ,decide_eq_true_eq] at hk2;obtain⟨hjk,hk3⟩:=hk2;cases hp:ops[k]? with
    |none=>rw[hp] at hk3;cases hk3
    |some p=> rw[hp] at hk3;obtain⟨e,he,hb⟩:=Array.any_eq_true'.1 hk3;simp only[UJ,beq_iff_eq] at hb;exact⟨k,p,hjk,D,hp,e,he,hb.1,hb.2⟩
theorem WX(hB:wn ops m=EI){listed:Array Bool}(hs:listed.size=ops.size)(hc:db ops listed)(h0:listed.getD 0 EI=EI){i:Nat}(hi:i∈jh .any ops listed)(hm:m<=i): ∀j,j<i->listed.getD j EI=EI:=by
 obtain⟨h1,o,ho,hall⟩:=Zt.1 hi;have hin:=(J4.1 ho).1
 have key: ∀d j,i-j=d->j<i->listed.getD j EI=EI:=by
  intro d;induction d using Nat.strongRecOn with
  |ind d ih=>
   intro j hd hj;by_cases hj0:j=0;·subst hj0;exact h0
   ·obtain⟨k,p,hjk,hki,hp,e,he,hb,heq⟩:=(wo hB ho).2 hm j hj hj0;by_cases h:k=i;·subst h;have:p=o:=cI (hp.symm.trans ho);subst this;have h3:=hall e he hb;rw[heq] at h3;have h5:j<listed.size:=D;simpa[h5] using h3
    ·exact EnG
 exact fun j hj=>key _ j U hj
theorem EfM{k:Nat}(ho:ops[k]?=X o)(rest:List EG)(a:E2)(w:M)(h:ai XD n P ops Q (o::rest) a w):wpOpIn XD n P ops Q k (ai XD n P ops Q rest) a w:=by unfold wpOpIn;simp only[ho];unfold ai at h;exact h
theorem WZ(hB:wn ops m=EI)(hm0:1<=m): ∀(fuel k:Nat) (listed:Array Bool) (a:E2) (w:M),m<=k->k<=ops.size->ops.size-k<=fuel->listed.size=ops.size-> (∀j,j<ops.size->listed.getD j EI=decide (j<k))->db ops listed->ai XD n P ops Q (ops.toList.drop k) a w->wpAnyIn XD n P .any ops Q fuel listed a w:=by
 intro fuel;induction fuel with
 |zero=> intro k listed a w hm hk hf hs hl hc h;have hkn:k=ops.size:=D;subst hkn;rw[List.drop_of_length_le Ej] at h;refine wpAnyIn_done ?_ h 0;rw[List.eq_nil_iff_forall_not_mem];intro j hj;obtain⟨h1,o,ho,-⟩:=Zt.1 hj;have hjn:=(J4.1 ho).1;rw[hl j hjn] at h1;simp at h1;omega
 |succ fuel ih=>
  intro k listed a w hm hk hf hs hl hc h;rcases JW k ops.size with hlt|hge
  ·have ho:ops[k]?=X ops[k]:=ji hlt;have hd:ops.toList.drop k=ops[k]::ops.toList.drop (k+1):=by rw[lO (by simpa using hlt)];simp
   rw[hd] at h;have hmem:k∈jh .any ops listed:=by refine Zt.2 ⟨by rw[hl k hlt];simp,_,ho,fun e he _=> ?_⟩;have h1:=(wo hB ho).1 e he;exact EmY
   refine⟨fun h0=>(by rw[h0] at hmem;cases hmem),fun i hi=> ?_⟩;obtain⟨h1,o,hoi,hall⟩:=Zt.1 hi;have hin:=(J4.1 hoi).1;have hki:k<=i:=by rw[hl i hin] at h1;simp at h1;exact h1
   have hik:i=k:=by
    rcases JW k i with h2|h2;·have h3:=WX hB hs hc (by rw[hl 0 D];exact IE D) hi D k h2;rw[hl k hlt] at h3;simp at h3
    ·omega
   subst hik;refine wpOpIn_mono (fun a' w' h'=>ih (i+1) (listed.setIfInBounds i EI) a' w' D D D nm (fun j hj=> ?_) (hc.set hs hi) h') (EfM ho _ a w h);by_cases e:i=j;·subst e;exact Eml
   ·exact En7
  ·have hkn:k=ops.size:=D;subst hkn;rw[List.drop_of_length_le Ej] at h;refine wpAnyIn_done ?_ h _;exact El3
theorem EfN{i:Nat}{a:E2}{K:E2->Prop}{K':E2->M->Prop}{w:M}(hC:C w)(h: ∀a w',C w'->K a->K' a w')(hh:qOp P ops C i K a):wpOpIn XD n P ops Q i K' a w:=by
 have h1:=wpOp_of_qOp (Q':=fun _ _ _=>False) hC h hh;unfold wpOp at h1;unfold wpOpIn;split;·rename_i ho;rw[ho] at h1;exact h1
 ·rename_i o ho;rw[ho] at h1;simp only at h1;split
  ·rename_i hw;rw[if_pos hw] at h1;rcases h1 with h1|⟨_,_,_,h1⟩;·exact EfK h1
   ·exact h1.elim
  ·rename_i hw;rw[if_neg hw] at h1;exact⟨fun _ _=>trivial,h1⟩
theorem EfP(hB:wn ops m=EI)(hm0:1<=m)(hmn:m<=ops.size){F:(Nat->G)->E2}{y:Nat->G} (hF: ∀i o x v,i<m->ops[i]?=X o->(F x).put o.dst v=F (J7 x i v)) (hstep: ∀i o x,i<m->ops[i]?=X o->(∀e∈o.after,Ur .any e=EI->x e.on=y e.on)->YieldsIn P ops C o (y i) (F x)) (hend: ∀x w,C w->(∀i,i<m->x i=y i)->ai XD n P ops Q (ops.toList.drop m) (F x) w): ∀(fuel:Nat) (listed:Array Bool) (x:Nat->G) (w:M),(Xq ops listed).length<=fuel->listed.size=ops.size->listed.getD 0 EI=EI->(∀j,m<=j->j<ops.size->listed.getD j EI=V)->db ops listed->C w-> (∀i,i<m->listed.getD i EI=EI->x i=y i)->wpAnyIn XD n P .any ops Q fuel listed (F x) w:=by
 intro fuel;induction fuel with
 |zero=>
  intro listed x w hf hs hl0 ht hc hb hr
  have hall: ∀j,j<ops.size->listed.getD j EI=EI:=by
   intro j hj;cases hc:listed.getD j EI;·exact Eld
   ·rfl
  have hm:m=ops.size:=by
   rcases JW m ops.size with h|h;·exact EmC
   ·omega
  refine WZ hB hm0 0 m listed _ w (E9 _) hmn D hs (fun j hj=>by rw[hall j hj,IE D]) hc (hend x w hb fun i hi=>hr i hi (hall i D))
 |succ fuel ih=>
  intro listed x w hf hs hl0 ht hc hb hr;by_cases hall: ∀j,j<m->listed.getD j EI=EI
  ·have hlen:ops.size-m<=fuel+1:=by
    have hsub:(List.range' m (ops.size-m)).length<=(Xq ops listed).length:=by
     apply List.Nodup.length_le_of_subset;·exact List.nodup_range'
     ·exact Eli
    simp at hsub;omega
   refine WZ hB hm0 (fuel+1) m listed _ w (E9 _) hmn hlen hs (fun j hj=> ?_) hc (hend x w hb fun i hi=>hr i hi (hall i hi));rcases JW j m with h|h;·rw[hall j h,IE h]
   ·rw[ht j h hj,Ia D]
  ·refine⟨fun h0=> ?_,fun i hi=> ?_⟩
   ·exfalso
    have hex: ∃j,j<m/\listed.getD j EI=V:=by
     apply qi;intro hno
     exact hall fun j hj=>by
      cases hc:listed.getD j EI;·exact EnW
      ·rfl
    have hmin: ∃j,(j<m/\listed.getD j EI=V)/\ ∀k,k<j-> ¬(k<m/\listed.getD k EI=V):=by
     obtain⟨j,hj⟩:=hex;induction j using Nat.strongRecOn with
     |ind j np=>
      by_cases h: ∃k,k<j/\(k<m/\listed.getD k EI=V);·exact Emm
      ·exact EmX
    obtain⟨j,⟨hjm,hj⟩,hlt⟩:=hmin;have hjn:j<ops.size:=D;have ho:ops[j]?=X ops[j]:=ji hjn
    have:j∈jh .any ops listed:=by
     refine Zt.2 ⟨hj,_,ho,fun e he _=> ?_⟩;have h1:=(wo hB ho).1 e he;have h2:=hlt e.on h1;have h3:e.on<listed.size:=D;cases hc:listed.getD e.on EI;·exact absurd ⟨D,hc⟩ h2
     ·simpa[h3] using hc
    rw[h0] at this;cases this
   ·obtain⟨h1,o,ho,nr⟩:=Zt.1 hi;have hin:=(J4.1 ho).1;have him:i<m:=by apply qi;intro hge;apply hall;intro j hj;exact WX hB hs hc hl0 hi D j D
    have hi0:i≠0:=fun e=>by subst e;rw[hl0] at h1;cases h1
    have hdr: ∀e∈o.after,Ur .any e=EI->x e.on=y e.on:=by intro e he hb';have h3:=nr e he hb';have h4:=(wo hB ho).1 e he;exact EmT
    have st:=hstep i o x him ho hdr;refine EfN (C:=C) (K:=fun a'=>a'=F (J7 x i (y i))) hb (fun a' w' hw' ha'=> ?_) (st.qOp ho ?_)
    ·subst ha';have hlt:=sL hs hin h1;refine ih _ _ w' D nm (by rw[Z4 EI hi0];exact hl0) (fun j hj hjn=> ?_) (hc.set hs hi) hw' (fun j hj hl=> ?_);·rw[Z4 EI D];exact ht j hj hjn
     ·by_cases hji:j=i;·subst hji;rw[kR]
      ·exact Eni
    ·exact hF i o x (y i) him ho
def K_(l:List EG)(m:Nat):Bool:=wn l.toArray m&&decide (1<=m)&&decide (m<=l.length)&&Region.noSelect (l.take m).toArray&&decide (J8 (l.take m)).Nodup&&qZ (l.take m) l.toArray&&Region.noSelect l.toArray&&Region.free .any l.toArray (au l.length V) 0&&(jh .any l.toArray (au l.length V)).contains 0
theorem EfQ(m:Nat)(hm:P.follows .mixedOrders=EI)(hB:K_ l m=EI){x:JN}(ho0:l[0]?=X o0)(hx:o0.op= .move x)(hg0:o0.guard=Z)(hQ: ∀c a w,Q (.panic c) (a.put o0.dst (a0.eval x)) w->Q (.panic c) a w) (hC:C w0.drew) (h:Xd P l.toArray C (fun a'=> ∀w',C w'->ai XD n P l.toArray Q (l.drop m) a' w') (l.take m) a0):(Z3 id l.toArray EI).wp P Q a0 w0:=by
 simp only[K_,UJ,decide_eq_true_eq] at hB;obtain⟨⟨⟨⟨⟨⟨⟨⟨hB,hm0⟩,hmn⟩,hsel⟩,hnd⟩,hap⟩,EfR⟩,hfree⟩,Wa⟩:=hB;obtain⟨y,hy,hK⟩:=xi (l.take m) 0 a0 h;have htk: ∀i o,i<m->l.toArray[i]?=X o->(l.take m)[i]?=X o:=fun i o hi ho=>by exact EmO
 have hlen:(l.take m).length=m:=ng;have sP:ED (l.take m) 0 (held (l.take m) a0) a0=a0:=jc a0 _ 0 _ (fun k o ho d hd=>by unfold held;rw[J9,ho];simp only[hd]);have hl0:l.length=(l.length-1)+1:=D;have Wb: ∀(w:M),(Ig a0.eval o0).run P w= .ok (.value (a0.eval x)) w:=fun w=>by unfold Ig;rw[hx];rfl
 have hwant:I8 o0 (Ja l.toArray a0.tmps)=EI:=by unfold I8;rw[hg0]
 have xo: ∀i o x v,i<m->l.toArray[i]?=X o->(ED (l.take m) 0 x a0).put o.dst v=ED (l.take m) 0 (J7 x i v) a0:=by intro i o x v hi ho;exact ElL
 have hy0:y 0=a0.eval x:=by
  have h1:=hy 0 o0 (by rw[List.getElem?_take,if_pos D];exact ho0);rw[Io,J9] at h1;rcases h1 with⟨_,h1⟩|⟨h1,_⟩;·have h2:=h1 w0.drew hC;simp only[ED] at h2;unfold ik at h2;rw[Wb] at h2;exact h2.2.symm
  ·simp only[ED] at h1;rw[hwant] at h1;cases h1
 refine(wpIn_wide (n:=n)).1 (wpIn_region_any hm ?_);rw[show l.toArray.size=(l.length-1)+1 from Jm];refine wpAnyIn_take (i:=0) (oi:=o0) (v:=a0.eval x) U (by simpa using ho0) EfR (by simpa[show l.length-1+1=l.length from D] using hfree) (by simpa[show l.length-1+1=l.length from D] using Wa) hQ ⟨.inl ⟨hwant,Wb⟩,fun w=>by unfold Oper.about;rw[hx]⟩ ?_;rw[show l.length-1+1=l.length from D];have key:=EfP (P:=P) (Q:=Q) (C:=C) (n:=n) (ops:=l.toArray) (F:=fun x=>ED (l.take m) 0 x a0) (y:=y) hB hm0 xm xo ?_ ?_ (l.length-1) ((au l.length V).setIfInBounds 0 EI) (J7 (held (l.take m) a0) 0 (a0.eval x)) w0.drew ?_ Ej Ej (fun j hj hjn=> ?_) ?_ hC (fun i hi h=> ?_);·have e:=xo 0 o0 (held (l.take m) a0) (a0.eval x) D (by simpa using ho0);simp only[sP] at e;rw[e];exact key
 ·intro i o x hi ho hd;have hi':=htk i o hi ho;have h1:=hy i o hi';rw[J9] at h1
  have e1:ED ((l.take m).take i) 0 y a0=ED (l.take m) 0 (mix (held (l.take m) a0) y i) a0:=by
   have e2:ED (l.take m) 0 (mix (held (l.take m) a0) y i) a0=ED ((l.take m).drop i) i (mix (held (l.take m) a0) y i) (ED ((l.take m).take i) 0 (mix (held (l.take m) a0) y i) a0):=by exact El9
   have e3:ED ((l.take m).take i) 0 (mix (held (l.take m) a0) y i) a0=ED ((l.take m).take i) 0 y a0:=lE _ 0 _ _ _ fun j _ hj=>by have:j<i:=sQ;simp[mix,this]
   rw[e2,e3];refine(jc _ _ _ _ fun k p hp d hd=> ?_).symm;have hk:(l.take m)[i+k]?=X p:=jf;have hkm:i+k<m:=Md;show mix (held (l.take m) a0) y i (i+k)=_;have e5:mix (held (l.take m) a0) y i (i+k)=a0.tmps.getD d Iv:=by exact Emy
   rw[e5];exact Enf
  rw[e1] at h1;have deps: ∀e∈o.after,Ur .any e=EI->x e.on=mix (held (l.take m) a0) y i e.on:=by intro e he hb;have:=(wo hB ho).1 e he;rw[hd e he hb];simp[mix,this]
  obtain⟨s1,s2⟩:=Ct (ops:=l.toArray) hnd hap hsel (da.2 ⟨i,hi'⟩) (mix (held (l.take m) a0) y i) x a0 (fun e he hb=>(deps e he hb).symm);exact h1.of_same s1 s2
 ·exact ElR
 ·have h2:=sL (ops:=l.toArray) (listed:=au l.length V) (i:=0) Ej (by rw[List.size_toArray];omega) (xh (by simpa using(show 0<l.length from D)));have h3:=List.length_filter_le (fun i=> !(au l.length V).getD i EI) (UM l.toArray.size);have h4:(Xq l.toArray (au l.length V)).length<=l.length:=by simpa[Xq] using h3
  rw[hlen] at*;omega
 ·rw[Z4 EI D];have:j<l.length:=by simpa using hjn
  simp[this]
 ·have hcl:db l.toArray (au l.length V):=by intro j o ho hl;have hj:=(J4.1 ho).1;rw[xh xn] at hl;cases hl
  exact hcl.set Ej (by simpa using Wa)
 ·by_cases h0:i=0;·subst h0;rw[kR,hy0]
  ·rw[Z4 EI (fun e=>h0 e.symm)] at h;have:i<l.length:=D;simp[this] at h
theorem LO(m:Nat)(hm:P.follows .mixedOrders=EI)(hB:K_ l m=EI){x:JN}(ho0:l[0]?=X o0)(hx:o0.op= .move x)(hg0:o0.guard=Z)(hQ: ∀c a w,Q (.panic c) (a.put o0.dst (a0.eval x)) w->Q (.panic c) a w) (h:Xd P l.toArray (fun w'=> ∃y,w'=EA w0 y) (fun a'=> ∀w',(∃y,w'=EA w0 y)->ai XD 9 P l.toArray Q (l.drop m) a' w') (l.take m) a0):(Z3 id l.toArray EI).wp P Q a0 w0:=
 EfQ m hm hB ho0 hx hg0 hQ ⟨⟨_,JZ w0⟩,U⟩ h
end
section
variable{P:Program}{w:World}
theorem Bj(base b2:Nat)(t ty e:Ez)(i:TypeInfo)(z:G)(size bytes:Nat)(ht:P.underlying t=X (.slice e))(hi:P.info? e=X i)(hz:i.zero=X z)(hsize:i.size=size)(hby:i.bytes=bytes)(hzs:z.cells.size=size)(hsz:0<size) (v:G) (n:Nat) (xs:List G) (hown:w.ownsRow base e size v n xs) (Y3:G) (m:Nat) (ys:List G) (hu:w.ownsRow b2 e size Y3 m ys) (h1: ∀y∈ys,y.oneCell'=EI) (h63:n+m<=maxLen) (hbytes:(n+m)*bytes<=140737488355328) (hbase:base<=w.heap.size): ∃A' c' w',(bX #[t,t] ty #[v,Y3]).run P w= .ok (EJ A' (n+m) c') w'/\w'.ownsRow base e size (EJ A' (n+m) c') (n+m) (xs++ys)/\w.grownBy w' v.ownBlock:=by
 have fin: ∀v' w',(bX #[t,t] ty #[v,Y3]).run P w= .ok v' w'->w'.ownsRow base e size v' (n+m) (xs++ys)->w.grownBy w' v.ownBlock-> ∃A' c' w',(bX #[t,t] ty #[v,Y3]).run P w= .ok (EJ A' (n+m) c') w'/\w'.ownsRow base e size (EJ A' (n+m) c') (n+m) (xs++ys)/\w.grownBy w' v.ownBlock:=fun v' w' a b c=>by
  rcases b.2 with⟨rfl,h0⟩|⟨g,cap,cur,rfl,_⟩;·refine⟨Z,0,w',by rw[a,h0],?_,c⟩;rw[h0] at b⊢;exact b
  ·exact⟨_,_,w',a,b,c⟩
 rcases hu.2 with⟨rfl,h0⟩|⟨g,cap,cur,rfl,-⟩;·have hy:ys=[]:=ao (by rw[hu.1,h0,Nat.zero_mul]);subst hy;subst h0;refine fin v w (run_append_owned_none w base t ty e i size ht hi v n xs hown) Dj ⟨U,U,U,E9 _,fun _ _ _=>rfl⟩
 ·obtain⟨v',w',h2,h3,h4,-⟩:=run_append_own_at (P:=P) (w:=w) base t ty e i z size bytes ht hi hz hsize hby hzs hsz v n xs hown ⟨g,0,Z⟩ m cap ys hu.1 (hu.cells (g:=g) U) h1 h63 hbytes hbase;exact fin v' w' h2 h3 h4
end
theorem pK{w:M}{xs:List G}(hown:w.ownsRow base e size v n xs)(hg:w.grownBy w' v.ownBlock){k:Nat}{c:Array G}(h:H w k c S)(hS:S≠e):H w' k c S:=by
 refine(hg.block k h.lt fun e2=> ?_).trans h;rcases hown.2 with⟨rfl,-⟩|⟨g,cap,cur,rfl,-,hb,-⟩;·simp[lu] at e2
 ·have:k=g:=LU;subst this;have hb2:w.heap[k]?=X (Ec c S (0,0)):=h;rw[hb] at hb2;injection hb2 with hb2;injection hb2 with _ h2 _;exact hS h2.symm
theorem LZ{w:M}{xs:List G}(hown:w.ownsRow base e size v n xs)(hg:w.grownBy w' v.ownBlock)(hb:base<=w.heap.size):Ir base w w':=by
 refine⟨hg.os,hg.tape,hg.output,hg.size,fun k hk=>hg.block k D fun e2=> ?_⟩;rcases hown.2 with⟨rfl,-⟩|⟨g,cap,cur,rfl,hl,-,-⟩;·simp[lu] at e2
 ·have:k=g:=LU;omega
theorem Wc{w:M}{xs:List G}(hown:w.ownsRow base e size v n xs)(hg:w.grownBy w' v.ownBlock){k:Nat}{o:Obj}(h:w.heap[k]?=X o)(ho:o.isCells=V):w'.heap[k]?=X o:=by
 refine(hg.block k (J4.1 h).1 fun e2=> ?_).trans h;rcases hown.2 with⟨rfl,-⟩|⟨g,cap,cur,rfl,-,hb,-⟩;·simp[lu] at e2
 ·have:k=g:=LU;subst this;rw[hb] at h;injection h with h;subst h;cases ho
def wt:List Ez:=[43,264,58]
structure dX(hi:Nat)(w w':M):Prop where
 bel:Ir hi w w'
 El: ∀k c S,wt.contains S=V->H w k c S->H w' k c S
theorem dX.trans{hi:Nat}{a b c:M}(h:dX hi a b)(k:dX hi b c):dX hi a c:=⟨h.bel.trans k.bel,fun i d S hS hb=>k.El i d S hS (h.El i d S hS hb)⟩
theorem dX.EC{hi:Nat}{w:M}(h:Ek w w')(hh:hi<=w.heap.size):dX hi w w':=⟨h.mono hh,fun _ _ _ _ hb=>hb.u h⟩
structure JF(lo hi:Nat)(w w':M):Prop where
 bel:Ir lo w w'
 El: ∀k c S,k<hi->jo.contains S=V->S≠122->H w k c S->H w' k c S
 strm: ∀g A n c,g<hi->H w g #[EJ A n c] 122-> ∃A' n' c',H w' g #[EJ A' n' c'] 122/\ ∀k,k<hi->nD A k->nD A' k
theorem JF.refl(lo hi:Nat)(w:M):JF lo hi w w:=⟨E_ _ _,fun _ _ _ _ _ _ h=>h,fun _ _ _ _ _ h=>⟨_,_,_,h,fun _ _ h=>h⟩⟩
theorem JF.trans{hi:Nat}{a b c:M}(h:JF lo hi a b)(k:JF lo hi b c):JF lo hi a c:=
 ⟨h.bel.trans k.bel,fun i d S hi hm hs hb=>k.El i d S hi hm hs (h.El i d S hi hm hs hb),fun i A n c hi hb=>by obtain⟨A1,n1,c1,b1,f1⟩:=h.strm i A n c hi hb;obtain⟨A2,n2,c2,b2,f2⟩:=k.strm i A1 n1 c1 hi b1;exact⟨A2,n2,c2,b2,fun j hj ha=>f2 j hj (f1 j hj ha)⟩⟩
theorem JF.EC{hi:Nat}{w:M}(h:Ek w w')(hl:lo<=w.heap.size):JF lo hi w w':=⟨h.mono hl,fun _ _ _ _ _ _ hb=>hb.u h,fun _ _ _ _ _ hb=>⟨_,_,_,hb.u h,fun _ _ h=>h⟩⟩
theorem JF.su{hi:Nat}{w:M}(h:dX hi w w')(hl:lo<=hi):JF lo hi w w':=
 ⟨h.bel.mono hl,fun k _ _ hk _ _ hb=>(h.bel.block k hk).trans hb,fun k _ _ _ hk hb=>⟨_,_,_,(h.bel.block k hk).trans hb,fun _ _ h=>h⟩⟩
theorem Ex.low'{hi:Nat}{w:M}(h:Ex lo hi w w')(hl:lo<=hi)(hh:hi<=w.heap.size):Ir lo w w':=
 (h.EZ8 hh).u hl
theorem JF.wu{hi h2:Nat}{w:M}(h:Ex lo h2 w w')(hl:lo<=hi)(hh:hi<=h2)(hs:h2<=w.heap.size):JF lo hi w w':=
 ⟨h.low' D hs,fun k _ _ hk hm _ hb=>h.old hb hm D,fun k _ _ _ hk hb=>⟨_,_,_,h.old hb Eb D,fun _ _ h=>h⟩⟩
theorem Ex.obj{hi:Nat}{w:M}(h:Ex lo hi w w'){k:Nat}{o:Obj}(hk:k<hi)(ho:w.heap[k]?=X o)(hc:o.isCells=V):w'.heap[k]?=X o:=by refine(h.low k hk (J4.1 ho).1 fun c T p hp=> ?_).trans ho;rw[ho] at hp;injection hp with hp;subst hp;cases hc
def bY(lo:Nat)(gs:Nat)(r:List Int)(W:M):Prop:= ∃(A:Option Ev) (c:Nat),H W gs #[EJ A r.length c] 122/\Own W lo A c r
def mcV(gc s1 s2 s3:Nat):Array G:= #[Y (X ⟨gc,0,Z⟩),E I 0,Y (X ⟨s1,0,Z⟩),Y (X ⟨s2,0,Z⟩),Y (X ⟨s3,0,Z⟩)]
structure Xc where
 (gc gq gt gm s1 s2 s3:Nat)
structure JM(lo:Nat)(g:Nat->G)(a:Xc)(c:EF)(rs:Int->List Int)(W:M):Prop where
 core:I9 lo g a.gc a.gq a.gt c W
 El:H W a.gm (mcV a.gc a.s1 a.s2 a.s3) 84
 lm:lo<=a.gm
 l1:lo<=a.s1
 l2:lo<=a.s2
 l3:lo<=a.s3
 n12:a.s1≠a.s2
 n13:a.s1≠a.s3
 n23:a.s2≠a.s3
 st1:bY lo a.s1 (rs 1) W
 st2:bY lo a.s2 (rs 2) W
 pL:bY lo a.s3 (rs 3) W
 pM: ∀i,UD (rs i)/\(rs i).length<=40
theorem bY.via{r:List Int}(h:bY lo gs r W)(h1: ∀k c,H W k c 122->H W' k c 122)(h2: ∀k c,H W k c 5->H W' k c 5):bY lo gs r W':=by obtain⟨A,c,k,o⟩:=h;exact⟨A,c,h1 _ _ k,fz o h2⟩
theorem JM.via{a:Xc}(h:JM lo g a c rs W)(hb: ∀k cs S,S≠43->S≠264->S≠58->H W k cs S->H W' k cs S)(hl:Ir lo W W'):JM lo g a c rs W':=
 ⟨h.core.via (fun k cs S hS hk=>hb k cs S wv wv wv hk) hl,hb _ _ _ Eb Eb Eb h.El,h.lm,h.l1,h.l2,h.l3,h.n12,h.n13,h.n23,
  h.st1.via (fun _ _=>hb _ _ _ Eb Eb Eb) (fun _ _=>hb _ _ _ Eb Eb Eb),h.st2.via (fun _ _=>hb _ _ _ Eb Eb Eb) (fun _ _=>hb _ _ _ Eb Eb Eb),
  h.pL.via (fun _ _=>hb _ _ _ Eb Eb Eb) (fun _ _=>hb _ _ _ Eb Eb Eb),h.pM⟩
theorem EfT(h1:S≠43)(h2:S≠264)(h3:S≠58):wt.contains S=V:=by
 simp only[wt,List.contains_eq_mem,OY,Uu,or_false,decide_eq_false_iff_not];rintro(h|h|h);·exact h1 h
 ·exact h2 h
 ·exact h3 h
theorem JM.y{hi:Nat}{a:Xc}(h:JM lo g a c rs W)(hy:dX hi W W')(hl:lo<=hi):JM lo g a c rs W':=
 h.via (fun k cs S h1 h2 h3=>hy.El k cs S (EfT h1 h2 h3)) (hy.bel.mono hl)
theorem JM.u{a:Xc}(h:JM lo g a c rs W)(hb:Ek W W'):JM lo g a c rs W':=
 h.via (fun _ _ _ _ _ _ hk=>hk.u hb) (hb.mono (EB h.lm (aM h.El.lt)))
theorem JM.mut{hi:Nat}{a:Xc}(h:JM lo g a c rs W)(m:Ex lo hi W W')(C:I9 lo g a.gc a.gq a.gt c' W'):JM lo g a c' rs W':=
 ⟨C,m.El h.El Eb Eb,h.lm,h.l1,h.l2,h.l3,h.n12,h.n13,h.n23,h.st1.via (fun _ _ hk=>m.El hk Eb Eb) (fun _ _ hk=>m.El hk Eb Eb),
  h.st2.via (fun _ _ hk=>m.El hk Eb Eb) (fun _ _ hk=>m.El hk Eb Eb),h.pL.via (fun _ _ hk=>m.El hk Eb Eb) (fun _ _ hk=>m.El hk Eb Eb),h.pM⟩
def Xc.s(a:Xc)(k:Int):Nat:=if k=1 then a.s1 else if k=2 then a.s2 else a.s3
theorem JM.str{a:Xc}(h:JM lo g a c rs W)(hk:1<=k/\k<=3):bY lo (a.s k) (rs k) W/\lo<=a.s k/\W.cell? ⟨a.gm,2+(k-1).toNat,Z⟩=X (Y (X ⟨a.s k,0,Z⟩)):=by
 have hc:k=1\/k=2\/k=3:=D;have hb:=H.cell h.El;rcases hc with rfl|rfl|rfl;·exact⟨h.st1,h.l1,(hb 2).trans U⟩
 ·exact⟨h.st2,h.l2,(hb 3).trans U⟩
 ·exact⟨h.pL,h.l3,(hb 4).trans U⟩
theorem EfV{xs:List Int}(h:(nx xs).kd=0)(hb:UD xs):xs.length<=40:=by
 match xs,h,hb with
 |[],_,_=>simp
 |[_],_,_=>simp
 |[_,_],_,_=>simp
 |a::v::n::r,h,hb=>
  have hn:=hb n Ej;rw[iF] at h;by_cases h1:a≠165;·rw[if_pos h1] at h;cases h
  ·rw[if_neg h1] at h;rw[oA] at h;by_cases h2:v≠1;·rw[if_pos h2] at h;cases h
   ·rw[if_neg h2] at h;rw[show zy (n::r)=dx 1 n r from rfl] at h;unfold dx at h;by_cases h3:32<n;·rw[if_pos h3] at h;cases h
    ·rw[if_neg h3] at h;by_cases h4:(r.length:Int)<n+2;·simp only[Zw];omega
     ·rw[if_neg h4] at h;split at h<;>cases h
theorem U5.EfW{xs i r}(h:U5 xs i r):UD xs->r.length<=40:=by
 induction h with
 |wait h=>exact fun hb=>EfV h hb
 |step h t ih=>exact fun hb=>ih (hb.dr _)
theorem JM.take{a:Xc}{w2:M}(h:JM lo g a c rs W)(hk:1<=k/\k<=3)(hb:Ek W w2){r:List Int}{d:Nat}(e:W'=w2.setCell ⟨a.s k,0,Z⟩ (EJ A r.length d))(ho:Own W' lo A d r)(hr:UD r/\r.length<=40):JM lo g a c (fun s=>if s=k then r else rs s) W'/\E3 (a.s k) W W':=by
 obtain⟨⟨A0,c0,kb,o0⟩,hl,-⟩:=h.str hk;have Y9:=h.u hb;have lH:=kb.u hb;have on:E3 (a.s k) w2 W':=by rw[e];exact JS 0 _
 have keep: ∀i cs S,S≠122->H w2 i cs S->H W' i cs S:=fun i cs S hS hi=>on.El hi (E7 hi lH hS);have ks:H W' (a.s k) #[EJ A r.length d] 122:=by rw[e];exact lH.set 0 _
 have new:bY lo (a.s k) r W':=⟨A,d,ks,ho⟩;have old: ∀gs x,bY lo gs x w2->gs≠a.s k->bY lo gs x W':=fun gs x ⟨A1,c1,k1,o1⟩ hne=>⟨A1,c1,on.El k1 hne,fz o1 fun _ _=>keep _ _ _ Eb⟩;have hlo:Ir lo w2 W':=on.bel lo hl (EB Y9.lm (aM Y9.El.lt))
 have EfY: ∀i,UD ((fun s=>if s=k then r else rs s) i)/\((fun s=>if s=k then r else rs s) i).length<=40:=fun i=>by
  dsimp only;split;·exact hr
  ·exact h.pM i
 refine⟨⟨Y9.core.via (fun i cs S hS=>keep i cs S wv) hlo,keep _ _ _ Eb Y9.El,h.lm,h.l1,h.l2,h.l3,h.n12,h.n13,h.n23,?_,?_,?_,EfY⟩,(E3.EC hb).trans on⟩
 all_goals
  have hc:k=1\/k=2\/k=3:=D
  rcases hc with rfl|rfl|rfl
 ·exact new
 ·exact old _ _ Y9.st1 h.n12
 ·exact old _ _ Y9.st1 h.n13
 ·exact old _ _ Y9.st2 h.n12.symm
 ·exact new
 ·exact old _ _ Y9.st2 h.n23
 ·exact old _ _ Y9.pL h.n13.symm
 ·exact old _ _ Y9.pL h.n23.symm
 ·exact new
end Go.Proofs.YtclmichaaiohjaaGreatDoor
