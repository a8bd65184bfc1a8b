import Derived.WalkKit
import Derived.WalkSpells
import Derived.WalkLawsBesides
import Derived.Lib.Hide
import Derived.ProofKit
import Derived.OpenShut
import Derived.ChangeOld
import Derived.Below
import Derived.Deep.QuietTactic
import Derived.RegionTactic
import Derived.BigRegion
import Derived.BigQuiet
import Derived.Deep.RegionWith
import Derived.Laws.Rows
import Derived.Laws.Tables
import Derived.Laws.CopyOwn
import Derived.Deep.WholeRow
import Derived.KernelRfl
import Derived.Orders
import Derived.Deep.Quiet
import Derived.Deep.MidRow
import Derived.Test.YtclmichaaiohjaaGreatDoorProg
set_option maxRecDepth 100000
set_option linter.unusedVariables false
set_option linter.unusedSimpArgs false
set_option maxHeartbeats 6400000
namespace Go.Proofs.YtclmichaaiohjaaGreatDoor
open RowKit
open _root_.Array renaming replicate->b_,getElem?_eq_some_iff->J3
open Bool renaming true->EJ,false->EI,and_eq_true->Oj,false_eq_true->kL
open Go renaming World->M,Value->Y,Addr->Ep,bodyPost_ret->ET,results->UA,execOp->Ig,wpList->Ib,undef->I6,getD_set_ne->aq,mem_ready->ZR,info_parts->au,below_setRow->EY,wp_loop_rounds->Uk,rounds_succ->Il,results_none->UQ,run_underlying->go,wpList_store_mid->Ux
open Act renaming put->Ih
open Builtin renaming append_->ZX
open Ending renaming returned->Ei
open Instr renaming loadAt->gJ,sureAddr->dp
open IntKind renaming wrap->pE,bits->kh,signed->ki,i64->I
open Lib renaming hid->J
open Obj renaming cells->Eb
open Oper renaming wp->dn
open Go.Proofs.Tryz renaming underlying23->aJ,func156->lX,ntmps156->lZ,func160->iz,ntmps160->iA,func138->ly,ntmps138->lA
open Result renaming andThen_ok->OM
open RowKit renaming Below->Ij,Hid->Ed,intOf->In
open RowKit.Below renaming refl->IU,heap_setCell->XK,alloc->J6,setCell->J7,size->XE
open Sem renaming run_bind->OH,run_pure->Oi
open Value renaming bool->Ec,int->E,agg->Ea,slice->G,tuple->Eu,pointer->V,oneCell'->Oc,ownBlock->np
open World renaming setCell->fZ,ownsRow_nil->cu,cell?->jC
open Int renaming le_refl->Zz
open List renaming getElem?_eq_none->bJ,eq_nil_of_length_eq_zero->ZP,getElem?_eq_getElem->JV,range->U4,getElem?_eq_some_iff->Xx,take_append_drop->iU,take_succ_cons->Is,length_take->ar,take_of_length_le->OP,getD_eq_getElem?_getD->OE,getElem?_append_left->Z_,map_cons->UB,map_nil->Xn,take_zero->Iq,getElem?_toArray->J2,setIfInBounds_toArray->Ik,length_append->IY,length_cons->Zn,append_assoc->U7,set_cons_succ->Ic,set_cons_zero->If,map_append->ik,drop_succ_cons->IT,drop_zero->IM,append_nil->dy,length_nil->jP
open List.Perm renaming refl->bC
open Nat renaming le_trans->Ew,le_refl->E3,zero_add->Ox,add_assoc->jx,le_of_eq->OC
open Ne renaming symm->XA
open Option renaming some->D,none->Z,map_some->kj
variable{p:Prop}
theorem U(h:p:=by omega):p:=h
theorem Ef(h:p:=by kernel_rfl):p:=h
theorem EU(h:p:=by decide):p:=h
theorem by3(h:p:=by subst hW;repeat (first|exact H.new _ _ _|exact H.new' _ _ _ (by simp)|refine H.alloc ?_ _)):p:=h
theorem Ez(h:p:=by simp[go_sem]):p:=h
theorem by5(h:p:=by(repeat (first|exact IU _ _|(refine J6 ?_ (by simp<;>omega) _)|(refine J7 ?_ (by simp<;>omega) _)))):p:=h
theorem Ej(h:p:=by simp):p:=h
theorem by7(h:p:=by subst hW;(repeat (first|exact IU _ _|(refine J6 ?_ (by simp<;>omega) _)|(refine J7 ?_ (by simp<;>omega) _)))):p:=h
theorem by8(h:p:=by rw[show(⟨gb,0,Z⟩:Ep).add j=⟨gb,j,Z⟩ from by unfold Addr.add;split<;>simp_all];rw[H.cell KB.out,J2];exact hu):p:=h
theorem U9(h:p:=by with_unfolding_all (simp[Oc])):p:=h
theorem XP(h:p:=by with_unfolding_all (rw[Ob,gU])):p:=h
theorem Jb(h:p:=by simp[In];omega):p:=h
theorem IF(h:p:=by simp<;>omega):p:=h
theorem U3(h:p:=by unfold Addr.add;split<;>simp_all):p:=h
theorem Em6(h:p:=by rw[show(⟨gb,0,Z⟩:Ep).add j=⟨gb,j,Z⟩ from by unfold Addr.add;split<;>simp_all];rw[H.cell KI.out,J2];exact hu):p:=h
theorem JQ(h:p:=by have:=HL.out;omega):p:=h
theorem J8(h:p:=by unfold maxLen;omega):p:=h
theorem J_(h:p:=by have:=HN.out;omega):p:=h
theorem aU(h:p:=by unfold cF Zr U_;simp;try omega):p:=h
theorem X1(h:p:=by rw[E2];simp[Oc]):p:=h
theorem I8(h:p:=by simp;omega):p:=h
theorem aZ(h:p:=by intro e;subst e;revert hS;decide):p:=h
theorem am(h:p:=by unfold Ig;simp[go_sem,h]):p:=h
theorem NZ(h:p:=by have:=H.new (w.alloc (Eb #[E I 0,E I 0,E I 0,G Z 0 0] 101)) #[E I 0,E I 0,E I 0,G Z 0 0] 101;simpa using this):p:=h
theorem oI(h:p:=by have:=S1.out.dO;have:=S1.out.gT;have:=MM.out.size;omega):p:=h
theorem Ov(h:p:=by simpa using h):p:=h
theorem UT(h:p:=by simp only;omega):p:=h
theorem UW(h:p:=by simp[go_sem,d0]):p:=h
theorem jI(h:p:=by have:=LT.out;have:=u.out.size;omega):p:=h
theorem XZ(h:p:=by simp[go_sem,d1]):p:=h
theorem Em7(h:p:=by rw[hv1];exact X_ K 1 (by omega) (by omega)):p:=h
theorem U5(h:p:=by simpa using hi):p:=h
theorem qK(h:p:=by obtain⟨b,h1,h2,h3⟩:=h;exact⟨b,h1,h2,H.B h3 hr⟩):p:=h
theorem D4(h:p:=by have:=HL.out;have:=MY.out;have:=D2.out;have:=mg.out;simp only[IY];omega):p:=h
theorem jE(h:p:=by have:=LT.out;have:=Xq.out;omega):p:=h
theorem oB(h:p:=by with_unfolding_all (first|rfl|exact oA.out)):p:=h
theorem XQ(h:p:=by simp[go_sem,d4]):p:=h
theorem bB(h:p:=by simp[Oc]):p:=h
theorem bG(h:p:=by have:=LK.out;omega):p:=h
theorem ai(h:p:=by subst hr;exact h):p:=h
theorem UP(h:p:=by simp[Ub]):p:=h
theorem Em8(h:p:=by rw[pV _ _ _ _ (by simp[UU]),UU]):p:=h
theorem qt(h:p:=by obtain⟨_,_,KQ,-,-⟩:=Q;have:=KQ.lt;omega):p:=h
theorem co(h:p:=by simp[go_sem,d2,cc]):p:=h
theorem cH(h:p:=by simp[UR,qa,qb,qc]):p:=h
theorem sL(h:p:=by with_unfolding_all (rw[Gq,gU])):p:=h
theorem gP(h:p:=by simp[EN.v,Xz.v,Pt.v]):p:=h
theorem XG(h:p:=by rw[E2];rfl):p:=h
theorem Em9(h:p:=by rw[hsm.out];exact S1.out.core.cell 7 rfl 0 (by simp)):p:=h
theorem Dt(h:p:=by obtain⟨b,rv,h1,h2,h3,h4⟩:=h;exact⟨b,rv,h1,h2,h3,H.B h4 hr⟩):p:=h
theorem XW(h:p:=by simp[EN.v]):p:=h
theorem oQ(h:p:=by rcases hS with rfl|rfl<;>decide):p:=h
theorem D3(h:p:=by have:=HN.out;have:=jT.out;have:=qH.out;have:=mg.out;omega):p:=h
theorem ct(h:p:=by simp[go_sem,d3]):p:=h
theorem nX(h:p:=by cases d<;>first|rfl|cases hd):p:=h
theorem dS(h:p:=by simp[go_sem,d11]):p:=h
theorem RM(h:p:=by rw[List.take_succ_eq_append_getElem hil,List.flatten_append,List.flatten_cons,List.flatten_nil,dy]):p:=h
theorem Zs(h:p:=by simp[In]):p:=h
theorem Em_(h:p:=by rw[dZ.out];exact .inr (.inr ⟨O,h4,by show e<65535;omega,4,by omega,by omega,fun e4=>h4 e4.symm,Dh.out.2⟩)):p:=h
theorem uw(h:p:=by simp (disch:=omega) only[dk,z0]):p:=h
theorem dD(h:p:=by simp[go_sem,d5]):p:=h
theorem dP(h:p:=by simpa using hcd):p:=h
theorem mR(h:p:=by rw[ar];omega):p:=h
theorem fF(h:p:=by simp[go_sem,d10]):p:=h
theorem xJ(h:p:=by have:=HR.out.symm.trans hc;injection this):p:=h
theorem EEd(h:p:=by have:=MY.out;have:=D2.out;have:=mg.out;have:=Ehi mj.out;simp only[IY];omega):p:=h
theorem pR(h:p:=by simp[go_sem,d3,d7,IG,E5]):p:=h
theorem Df(h:p:=by have:=gL.out.e.1;show _<=e;simp only at this;omega):p:=h
theorem UL(h:p:=by cases h):p:=h
theorem Ds(h:p:=by rw[hPQ] at h;obtain⟨t2,-,h2,h3,-⟩:=h;exact⟨h2,h3⟩):p:=h
theorem t_(h:p:=by rw[dy];exact S1.out):p:=h
theorem EnE(h:p:=by have:=(H.cell kb i).trans (by simpa using hi);simpa using this):p:=h
theorem EnI(h:p:=by rw[OE,OE,Z_ (by omega)]):p:=h
theorem fS(h:p:=by simp[EN.end_]):p:=h
theorem kV(h:p:=by rw[HN.out];exact hlt):p:=h
theorem gG(h:p:=by simp[go_sem,d8]):p:=h
theorem EEf(h:p:=by obtain⟨x,hx,h2⟩:=HWW.out h;exact⟨x,List.mem_append_left _ (List.mem_append_left _ hx),h2⟩):p:=h
theorem MQ(h:p:=by have h:=IH;unfold EN.a at h;injection h with h;rw[<-h];rfl):p:=h
theorem rS(h:p:=by simp only[size_put];omega):p:=h
theorem G1(h:p:=by rw[hl,hcs,<-Nat.add_mul];exact Nat.mul_le_mul_right _ hroom):p:=h
theorem Mj(h:p:=by have h:=O8 0 _ O;rw[JC] at h;exact h.trans Mi.out):p:=h
theorem iw(h:p:=by simp[go_sem,d7]):p:=h
theorem mn(h:p:=by rw[E2];kernel_rfl):p:=h
theorem Di(h:p:=by obtain⟨cd,e,hk⟩:=h;exact⟨cd,e,hk.rel hr⟩):p:=h
theorem wR(h:p:=by have:=HN.out;have:=jS.out;omega):p:=h
theorem zJ(h:p:=by unfold Ig;simp[go_sem,h1,h2]):p:=h
theorem EnJ(h:p:=by cases e<;>first|exact he|exact he.elim|exact(by obtain⟨_,_,h⟩:=he;exact h.elim)):p:=h
theorem GH(h:p:=by simp[pE,kh,ki];omega):p:=h
theorem pW(h:p:=by simp[UU,gU]):p:=h
theorem EIH(h:p:=by obtain⟨gc,gt,h1,h2,h3,h4,h5⟩:=h;exact⟨gc,gt,h1,h2,h3,h4.B hr,h5.B hr⟩):p:=h
theorem G0(h:p:=by have hb:=hbytes;simp only[Ox] at hb;omega):p:=h
theorem v_(h:p:=by rw[HN.out];exact E3 _):p:=h
theorem AJ(h:p:=by rw[hr];exact gj _ _ _ _ _ _ _ _):p:=h
theorem LS(h:p:=by simp only[Zn,jP];omega):p:=h
theorem zu(h:p:=by simp[UA,Tryz.results173,go_sem]):p:=h
theorem z_(h:p:=by simp[UA,Tryz.results140,go_sem]):p:=h
theorem EnO(h:p:=by rw[dZ.out];exact .inl ⟨O,0,0,by omega,by omega,by omega,by omega,O⟩):p:=h
theorem oH(h:p:=by simp[go_sem,d1,cc]):p:=h
theorem WI(h:p:=by have:=E2;unfold EN.a at this;injection this with this;exact this.symm):p:=h
theorem Ww(h:p:=by have:=IH;unfold EN.a at this;injection this with this;exact this.symm):p:=h
theorem EnU(h:p:=by rw[hsm.out];exact(S1.out.B (EQ y)).core.cell 7 rfl 0 (by simp)):p:=h
theorem ju(h:p:=by simp[go_sem,e]):p:=h
theorem kU(h:p:=by rw[HX.out];rfl):p:=h
theorem kX(h:p:=by rw[HY.out];rfl):p:=h
theorem Pp(h:p:=by rw[<-ZM.out];rw[<-ZM.out] at KF;exact KF.out):p:=h
theorem EnX(h:p:=by rw[dZ.out];exact .inr (.inr ⟨O,h4,by show e<65535;omega,pL.out⟩)):p:=h
theorem GV(h:p:=by intro Y3 hu;simp at hu;obtain⟨a,_,rfl⟩:=hu;rfl):p:=h
theorem yp(h:p:=by rintro rfl;revert hS;decide):p:=h
theorem yq(h:p:=by rintro⟨_,_,⟨_,h⟩,_⟩;cases h):p:=h
theorem qL(h:p:=by have:=oJ.out;omega):p:=h
theorem Bi(h:p:=by rw[ar,pK];rfl):p:=h
theorem tc(h:p:=by have:=h.lo2;simp;omega):p:=h
theorem gR(h:p:=by rw[Oq.out]):p:=h
theorem Hg(h:p:=by with_unfolding_all (rw[Gq,HS.out.1])):p:=h
theorem zF(h:p:=by rw[ar] at hj;omega):p:=h
theorem kw(h:p:=by simpa using hp):p:=h
theorem kH(h:p:=by simpa using hq):p:=h
theorem S_(h:p:=by rw[<-BY.out,List.getElem?_map,JV hil];rfl):p:=h
theorem ub(h:p:=by rintro⟨_,_,h⟩;exact h):p:=h
theorem NF(h:p:=by obtain⟨b,h1,h2⟩:=h;exact⟨b,h1,h2.B hr⟩):p:=h
theorem Y1(h:p:=by have:=HL.out;have:=ou.out;simp only[IY];omega):p:=h
theorem FR(h:p:=by rw[HGP.out];exact E3 _):p:=h
theorem EEc(h:p:=by have:=jT.out;have:=qH.out;have:=HM4.out;have:=mg.out;omega):p:=h
theorem EE8(h:p:=by have:=H.new (w.alloc (Eb cv 48)) zt 43;simpa using this):p:=h
theorem Ht(h:p:=by with_unfolding_all (rw[Ob,T8.out])):p:=h
theorem Hw(h:p:=by with_unfolding_all (rw[Ob,HC.out])):p:=h
theorem Hx(h:p:=by with_unfolding_all (rw[Ob,TL.out])):p:=h
theorem Da(h:p:=by injection e with e;injection e):p:=h
theorem YC(h:p:=by have:=HN.out;have:=HM.out;have:=jT.out;have:=rZ.out;omega):p:=h
theorem EnZ(h:p:=by rw[hall j hj,decide_eq_true (by omega)]):p:=h
theorem my(h:p:=by simp[c0,I_]):p:=h
theorem zL(h:p:=by rw[hi,Array.length_toList,hn]):p:=h
theorem Dq(h:p:=by rw[hPQ];exact⟨t2,h1,h2,h3,h4⟩):p:=h
theorem EEN(h:p:=by have:=r_ (lf HR.out 1) (k+2);simpa using this):p:=h
theorem Fx(h:p:=by subst hb;exact IU _ _):p:=h
theorem tF(h:p:=by have:=jS.out;omega):p:=h
theorem Pi(h:p:=by simp (disch:=omega) only[dk,A.t2]):p:=h
theorem Pj(h:p:=by simp (disch:=omega) only[dk,A.t3]):p:=h
theorem Wb(h:p:=by have h1:=bH.out;have h2:=wz.out;have h3:=LK.out;omega):p:=h
theorem EEL(h:p:=by match i with|0=>rfl|1=>rfl|2=>rfl|3=>rfl|4=>rfl|_+5=>rfl):p:=h
theorem jJ(h:p:=by rw[hk];rfl):p:=h
theorem ja(h:p:=by simp[Zr]):p:=h
theorem jb(h:p:=by simp[U_]):p:=h
theorem Gw(h:p:=by simp[UA,Tryz.results148,go_sem]):p:=h
theorem GK(h:p:=by simp[UA,Tryz.results146,go_sem]):p:=h
theorem GL(h:p:=by simp[UA,Tryz.results150,go_sem]):p:=h
theorem GM(h:p:=by simp[UA,Tryz.results180,go_sem]):p:=h
theorem QT(h:p:=by subst hw;exact(IU _ _).alloc (E3 _) _):p:=h
theorem Sc(h:p:=by have:=u9 g T ((i:Int)+1) W hW h;rwa [hof] at this):p:=h
theorem Do(h:p:=by have:=S.core.ok.tok.e;omega):p:=h
theorem EEQ(h:p:=by have:=r_ (lf HR.out 3) k;simpa using this):p:=h
theorem pP(h:p:=by simp[go_sem,d6]):p:=h
theorem Na(h:p:=by simp[UA,Tryz.results83,go_sem]):p:=h
theorem yg(h:p:=by rw[dh,if_pos h5]):p:=h
theorem Sv(h:p:=by rw[Ka,hk.cell j,J2];exact hu):p:=h
theorem Yz(h:p:=by have h2:=DT.2.1;unfold U_ at h2;simp at h2;omega):p:=h
theorem gE(h:p:=by simp[c0]):p:=h
theorem Ena(h:p:=by simpa only[hq 25 (by simp),hq 28 (by simp)] using h):p:=h
theorem EI4(h:p:=by obtain⟨i,z,h1,h2,h3,-⟩:=EI0;exact⟨i,z,h1,h2,h3⟩):p:=h
theorem Db(h:p:=by with_unfolding_all (simp)):p:=h
theorem EIG(h:p:=by obtain⟨gt,h1,h2,h3⟩:=h;exact⟨gt,h1,h2,h3.B hr⟩):p:=h
theorem iO(h:p:=by rw[hi,hn]):p:=h
theorem Kc(h:p:=by simp[go_sem,d3,d7,d11,IG,E5]):p:=h
theorem Po(h:p:=by rw[ZM];simp[mG,Oc]):p:=h
theorem pX(h:p:=by simpa using hs):p:=h
theorem sE(h:p:=by simp at hi;omega):p:=h
theorem sy(h:p:=by rw[HN.out];omega):p:=h
theorem tZ(h:p:=by rw[UU];omega):p:=h
theorem L7(h:p:=by subst hW;exact Er w2 _):p:=h
theorem L8(h:p:=by subst hW;exact Er w4 _):p:=h
theorem Md(h:p:=by have:=HN.out;have:=oJ.out;omega):p:=h
theorem Enb(h:p:=by rw[hv2];exact X_ K 2 (by omega) (by omega)):p:=h
theorem Fb(h:p:=by rw[kI];exact EiT):p:=h
theorem xY(h:p:=by have:=Z5.out;omega):p:=h
theorem Qx(h:p:=by rw[<-hn];exact(Xx.1 hi).1):p:=h
theorem Qy(h:p:=by rw[<-hn];exact(Xx.1 hj).1):p:=h
theorem Vm(h:p:=by obtain⟨A,c,e,ho⟩:=h;exact⟨A,c,e,EG ho hr⟩):p:=h
theorem EEZ(h:p:=by rw[IY];have:=D2.out;simp;omega):p:=h
theorem LB(h:p:=by subst hW;exact Er w _):p:=h
theorem P8(h:p:=by have:=(Xx.1 hk).1;omega):p:=h
theorem Af(h:p:=by unfold FD.set;rw[h];rfl):p:=h
theorem Ah(h:p:=by unfold FD.box;rw[h];rfl):p:=h
theorem RV(h:p:=by rw[<-List.flatten_append,iU]):p:=h
theorem R4(h:p:=by rw[HST.out,IY,BO.out,nA.out]):p:=h
theorem YF(h:p:=by have:=HM.out;have:=jT.out;have:=rZ.out;omega):p:=h
theorem F1(h:p:=by rw[JX.ut];omega):p:=h
theorem GW(h:p:=by simp only[maxLen] at h63;omega):p:=h
theorem sS(h:p:=by simp[go_sem,d9]):p:=h
theorem wy(h:p:=by have:=HB.out;omega):p:=h
theorem WX(h:p:=by rw[dZ.out];exact .inr (.inl ⟨O,h4,he,O⟩)):p:=h
theorem wY(h:p:=by simp[go_sem,d9,cc]):p:=h
theorem uh(h:p:=by rw[E2.out];rfl):p:=h
theorem Ng(h:p:=by simpa[np] using e2):p:=h
theorem EJC(h:p:=by rw[E2];exact rh _ _ _ _ O HD.out.1):p:=h
theorem ij(h:p:=by simp[h4]):p:=h
theorem Rx(h:p:=by with_unfolding_all (rw[Ob,sK])):p:=h
theorem Vr(h:p:=by rw[<-Vp,List.take_append_getElem hil]):p:=h
theorem Fk(h:p:=by first|rfl|(rw[t1];rfl)):p:=h
theorem Enc(h:p:=by rw[dh,if_neg (by omega)]):p:=h
theorem Yc(h:p:=by unfold Uz;rw[ik];exact U0):p:=h
theorem Aw(h:p:=by have:=HS.out.lo;omega):p:=h
theorem tH(h:p:=by simp[EN.pass]):p:=h
theorem DW(h:p:=by rw[af.out];exact hlt):p:=h
theorem EIk(h:p:=by rw[rh _ _ _ _ O HX3.out.1];omega):p:=h
theorem EJN(h:p:=by rw[NX.out];simp only[Gc,q4,Bool.false_or]):p:=h
theorem Ws(h:p:=by have h:=ZL W q;rw[Uq,hpv] at h;exact h):p:=h
theorem EJA(h:p:=by have:=MM.out.lm;have:=MM.out.Ek.lt;omega):p:=h
theorem kW(h:p:=by simp[EL]):p:=h
theorem ng(h:p:=by rw[he];rfl):p:=h
theorem Rp(h:p:=by with_unfolding_all (rw[Ob,HL.out])):p:=h
theorem SU(h:p:=by with_unfolding_all (rw[Ob,KL.out])):p:=h
theorem SX(h:p:=by with_unfolding_all (rw[Ob,AL.out])):p:=h
theorem Bu(h:p:=by rw[HN.out];exact hin):p:=h
theorem Tt(h:p:=by with_unfolding_all (rw[Ob,PL.out])):p:=h
theorem Tu(h:p:=by with_unfolding_all (rw[Ob,RL.out])):p:=h
theorem Wa(h:p:=by have h1:=bH.out;have h2:=wz.out;omega):p:=h
theorem wK(h:p:=by simp[go_sem,d13]):p:=h
theorem xE(h:p:=by simp[go_sem,d15]):p:=h
theorem xI(h:p:=by simp[go_sem,d17]):p:=h
theorem oO(h:p:=by simp[I_]):p:=h
theorem EEu(h:p:=by cases e<;>first|exact ih _ _ he|exact he):p:=h
theorem GF(h:p:=by simp[One.v,Oc]):p:=h
theorem Ti(h:p:=by simp[EK.pi h i,OV,(h.E4 i).len]):p:=h
theorem Ym(h:p:=by simp[i7,g_,a0,b0,a1,b1,a2,b2,a3,b3]):p:=h
theorem Nu(h:p:=by rw[hr.out,AT.out.2 hp];rfl):p:=h
theorem Vl(h:p:=by obtain⟨b,e,hk⟩:=h;exact⟨b,e,hr _ _ hk⟩):p:=h
theorem Du(h:p:=by simp[go_sem,d12,cc]):p:=h
theorem Dx(h:p:=by simp[go_sem,d19,cc]):p:=h
theorem EJG(h:p:=by have:=AL.out.len s S1.out S3.out;omega):p:=h
theorem LV(h:p:=by rw[hp.length_eq];exact k2):p:=h
theorem WU(h:p:=by have:=HB.out;unfold sat;split<;>omega):p:=h
theorem Wo(h:p:=by have h:=ZL W q;rw[Uq] at h;exact h):p:=h
theorem WT(h:p:=by rw[List.eq_of_mem_replicate hx];omega):p:=h
theorem zD(h:p:=by simpa[h5] using h3):p:=h
theorem QA(h:p:=by rw[cU,ar];omega):p:=h
theorem QD(h:p:=by simp[UA,Tryz.results104,go_sem]):p:=h
theorem Ak(h:p:=by rw[<-hw];exact Aj):p:=h
theorem tX(h:p:=by simp[UU]):p:=h
theorem Cl(h:p:=by have:=h3.2 h;omega):p:=h
theorem td(h:p:=by simp[HN.out]):p:=h
theorem VM(h:p:=by subst h2;exact⟨h1,KO,IU _ _⟩):p:=h
theorem Dg(h:p:=by show e<65535;omega):p:=h
theorem Dj(h:p:=by simp[go_sem,d6,cc]):p:=h
theorem Dm(h:p:=by simp[Pt.hold,I_]):p:=h
theorem Dp(h:p:=by simp[go_sem,d8,cc]):p:=h
theorem EEs(h:p:=by rcases hF with rfl|⟨l,rfl⟩<;>trivial):p:=h
theorem EEM(h:p:=by simp[UA,Tryz.results117,go_sem]):p:=h
theorem EI1(h:p:=by have:=u.out.size;have:=HN.out;omega):p:=h
theorem PU(h:p:=by rw[hzs];exact FY):p:=h
theorem QH(h:p:=by simp only[IY];omega):p:=h
theorem EE1(h:p:=by rcases hS with rfl|rfl|rfl<;>decide):p:=h
theorem EI3(h:p:=by have:=da.out;have:=K1.out.lt;omega):p:=h
theorem G5(h:p:=by unfold FD.get;rw[h];rfl):p:=h
theorem z5(h:p:=by simp[One.v];omega):p:=h
theorem Cz(h:p:=by simp[Rec.v];omega):p:=h
theorem Dc(h:p:=by have:=hb.lt;omega):p:=h
theorem YD(h:p:=by have:=jT.out;have:=xw.out;omega):p:=h
theorem EEX(h:p:=by have:=qH.out;have:=xw.out;omega):p:=h
theorem Lc(h:p:=by rw[Ob,gU]):p:=h
theorem Vb(h:p:=by unfold bA pn;rw[p0,p1,p2,p3,p4]):p:=h
theorem EJB(h:p:=by have:=M7.lm;have:=M7.Ek.lt;omega):p:=h
theorem EJM(h:p:=by have:=Pv.out;have:=zi.out;omega):p:=h
theorem Ss(h:p:=by simp only[jP];omega):p:=h
theorem VQ(h:p:=by subst hW;exact Er wr _):p:=h
theorem WZ(h:p:=by subst hW;exact Er w7 _):p:=h
theorem Wl(h:p:=by subst hW;exact Er w6 _):p:=h
theorem Enf(h:p:=by rw[hq 14 (by simp)] at h;exact h):p:=h
theorem Dy(h:p:=by simp[go_sem,e25]):p:=h
theorem Eng(h:p:=by rw[hq 31 (by simp)] at h;exact h):p:=h
theorem Dz(h:p:=by simp[go_sem,d20]):p:=h
theorem EE3(h:p:=by rintro rfl;rw[hS] at hT;cases hT):p:=h
theorem EIl(h:p:=by unfold maxLen;have:=NN.out;omega):p:=h
theorem pj(h:p:=by simp[OV]):p:=h
theorem Enh(h:p:=by rw[e _ (by omega)];exact h.kY):p:=h
theorem Sw(h:p:=by rw[IY];exact h2):p:=h
theorem VR(h:p:=by rw[dM.out];exact E3 _):p:=h
theorem YB(h:p:=by rw[<-HE.out.1];exact HT2.out.2.2):p:=h
theorem YG(h:p:=by rw[<-jx];exact S8.out):p:=h
theorem EJD(h:p:=by rw[TV.out];exact EkQ _ _ _ _):p:=h
theorem Hi(h:p:=by rw[HM.out];exact hlt):p:=h
theorem Eni(h:p:=by rw[Kl,if_pos (by omega)]):p:=h
theorem MS(h:p:=by rw[hn];exact oq.out):p:=h
theorem EEt(h:p:=by obtain⟨_,_,h⟩:=he;exact h.elim):p:=h
theorem Nj(h:p:=by simpa[Jh] using K):p:=h
theorem GU(h:p:=by simp[zO,I_]):p:=h
theorem Gv(h:p:=by simp[fZ]):p:=h
theorem Ml(h:p:=by simp[go_sem,d16,cc]):p:=h
theorem Mn(h:p:=by simp[go_sem,d22,cc]):p:=h
theorem N0(h:p:=by simp[c0,GA,I_]):p:=h
theorem zy(h:p:=by simpa using ho):p:=h
theorem zW(h:p:=by simpa using hc):p:=h
theorem AZ(h:p:=by simpa using hn):p:=h
theorem Rr(h:p:=by rw[<-hW];unfold XX;omega):p:=h
theorem Dv(h:p:=by simpa using nn):p:=h
theorem rX(h:p:=by simp[h0]):p:=h
theorem sU(h:p:=by simp at h):p:=h
theorem Qd(h:p:=by rcases v with _|⟨h,s⟩<;>rfl):p:=h
theorem GY(h:p:=by simpa using hown.1):p:=h
theorem Hf(h:p:=by rw[HS.out.1];omega):p:=h
theorem LU(h:p:=by simp[go_sem,d4,cc]):p:=h
theorem M9(h:p:=by have:=LW.out;omega):p:=h
theorem NG(h:p:=by simp[go_sem,d0,cc]):p:=h
theorem NH(h:p:=by simp[go_sem,e1,e2]):p:=h
theorem P9(h:p:=by subst he;exact⟨v,O,hb,h⟩):p:=h
theorem FW(h:p:=by simp[c0,iC]):p:=h
theorem uB(h:p:=by simp at hx):p:=h
theorem uS(h:p:=by rw[hr];rfl):p:=h
theorem wT(h:p:=by simp[Pt.v]):p:=h
theorem yf(h:p:=by rw[h5];rfl):p:=h
theorem GT(h:p:=by simpa using hown):p:=h
theorem Ac(h:p:=by injection hv):p:=h
theorem Hd(h:p:=by rw[HL.out];omega):p:=h
theorem Hj(h:p:=by rw[HM.out];omega):p:=h
theorem LH(h:p:=by have:=K.lt;omega):p:=h
theorem tA(h:p:=by simp[h1]):p:=h
theorem MO(h:p:=by simp[go_sem,e11]):p:=h
theorem Mf(h:p:=by simp[go_sem,e15]):p:=h
theorem Mk(h:p:=by simp[go_sem,d14]):p:=h
theorem Mm(h:p:=by simp[go_sem,d18]):p:=h
theorem Mp(h:p:=by simp[go_sem,d28]):p:=h
theorem My(h:p:=by simp[go_sem,d26]):p:=h
theorem uf(h:p:=by simp[h5]):p:=h
theorem FJ(h:p:=by rw[<-rq.out]):p:=h
theorem Gp(h:p:=by simpa using hmn):p:=h
theorem Lx(h:p:=by simp[go_sem,d2]):p:=h
theorem Ma(h:p:=by rw[he];exact hk):p:=h
theorem xQ(h:p:=by rw[e];rfl):p:=h
theorem Nt(h:p:=by rw[AT.out.1,hp]):p:=h
theorem AU(h:p:=by rw[h2];simp):p:=h
theorem CU(h:p:=by simp[JF.v]):p:=h
theorem Dd(h:p:=by rw[Up.out]):p:=h
theorem Fc(h:p:=by rw[kI];rfl):p:=h
theorem Ad(h:p:=by assumption):p:=h
theorem u5(h:p:=by simp[hx]):p:=h
theorem xc(h:p:=by simp[h]):p:=h
theorem ig(h:p:=by rfl):p:=h
theorem Eo{α}(a:α):∃b,b=a:=⟨a,rfl⟩
theorem JK{α}(a:α):∃b,a=b:=⟨a,rfl⟩
@[reducible]def El(w w':M):Prop:=Ij w.heap.size w w'
theorem O{α:Sort _}{a:α}:a=a:=rfl
theorem IJ[Decidable p](h:p):decide p=true:=decide_eq_true h
theorem IZ[Decidable p](h:¬p):decide p=false:=decide_eq_false h
theorem Enj(h:p:=by go_wp2_with (with_reducible refine wA gu (Ex.mk ?_));apply Es;have K2:=J<|H.new w JA 298;have u:=J<|Er w (Eb JA 298);have l1:w.heap.size<(w.alloc (Eb JA 298)).heap.size:=Ej;generalize w.alloc (Eb JA 298)=w1 at*;go_wp2_with fail;refine(CN.out _).mono ?_;rintro e w2 ⟨v,rfl,⟨gb,rfl,lb,kb⟩,b2⟩;replace K2:=J<|K2.out.B b2;replace u:=EV u b2;have O1:=J<|im d gb;have O0:Ed ((IG d gb).size=5):=J O;have HB:Ed (∀W:M,Za W d gm gb->FV W w.heap.size gm d (Ea (IG d gb))):=J fun W h=>⟨gb,O,U,h⟩;generalize IG d gb=fv at*;clear b2 CN;go_wp2_with (with_reducible refine wS (cs:=fv) XB K2 ?_ (hn:=O0.out) (h1:=O1.out));refine ET (v:=Ea fv) (Jd XB O _ _ (w.heap.size) _ O (K2.out.setRow _) O0.out) O ⟨_,O,HB.out _ (H.setRow_other kb _ _ U),EY u.out U _⟩):p:=h
theorem Enk(h:p:=by rw[<-E2];have oA:=TS;clear TS TO Oq;have TS:Ed (Iy.size=4):=J XG;have TO:Ed (Iy.all (·.oneCell')=EJ):=J X1;have Oq:=J E2;clear E2;have OW:=J<|XL W2 w.heap.size;go_wp2_with (with_reducible refine wS (cs:=Iy) I2 K3 (Ex.mk ?_) (ho:=oB) (hn:=TS.out) (h1:=TO.out));apply Es;have hne:w.heap.size≠(w.heap.size+1):=U;replace OW:=J<|Zh OW.out K3.out Iy;replace Jc:=J<|EY Jc.out (U:w.heap.size<=(w.heap.size+1)) Iy;replace K2:=J<|(J9 Iy).Ek K2.out hne;replace K3:=J<|K3.out.setRow Iy;clear hne;generalize W2.setRow (w.heap.size+1) Iy=V2 at*;go_wp2_with (with_reducible first|refine wL I2 K3 ?_ (hn:=TS.out)|refine wS (cs:=Iy) I2 K2 ?_ (hn:=TS.out) (h1:=TO.out));refine ET (Jd I2 O _ _ w.heap.size Iy O (K2.out.setRow Iy) TS.out) O ?_;rw[Oq.out,HF.out];exact⟨⟨_,O,_,_,O,Zh OW.out K2.out _⟩,EY Jc.out (E3 _) _⟩):p:=h
theorem Enl(h:p:=by have t1':decide ((i:Int)<(n:Int))=EJ:=IJ U;obtain⟨x,hx⟩: ∃x,GQ[i]?=D x:=⟨GQ[i]'(by rw[mh.out];exact hlt),JV _⟩;obtain⟨gg,cur,rfl,ka,dY⟩:=xo OA.out hx mh.out;have KA:=J ka;have d_:=J dY;clear ka dY hx;have K0:=J<|H.new wr #[E I 0,E I 0,E I 0,E I 0] 133;have b2:=Er wr (Eb #[E I 0,E I 0,E I 0,E I 0] 133);go_wp2_with (with_reducible first|refine wM (off:=i*4) (cs:= #[E I x.s,E I x.r,E I x.a,E I x.m]) j4 KA ?_ (he:=d_.out)|refine wA xp ?_|refine wS (cs:= #[E I x.s,E I x.r,E I x.a,E I x.m]) j4 K0 (Ex.mk ?_) (h1:=U9));apply Es;obtain⟨gx,hgx⟩:=Eo wr.heap.size;rw[<-hgx] at K0⊢;generalize wr.alloc (Eb #[E I 0,E I 0,E I 0,E I 0] 133)=UH at*;have KX:=J<|K0.out.setRow #[E I x.s,E I x.r,E I x.a,E I x.m];have b3:=EY (g:=gx) b2 (OC hgx.symm) #[E I x.s,E I x.r,E I x.a,E I x.m];generalize UH.setRow gx #[E I x.s,E I x.r,E I x.a,E I x.m]=JM at*;clear K0 b2 hgx KA d_;replace S1:=J<|S1.out.B b3;replace MM:=J<|MM.out.trans (EA.ED b3);replace OA:=J<|EG OA.out fun _ _ h=>H.B h b3;clear b3;have cx:JM.cell? ⟨gx,0,Z⟩=D (E I x.s):=(H.cell KX.out 0).trans O;go_wp2_with fail;refine(ql lo hi g gc gq gt gs _ (ns+m2+m3) _ x.s x.s 30 _ S1.out D3).mono ?_;rintro e16 w16 ⟨rfl,⟨m16,i9,s16⟩,aR⟩;replace S1:=J s16;replace MM:=J<|MM.out.trans aR;replace KX:=J<|aR.Ek KX.out EU EU;replace OA:=J<|EG OA.out fun _ _ h=>aR.Ek h EU EU;have xw:=J i9;clear s16 aR i9 cx;have cx:jC _ ⟨gx,0,Z⟩=D (E I x.s):=(H.cell KX.out 0).trans O;go_wp2_with fail;refine(ZD lo hi g gc gq gt gs _ _ _ 12 x.s 0 30 0 _ S1.out D4).mono ?_;rintro e17 rf ⟨rfl,xD,rg⟩;have S8:=J xD;replace MM:=J<|MM.out.trans rg;replace OA:=J<|EG OA.out fun _ _ h=>rg.Ek h EU EU;clear xD rg cx KX;have Ehn:=mg.out;go_wp2_with fail;refine⟨⟨i+1,m3+m16,n3++[⟨12,x.s,0,t2.e,30,0⟩],U,Ej,EEX,EEZ,?_,MM.out,base,OA.out⟩,Jb⟩;rw[<-jx,<-U7,<-U7];have h:=S8.out;rw[<-U7] at h;exact h):p:=h
theorem Enm(h:p:=by refine CF.out.mono ?_;rintro x W2 ⟨rfl,b2⟩;replace K0:=J<|K0.out.B b2;replace K1:=J<|K1.out.B b2;replace K3:=J<|K3.out.B b2;replace K5:=J<|K5.out.B b2;replace u:=EV u b2;clear b2 CF;go_wp2_with (with_reducible first|refine wL EW K1 ?_|refine wS (cs:= #[E I h,E I e,E I o,E I oa,E I om,E I la,E I lm,Ec b]) EW K5 ?_ (h1:=U9));refine ET (UD EW O _ _ (w.heap.size+1+1+1+1+1) _ _ O O (K5.out.setRow _) O) O ⟨?_,EY (g:=w.heap.size+1+1+1+1+1) u.out U _⟩;rw[HE.out];rfl):p:=h
theorem Enn(h:p:=by go_wp2_with fail;refine(CF.out _).mono ?_;rintro e w1 ⟨v,rfl,⟨gb,rfl,lb,kb⟩,b1⟩;have FB:Ed (El w (w1.alloc (Eb (E5 [(Ii,gb)]).toArray 298))):=J<|b1.alloc b1.size _;have FK:Ed (Xr (w1.alloc (Eb (E5 [(Ii,gb)]).toArray 298)) w.heap.size w1.heap.size gm [(Ii,gb)]):=J (aA (H.new w1 _ 298) (fun i hi=>by have:i=0:=U5;subst this;exact⟨lb,H.alloc kb _⟩) b1.size);clear b1 c0 CF kb;unfold IG;go_wp2;go_ret2;exact⟨_,_,_,O,O,FK.out,FB.out⟩):p:=h
theorem Eno(h:p:=by simp only[Is,Iq,IT,IM,EM,Ih,Ik,Ic,If];rw[dt,e];have FK:=J<|aA kk bx lg;have FB:=EV u hb;replace m:=J m;clear hr hb dt e kk bx;go_wp2;go_ret2;exact⟨gl,_,fs,O,m.out,FK.out,FB.out⟩):p:=h
theorem Enp(h:p:=by rw[show(t5,wB).fst.a=Ea Z4 from qD];have fM:=J fM;have lN:=J lN;have MJ:=J qD;have Dh:=J h50;clear qD h50 hg;go_wp2_with (((with_reducible refine I3 109 ?_);(with_reducible refine OQ (g:=OD) (cs:=Z4) EW ?_ ?_ KB ?_ ?_ ?_ ?_);(·exact Eh O);(·exact⟨O,O,O⟩);(·exact RS.out);(·exact fM.out);(·exact lN.out);refine Ex.mk ?_));apply Es;have wC:=J<|KB.out.setRow Z4;have wD:=J<|H.setRow_other KR.out OD Z4 (XA tB.out);have wF:=J<|Q1.out.Xc Z4 KB.out EU EU;have wG:=J<|MM.out.Xd Z4 da.out lw.out KB.out EU EU;clear KB KR Q1 MM KT;have KB:=wC;have KR:=wD;have Q1:=wF;have MM:=wG;clear wC wD wF wG;generalize w9.setRow OD Z4=U8 at*;go_wp2_with (first|((with_reducible refine Xm 109 ?_);(with_reducible refine aI (g:=OD) EW ?_ ?_ KB ?_ ?_);(·exact Eh rfl);(·exact⟨rfl,rfl⟩);(·exact fM.out))|((with_reducible refine I3 109 ?_);(with_reducible refine OQ (g:=gk+1) (cs:=Z4) EW ?_ ?_ KR ?_ ?_ ?_ ?_);(·exact Eh rfl);(·exact⟨rfl,rfl,rfl⟩);(·rfl);(·exact fM.out);(·exact lN.out)));refine ET (UD EW O _ _ (gk+1) Z4 (E I 5) O O (KR.out.setRow _) fM.out) O ?_;refine⟨⟨t5,5,L',congrArg (fun v=>Ei (Eu #[v,E I 5])) MJ.out.symm,(by rw[dZ.out];exact .inr (.inr ⟨O,h4,Dg,4,U,U,fun e4=>h4 e4.symm,Dh.out.2⟩)),SQ.out,?_⟩,MM.out.Xd _ bG lw.out KR.out EU EU⟩;exact Q1.out.Xc _ KR.out EU EU):p:=h
theorem Enq(h:p:=by go_wp2;go_ret;exact⟨O,by(repeat (first|exact IU _ _|(refine J6 ?_ IF _)|(refine J7 ?_ IF _)))⟩):p:=h
theorem Enr(h:p:=by go_enter Tryz.func170,Tryz.ntmps170;go_wp2_with fail;refine Uk 4 ?_;(iterate 2 rw[Il];go_wp2_with fail);rw[Il];go_wp2_with fail;rw[Il];go_wp2;go_ret;exact⟨O,O⟩):p:=h
theorem Ens(h:p:=by intro _ hw';obtain⟨y9,rfl⟩:=hw';have En:=EQ y9;replace KX:=EH KX En;replace S1:=J<|S1.out.B En;replace MM:=J<|MM.out.trans (EA.ED En);replace OA:=J<|EG OA.out fun _ _ h=>H.B h En;clear y0 MT yx En;generalize EC JM y9=aP at*;go_wp2_with fail;refine(qp lo gq _ (pn g 48) x.s _ S1.out.core.lq S1.out.core.ZC S1.out.core.ok.q).mono ?_;rintro e15 WY ⟨⟨b15,rfl⟩,⟨L3,xr,xt⟩,m15⟩;have xu:=S1.out.core.ok.sub xt;replace S1:=J<|S1.out.gV m15 L3 xr xu;replace MM:=J<|MM.out.trans (m15.jL hi);replace KX:=J<|m15.Ek KX.out EU EU;replace OA:=J<|EG OA.out fun _ _ h=>m15.Ek h EU EU;clear m15 xr xt xu;have cx:jC _ ⟨gx,0,Z⟩=D (E I x.s):=(H.cell KX.out 0).trans O;go_wp2_with fail;refine(ql lo hi g gc gq gt gs _ (ns+m+m2) _ x.s 4 29 _ S1.out YC).mono ?_;rintro e16 w16 ⟨rfl,⟨m16,i9,s16⟩,aR⟩;have S8:=J s16;replace MM:=J<|MM.out.trans aR;replace OA:=J<|EG OA.out fun _ _ h=>aR.Ek h EU EU;have xw:=J i9;clear s16 aR i9 cx;have L0:=rZ.out;go_wp2_with fail;refine⟨⟨i+1,L3,m2+m16,U,Ej,YD,?_,MM.out,base,OA.out⟩,Jb⟩;rw[show ns+m+(m2+m16)=ns+m+m2+m16 from U];exact S8.out):p:=h
theorem Ent(h:p:=by have d2:v 2=V (D ⟨gm,1,Z⟩):=hd.at 2 rfl;refine J4 (f:=203) (args:= #[v 2]) (Eh O) Ez ?_;rw[d2];exact(iy gm 1 w').mono fun e w'' ⟨v,he,⟨gb,e2,lb,kb⟩,hb'⟩=>⟨v,he,hb',gb,e2,Ew (Ew u.out.size hb.size) lb,kb⟩):p:=h
theorem Enu(h:p:=by go_wp2;go_ret;exact⟨O,O⟩):p:=h
theorem Env(h:p:=by intro _ hw';obtain⟨y9,rfl⟩:=hw';have En:=EQ y9;replace S1:=J<|S1.out.B En;replace MM:=J<|MM.out.trans (EA.ED En);clear y0 En KG Xh iW PL XJ CN;generalize EC aQ y9=dW at*;have TH:=J<|db S1.out.core 11 rfl 12 wT;go_wp2_with ((with_reducible refine I3 50 ?_);(with_reducible refine Ux O 50 _ _ O gc 102 p'.v.toArray ?_ ?_ ?_ ?_ ?_ ?_);(·rfl);(·rfl);(·exact TH.out);(·exact iP.2);(·simp[Pt.v,Oc]);refine Ex.mk ?_);apply Es;have S4:=S1.out.iN p' (S1.out.core.ok.iN iQ.out);replace S1:=J S4.1;replace MM:=J<|MM.out.trans S4.2;clear S4 TH;change Ib _ _ _ _ _ (dW.setCells gc 102 p'.v);generalize dW.setCells gc 102 p'.v=w22 at*;go_wp2;go_end0;have e1:ns+m2+m3+m4=ns+(m2+m3+m4):=U;have h8:=S1.out;rw[e1,U7] at h8;exact⟨O,⟨_,m2+m3+m4,_,EEc,EEd,h8,YP HT.out HT1.out (fun x hx=>List.mem_append_left _ (List.mem_append_left _ (M0.out x hx))) (fun h=>EEf) T1 KQ EEI.out (fun x hx=>List.mem_append_right _ hx) mj.out p' ay.out⟩,MM.out⟩):p:=h
theorem Enw(h:p:=by have d6:v 6=V (D ⟨gm,4,Z⟩):=hd.at 6 rfl;refine J4 (f:=206) (args:= #[v 6]) (Eh O) Ez ?_;rw[d6];exact(pQ gm 4 w').mono fun e w'' ⟨v,he,⟨gb,e2,lb,kb⟩,hb'⟩=>⟨v,he,hb',gb,e2,Ew (Ew u.out.size hb.size) lb,kb⟩):p:=h
theorem Enx(h:p:=by obtain rfl:p=0:=U;exact Et Ez O):p:=h
theorem Eny(h:p:=by go_wp2_with (first|((with_reducible refine Io 50 ?_);refine I4 rfl 183 _ rfl (EF (Ia 0)) jw ?_)|(with_reducible refine wS (cs:=(EF (Ia 0))) OY K2 ?_ (ho:=Ja _) (hn:=Ja _) (h1:=ZY _)));refine ET (v:=Eu #[Ea (EF (Ia 0)),E I 13]) (dH OY O _ _ w.heap.size _ _ O O (K2.out.setRow _) (Ja _)) O ?_;exact PF.out _ _ O (H.setRow_other KT.out w.heap.size _ U) (ON.out.gF (g2:=w.heap.size) (E3 _) (iu _) ON.out.size)):p:=h
theorem Enz(h:p:=by obtain rfl:p=0:=U;have d2:xv 2=V (D ⟨gs,0,Z⟩):=hd.at 2 rfl;have cc:wq.cell? ⟨gs,0,Z⟩=D (V (D ⟨gc,0,Z⟩)):=hp.2.1.IB;exact Et co O):p:=h
theorem EnA(h:p:=by exact PF.out _ _ O (H.setRow_other KT.out w.heap.size _ U) (ON.out.gF (g2:=w.heap.size) (E3 _) (iu _) ON.out.size)):p:=h
theorem EnB(h:p:=by exact IE ER (Eh O) Ez O):p:=h
theorem EnC(h:p:=by have B1:=J<|Er w (Eb #[E I sz,E I lo,E I hi,.func (.func Y5) #[] #[gp],.func (.func S) #[] #[gp]] 298);have KB:=J<|H.new w #[E I sz,E I lo,E I hi,.func (.func Y5) #[] #[gp],.func (.func S) #[] #[gp]] 298;have HR:=J<|It hr B1.out;clear hr;go_enter Tryz.func209,Tryz.ntmps209;go_wp2_with fail;generalize w.alloc (Eb #[E I sz,E I lo,E I hi,.func (.func Y5) #[] #[gp],.func (.func S) #[] #[gp]] 298)=w1 at*;have cb:=fun j=>KB.out.cell j;refine(CT.out _ HR.out).mono ?_;rintro e w2 ⟨rfl,rfl⟩;go_wp2_with fail;refine(HS.out.call _ B1.out).mono ?_;rintro e w3 ⟨rfl,hq⟩;clear HE;go_wp2;go_ret;exact⟨O,_,B1.out,hq⟩):p:=h
theorem EnD(h:p:=by subst hcd;go_wp2_with fail;refine(qp lo gq L most s _ LQ.out Q1.out HL.out).mono ?_;rintro e6 w6 ⟨⟨bb,rfl⟩,⟨L',q6,sq⟩,m6⟩;replace Q1:=J q6;have SQ:=J sq;replace KR:=J<|m6.Ek KR.out EU EU;replace KB:=J<|m6.Ek KB.out EU EU;replace MM:=J<|MM.out.trans m6;clear m6 q6 sq;go_wp2_with (with_reducible first|refine wL EW KB ?_ (hn:=RS.out)|refine wS (cs:=rv) EW KR ?_ (hn:=RS.out) (h1:=RO.out));refine ET (jm EW O _ _ gr rv (E I 3) (E I 0) O O O (KR.out.setRow _) RS.out) O ?_;refine⟨⟨t2,3,0,Dd,.inr (.inl ⟨O,O,HG.out,L',SQ.out,Q1.out.Xc _ KR.out EU EU⟩)⟩,MM.out.Xd _ LR.out lw.out KR.out EU EU⟩):p:=h
theorem EnF(h:p:=by go_wp2_with (first|((with_reducible refine Io 5 ?_);refine I4 rfl 298 _ rfl fv BF.out ?_)|(with_reducible refine wS (cs:=fv) XB K8 ?_ (hn:=O0.out) (h1:=O1.out)));refine ET (v:=Ea fv) (Jd XB O _ _ (w.heap.size+1) _ O (K8.out.setRow _) O0.out) O ⟨_,O,HB.out _ (K4.out.setRow_other _ _ U),EY u.out U _⟩):p:=h
theorem EnG(h:p:=by have t9:(cd !=0)=EJ:=dP;have wv:=J hcd;clear hcd;go_wp2_with fail;refine(qF gk tv TS.out TO.out cd _ KT.out).mono ?_;rintro e7 w7 ⟨rfl,b7⟩;replace KT:=EH KT b7;replace KR:=EH KR b7;replace KP:=EH KP b7;replace Q1:=J<|Q1.out.B b7;replace MM:=J<|MM.out.trans (Iz.ED b7 (Ew lw.out MM.out.bel.size));clear b7;go_wp2_with (with_reducible refine wS (cs:=tv) EW KR ?_ (hn:=TS.out) (h1:=TO.out));refine ET (jm EW O _ _ gr tv (E I 0) (E I cd) O O O (KR.out.setRow _) TS.out) O ?_;refine⟨⟨t,0,cd,gR,.inl ⟨wv.out,O,O,Q1.out.Xc _ KR.out EU EU⟩⟩,MM.out.Xd _ LR.out lw.out KR.out EU EU⟩):p:=h
theorem EnH(h:p:=by obtain⟨gl,fs,e,m,lg,bx,kk⟩:=h;exact⟨gl,fs,e,m,lg,bx.B hb,kk.B hb⟩):p:=h
theorem EnK(h:p:=by have c0:=hm.cell 0;rw[Zq _ _ U,if_neg U,hk] at c0;have CF:=J<|fun W=>H_ gm 2 W;have u:=J<|IU w.heap.size w;clear hm hk;go_enter iz,iA;go_wp2_with fail;refine(CF.out _).mono ?_;rintro e w1 ⟨v,rfl,⟨gb,rfl,lb,kb⟩,b1⟩;have FB:Ed (El w (w1.alloc (Eb (E5 [(Xa,gb)]).toArray 298))):=J<|b1.alloc b1.size _;have FK:Ed (Xr (w1.alloc (Eb (E5 [(Xa,gb)]).toArray 298)) w.heap.size w1.heap.size gm [(Xa,gb)]):=J (aA (H.new w1 _ 298) (fun i hi=>by have:i=0:=U5;subst this;exact⟨lb,H.alloc kb _⟩) b1.size);clear b1 c0 CF kb;unfold IG;go_wp2;go_ret2;exact⟨_,_,_,O,O,FK.out,FB.out⟩):p:=h
theorem EnL(h:p:=by (repeat (first|exact IU _ _|(refine J6 ?_ IF _)|(refine J7 ?_ IF _)))):p:=h
theorem EnM(h:p:=by obtain rfl:p=0:=U;have d3:xv 3=V (D ⟨gc,0,Z⟩):=hd.at 3 rfl;exact Et ct O):p:=h
theorem EnN(h:p:=by obtain rfl:p=0:=U;have d1:xv 1=V (D ⟨gs,0,Z⟩):=hd.at 1 rfl;exact Et XZ O):p:=h
theorem EnP(h:p:=by obtain rfl:p=0:=U;have d0:xv 0=V (D ⟨gs,0,Z⟩):=hd.at 0 rfl;exact Et UW O):p:=h
theorem EnQ(h:p:=by have d5:v 5=V (D ⟨gm,0,Z⟩):=hd.at 5 rfl;exact IE ER (Eh O) dD O):p:=h
theorem EnR(h:p:=by have d4:v 4=V (D ⟨gm,0,Z⟩):=hd.at 4 rfl;exact IE ER (Eh O) XQ O):p:=h
theorem EnS(h:p:=by have d1:v 1=V (D ⟨gm,0,Z⟩):=hd.at 1 rfl;exact IE ER (Eh O) XZ O):p:=h
theorem EnT(h:p:=by have d0:v 0=V (D ⟨gm,0,Z⟩):=hd.at 0 rfl;exact IE ER (Eh O) UW O):p:=h
theorem EnV(h:p:=by have B1:=J<|Er w (Eb #[E I sz,E I lo,E I hi,.func (.func Y5) #[] #[gp],.func (.func S) #[] #[gp]] 298);have KB:=J<|H.new w #[E I sz,E I lo,E I hi,.func (.func Y5) #[] #[gp],.func (.func S) #[] #[gp]] 298;have HR:=J<|It hr B1.out;clear hr;go_enter Tryz.func209,Tryz.ntmps209;go_wp2_with fail;generalize w.alloc (Eb #[E I sz,E I lo,E I hi,.func (.func Y5) #[] #[gp],.func (.func S) #[] #[gp]] 298)=w1 at*;have cb:=fun j=>KB.out.cell j;refine(CT.out _ HR.out).mono ?_;rintro e w2 ⟨rfl,rfl⟩;go_wp2;go_ret;exact⟨O,B1.out⟩):p:=h
theorem EnW(h:p:=by have r3:=It r2 u;generalize hxs:ps[i]=xs at*;generalize hys:(ps.take i).flatten=ys at*;obtain⟨k,hk⟩:=JK xs.length;rw[hk] at ck hle;rw[hn] at hle;have BO:=J hn;have nA:=J hk;have dz:=J ho;have Jv:=J u;have R3:=J r3;have HST:=J hst;clear hn hk ho u r3 r2 e2 hst hxs hys;go_wp2_with ((at_builtin;refine uV _ O (.tmp 12) (.tmp 13) O w.heap.size A d n ys BO.out O dz.out Y4 c2 k xs nA.out O R3.out U Jv.out.size ?_;intro A1 nu w4 o1 b4));exact⟨⟨i+1,A1,nu,n+k,U,Ej,O,R4,by rw[HST.out];exact o1,Jv.out.trans b4⟩,Jb⟩):p:=h
theorem EnY(h:p:=by refine ET (Jd I2 O _ _ w.heap.size tv O (K0.out.setRow tv) TS.out) O ?_;rw[E2.out];exact⟨⟨_,O,dj _ _ ZI O⟩,EY HB1.out (E3 _) _⟩):p:=h
theorem En0(h:p:=by have HL2:=J hl2;clear hl2 hx;go_wp2_with fail;refine CP.out.mono ?_;rintro e w9 ⟨rfl,aM,o9⟩;replace TT:=J<|TT.out.trans (Ji.lK o9);replace K:=J<|o9.Ek K.out Jk.out.symm;go_wp2;go_ret;exact⟨⟨_,O⟩,⟨ZF,x,HP.out,HL2.out,Ln.cut K.out,aM⟩,TT.out⟩):p:=h
theorem En1(h:p:=by clear b1 c0 CF kb;unfold IG;go_wp2;go_ret2;exact⟨_,_,_,O,O,FK.out,FB.out⟩):p:=h
theorem En2(h:p:=by intro _ hw';obtain⟨y9,rfl⟩:=hw';have En:=EQ y9;replace S1:=J<|S1.out.B En;replace MM:=J<|MM.out.trans (EA.ED En);clear y0 xn En;generalize EC wr y9=aQ at*;go_wp2_with fail;refine(Dn lo hi g gc gq gt gs _ _ _ md ⟨2,4,0⟩ _ S1.out tY.out ML).mono ?_;rintro e21 dW ⟨rfl,i8,m21⟩;have S8:=J i8;replace MM:=J<|MM.out.trans m21;clear i8 m21;go_wp2;go_end0;exact⟨O,⟨_,m+m2,new,YF,YG,.inr ⟨O,L2,t2,md,S8.out.core.ok.tok,HO.out.1,HO.out.2,O,uE.out⟩⟩,MM.out⟩):p:=h
theorem En3(h:p:=by refine CF.out.mono ?_;rintro x W2 ⟨rfl,b2⟩;replace K3:=J<|K3.out.B b2;replace K4:=J<|K4.out.B b2;replace K5:=J<|K5.out.B b2;replace K6:=J<|K6.out.B b2;replace u:=EV u b2;clear b2 CF;go_wp2_with (with_reducible first|refine wL EW K3 ?_|refine wS (cs:= #[E I h,E I e,E I o,E I oa,E I om,E I la,E I lm,Ec b]) EW K6 ?_ (h1:=U9));refine ET (UD EW O _ _ (w.heap.size+1+1+1) _ _ O O (K6.out.setRow _) O) O ⟨?_,EY (g:=w.heap.size+1+1+1) u.out U _⟩;rw[HE.out];rfl):p:=h
theorem En4(h:p:=by exact(vf gm 3 w').mono fun e w'' ⟨v,he,⟨gb,e2,lb,kb⟩,hb'⟩=>⟨v,he,hb',gb,e2,Ew (Ew u.out.size hb.size) lb,kb⟩):p:=h
theorem En5(h:p:=by intro ev o w ho;unfold Ig;simp only[ho];kernel_rfl):p:=h
theorem En6(h:p:=by obtain rfl:p=0:=U;have d4:xv 4=V (D ⟨gc,0,Z⟩):=hd.at 4 rfl;exact Et XQ O):p:=h
theorem En7(h:p:=by obtain rfl:p=0:=U;have d9:xv 9=V (D ⟨gs,0,Z⟩):=hd.at 9 rfl;have cc:wq.cell? ⟨gs,0,Z⟩=D (V (D ⟨gc,0,Z⟩)):=hp.2.1.IB;exact Et wY O):p:=h
theorem En8(h:p:=by have K:=J K;have HC:=J HC;have Jk:=J hne;clear hne;go_enter Tryz.func188,Tryz.ntmps188;go_wp2_with fail;refine Uk 1 ?_;rw[Il];go_wp2;go_end0;exact⟨O,⟨_,bC _,K.out⟩,E7.refl _ _⟩):p:=h
theorem En9(h:p:=by rintro e7 w7 ⟨rfl,s7,m7⟩;have S8:=J s7;replace MM:=J<|MM.out.trans m7;clear s7 m7;go_wp2_with fail;refine ET (UQ O _ _ _) O ?_;exact⟨O,⟨c,0,1,_,U,S8.out,.inl O⟩,MM.out⟩):p:=h
theorem En_(h:p:=by exact IE ER (Eh O) ju ⟨gl,fs,O,m,lg,bx,kk⟩):p:=h
theorem EoE(h:p:=by obtain⟨rv,hw,cd,hpq,e25⟩: ∃(rv:Array Y) (hw:Int) (cd:Int),PQ rv hw cd/\xv 25=Eu #[Ea rv,E I hw,E I cd]:=hd.at 25 rfl;exact Et Dy ⟨rv,hw,cd,hpq,e25,O⟩):p:=h
theorem EoI(h:p:=by refine(CP.out _).mono ?_;rintro x w2 ⟨rfl,b2⟩;replace K4:=J<|K4.out.B b2;replace u:=EV u b2;clear b2;go_wp2_with (with_reducible refine wS (cs:=r) EW K4 ?_ (hn:=SR.out) (h1:=OR.out));refine ET (Jd EW O _ _ (w.heap.size+1) r O (K4.out.setRow r) SR.out) O ⟨O,?_⟩;exact EY (g:=w.heap.size+1) u.out U r):p:=h
theorem EoJ(h:p:=by have t9:(cd !=0)=EJ:=dP;go_wp2_with fail;refine(iL lo hi g gc gq gt gs _ ns rs k v1 cd _ S1.out J_ JQ).mono ?_;rintro e7 w7 ⟨rfl,s7,m7⟩;have S8:=J s7;replace MM:=J<|MM.out.trans m7;clear s7 m7;go_wp2_with fail;refine ET (UQ O _ _ _) O ?_;exact⟨O,⟨_,1,_,U,S8.out,L',.inl ⟨cd,O,O⟩⟩,MM.out⟩):p:=h
theorem EoO(h:p:=by unfold Uc;go_enter Tryz.func140,Tryz.ntmps140;go_wp2_with fail;refine ET z_ O ⟨O,?_⟩;exact JY _ _ _):p:=h
theorem EoU(h:p:=by obtain rfl:p=0:=U;have d11:xv 11=V (D ⟨gc,0,Z⟩):=hd.at 11 rfl;exact Et dS O):p:=h
theorem EoX(h:p:=by obtain rfl:p=0:=U;have d10:xv 10=V (D ⟨gc,0,Z⟩):=hd.at 10 rfl;exact Et fF O):p:=h
theorem EoZ(h:p:=by obtain rfl:k=n:=U;have t1:decide ((k:Int)<(k:Int))=EI:=IZ U;go_wp2;go_ret;refine⟨?_,u.out⟩;rw[hr.out];have:=HT.out;rw[OP v_] at this;rw[this];rfl):p:=h
theorem Eoa(h:p:=by exact⟨⟨_,O,_,_,O,Zh OW.out K2.out _⟩,EY Jc.out (E3 _) _⟩):p:=h
theorem Eob(h:p:=by refine ET (UD EW O _ _ (gk+1) rv (E I 5) O O (KR.out.setRow _) RS.out) O ?_;refine⟨⟨t3,5,L',congrArg (fun v=>Ei (Eu #[v,E I 5])) Up.out.symm,(by rw[dZ.out];exact .inr (.inr ⟨O,h4,Dg,pL.out⟩)),SQ.out,?_⟩,MM.out.Xd _ bG lw.out KR.out EU EU⟩;exact Q1.out.Xc _ KR.out EU EU):p:=h
theorem Eoc(h:p:=by obtain rfl:p=0:=U;have d8:xv 8=V (D ⟨gs,0,Z⟩):=hd.at 8 rfl;exact Et gG O):p:=h
theorem Eod(h:p:=by obtain rfl:p=0:=U;have d7:xv 7=V (D ⟨gs,0,Z⟩):=hd.at 7 rfl;exact Et iw O):p:=h
theorem Eof(h:p:=by go_wp2_with fail;refine(iL lo hi g gc gq gt gs c ns rs k v1 cd _ S1.out J_ JQ).mono ?_;rintro e7 w7 ⟨rfl,s7,m7⟩;have S8:=J s7;replace MM:=J<|MM.out.trans m7;clear s7 m7;go_wp2_with fail;refine ET (UQ O _ _ _) O ?_;exact⟨O,⟨_,1,_,U,S8.out,.inl ⟨cd,O,O⟩⟩,MM.out⟩):p:=h
theorem Eog(h:p:=by exact Et Ez O):p:=h
theorem Eoh(h:p:=by generalize Em key=kv at*;go_enter Tryz.func124,Tryz.ntmps124;go_wp2;go_ret;exact⟨O,Er w _⟩):p:=h
theorem Eoi(h:p:=by rintro e w' ⟨rfl,rfl⟩;go_wp2_with fail;refine(HH.out _ m1 m2).mono ?_;rintro e w' ⟨rfl,rfl⟩;go_wp2;go_ret;exact⟨O,Er _ _⟩):p:=h
theorem Eoj(h:p:=by refine ET (UD EW O _ _ (w.heap.size+1+1+1) _ _ O O (K6.out.setRow _) O) O ⟨?_,EY (g:=w.heap.size+1+1+1) u.out U _⟩;rw[HE.out];rfl):p:=h
theorem Eok(h:p:=by exact Q1.out.Xc _ KR.out EU EU):p:=h
theorem Eol(h:p:=by go_wp2_with fail;refine ET (v:=Ea #[E I 0,E I 0,E I 0,G Z 0 0]) Na O ?_;rw[HF.out];exact⟨⟨_,O,dj _ _ ZI O⟩,JY _ _ _⟩):p:=h
theorem Eom(h:p:=by have QM:=MM.out.trans (Ji.qo (Ji.aa o4) K.out KQ.out k4 nW lg LQ.out);go_wp2;go_end0;exact⟨O,⟨L4,_,cp,ZG,nW,OW⟩,QM⟩):p:=h
theorem Eon(h:p:=by exact Zp (Eh O) (lR _ _ _ O) (Er wq _) ⟨wq.heap.size,_,O,hp.1,O,H.new _ _ _⟩):p:=h
theorem Eoo(h:p:=by rw[Array.toArray_toList] at hrun;unfold Ig;simp only[ho,hx,gJ,dp,OH,Oi,OM,hrun]):p:=h
theorem Eop(h:p:=by have d6:v 6=V (D ⟨gm,5,Z⟩):=hd.at 6 rfl;refine J4 (f:=241) (args:= #[v 6]) (Eh O) Ez ?_;rw[d6];exact(Tx gm 5 w').mono fun e w'' ⟨v,he,⟨gb,e2,lb,kb⟩,hb'⟩=>⟨v,he,hb',gb,e2,Ew (Ew u.out.size hb.size) lb,kb⟩):p:=h
theorem Eoq(h:p:=by go_wp2_with (go_at_call 162;refine(qX _ _ _ N1.out).mono ?_;rintro e w' ⟨rfl,rfl⟩);go_ret;exact⟨O,Er _ _⟩):p:=h
theorem Eor(h:p:=by obtain rfl:p=0:=U;have d12:xv 12=V (D ⟨gc,56,Z⟩):=hd.at 12 rfl;obtain⟨big,KB,O8⟩:=bK hp.2.1.core;have EX:big.extract 56 (56+8)=Ip:=(O8 1 c.tok.v O).trans ZE.out;exact bi ER EW (Eh O) ⟨O,d12⟩ KB Xf.out EX O):p:=h
theorem Eos(h:p:=by have EX:big.extract 56 (56+8)=Ip:=(O8 1 c.tok.v O).trans ZE.out;exact bi ER EW (Eh O) ⟨O,d12⟩ KB Xf.out EX O):p:=h
theorem Eot(h:p:=by replace hp:=J hp;go_enter Tryz.func211,Tryz.ntmps211;go_wp2_with fail;refine hp.out.mono ?_;rintro e w1 ⟨rfl,r1,b1⟩;replace r1:=J r1;replace b1:=J b1;clear hp h1;go_wp2;go_ret;exact⟨⟨_,O,r1.out⟩,b1.out⟩):p:=h
theorem Eou(h:p:=by injection h with h;subst h;have e:(⟨b,off,Z⟩:Ep).add j=⟨b,off+j,Z⟩:=U3;rw[e,hc j hj];simpa[hj] using hu):p:=h
theorem Eov(h:p:=by have EX:big.extract 56 (56+8)=Ip:=(O8 1 c.tok.v O).trans ZE.out;exact bi ER EW (Eh O) ⟨O,d5⟩ KB Xf.out EX O):p:=h
theorem Eow(h:p:=by have:j∈XH ops listed:=m_.2 ⟨hj,hc⟩;rw[List.length_eq_zero_iff.1 (Nat.le_zero.1 hf)] at this;cases this):p:=h
theorem Eox(h:p:=by have d2:v 8= .slice x.2.1 x.1.b.length x.2.2:=hd.at 8 rfl;obtain⟨v1,w1,hrun,hg,hf⟩:=EJq hb bY.out zj.out Px.out rW.out EJM 23;exact Z9 (Eh O) (Ol O (show v 3=_ from d1) (show v 8=_ from d2) hrun) hg hf):p:=h
theorem Eoy(h:p:=by go_wp2_with fail;exact⟨⟨i+1,c',rs',A,C,X,U,Ej,MM.out,AL.out.more U,mN.out,EE.out,u.out,NK.out⟩,Jb⟩):p:=h
theorem Eoz(h:p:=by have g2:v 2=Ec EI:=hd.at 2 rfl;exact IE ER (fc O O (congrArg D g2)) Ez O):p:=h
theorem EoA(h:p:=by obtain⟨i,h1,h2,h3,h4⟩:=au h;exact⟨i,h1,h2,h3,h4⟩):p:=h
theorem EoB(h:p:=by intro j hj;simp only[List.mem_range'_1] at hj;have hjn:j<ops.size:=U;exact m_.2 ⟨hjn,ht j hj.1 hjn⟩):p:=h
theorem EoC(h:p:=by obtain rfl:p=0:=U;exact IQ JT.kept (Eh O) Ez O):p:=h
theorem EoD(h:p:=by refine⟨O,fun i h6 lv=> ?_⟩;have h:i=6\/i=7\/i=8\/i=9\/i=10\/i=11\/i=12\/i=13:=U;rcases h with rfl|rfl|rfl|rfl|rfl|rfl|rfl|rfl<;>exact(show(0:Int)<=0/\(0:Int)<=255 from⟨EU,EU⟩)):p:=h
theorem EoF(h:p:=by have K:=J K;have HC:=J HC;have Jk:=J hne;clear hne;go_enter Tryz.func187,Tryz.ntmps187;go_wp2_with fail;refine Uk 1 ?_;rw[Il];go_wp2;go_ret;exact⟨⟨_,O⟩,⟨_,bC _,K.out⟩,E7.refl _ _⟩):p:=h
theorem EoG(h:p:=by obtain rfl:p=0:=U;have d5:xv 5=V (D ⟨gc,0,Z⟩):=hd.at 5 rfl;obtain⟨big,KB,O8⟩:=bK hp.2.1.core;have EX:big.extract 0 (0+56)=pv:=Mj;exact bi ER U1 (Eh O) ⟨O,d5⟩ KB w_.out EX O):p:=h
theorem EoH(h:p:=by rintro e7 w7 ⟨rfl,s7,m7⟩;have S8:=J s7;replace MM:=J<|MM.out.trans m7;clear s7 m7;go_wp2_with fail;refine ET (UQ O _ _ _) O ?_;exact⟨O,⟨c,1,7,_,U,S8.out,.inl O⟩,MM.out⟩):p:=h
theorem EoK(h:p:=by simp only[ho,hx,gJ,dp,OH,Oi,OM,hrun]):p:=h
theorem EoL(h:p:=by show(wr.setCell _ _).heap[_]?=_;rw[XK _ _ _ _ UT];exact HZ.out):p:=h
theorem EoM(h:p:=by show(wr.setCell _ _).heap[_]?=_;rw[XK _ _ _ _ UT];exact HP.out):p:=h
theorem EoN(h:p:=by show(wr.setCell _ _).heap[_]?=_;rw[XK _ _ _ _ UT];exact HN.out):p:=h
theorem EoP(h:p:=by have d2:v 2=E I s:=hd.at 2 rfl;refine J4 (f:=211) (args:= #[v 2,E I 1]) (Eh O) Ez ?_;rw[d2];exact(Bg s w').mono fun e w'' ⟨⟨g,he,r⟩,hb'⟩=>⟨_,he,hb',g,O,r⟩):p:=h
theorem EoQ(h:p:=by obtain rfl:p=0:=U;have d19:xv 19=V (D ⟨gc,64,Z⟩):=hd.at 19 rfl;have cc:wq.cell? ⟨gc,64,Z⟩=D (V (D ⟨gq,0,Z⟩)):=hp.2.1.core.cell 2 rfl 0 Ej;exact Et Dx O):p:=h
theorem EoR(h:p:=by obtain rfl:p=0:=U;have d12:xv 12=V (D ⟨gc,64,Z⟩):=hd.at 12 rfl;have cc:wq.cell? ⟨gc,64,Z⟩=D (V (D ⟨gq,0,Z⟩)):=hp.2.1.core.cell 2 rfl 0 Ej;exact Et Du O):p:=h
theorem EoS(h:p:=by exact fun ev h=>am):p:=h
theorem EoT(h:p:=by rw[e] at hp;rw[e];clear e;go_enter Tryz.func252,Tryz.ntmps252;go_wp2_with (go_at_call 111;refine(hp.out).mono ?_;rintro e w' ⟨rfl,rfl⟩);go_ret2;exact⟨O,O⟩):p:=h
theorem EoV(h:p:=by exact IQ JT.kept (Eh O) Ez O):p:=h
theorem EoW(h:p:=by obtain⟨rv,how,hpq,e23⟩: ∃(rv:Array Y) (how:Int),PQ rv how/\xv 23=Eu #[Ea rv,E I how]:=hd.at 23 rfl;exact Et (by simp[go_sem,e23]) ⟨rv,how,hpq,e23,O⟩):p:=h
theorem EoY(h:p:=by have EX:big.extract 0 (0+56)=pv:=Mj;exact bi ER U1 (Eh O) ⟨O,d5⟩ KB w_.out EX O):p:=h
theorem Eo0(h:p:=by obtain⟨rv,cd,hpq,e16⟩: ∃(rv:Array Y) (cd:Int),PQ rv cd/\xv 16=Eu #[Ea rv,E I cd]:=hd.at 16 rfl;exact Et (by simp[go_sem,e16]) ⟨rv,cd,hpq,e16,O⟩):p:=h
theorem Eo1(h:p:=by obtain rfl:p=1:=U;obtain⟨cd,e11,hpk⟩: ∃cd,xv 11=Eu #[Ea tv,E I 0,E I cd]/\fP lo gq gr L most s rk 0 mp cd wq:=hd.at 11 rfl;exact IQ fN (Eh O) MO O):p:=h
theorem Eo2(h:p:=by intro _ hw';obtain⟨y9,rfl⟩:=hw';have En:=EQ y9;replace u:=EV u En;clear En ci cj;generalize EC w1 y9=w2 at*;go_wp2;go_ret;refine⟨?_,u.out⟩;simp):p:=h
theorem Eo3(h:p:=by obtain rfl:p=0:=U;have d17:xv 17=V (D ⟨gc,0,Z⟩):=hd.at 17 rfl;exact Et xI O):p:=h
theorem Eo4(h:p:=by refine wpList_step fun K hK=> ?_;rw[if_pos hw];unfold dn;rw[hr];exact hK _ _ h):p:=h
theorem Eo5(h:p:=by have:=sO (l.take m) 0 i x a0 o v hnd (htk i o hi ho);rw[Ox] at this;exact this):p:=h
theorem Eo6(h:p:=by have:i=fs.length:=sE;subst this;rw[List.getElem_append_right (E3 _)];simp only[Nat.sub_self,List.getElem_cons_zero];exact⟨hgb,Uw h3 hbx (Bm d)⟩):p:=h
theorem Eo7(h:p:=by obtain rfl:p=0:=U;have d16:xv 16=V (D ⟨gs,0,Z⟩):=hd.at 16 rfl;have cc:wq.cell? ⟨gs,0,Z⟩=D (V (D ⟨gc,0,Z⟩)):=hp.2.1.IB;exact Et Ml O):p:=h
theorem Eo8(h:p:=by obtain rfl:p=0:=U;have d12:xv 12=V (D ⟨gs,0,Z⟩):=hd.at 12 rfl;have cc:wq.cell? ⟨gs,0,Z⟩=D (V (D ⟨gc,0,Z⟩)):=hp.2.1.IB;exact Et Du O):p:=h
theorem Eo9(h:p:=by rw[eM] at f1;simp at f1;rw[h1,f2];simp[f1]):p:=h
theorem Eo_(h:p:=by intro x w hw hx;have e:EM (l.take m) 0 x a0=EM (l.take m) 0 y a0:=sb _ 0 _ _ _ fun j _ hj=>hx j U;simp only[e];have:=hK w hw;simpa using this):p:=h
theorem EpE(h:p:=by refine ET (Jd I2 O _ _ w.heap.size tv O (K0.out.setRow tv) TS.out) O ?_;rw[E2.out];exact⟨⟨_,O,dj _ _ (bQ 12) O⟩,EY HB1.out (E3 _) _⟩):p:=h
theorem EpI(h:p:=by refine ET (Jd I2 O _ _ w.heap.size tv O (K0.out.setRow tv) TS.out) O ?_;rw[E2.out];exact⟨⟨_,O,dj _ _ (bQ 11) O⟩,EY HB1.out (E3 _) _⟩):p:=h
theorem EpJ(h:p:=by obtain rfl:p=0:=U;have d7:xv 7=V (D ⟨gc,65,Z⟩):=hd.at 7 rfl;have d5:xv 5=E I (k-1):=hd.at 5 rfl;exact IQ ER (Eh O) (fV O d7 d5 IX.out) O):p:=h
theorem EpO(h:p:=by obtain rfl:p=0:=U;have d2:xv 2=V (D ⟨gs,0,Z⟩):=hd.at 2 rfl;have cc:wq.cell? ⟨gs,0,Z⟩=D (V (D ⟨gc,0,Z⟩)):=hp.1.IB;exact Et co O):p:=h
theorem EpU(h:p:=by exact⟨hp.1.only (J9 rv) kb U,hp.2.1.only (J9 rv) U U kb.lt,H.setRow_other hp.2.2.1 b rv (E6 hp.2.2.1 kb EU),by simpa using hp.2.2.2⟩):p:=h
theorem EpX(h:p:=by have d26:xv 26=Eu #[Ea Ur,Ea (Em kv),E I cd]:=hd.at 26 rfl;exact Et My O):p:=h
theorem EpZ(h:p:=by obtain⟨rv,cd,hpq,e15⟩: ∃(rv:Array Y) (cd:Int),PQ rv cd/\xv 15=Eu #[Ea rv,E I cd]:=hd.at 15 rfl;exact Et Mf ⟨rv,cd,hpq,e15,O⟩):p:=h
theorem Epa(h:p:=by obtain⟨e,he,hb⟩:=List.any_eq_true.1 h;simp only[Oj,beq_iff_eq] at hb;have:=hd e (Array.mem_toList_iff.1 he) hb.1;rwa [hb.2] at this):p:=h
theorem Epb(h:p:=by rw[List.eq_nil_iff_forall_not_mem];intro j hj;obtain⟨h1,o,ho,-⟩:=ZR.1 hj;have hjn:=(J3.1 ho).1;rw[hl j hjn] at h1;simp at h1;omega):p:=h
theorem Epc(h:p:=by obtain rfl:i=m:=U;rw[OP Hj] at ho hn;subst hn;have dz:=J ho;have Jv:=J u;clear ho u;go_wp2;go_ret;exact⟨⟨_,_,O,dz.out⟩,Jv.out⟩):p:=h
theorem Epd(h:p:=by exact Ou.keep HI.out fun _ _ h=>(JS (g:=gs) 0 _).Ek h (E6 h aT.out EU)):p:=h
theorem Epf(h:p:=by have:=Gk ((l.take m).take i) ((l.take m).drop i) 0 (mix (held (l.take m) a0) y i) a0;rw[iU] at this;rw[this];congr 1;rw[ar];omega):p:=h
theorem Epg(h:p:=by go_ret;exact⟨O,Er _ _⟩):p:=h
theorem Eph(h:p:=by exact(hU 1 1000 wq).mono fun e w2 ⟨v,he,hv,hb⟩=>⟨v,he,hb,hv⟩):p:=h
theorem Epi(h:p:=by have d1:v 4=G (D ⟨be,0,Z⟩) n ce:=hd.at 4 rfl;have d2:v 5=E I (i:Int):=hd.at 5 rfl;exact IE ZU (Eh O) (fV O d1 d2 Py.out) O):p:=h
theorem Epj(h:p:=by have d9:v 9=V (D ⟨gm,0,Z⟩):=hd.at 9 rfl;exact IE ER (Eh O) sS O):p:=h
theorem Epk(h:p:=by have d8:v 8=V (D ⟨gm,0,Z⟩):=hd.at 8 rfl;exact IE ER (Eh O) gG O):p:=h
theorem Epl(h:p:=by unfold EN.Uj at hg;simp only at hg;rw[if_neg U,if_neg U,if_neg U] at hg;injection hg with a1 a2;exact⟨a2.symm,a1.symm⟩):p:=h
theorem Epm(h:p:=by intro xv wq p hlo hhi hp hd;obtain rfl:p=0:=U;simp only[EM,Ih,Ik,Ic,If];exact jn ER U1 (Eh O) ⟨O,O⟩ (hp.2.1) GS.out O):p:=h
theorem Epn(h:p:=by exact⟨j,hj,fun k hk hk2=>h ⟨k,hk,hk2⟩⟩):p:=h
theorem Epo(h:p:=by rw[hv];simp[ZX,go aJ,sizeOf,typeInfo,hi,Builtin.lenOf,Builtin.firstCells,hn];simp at hv;exact⟨hv.1.symm,hv.2.2.symm⟩):p:=h
theorem Epp(h:p:=by injection hv with h1 h2 h3;subst h1 h3;simp[ZX,go aJ,sizeOf,typeInfo,hi,Builtin.lenOf,Builtin.firstCells,hnc,storeCells]):p:=h
theorem Epq(h:p:=by exact⟨O,Er _ _⟩):p:=h
theorem Epr(h:p:=by have hp':tmps[p]?.getD I6=V (D ⟨g,0,Z⟩):=kw;have hq':tmps[q]?.getD I6=v:=kH;simp[UA,h,hp',hq',asAddr,vp hT hg hn]):p:=h
theorem Eps(h:p:=by exact⟨O,_,_,O,O,O⟩):p:=h
theorem Ept(h:p:=by rintro e w2 ⟨rfl,S2,M2⟩;go_wp2;go_end0;exact⟨O,S2,M2⟩):p:=h
theorem Epu(h:p:=by have:=List.length_filter_le (fun i=> !(b_ l.toArray.size EI).getD i EJ) (U4 l.toArray.size);simpa[XH] using this):p:=h
theorem Epv(h:p:=by have h6:k=0\/k=1\/k=2\/k=3\/k=4\/k=5\/k=6\/k=7:=U;rcases h6 with rfl|rfl|rfl|rfl|rfl|rfl|rfl|rfl<;>decide):p:=h
theorem Epw(h:p:=by rcases hd with rfl|rfl<;>exact⟨⟨EU,EU,EU⟩,EU,EU,EU⟩):p:=h
theorem Epx(h:p:=by intro e he hb';have h3:=pd e he hb';have h4:=(pU hB ho).1 e he;have h5:e.on<listed.size:=U;exact hr e.on U zD):p:=h
theorem Epy(h:p:=by exact IE ZU (Eh O) Ez O):p:=h
theorem Epz(h:p:=by have d6:xv 6=V (D ⟨gc,0,Z⟩):=hd.at 6 rfl;exact Et pP O):p:=h
theorem EpA(h:p:=by simp only[pE,kh,ki];have:=Int.emod_nonneg x (b:=65536) U;have:=Int.emod_lt_of_pos x (b:=65536) U;simp;omega):p:=h
theorem EpB(h:p:=by rintro e w3 ⟨rfl,k3,o3⟩;go_wp2_with fail;refine ET (UQ O _ _ _) O ?_;go_wp2;go_end0;exact⟨O,k3,o3⟩):p:=h
theorem EpC(h:p:=by have h5:i<listed.size:=U;simp[h5]):p:=h
theorem EpD(h:p:=by obtain⟨k,hk,hk2⟩:=h;exact pZ k hk hk2):p:=h
theorem EpF(h:p:=by obtain rfl:p=0:=U;exact IQ fN (Eh O) Ez O):p:=h
theorem EpG(h:p:=by go_wp2;go_end0;refine⟨O,?_,ON.out⟩;simp only[Jt,h1.out,h7.out,h9.out,if_true,kL,if_false];exact K.out):p:=h
theorem EpH(h:p:=by go_wp2;go_end0;refine⟨O,?_,ON.out⟩;simp only[Jt,h1.out,h2.out,h4.out,if_true,kL,if_false];exact K.out):p:=h
theorem EpK(h:p:=by rw[hrun] at hr;injection hr with hq hr;injection hq with hq;rw[hr];exact⟨.inr ⟨_,hq,E3 _⟩,bel _⟩):p:=h
theorem EpL(h:p:=by clear hk hs h1;go_enter Tryz.func47,Tryz.ntmps47;go_wp2_with fail;refine ET (UQ O _ _ _) O ?_;exact fin):p:=h
theorem EpM(h:p:=by obtain rfl:p=0:=U;exact Zp (Eh O) (lR _ _ _ O) (Er wq _) ⟨wq.heap.size,_,O,hp.2.2.2,O,H.new _ _ _⟩):p:=h
theorem EpN(h:p:=by exact IE ZU (Eh O) (fV O O d1 zk.out) O):p:=h
theorem EpP(h:p:=by refine JL (f:=44) (args:= #[]) (Eh O) Ez ?_;exact(xk wq).mono fun e w2 ⟨he,hb⟩=>⟨_,he,hb,O⟩):p:=h
theorem EpQ(h:p:=by obtain rfl:p=0:=U;exact Zp (Eh O) (qR _ _ _ O) (Er wq _) ⟨wq.heap.size,_,O,hp.1,O,H.new _ _ _⟩):p:=h
theorem EpR(h:p:=by exact⟨Dv,L',s.only (J9 rv) kb U,m.only (J9 rv) U U kb.lt,H.setRow_other km b rv (E6 km kb EU)⟩):p:=h
theorem EpS(h:p:=by exact⟨S1.out.B (Jn _),MM.out.trans (EA.ED (Jn _)),H.B KM.out (Jn _),Ew (OC hn0) (XE (Jn _))⟩):p:=h
theorem EpT(h:p:=by exact⟨Ew (OC hn0) (XE (Jn _)),S1.out.B (Jn _),MM.out.trans (EA.ED (Jn _)),H.B KM.out (Jn _)⟩):p:=h
theorem EpV(h:p:=by exact⟨Ew n1 ho.size,s1.DK ho kb EU U,m1.only ho U U kb.lt,ho.Ek km (E6 km kb EU),fun h=>UL⟩):p:=h
theorem EpW(h:p:=by have d1:v 7=V (D ⟨be,i*10+2,Z⟩):=hd.at 7 rfl;have cc:=zl.out w' hb;exact IE ZU (Eh O) oH O):p:=h
theorem EpY(h:p:=by simpa using this):p:=h
theorem Ep0(h:p:=by simp only[ho,hx,gJ,dp,OH,Oi,OM,hrun];exact⟨O,O⟩):p:=h
theorem Ep1(h:p:=by have:=ht m (E3 _) h;rw[hall m h] at this;cases this):p:=h
theorem Ep2(h:p:=by exact jn ER U1 (Eh O) ⟨O,O⟩ (EH K3 hp) yS.out O):p:=h
theorem Ep3(h:p:=by refine⟨U5,?_⟩;simp only[OE,List.getElem?_map,JV hi,kj,Option.getD_some] at hl⊢;exact hl):p:=h
theorem Ep4(h:p:=by have d5:xv 5=Eu #[.func (.func f) #[V (D ⟨gs,0,Z⟩)] #[],Ec EJ]:=hd.at 5 rfl;exact Et dD O):p:=h
theorem Ep5(h:p:=by rintro e w1 ⟨rfl,b1⟩;rw[HM.out];clear Q0;go_wp2;go_ret;exact⟨O,bt (Y4.out _ _ _) b1⟩):p:=h
theorem Ep6(h:p:=by rw[hl.cell (p:=⟨0,i,Z⟩) tc];exact h.roots i hi):p:=h
theorem Ep7(h:p:=by go_wp2;go_end0;refine⟨O,?_,ON.out⟩;simp only[Jt,h1.out,if_true,kL,if_false];exact K.out):p:=h
theorem Ep8(h:p:=by rw[hl.cell (p:=⟨1,i,Z⟩) tc];exact h.cmds i hi):p:=h
theorem Ep9(h:p:=by unfold Ig;simp only[ho,resolve,invoke,builtin,OH,Oi,OM,List.map_toArray,UB,Xn,hs,hx,hrun]):p:=h
theorem Ep_(h:p:=by obtain rfl:p=0:=U;have d4:xv 4=E I k:=hd.at 4 rfl;exact IQ ER (Eh O) (tR O d4 O SB.out) O):p:=h
theorem EqE(h:p:=by rw[List.getElem?_take,if_pos hi];simpa using ho):p:=h
theorem EqI(h:p:=by rintro e w2 ⟨rfl,rfl⟩;go_wp2_with fail;exact⟨⟨i+1,U,Ej,by rw[HS.out]⟩,Jb⟩):p:=h
theorem EqJ(h:p:=by rcases this with rfl|rfl|rfl<;>rfl):p:=h
theorem EqO(h:p:=by rintro e w2 ⟨rfl,r2,b2⟩;go_wp2;go_ret2;exact⟨_,O,by simpa using r2,bt B1 b2⟩):p:=h
theorem EqU(h:p:=by have h5:e.on<listed.size:=U;exact hr e.on U zD):p:=h
theorem EqX(h:p:=by rw[c6];refine h _ ⟨by simp only[size_put,hs],by simp only[Pg,A.df],Pi,Pj,mD rS⟩):p:=h
theorem EqZ(h:p:=by have h2:=hl e.on U;rw[IJ h1] at h2;have h3:e.on<listed.size:=U;simpa[h3] using h2):p:=h
theorem Eqa(h:p:=by have d16:xv 16=V (D ⟨gc,0,Z⟩):=hd.at 16 rfl;exact Et (by simp[go_sem,d16]) O):p:=h
theorem Eqb(h:p:=by obtain rfl:p=0:=U;have d18:xv 18=V (D ⟨gc,0,Z⟩):=hd.at 18 rfl;exact Et Mm O):p:=h
theorem Eqc(h:p:=by obtain rfl:p=0:=U;have d15:xv 15=V (D ⟨gs,0,Z⟩):=hd.at 15 rfl;exact Et xE O):p:=h
theorem Eqd(h:p:=by obtain rfl:p=0:=U;have d14:xv 14=V (D ⟨gs,0,Z⟩):=hd.at 14 rfl;exact Et Mk O):p:=h
theorem Eqf(h:p:=by obtain rfl:p=0:=U;have d13:xv 13=V (D ⟨gc,0,Z⟩):=hd.at 13 rfl;exact Et wK O):p:=h
theorem Eqg(h:p:=by obtain rfl:p=0:=U;have d11:xv 11=V (D ⟨gs,0,Z⟩):=hd.at 11 rfl;exact Et dS O):p:=h
theorem Eqh(h:p:=by obtain rfl:p=0:=U;have d10:xv 10=V (D ⟨gs,0,Z⟩):=hd.at 10 rfl;exact Et fF O):p:=h
theorem Eqi(h:p:=by exact⟨Ew (OC hn0) (XE (Jn _)),S1.out.B (Jn _),MM.out.trans (EA.ED (Jn _))⟩):p:=h
theorem Eqj(h:p:=by refine⟨fun h=> ?_,by show c.tok.e<=t2.e;omega⟩;have h2:0<=t2.o:=h;omega):p:=h
theorem Eqk(h:p:=by have e:(xs++ys).length=0:=AZ;have e2:xs++ys=[]:=ZP e;rw[e2];exact cu _ _ _ _):p:=h
theorem Eql(h:p:=by rw[<-af.out,IY,IY,cU,cU,ZG.length_eq];rfl):p:=h
theorem Eqm(h:p:=by refine⟨EI,?_,fun h=>U⟩;simp[go_sem,e0]):p:=h
theorem Eqn(h:p:=by exact(QW gb gm d.off n _ w hb hc hf).mono fun e w' ⟨he,hw⟩=>⟨he,Ak⟩):p:=h
theorem Eqo(h:p:=by unfold Ig;simp only[ho,h1,h2,OH,run_eqGuard_agg _ _ _ _ _ _ _ hm,OM,hq,Oi]):p:=h
theorem Eqp(h:p:=by exact⟨h,Zz _⟩):p:=h
theorem Eqq(h:p:=by rw[Ox] at this;exact this):p:=h
theorem Eqr(h:p:=by rw[if_pos hw];unfold dn;rw[hr];exact hc.mono fun e w' ⟨v,he,hb,h⟩=>P9):p:=h
theorem Eqs(h:p:=by exact(Gl ((l.take m).take i) 0 y a0 d (fun hmem=>P5 hnd hk hd hmem)).symm):p:=h
theorem Eqt(h:p:=by exact⟨O,u.out⟩):p:=h
theorem Equ(h:p:=by rw[this];simp[List.getElem_take,List.getD,JV (show i<zs.length from U)]):p:=h
theorem Eqv(h:p:=by rw[pJ _ _ _ _ hji];rw[aq EJ (fun e=>hji e.symm)] at hl;exact hr j hj hl):p:=h
theorem Eqw(h:p:=by have d1:v 6=V (D ⟨be,i*10,Z⟩):=hd.at 6 rfl;exact IE ZU (Eh O) XZ O):p:=h
theorem Eqx(h:p:=by go_wp2;go_ret;exact⟨Fk,O⟩):p:=h
theorem Eqy(h:p:=by go_wp2;go_end0;exact⟨O,O⟩):p:=h
theorem Eqz(h:p:=by rcases hv with rfl|rfl|rfl|rfl|rfl|rfl|rfl|rfl|rfl|rfl|rfl|rfl<;>rfl):p:=h
theorem EqA(h:p:=by have Xy:j=0\/j=1\/j=2:=U;subst hk;rcases Xy with rfl|rfl|rfl<;>rfl):p:=h
theorem EqB(h:p:=by exact(hU 0 1000 wq).mono fun e w2 ⟨v,he,hv,hb⟩=>⟨v,he,hb,hv⟩):p:=h
theorem EqC(h:p:=by rw[if_neg U,if_neg U,if_neg U,if_neg U,if_neg U,if_neg U,if_neg U]):p:=h
theorem EqD(h:p:=by have d7:v 7=Eu #[Ea Uy,Ec fr]:=hd.at 7 rfl;exact IQ ia (Eh O) iw O):p:=h
theorem EqF(h:p:=by clear hc hg;go_enter ly,lA;go_wp2;go_ret;exact⟨O,Y4.out _ _ _⟩):p:=h
theorem EqG(h:p:=by exact fun _=>rfl):p:=h
theorem EqH(h:p:=by exact EY (g:=w.heap.size+1) u.out U r):p:=h
theorem EqK(h:p:=by obtain⟨b,c,h1,h2,h3,h4⟩:=h;exact⟨b,c,h1,h2,h3,h4.B hb⟩):p:=h
theorem EqL(h:p:=by exact Et dS O):p:=h
theorem EqM(h:p:=by exact Et ct O):p:=h
theorem EqN(h:p:=by exact Et UW O):p:=h
theorem EqP(h:p:=by go_ret2;exact⟨O,O⟩):p:=h
theorem EqQ(h:p:=by exact fun ev h1 h2=>zJ):p:=h
theorem EqR(h:p:=by have:=List.length_take_le i S;have:=dM.out;have:=HL.out;omega):p:=h
theorem EqS(h:p:=by have d28:xv 28=Eu #[Ea rv,E I cd]:=hd.at 28 rfl;exact Et Mp O):p:=h
theorem EqT(h:p:=by have d20:xv 20=V (D ⟨gc,0,Z⟩):=hd.at 20 rfl;exact Et Dz O):p:=h
theorem EqV(h:p:=by have d20:xv 20=Eu #[Ea Ur,E I cd]:=hd.at 20 rfl;exact Et Dz O):p:=h
theorem EqW(h:p:=by have d15:xv 15=V (D ⟨gc,0,Z⟩):=hd.at 15 rfl;exact Et xE O):p:=h
theorem EqY(h:p:=by exact⟨Dv,L',s.only (J9 rv) kb U,m.only (J9 rv) U U kb.lt⟩):p:=h
theorem Eq0(h:p:=by have:=hc k p hp (ih (i-k) U k O U) e he hb;rwa [heq] at this):p:=h
theorem Eq1(h:p:=by exact h1 _ _ _ h hr):p:=h
theorem Eq2(h:p:=by simp only[In];exact⟨trivial,U⟩):p:=h
theorem Eq3(h:p:=by exact Et co O):p:=h
theorem Eq4(h:p:=by exact⟨h,ht,fun h=>UL⟩):p:=h
theorem Eq5(h:p:=by obtain⟨g,cs,e,k,p⟩:=h;exact⟨g,cs,e,k.B hb,p.B hb⟩):p:=h
theorem Eq6(h:p:=by rw[hrun] at hr;injection hr with _ hr;rw[hr];exact bel _):p:=h
theorem Eq7(h:p:=by go_wp2;go_ret;exact⟨⟨_,_,_,es,O,U,EE.out⟩,u.out⟩):p:=h
theorem Eq8(h:p:=by rw[hq i (.inl rfl)] at h;exact h):p:=h
theorem Eq9(h:p:=by rw[bJ Ov] at hu;cases hu):p:=h
theorem Eq_(h:p:=by rw[if_pos hw];unfold dn;rw[hr];exact⟨v,O,hT.1 _,h⟩):p:=h
theorem ErE(h:p:=by exact Et fF O):p:=h
theorem ErI(h:p:=by exact Et XQ O):p:=h
theorem ErJ(h:p:=by rcases h with rfl|rfl|rfl<;>rfl):p:=h
theorem ErO(h:p:=by simp[Lit.wf,IntKind.min,IntKind.max,ki,kh] at h;omega):p:=h
theorem ErU(h:p:=by simp only[mix,show¬i+k<i from U,if_false,held,hk,hd]):p:=h
theorem ErX(h:p:=by intro ev o w ho;unfold Ig;simp only[ho];simp[go_sem]):p:=h
theorem ErZ(h:p:=by go_wp2;go_ret;refine⟨u.out,?_⟩;rw[<-dG.out];rfl):p:=h
theorem Era(h:p:=by exact IE ZU (Eh O) oH O):p:=h
theorem Erb(h:p:=by exact absurd ⟨j,hj,hc⟩ hno):p:=h
theorem Erc(h:p:=by simp only[Bool.not_false,if_true,Oi,Bool.false_and]):p:=h
theorem Erd(h:p:=by go_wp2_with fail;refine ET (UQ O _ _ _) O ⟨O,O⟩):p:=h
theorem Erf(h:p:=by exact(CA.out wq).mono fun e w2 h=>⟨_,h.1,h.2,O⟩):p:=h
theorem Erg(h:p:=by rw[if_pos hw];unfold dn;rw[hr];exact⟨v,O,hb,h⟩):p:=h
theorem Erh(h:p:=by go_wp2;go_ret;exact⟨⟨_,_,O,XL _ _⟩,IU _ _⟩):p:=h
theorem Eri(h:p:=by rw[HE.out];rfl):p:=h
theorem Erj(h:p:=by have d13:xv 13=E I cd:=hd.at 13 rfl;exact Et wK O):p:=h
theorem Erk(h:p:=by rw[aq EJ e,hl j hj];congr 1;rw[eq_iff_iff];omega):p:=h
theorem Erl(h:p:=by rintro e w2 ⟨rfl,b2⟩;replace K2:=J<|K2.out.B b2;replace KT:=J<|KT.out.B b2;replace ON:=J<|ON.out.trans (E7.ED b2);replace RT:=J<|RT.out.B b2;clear b2;go_wp2_with (first|((with_reducible refine Io 32 ?_);refine I4 rfl 183 _ rfl (EF (Ia 0)) jw ?_)|(with_reducible refine wS (cs:=(EF (Ia 0))) OY K2 ?_ (ho:=Ja _) (hn:=Ja _) (h1:=ZY _)));refine ET (v:=Eu #[Ea (EF (Ia 0)),E I 14]) (dH OY O _ _ w.heap.size _ _ O O (K2.out.setRow _) (Ja _)) O ?_;exact EnA):p:=h
theorem Erm(h:p:=by have c0:=hm.cell 0;rw[Zq _ _ U,if_neg U,hk] at c0;have CF:=J<|fun W=>iy gm 1 W;have u:=J<|IU w.heap.size w;clear hm hk;go_enter iz,iA;exact Enn):p:=h
theorem Ern(h:p:=by have q5:(a !=165)=EJ:=uf;replace HF:Ed (f=dg (JI ([a,v]))):=J<|HF.out.trans yg;clear h5;go_wp2_with fail;refine(yd (D ⟨b,off,Z⟩) ([a,v]) 2 c _ td U (It HR.out Jc.out) U).mono ?_;rintro e W2 ⟨rfl,b2⟩;replace OW:=J<|XM OW.out b2;replace K2:=EH K2 b2;replace K3:=EH K3 b2;replace Jc:=EV Jc b2;clear b2 c0 OW;obtain⟨Iy,E2⟩:=Eo (#[E I 1,E I (JI ([a,v])),E I 0,G Z 0 0]:Array Y);exact Enk):p:=h
theorem Ero(h:p:=by intro v w' hb hr;obtain⟨gl,fs,e,m,lg,bx,kk⟩: ∃(gl:Nat) (fs:List (FD×Nat)),v 9=G (D ⟨gl,0,Z⟩) 2 2/\fs.map (·.1)=[Jj,IS]/\w.heap.size<=gl/\JB w' w.heap.size gm fs/\H w' gl (E5 fs).toArray 298:=hr 9 U;have dt:v 10=Ec EJ:=hr 10 U;exact Eno):p:=h
theorem Erp(h:p:=by go_enter Tryz.func76,Tryz.ntmps76;exact Enu):p:=h
theorem Erq(h:p:=by obtain⟨gl,fs,e,m,lg,bx,kk⟩: ∃(gl:Nat) (fs:List (FD×Nat)),v 8=G (D ⟨gl,0,Z⟩) 2 2/\fs.map (·.1)=[Jj,IS]/\w.heap.size<=gl/\JB w' w.heap.size gm fs/\H w' gl (E5 fs).toArray 298:=hd.at 8 rfl;exact En_):p:=h
theorem Err(h:p:=by have d2:v 2=V (D ⟨gm,3,Z⟩):=hd.at 2 rfl;refine J4 (f:=205) (args:= #[v 2]) (Eh O) Ez ?_;rw[d2];exact En4):p:=h
theorem Ers(h:p:=by have dt:v 10=Ec EJ:=hr 10 U;exact Eno):p:=h
theorem Ert(h:p:=by go_enter lX,lZ;exact Enu):p:=h
theorem Eru(h:p:=by go_wp2_with fail;refine(CO.out).mono ?_;rintro e w' ⟨rfl,rfl⟩;exact Enu):p:=h
theorem Erv(h:p:=by go_wp2_with fail;refine(gN _ _ _ N1.out).mono ?_;rintro e w' ⟨rfl,rfl⟩;go_wp2_with fail;refine(gN _ _ _ N2.out).mono ?_;exact Eoi):p:=h
theorem Erw(h:p:=by obtain rfl:i=n:=U;have t1:decide ((i:Int)<(i:Int))=EI:=IZ U;rw[show xs.take i=xs from OP v_,show Ug xs=r from hr.out.symm];exact Enu):p:=h
theorem Erx(h:p:=by obtain rfl:p=0:=U;have d5:xv 5=V (D ⟨gc,56,Z⟩):=hd.at 5 rfl;obtain⟨big,KB,O8⟩:=bK hp.2.1.core;exact Eov):p:=h
theorem Ery(h:p:=by have d6:v 6=V (D ⟨gm,3,Z⟩):=hd.at 6 rfl;refine J4 (f:=205) (args:= #[v 6]) (Eh O) Ez ?_;rw[d6];exact En4):p:=h
theorem Erz(h:p:=by subst he;have hrun:=run_loadVar_mid w g off t _ d (World.rangeAt_of_block hg off n) hu nX zL;exact Eoo):p:=h
theorem ErA(h:p:=by go_wp2_with fail;refine ET (v:=Ea #[E I 1,E I z,E I 0,G Z 0 0]) EEM O ?_;exact Epq):p:=h
theorem ErB(h:p:=by go_enter Tryz.func226,Tryz.ntmps226;exact Enq):p:=h
theorem ErC(h:p:=by go_enter Tryz.func180,Tryz.ntmps180;go_wp2;refine ET GM O ⟨O,?_⟩;exact EnL):p:=h
theorem ErD(h:p:=by go_enter Tryz.func146,Tryz.ntmps146;go_wp2;refine ET GK O ⟨O,?_⟩;exact EnL):p:=h
theorem ErF(h:p:=by go_wp2;refine ET GM O ⟨O,?_⟩;exact EnL):p:=h
theorem ErG(h:p:=by go_wp2;refine ET GK O ⟨O,?_⟩;exact EnL):p:=h
theorem ErH(h:p:=by refine(tf lo hi g gc gq gt gs c ns rs k 13 _ S1.out JQ).mono ?_;exact En9):p:=h
theorem ErK(h:p:=by refine JL (f:=66) (args:= #[E I 1,E I 1000]) (Eh O) Ez ?_;exact Eph):p:=h
theorem ErL(h:p:=by have:=Array.all_eq_true_iff_forall_mem.1 h1.1 e he;exact EpY):p:=h
theorem ErM(h:p:=by clear K8 K7 hx;go_enter Tryz.func223,Tryz.ntmps223;exact Enq):p:=h
theorem ErN(h:p:=by have d11:xv 11=Eu #[Ea rv,E I cd]:=hd.at 11 rfl;exact EqL):p:=h
theorem ErP(h:p:=by have d11:xv 11=Eu #[Ea mv,E I cd]:=hd.at 11 rfl;exact EqL):p:=h
theorem ErQ(h:p:=by clear KT hx;go_enter Tryz.func225,Tryz.ntmps225;exact Enq):p:=h
theorem ErR(h:p:=by clear KT hx;go_enter Tryz.func222,Tryz.ntmps222;exact Enq):p:=h
theorem ErS(h:p:=by have mN:=J<|PS.out.same ST.out (fun h=>U);exact Eoy):p:=h
theorem ErT(h:p:=by go_enter Tryz.func59,Tryz.ntmps59;go_wp2;exact Epg):p:=h
theorem ErV(h:p:=by clear e1 e2 K h;go_enter Tryz.func56,Tryz.ntmps56;exact Eru):p:=h
end Go.Proofs.YtclmichaaiohjaaGreatDoor
