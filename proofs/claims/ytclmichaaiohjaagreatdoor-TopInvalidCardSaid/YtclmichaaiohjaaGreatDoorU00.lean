import Derived.WalkKit
import Derived.WalkSpells
import Derived.WalkLawsBesides
import Derived.Lib.Hide
import Derived.ProofKit
import Derived.OpenShut
import Derived.ChangeOld
import Derived.Below
import Derived.Deep.QuietTactic
import Derived.RegionTactic
import Derived.BigRegion
import Derived.BigQuiet
import Derived.Deep.RegionWith
import Derived.Laws.Rows
import Derived.Laws.Tables
import Derived.Laws.CopyOwn
import Derived.Deep.WholeRow
import Derived.KernelRfl
import Derived.Orders
import Derived.Deep.Quiet
import Derived.Deep.MidRow
import Derived.Test.YtclmichaaiohjaaGreatDoorProg
set_option maxRecDepth 100000
set_option linter.unusedVariables false
set_option linter.unusedSimpArgs false
set_option maxHeartbeats 6400000
namespace Go.Proofs.YtclmichaaiohjaaGreatDoor
open RowKit
open _root_.Array renaming replicate->au,getElem?_eq_some_iff->J4
open Bool renaming true->EI,false->V,and_eq_true->UJ,false_eq_true->jq
open Go renaming World->M,Value->G,Addr->Ev,bodyPost_ret->EV,results->UW,execOp->Ig,wpList->Ih,getD_set_ne->Z4,mem_ready->Zt,info_parts->bZ,below_setRow->E6,wp_loop_rounds->OJ,rounds_succ->Ib,results_none->UC,wpList_store_mid->Um
open Act renaming put->Ic
open Builtin renaming append_->bX
open Ending renaming returned->Eh
open Instr renaming loadAt->dZ,sureAddr->bI
open IntKind renaming wrap->na,bits->jZ,signed->ja,i64->I
open Lib renaming hid->J
open Obj renaming cells->Ec
open Oper renaming wp->cE
open Go.Proofs.Tryz renaming underlying23->ba,func156->jB,ntmps156->jC,func160->gI,ntmps160->gJ,func138->jM,ntmps138->jN
open Result renaming andThen_ok->On
open RowKit renaming Below->Ir,Hid->Ed,intOf->I5
open RowKit.Below renaming refl->E_,heap_setCell->ax,alloc->J1,setCell->J5,size->UQ
open Sem renaming run_bind->Om,run_pure->Oa
open Value renaming bool->EU,int->E,agg->EZ,slice->EJ,tuple->Es,pointer->Y,oneCell'->Ov,ownBlock->lu
open World renaming cell?->iA
open Int renaming le_refl->X6
open List renaming getElem?_eq_getElem->JY,range->UM,getElem?_eq_some_iff->Xr,take_append_drop->dR,take_succ_cons->Is,length_take->ZJ,take_of_length_le->OV,getD_eq_getElem?_getD->Uj,map_cons->Xs,map_nil->Zu,take_zero->Io,getElem?_toArray->J0,setIfInBounds_toArray->Ii,length_append->I1,length_cons->Zw,getElem?_map->ls,append_assoc->UY,set_cons_succ->IJ,set_cons_zero->IU,map_append->jr,drop_succ_cons->IS,drop_zero->IM,append_nil->fX
open List.Perm renaming refl->aN
open Nat renaming le_trans->EB,le_refl->E9,zero_add->J9,add_assoc->iq,le_of_eq->Ud
open Ne renaming symm->X1
open Option renaming some->X,none->Z,map_some->jb
variable{p:Prop}
theorem D(h:p:=by omega):p:=h
theorem Ef(h:p:=by kernel_rfl):p:=h
theorem Eb(h:p:=by decide):p:=h
theorem by3(h:p:=by subst hW;repeat (first|exact H.new _ _ _|exact H.new' _ _ _ (by simp)|refine H.alloc ?_ _)):p:=h
theorem Ew(h:p:=by simp[go_sem]):p:=h
theorem by5(h:p:=by(repeat (first|exact E_ _ _|(refine J1 ?_ (by simp<;>omega) _)|(refine J5 ?_ (by simp<;>omega) _)))):p:=h
theorem Ej(h:p:=by simp):p:=h
theorem by7(h:p:=by subst hW;(repeat (first|exact E_ _ _|(refine J1 ?_ (by simp<;>omega) _)|(refine J5 ?_ (by simp<;>omega) _)))):p:=h
theorem by8(h:p:=by rw[show(⟨gb,0,Z⟩:Ev).add j=⟨gb,j,Z⟩ from by unfold Addr.add;split<;>simp_all];rw[H.cell KB.out,J0];exact hu):p:=h
theorem UP(h:p:=by with_unfolding_all (simp[Ov])):p:=h
theorem Xu(h:p:=by with_unfolding_all (rw[Oc,dS])):p:=h
theorem IC(h:p:=by simp<;>omega):p:=h
theorem JK(h:p:=by have:=HL.out;omega):p:=h
theorem Xo(h:p:=by unfold Addr.add;split<;>simp_all):p:=h
theorem J2(h:p:=by have:=HN.out;omega):p:=h
theorem J6(h:p:=by simp[I5];omega):p:=h
theorem Oy(h:p:=by unfold maxLen;omega):p:=h
theorem ZN(h:p:=by intro e;subst e;revert hS;decide):p:=h
theorem Ejy(h:p:=by rw[show(⟨gb,0,Z⟩:Ev).add j=⟨gb,j,Z⟩ from by unfold Addr.add;split<;>simp_all];rw[H.cell KI.out,J0];exact hu):p:=h
theorem Z2(h:p:=by unfold Ig;simp[go_sem,h]):p:=h
theorem Hv(h:p:=by have:=H.new (w.alloc (Ec #[E I 0,E I 0,E I 0,EJ Z 0 0] 101)) #[E I 0,E I 0,E I 0,EJ Z 0 0] 101;simpa using this):p:=h
theorem Jm(h:p:=by simp;omega):p:=h
theorem Uc(h:p:=by simp[go_sem,d0]):p:=h
theorem ma(h:p:=by have:=S1.out.bL;have:=S1.out.fo;have:=MM.out.size;omega):p:=h
theorem gW(h:p:=by have:=LT.out;have:=B.out.size;omega):p:=h
theorem U3(h:p:=by simp[go_sem,d4]):p:=h
theorem Ejz(h:p:=by rw[hv1];exact XT K 1 (by omega) (by omega)):p:=h
theorem Xn(h:p:=by subst hr;exact h):p:=h
theorem UB(h:p:=by simpa using h):p:=h
theorem o_(h:p:=by obtain⟨b,h1,h2,h3⟩:=h;exact⟨b,h1,h2,H.u h3 hr⟩):p:=h
theorem AN(h:p:=by have:=HL.out;have:=Hn.out;have:=AK.out;have:=kn.out;simp only[I1];omega):p:=h
theorem dK(h:p:=by rw[Ik];simp[Ov]):p:=h
theorem Xl(h:p:=by simp[go_sem,d1]):p:=h
theorem gV(h:p:=by have:=LT.out;have:=XZ.out;omega):p:=h
theorem mF(h:p:=by with_unfolding_all (first|rfl|exact mD.out)):p:=h
theorem XO(h:p:=by simpa using hi):p:=h
theorem O0(h:p:=by simp[J8]):p:=h
theorem Zc(h:p:=by simp[go_sem,d3]):p:=h
theorem aR(h:p:=by have:=LK.out;omega):p:=h
theorem ZW(h:p:=by simp[go_sem,d11]):p:=h
theorem ZB(h:p:=by simp only;omega):p:=h
theorem cR(h:p:=by simp[Ov]):p:=h
theorem EjA(h:p:=by rw[oI _ _ _ _ (by simp[OD]),OD]):p:=h
theorem oM(h:p:=by obtain⟨_,_,KQ,-,-⟩:=Q;have:=KQ.lt;omega):p:=h
theorem bv(h:p:=by simp[go_sem,d2,cc]):p:=h
theorem Z0(h:p:=by rw[HRR.out];rfl):p:=h
theorem qF(h:p:=by with_unfolding_all (rw[Cv,dS])):p:=h
theorem fj(h:p:=by simp[EM.v,Xh.v,Pt.v]):p:=h
theorem EjB(h:p:=by rw[hsm.out];exact S1.out.core.cell 7 rfl 0 (by simp)):p:=h
theorem aG(h:p:=by simp[go_sem,d10]):p:=h
theorem Af(h:p:=by obtain⟨b,rv,h1,h2,h3,h4⟩:=h;exact⟨b,rv,h1,h2,h3,H.u h4 hr⟩):p:=h
theorem aJ(h:p:=by simp[go_sem,d5]):p:=h
theorem Xx(h:p:=by simp[EM.v]):p:=h
theorem jm(h:p:=by cases d<;>first|rfl|cases hd):p:=h
theorem AM(h:p:=by have:=HN.out;have:=iR.out;have:=oY.out;have:=kn.out;omega):p:=h
theorem mR(h:p:=by subst hb;exact E_ _ _):p:=h
theorem N8(h:p:=by rw[List.take_succ_eq_append_getElem hil,List.flatten_append,List.flatten_cons,List.flatten_nil,fX]):p:=h
theorem EjC(h:p:=by rw[bQ.out];exact .inr (.inr ⟨U,h4,by show e<65535;omega,4,by omega,by omega,fun e4=>h4 e4.symm,z3.out.2⟩)):p:=h
theorem sC(h:p:=by simp (disch:=omega) only[Z1,z0]):p:=h
theorem cu(h:p:=by simp[go_sem,d8]):p:=h
theorem cW(h:p:=by simpa using hcd):p:=h
theorem vX(h:p:=by have:=HR.out.symm.trans hc;injection this):p:=h
theorem Vr(h:p:=by have:=Hn.out;have:=AK.out;have:=kn.out;have:=Edv kw.out;simp only[I1];omega):p:=h
theorem Uq(h:p:=by cases h):p:=h
theorem nV(h:p:=by simp[go_sem,d3,d7,ID,EY]):p:=h
theorem zW(h:p:=by have:=fd.out.e.1;show _<=e;simp only at this;omega):p:=h
theorem nU(h:p:=by simp only[size_put];omega):p:=h
theorem Ad(h:p:=by rw[hPQ] at h;obtain⟨t2,-,h2,h3,-⟩:=h;exact⟨h2,h3⟩):p:=h
theorem rY(h:p:=by rw[fX];exact S1.out):p:=h
theorem EjD(h:p:=by have:=(H.cell kb i).trans (by simpa using hi);simpa using this):p:=h
theorem sB(h:p:=by rcases hS with rfl|rfl<;>decide):p:=h
theorem ng(h:p:=by rw[ZJ];omega):p:=h
theorem dF(h:p:=by simp[EM.end_]):p:=h
theorem Vs(h:p:=by obtain⟨x,hx,h2⟩:=Vl.out h;exact⟨x,List.mem_append_left _ (List.mem_append_left _ hx),h2⟩):p:=h
theorem Hg(h:p:=by have h:=IG;unfold EM.a at h;injection h with h;rw[<-h];rfl):p:=h
theorem Do(h:p:=by rw[hl,hcs,<-Nat.add_mul];exact Nat.mul_le_mul_right _ hroom):p:=h
theorem GH(h:p:=by have h:=OC 0 _ U;rw[Jw] at h;exact h.trans GG.out):p:=h
theorem f_(h:p:=by simp[go_sem,d7]):p:=h
theorem kA(h:p:=by simp[go_sem,d1,cc]):p:=h
theorem sQ(h:p:=by rw[ZJ] at hj;omega):p:=h
theorem lB(h:p:=by rw[HN.out];exact hlt):p:=h
theorem z4(h:p:=by obtain⟨cd,e,hk⟩:=h;exact⟨cd,e,hk.rel hr⟩):p:=h
theorem u_(h:p:=by have:=HN.out;have:=iQ.out;omega):p:=h
theorem w_(h:p:=by unfold Ig;simp[go_sem,h1,h2]):p:=h
theorem EjF(h:p:=by cases e<;>first|exact he|exact he.elim|exact(by obtain⟨_,_,h⟩:=he;exact h.elim)):p:=h
theorem Df(h:p:=by simp[na,jZ,ja];omega):p:=h
theorem oJ(h:p:=by simp[OD,dS]):p:=h
theorem W_(h:p:=by obtain⟨gc,gt,h1,h2,h3,h4,h5⟩:=h;exact⟨gc,gt,h1,h2,h3,h4.u hr,h5.u hr⟩):p:=h
theorem Dn(h:p:=by have hb:=hbytes;simp only[J9] at hb;omega):p:=h
theorem xD(h:p:=by rw[hr];exact d_ _ _ _ _ _ _ _ _):p:=h
theorem Gg(h:p:=by simp only[Zw,List.length_nil];omega):p:=h
theorem sV(h:p:=by rw[hi,Array.length_toList,hn]):p:=h
theorem xa(h:p:=by simp[UW,Tryz.results173,go_sem]):p:=h
theorem xC(h:p:=by simp[UW,Tryz.results140,go_sem]):p:=h
theorem EjG(h:p:=by rw[bQ.out];exact .inl ⟨U,0,0,by omega,by omega,by omega,by omega,U⟩):p:=h
theorem dH(h:p:=by rw[Ik];rfl):p:=h
theorem RV(h:p:=by have:=Ik;unfold EM.a at this;injection this with this;exact this.symm):p:=h
theorem Sr(h:p:=by have:=IG;unfold EM.a at this;injection this with this;exact this.symm):p:=h
theorem EjH(h:p:=by rw[hsm.out];exact(S1.out.u (EL y)).core.cell 7 rfl 0 (by simp)):p:=h
theorem il(h:p:=by simp[go_sem,e]):p:=h
theorem jU(h:p:=by rw[HX.out];rfl):p:=h
theorem jX(h:p:=by rw[HY.out];rfl):p:=h
theorem EjK(h:p:=by rw[bQ.out];exact .inr (.inr ⟨U,h4,by show e<65535;omega,nP.out⟩)):p:=h
theorem wv(h:p:=by rintro rfl;revert hS;decide):p:=h
theorem ww(h:p:=by rintro⟨_,_,⟨_,h⟩,_⟩;cases h):p:=h
theorem pE(h:p:=by have:=mc.out;omega):p:=h
theorem yu(h:p:=by rw[ZJ,nN];rfl):p:=h
theorem fi(h:p:=by simp[I5]):p:=h
theorem rO(h:p:=by have:=h.lo2;simp;omega):p:=h
theorem fl(h:p:=by rw[Ok.out]):p:=h
theorem DD(h:p:=by with_unfolding_all (rw[Cv,HS.out.1])):p:=h
theorem mf(h:p:=by simp[go_sem,d17]):p:=h
theorem jf(h:p:=by simpa using hp):p:=h
theorem P2(h:p:=by rw[<-yW.out,ls,JY hil];rfl):p:=h
theorem Kr(h:p:=by obtain⟨b,h1,h2⟩:=h;exact⟨b,h1,h2.u hr⟩):p:=h
theorem sj(h:p:=by rintro⟨_,_,h⟩;exact h):p:=h
theorem Vf(h:p:=by have:=HL.out;have:=mB.out;simp only[I1];omega):p:=h
theorem Bz(h:p:=by rw[By.out];exact E9 _):p:=h
theorem Vq(h:p:=by have:=iR.out;have:=oY.out;have:=Vo.out;have:=kn.out;omega):p:=h
theorem Wl(h:p:=by have:=H.new (w.alloc (Ec cv 48)) zt 43;simpa using this):p:=h
theorem D2(h:p:=by with_unfolding_all (rw[Oc,T8.out])):p:=h
theorem D5(h:p:=by with_unfolding_all (rw[Oc,HC.out])):p:=h
theorem D6(h:p:=by with_unfolding_all (rw[Oc,TL.out])):p:=h
theorem zx(h:p:=by rw[HN.out];exact E9 _):p:=h
theorem zP(h:p:=by injection e with e;injection e):p:=h
theorem T6(h:p:=by have:=HN.out;have:=HM.out;have:=iR.out;have:=pu.out;omega):p:=h
theorem EjL(h:p:=by rw[hall j hj,decide_eq_true (by omega)]):p:=h
theorem kB(h:p:=by simp[c0,I4]):p:=h
theorem Ac(h:p:=by rw[hPQ];exact⟨t2,h1,h2,h3,h4⟩):p:=h
theorem rA(h:p:=by have:=iQ.out;omega):p:=h
theorem LL(h:p:=by simp (disch:=omega) only[Z1,A.t2]):p:=h
theorem LM(h:p:=by simp (disch:=omega) only[Z1,A.t3]):p:=h
theorem SJ(h:p:=by have h1:=aS.out;have h2:=uL.out;have h3:=LK.out;omega):p:=h
theorem VB(h:p:=by match i with|0=>rfl|1=>rfl|2=>rfl|3=>rfl|4=>rfl|_+5=>rfl):p:=h
theorem hU(h:p:=by rw[hk];rfl):p:=h
theorem C_(h:p:=by simp[UW,Tryz.results148,go_sem]):p:=h
theorem Dg(h:p:=by simp[UW,Tryz.results146,go_sem]):p:=h
theorem Dh(h:p:=by simp[UW,Tryz.results150,go_sem]):p:=h
theorem Di(h:p:=by simp[UW,Tryz.results180,go_sem]):p:=h
theorem NZ(h:p:=by subst hw;exact(E_ _ _).alloc (E9 _) _):p:=h
theorem Pg(h:p:=by have:=tj g T ((i:Int)+1) W hW h;rwa [hof] at this):p:=h
theorem AZ(h:p:=by have:=S.core.ok.tok.e;omega):p:=h
theorem Lv(h:p:=by have:=B.out.size;have:=HN.out;omega):p:=h
theorem L6(h:p:=by have:=B7.out.size;have:=HN.out;omega):p:=h
theorem nS(h:p:=by simp[go_sem,d6]):p:=h
theorem nW(h:p:=by simp[go_sem,d9]):p:=h
theorem Hw(h:p:=by simp[UW,Tryz.results83,go_sem]):p:=h
theorem wO(h:p:=by rw[iF,if_pos h5]):p:=h
theorem PB(h:p:=by rw[D_,hk.cell j,J0];exact hu):p:=h
theorem TV(h:p:=by have h2:=AB.2.1;unfold bz at h2;simp at h2;omega):p:=h
theorem dN(h:p:=by simp[c0]):p:=h
theorem EjM(h:p:=by simpa only[hq 25 (by simp),hq 28 (by simp)] using h):p:=h
theorem Yg(h:p:=by obtain⟨i,z,h1,h2,h3,-⟩:=Yc;exact⟨i,z,h1,h2,h3⟩):p:=h
theorem zQ(h:p:=by with_unfolding_all (simp)):p:=h
theorem WY(h:p:=by obtain⟨gt,h1,h2,h3⟩:=h;exact⟨gt,h1,h2,h3.u hr⟩):p:=h
theorem fF(h:p:=by rw[hi,hn]):p:=h
theorem FI(h:p:=by simp[go_sem,d3,d7,d11,ID,EY]):p:=h
theorem nm(h:p:=by simpa using hs):p:=h
theorem qJ(h:p:=by simp at hi;omega):p:=h
theorem qu(h:p:=by rw[HN.out];omega):p:=h
theorem rI(h:p:=by rw[OD];omega):p:=h
theorem Gm(h:p:=by subst hW;exact Er w2 _):p:=h
theorem Gn(h:p:=by subst hW;exact Er w4 _):p:=h
theorem GB(h:p:=by have:=HN.out;have:=mc.out;omega):p:=h
theorem rD(h:p:=by simp[go_sem,d15]):p:=h
theorem EjN(h:p:=by rw[hv2];exact XT K 2 (by omega) (by omega)):p:=h
theorem vN(h:p:=by have:=ZF.out;omega):p:=h
theorem MT(h:p:=by rw[<-hn];exact(Xr.1 hi).1):p:=h
theorem MV(h:p:=by rw[<-hn];exact(Xr.1 hj).1):p:=h
theorem Q5(h:p:=by obtain⟨A,c,e,ho⟩:=h;exact⟨A,c,e,EQ ho hr⟩):p:=h
theorem Vn(h:p:=by rw[I1];have:=AK.out;simp;omega):p:=h
theorem DX(h:p:=by rw[hw];exact Bool.false_ne_true):p:=h
theorem GZ(h:p:=by subst hW;exact Er w _):p:=h
theorem Md(h:p:=by have:=(Xr.1 hk).1;omega):p:=h
theorem xL(h:p:=by unfold FD.set;rw[h];rfl):p:=h
theorem xN(h:p:=by unfold FD.box;rw[h];rfl):p:=h
theorem N9(h:p:=by rw[<-List.flatten_append,dR]):p:=h
theorem N_(h:p:=by rw[HST.out,I1,yh.out,yi.out]):p:=h
theorem T9(h:p:=by have:=HM.out;have:=iR.out;have:=pu.out;omega):p:=h
theorem B_(h:p:=by rw[Jj.wK];omega):p:=h
theorem M7(h:p:=by intro Y3 hu;simp at hu;obtain⟨a,_,rfl⟩:=hu;rfl):p:=h
theorem Dl(h:p:=by simp only[maxLen] at h63;omega):p:=h
theorem uK(h:p:=by have:=HB.out;omega):p:=h
theorem R_(h:p:=by rw[bQ.out];exact .inr (.inl ⟨U,h4,he,U⟩)):p:=h
theorem vO(h:p:=by simp[go_sem,d9,cc]):p:=h
theorem sO(h:p:=by rw[Ik.out];rfl):p:=h
theorem LU(h:p:=by simpa[lu] using e2):p:=h
theorem fR(h:p:=by simp[h4]):p:=h
theorem N0(h:p:=by with_unfolding_all (rw[Oc,qD])):p:=h
theorem BI(h:p:=by first|rfl|(rw[t1];rfl)):p:=h
theorem EjP(h:p:=by rw[iF,if_neg (by omega)]):p:=h
theorem Th(h:p:=by unfold UK;rw[jr];exact XR):p:=h
theorem qn(h:p:=by simpa using hq):p:=h
theorem rC(h:p:=by simp[EM.pass]):p:=h
theorem AC(h:p:=by rw[ZQ.out];exact hlt):p:=h
theorem WC(h:p:=by rw[pC _ _ _ _ U Wz.out.1];omega):p:=h
theorem YV(h:p:=by rw[hc i h1 h2];unfold xJ;simp only[e];rfl):p:=h
theorem Sn(h:p:=by have h:=Zq W q;rw[Ug,hpv] at h;exact h):p:=h
theorem ju(h:p:=by simp[EN]):p:=h
theorem lf(h:p:=by rw[he];rfl):p:=h
theorem NG(h:p:=by with_unfolding_all (rw[Oc,HL.out])):p:=h
theorem Pb(h:p:=by with_unfolding_all (rw[Oc,KL.out])):p:=h
theorem Pc(h:p:=by with_unfolding_all (rw[Oc,AL.out])):p:=h
theorem Ql(h:p:=by with_unfolding_all (rw[Oc,PL.out])):p:=h
theorem Qm(h:p:=by with_unfolding_all (rw[Oc,RL.out])):p:=h
theorem SI(h:p:=by have h1:=aS.out;have h2:=uL.out;omega):p:=h
theorem uT(h:p:=by simp[go_sem,d13]):p:=h
theorem mg(h:p:=by simp[I4]):p:=h
theorem WU(h:p:=by cases e<;>first|exact ih _ _ he|exact he):p:=h
theorem Dc(h:p:=by simp[One.v,Ov]):p:=h
theorem QZ(h:p:=by simp[ET.nu h i,Ox,(h.E5 i).len]):p:=h
theorem Tq(h:p:=by simp[gP,fy,a0,b0,a1,b1,a2,b2,a3,b3]):p:=h
theorem Kg(h:p:=by rw[hr.out,AT.out.2 hp];rfl):p:=h
theorem Q3(h:p:=by obtain⟨b,e,hk⟩:=h;exact⟨b,e,hr _ _ hk⟩):p:=h
theorem Ag(h:p:=by simp[go_sem,d12,cc]):p:=h
theorem Aj(h:p:=by simp[go_sem,d19,cc]):p:=h
theorem Bf(h:p:=by simp[go_sem,d2,t50]):p:=h
theorem Gh(h:p:=by rw[hp.length_eq];exact k2):p:=h
theorem R9(h:p:=by have:=HB.out;unfold sat;split<;>omega):p:=h
theorem Sj(h:p:=by have h:=Zq W q;rw[Ug] at h;exact h):p:=h
theorem S_(h:p:=by rw[List.eq_of_mem_replicate hx];omega):p:=h
theorem xk(h:p:=by simpa[h5] using h3):p:=h
theorem MY(h:p:=by rw[bi,ZJ];omega):p:=h
theorem M0(h:p:=by simp[UW,Tryz.results104,go_sem]):p:=h
theorem xQ(h:p:=by rw[<-hw];exact xP):p:=h
theorem rE(h:p:=by simp[OD]):p:=h
theorem zc(h:p:=by have:=h3.2 h;omega):p:=h
theorem rX(h:p:=by simp[HN.out]):p:=h
theorem Rq(h:p:=by subst h2;exact⟨h1,KO,E_ _ _⟩):p:=h
theorem zY(h:p:=by show e<65535;omega):p:=h
theorem z5(h:p:=by simp[go_sem,d6,cc]):p:=h
theorem AU(h:p:=by simp[Pt.hold,I4]):p:=h
theorem Aa(h:p:=by simp[go_sem,d8,cc]):p:=h
theorem VC(h:p:=by simp[UW,Tryz.results117,go_sem]):p:=h
theorem Bd(h:p:=by simp[go_sem,e1,d2]):p:=h
theorem WI(h:p:=by rcases hF with rfl|⟨l,rfl⟩<;>trivial):p:=h
theorem Lx(h:p:=by rw[hzs];exact BK):p:=h
theorem sM(h:p:=by simpa using ho):p:=h
theorem M9(h:p:=by simp only[I1];omega):p:=h
theorem Wh(h:p:=by rcases hS with rfl|rfl|rfl<;>decide):p:=h
theorem Yf(h:p:=by have:=bR.out;have:=K1.out.lt;omega):p:=h
theorem Ds(h:p:=by unfold FD.get;rw[h];rfl):p:=h
theorem xB(h:p:=by simp[One.v];omega):p:=h
theorem zT(h:p:=by have:=hb.lt;omega):p:=h
theorem T7(h:p:=by have:=iR.out;have:=vx.out;omega):p:=h
theorem Vm(h:p:=by have:=oY.out;have:=vx.out;omega):p:=h
theorem FH(h:p:=by rw[Oc,dS]):p:=h
theorem QN(h:p:=by unfold aL pn;rw[p0,p1,p2,p3,p4]):p:=h
theorem Pz(h:p:=by simp only[List.length_nil];omega):p:=h
theorem Rt(h:p:=by subst hW;exact Er wr _):p:=h
theorem SE(h:p:=by subst hW;exact Er w7 _):p:=h
theorem Sg(h:p:=by subst hW;exact Er w6 _):p:=h
theorem EjQ(h:p:=by rw[hq 14 (by simp)] at h;exact h):p:=h
theorem Ak(h:p:=by simp[go_sem,e25]):p:=h
theorem EjR(h:p:=by rw[hq 31 (by simp)] at h;exact h):p:=h
theorem Al(h:p:=by simp[go_sem,d20]):p:=h
theorem WF(h:p:=by unfold maxLen;have:=NN.out;omega):p:=h
theorem Cm(h:p:=by simp[X_];omega):p:=h
theorem ny(h:p:=by simp[Ox]):p:=h
theorem PD(h:p:=by rw[I1];exact h2):p:=h
theorem Ru(h:p:=by rw[cS.out];exact E9 _):p:=h
theorem T5(h:p:=by rw[<-HE.out.1];exact HT2.out.2.2):p:=h
theorem T_(h:p:=by rw[<-iq];exact S8.out):p:=h
theorem xm(h:p:=by simpa using hmn):p:=h
theorem DK(h:p:=by rw[HM.out];exact hlt):p:=h
theorem Fb(h:p:=by rw[HN.out];exact hin):p:=h
theorem EjS(h:p:=by rw[Fg,if_pos (by omega)]):p:=h
theorem Hj(h:p:=by rw[hn];exact sE.out):p:=h
theorem VV(h:p:=by rw[hr.out];simp[mK,OZ, *]):p:=h
theorem WJ(h:p:=by obtain⟨_,_,h⟩:=he;exact h.elim):p:=h
theorem Lc(h:p:=by simpa[Jl] using K):p:=h
theorem Cl(h:p:=by simp[xI,I4]):p:=h
theorem CY(h:p:=by simp[World.setCell]):p:=h
theorem GL(h:p:=by simp[go_sem,d16,cc]):p:=h
theorem GP(h:p:=by simp[go_sem,d22,cc]):p:=h
theorem Ht(h:p:=by simp[go_sem,d13,cc]):p:=h
theorem Lr(h:p:=by simp[c0,DO,I4]):p:=h
theorem xn(h:p:=by simpa using hj):p:=h
theorem xy(h:p:=by simpa using hc):p:=h
theorem NK(h:p:=by rw[<-hW];unfold U1;omega):p:=h
theorem Ah(h:p:=by simpa using nn):p:=h
theorem qX(h:p:=by simp at h):p:=h
theorem Mt(h:p:=by rcases v with _|⟨h,s⟩<;>rfl):p:=h
theorem Dm(h:p:=by simpa using hown.1):p:=h
theorem DC(h:p:=by rw[HS.out.1];omega):p:=h
theorem Fy(h:p:=by simp[go_sem,d4,cc]):p:=h
theorem Kt(h:p:=by simp[go_sem,d0,cc]):p:=h
theorem Ku(h:p:=by simp[go_sem,e1,e2]):p:=h
theorem Ky(h:p:=by simp[go_sem,e1,d6]):p:=h
theorem Kz(h:p:=by simp[go_sem,d4,d9]):p:=h
theorem Mg(h:p:=by subst he;exact⟨v,U,hb,h⟩):p:=h
theorem BH(h:p:=by simp[c0,gU]):p:=h
theorem sH(h:p:=by simp at hx):p:=h
theorem tU(h:p:=by rw[hr];rfl):p:=h
theorem vE(h:p:=by simp[Pt.v]):p:=h
theorem wI(h:p:=by rw[h5];rfl):p:=h
theorem Dj(h:p:=by simpa using hown):p:=h
theorem xK(h:p:=by injection hv):p:=h
theorem DB(h:p:=by rw[HL.out];omega):p:=h
theorem DL(h:p:=by rw[HM.out];omega):p:=h
theorem Gc(h:p:=by have:=K.lt;omega):p:=h
theorem rp(h:p:=by simp[h1]):p:=h
theorem Gv(h:p:=by simp[go_sem,e11]):p:=h
theorem GC(h:p:=by simp[go_sem,e15]):p:=h
theorem GK(h:p:=by simp[go_sem,d14]):p:=h
theorem GM(h:p:=by simp[go_sem,d18]):p:=h
theorem GT(h:p:=by simp[go_sem,d28]):p:=h
theorem G6(h:p:=by simp[go_sem,d26]):p:=h
theorem rV(h:p:=by simp[h0]):p:=h
theorem A_(h:p:=by rw[<-wX.out]):p:=h
theorem bu(h:p:=by rfl):p:=h
theorem GE(h:p:=by simp[go_sem,d2]):p:=h
theorem Gy(h:p:=by rw[he];exact hk):p:=h
theorem Kf(h:p:=by rw[AT.out.1,hp]):p:=h
theorem xF(h:p:=by rw[h2];simp):p:=h
theorem y_(h:p:=by simp[JC.v]):p:=h
theorem zV(h:p:=by rw[Uf.out]):p:=h
theorem td(h:p:=by simp[hx]):p:=h
theorem wJ(h:p:=by simp[h5]):p:=h
theorem Eo{α}(a:α):∃b,b=a:=⟨a,rfl⟩
theorem OQ{α}(a:α):∃b,a=b:=⟨a,rfl⟩
@[reducible]def Ek(w w':M):Prop:=Ir w.heap.size w w'
theorem U{α:Sort _}{a:α}:a=a:=rfl
theorem IE[Decidable p](h:p):decide p=true:=decide_eq_true h
theorem Ia[Decidable p](h:¬p):decide p=false:=decide_eq_false h
theorem EjT(h:p:=by go_wp2_with (with_reducible refine wA fE (Ey.mk ?_));apply Et;have K2:=J<|H.new w Ju 298;have B:=J<|Er w (Ec Ju 298);have l1:w.heap.size<(w.alloc (Ec Ju 298)).heap.size:=Ej;generalize w.alloc (Ec Ju 298)=w1 at*;go_wp2_with fail;refine(CN.out _).mono ?_;rintro e w2 ⟨v,rfl,⟨gb,rfl,lb,kb⟩,b2⟩;replace K2:=J<|K2.out.u b2;replace B:=EW B b2;have O1:=J<|fT d gb;have Ut:Ed ((ID d gb).size=5):=J U;have HB:Ed (∀W:M,X2 W d gm gb->FV W w.heap.size gm d (EZ (ID d gb))):=J fun W h=>⟨gb,U,D,h⟩;generalize ID d gb=fv at*;clear b2 CN;go_wp2_with (with_reducible refine wS (cs:=fv) Xj K2 ?_ (hn:=Ut.out) (h1:=O1.out));refine EV (v:=EZ fv) (JB Xj U _ _ (w.heap.size) _ U (K2.out.setRow _) Ut.out) U ⟨_,U,HB.out _ (H.setRow_other kb _ _ D),E6 B.out D _⟩):p:=h
theorem EjV(h:p:=by rw[<-Ik];have mD:=TS;clear TS TO Ok;have TS:Ed (Jx.size=4):=J dH;have TO:Ed (Jx.all (·.oneCell')=EI):=J dK;have Ok:=J Ik;clear Ik;have OW:=J<|XY W2 w.heap.size;go_wp2_with (with_reducible refine wS (cs:=Jx) JV K3 (Ey.mk ?_) (ho:=mF) (hn:=TS.out) (h1:=TO.out));apply Et;have hne:w.heap.size≠(w.heap.size+1):=D;replace OW:=J<|ag OW.out K3.out Jx;replace JJ:=J<|E6 JJ.out (D:w.heap.size<=(w.heap.size+1)) Jx;replace K2:=J<|(O9 Jx).El K2.out hne;replace K3:=J<|K3.out.setRow Jx;clear hne;generalize W2.setRow (w.heap.size+1) Jx=V2 at*;go_wp2_with (with_reducible first|refine wL JV K3 ?_ (hn:=TS.out)|refine wS (cs:=Jx) JV K2 ?_ (hn:=TS.out) (h1:=TO.out));refine EV (JB JV U _ _ w.heap.size Jx U (K2.out.setRow Jx) TS.out) U ?_;rw[Ok.out,HF.out];exact⟨⟨_,U,_,_,U,ag OW.out K2.out _⟩,E6 JJ.out (E9 _) _⟩):p:=h
theorem EjW(h:p:=by have t1':decide ((i:Int)<(n:Int))=EI:=IE D;obtain⟨x,hx⟩: ∃x,GQ[i]?=X x:=⟨GQ[i]'(by rw[ku.out];exact hlt),JY _⟩;obtain⟨gg,cur,rfl,ka,dJ⟩:=vp OA.out hx ku.out;have KA:=J ka;have dO:=J dJ;clear ka dJ hx;have K0:=J<|H.new wr #[E I 0,E I 0,E I 0,E I 0] 133;have b2:=Er wr (Ec #[E I 0,E I 0,E I 0,E I 0] 133);go_wp2_with (with_reducible first|refine wM (off:=i*4) (cs:= #[E I x.s,E I x.r,E I x.a,E I x.m]) i6 KA ?_ (he:=dO.out)|refine wA vq ?_|refine wS (cs:= #[E I x.s,E I x.r,E I x.a,E I x.m]) i6 K0 (Ey.mk ?_) (h1:=UP));apply Et;obtain⟨gx,hgx⟩:=Eo wr.heap.size;rw[<-hgx] at K0⊢;generalize wr.alloc (Ec #[E I 0,E I 0,E I 0,E I 0] 133)=Xz at*;have KX:=J<|K0.out.setRow #[E I x.s,E I x.r,E I x.a,E I x.m];have b3:=E6 (g:=gx) b2 (Ud hgx.symm) #[E I x.s,E I x.r,E I x.a,E I x.m];generalize Xz.setRow gx #[E I x.s,E I x.r,E I x.a,E I x.m]=JQ at*;clear K0 b2 hgx KA dO;replace S1:=J<|S1.out.u b3;replace MM:=J<|MM.out.trans (Ex.EC b3);replace OA:=J<|EQ OA.out fun _ _ h=>H.u h b3;clear b3;have cx:JQ.cell? ⟨gx,0,Z⟩=X (E I x.s):=(H.cell KX.out 0).trans U;go_wp2_with fail;refine(oF lo hi g gc gq gt gs _ (ns+m2+m3) _ x.s x.s 30 _ S1.out AM).mono ?_;rintro e16 w16 ⟨rfl,⟨m16,gS,s16⟩,af⟩;replace S1:=J s16;replace MM:=J<|MM.out.trans af;replace KX:=J<|af.El KX.out Eb Eb;replace OA:=J<|EQ OA.out fun _ _ h=>af.El h Eb Eb;have vx:=J gS;clear s16 af gS cx;have cx:iA _ ⟨gx,0,Z⟩=X (E I x.s):=(H.cell KX.out 0).trans U;go_wp2_with fail;refine(Zl lo hi g gc gq gt gs _ _ _ 12 x.s 0 30 0 _ S1.out AN).mono ?_;rintro e17 w17 ⟨rfl,vF,pB⟩;have S8:=J vF;replace MM:=J<|MM.out.trans pB;replace OA:=J<|EQ OA.out fun _ _ h=>pB.El h Eb Eb;clear vF pB cx KX;have EdB:=kn.out;go_wp2_with fail;refine⟨⟨i+1,m3+m16,n3++[⟨12,x.s,0,t2.e,30,0⟩],D,Ej,Vm,Vn,?_,MM.out,base,OA.out⟩,J6⟩;rw[<-iq,<-UY,<-UY];have h:=S8.out;rw[<-UY] at h;exact h):p:=h
theorem EjY(h:p:=by refine CF.out.mono ?_;rintro x W2 ⟨rfl,b2⟩;replace K0:=J<|K0.out.u b2;replace K1:=J<|K1.out.u b2;replace K3:=J<|K3.out.u b2;replace K5:=J<|K5.out.u b2;replace B:=EW B b2;clear b2 CF;go_wp2_with (with_reducible first|refine wL ER K1 ?_|refine wS (cs:= #[E I h,E I e,E I o,E I oa,E I om,E I la,E I lm,EU b]) ER K5 ?_ (h1:=UP));refine EV (Us ER U _ _ (w.heap.size+1+1+1+1+1) _ _ U U (K5.out.setRow _) U) U ⟨?_,E6 (g:=w.heap.size+1+1+1+1+1) B.out D _⟩;rw[HE.out];rfl):p:=h
theorem Ej0(h:p:=by go_wp2_with fail;refine(CF.out _).mono ?_;rintro e w1 ⟨v,rfl,⟨gb,rfl,lb,kb⟩,b1⟩;have FB:Ed (Ek w (w1.alloc (Ec (EY [(Ij,gb)]).toArray 298))):=J<|b1.alloc b1.size _;have FK:Ed (Xa (w1.alloc (Ec (EY [(Ij,gb)]).toArray 298)) w.heap.size w1.heap.size gm [(Ij,gb)]):=J (aE (H.new w1 _ 298) (fun i hi=>by have:i=0:=XO;subst this;exact⟨lb,H.alloc kb _⟩) b1.size);clear b1 c0 CF kb;unfold ID;go_wp2;go_ret2;exact⟨_,_,_,U,U,FK.out,FB.out⟩):p:=h
theorem Ej1(h:p:=by simp only[Is,Io,IS,IM,ED,Ic,Ii,IJ,IU];rw[dt,e];have FK:=J<|aE kk bx lg;have FB:=EW B hb;replace m:=J m;clear hr hb dt e kk bx;go_wp2;go_ret2;exact⟨gl,_,fs,U,m.out,FK.out,FB.out⟩):p:=h
theorem Ej2(h:p:=by rw[show(t5,uM).fst.a=EZ ZD from oT];have dA:=J dA;have j4:=J j4;have Gu:=J oT;have z3:=J h50;clear oT h50 hg;go_wp2_with (((with_reducible refine Jr 109 ?_);(with_reducible refine Z7 (g:=Ot) (cs:=ZD) ER ?_ ?_ KB ?_ ?_ ?_ ?_);(·exact Ei U);(·exact⟨U,U,U⟩);(·exact RS.out);(·exact dA.out);(·exact j4.out);refine Ey.mk ?_));apply Et;have uN:=J<|KB.out.setRow ZD;have uP:=J<|H.setRow_other KR.out Ot ZD (X1 rq.out);have uQ:=J<|Q1.out.U6 ZD KB.out Eb Eb;have uR:=J<|MM.out.U7 ZD bR.out lw.out KB.out Eb Eb;clear KB KR Q1 MM KT;have KB:=uN;have KR:=uP;have Q1:=uQ;have MM:=uR;clear uN uP uQ uR;generalize w9.setRow Ot ZD=U0 at*;go_wp2_with (first|((with_reducible refine XU 109 ?_);(with_reducible refine ZU (g:=Ot) ER ?_ ?_ KB ?_ ?_);(·exact Ei rfl);(·exact⟨rfl,rfl⟩);(·exact dA.out))|((with_reducible refine Jr 109 ?_);(with_reducible refine Z7 (g:=gk+1) (cs:=ZD) ER ?_ ?_ KR ?_ ?_ ?_ ?_);(·exact Ei rfl);(·exact⟨rfl,rfl,rfl⟩);(·rfl);(·exact dA.out);(·exact j4.out)));refine EV (Us ER U _ _ (gk+1) ZD (E I 5) U U (KR.out.setRow _) dA.out) U ?_;refine⟨⟨t5,5,L',congrArg (fun v=>Eh (Es #[v,E I 5])) Gu.out.symm,(by rw[bQ.out];exact .inr (.inr ⟨U,h4,zY,4,D,D,fun e4=>h4 e4.symm,z3.out.2⟩)),SQ.out,?_⟩,MM.out.U7 _ aR lw.out KR.out Eb Eb⟩;exact Q1.out.U6 _ KR.out Eb Eb):p:=h
theorem Ej3(h:p:=by go_wp2;go_ret;exact⟨U,by(repeat (first|exact E_ _ _|(refine J1 ?_ IC _)|(refine J5 ?_ IC _)))⟩):p:=h
theorem Ej4(h:p:=by go_enter Tryz.func170,Tryz.ntmps170;go_wp2_with fail;refine OJ 4 ?_;(iterate 2 rw[Ib];go_wp2_with fail);rw[Ib];go_wp2_with fail;rw[Ib];go_wp2;go_ret;exact⟨U,U⟩):p:=h
theorem Ej5(h:p:=by intro _ hw';obtain⟨y9,rfl⟩:=hw';have En:=EL y9;replace KX:=EP KX En;replace S1:=J<|S1.out.u En;replace MM:=J<|MM.out.trans (Ex.EC En);replace OA:=J<|EQ OA.out fun _ _ h=>H.u h En;clear y0 Hk yx En;generalize EA JQ y9=kf at*;go_wp2_with fail;refine(oL lo gq _ (pn g 48) x.s _ S1.out.core.lq S1.out.core.ZC S1.out.core.ok.q).mono ?_;rintro e15 TJ ⟨⟨b15,rfl⟩,⟨L3,vt,vu⟩,m15⟩;have vw:=S1.out.core.ok.sub vu;replace S1:=J<|S1.out.fp m15 L3 vt vw;replace MM:=J<|MM.out.trans (m15.iK hi);replace KX:=J<|m15.El KX.out Eb Eb;replace OA:=J<|EQ OA.out fun _ _ h=>m15.El h Eb Eb;clear m15 vt vu vw;have cx:iA _ ⟨gx,0,Z⟩=X (E I x.s):=(H.cell KX.out 0).trans U;go_wp2_with fail;refine(oF lo hi g gc gq gt gs _ (ns+m+m2) _ x.s 4 29 _ S1.out T6).mono ?_;rintro e16 w16 ⟨rfl,⟨m16,gS,s16⟩,af⟩;have S8:=J s16;replace MM:=J<|MM.out.trans af;replace OA:=J<|EQ OA.out fun _ _ h=>af.El h Eb Eb;have vx:=J gS;clear s16 af gS cx;have Gj:=pu.out;go_wp2_with fail;refine⟨⟨i+1,L3,m2+m16,D,Ej,T7,?_,MM.out,base,OA.out⟩,J6⟩;rw[show ns+m+(m2+m16)=ns+m+m2+m16 from D];exact S8.out):p:=h
theorem Ej6(h:p:=by have d2:v 2=Y (X ⟨gm,1,Z⟩):=hd.at 2 rfl;refine Ob (f:=203) (args:= #[v 2]) (Ei U) Ew ?_;rw[d2];exact(gE gm 1 w').mono fun e w'' ⟨v,he,⟨gb,e2,lb,kb⟩,hb'⟩=>⟨v,he,hb',gb,e2,EB (EB B.out.size hb.size) lb,kb⟩):p:=h
theorem Ej7(h:p:=by go_wp2;go_ret;exact⟨U,U⟩):p:=h
theorem Ej8(h:p:=by intro _ hw';obtain⟨y9,rfl⟩:=hw';have En:=EL y9;replace S1:=J<|S1.out.u En;replace MM:=J<|MM.out.trans (Ex.EC En);clear y0 En KG U_ gK PL UT CN;generalize EA gQ y9=iY at*;have TH:=J<|bS S1.out.core 11 rfl 12 vE;go_wp2_with ((with_reducible refine Jr 50 ?_);(with_reducible refine Um U 50 _ _ U gc 102 p'.v.toArray ?_ ?_ ?_ ?_ ?_ ?_);(·rfl);(·rfl);(·exact TH.out);(·exact gB.2);(·simp[Pt.v,Ov]);refine Ey.mk ?_);apply Et;have S4:=S1.out.gA p' (S1.out.core.ok.gA gC.out);replace S1:=J S4.1;replace MM:=J<|MM.out.trans S4.2;clear S4 TH;change Ih _ _ _ _ _ (iY.setCells gc 102 p'.v);generalize iY.setCells gc 102 p'.v=Vp at*;go_wp2;go_end0;have e1:ns+m2+m3+m4=ns+(m2+m3+m4):=D;have h8:=S1.out;rw[e1,UY] at h8;exact⟨U,⟨_,m2+m3+m4,_,Vq,Vr,h8,VU HT.out HT1.out (fun x hx=>List.mem_append_left _ (List.mem_append_left _ (Ho.out x hx))) (fun h=>Vs) T1 KQ Vi.out (fun x hx=>List.mem_append_right _ hx) kw.out p' Z_.out⟩,MM.out⟩):p:=h
theorem Ej9(h:p:=by have d6:v 6=Y (X ⟨gm,4,Z⟩):=hd.at 6 rfl;refine Ob (f:=206) (args:= #[v 6]) (Ei U) Ew ?_;rw[d6];exact(nT gm 4 w').mono fun e w'' ⟨v,he,⟨gb,e2,lb,kb⟩,hb'⟩=>⟨v,he,hb',gb,e2,EB (EB B.out.size hb.size) lb,kb⟩):p:=h
theorem Ej_(h:p:=by obtain rfl:p=0:=D;exact Ep Ew U):p:=h
theorem EkE(h:p:=by go_wp2_with (first|((with_reducible refine It 50 ?_);refine JO rfl 183 _ rfl (EH (IZ 0)) ip ?_)|(with_reducible refine wS (cs:=(EH (IZ 0))) Oz K2 ?_ (ho:=JI _) (hn:=JI _) (h1:=Zy _)));refine EV (v:=Es #[EZ (EH (IZ 0)),E I 13]) (cK Oz U _ _ w.heap.size _ _ U U (K2.out.setRow _) (JI _)) U ?_;exact PF.out _ _ U (H.setRow_other KT.out w.heap.size _ D) (ON.out.fa (g2:=w.heap.size) (E9 _) (fY _) ON.out.size)):p:=h
theorem EkI(h:p:=by obtain rfl:p=0:=D;have d2:xv 2=Y (X ⟨gs,0,Z⟩):=hd.at 2 rfl;have cc:wq.cell? ⟨gs,0,Z⟩=X (Y (X ⟨gc,0,Z⟩)):=hp.2.1.Iy;exact Ep bv U):p:=h
theorem EkJ(h:p:=by exact PF.out _ _ U (H.setRow_other KT.out w.heap.size _ D) (ON.out.fa (g2:=w.heap.size) (E9 _) (fY _) ON.out.size)):p:=h
theorem EkO(h:p:=by exact If EK (Ei U) Ew U):p:=h
theorem EkU(h:p:=by have B1:=J<|Er w (Ec #[E I sz,E I lo,E I hi,.func (.func Y5) #[] #[gp],.func (.func S) #[] #[gp]] 298);have KB:=J<|H.new w #[E I sz,E I lo,E I hi,.func (.func Y5) #[] #[gp],.func (.func S) #[] #[gp]] 298;have HR:=J<|IH hr B1.out;clear hr;go_enter Tryz.func209,Tryz.ntmps209;go_wp2_with fail;generalize w.alloc (Ec #[E I sz,E I lo,E I hi,.func (.func Y5) #[] #[gp],.func (.func S) #[] #[gp]] 298)=w1 at*;have cb:=fun j=>KB.out.cell j;refine(CT.out _ HR.out).mono ?_;rintro e w2 ⟨rfl,rfl⟩;go_wp2_with fail;refine(HS.out.call _ B1.out).mono ?_;rintro e w3 ⟨rfl,hq⟩;clear HE;go_wp2;go_ret;exact⟨U,_,B1.out,hq⟩):p:=h
theorem EkX(h:p:=by subst hcd;go_wp2_with fail;refine(oL lo gq L most s _ LQ.out Q1.out HL.out).mono ?_;rintro e6 w6 ⟨⟨bb,rfl⟩,⟨L',q6,sq⟩,m6⟩;replace Q1:=J q6;have SQ:=J sq;replace KR:=J<|m6.El KR.out Eb Eb;replace KB:=J<|m6.El KB.out Eb Eb;replace MM:=J<|MM.out.trans m6;clear m6 q6 sq;go_wp2_with (with_reducible first|refine wL ER KB ?_ (hn:=RS.out)|refine wS (cs:=rv) ER KR ?_ (hn:=RS.out) (h1:=RO.out));refine EV (iX ER U _ _ gr rv (E I 3) (E I 0) U U U (KR.out.setRow _) RS.out) U ?_;refine⟨⟨t2,3,0,zV,.inr (.inl ⟨U,U,HG.out,L',SQ.out,Q1.out.U6 _ KR.out Eb Eb⟩)⟩,MM.out.U7 _ LR.out lw.out KR.out Eb Eb⟩):p:=h
theorem EkZ(h:p:=by go_wp2_with (first|((with_reducible refine It 5 ?_);refine JO rfl 298 _ rfl fv BF.out ?_)|(with_reducible refine wS (cs:=fv) Xj K8 ?_ (hn:=Ut.out) (h1:=O1.out)));refine EV (v:=EZ fv) (JB Xj U _ _ (w.heap.size+1) _ U (K8.out.setRow _) Ut.out) U ⟨_,U,HB.out _ (K4.out.setRow_other _ _ D),E6 B.out D _⟩):p:=h
theorem Eka(h:p:=by have t9:(cd !=0)=EI:=cW;have uG:=J hcd;clear hcd;go_wp2_with fail;refine(oV gk tv TS.out TO.out cd _ KT.out).mono ?_;rintro e7 w7 ⟨rfl,b7⟩;replace KT:=EP KT b7;replace KR:=EP KR b7;replace KP:=EP KP b7;replace Q1:=J<|Q1.out.u b7;replace MM:=J<|MM.out.trans (Ix.EC b7 (EB lw.out MM.out.bel.size));clear b7;go_wp2_with (with_reducible refine wS (cs:=tv) ER KR ?_ (hn:=TS.out) (h1:=TO.out));refine EV (iX ER U _ _ gr tv (E I 0) (E I cd) U U U (KR.out.setRow _) TS.out) U ?_;refine⟨⟨t,0,cd,fl,.inl ⟨uG.out,U,U,Q1.out.U6 _ KR.out Eb Eb⟩⟩,MM.out.U7 _ LR.out lw.out KR.out Eb Eb⟩):p:=h
theorem Ekb(h:p:=by obtain⟨gl,fs,e,m,lg,bx,kk⟩:=h;exact⟨gl,fs,e,m,lg,bx.u hb,kk.u hb⟩):p:=h
theorem Ekc(h:p:=by have d11:xv 11=EU EI:=hd.at 11 rfl;exact Zb (Xf U U (congrArg X d11) U) U):p:=h
theorem Ekd(h:p:=by have c0:=hm.cell 0;rw[Zd _ _ D,if_neg D,hk] at c0;have CF:=J<|fun W=>D9 gm 2 W;have B:=J<|E_ w.heap.size w;clear hm hk;go_enter gI,gJ;go_wp2_with fail;refine(CF.out _).mono ?_;rintro e w1 ⟨v,rfl,⟨gb,rfl,lb,kb⟩,b1⟩;have FB:Ed (Ek w (w1.alloc (Ec (EY [(U2,gb)]).toArray 298))):=J<|b1.alloc b1.size _;have FK:Ed (Xa (w1.alloc (Ec (EY [(U2,gb)]).toArray 298)) w.heap.size w1.heap.size gm [(U2,gb)]):=J (aE (H.new w1 _ 298) (fun i hi=>by have:i=0:=XO;subst this;exact⟨lb,H.alloc kb _⟩) b1.size);clear b1 c0 CF kb;unfold ID;go_wp2;go_ret2;exact⟨_,_,_,U,U,FK.out,FB.out⟩):p:=h
theorem Ekf(h:p:=by (repeat (first|exact E_ _ _|(refine J1 ?_ IC _)|(refine J5 ?_ IC _)))):p:=h
theorem Ekg(h:p:=by obtain rfl:p=0:=D;have d3:xv 3=Y (X ⟨gc,0,Z⟩):=hd.at 3 rfl;exact Ep Zc U):p:=h
theorem Ekh(h:p:=by obtain rfl:p=0:=D;have d1:xv 1=Y (X ⟨gs,0,Z⟩):=hd.at 1 rfl;exact Ep Xl U):p:=h
theorem Eki(h:p:=by obtain rfl:p=0:=D;have d0:xv 0=Y (X ⟨gs,0,Z⟩):=hd.at 0 rfl;exact Ep Uc U):p:=h
theorem Ekj(h:p:=by have d5:v 5=Y (X ⟨gm,0,Z⟩):=hd.at 5 rfl;exact If EK (Ei U) aJ U):p:=h
theorem Ekk(h:p:=by have d4:v 4=Y (X ⟨gm,0,Z⟩):=hd.at 4 rfl;exact If EK (Ei U) U3 U):p:=h
theorem Ekl(h:p:=by have d1:v 1=Y (X ⟨gm,0,Z⟩):=hd.at 1 rfl;exact If EK (Ei U) Xl U):p:=h
theorem Ekm(h:p:=by have d0:v 0=Y (X ⟨gm,0,Z⟩):=hd.at 0 rfl;exact If EK (Ei U) Uc U):p:=h
theorem Ekn(h:p:=by have B1:=J<|Er w (Ec #[E I sz,E I lo,E I hi,.func (.func Y5) #[] #[gp],.func (.func S) #[] #[gp]] 298);have KB:=J<|H.new w #[E I sz,E I lo,E I hi,.func (.func Y5) #[] #[gp],.func (.func S) #[] #[gp]] 298;have HR:=J<|IH hr B1.out;clear hr;go_enter Tryz.func209,Tryz.ntmps209;go_wp2_with fail;generalize w.alloc (Ec #[E I sz,E I lo,E I hi,.func (.func Y5) #[] #[gp],.func (.func S) #[] #[gp]] 298)=w1 at*;have cb:=fun j=>KB.out.cell j;refine(CT.out _ HR.out).mono ?_;rintro e w2 ⟨rfl,rfl⟩;go_wp2;go_ret;exact⟨U,B1.out⟩):p:=h
theorem Eko(h:p:=by have r3:=IH r2 B;generalize hxs:ps[i]=xs at*;generalize hys:(ps.take i).flatten=ys at*;obtain⟨k,hk⟩:=OQ xs.length;rw[hk] at ck hle;rw[hn] at hle;have yh:=J hn;have yi:=J hk;have cZ:=J ho;have Jo:=J B;have R3:=J r3;have HST:=J hst;clear hn hk ho B r3 r2 e2 hst hxs hys;go_wp2_with ((at_builtin;refine Dk _ U (.tmp 12) (.tmp 13) U w.heap.size A d n ys yh.out U cZ.out Y4 c2 k xs yi.out U R3.out D Jo.out.size ?_;intro A1 yj w4 o1 b4));exact⟨⟨i+1,A1,yj,n+k,D,Ej,U,N_,by rw[HST.out];exact o1,Jo.out.trans b4⟩,J6⟩):p:=h
theorem Ekp(h:p:=by have HL2:=J hl2;clear hl2 hx;go_wp2_with fail;refine CP.out.mono ?_;rintro e w9 ⟨rfl,ab,o9⟩;replace TT:=J<|TT.out.trans (Jb.jV o9);replace K:=J<|o9.El K.out Jg.out.symm;go_wp2;go_ret;exact⟨⟨_,U⟩,⟨Zm,x,HP.out,HL2.out,Ln.cut K.out,ab⟩,TT.out⟩):p:=h
theorem Ekq(h:p:=by clear b1 c0 CF kb;unfold ID;go_wp2;go_ret2;exact⟨_,_,_,U,U,FK.out,FB.out⟩):p:=h
theorem Ekr(h:p:=by intro _ hw';obtain⟨y9,rfl⟩:=hw';have En:=EL y9;replace S1:=J<|S1.out.u En;replace MM:=J<|MM.out.trans (Ex.EC En);clear y0 r_ En;generalize EA wr y9=gQ at*;go_wp2_with fail;refine(AX lo hi g gc gq gt gs _ _ _ md ⟨2,4,0⟩ _ S1.out rW.out Hc).mono ?_;rintro e21 iY ⟨rfl,gR,m21⟩;have S8:=J gR;replace MM:=J<|MM.out.trans m21;clear gR m21;go_wp2;go_end0;exact⟨U,⟨_,m+m2,new,T9,T_,.inr ⟨U,L2,t2,md,S8.out.core.ok.tok,HO.out.1,HO.out.2,U,Hi.out⟩⟩,MM.out⟩):p:=h
theorem Eks(h:p:=by refine CF.out.mono ?_;rintro x W2 ⟨rfl,b2⟩;replace K3:=J<|K3.out.u b2;replace K4:=J<|K4.out.u b2;replace K5:=J<|K5.out.u b2;replace K6:=J<|K6.out.u b2;replace B:=EW B b2;clear b2 CF;go_wp2_with (with_reducible first|refine wL ER K3 ?_|refine wS (cs:= #[E I h,E I e,E I o,E I oa,E I om,E I la,E I lm,EU b]) ER K6 ?_ (h1:=UP));refine EV (Us ER U _ _ (w.heap.size+1+1+1) _ _ U U (K6.out.setRow _) U) U ⟨?_,E6 (g:=w.heap.size+1+1+1) B.out D _⟩;rw[HE.out];rfl):p:=h
theorem Ekt(h:p:=by exact(tH gm 3 w').mono fun e w'' ⟨v,he,⟨gb,e2,lb,kb⟩,hb'⟩=>⟨v,he,hb',gb,e2,EB (EB B.out.size hb.size) lb,kb⟩):p:=h
theorem Eku(h:p:=by have d4:xv 4=EU V:=hd.at 4 rfl;have d6:xv 6=EJ (X ⟨gp,51,Z⟩) 3 3:=hd.at 6 rfl;obtain⟨cap,e1,hok⟩:=JA.ok (hd.at 7 rfl:JA 0 1000 (xv 7) wq);refine JE (f:=62) (args:= #[EJ (X ⟨gp,51,Z⟩) 3 3,.func (.func 80) #[] cap]) (Oo U U (congrArg X d4)) Ky ?_;exact(i9 _ cap ([p 51,p 52,p 53].map (E .i64)) (OZ 0 1000) gp 51 3 3 wq U D (hok _ (mG U)) (Kx.out wq hp)).mono fun e w2 ⟨he,hb⟩=>⟨EU EI,he.trans (by rw[sf.out]),hb,U⟩):p:=h
theorem Ekv(h:p:=by intro ev o w ho;unfold Ig;simp only[ho];kernel_rfl):p:=h
theorem Ekw(h:p:=by obtain rfl:p=0:=D;have d4:xv 4=Y (X ⟨gc,0,Z⟩):=hd.at 4 rfl;exact Ep U3 U):p:=h
theorem Ekx(h:p:=by obtain rfl:p=0:=D;have d9:xv 9=Y (X ⟨gs,0,Z⟩):=hd.at 9 rfl;have cc:wq.cell? ⟨gs,0,Z⟩=X (Y (X ⟨gc,0,Z⟩)):=hp.2.1.Iy;exact Ep vO U):p:=h
theorem Eky(h:p:=by intro xv Bg hp hd;simp only[ED,Ic,Ii,IJ,IU];have a17:xv 17=EU EI:=hd 17 Eb;have hO:xv 18=EU EI:=hd 18 Eb;rw[a17,hO];clear hd a17 hO;replace B:=J hp;clear hp;go_wp2;go_ret;exact⟨Z0,bt B1.out B.out⟩):p:=h
theorem Ekz(h:p:=by have d1:xv 1=Y (X ⟨gp,50,Z⟩):=hd.at 1 rfl;have cc:wq.cell? ⟨gp,50,Z⟩=X (E I (p 50)):=(PC.out _ hp 50 D D);exact Ep kA U):p:=h
theorem EkA(h:p:=by refine JE (f:=66) (args:= #[E I 1,E I 1000]) (Ei U) Ew ?_;exact(ZY 1 1000 wq).mono fun e w2 ⟨v,he,hv,hb⟩=>⟨v,he,hb,hv⟩):p:=h
theorem EkB(h:p:=by have K:=J K;have HC:=J HC;have Jg:=J hne;clear hne;go_enter Tryz.func188,Tryz.ntmps188;go_wp2_with fail;refine OJ 1 ?_;rw[Ib];go_wp2;go_end0;exact⟨U,⟨_,aN _,K.out⟩,E3.refl _ _⟩):p:=h
theorem EkC(h:p:=by rintro e7 w7 ⟨rfl,s7,m7⟩;have S8:=J s7;replace MM:=J<|MM.out.trans m7;clear s7 m7;go_wp2_with fail;refine EV (UC U _ _ _) U ?_;exact⟨U,⟨c,0,1,_,D,S8.out,.inl U⟩,MM.out⟩):p:=h
theorem EkD(h:p:=by exact If EK (Ei U) il ⟨gl,fs,U,m,lg,bx,kk⟩):p:=h
theorem EkF(h:p:=by have d4:xv 4=EU V:=hd.at 4 rfl;refine JE (f:=66) (args:= #[E I 0,E I 1000]) (Oo U U (congrArg X d4)) Ew ?_;exact(ZY 0 1000 wq).mono fun e w2 ⟨v,he,hv,hb⟩=>⟨v,he,hb,hv⟩):p:=h
theorem EkG(h:p:=by obtain⟨rv,hw,cd,hpq,e25⟩: ∃(rv:Array G) (hw:Int) (cd:Int),PQ rv hw cd/\xv 25=Es #[EZ rv,E I hw,E I cd]:=hd.at 25 rfl;exact Ep Ak ⟨rv,hw,cd,hpq,e25,U⟩):p:=h
theorem EkH(h:p:=by refine(CP.out _).mono ?_;rintro x w2 ⟨rfl,b2⟩;replace K4:=J<|K4.out.u b2;replace B:=EW B b2;clear b2;go_wp2_with (with_reducible refine wS (cs:=r) ER K4 ?_ (hn:=SR.out) (h1:=OR.out));refine EV (JB ER U _ _ (w.heap.size+1) r U (K4.out.setRow r) SR.out) U ⟨U,?_⟩;exact E6 (g:=w.heap.size+1) B.out D r):p:=h
theorem EkK(h:p:=by exact(ZY 1 1000 wq).mono fun e w2 ⟨v,he,hv,hb⟩=>⟨v,he,hb,hv⟩):p:=h
theorem EkL(h:p:=by have t9:(cd !=0)=EI:=cW;go_wp2_with fail;refine(gu lo hi g gc gq gt gs _ ns rs k v1 cd _ S1.out J2 JK).mono ?_;rintro e7 w7 ⟨rfl,s7,m7⟩;have S8:=J s7;replace MM:=J<|MM.out.trans m7;clear s7 m7;go_wp2_with fail;refine EV (UC U _ _ _) U ?_;exact⟨U,⟨_,1,_,D,S8.out,L',.inl ⟨cd,U,U⟩⟩,MM.out⟩):p:=h
theorem EkM(h:p:=by have d2:xv 2=E I (p 46):=hd.at 2 rfl;obtain⟨wa,wb,e1,ca,cb⟩:JA 1 1000 (xv 0) wq:=hd.at 0 rfl;refine JE (f:=80) (args:= #[E I (p 46),Y (X ⟨wa,0,Z⟩),Y (X ⟨wb,0,Z⟩)]) (Ei U) Bd ?_;exact(gY (p 46) 1 1000 wa wb wq ca cb).mono fun e w2 ⟨he,hb⟩=>⟨EU EI,he.trans (by rw[sd.out]),mR,U⟩):p:=h
theorem EkN(h:p:=by exact Ep Ew U):p:=h
theorem EkP(h:p:=by unfold O4;go_enter Tryz.func140,Tryz.ntmps140;go_wp2_with fail;refine EV xC U ⟨U,?_⟩;exact J3 _ _ _):p:=h
theorem EkQ(h:p:=by obtain rfl:p=0:=D;have d11:xv 11=Y (X ⟨gc,0,Z⟩):=hd.at 11 rfl;exact Ep ZW U):p:=h
theorem EkR(h:p:=by obtain rfl:p=0:=D;have d10:xv 10=Y (X ⟨gc,0,Z⟩):=hd.at 10 rfl;exact Ep aG U):p:=h
theorem EkS(h:p:=by obtain rfl:k=n:=D;have t1:decide ((k:Int)<(k:Int))=V:=Ia D;go_wp2;go_ret;refine⟨?_,B.out⟩;rw[hr.out];have:=HT.out;rw[OV zx] at this;rw[this];rfl):p:=h
theorem EkT(h:p:=by exact⟨⟨_,U,_,_,U,ag OW.out K2.out _⟩,E6 JJ.out (E9 _) _⟩):p:=h
theorem EkV(h:p:=by refine EV (Us ER U _ _ (gk+1) rv (E I 5) U U (KR.out.setRow _) RS.out) U ?_;refine⟨⟨t3,5,L',congrArg (fun v=>Eh (Es #[v,E I 5])) Uf.out.symm,(by rw[bQ.out];exact .inr (.inr ⟨U,h4,zY,nP.out⟩)),SQ.out,?_⟩,MM.out.U7 _ aR lw.out KR.out Eb Eb⟩;exact Q1.out.U6 _ KR.out Eb Eb):p:=h
theorem EkW(h:p:=by obtain rfl:p=0:=D;have d8:xv 8=Y (X ⟨gs,0,Z⟩):=hd.at 8 rfl;exact Ep cu U):p:=h
theorem EkY(h:p:=by obtain rfl:p=0:=D;have d7:xv 7=Y (X ⟨gs,0,Z⟩):=hd.at 7 rfl;exact Ep f_ U):p:=h
theorem Ek0(h:p:=by go_wp2_with fail;refine(gu lo hi g gc gq gt gs c ns rs k v1 cd _ S1.out J2 JK).mono ?_;rintro e7 w7 ⟨rfl,s7,m7⟩;have S8:=J s7;replace MM:=J<|MM.out.trans m7;clear s7 m7;go_wp2_with fail;refine EV (UC U _ _ _) U ?_;exact⟨U,⟨_,1,_,D,S8.out,.inl ⟨cd,U,U⟩⟩,MM.out⟩):p:=h
theorem Ek1(h:p:=by generalize Em key=kv at*;go_enter Tryz.func124,Tryz.ntmps124;go_wp2;go_ret;exact⟨U,Er w _⟩):p:=h
theorem Ek2(h:p:=by rintro e w' ⟨rfl,rfl⟩;go_wp2_with fail;refine(HH.out _ m1 m2).mono ?_;rintro e w' ⟨rfl,rfl⟩;go_wp2;go_ret;exact⟨U,Er _ _⟩):p:=h
theorem Ek3(h:p:=by refine EV (Us ER U _ _ (w.heap.size+1+1+1) _ _ U U (K6.out.setRow _) U) U ⟨?_,E6 (g:=w.heap.size+1+1+1) B.out D _⟩;rw[HE.out];rfl):p:=h
theorem Ek4(h:p:=by have d5:xv 5=EU EI:=hd.at 5 rfl;exact Zb (Xf U U (congrArg X d5) U) U):p:=h
theorem Ek5(h:p:=by have d4:xv 4=EU EI:=hd.at 4 rfl;exact Zb (Xf U U (congrArg X d4) U) U):p:=h
theorem Ek6(h:p:=by replace B:=J hp;clear hp;go_wp2;go_ret;exact⟨Z0,bt B1.out B.out⟩):p:=h
theorem Ek7(h:p:=by exact(ZY 0 1000 wq).mono fun e w2 ⟨v,he,hv,hb⟩=>⟨v,he,hb,hv⟩):p:=h
theorem Ek8(h:p:=by have d1:xv 1=Y (X ⟨gp,46,Z⟩):=hd.at 1 rfl;have cc:wq.cell? ⟨gp,46,Z⟩=X (E I (p 46)):=(PC.out _ hp 46 D D);exact Ep kA U):p:=h
theorem Ek9(h:p:=by go_wp2_with fail;refine EV (v:=EZ #[E I 0,E I 0,E I 0,EJ Z 0 0]) Hw U ?_;rw[HF.out];exact⟨⟨_,U,sJ _ _ bP U⟩,J3 _ _ _⟩):p:=h
theorem Ek_(h:p:=by exact Q1.out.U6 _ KR.out Eb Eb):p:=h
theorem ElE(h:p:=by have QM:=MM.out.trans (Jb.oK (Jb.ZP o4) K.out KQ.out k4 mO lg LQ.out);go_wp2;go_end0;exact⟨U,⟨L4,_,cp,Zn,mO,OW⟩,QM⟩):p:=h
theorem ElI(h:p:=by have d4:xv 4=EU V:=hd.at 4 rfl;have d5:xv 5=Y (X ⟨gp,50,Z⟩):=hd.at 5 rfl;exact Iw EK (Oo U U (congrArg X d4)) aJ U):p:=h
theorem ElJ(h:p:=by exact Za (Ei U) (j8 _ _ _ U) (Er wq _) ⟨wq.heap.size,_,U,hp.1,U,H.new _ _ _⟩):p:=h
theorem ElO(h:p:=by rw[Array.toArray_toList] at hrun;unfold Ig;simp only[ho,hx,dZ,bI,Om,Oa,On,hrun]):p:=h
theorem ElU(h:p:=by have d6:v 6=Y (X ⟨gm,5,Z⟩):=hd.at 6 rfl;refine Ob (f:=241) (args:= #[v 6]) (Ei U) Ew ?_;rw[d6];exact(Qp gm 5 w').mono fun e w'' ⟨v,he,⟨gb,e2,lb,kb⟩,hb'⟩=>⟨v,he,hb',gb,e2,EB (EB B.out.size hb.size) lb,kb⟩):p:=h
theorem ElX(h:p:=by go_wp2_with (go_at_call 162;refine(oo _ _ _ N1.out).mono ?_;rintro e w' ⟨rfl,rfl⟩);go_ret;exact⟨U,Er _ _⟩):p:=h
theorem ElZ(h:p:=by obtain rfl:p=0:=D;have d12:xv 12=Y (X ⟨gc,56,Z⟩):=hd.at 12 rfl;obtain⟨big,KB,OC⟩:=aT hp.2.1.core;have EX:big.extract 56 (56+8)=Im:=(OC 1 c.tok.v U).trans XV.out;exact aC EK ER (Ei U) ⟨U,d12⟩ KB U8.out EX U):p:=h
theorem Ela(h:p:=by have EX:big.extract 56 (56+8)=Im:=(OC 1 c.tok.v U).trans XV.out;exact aC EK ER (Ei U) ⟨U,d12⟩ KB U8.out EX U):p:=h
theorem Elb(h:p:=by replace hp:=J hp;go_enter Tryz.func211,Tryz.ntmps211;go_wp2_with fail;refine hp.out.mono ?_;rintro e w1 ⟨rfl,r1,b1⟩;replace r1:=J r1;replace b1:=J b1;clear hp h1;go_wp2;go_ret;exact⟨⟨_,U,r1.out⟩,b1.out⟩):p:=h
theorem Elc(h:p:=by have EX:big.extract 56 (56+8)=Im:=(OC 1 c.tok.v U).trans XV.out;exact aC EK ER (Ei U) ⟨U,d5⟩ KB U8.out EX U):p:=h
theorem Eld(h:p:=by have:j∈Xq ops listed:=kS.2 ⟨hj,hc⟩;rw[List.length_eq_zero_iff.1 (Nat.le_zero.1 hf)] at this;cases this):p:=h
theorem Elf(h:p:=by have d5:xv 5=EU V:=hd.at 5 rfl;have d7:xv 7=Y (X ⟨gp,47,Z⟩):=hd.at 7 rfl;have cc:wq.cell? ⟨gp,47,Z⟩=X (E I (p 47)):=(PC.out _ hp 47 D D);exact Iw EK (Oo U U (congrArg X d5)) (by simp[go_sem,d7,cc]) U):p:=h
theorem Elg(h:p:=by go_ret;exact⟨Z0,bt B1.out B.out⟩):p:=h
theorem Elh(h:p:=by obtain⟨i,h1,h2,h3,h4⟩:=bZ h;exact⟨i,h1,h2,h3,h4⟩):p:=h
theorem Eli(h:p:=by intro j hj;simp only[List.mem_range'_1] at hj;have hjn:j<ops.size:=D;exact kS.2 ⟨hjn,ht j hj.1 hjn⟩):p:=h
theorem Elj(h:p:=by have g2:v 2=EU V:=hd.at 2 rfl;exact If EK (iU U U (congrArg X g2)) Ew U):p:=h
theorem Elk(h:p:=by obtain rfl:p=0:=D;exact Iw JL.kept (Ei U) Ew U):p:=h
theorem Ell(h:p:=by refine⟨U,fun i h6 jK=> ?_⟩;have h:i=6\/i=7\/i=8\/i=9\/i=10\/i=11\/i=12\/i=13:=D;rcases h with rfl|rfl|rfl|rfl|rfl|rfl|rfl|rfl<;>exact(show(0:Int)<=0/\(0:Int)<=255 from⟨Eb,Eb⟩)):p:=h
theorem Elm(h:p:=by have d11:xv 11=EU V:=hd.at 11 rfl;have d13:xv 13=Y (X ⟨gp,54,Z⟩):=hd.at 13 rfl;have cc:wq.cell? ⟨gp,54,Z⟩=X (E I (p 54)):=(PC.out _ hp 54 D D);exact Iw EK (Oo U U (congrArg X d11)) Ht U):p:=h
theorem Eln(h:p:=by have K:=J K;have HC:=J HC;have Jg:=J hne;clear hne;go_enter Tryz.func187,Tryz.ntmps187;go_wp2_with fail;refine OJ 1 ?_;rw[Ib];go_wp2;go_ret;exact⟨⟨_,U⟩,⟨_,aN _,K.out⟩,E3.refl _ _⟩):p:=h
theorem Elo(h:p:=by obtain rfl:p=0:=D;have d5:xv 5=Y (X ⟨gc,0,Z⟩):=hd.at 5 rfl;obtain⟨big,KB,OC⟩:=aT hp.2.1.core;have EX:big.extract 0 (0+56)=pv:=GH;exact aC EK Up (Ei U) ⟨U,d5⟩ KB vU.out EX U):p:=h
theorem Elp(h:p:=by rintro e7 w7 ⟨rfl,s7,m7⟩;have S8:=J s7;replace MM:=J<|MM.out.trans m7;clear s7 m7;go_wp2_with fail;refine EV (UC U _ _ _) U ?_;exact⟨U,⟨c,1,7,_,D,S8.out,.inl U⟩,MM.out⟩):p:=h
theorem Elq(h:p:=by simp only[ho,hx,dZ,bI,Om,Oa,On,hrun]):p:=h
theorem Elr(h:p:=by show(wr.setCell _ _).heap[_]?=_;rw[ax _ _ _ _ ZB];exact HZ.out):p:=h
theorem Els(h:p:=by show(wr.setCell _ _).heap[_]?=_;rw[ax _ _ _ _ ZB];exact HP.out):p:=h
theorem Elt(h:p:=by show(wr.setCell _ _).heap[_]?=_;rw[ax _ _ _ _ ZB];exact HN.out):p:=h
theorem Elu(h:p:=by have d2:v 2=E I s:=hd.at 2 rfl;refine Ob (f:=211) (args:= #[v 2,E I 1]) (Ei U) Ew ?_;rw[d2];exact(yr s w').mono fun e w'' ⟨⟨g,he,r⟩,hb'⟩=>⟨_,he,hb',g,U,r⟩):p:=h
theorem Elv(h:p:=by obtain rfl:p=0:=D;have d19:xv 19=Y (X ⟨gc,64,Z⟩):=hd.at 19 rfl;have cc:wq.cell? ⟨gc,64,Z⟩=X (Y (X ⟨gq,0,Z⟩)):=hp.2.1.core.cell 2 rfl 0 Ej;exact Ep Aj U):p:=h
theorem Elw(h:p:=by obtain rfl:p=0:=D;have d12:xv 12=Y (X ⟨gc,64,Z⟩):=hd.at 12 rfl;have cc:wq.cell? ⟨gc,64,Z⟩=X (Y (X ⟨gq,0,Z⟩)):=hp.2.1.core.cell 2 rfl 0 Ej;exact Ep Ag U):p:=h
theorem Elx(h:p:=by exact fun ev h=>Z2):p:=h
theorem Ely(h:p:=by rw[e] at hp;rw[e];clear e;go_enter Tryz.func252,Tryz.ntmps252;go_wp2_with (go_at_call 111;refine(hp.out).mono ?_;rintro e w' ⟨rfl,rfl⟩);go_ret2;exact⟨U,U⟩):p:=h
theorem Elz(h:p:=by exact Iw JL.kept (Ei U) Ew U):p:=h
theorem ElA(h:p:=by have d0:xv 0=Y (X ⟨gp,50,Z⟩):=hd.at 0 rfl;exact Ep Uc U):p:=h
theorem ElB(h:p:=by obtain⟨rv,how,hpq,e23⟩: ∃(rv:Array G) (how:Int),PQ rv how/\xv 23=Es #[EZ rv,E I how]:=hd.at 23 rfl;exact Ep (by simp[go_sem,e23]) ⟨rv,how,hpq,e23,U⟩):p:=h
theorem ElC(h:p:=by have EX:big.extract 0 (0+56)=pv:=GH;exact aC EK Up (Ei U) ⟨U,d5⟩ KB vU.out EX U):p:=h
theorem ElD(h:p:=by obtain⟨rv,cd,hpq,e16⟩: ∃(rv:Array G) (cd:Int),PQ rv cd/\xv 16=Es #[EZ rv,E I cd]:=hd.at 16 rfl;exact Ep (by simp[go_sem,e16]) ⟨rv,cd,hpq,e16,U⟩):p:=h
theorem ElF(h:p:=by obtain rfl:p=1:=D;obtain⟨cd,e11,hpk⟩: ∃cd,xv 11=Es #[EZ tv,E I 0,E I cd]/\dC lo gq gr L most s rk 0 mp cd wq:=hd.at 11 rfl;exact Iw dB (Ei U) Gv U):p:=h
theorem ElG(h:p:=by intro _ hw';obtain⟨y9,rfl⟩:=hw';have En:=EL y9;replace B:=EW B En;clear En ci cj;generalize EA w1 y9=w2 at*;go_wp2;go_ret;refine⟨?_,B.out⟩;simp):p:=h
theorem ElH(h:p:=by obtain rfl:p=0:=D;have d17:xv 17=Y (X ⟨gc,0,Z⟩):=hd.at 17 rfl;exact Ep mf U):p:=h
theorem ElK(h:p:=by refine wpList_step fun K hK=> ?_;rw[if_pos hw];unfold cE;rw[hr];exact hK _ _ h):p:=h
theorem ElL(h:p:=by have:=kW (l.take m) 0 i x a0 o v hnd (htk i o hi ho);rw[J9] at this;exact this):p:=h
theorem ElM(h:p:=by have:i=fs.length:=qJ;subst this;rw[List.getElem_append_right (E9 _)];simp only[Nat.sub_self,List.getElem_cons_zero];exact⟨hgb,XN h3 hbx (yC d)⟩):p:=h
theorem ElN(h:p:=by obtain rfl:p=0:=D;have d16:xv 16=Y (X ⟨gs,0,Z⟩):=hd.at 16 rfl;have cc:wq.cell? ⟨gs,0,Z⟩=X (Y (X ⟨gc,0,Z⟩)):=hp.2.1.Iy;exact Ep GL U):p:=h
theorem ElP(h:p:=by obtain rfl:p=0:=D;have d12:xv 12=Y (X ⟨gs,0,Z⟩):=hd.at 12 rfl;have cc:wq.cell? ⟨gs,0,Z⟩=X (Y (X ⟨gc,0,Z⟩)):=hp.2.1.Iy;exact Ep Ag U):p:=h
theorem ElQ(h:p:=by rw[eM] at f1;simp at f1;rw[h1,f2];simp[f1]):p:=h
theorem ElR(h:p:=by intro x w hw hx;have e:ED (l.take m) 0 x a0=ED (l.take m) 0 y a0:=lE _ 0 _ _ _ fun j _ hj=>hx j D;simp only[e];have:=hK w hw;simpa using this):p:=h
theorem ElS(h:p:=by obtain rfl:p=0:=D;have d7:xv 7=Y (X ⟨gc,65,Z⟩):=hd.at 7 rfl;have d5:xv 5=E I (k-1):=hd.at 5 rfl;exact Iw EK (Ei U) (ph U d7 d5 IX.out) U):p:=h
theorem ElT(h:p:=by obtain rfl:p=0:=D;have d2:xv 2=Y (X ⟨gs,0,Z⟩):=hd.at 2 rfl;have cc:wq.cell? ⟨gs,0,Z⟩=X (Y (X ⟨gc,0,Z⟩)):=hp.1.Iy;exact Ep bv U):p:=h
theorem ElV(h:p:=by exact⟨hp.1.only (O9 rv) kb D,hp.2.1.only (O9 rv) D D kb.lt,H.setRow_other hp.2.2.1 b rv (E7 hp.2.2.1 kb Eb),by simpa using hp.2.2.2⟩):p:=h
theorem ElW(h:p:=by simp only[ho,hx,dZ,bI,Om,Oa,On,hrun];exact⟨U,U⟩):p:=h
theorem ElY(h:p:=by have d4:xv 4=EU V:=hd.at 4 rfl;exact Iw EK (Oo U U (congrArg X d4)) Ew U):p:=h
theorem El0(h:p:=by have d26:xv 26=Es #[EZ Uh,EZ (Em kv),E I cd]:=hd.at 26 rfl;exact Ep G6 U):p:=h
theorem El1(h:p:=by obtain⟨rv,cd,hpq,e15⟩: ∃(rv:Array G) (cd:Int),PQ rv cd/\xv 15=Es #[EZ rv,E I cd]:=hd.at 15 rfl;exact Ep GC ⟨rv,cd,hpq,e15,U⟩):p:=h
theorem El2(h:p:=by obtain⟨e,he,hb⟩:=List.any_eq_true.1 h;simp only[UJ,beq_iff_eq] at hb;have:=hd e (Array.mem_toList_iff.1 he) hb.1;rwa [hb.2] at this):p:=h
theorem El3(h:p:=by rw[List.eq_nil_iff_forall_not_mem];intro j hj;obtain⟨h1,o,ho,-⟩:=Zt.1 hj;have hjn:=(J4.1 ho).1;rw[hl j hjn] at h1;simp at h1;omega):p:=h
theorem El4(h:p:=by obtain rfl:i=m:=D;rw[OV DL] at ho hn;subst hn;have cZ:=J ho;have Jo:=J B;clear ho B;go_wp2;go_ret;exact⟨⟨_,_,U,cZ.out⟩,Jo.out⟩):p:=h
theorem El5(h:p:=by have d2:xv 2=E I (p 50):=hd.at 2 rfl;exact Ep Bf U):p:=h
theorem El6(h:p:=by rw[hv];simp[bX,run_underlying ba,sizeOf,typeInfo,hi,Builtin.lenOf,Builtin.firstCells,hn];simp at hv;exact⟨hv.1.symm,hv.2.2.symm⟩):p:=h
theorem El7(h:p:=by injection hv with h1 h2 h3;subst h1 h3;simp[bX,run_underlying ba,sizeOf,typeInfo,hi,Builtin.lenOf,Builtin.firstCells,hnc,storeCells]):p:=h
theorem El8(h:p:=by exact Uz.keep HI.out fun _ _ h=>(JS (g:=gs) 0 _).El h (E7 h ah.out Eb)):p:=h
theorem El9(h:p:=by have:=sN ((l.take m).take i) ((l.take m).drop i) 0 (mix (held (l.take m) a0) y i) a0;rw[dR] at this;rw[this];congr 1;rw[ZJ];omega):p:=h
theorem El_(h:p:=by go_ret;exact⟨U,Er _ _⟩):p:=h
theorem EmE(h:p:=by have d11:xv 11=EU EI:=hd.at 11 rfl;exact Ep ZW U):p:=h
theorem EmI(h:p:=by have d9:v 9=Y (X ⟨gm,0,Z⟩):=hd.at 9 rfl;exact If EK (Ei U) nW U):p:=h
theorem EmJ(h:p:=by have d8:v 8=Y (X ⟨gm,0,Z⟩):=hd.at 8 rfl;exact If EK (Ei U) cu U):p:=h
theorem EmO(h:p:=by rw[List.getElem?_take,if_pos hi];simpa using ho):p:=h
theorem EmU(h:p:=by unfold EM.UZ at hg;simp only at hg;rw[if_neg D,if_neg D,if_neg D] at hg;injection hg with a1 a2;exact⟨a2.symm,a1.symm⟩):p:=h
theorem EmX(h:p:=by exact⟨j,hj,fun k hk hk2=>h ⟨k,hk,hk2⟩⟩):p:=h
theorem EmZ(h:p:=by have d3:xv 3=EU V:=hd.at 3 rfl;exact Ep Zc U):p:=h
theorem Ema(h:p:=by exact⟨U,_,_,U,U,U⟩):p:=h
theorem Emb(h:p:=by rintro e w2 ⟨rfl,S2,M2⟩;go_wp2;go_end0;exact⟨U,S2,M2⟩):p:=h
theorem Emc(h:p:=by have h6:k=0\/k=1\/k=2\/k=3\/k=4\/k=5\/k=6\/k=7:=D;rcases h6 with rfl|rfl|rfl|rfl|rfl|rfl|rfl|rfl<;>decide):p:=h
theorem Emd(h:p:=by injection h with h;subst h;have e:(⟨b,off,Z⟩:Ev).add j=⟨b,off+j,Z⟩:=Xo;rw[e,hc j hj];simpa[hj] using hu):p:=h
theorem Emf(h:p:=by have:=List.length_filter_le (fun i=> !(au l.toArray.size V).getD i EI) (UM l.toArray.size);simpa[Xq] using this):p:=h
theorem Emg(h:p:=by rcases hd with rfl|rfl<;>exact⟨⟨Eb,Eb,Eb⟩,Eb,Eb,Eb⟩):p:=h
theorem Emh(h:p:=by intro e he hb';have h3:=nr e he hb';have h4:=(lJ hB ho).1 e he;have h5:e.on<listed.size:=D;exact hr e.on D xk):p:=h
theorem Emi(h:p:=by have d6:xv 6=Y (X ⟨gc,0,Z⟩):=hd.at 6 rfl;exact Ep nS U):p:=h
theorem Emj(h:p:=by simp only[na,jZ,ja];have:=Int.emod_nonneg x (b:=65536) D;have:=Int.emod_lt_of_pos x (b:=65536) D;simp;omega):p:=h
theorem Emk(h:p:=by rintro e w3 ⟨rfl,k3,o3⟩;go_wp2_with fail;refine EV (UC U _ _ _) U ?_;go_wp2;go_end0;exact⟨U,k3,o3⟩):p:=h
theorem Eml(h:p:=by have h5:i<listed.size:=D;simp[h5]):p:=h
theorem Emm(h:p:=by obtain⟨k,hk,hk2⟩:=h;exact np k hk hk2):p:=h
theorem Emn(h:p:=by obtain rfl:p=0:=D;exact Iw dB (Ei U) Ew U):p:=h
theorem Emo(h:p:=by go_wp2;go_end0;refine⟨U,?_,ON.out⟩;simp only[Jt,h1.out,h7.out,h9.out,if_true,jq,if_false];exact K.out):p:=h
theorem Emp(h:p:=by go_wp2;go_end0;refine⟨U,?_,ON.out⟩;simp only[Jt,h1.out,h2.out,h4.out,if_true,jq,if_false];exact K.out):p:=h
theorem Emq(h:p:=by rw[hrun] at hr;injection hr with hq hr;injection hq with hq;rw[hr];exact⟨.inr ⟨_,hq,E9 _⟩,bel _⟩):p:=h
theorem Emr(h:p:=by have d4:xv 4=EU V:=hd.at 4 rfl;have d8:xv 8=EU EI:=hd.at 8 rfl;exact Iw EK (Oo U U (congrArg X d4)) cu U):p:=h
theorem Ems(h:p:=by clear hk hs h1;go_enter Tryz.func47,Tryz.ntmps47;go_wp2_with fail;refine EV (UC U _ _ _) U ?_;exact fin):p:=h
theorem Emt(h:p:=by obtain rfl:p=0:=D;exact Za (Ei U) (j8 _ _ _ U) (Er wq _) ⟨wq.heap.size,_,U,hp.2.2.2,U,H.new _ _ _⟩):p:=h
theorem Emu(h:p:=by simpa using this):p:=h
theorem Emv(h:p:=by refine JE (f:=44) (args:= #[]) (Ei U) Ew ?_;exact(vn wq).mono fun e w2 ⟨he,hb⟩=>⟨_,he,hb,U⟩):p:=h
theorem Emw(h:p:=by obtain rfl:p=0:=D;exact Za (Ei U) (pU _ _ _ U) (Er wq _) ⟨wq.heap.size,_,U,hp.1,U,H.new _ _ _⟩):p:=h
theorem Emx(h:p:=by exact⟨Ah,L',s.only (O9 rv) kb D,m.only (O9 rv) D D kb.lt,H.setRow_other km b rv (E7 km kb Eb)⟩):p:=h
theorem Emy(h:p:=by simp only[mix,show¬i+k<i from D,if_false,held,hk,hd]):p:=h
theorem Emz(h:p:=by exact⟨S1.out.u (JZ _),MM.out.trans (Ex.EC (JZ _)),H.u KM.out (JZ _),EB (Ud hn0) (UQ (JZ _))⟩):p:=h
theorem EmA(h:p:=by exact⟨EB (Ud hn0) (UQ (JZ _)),S1.out.u (JZ _),MM.out.trans (Ex.EC (JZ _)),H.u KM.out (JZ _)⟩):p:=h
theorem EmB(h:p:=by exact⟨EB n1 ho.size,s1.As ho kb Eb D,m1.only ho D D kb.lt,ho.El km (E7 km kb Eb),fun h=>Uq⟩):p:=h
theorem EmC(h:p:=by have:=ht m (E9 _) h;rw[hall m h] at this;cases this):p:=h
theorem EmD(h:p:=by exact lX EK Up (Ei U) ⟨U,U⟩ (EP K3 hp) wG.out U):p:=h
theorem EmF(h:p:=by have d5:xv 5=Es #[.func (.func f) #[Y (X ⟨gs,0,Z⟩)] #[],EU EI]:=hd.at 5 rfl;exact Ep aJ U):p:=h
theorem EmG(h:p:=by rintro e w1 ⟨rfl,b1⟩;rw[HM.out];clear Q0;go_wp2;go_ret;exact⟨U,bt (Y4.out _ _ _) b1⟩):p:=h
theorem EmH(h:p:=by go_wp2_with fail;refine EV (v:=EZ #[E I 1,E I z,E I 0,EJ Z 0 0]) VC U ?_;exact⟨U,Er _ _⟩):p:=h
theorem EmK(h:p:=by rw[hl.cell (p:=⟨0,i,Z⟩) rO];exact h.roots i hi):p:=h
theorem EmL(h:p:=by go_wp2;go_end0;refine⟨U,?_,ON.out⟩;simp only[Jt,h1.out,if_true,jq,if_false];exact K.out):p:=h
theorem EmM(h:p:=by rw[J9] at this;exact this):p:=h
theorem EmN(h:p:=by rw[hl.cell (p:=⟨1,i,Z⟩) rO];exact h.cmds i hi):p:=h
theorem EmP(h:p:=by unfold Ig;simp only[ho,resolve,invoke,builtin,Om,Oa,On,List.map_toArray,Xs,Zu,hs,hx,hrun]):p:=h
theorem EmQ(h:p:=by obtain rfl:p=0:=D;have d4:xv 4=E I k:=hd.at 4 rfl;exact Iw EK (Ei U) (rN U d4 U SB.out) U):p:=h
theorem EmR(h:p:=by have d17:xv 17=EU EI:=hd.at 17 rfl;exact Ep mf U):p:=h
theorem EmS(h:p:=by rintro e w2 ⟨rfl,r2,b2⟩;go_wp2;go_ret2;exact⟨_,U,by simpa using r2,bt B1 b2⟩):p:=h
theorem EmT(h:p:=by have h5:e.on<listed.size:=D;exact hr e.on D xk):p:=h
theorem EmV(h:p:=by rw[c6];refine h _ ⟨by simp only[size_put,hs],by simp only[LH,A.df],LL,LM,jO nU⟩):p:=h
theorem EmW(h:p:=by exact Ep Zc U):p:=h
theorem EmY(h:p:=by have h2:=hl e.on D;rw[IE h1] at h2;have h3:e.on<listed.size:=D;simpa[h3] using h2):p:=h
theorem Em0(h:p:=by have d16:xv 16=Y (X ⟨gc,0,Z⟩):=hd.at 16 rfl;exact Ep (by simp[go_sem,d16]) U):p:=h
theorem Em1(h:p:=by obtain rfl:p=0:=D;have d18:xv 18=Y (X ⟨gc,0,Z⟩):=hd.at 18 rfl;exact Ep GM U):p:=h
theorem Em2(h:p:=by obtain rfl:p=0:=D;have d15:xv 15=Y (X ⟨gs,0,Z⟩):=hd.at 15 rfl;exact Ep rD U):p:=h
theorem Em3(h:p:=by obtain rfl:p=0:=D;have d14:xv 14=Y (X ⟨gs,0,Z⟩):=hd.at 14 rfl;exact Ep GK U):p:=h
theorem Em4(h:p:=by obtain rfl:p=0:=D;have d13:xv 13=Y (X ⟨gc,0,Z⟩):=hd.at 13 rfl;exact Ep uT U):p:=h
theorem Em5(h:p:=by obtain rfl:p=0:=D;have d11:xv 11=Y (X ⟨gs,0,Z⟩):=hd.at 11 rfl;exact Ep ZW U):p:=h
theorem Em6(h:p:=by obtain rfl:p=0:=D;have d10:xv 10=Y (X ⟨gs,0,Z⟩):=hd.at 10 rfl;exact Ep aG U):p:=h
theorem Em7(h:p:=by refine⟨XO,?_⟩;simp only[Uj,ls,JY hi,jb,Option.getD_some] at hl⊢;exact hl):p:=h
theorem Em8(h:p:=by exact⟨EB (Ud hn0) (UQ (JZ _)),S1.out.u (JZ _),MM.out.trans (Ex.EC (JZ _))⟩):p:=h
theorem Em9(h:p:=by exact Ep ZW U):p:=h
theorem Em_(h:p:=by refine⟨fun h=> ?_,by show c.tok.e<=t2.e;omega⟩;have h2:0<=t2.o:=h;omega):p:=h
theorem EnE(h:p:=by have d11:xv 11=EU V:=hd.at 11 rfl;exact Iw EK (Oo U U (congrArg X d11)) Ew U):p:=h
theorem EnI(h:p:=by rw[<-ZQ.out,I1,I1,bi,bi,Zn.length_eq];rfl):p:=h
theorem EnJ(h:p:=by have d4:xv 4=EU V:=hd.at 4 rfl;have d9:xv 9=EU V:=hd.at 9 rfl;exact Ep Kz U):p:=h
theorem EnO(h:p:=by exact(Nb gb gm d.off n _ w hb hc hf).mono fun e w' ⟨he,hw⟩=>⟨he,xQ⟩):p:=h
theorem EnU(h:p:=by unfold Ig;simp only[ho,h1,h2,Om,run_eqGuard_agg _ _ _ _ _ _ _ hm,On,hq,Oa]):p:=h
theorem EnX(h:p:=by exact Ep Uc U):p:=h
theorem EnZ(h:p:=by exact⟨h,X6 _⟩):p:=h
theorem Ena(h:p:=by refine⟨V,?_,fun h=>D⟩;simp[go_sem,e0]):p:=h
theorem Enb(h:p:=by exact Iw EK (Oo U U (congrArg X d4)) cu U):p:=h
theorem Enc(h:p:=by rw[if_pos hw];unfold cE;rw[hr];exact hc.mono fun e w' ⟨v,he,hb,h⟩=>Mg):p:=h
theorem Enf(h:p:=by exact(xg ((l.take m).take i) 0 y a0 d (fun hmem=>Cs hnd hk hd hmem)).symm):p:=h
theorem Eng(h:p:=by have d5:xv 5=EU V:=hd.at 5 rfl;exact Iw EK (Oo U U (congrArg X d5)) Ew U):p:=h
theorem Enh(h:p:=by rw[this];simp[List.getElem_take,List.getD,JY (show i<zs.length from D)]):p:=h
theorem Eni(h:p:=by rw[nk _ _ _ _ hji];rw[Z4 EI (fun e=>hji e.symm)] at hl;exact hr j hj hl):p:=h
theorem Enj(h:p:=by go_wp2;go_ret;exact⟨BI,U⟩):p:=h
theorem Enk(h:p:=by go_wp2;go_end0;exact⟨U,U⟩):p:=h
theorem Enl(h:p:=by rcases hv with rfl|rfl|rfl|rfl|rfl|rfl|rfl|rfl|rfl|rfl|rfl|rfl<;>rfl):p:=h
theorem Enm(h:p:=by have Xg:j=0\/j=1\/j=2:=D;subst hk;rcases Xg with rfl|rfl|rfl<;>rfl):p:=h
theorem Enn(h:p:=by subst ho;have:i=0\/i=1\/i=2:=D;rcases this with rfl|rfl|rfl<;>rfl):p:=h
theorem Eno(h:p:=by rw[if_neg D,if_neg D,if_neg D,if_neg D,if_neg D,if_neg D,if_neg D]):p:=h
theorem Enp(h:p:=by have d7:v 7=Es #[EZ Uo,EU fr]:=hd.at 7 rfl;exact Iw fK (Ei U) f_ U):p:=h
theorem Enq(h:p:=by clear hc hg;go_enter jM,jN;go_wp2;go_ret;exact⟨U,Y4.out _ _ _⟩):p:=h
theorem Enr(h:p:=by exact Ep aG U):p:=h
theorem Ens(h:p:=by exact Ep U3 U):p:=h
theorem Ent(h:p:=by exact fun _=>rfl):p:=h
theorem Enu(h:p:=by exact E6 (g:=w.heap.size+1) B.out D r):p:=h
theorem Env(h:p:=by exact⟨U,B.out⟩):p:=h
theorem Enw(h:p:=by obtain⟨b,c,h1,h2,h3,h4⟩:=h;exact⟨b,c,h1,h2,h3,h4.u hb⟩):p:=h
theorem Enx(h:p:=by go_ret2;exact⟨U,U⟩):p:=h
theorem Eny(h:p:=by exact fun ev h1 h2=>w_):p:=h
theorem Enz(h:p:=by have:=List.length_take_le i S;have:=cS.out;have:=HL.out;omega):p:=h
theorem EnA(h:p:=by have d28:xv 28=Es #[EZ rv,E I cd]:=hd.at 28 rfl;exact Ep GT U):p:=h
theorem EnB(h:p:=by have d20:xv 20=Y (X ⟨gc,0,Z⟩):=hd.at 20 rfl;exact Ep Al U):p:=h
theorem EnC(h:p:=by have d20:xv 20=Es #[EZ Uh,E I cd]:=hd.at 20 rfl;exact Ep Al U):p:=h
theorem EnD(h:p:=by have d15:xv 15=Y (X ⟨gc,0,Z⟩):=hd.at 15 rfl;exact Ep rD U):p:=h
theorem EnF(h:p:=by exact⟨Ah,L',s.only (O9 rv) kb D,m.only (O9 rv) D D kb.lt⟩):p:=h
theorem EnG(h:p:=by have:=hc k p hp (ih (i-k) D k U D) e he hb;rwa [heq] at this):p:=h
theorem EnH(h:p:=by exact h1 _ _ _ h hr):p:=h
theorem EnK(h:p:=by exact Ep bv U):p:=h
theorem EnL(h:p:=by exact⟨h,ht,fun h=>Uq⟩):p:=h
theorem EnM(h:p:=by obtain⟨g,cs,e,k,p⟩:=h;exact⟨g,cs,e,k.u hb,p.u hb⟩):p:=h
theorem EnN(h:p:=by rw[hrun] at hr;injection hr with _ hr;rw[hr];exact bel _):p:=h
theorem EnP(h:p:=by go_wp2;go_ret;exact⟨⟨_,_,_,es,U,D,EE.out⟩,B.out⟩):p:=h
theorem EnQ(h:p:=by rw[hq i (.inl rfl)] at h;exact h):p:=h
theorem EnR(h:p:=by rw[if_pos hw];unfold cE;rw[hr];exact⟨v,U,hT.1 _,h⟩):p:=h
theorem EnS(h:p:=by simp[Lit.wf,IntKind.min,IntKind.max,ja,jZ] at h;omega):p:=h
theorem EnT(h:p:=by intro k o ho d hd;unfold held;rw[J9,ho];simp only[hd]):p:=h
theorem EnV(h:p:=by go_wp2;go_ret;refine⟨B.out,?_⟩;rw[<-cH.out];rfl):p:=h
theorem EnW(h:p:=by exact absurd ⟨j,hj,hc⟩ hno):p:=h
theorem EnY(h:p:=by simp only[Bool.not_false,if_true,Oa,Bool.false_and]):p:=h
theorem En0(h:p:=by go_wp2_with fail;refine EV (UC U _ _ _) U ⟨U,U⟩):p:=h
theorem En1(h:p:=by exact(CA.out wq).mono fun e w2 h=>⟨_,h.1,h.2,U⟩):p:=h
theorem En2(h:p:=by rw[if_pos hw];unfold cE;rw[hr];exact⟨v,U,hb,h⟩):p:=h
theorem En3(h:p:=by go_wp2;go_ret;exact⟨⟨_,_,U,XY _ _⟩,E_ _ _⟩):p:=h
theorem En4(h:p:=by rw[HE.out];rfl):p:=h
theorem En5(h:p:=by have d13:xv 13=E I cd:=hd.at 13 rfl;exact Ep uT U):p:=h
theorem En6(h:p:=by exact bt B.out (JZ W9)):p:=h
theorem En7(h:p:=by rw[Z4 EI e,hl j hj];congr 1;rw[eq_iff_iff];omega):p:=h
theorem En8(h:p:=by rintro e w2 ⟨rfl,b2⟩;replace K2:=J<|K2.out.u b2;replace KT:=J<|KT.out.u b2;replace ON:=J<|ON.out.trans (E3.EC b2);replace RT:=J<|RT.out.u b2;clear b2;go_wp2_with (first|((with_reducible refine It 32 ?_);refine JO rfl 183 _ rfl (EH (IZ 0)) ip ?_)|(with_reducible refine wS (cs:=(EH (IZ 0))) Oz K2 ?_ (ho:=JI _) (hn:=JI _) (h1:=Zy _)));refine EV (v:=Es #[EZ (EH (IZ 0)),E I 14]) (cK Oz U _ _ w.heap.size _ _ U U (K2.out.setRow _) (JI _)) U ?_;exact EkJ):p:=h
theorem En9(h:p:=by have c0:=hm.cell 0;rw[Zd _ _ D,if_neg D,hk] at c0;have CF:=J<|fun W=>gE gm 1 W;have B:=J<|E_ w.heap.size w;clear hm hk;go_enter gI,gJ;exact Ej0):p:=h
theorem En_(h:p:=by have q5:(a !=165)=EI:=wJ;replace HF:Ed (f=iD (Uw ([a,v]))):=J<|HF.out.trans wO;clear h5;go_wp2_with fail;refine(wE (X ⟨b,off,Z⟩) ([a,v]) 2 c _ rX D (IH HR.out JJ.out) D).mono ?_;rintro e W2 ⟨rfl,b2⟩;replace OW:=J<|Z8 OW.out b2;replace K2:=EP K2 b2;replace K3:=EP K3 b2;replace JJ:=EW JJ b2;clear b2 c0 OW;obtain⟨Jx,Ik⟩:=Eo (#[E I 1,E I (Uw ([a,v])),E I 0,EJ Z 0 0]:Array G);exact EjV):p:=h
theorem EoE(h:p:=by intro v w' hb hr;obtain⟨gl,fs,e,m,lg,bx,kk⟩: ∃(gl:Nat) (fs:List (FD×Nat)),v 9=EJ (X ⟨gl,0,Z⟩) 2 2/\fs.map (·.1)=[Jf,IP]/\w.heap.size<=gl/\Jv w' w.heap.size gm fs/\H w' gl (EY fs).toArray 298:=hr 9 D;have dt:v 10=EU EI:=hr 10 D;exact Ej1):p:=h
theorem EoI(h:p:=by go_enter Tryz.func76,Tryz.ntmps76;exact Ej7):p:=h
theorem EoJ(h:p:=by obtain⟨gl,fs,e,m,lg,bx,kk⟩: ∃(gl:Nat) (fs:List (FD×Nat)),v 8=EJ (X ⟨gl,0,Z⟩) 2 2/\fs.map (·.1)=[Jf,IP]/\w.heap.size<=gl/\Jv w' w.heap.size gm fs/\H w' gl (EY fs).toArray 298:=hd.at 8 rfl;exact EkD):p:=h
theorem EoO(h:p:=by have d2:v 2=Y (X ⟨gm,3,Z⟩):=hd.at 2 rfl;refine Ob (f:=205) (args:= #[v 2]) (Ei U) Ew ?_;rw[d2];exact Ekt):p:=h
theorem EoU(h:p:=by have dt:v 10=EU EI:=hr 10 D;exact Ej1):p:=h
theorem EoX(h:p:=by go_enter jB,jC;exact Ej7):p:=h
theorem EoZ(h:p:=by go_wp2_with fail;refine(CO.out).mono ?_;rintro e w' ⟨rfl,rfl⟩;exact Ej7):p:=h
theorem Eoa(h:p:=by intro xv W8 hp hd;simp only[ED,Ic,Ii,IJ,IU];have JP:xv 11=EU EI:=hd 11 Eb;have a12:xv 12=EU EI:=hd 12 Eb;rw[JP,a12];clear hd JP a12;exact Ek6):p:=h
theorem Eob(h:p:=by go_wp2_with fail;refine(fh _ _ _ N1.out).mono ?_;rintro e w' ⟨rfl,rfl⟩;go_wp2_with fail;refine(fh _ _ _ N2.out).mono ?_;exact Ek2):p:=h
theorem Eoc(h:p:=by have d11:xv 11=EU V:=hd.at 11 rfl;refine JE (f:=66) (args:= #[E I 1,E I 1000]) (Oo U U (congrArg X d11)) Ew ?_;exact EkK):p:=h
theorem Eod(h:p:=by have d5:xv 5=EU V:=hd.at 5 rfl;refine JE (f:=66) (args:= #[E I 0,E I 1000]) (Oo U U (congrArg X d5)) Ew ?_;exact Ek7):p:=h
theorem Eof(h:p:=by obtain rfl:p=0:=D;have d5:xv 5=Y (X ⟨gc,56,Z⟩):=hd.at 5 rfl;obtain⟨big,KB,OC⟩:=aT hp.2.1.core;exact Elc):p:=h
theorem Eog(h:p:=by have d6:v 6=Y (X ⟨gm,3,Z⟩):=hd.at 6 rfl;refine Ob (f:=205) (args:= #[v 6]) (Ei U) Ew ?_;rw[d6];exact Ekt):p:=h
theorem Eoh(h:p:=by subst he;have hrun:=run_loadVar_mid w g off t _ d (World.rangeAt_of_block hg off n) hu jm sV;exact ElO):p:=h
theorem Eoi(h:p:=by go_enter Tryz.func226,Tryz.ntmps226;exact Ej3):p:=h
theorem Eoj(h:p:=by go_enter Tryz.func180,Tryz.ntmps180;go_wp2;refine EV Di U ⟨U,?_⟩;exact Ekf):p:=h
theorem Eok(h:p:=by go_enter Tryz.func146,Tryz.ntmps146;go_wp2;refine EV Dg U ⟨U,?_⟩;exact Ekf):p:=h
theorem Eol(h:p:=by go_wp2;refine EV Di U ⟨U,?_⟩;exact Ekf):p:=h
theorem Eom(h:p:=by go_wp2;refine EV Dg U ⟨U,?_⟩;exact Ekf):p:=h
theorem Eon(h:p:=by have d3:xv 3=EU EI:=hd.at 3 rfl;exact EmW):p:=h
theorem Eoo(h:p:=by refine(rZ lo hi g gc gq gt gs c ns rs k 13 _ S1.out JK).mono ?_;exact EkC):p:=h
theorem Eop(h:p:=by have:=Array.all_eq_true_iff_forall_mem.1 h1.1 e he;exact Emu):p:=h
theorem Eoq(h:p:=by clear K8 K7 hx;go_enter Tryz.func223,Tryz.ntmps223;exact Ej3):p:=h
theorem Eor(h:p:=by have d11:xv 11=Es #[EZ rv,E I cd]:=hd.at 11 rfl;exact Em9):p:=h
theorem Eos(h:p:=by have d11:xv 11=Es #[EZ mv,E I cd]:=hd.at 11 rfl;exact Em9):p:=h
theorem Eot(h:p:=by clear KT hx;go_enter Tryz.func225,Tryz.ntmps225;exact Ej3):p:=h
theorem Eou(h:p:=by clear KT hx;go_enter Tryz.func222,Tryz.ntmps222;exact Ej3):p:=h
theorem Eov(h:p:=by go_enter Tryz.func59,Tryz.ntmps59;go_wp2;exact El_):p:=h
theorem Eow(h:p:=by clear e1 e2 K h;go_enter Tryz.func56,Tryz.ntmps56;exact EoZ):p:=h
end Go.Proofs.YtclmichaaiohjaaGreatDoor
