import Derived.WalkKit
import Derived.WalkSpells
import Derived.WalkLawsBesides
import Derived.Lib.Hide
import Derived.ProofKit
import Derived.OpenShut
import Derived.ChangeOld
import Derived.Below
import Derived.Deep.QuietTactic
import Derived.RegionTactic
import Derived.BigRegion
import Derived.BigQuiet
import Derived.Deep.RegionWith
import Derived.Laws.Rows
import Derived.Laws.Tables
import Derived.Laws.CopyOwn
import Derived.Deep.WholeRow
import Derived.KernelRfl
import Derived.Orders
import Derived.Deep.Quiet
import Derived.Deep.MidRow
import Derived.Test.YtclmichaaiohjaaGreatDoorProg
set_option maxRecDepth 100000
set_option linter.unusedVariables false
set_option linter.unusedSimpArgs false
set_option maxHeartbeats 6400000
namespace Go.Proofs.YtclmichaaiohjaaGreatDoor
open RowKit
open _root_.Array renaming replicate->bh,getElem?_eq_some_iff->J6
open Bool renaming true->EI,false->B,and_eq_true->Oc,false_eq_true->kO
open Go renaming World->H,Value->Y,Addr->Eu,bodyPost_ret->EV,results->UL,execOp->If,wpList->Ic,undef->I2,getD_set_ne->aI,mem_ready->Zz,info_parts->bz,below_setRow->E2,wp_loop_rounds->Ud,rounds_succ->Ij,results_none->UQ,wpList_store_mid->Ui
open Act renaming put->Ig
open Builtin renaming append_->bv
open Ending renaming returned->Eg
open Instr renaming loadAt->fB,sureAddr->dJ
open IntKind renaming wrap->oI,bits->jV,signed->jW,i64->I,u8->IL
open Lib renaming hid->J
open Obj renaming cells->EJ
open Oper renaming wp->dI
open Go.Proofs.Tryz renaming underlying23->bA,func156->ky,ntmps156->kA,func160->iO,ntmps160->iU,func138->kH,ntmps138->kK
open Result renaming andThen_ok->OC
open RowKit renaming Below->Ik,Hid->Ec,intOf->Ir
open RowKit.Below renaming refl->E9,heap_setCell->XK,alloc->JQ,setCell->JR,size->U8
open Sem renaming run_bind->Oz,run_pure->Og
open Value renaming bool->EU,int->E,agg->EZ,slice->G,tuple->Et,pointer->M,oneCell'->OF,ownBlock->mx
open World renaming setCell->dN,cell?->jo
open Int renaming le_refl->Zo
open List renaming getElem?_eq_getElem->J5,range->U4,getElem?_eq_some_iff->Xx,take_append_drop->gT,take_succ_cons->Iq,length_take->aO,take_of_length_le->OY,getD_eq_getElem?_getD->Uq,map_cons->Uv,map_nil->Xn,take_zero->Io,getElem?_toArray->OE,setIfInBounds_toArray->Ii,length_append->IY,length_cons->ZC,append_assoc->XI,set_cons_succ->Ia,set_cons_zero->Ib,map_append->kU,drop_succ_cons->IP,drop_zero->IH,append_nil->fS,mem_append_left->k_,mem_singleton->cF
open List.Perm renaming refl->aT
open Nat renaming le_trans->Ez,le_refl->E7,zero_add->OD,add_assoc->jj,le_of_eq->Om
open Ne renaming symm->ZE
open Option renaming some->Z,none->X,map_some->jY
variable{p:Prop}
theorem U(h:p:=by omega):p:=h
theorem Ed(h:p:=by kernel_rfl):p:=h
theorem Ea(h:p:=by decide):p:=h
theorem by3(h:p:=by subst hW;repeat (first|exact D.new _ _ _|exact D.new' _ _ _ (by simp)|refine D.alloc ?_ _)):p:=h
theorem Ex(h:p:=by simp[go_sem]):p:=h
theorem by5(h:p:=by(repeat (first|exact E9 _ _|(refine JQ ?_ (by simp<;>omega) _)|(refine JR ?_ (by simp<;>omega) _)))):p:=h
theorem by6(h:p:=by subst hW;(repeat (first|exact E9 _ _|(refine JQ ?_ (by simp<;>omega) _)|(refine JR ?_ (by simp<;>omega) _)))):p:=h
theorem Eh(h:p:=by simp):p:=h
theorem by8(h:p:=by rw[show(⟨gb,0,X⟩:Eu).add j=⟨gb,j,X⟩ from by unfold Addr.add;split<;>simp_all];rw[D.cell KB.out,OE];exact hu):p:=h
theorem Ug(h:p:=by with_unfolding_all (simp[OF])):p:=h
theorem XO(h:p:=by with_unfolding_all (rw[Od,fF])):p:=h
theorem Iv(h:p:=by simp<;>omega):p:=h
theorem JN(h:p:=by have:=HL.out;omega):p:=h
theorem Xw(h:p:=by unfold Addr.add;split<;>simp_all):p:=h
theorem JM(h:p:=by simp[Ir];omega):p:=h
theorem X3(h:p:=by intro e;subst e;revert hS;decide):p:=h
theorem J9(h:p:=by have:=HN.out;omega):p:=h
theorem Ot(h:p:=by unfold maxLen;omega):p:=h
theorem ZW(h:p:=by unfold bR Zi U6;simp;try omega):p:=h
theorem EkP(h:p:=by rw[show(⟨gb,0,X⟩:Eu).add j=⟨gb,j,X⟩ from by unfold Addr.add;split<;>simp_all];rw[D.cell KI.out,OE];exact hu):p:=h
theorem Z9(h:p:=by unfold If;simp[go_sem,h]):p:=h
theorem Md(h:p:=by have:=D.new (w.alloc (EJ #[E I 0,E I 0,E I 0,G X 0 0] 101)) #[E I 0,E I 0,E I 0,G X 0 0] 101;simpa using this):p:=h
theorem Ji(h:p:=by simp;omega):p:=h
theorem nu(h:p:=by have:=S1.out.ct;have:=S1.out.gd;have:=MM.out.size;omega):p:=h
theorem UT(h:p:=by simp only;omega):p:=h
theorem UW(h:p:=by simp[go_sem,d0]):p:=h
theorem EkQ(h:p:=by subst hW;exact⟨_,O,by first|exact D.new _ _ _|exact D.new' _ _ _ (by simp)⟩):p:=h
theorem iN(h:p:=by have:=LT.out;have:=u.out.size;omega):p:=h
theorem Up(h:p:=by simpa using h):p:=h
theorem EkR(h:p:=by rw[hv1];exact X6 K 1 (by omega) (by omega)):p:=h
theorem U5(h:p:=by simpa using hi):p:=h
theorem Xp(h:p:=by simp[go_sem,d1]):p:=h
theorem p8(h:p:=by obtain⟨b,h1,h2,h3⟩:=h;exact⟨b,h1,h2,D.V h3 hr⟩):p:=h
theorem Cx(h:p:=by have:=HL.out;have:=ME.out;have:=Cv.out;have:=lG.out;simp only[IY];omega):p:=h
theorem fj(h:p:=by rw[IE];simp[OF]):p:=h
theorem iM(h:p:=by have:=LT.out;have:=U7.out;omega):p:=h
theorem nL(h:p:=by with_unfolding_all (first|rfl|exact nK.out)):p:=h
theorem XN(h:p:=by simp[go_sem,d4]):p:=h
theorem jQ(h:p:=by rcases hS with rfl|rfl<;>decide):p:=h
theorem a_(h:p:=by have:=LK.out;omega):p:=h
theorem Z8(h:p:=by subst hr;exact h):p:=h
theorem UP(h:p:=by simp[O9]):p:=h
theorem dx(h:p:=by simp[OF]):p:=h
theorem EkS(h:p:=by first|exact D.new _ _ _|exact D.new' _ _ _ (by simp)):p:=h
theorem EkT(h:p:=by obtain⟨z,h1,h2⟩:=KZ.out;exact⟨z,h1,Zw.Ek h2 (by decide) (by decide)⟩):p:=h
theorem EkV(h:p:=by rw[pZ _ _ _ _ (by simp[O0]),O0]):p:=h
theorem pM(h:p:=by obtain⟨_,_,KQ,-,-⟩:=Q;have:=KQ.lt;omega):p:=h
theorem bL(h:p:=by simp[go_sem,d2,cc]):p:=h
theorem bT(h:p:=by simp[UR,qa,qb,qc]):p:=h
theorem rH(h:p:=by with_unfolding_all (rw[Fl,fF])):p:=h
theorem gU(h:p:=by simp[EK.v,Xz.v,Pt.v]):p:=h
theorem EkW(h:p:=by rw[hsm.out];exact S1.out.core.cell 7 rfl 0 (by simp)):p:=h
theorem w_(h:p:=by obtain⟨z,h1,h2⟩:=cG.out;exact⟨z,h1,D.V h2 b3⟩):p:=h
theorem BH(h:p:=by obtain⟨b,rv,h1,h2,h3,h4⟩:=h;exact⟨b,rv,h1,h2,h3,D.V h4 hr⟩):p:=h
theorem XR(h:p:=by simp[EK.v]):p:=h
theorem Cw(h:p:=by have:=HN.out;have:=jy.out;have:=p6.out;have:=lG.out;omega):p:=h
theorem bM(h:p:=by simp[go_sem,d3]):p:=h
theorem mj(h:p:=by cases d<;>first|rfl|cases hd):p:=h
theorem dh(h:p:=by simp[go_sem,d10]):p:=h
theorem dD(h:p:=by simp[go_sem,d11]):p:=h
theorem QC(h:p:=by rw[List.take_succ_eq_append_getElem hil,List.flatten_append,List.flatten_cons,List.flatten_nil,fS]):p:=h
theorem Zj(h:p:=by simp[Ir]):p:=h
theorem EkY(h:p:=by rw[cB.out];exact .inr (.inr ⟨O,h4,by show e<65535;omega,4,by omega,by omega,fun e4=>h4 e4.symm,Bo.out.2⟩)):p:=h
theorem tG(h:p:=by simp (disch:=omega) only[cY,z0]):p:=h
theorem dk(h:p:=by simp[go_sem,d5]):p:=h
theorem dA(h:p:=by simpa using hcd):p:=h
theorem l_(h:p:=by rw[aO];omega):p:=h
theorem vW(h:p:=by have:=HR.out.symm.trans hc;injection this):p:=h
theorem YI(h:p:=by have:=ME.out;have:=Cv.out;have:=lG.out;have:=EfY lK.out;simp only[IY];omega):p:=h
theorem pO(h:p:=by simp[go_sem,d3,d7,ID,EY]):p:=h
theorem Bm(h:p:=by have:=f_.out.e.1;show _<=e;simp only at this;omega):p:=h
theorem Bz(h:p:=by rw[hPQ] at h;obtain⟨t2,-,h2,h3,-⟩:=h;exact⟨h2,h3⟩):p:=h
theorem s_(h:p:=by rw[fS];exact S1.out):p:=h
theorem Ek0(h:p:=by have:=(D.cell kb i).trans (by simpa using hi);simpa using this):p:=h
theorem XE(h:p:=by cases h):p:=h
theorem fd(h:p:=by simp[EK.end_]):p:=h
theorem fV(h:p:=by simp[go_sem,d8]):p:=h
theorem fW(h:p:=by simp[go_sem,d7]):p:=h
theorem YJ(h:p:=by obtain⟨x,hx,h2⟩:=WT.out h;exact⟨x,k_ _ (k_ _ hx),h2⟩):p:=h
theorem L0(h:p:=by have h:=IF;unfold EK.a at h;injection h with h;rw[<-h];rfl):p:=h
theorem aY(h:p:=by rw[J4.out]):p:=h
theorem xE(h:p:=by have:=Ox.out.lt;have:=LT.out;omega):p:=h
theorem rE(h:p:=by simp only[size_put];omega):p:=h
theorem F3(h:p:=by rw[hl,hcs,<-Nat.add_mul];exact Nat.mul_le_mul_right _ hroom):p:=h
theorem Lh(h:p:=by have h:=OV 0 _ O;rw[Jz] at h;exact h.trans Lg.out):p:=h
theorem uu(h:p:=by rw[aO,mN];rfl):p:=h
theorem Gm(h:p:=by have:=uj g T ((i:Int)+1) W hW h;rwa [hof] at this):p:=h
theorem mD(h:p:=by rw[HN.out];exact hlt):p:=h
theorem z5(h:p:=by with_unfolding_all (rw[Od,HC.out])):p:=h
theorem Bp(h:p:=by obtain⟨cd,e,hk⟩:=h;exact⟨cd,e,hk.rel hr⟩):p:=h
theorem vM(h:p:=by have:=HN.out;have:=jx.out;omega):p:=h
theorem yO(h:p:=by unfold If;simp[go_sem,h1,h2]):p:=h
theorem Ek1(h:p:=by cases e<;>first|exact he|exact he.elim|exact(by obtain⟨_,_,h⟩:=he;exact h.elim)):p:=h
theorem FH(h:p:=by simp[oI,jV,jW];omega):p:=h
theorem pb(h:p:=by simp[O0,fF]):p:=h
theorem EEy(h:p:=by obtain⟨gc,gt,h1,h2,h3,h4,h5⟩:=h;exact⟨gc,gt,h1,h2,h3,h4.V hr,h5.V hr⟩):p:=h
theorem F2(h:p:=by have hb:=hbytes;simp only[OD] at hb;omega):p:=h
theorem yT(h:p:=by rw[hr];exact fK _ _ _ _ _ _ _ _):p:=h
theorem Km(h:p:=by simp only[ZC,List.length_nil];omega):p:=h
theorem yl(h:p:=by simp[UL,Tryz.results173,go_sem]):p:=h
theorem yS(h:p:=by simp[UL,Tryz.results140,go_sem]):p:=h
theorem Ek2(h:p:=by rw[cB.out];exact .inl ⟨O,0,0,by omega,by omega,by omega,by omega,O⟩):p:=h
theorem fi(h:p:=by rw[IE];rfl):p:=h
theorem T_(h:p:=by have:=IE;unfold EK.a at this;injection this with this;exact this.symm):p:=h
theorem Vs(h:p:=by have:=IF;unfold EK.a at this;injection this with this;exact this.symm):p:=h
theorem Ek3(h:p:=by rw[hsm.out];exact(S1.out.V (EN y)).core.cell 7 rfl 0 (by simp)):p:=h
theorem jg(h:p:=by simp[go_sem,e]):p:=h
theorem jS(h:p:=by rw[HX.out];rfl):p:=h
theorem jT(h:p:=by rw[HY.out];rfl):p:=h
theorem Ek4(h:p:=by rw[cB.out];exact .inr (.inr ⟨O,h4,by show e<65535;omega,jf.out⟩)):p:=h
theorem xu(h:p:=by rintro rfl;revert hS;decide):p:=h
theorem xw(h:p:=by rintro⟨_,_,⟨_,h⟩,_⟩;cases h):p:=h
theorem qE(h:p:=by have:=ny.out;omega):p:=h
theorem sX(h:p:=by have:=h.lo2;simp;omega):p:=h
theorem Gc(h:p:=by with_unfolding_all (rw[Fl,HS.out.1])):p:=h
theorem yw(h:p:=by rw[aO] at hj;omega):p:=h
theorem j4(h:p:=by simpa using hp):p:=h
theorem Rt(h:p:=by rw[<-Ap.out,List.getElem?_map,J5 hil];rfl):p:=h
theorem tX(h:p:=by rintro⟨_,_,h⟩;exact h):p:=h
theorem MQ(h:p:=by obtain⟨b,h1,h2⟩:=h;exact⟨b,h1,h2.V hr⟩):p:=h
theorem WL(h:p:=by have:=HL.out;have:=nG.out;simp only[IY];omega):p:=h
theorem DQ(h:p:=by rw[HGP.out];exact E7 _):p:=h
theorem YE(h:p:=by have:=jy.out;have:=p6.out;have:=WY.out;have:=lG.out;omega):p:=h
theorem YQ(h:p:=by have:=D.new (w.alloc (EJ cv 48)) zt 43;simpa using this):p:=h
theorem Gj(h:p:=by with_unfolding_all (rw[Od,AL.out])):p:=h
theorem Gr(h:p:=by with_unfolding_all (rw[Od,T8.out])):p:=h
theorem Gv(h:p:=by with_unfolding_all (rw[Od,TL.out])):p:=h
theorem mW(h:p:=by simp[go_sem,d6]):p:=h
theorem Hj(h:p:=by with_unfolding_all (rw[Od,RL.out])):p:=h
theorem BJ(h:p:=by rw[HN.out];exact E7 _):p:=h
theorem Bh(h:p:=by injection e with e;injection e):p:=h
theorem go(h:p:=by simp[I9]):p:=h
theorem Ws(h:p:=by have:=HN.out;have:=HM.out;have:=jy.out;have:=qp.out;omega):p:=h
theorem Ek5(h:p:=by rw[hall j hj,decide_eq_true (by omega)]):p:=h
theorem lP(h:p:=by simp[c0,I9]):p:=h
theorem yD(h:p:=by rw[hi,Array.length_toList,hn]):p:=h
theorem By(h:p:=by rw[hPQ];exact⟨t2,h1,h2,h3,h4⟩):p:=h
theorem DD(h:p:=by subst hb;exact E9 _ _):p:=h
theorem wY(h:p:=by have:=b1.out.size;omega):p:=h
theorem sD(h:p:=by have:=jx.out;omega):p:=h
theorem Nn(h:p:=by simp (disch:=omega) only[cY,A.t2]):p:=h
theorem Np(h:p:=by simp (disch:=omega) only[cY,A.t3]):p:=h
theorem VX(h:p:=by have h1:=bE.out;have h2:=vx.out;have h3:=LK.out;omega):p:=h
theorem Yv(h:p:=by match i with|0=>rfl|1=>rfl|2=>rfl|3=>rfl|4=>rfl|_+5=>rfl):p:=h
theorem iP(h:p:=by rw[hk];rfl):p:=h
theorem iW(h:p:=by simp[Zi]):p:=h
theorem iY(h:p:=by simp[U6]):p:=h
theorem Fr(h:p:=by simp[UL,Tryz.results148,go_sem]):p:=h
theorem FM(h:p:=by simp[UL,Tryz.results146,go_sem]):p:=h
theorem FN(h:p:=by simp[UL,Tryz.results150,go_sem]):p:=h
theorem FR(h:p:=by simp[UL,Tryz.results180,go_sem]):p:=h
theorem P1(h:p:=by subst hw;exact(E9 _ _).alloc (E7 _) _):p:=h
theorem Bv(h:p:=by have:=S.core.ok.tok.e;omega):p:=h
theorem tI(h:p:=by have:=LW.out;omega):p:=h
theorem tJ(h:p:=by have:=LT.out;omega):p:=h
theorem Mf(h:p:=by simp[UL,Tryz.results83,go_sem]):p:=h
theorem xo(h:p:=by rw[jL,if_pos h5]):p:=h
theorem Rf(h:p:=by rw[GA,hk.cell j,OE];exact hu):p:=h
theorem Wp(h:p:=by have h2:=Cq.2.1;unfold U6 at h2;simp at h2;omega):p:=h
theorem fp(h:p:=by simp[c0]):p:=h
theorem Ek6(h:p:=by simpa only[hq 25 (by simp),hq 28 (by simp)] using h):p:=h
theorem EEV(h:p:=by obtain⟨i,z,h1,h2,h3,-⟩:=EEQ;exact⟨i,z,h1,h2,h3⟩):p:=h
theorem Bi(h:p:=by with_unfolding_all (simp)):p:=h
theorem EEx(h:p:=by obtain⟨gt,h1,h2,h3⟩:=h;exact⟨gt,h1,h2,h3.V hr⟩):p:=h
theorem gR(h:p:=by rw[hi,hn]):p:=h
theorem GC(h:p:=by simp[go_sem,d3,d7,d11,ID,EY]):p:=h
theorem oh(h:p:=by simpa using hs):p:=h
theorem oz(h:p:=by simpa using hq):p:=h
theorem rJ(h:p:=by simp at hi;omega):p:=h
theorem ry(h:p:=by rw[HN.out];omega):p:=h
theorem sO(h:p:=by rw[O0];omega):p:=h
theorem Ku(h:p:=by subst hW;exact Er w2 _):p:=h
theorem Kv(h:p:=by subst hW;exact Er w4 _):p:=h
theorem Lb(h:p:=by have:=HN.out;have:=ny.out;omega):p:=h
theorem Ek7(h:p:=by rw[hv2];exact X6 K 2 (by omega) (by omega)):p:=h
theorem xX(h:p:=by have:=ZN.out;omega):p:=h
theorem Px(h:p:=by rw[<-hn];exact(Xx.1 hi).1):p:=h
theorem Py(h:p:=by rw[<-hn];exact(Xx.1 hj).1):p:=h
theorem TX(h:p:=by obtain⟨A,c,e,ho⟩:=h;exact⟨A,c,e,EP ho hr⟩):p:=h
theorem WW(h:p:=by rw[IY];have:=Cv.out;simp;omega):p:=h
theorem Kg(h:p:=by subst hW;exact Er w _):p:=h
theorem NY(h:p:=by have:=(Xx.1 hk).1;omega):p:=h
theorem zE(h:p:=by unfold FD.set;rw[h];rfl):p:=h
theorem zJ(h:p:=by unfold FD.box;rw[h];rfl):p:=h
theorem QD(h:p:=by rw[<-List.flatten_append,gT]):p:=h
theorem QG(h:p:=by rw[HST.out,IY,zK.out,zL.out]):p:=h
theorem zW(h:p:=by have:=ON.out.size;omega):p:=h
theorem Wu(h:p:=by have:=HM.out;have:=jy.out;have:=qp.out;omega):p:=h
theorem DY(h:p:=by rw[JI.tC];omega):p:=h
theorem PG(h:p:=by intro Y3 hu;simp at hu;obtain⟨a,_,rfl⟩:=hu;rfl):p:=h
theorem F0(h:p:=by simp only[maxLen] at h63;omega):p:=h
theorem rP(h:p:=by simp[go_sem,d9]):p:=h
theorem vw(h:p:=by have:=HB.out;omega):p:=h
theorem VJ(h:p:=by rw[cB.out];exact .inr (.inl ⟨O,h4,he,O⟩)):p:=h
theorem vR(h:p:=by simp[go_sem,d9,cc]):p:=h
theorem td(h:p:=by rw[IE.out];rfl):p:=h
theorem Mn(h:p:=by simpa[mx] using e2):p:=h
theorem hU(h:p:=by simp[h4]):p:=h
theorem Qw(h:p:=by with_unfolding_all (rw[Od,rF])):p:=h
theorem Dq(h:p:=by first|rfl|(rw[t1];rfl)):p:=h
theorem Ek8(h:p:=by rw[jL,if_neg (by omega)]):p:=h
theorem VY(h:p:=by unfold Uu;rw[kU];exact X4):p:=h
theorem zn(h:p:=by have:=HS.out.lo;omega):p:=h
theorem zQ(h:p:=by rw[Gd,aQ.out]):p:=h
theorem sG(h:p:=by simp[EK.pass]):p:=h
theorem Cr(h:p:=by rw[Z3.out];exact hlt):p:=h
theorem EEb(h:p:=by rw[iL _ _ _ _ O HX3.out.1];omega):p:=h
theorem QP(h:p:=by with_unfolding_all (rw[Od,aQ.out])):p:=h
theorem QR(h:p:=by with_unfolding_all (rw[Od,kB.out])):p:=h
theorem Vo(h:p:=by have h:=Zv W q;rw[Ul,hpv] at h;exact h):p:=h
theorem kf(h:p:=by simp[EG]):p:=h
theorem mr(h:p:=by rw[he];rfl):p:=h
theorem Qo(h:p:=by with_unfolding_all (rw[Od,HL.out])):p:=h
theorem QT(h:p:=by with_unfolding_all (rw[Od,KL.out])):p:=h
theorem Sh(h:p:=by with_unfolding_all (rw[Od,PL.out])):p:=h
theorem VU(h:p:=by have h1:=bE.out;have h2:=vx.out;omega):p:=h
theorem vG(h:p:=by simp[go_sem,d13]):p:=h
theorem vT(h:p:=by simp[go_sem,d15]):p:=h
theorem vV(h:p:=by simp[go_sem,d17]):p:=h
theorem Yh(h:p:=by cases e<;>first|exact ih _ _ he|exact he):p:=h
theorem Fz(h:p:=by simp[One.v,OF]):p:=h
theorem SE(h:p:=by simp[EQ.ou h i,OH,(h.E4 i).len]):p:=h
theorem Wa(h:p:=by simp[iD,gw,a0,b0,a1,b1,a2,b2,a3,b3]):p:=h
theorem MD(h:p:=by rw[hr.out,AT.out.2 hp];rfl):p:=h
theorem QQ(h:p:=by rw[IY,mP.out,oR.out]):p:=h
theorem QS(h:p:=by rw[IY,mQ.out,kB.out]):p:=h
theorem TU(h:p:=by obtain⟨b,e,hk⟩:=h;exact⟨b,e,hr _ _ hk⟩):p:=h
theorem BK(h:p:=by simp[go_sem,d12,cc]):p:=h
theorem B_(h:p:=by simp[go_sem,d19,cc]):p:=h
theorem Ko(h:p:=by rw[hp.length_eq];exact k2):p:=h
theorem VI(h:p:=by have:=HB.out;unfold sat;split<;>omega):p:=h
theorem Vk(h:p:=by have h:=Zv W q;rw[Ul] at h;exact h):p:=h
theorem VH(h:p:=by rw[List.eq_of_mem_replicate hx];omega):p:=h
theorem yu(h:p:=by simpa[h5] using h3):p:=h
theorem PA(h:p:=by rw[bD,aO];omega):p:=h
theorem PD(h:p:=by simp[UL,Tryz.results104,go_sem]):p:=h
theorem zU(h:p:=by rw[<-hw];exact zO):p:=h
theorem sJ(h:p:=by simp[O0]):p:=h
theorem AC(h:p:=by have:=h3.2 h;omega):p:=h
theorem sb(h:p:=by simp[HN.out]):p:=h
theorem Tt(h:p:=by subst h2;exact⟨h1,KO,E9 _ _⟩):p:=h
theorem Bn(h:p:=by show e<65535;omega):p:=h
theorem Bq(h:p:=by simp[go_sem,d6,cc]):p:=h
theorem Bt(h:p:=by simp[Pt.hold,I9]):p:=h
theorem Bw(h:p:=by simp[go_sem,d8,cc]):p:=h
theorem Yf(h:p:=by rcases hF with rfl|⟨l,rfl⟩<;>trivial):p:=h
theorem Yw(h:p:=by simp[UL,Tryz.results117,go_sem]):p:=h
theorem Di(h:p:=by simp[go_sem,d1,cc]):p:=h
theorem Mt(h:p:=by rw[jN];exact Ehi):p:=h
theorem EER(h:p:=by have:=u.out.size;have:=HN.out;omega):p:=h
theorem Nd(h:p:=by rw[hzs];exact DW):p:=h
theorem PK(h:p:=by simp only[IY];omega):p:=h
theorem YG(h:p:=by rcases hS with rfl|rfl|rfl<;>decide):p:=h
theorem EET(h:p:=by have:=cC.out;have:=K1.out.lt;omega):p:=h
theorem FT(h:p:=by have:=u.out.size;omega):p:=h
theorem F6(h:p:=by unfold FD.get;rw[h];rfl):p:=h
theorem yR(h:p:=by simp[One.v];omega):p:=h
theorem BI(h:p:=by simp[Rec.v];omega):p:=h
theorem Bk(h:p:=by have:=hb.lt;omega):p:=h
theorem Wt(h:p:=by have:=jy.out;have:=wC.out;omega):p:=h
theorem WV(h:p:=by have:=p6.out;have:=wC.out;omega):p:=h
theorem Gn(h:p:=by rw[ui k h];omega):p:=h
theorem Hi(h:p:=by rw[Od,fF]):p:=h
theorem SK(h:p:=by unfold aS pn;rw[p0,p1,p2,p3,p4]):p:=h
theorem Rc(h:p:=by simp only[List.length_nil];omega):p:=h
theorem Tw(h:p:=by subst hW;exact Er wr _):p:=h
theorem VO(h:p:=by subst hW;exact Er w7 _):p:=h
theorem Vh(h:p:=by subst hW;exact Er w6 _):p:=h
theorem Ek9(h:p:=by rw[hq 14 (by simp)] at h;exact h):p:=h
theorem CU(h:p:=by simp[go_sem,e25]):p:=h
theorem Ek_(h:p:=by rw[hq 31 (by simp)] at h;exact h):p:=h
theorem Ca(h:p:=by simp[go_sem,d20]):p:=h
theorem YK(h:p:=by rintro rfl;rw[hS] at hT;cases hT):p:=h
theorem EEc(h:p:=by unfold maxLen;have:=NN.out;omega):p:=h
theorem ox(h:p:=by simp[OH]):p:=h
theorem ElE(h:p:=by rw[e _ (by omega)];exact h.kh):p:=h
theorem Rg(h:p:=by rw[IY];exact h2):p:=h
theorem Tx(h:p:=by rw[dy.out];exact E7 _):p:=h
theorem Wr(h:p:=by rw[<-HE.out.1];exact HT2.out.2.2):p:=h
theorem Wv(h:p:=by rw[<-jj];exact S8.out):p:=h
theorem Gg(h:p:=by rw[HM.out];exact hlt):p:=h
theorem GL(h:p:=by rw[HN.out];exact hin):p:=h
theorem ElI(h:p:=by rw[GT,if_pos (by omega)]):p:=h
theorem L7(h:p:=by rw[hn];exact nF.out):p:=h
theorem Yg(h:p:=by obtain⟨_,_,h⟩:=he;exact h.elim):p:=h
theorem Mr(h:p:=by simpa[I8] using K):p:=h
theorem FJ(h:p:=by simp[yU,I9]):p:=h
theorem Fq(h:p:=by simp[dN]):p:=h
theorem Gk(h:p:=by rw[Od,AL.out]):p:=h
theorem Lj(h:p:=by simp[go_sem,d16,cc]):p:=h
theorem Ll(h:p:=by simp[go_sem,d22,cc]):p:=h
theorem M9(h:p:=by simp[c0,Fv,I9]):p:=h
theorem yp(h:p:=by simpa using ho):p:=h
theorem yN(h:p:=by simpa using hc):p:=h
theorem Qq(h:p:=by rw[<-hW];unfold XJ;omega):p:=h
theorem BW(h:p:=by simpa using nn):p:=h
theorem rZ(h:p:=by simp at h):p:=h
theorem Pa(h:p:=by rcases v with _|⟨h,s⟩<;>rfl):p:=h
theorem F1(h:p:=by simpa using hown.1):p:=h
theorem Gb(h:p:=by rw[HS.out.1];omega):p:=h
theorem Hd(h:p:=by simp[go_sem,d4,cc]):p:=h
theorem MR(h:p:=by simp[go_sem,d0,cc]):p:=h
theorem MS(h:p:=by simp[go_sem,e1,e2]):p:=h
theorem N0(h:p:=by subst he;exact⟨v,O,hb,h⟩):p:=h
theorem DT(h:p:=by simp[c0,iZ]):p:=h
theorem tM(h:p:=by simp at hx):p:=h
theorem uO(h:p:=by rw[hr];rfl):p:=h
theorem vN(h:p:=by simp[Pt.v]):p:=h
theorem xm(h:p:=by rw[h5];rfl):p:=h
theorem FY(h:p:=by simpa using hown):p:=h
theorem y_(h:p:=by injection hv):p:=h
theorem Ga(h:p:=by rw[HL.out];omega):p:=h
theorem Gh(h:p:=by rw[HM.out];omega):p:=h
theorem Kj(h:p:=by have:=K.lt;omega):p:=h
theorem sy(h:p:=by simp[h1]):p:=h
theorem KV(h:p:=by simp[go_sem,e11]):p:=h
theorem Lc(h:p:=by simp[go_sem,e15]):p:=h
theorem Li(h:p:=by simp[go_sem,d14]):p:=h
theorem Lk(h:p:=by simp[go_sem,d18]):p:=h
theorem Lo(h:p:=by simp[go_sem,d28]):p:=h
theorem Lz(h:p:=by simp[go_sem,d26]):p:=h
theorem sW(h:p:=by simp[h0]):p:=h
theorem Dd(h:p:=by rw[<-xq.out]):p:=h
theorem Fk(h:p:=by simpa using hmn):p:=h
theorem Gp(h:p:=by rw[Od,hk]):p:=h
theorem Kb(h:p:=by simp[go_sem,d2]):p:=h
theorem LU(h:p:=by rw[he];exact hk):p:=h
theorem MC(h:p:=by rw[AT.out.1,hp]):p:=h
theorem yV(h:p:=by rw[h2];simp):p:=h
theorem Ar(h:p:=by simp[Jm.v]):p:=h
theorem Bl(h:p:=by rw[Uk.out]):p:=h
theorem ud(h:p:=by simp[hx]):p:=h
theorem xn(h:p:=by simp[h5]):p:=h
theorem hI(h:p:=by rfl):p:=h
theorem En{α}(a:α):∃b,b=a:=⟨a,rfl⟩
theorem Jl{α}(a:α):∃b,a=b:=⟨a,rfl⟩
@[reducible]def El(w w':H):Prop:=Ik w.heap.size w w'
theorem O{α:Sort _}{a:α}:a=a:=rfl
theorem IU[Decidable p](h:p):decide p=true:=decide_eq_true h
theorem IJ[Decidable p](h:¬p):decide p=false:=decide_eq_false h
theorem ElJ(h:p:=by go_wp2_with (with_reducible refine wA fL (Ev.mk ?_));apply Eo;have K2:=J<|D.new w Jx 298;have u:=J<|Er w (EJ Jx 298);have l1:w.heap.size<(w.alloc (EJ Jx 298)).heap.size:=Eh;generalize w.alloc (EJ Jx 298)=w1 at*;go_wp2_with fail;refine(CN.out _).mono ?_;rintro e w2 ⟨v,rfl,⟨gb,rfl,lb,kb⟩,b2⟩;replace K2:=J<|K2.out.V b2;replace u:=ET u b2;have O1:=J<|hZ d gb;have OP:Ec ((ID d gb).size=5):=J O;have HB:Ec (∀W:H,ZI W d gm gb->FV W w.heap.size gm d (EZ (ID d gb))):=J fun W h=>⟨gb,O,U,h⟩;generalize ID d gb=fv at*;clear b2 CN;go_wp2_with (with_reducible refine wS (cs:=fv) XA K2 ?_ (hn:=OP.out) (h1:=O1.out));refine EV (v:=EZ fv) (Jj XA O _ _ (w.heap.size) _ O (K2.out.setRow _) OP.out) O ⟨_,O,HB.out _ (D.setRow_other kb _ _ U),E2 u.out U _⟩):p:=h
theorem ElO(h:p:=by rw[<-IE];have nK:=TS;clear TS TO J4;have TS:Ec (JA.size=4):=J fi;have TO:Ec (JA.all (·.oneCell')=EI):=J fj;have J4:=J IE;clear IE;have OW:=J<|X0 W2 w.heap.size;go_wp2_with (with_reducible refine wS (cs:=JA) J3 K3 (Ev.mk ?_) (ho:=nL) (hn:=TS.out) (h1:=TO.out));apply Eo;have hne:w.heap.size≠(w.heap.size+1):=U;replace OW:=J<|ay OW.out K3.out JA;replace JJ:=J<|E2 JJ.out (U:w.heap.size<=(w.heap.size+1)) JA;replace K2:=J<|(J8 JA).Ek K2.out hne;replace K3:=J<|K3.out.setRow JA;clear hne;generalize W2.setRow (w.heap.size+1) JA=V2 at*;go_wp2_with (with_reducible first|refine wL J3 K3 ?_ (hn:=TS.out)|refine wS (cs:=JA) J3 K2 ?_ (hn:=TS.out) (h1:=TO.out));refine EV (Jj J3 O _ _ w.heap.size JA O (K2.out.setRow JA) TS.out) O ?_;rw[J4.out,HF.out];exact⟨⟨_,O,_,_,O,ay OW.out K2.out _⟩,E2 JJ.out (E7 _) _⟩):p:=h
theorem ElU(h:p:=by have t1':decide ((i:Int)<(n:Int))=EI:=IU U;obtain⟨x,hx⟩: ∃x,GQ[i]?=Z x:=⟨GQ[i]'(by rw[lH.out];exact hlt),J5 _⟩;obtain⟨gg,cur,rfl,ka,dH⟩:=wt OA.out hx lH.out;have KA:=J ka;have dK:=J dH;clear ka dH hx;have K0:=J<|D.new wr #[E I 0,E I 0,E I 0,E I 0] 133;have b2:=Er wr (EJ #[E I 0,E I 0,E I 0,E I 0] 133);go_wp2_with (with_reducible first|refine wM (off:=i*4) (cs:= #[E I x.s,E I x.r,E I x.a,E I x.m]) jF KA ?_ (he:=dK.out)|refine wA wu ?_|refine wS (cs:= #[E I x.s,E I x.r,E I x.a,E I x.m]) jF K0 (Ev.mk ?_) (h1:=Ug));apply Eo;obtain⟨gx,hgx⟩:=En wr.heap.size;rw[<-hgx] at K0⊢;generalize wr.alloc (EJ #[E I 0,E I 0,E I 0,E I 0] 133)=Xc at*;have KX:=J<|K0.out.setRow #[E I x.s,E I x.r,E I x.a,E I x.m];have b3:=E2 (g:=gx) b2 (Om hgx.symm) #[E I x.s,E I x.r,E I x.a,E I x.m];generalize Xc.setRow gx #[E I x.s,E I x.r,E I x.a,E I x.m]=JW at*;clear K0 b2 hgx KA dK;replace S1:=J<|S1.out.V b3;replace MM:=J<|MM.out.trans (Ew.EA b3);replace OA:=J<|EP OA.out fun _ _ h=>D.V h b3;clear b3;have cx:JW.cell? ⟨gx,0,X⟩=Z (E I x.s):=(D.cell KX.out 0).trans O;go_wp2_with fail;refine(pF lo hi g gc gq gt gs _ (ns+m2+m3) _ x.s x.s 30 _ S1.out Cw).mono ?_;rintro e16 w16 ⟨rfl,⟨m16,iH,s16⟩,au⟩;replace S1:=J s16;replace MM:=J<|MM.out.trans au;replace KX:=J<|au.Ek KX.out Ea Ea;replace OA:=J<|EP OA.out fun _ _ h=>au.Ek h Ea Ea;have wC:=J iH;clear s16 au iH cx;have cx:jo _ ⟨gx,0,X⟩=Z (E I x.s):=(D.cell KX.out 0).trans O;go_wp2_with fail;refine(Zp lo hi g gc gq gt gs _ _ _ 12 x.s 0 30 0 _ S1.out Cx).mono ?_;rintro e17 w17 ⟨rfl,wK,qu⟩;have S8:=J wK;replace MM:=J<|MM.out.trans qu;replace OA:=J<|EP OA.out fun _ _ h=>qu.Ek h Ea Ea;clear wK qu cx KX;have Ef5:=lG.out;go_wp2_with fail;refine⟨⟨i+1,m3+m16,n3++[⟨12,x.s,0,t2.e,30,0⟩],U,Eh,WV,WW,?_,MM.out,base,OA.out⟩,JM⟩;rw[<-jj,<-XI,<-XI];have h:=S8.out;rw[<-XI] at h;exact h):p:=h
theorem ElX(h:p:=by refine CF.out.mono ?_;rintro x W2 ⟨rfl,b2⟩;replace K0:=J<|K0.out.V b2;replace K1:=J<|K1.out.V b2;replace K3:=J<|K3.out.V b2;replace K5:=J<|K5.out.V b2;replace u:=ET u b2;clear b2 CF;go_wp2_with (with_reducible first|refine wL ER K1 ?_|refine wS (cs:= #[E I h,E I e,E I o,E I oa,E I om,E I la,E I lm,EU b]) ER K5 ?_ (h1:=Ug));refine EV (Ux ER O _ _ (w.heap.size+1+1+1+1+1) _ _ O O (K5.out.setRow _) O) O ⟨?_,E2 (g:=w.heap.size+1+1+1+1+1) u.out U _⟩;rw[HE.out];rfl):p:=h
theorem ElZ(h:p:=by go_wp2_with fail;refine(CF.out _).mono ?_;rintro e w1 ⟨v,rfl,⟨gb,rfl,lb,kb⟩,b1⟩;have FB:Ec (El w (w1.alloc (EJ (EY [(Ih,gb)]).toArray 298))):=J<|b1.alloc b1.size _;have FK:Ec (Xq (w1.alloc (EJ (EY [(Ih,gb)]).toArray 298)) w.heap.size w1.heap.size gm [(Ih,gb)]):=J (af (D.new w1 _ 298) (fun i hi=>by have:i=0:=U5;subst this;exact⟨lb,D.alloc kb _⟩) b1.size);clear b1 c0 CF kb;unfold ID;go_wp2_with fail;go_ret2;exact⟨_,_,_,O,O,FK.out,FB.out⟩):p:=h
theorem Ela(h:p:=by simp only[Iq,Io,IP,IH,EH,Ig,Ii,Ia,Ib];rw[dt,e];have FK:=J<|af kk bx lg;have FB:=ET u hb;replace m:=J m;clear hr hb dt e kk bx;go_wp2_with fail;go_ret2;exact⟨gl,_,fs,O,m.out,FK.out,FB.out⟩):p:=h
theorem Elb(h:p:=by rw[show(t5,vy).fst.a=EZ ZM from pV];have fZ:=J fZ;have lJ:=J lJ;have KD:=J pV;have Bo:=J h50;clear pV h50 hg;go_wp2_with (((with_reducible refine JB 109 ?_);(with_reducible refine bu (g:=Ow) (cs:=ZM) ER ?_ ?_ KB ?_ ?_ ?_ ?_);(·exact Ei O);(·exact⟨O,O,O⟩);(·exact RS.out);(·exact fZ.out);(·exact lJ.out);refine Ev.mk ?_));apply Eo;have vz:=J<|KB.out.setRow ZM;have vB:=J<|D.setRow_other KR.out Ow ZM (ZE sA.out);have vC:=J<|Q1.out.XZ ZM KB.out Ea Ea;have vD:=J<|MM.out.Xa ZM cC.out lw.out KB.out Ea Ea;clear KB KR Q1 MM KT;have KB:=vz;have KR:=vB;have Q1:=vC;have MM:=vD;clear vz vB vC vD;generalize w9.setRow Ow ZM=Uy at*;go_wp2_with (first|((with_reducible refine XH 109 ?_);(with_reducible refine ZR (g:=Ow) ER ?_ ?_ KB ?_ ?_);(·exact Ei rfl);(·exact⟨rfl,rfl⟩);(·exact fZ.out))|((with_reducible refine JB 109 ?_);(with_reducible refine bu (g:=gk+1) (cs:=ZM) ER ?_ ?_ KR ?_ ?_ ?_ ?_);(·exact Ei rfl);(·exact⟨rfl,rfl,rfl⟩);(·rfl);(·exact fZ.out);(·exact lJ.out)));refine EV (Ux ER O _ _ (gk+1) ZM (E I 5) O O (KR.out.setRow _) fZ.out) O ?_;refine⟨⟨t5,5,L',congrArg (fun v=>Eg (Et #[v,E I 5])) KD.out.symm,(by rw[cB.out];exact .inr (.inr ⟨O,h4,Bn,4,U,U,fun e4=>h4 e4.symm,Bo.out.2⟩)),SQ.out,?_⟩,MM.out.Xa _ a_ lw.out KR.out Ea Ea⟩;exact Q1.out.XZ _ KR.out Ea Ea):p:=h
theorem Elc(h:p:=by go_wp2;go_ret;exact⟨O,by(repeat (first|exact E9 _ _|(refine JQ ?_ Iv _)|(refine JR ?_ Iv _)))⟩):p:=h
theorem Eld(h:p:=by intro _ hw';obtain⟨y9,rfl⟩:=hw';have Em:=EN y9;replace KX:=EM KX Em;replace S1:=J<|S1.out.V Em;replace MM:=J<|MM.out.trans (Ew.EA Em);replace OA:=J<|EP OA.out fun _ _ h=>D.V h Em;clear y0 L8 yx Em;generalize EC JW y9=Z7 at*;go_wp2_with fail;refine(pL lo gq _ (pn g 48) x.s _ S1.out.core.lq S1.out.core.ZL S1.out.core.ok.q).mono ?_;rintro e15 Cn ⟨⟨b15,rfl⟩,⟨L3,wy,wz⟩,m15⟩;have wB:=S1.out.core.ok.sub wz;replace S1:=J<|S1.out.gh m15 L3 wy wB;replace MM:=J<|MM.out.trans (m15.js hi);replace KX:=J<|m15.Ek KX.out Ea Ea;replace OA:=J<|EP OA.out fun _ _ h=>m15.Ek h Ea Ea;clear m15 wy wz wB;have cx:jo _ ⟨gx,0,X⟩=Z (E I x.s):=(D.cell KX.out 0).trans O;go_wp2_with fail;refine(pF lo hi g gc gq gt gs _ (ns+m+m2) _ x.s 4 29 _ S1.out Ws).mono ?_;rintro e16 w16 ⟨rfl,⟨m16,iH,s16⟩,au⟩;have S8:=J s16;replace MM:=J<|MM.out.trans au;replace OA:=J<|EP OA.out fun _ _ h=>au.Ek h Ea Ea;have wC:=J iH;clear s16 au iH cx;have Kq:=qp.out;go_wp2_with fail;refine⟨⟨i+1,L3,m2+m16,U,Eh,Wt,?_,MM.out,base,OA.out⟩,JM⟩;rw[show ns+m+(m2+m16)=ns+m+m2+m16 from U];exact S8.out):p:=h
theorem Elf(h:p:=by go_enter Tryz.func170,Tryz.ntmps170;go_wp2_with fail;refine Ud 4 ?_;(iterate 2 rw[Ij];go_wp2_with fail);(iterate 2 rw[Ij];go_wp2_with fail);go_ret;exact⟨O,O⟩):p:=h
theorem Elg(h:p:=by have d2:v 2=M (Z ⟨gm,1,X⟩):=hd.at 2 rfl;refine JL (f:=203) (args:= #[v 2]) (Ei O) Ex ?_;rw[d2];exact(iJ gm 1 w').mono fun e w'' ⟨v,he,⟨gb,e2,lb,kb⟩,hb'⟩=>⟨v,he,hb',gb,e2,Ez (Ez u.out.size hb.size) lb,kb⟩):p:=h
theorem Elh(h:p:=by intro _ hw';obtain⟨y9,rfl⟩:=hw';have Em:=EN y9;replace S1:=J<|S1.out.V Em;replace MM:=J<|MM.out.trans (Ew.EA Em);clear y0 Em KG Xf iw PL U9 CN;generalize EC iF y9=jD at*;have TH:=J<|cD S1.out.core 11 rfl 12 vN;go_wp2_with ((with_reducible refine JB 50 ?_);(with_reducible refine Ui O 50 _ _ O gc 102 p'.v.toArray ?_ ?_ ?_ ?_ ?_ ?_);(·rfl);(·rfl);(·exact TH.out);(·exact im.2);(·simp[Pt.v,OF]);refine Ev.mk ?_);apply Eo;have S4:=S1.out.il p' (S1.out.core.ok.il io.out);replace S1:=J S4.1;replace MM:=J<|MM.out.trans S4.2;clear S4 TH;change Ic _ _ _ _ _ (jD.setCells gc 102 p'.v);generalize jD.setCells gc 102 p'.v=W_ at*;go_wp2_with fail;go_end0;have e1:ns+m2+m3+m4=ns+(m2+m3+m4):=U;have h8:=S1.out;rw[e1,XI] at h8;exact⟨O,⟨_,m2+m3+m4,_,YE,YI,h8,WA HT.out HT1.out (fun x hx=>k_ _ (k_ _ (MI.out x hx))) (fun h=>YJ) T1 KQ WP.out (fun x hx=>List.mem_append_right _ hx) lK.out p' ZH.out⟩,MM.out⟩):p:=h
theorem Eli(h:p:=by go_wp2_with fail;go_ret;exact⟨O,O⟩):p:=h
theorem Elj(h:p:=by have d6:v 6=M (Z ⟨gm,4,X⟩):=hd.at 6 rfl;refine JL (f:=206) (args:= #[v 6]) (Ei O) Ex ?_;rw[d6];exact(pJ gm 4 w').mono fun e w'' ⟨v,he,⟨gb,e2,lb,kb⟩,hb'⟩=>⟨v,he,hb',gb,e2,Ez (Ez u.out.size hb.size) lb,kb⟩):p:=h
theorem Elk(h:p:=by obtain rfl:p=0:=U;exact Es Ex O):p:=h
theorem Ell(h:p:=by go_wp2_with (first|((with_reducible refine It 50 ?_);refine I3 rfl 183 _ rfl (ED (IZ 0)) ji ?_)|(with_reducible refine wS (cs:=(ED (IZ 0))) OM K2 ?_ (ho:=I_ _) (hn:=I_ _) (h1:=ZF _)));refine EV (v:=Et #[EZ (ED (IZ 0)),E I 13]) (dq OM O _ _ w.heap.size _ _ O O (K2.out.setRow _) (I_ _)) O ?_;exact PF.out _ _ O (D.setRow_other KT.out w.heap.size _ U) (ON.out.db (g2:=w.heap.size) (E7 _) (fT _) ON.out.size)):p:=h
theorem Elm(h:p:=by obtain rfl:p=0:=U;have d2:xv 2=M (Z ⟨gs,0,X⟩):=hd.at 2 rfl;have cc:wq.cell? ⟨gs,0,X⟩=Z (M (Z ⟨gc,0,X⟩)):=hp.2.1.IB;exact Es bL O):p:=h
theorem Eln(h:p:=by exact PF.out _ _ O (D.setRow_other KT.out w.heap.size _ U) (ON.out.db (g2:=w.heap.size) (E7 _) (fT _) ON.out.size)):p:=h
theorem Elo(h:p:=by exact E_ EF (Ei O) Ex O):p:=h
theorem Elp(h:p:=by have B1:=J<|Er w (EJ #[E I sz,E I lo,E I hi,.func (.func Y5) #[] #[gp],.func (.func S) #[] #[gp]] 298);have KB:=J<|D.new w #[E I sz,E I lo,E I hi,.func (.func Y5) #[] #[gp],.func (.func S) #[] #[gp]] 298;have HR:=J<|Ix hr B1.out;clear hr;go_enter Tryz.func209,Tryz.ntmps209;go_wp2_with fail;generalize w.alloc (EJ #[E I sz,E I lo,E I hi,.func (.func Y5) #[] #[gp],.func (.func S) #[] #[gp]] 298)=w1 at*;have cb:=fun j=>KB.out.cell j;refine(CT.out _ HR.out).mono ?_;rintro e w2 ⟨rfl,rfl⟩;go_wp2_with fail;refine(HS.out.call _ B1.out).mono ?_;rintro e w3 ⟨rfl,hq⟩;clear HE;go_wp2_with fail;go_ret;exact⟨O,_,B1.out,hq⟩):p:=h
theorem Elq(h:p:=by subst hcd;go_wp2_with fail;refine(pL lo gq L most s _ LQ.out Q1.out HL.out).mono ?_;rintro e6 w6 ⟨⟨bb,rfl⟩,⟨L',q6,sq⟩,m6⟩;replace Q1:=J q6;have SQ:=J sq;replace KR:=J<|m6.Ek KR.out Ea Ea;replace KB:=J<|m6.Ek KB.out Ea Ea;replace MM:=J<|MM.out.trans m6;clear m6 q6 sq;go_wp2_with (with_reducible first|refine wL ER KB ?_ (hn:=RS.out)|refine wS (cs:=rv) ER KR ?_ (hn:=RS.out) (h1:=RO.out));refine EV (jE ER O _ _ gr rv (E I 3) (E I 0) O O O (KR.out.setRow _) RS.out) O ?_;refine⟨⟨t2,3,0,Bl,.inr (.inl ⟨O,O,HG.out,L',SQ.out,Q1.out.XZ _ KR.out Ea Ea⟩)⟩,MM.out.Xa _ LR.out lw.out KR.out Ea Ea⟩):p:=h
theorem Elr(h:p:=by go_ret;exact⟨O,O⟩):p:=h
theorem Els(h:p:=by go_wp2_with (first|((with_reducible refine It 5 ?_);refine I3 rfl 298 _ rfl fv BF.out ?_)|(with_reducible refine wS (cs:=fv) XA K8 ?_ (hn:=OP.out) (h1:=O1.out)));refine EV (v:=EZ fv) (Jj XA O _ _ (w.heap.size+1) _ O (K8.out.setRow _) OP.out) O ⟨_,O,HB.out _ (K4.out.setRow_other _ _ U),E2 u.out U _⟩):p:=h
theorem Elt(h:p:=by have c0:=hm.cell 0;rw[Zh _ _ U,if_neg U,hk] at c0;have CF:=J<|fun W=>Gz gm 2 W;have u:=J<|E9 w.heap.size w;clear hm hk;go_enter iO,iU;go_wp2_with fail;refine(CF.out _).mono ?_;rintro e w1 ⟨v,rfl,⟨gb,rfl,lb,kb⟩,b1⟩;have FB:Ec (El w (w1.alloc (EJ (EY [(XU,gb)]).toArray 298))):=J<|b1.alloc b1.size _;have FK:Ec (Xq (w1.alloc (EJ (EY [(XU,gb)]).toArray 298)) w.heap.size w1.heap.size gm [(XU,gb)]):=J (af (D.new w1 _ 298) (fun i hi=>by have:i=0:=U5;subst this;exact⟨lb,D.alloc kb _⟩) b1.size);clear b1 c0 CF kb;unfold ID;go_wp2_with fail;go_ret2;exact⟨_,_,_,O,O,FK.out,FB.out⟩):p:=h
theorem Elu(h:p:=by have t9:(cd !=0)=EI:=dA;have vt:=J hcd;clear hcd;go_wp2_with fail;refine(pW gk tv TS.out TO.out cd _ KT.out).mono ?_;rintro e7 w7 ⟨rfl,b7⟩;replace KT:=EM KT b7;replace KR:=EM KR b7;replace KP:=EM KP b7;replace Q1:=J<|Q1.out.V b7;replace MM:=J<|MM.out.trans (Iy.EA b7 (Ez lw.out MM.out.bel.size));clear b7;go_wp2_with (with_reducible refine wS (cs:=tv) ER KR ?_ (hn:=TS.out) (h1:=TO.out));refine EV (jE ER O _ _ gr tv (E I 0) (E I cd) O O O (KR.out.setRow _) TS.out) O ?_;refine⟨⟨t,0,cd,aY,.inl ⟨vt.out,O,O,Q1.out.XZ _ KR.out Ea Ea⟩⟩,MM.out.Xa _ LR.out lw.out KR.out Ea Ea⟩):p:=h
theorem Elv(h:p:=by obtain⟨gl,fs,e,m,lg,bx,kk⟩:=h;exact⟨gl,fs,e,m,lg,bx.V hb,kk.V hb⟩):p:=h
theorem Elw(h:p:=by clear b1 c0 CF kb;unfold ID;go_wp2_with fail;go_ret2;exact⟨_,_,_,O,O,FK.out,FB.out⟩):p:=h
theorem Elx(h:p:=by (repeat (first|exact E9 _ _|(refine JQ ?_ Iv _)|(refine JR ?_ Iv _)))):p:=h
theorem Ely(h:p:=by obtain rfl:p=0:=U;have d3:xv 3=M (Z ⟨gc,0,X⟩):=hd.at 3 rfl;exact Es bM O):p:=h
theorem Elz(h:p:=by obtain rfl:p=0:=U;have d1:xv 1=M (Z ⟨gs,0,X⟩):=hd.at 1 rfl;exact Es Xp O):p:=h
theorem ElA(h:p:=by obtain rfl:p=0:=U;have d0:xv 0=M (Z ⟨gs,0,X⟩):=hd.at 0 rfl;exact Es UW O):p:=h
theorem ElB(h:p:=by have B1:=J<|Er w (EJ #[E I sz,E I lo,E I hi,.func (.func Y5) #[] #[gp],.func (.func S) #[] #[gp]] 298);have KB:=J<|D.new w #[E I sz,E I lo,E I hi,.func (.func Y5) #[] #[gp],.func (.func S) #[] #[gp]] 298;have HR:=J<|Ix hr B1.out;clear hr;go_enter Tryz.func209,Tryz.ntmps209;go_wp2_with fail;generalize w.alloc (EJ #[E I sz,E I lo,E I hi,.func (.func Y5) #[] #[gp],.func (.func S) #[] #[gp]] 298)=w1 at*;have cb:=fun j=>KB.out.cell j;refine(CT.out _ HR.out).mono ?_;rintro e w2 ⟨rfl,rfl⟩;go_wp2_with fail;go_ret;exact⟨O,B1.out⟩):p:=h
theorem ElC(h:p:=by have d5:v 5=M (Z ⟨gm,0,X⟩):=hd.at 5 rfl;exact E_ EF (Ei O) dk O):p:=h
theorem ElD(h:p:=by have d4:v 4=M (Z ⟨gm,0,X⟩):=hd.at 4 rfl;exact E_ EF (Ei O) XN O):p:=h
theorem ElF(h:p:=by have d1:v 1=M (Z ⟨gm,0,X⟩):=hd.at 1 rfl;exact E_ EF (Ei O) Xp O):p:=h
theorem ElG(h:p:=by have d0:v 0=M (Z ⟨gm,0,X⟩):=hd.at 0 rfl;exact E_ EF (Ei O) UW O):p:=h
theorem ElH(h:p:=by have HL2:=J hl2;clear hl2 hx;go_wp2_with fail;refine CP.out.mono ?_;rintro e w9 ⟨rfl,aq,o9⟩;replace TT:=J<|TT.out.trans (JZ.kW o9);replace K:=J<|o9.Ek K.out Jb.out.symm;go_wp2_with fail;go_ret;exact⟨⟨_,O⟩,⟨Zr,x,HP.out,HL2.out,Ln.cut K.out,aq⟩,TT.out⟩):p:=h
theorem ElK(h:p:=by have r3:=Ix r2 u;generalize hxs:ps[i]=xs at*;generalize hys:(ps.take i).flatten=ys at*;obtain⟨k,hk⟩:=Jl xs.length;rw[hk] at ck hle;rw[hn] at hle;have zK:=J hn;have zL:=J hk;have dZ:=J ho;have Jf:=J u;have R3:=J r3;have HST:=J hst;clear hn hk ho u r3 r2 e2 hst hxs hys;go_wp2_with ((at_builtin;refine uX _ O (.tmp 12) (.tmp 13) O w.heap.size A d n ys zK.out O dZ.out Y4 c2 k xs zL.out O R3.out U Jf.out.size ?_;intro A1 mF w4 o1 b4));exact⟨⟨i+1,A1,mF,n+k,U,Eh,O,QG,by rw[HST.out];exact o1,Jf.out.trans b4⟩,JM⟩):p:=h
theorem ElL(h:p:=by intro _ hw';obtain⟨y8,rfl⟩:=hw';have Em:=EN y8;replace KT:=J<|KT.out.V Em;replace ON:=J<|ON.out.trans (E3.EA Em);clear Em;generalize EC w5 y8=w6 at*;have KF:=J<|TP.out w6 KT.out;replace ON:=J<|ON.out.trans (JG (g:=g) sv o w6);replace TH:=J<|TH.out w6 KT.out;go_wp2_with ((with_reducible refine JB 160 ?_);(with_reducible refine Ui O 160 _ _ O g o sv.toArray ?_ ?_ ?_ ?_ ?_ ?_);(·rfl);(·rfl);(·rw[SZ.out];exact TH.out);(·rw[SZ.out];exact mH.2);(·exact S1.out));go_ret;exact⟨O,KF.out,ON.out⟩):p:=h
theorem ElM(h:p:=by intro _ hw';obtain⟨y9,rfl⟩:=hw';have Em:=EN y9;replace S1:=J<|S1.out.V Em;replace MM:=J<|MM.out.trans (Ew.EA Em);clear y0 wn Em;generalize EC wr y9=iF at*;go_wp2_with fail;refine(Bu lo hi g gc gq gt gs _ _ _ md ⟨2,4,0⟩ _ S1.out sY.out LS).mono ?_;rintro e21 jD ⟨rfl,iG,m21⟩;have S8:=J iG;replace MM:=J<|MM.out.trans m21;clear iG m21;go_wp2_with fail;go_end0;exact⟨O,⟨_,m+m2,new,Wu,Wv,.inr ⟨O,L2,t2,md,S8.out.core.ok.tok,HO.out.1,HO.out.2,O,wv.out⟩⟩,MM.out⟩):p:=h
theorem ElN(h:p:=by refine CF.out.mono ?_;rintro x W2 ⟨rfl,b2⟩;replace K3:=J<|K3.out.V b2;replace K4:=J<|K4.out.V b2;replace K5:=J<|K5.out.V b2;replace K6:=J<|K6.out.V b2;replace u:=ET u b2;clear b2 CF;go_wp2_with (with_reducible first|refine wL ER K3 ?_|refine wS (cs:= #[E I h,E I e,E I o,E I oa,E I om,E I la,E I lm,EU b]) ER K6 ?_ (h1:=Ug));refine EV (Ux ER O _ _ (w.heap.size+1+1+1) _ _ O O (K6.out.setRow _) O) O ⟨?_,E2 (g:=w.heap.size+1+1+1) u.out U _⟩;rw[HE.out];rfl):p:=h
theorem ElP(h:p:=by exact(ux gm 3 w').mono fun e w'' ⟨v,he,⟨gb,e2,lb,kb⟩,hb'⟩=>⟨v,he,hb',gb,e2,Ez (Ez u.out.size hb.size) lb,kb⟩):p:=h
theorem ElQ(h:p:=by have g2:v 2=EU B:=hd.at 2 rfl;exact E_ EF (XG O O (congrArg Z g2)) Ex O):p:=h
theorem ElR(h:p:=by intro ev o w ho;unfold If;simp only[ho];kernel_rfl):p:=h
theorem ElS(h:p:=by obtain rfl:p=0:=U;have d4:xv 4=M (Z ⟨gc,0,X⟩):=hd.at 4 rfl;exact Es XN O):p:=h
theorem ElT(h:p:=by have g2:v 2=EU B:=hd.at 2 rfl;have d3:v 3=G A (m+8) c:=hd.at 3 rfl;obtain⟨A',d',d9,r9⟩: ∃A' d',v 9=G A' (m+8) d'/\Row w' A' (bd++tg):=hd.at 9 rfl;refine JL (f:=168) (args:= #[v 3,v 9]) (XG O O (congrArg Z g2)) Ex ?_;rw[d3,d9];refine(zN A A' xs (bd++tg) (m+8) (m+8) c d' w' HM.out pI.out (HR.out.V (bt u.out hb)) r9 U U).mono fun e w'' ⟨he,hw⟩=>⟨_,he,by subst hw;exact E9 _ _,?_⟩;rw[SM.out];rfl):p:=h
theorem ElV(h:p:=by obtain rfl:p=0:=U;have d9:xv 9=M (Z ⟨gs,0,X⟩):=hd.at 9 rfl;have cc:wq.cell? ⟨gs,0,X⟩=Z (M (Z ⟨gc,0,X⟩)):=hp.2.1.IB;exact Es vR O):p:=h
theorem ElW(h:p:=by have K:=J K;have HC:=J HC;have Jb:=J hne;clear hne;go_enter Tryz.func188,Tryz.ntmps188;go_wp2_with fail;refine Ud 1 ?_;rw[Ij];go_wp2_with fail;go_end0;exact⟨O,⟨_,aT _,K.out⟩,E3.refl _ _⟩):p:=h
theorem ElY(h:p:=by obtain⟨g,A,d3,k3,r3⟩: ∃g A,v 3=G (Z ⟨g,0,X⟩) 2 2/\D w' g #[G A 64 64,G (Z ⟨g7,0,X⟩) 32 32] 23/\Row w' A x2:=hd ⟨3,.data⟩ Eh O;refine JL (f:=243) (args:= #[v 3]) (Ei O) Ex ?_;rw[d3];exact(zM g 2 A (Z ⟨g7,0,X⟩) 64 32 64 32 x2 s1 w' mQ.out kB.out k3 r3 (aK (K7.out.V hb) o_.out) U).mono fun e w'' ⟨⟨A1,d1,he,o1⟩,hb'⟩=>⟨_,he,hb',_,_,O,o1.row⟩):p:=h
theorem El0(h:p:=by rintro e7 w7 ⟨rfl,s7,m7⟩;have S8:=J s7;replace MM:=J<|MM.out.trans m7;clear s7 m7;go_wp2_with fail;refine EV (UQ O _ _ _) O ?_;exact⟨O,⟨c,0,1,_,U,S8.out,.inl O⟩,MM.out⟩):p:=h
theorem El1(h:p:=by obtain⟨g,d1,r1⟩: ∃g,v 1=G (Z ⟨g,0,X⟩) 64 64/\Row w' (Z ⟨g,0,X⟩) x2:=hd ⟨1,.data⟩ Eh O;have d2:v 2=_:=hd ⟨2,.data⟩ Eh O;refine aU (v:=G (Z ⟨w'.heap.size,0,X⟩) 2 2) (w':=w'.alloc (EJ #[G (Z ⟨g,0,X⟩) 64 64,G (Z ⟨g7,0,X⟩) 32 32] 23)) (Ei O) (by simp[go_sem,d1,d2]) (Er _ _) ⟨_,_,O,D.new _ _ _,Ix r1 (Er _ _)⟩):p:=h
theorem El2(h:p:=by exact E_ EF (Ei O) jg ⟨gl,fs,O,m,lg,bx,kk⟩):p:=h
theorem El3(h:p:=by have g2:v 2=EU B:=hd.at 2 rfl;have d4:v 4=EZ (Ej key):=hd.at 4 rfl;have d5:v 5=E I s:=hd.at 5 rfl;have d8:v 8=G A m c:=hd.at 8 rfl;refine JL (f:=171) (args:= #[v 4,v 5,v 8]) (XG O O (congrArg Z g2)) Ex ?_;rw[d4,d5,d8];exact(CC.out w' (bt u.out hb)).mono fun e w'' ⟨⟨A',d',he,o⟩,hb'⟩=>⟨_,he,hb',A',d',O,o.row⟩):p:=h
theorem El4(h:p:=by obtain⟨rv,hw,cd,hpq,e25⟩: ∃(rv:Array Y) (hw:Int) (cd:Int),PQ rv hw cd/\xv 25=Et #[EZ rv,E I hw,E I cd]:=hd.at 25 rfl;exact Es CU ⟨rv,hw,cd,hpq,e25,O⟩):p:=h
theorem El5(h:p:=by obtain rfl:k=n:=U;have t1:decide ((k:Int)<(k:Int))=B:=IJ U;go_wp2_with fail;go_ret;refine⟨?_,u.out⟩;rw[hr.out];have:=HT.out;rw[OY BJ] at this;rw[this];rfl):p:=h
theorem El6(h:p:=by refine(CP.out _).mono ?_;rintro x w2 ⟨rfl,b2⟩;replace K4:=J<|K4.out.V b2;replace u:=ET u b2;clear b2;go_wp2_with (with_reducible refine wS (cs:=r) ER K4 ?_ (hn:=SR.out) (h1:=OR.out));refine EV (Jj ER O _ _ (w.heap.size+1) r O (K4.out.setRow r) SR.out) O ⟨O,?_⟩;exact E2 (g:=w.heap.size+1) u.out U r):p:=h
theorem El7(h:p:=by have t9:(cd !=0)=EI:=dA;go_wp2_with fail;refine(ij lo hi g gc gq gt gs _ ns rs k v1 cd _ S1.out J9 JN).mono ?_;rintro e7 w7 ⟨rfl,s7,m7⟩;have S8:=J s7;replace MM:=J<|MM.out.trans m7;clear s7 m7;go_wp2_with fail;refine EV (UQ O _ _ _) O ?_;exact⟨O,⟨_,1,_,U,S8.out,L',.inl ⟨cd,O,O⟩⟩,MM.out⟩):p:=h
theorem El8(h:p:=by generalize Ej key=kv at*;go_enter Tryz.func124,Tryz.ntmps124;go_wp2_with fail;go_ret;exact⟨O,Er w _⟩):p:=h
theorem El9(h:p:=by unfold UU;go_enter Tryz.func140,Tryz.ntmps140;go_wp2_with fail;refine EV yS O ⟨O,?_⟩;exact JV _ _ _):p:=h
theorem El_(h:p:=by obtain rfl:p=0:=U;have d11:xv 11=M (Z ⟨gc,0,X⟩):=hd.at 11 rfl;exact Es dD O):p:=h
theorem EmE(h:p:=by obtain rfl:p=0:=U;have d10:xv 10=M (Z ⟨gc,0,X⟩):=hd.at 10 rfl;exact Es dh O):p:=h
theorem EmI(h:p:=by exact⟨⟨_,O,_,_,O,ay OW.out K2.out _⟩,E2 JJ.out (E7 _) _⟩):p:=h
theorem EmJ(h:p:=by refine EV (Ux ER O _ _ (gk+1) rv (E I 5) O O (KR.out.setRow _) RS.out) O ?_;refine⟨⟨t3,5,L',congrArg (fun v=>Eg (Et #[v,E I 5])) Uk.out.symm,(by rw[cB.out];exact .inr (.inr ⟨O,h4,Bn,jf.out⟩)),SQ.out,?_⟩,MM.out.Xa _ a_ lw.out KR.out Ea Ea⟩;exact Q1.out.XZ _ KR.out Ea Ea):p:=h
theorem EmO(h:p:=by obtain rfl:p=0:=U;have d8:xv 8=M (Z ⟨gs,0,X⟩):=hd.at 8 rfl;exact Es fV O):p:=h
theorem EmU(h:p:=by obtain rfl:p=0:=U;have d7:xv 7=M (Z ⟨gs,0,X⟩):=hd.at 7 rfl;exact Es fW O):p:=h
theorem EmX(h:p:=by go_wp2_with fail;refine(ij lo hi g gc gq gt gs c ns rs k v1 cd _ S1.out J9 JN).mono ?_;rintro e7 w7 ⟨rfl,s7,m7⟩;have S8:=J s7;replace MM:=J<|MM.out.trans m7;clear s7 m7;go_wp2_with fail;refine EV (UQ O _ _ _) O ?_;exact⟨O,⟨_,1,_,U,S8.out,.inl ⟨cd,O,O⟩⟩,MM.out⟩):p:=h
theorem EmZ(h:p:=by exact Es Ex O):p:=h
theorem Ema(h:p:=by replace K4:=J<|K4.out.V hb;replace u:=ET u hb;replace AL:=J AL;clear hr hb d5 ea;go_wp2_with (with_reducible refine wS (cs:=Ej ans) OZ K4 ?_ (ho:=XO) (hn:=Gj) (h1:=Xm _));refine EV (v:=EZ (Ej ans)) (Jj OZ O _ _ (w.heap.size) _ O (K4.out.setRow _) Gk) O ⟨O,E2 u.out U _⟩):p:=h
theorem Emb(h:p:=by rintro e w' ⟨rfl,rfl⟩;go_wp2_with fail;refine(HH.out _ m1 m2).mono ?_;rintro e w' ⟨rfl,rfl⟩;go_wp2;go_ret;exact⟨O,Er _ _⟩):p:=h
theorem Emc(h:p:=by refine EV (Ux ER O _ _ (w.heap.size+1+1+1) _ _ O O (K6.out.setRow _) O) O ⟨?_,E2 (g:=w.heap.size+1+1+1) u.out U _⟩;rw[HE.out];rfl):p:=h
theorem Emd(h:p:=by have QM:=MM.out.trans (JZ.pK (JZ.Z1 o4) K.out KQ.out k4 nm lg LQ.out);go_wp2_with fail;go_end0;exact⟨O,⟨L4,_,cp,Zs,nm,OW⟩,QM⟩):p:=h
theorem Emf(h:p:=by obtain⟨A,d,d4,r4⟩: ∃A d,v 4=G A 96 d/\Row w' A (x2++s1):=hd ⟨4,.data⟩ Eh O;refine JL (f:=82) (args:= #[v 4]) (Ei O) Ex ?_;rw[d4];exact(rL A (x2++s1) 96 d w' QS r4 U (RT.out.V (bt u.out hb))).mono fun e w'' ⟨he,hb'⟩=>⟨_,he,hb',O⟩):p:=h
theorem Emg(h:p:=by exact Q1.out.XZ _ KR.out Ea Ea):p:=h
theorem Emh(h:p:=by go_wp2_with fail;refine EV (v:=EZ #[E I 0,E I 0,E I 0,G X 0 0]) Mf O ?_;rw[HF.out];exact⟨⟨_,O,tc _ _ cL O⟩,JV _ _ _⟩):p:=h
theorem Emi(h:p:=by exact SS.out.via (fun k cs S hS hk=>ho.Ek hk (EW hk Ox.out X3)) hb):p:=h
theorem Emj(h:p:=by replace hp:=J hp;go_enter Tryz.func211,Tryz.ntmps211;go_wp2_with fail;refine hp.out.mono ?_;rintro e w1 ⟨rfl,r1,b1⟩;replace r1:=J r1;replace b1:=J b1;clear hp h1;go_wp2_with fail;go_ret;exact⟨⟨_,O,r1.out⟩,b1.out⟩):p:=h
theorem Emk(h:p:=by exact Zg (Ei O) (lZ _ _ _ O) (Er wq _) ⟨wq.heap.size,_,O,hp.1,O,D.new _ _ _⟩):p:=h
theorem Eml(h:p:=by rw[Array.toArray_toList] at hrun;unfold If;simp only[ho,hx,fB,dJ,Oz,Og,OC,hrun]):p:=h
theorem Emm(h:p:=by have d6:v 6=M (Z ⟨gm,5,X⟩):=hd.at 6 rfl;refine JL (f:=241) (args:= #[v 6]) (Ei O) Ex ?_;rw[d6];exact(Sk gm 5 w').mono fun e w'' ⟨v,he,⟨gb,e2,lb,kb⟩,hb'⟩=>⟨v,he,hb',gb,e2,Ez (Ez u.out.size hb.size) lb,kb⟩):p:=h
theorem Emn(h:p:=by go_wp2_with (go_at_call 162;refine(pq _ _ _ N1.out).mono ?_;rintro e w' ⟨rfl,rfl⟩);go_ret;exact⟨O,Er _ _⟩):p:=h
theorem Emo(h:p:=by obtain rfl:p=0:=U;have d12:xv 12=M (Z ⟨gc,56,X⟩):=hd.at 12 rfl;obtain⟨big,KB,OV⟩:=bI hp.2.1.core;have EX:big.extract 56 (56+8)=Ip:=(OV 1 c.tok.v O).trans X7.out;exact aN EF ER (Ei O) ⟨O,d12⟩ KB Xb.out EX O):p:=h
theorem Emp(h:p:=by have EX:big.extract 56 (56+8)=Ip:=(OV 1 c.tok.v O).trans X7.out;exact aN EF ER (Ei O) ⟨O,d12⟩ KB Xb.out EX O):p:=h
theorem Emq(h:p:=by have EX:big.extract 56 (56+8)=Ip:=(OV 1 c.tok.v O).trans X7.out;exact aN EF ER (Ei O) ⟨O,d5⟩ KB Xb.out EX O):p:=h
theorem Emr(h:p:=by have:j∈XF ops listed:=mZ.2 ⟨hj,hc⟩;rw[List.length_eq_zero_iff.1 (Nat.le_zero.1 hf)] at this;cases this):p:=h
theorem Ems(h:p:=by have K:=J K;have HC:=J HC;have Jb:=J hne;clear hne;go_enter Tryz.func187,Tryz.ntmps187;go_wp2_with fail;refine Ud 1 ?_;rw[Ij];go_wp2_with fail;go_ret;exact⟨⟨_,O⟩,⟨_,aT _,K.out⟩,E3.refl _ _⟩):p:=h
theorem Emt(h:p:=by obtain⟨i,h1,h2,h3,h4⟩:=bz h;exact⟨i,h1,h2,h3,h4⟩):p:=h
theorem Emu(h:p:=by intro j hj;simp only[List.mem_range'_1] at hj;have hjn:j<ops.size:=U;exact mZ.2 ⟨hjn,ht j hj.1 hjn⟩):p:=h
theorem Emv(h:p:=by obtain rfl:p=0:=U;exact IM JP.kept (Ei O) Ex O):p:=h
theorem Emw(h:p:=by refine⟨O,fun i h6 kF=> ?_⟩;have h:i=6\/i=7\/i=8\/i=9\/i=10\/i=11\/i=12\/i=13:=U;rcases h with rfl|rfl|rfl|rfl|rfl|rfl|rfl|rfl<;>exact(show(0:Int)<=0/\(0:Int)<=255 from⟨Ea,Ea⟩)):p:=h
theorem Emx(h:p:=by have g2:v 2=EU B:=hd.at 2 rfl;have d6:v 6=G A (m+8) c:=hd.at 6 rfl;have d7:v 7=E I (m:Int):=hd.at 7 rfl;exact E_ EF (XG O O (congrArg Z g2)) (Gw _ (.tmp 18) (.tmp 19) O A (m+8) c m mW fW U) O):p:=h
theorem Emy(h:p:=by obtain rfl:p=0:=U;have d5:xv 5=M (Z ⟨gc,0,X⟩):=hd.at 5 rfl;obtain⟨big,KB,OV⟩:=bI hp.2.1.core;have EX:big.extract 0 (0+56)=pv:=Lh;exact aN EF U1 (Ei O) ⟨O,d5⟩ KB vS.out EX O):p:=h
theorem Emz(h:p:=by rintro e7 w7 ⟨rfl,s7,m7⟩;have S8:=J s7;replace MM:=J<|MM.out.trans m7;clear s7 m7;go_wp2_with fail;refine EV (UQ O _ _ _) O ?_;exact⟨O,⟨c,1,7,_,U,S8.out,.inl O⟩,MM.out⟩):p:=h
theorem EmA(h:p:=by have d0:v 0=_:=hd ⟨0,.data⟩ Eh O;refine JL (f:=244) (args:= #[v 0,E IL 92]) (Ei O) Ex ?_;rw[d0];exact(C2.out w').mono fun e w'' ⟨he,hk,hb'⟩=>⟨_,he,hb',_,O,aK hk oY.out⟩):p:=h
theorem EmB(h:p:=by simp only[ho,hx,fB,dJ,Oz,Og,OC,hrun]):p:=h
theorem EmC(h:p:=by show(wr.setCell _ _).heap[_]?=_;rw[XK _ _ _ _ UT];exact HZ.out):p:=h
theorem EmD(h:p:=by show(wr.setCell _ _).heap[_]?=_;rw[XK _ _ _ _ UT];exact HP.out):p:=h
theorem EmF(h:p:=by show(wr.setCell _ _).heap[_]?=_;rw[XK _ _ _ _ UT];exact HN.out):p:=h
theorem EmG(h:p:=by have d2:v 2=E I s:=hd.at 2 rfl;refine JL (f:=211) (args:= #[v 2,E I 1]) (Ei O) Ex ?_;rw[d2];exact(zY s w').mono fun e w'' ⟨⟨g,he,r⟩,hb'⟩=>⟨_,he,hb',g,O,r⟩):p:=h
theorem EmH(h:p:=by obtain rfl:p=0:=U;have d19:xv 19=M (Z ⟨gc,64,X⟩):=hd.at 19 rfl;have cc:wq.cell? ⟨gc,64,X⟩=Z (M (Z ⟨gq,0,X⟩)):=hp.2.1.core.cell 2 rfl 0 Eh;exact Es B_ O):p:=h
theorem EmK(h:p:=by obtain rfl:p=0:=U;have d12:xv 12=M (Z ⟨gc,64,X⟩):=hd.at 12 rfl;have cc:wq.cell? ⟨gc,64,X⟩=Z (M (Z ⟨gq,0,X⟩)):=hp.2.1.core.cell 2 rfl 0 Eh;exact Es BK O):p:=h
theorem EmL(h:p:=by exact fun ev h=>Z9):p:=h
theorem EmM(h:p:=by rw[e] at hp;rw[e];clear e;go_enter Tryz.func252,Tryz.ntmps252;go_wp2_with (go_at_call 111;refine(hp.out).mono ?_;rintro e w' ⟨rfl,rfl⟩);go_ret2;exact⟨O,O⟩):p:=h
theorem EmN(h:p:=by exact IM JP.kept (Ei O) Ex O):p:=h
theorem EmP(h:p:=by intro _ hw';obtain⟨y9,rfl⟩:=hw';have Em:=EN y9;replace u:=ET u Em;clear Em ci cj;generalize EC w1 y9=w2 at*;go_wp2_with fail;go_ret;refine⟨?_,u.out⟩;simp):p:=h
theorem EmQ(h:p:=by obtain⟨rv,how,hpq,e23⟩: ∃(rv:Array Y) (how:Int),PQ rv how/\xv 23=Et #[EZ rv,E I how]:=hd.at 23 rfl;exact Es (by simp[go_sem,e23]) ⟨rv,how,hpq,e23,O⟩):p:=h
theorem EmR(h:p:=by have EX:big.extract 0 (0+56)=pv:=Lh;exact aN EF U1 (Ei O) ⟨O,d5⟩ KB vS.out EX O):p:=h
theorem EmS(h:p:=by obtain⟨rv,cd,hpq,e16⟩: ∃(rv:Array Y) (cd:Int),PQ rv cd/\xv 16=Et #[EZ rv,E I cd]:=hd.at 16 rfl;exact Es (by simp[go_sem,e16]) ⟨rv,cd,hpq,e16,O⟩):p:=h
theorem EmT(h:p:=by obtain rfl:p=1:=U;obtain⟨cd,e11,hpk⟩: ∃cd,xv 11=Et #[EZ tv,E I 0,E I cd]/\fb lo gq gr L most s rk 0 mp cd wq:=hd.at 11 rfl;exact IM fa (Ei O) KV O):p:=h
theorem EmV(h:p:=by obtain rfl:p=0:=U;have d17:xv 17=M (Z ⟨gc,0,X⟩):=hd.at 17 rfl;exact Es vV O):p:=h
theorem EmW(h:p:=by refine wpList_step fun K hK=> ?_;rw[if_pos hw];unfold dI;rw[hr];exact hK _ _ h):p:=h
theorem EmY(h:p:=by have:=rX (l.take m) 0 i x a0 o v hnd (htk i o hi ho);rw[OD] at this;exact this):p:=h
theorem Em0(h:p:=by have:i=fs.length:=rJ;subst this;rw[List.getElem_append_right (E7 _)];simp only[Nat.sub_self,List.getElem_cons_zero];exact⟨hgb,X1 h3 hbx (AU d)⟩):p:=h
theorem Em1(h:p:=by obtain rfl:i=m:=U;rw[OY Gh] at ho hn;subst hn;have dZ:=J ho;have Jf:=J u;clear ho u;go_wp2_with fail;go_ret;exact⟨⟨_,_,O,dZ.out⟩,Jf.out⟩):p:=h
theorem Em2(h:p:=by unfold EQ.of;rw[if_pos U];rw[show((i:Int)+1-1).toNat=i from U,hon,<-ho];rfl):p:=h
theorem Em3(h:p:=by obtain rfl:p=0:=U;have d16:xv 16=M (Z ⟨gs,0,X⟩):=hd.at 16 rfl;have cc:wq.cell? ⟨gs,0,X⟩=Z (M (Z ⟨gc,0,X⟩)):=hp.2.1.IB;exact Es Lj O):p:=h
theorem Em4(h:p:=by obtain rfl:p=0:=U;have d12:xv 12=M (Z ⟨gs,0,X⟩):=hd.at 12 rfl;have cc:wq.cell? ⟨gs,0,X⟩=Z (M (Z ⟨gc,0,X⟩)):=hp.2.1.IB;exact Es BK O):p:=h
theorem Em5(h:p:=by rw[eM] at f1;simp at f1;rw[h1,f2];simp[f1]):p:=h
theorem Em6(h:p:=by intro x w hw hx;have e:EH (l.take m) 0 x a0=EH (l.take m) 0 y a0:=rf _ 0 _ _ _ fun j _ hj=>hx j U;simp only[e];have:=hK w hw;simpa using this):p:=h
theorem Em7(h:p:=by obtain rfl:p=0:=U;have d7:xv 7=M (Z ⟨gc,65,X⟩):=hd.at 7 rfl;have d5:xv 5=E I (k-1):=hd.at 5 rfl;exact IM EF (Ei O) (qZ O d7 d5 IX.out) O):p:=h
theorem Em8(h:p:=by obtain rfl:p=0:=U;have d2:xv 2=M (Z ⟨gs,0,X⟩):=hd.at 2 rfl;have cc:wq.cell? ⟨gs,0,X⟩=Z (M (Z ⟨gc,0,X⟩)):=hp.1.IB;exact Es bL O):p:=h
theorem Em9(h:p:=by exact⟨hp.1.only (J8 rv) kb U,hp.2.1.only (J8 rv) U U kb.lt,D.setRow_other hp.2.2.1 b rv (EW hp.2.2.1 kb Ea),by simpa using hp.2.2.2⟩):p:=h
theorem Em_(h:p:=by have d26:xv 26=Et #[EZ Um,EZ (Ej kv),E I cd]:=hd.at 26 rfl;exact Es Lz O):p:=h
theorem EnE(h:p:=by obtain⟨rv,cd,hpq,e15⟩: ∃(rv:Array Y) (cd:Int),PQ rv cd/\xv 15=Et #[EZ rv,E I cd]:=hd.at 15 rfl;exact Es Lc ⟨rv,cd,hpq,e15,O⟩):p:=h
theorem EnI(h:p:=by obtain⟨e,he,hb⟩:=List.any_eq_true.1 h;simp only[Oc,beq_iff_eq] at hb;have:=hd e (Array.mem_toList_iff.1 he) hb.1;rwa [hb.2] at this):p:=h
theorem EnJ(h:p:=by rw[List.eq_nil_iff_forall_not_mem];intro j hj;obtain⟨h1,o,ho,-⟩:=Zz.1 hj;have hjn:=(J6.1 ho).1;rw[hl j hjn] at h1;simp at h1;omega):p:=h
theorem EnO(h:p:=by rintro e w2 ⟨rfl,S2,M2⟩;go_wp2_with fail;go_end0;exact⟨O,S2,M2⟩):p:=h
theorem EnU(h:p:=by rw[hv];simp[bv,run_underlying bA,sizeOf,typeInfo,hi,Builtin.lenOf,Builtin.firstCells,hn];simp at hv;exact⟨hv.1.symm,hv.2.2.symm⟩):p:=h
theorem EnX(h:p:=by injection hv with h1 h2 h3;subst h1 h3;simp[bv,run_underlying bA,sizeOf,typeInfo,hi,Builtin.lenOf,Builtin.firstCells,hnc,storeCells]):p:=h
theorem EnZ(h:p:=by have g2:v 2=EU B:=hd.at 2 rfl;exact rh EF (g:=w.heap.size) OZ (XG O O (congrArg Z g2)) ⟨O,Ex⟩ (K3.out.V hb) (by rw[Od,HL.out]) O):p:=h
theorem Ena(h:p:=by exact UH.keep HI.out fun _ _ h=>(J1 (g:=gs) 0 _).Ek h (EW h az.out Ea)):p:=h
theorem Enb(h:p:=by have:=Fg ((l.take m).take i) ((l.take m).drop i) 0 (mix (held (l.take m) a0) y i) a0;rw[gT] at this;rw[this];congr 1;rw[aO];omega):p:=h
theorem Enc(h:p:=by go_ret;exact⟨O,Er _ _⟩):p:=h
theorem Enf(h:p:=by exact(gD 1 1000 wq).mono fun e w2 ⟨v,he,hv,hb⟩=>⟨v,he,hb,hv⟩):p:=h
theorem Eng(h:p:=by subst ho;have:i=0\/i=1\/i=2:=U;rcases this with rfl|rfl|rfl<;>rfl):p:=h
theorem Enh(h:p:=by have d9:v 9=M (Z ⟨gm,0,X⟩):=hd.at 9 rfl;exact E_ EF (Ei O) rP O):p:=h
theorem Eni(h:p:=by have d8:v 8=M (Z ⟨gm,0,X⟩):=hd.at 8 rfl;exact E_ EF (Ei O) fV O):p:=h
theorem Enj(h:p:=by unfold EK.Uc at hg;simp only at hg;rw[if_neg U,if_neg U,if_neg U] at hg;injection hg with a1 a2;exact⟨a2.symm,a1.symm⟩):p:=h
theorem Enk(h:p:=by exact MM.out.only ho gI hz3 Ox.out.lt):p:=h
theorem Enl(h:p:=by intro xv wq p hlo hhi hp hd;obtain rfl:p=0:=U;simp only[EH,Ig,Ii,Ia,Ib];exact jI EF U1 (Ei O) ⟨O,O⟩ (hp.2.1) GS.out O):p:=h
theorem Enm(h:p:=by exact⟨j,hj,fun k hk hk2=>h ⟨k,hk,hk2⟩⟩):p:=h
theorem Enn(h:p:=by have hp':tmps[p]?.getD I2=M (Z ⟨g,0,X⟩):=j4;have hq':tmps[q]?.getD I2=v:=oz;simp[UL,h,hp',hq',asAddr,uH hT hg hn]):p:=h
theorem Eno(h:p:=by rintro e w3 ⟨rfl,k3,o3⟩;go_wp2_with fail;refine EV (UQ O _ _ _) O ?_;go_wp2_with fail;go_end0;exact⟨O,k3,o3⟩):p:=h
theorem Enp(h:p:=by go_wp2_with fail;go_end0;refine⟨O,?_,ON.out⟩;simp only[Js,h1.out,h7.out,h9.out,if_true,kO,if_false];exact K.out):p:=h
theorem Enq(h:p:=by go_wp2_with fail;go_end0;refine⟨O,?_,ON.out⟩;simp only[Js,h1.out,h2.out,h4.out,if_true,kO,if_false];exact K.out):p:=h
theorem Enr(h:p:=by exact⟨O,_,_,O,O,O⟩):p:=h
theorem Ens(h:p:=by have h6:k=0\/k=1\/k=2\/k=3\/k=4\/k=5\/k=6\/k=7:=U;rcases h6 with rfl|rfl|rfl|rfl|rfl|rfl|rfl|rfl<;>decide):p:=h
theorem Ent(h:p:=by injection h with h;subst h;have e:(⟨b,off,X⟩:Eu).add j=⟨b,off+j,X⟩:=Xw;rw[e,hc j hj];simpa[hj] using hu):p:=h
theorem Enu(h:p:=by have:=List.length_filter_le (fun i=> !(bh l.toArray.size B).getD i EI) (U4 l.toArray.size);simpa[XF] using this):p:=h
theorem Env(h:p:=by rcases hd with rfl|rfl<;>exact⟨⟨Ea,Ea,Ea⟩,Ea,Ea,Ea⟩):p:=h
theorem Enw(h:p:=by intro e he hb';have h3:=oo e he hb';have h4:=(oc hB ho).1 e he;have h5:e.on<listed.size:=U;exact hr e.on U yu):p:=h
theorem Enx(h:p:=by have d6:xv 6=M (Z ⟨gc,0,X⟩):=hd.at 6 rfl;exact Es mW O):p:=h
theorem Eny(h:p:=by simp only[oI,jV,jW];have:=Int.emod_nonneg x (b:=65536) U;have:=Int.emod_lt_of_pos x (b:=65536) U;simp;omega):p:=h
theorem Enz(h:p:=by have h5:i<listed.size:=U;simp[h5]):p:=h
theorem EnA(h:p:=by obtain⟨k,hk,hk2⟩:=h;exact ol k hk hk2):p:=h
theorem EnB(h:p:=by obtain rfl:p=0:=U;exact IM fa (Ei O) Ex O):p:=h
theorem EnC(h:p:=by rw[hrun] at hr;injection hr with hq hr;injection hq with hq;rw[hr];exact⟨.inr ⟨_,hq,E7 _⟩,bel _⟩):p:=h
theorem EnD(h:p:=by clear hk hs h1;go_enter Tryz.func47,Tryz.ntmps47;go_wp2_with fail;refine EV (UQ O _ _ _) O ?_;exact fin):p:=h
theorem EnF(h:p:=by obtain rfl:p=0:=U;exact Zg (Ei O) (lZ _ _ _ O) (Er wq _) ⟨wq.heap.size,_,O,hp.2.2.2,O,D.new _ _ _⟩):p:=h
theorem EnG(h:p:=by exact absurd (h _ (cF.2 rfl)) Eh):p:=h
theorem EnH(h:p:=by go_wp2_with fail;go_end0;refine⟨O,?_,ON.out⟩;simp only[Js,h1.out,if_true,kO,if_false];exact K.out):p:=h
theorem EnK(h:p:=by go_wp2_with fail;go_ret;exact⟨Dq,O⟩):p:=h
theorem EnL(h:p:=by go_wp2_with fail;go_end0;exact⟨O,O⟩):p:=h
theorem EnM(h:p:=by refine JH (f:=44) (args:= #[]) (Ei O) Ex ?_;exact(wj wq).mono fun e w2 ⟨he,hb⟩=>⟨_,he,hb,O⟩):p:=h
theorem EnN(h:p:=by obtain rfl:p=0:=U;exact Zg (Ei O) (lv _ _ _ O) (Er wq _) ⟨wq.heap.size,_,O,hp.1,O,D.new _ _ _⟩):p:=h
theorem EnP(h:p:=by exact⟨BW,L',s.only (J8 rv) kb U,m.only (J8 rv) U U kb.lt,D.setRow_other km b rv (EW km kb Ea)⟩):p:=h
theorem EnQ(h:p:=by exact⟨S1.out.V (Jg _),MM.out.trans (Ew.EA (Jg _)),D.V KM.out (Jg _),Ez (Om hn0) (U8 (Jg _))⟩):p:=h
theorem EnR(h:p:=by exact⟨Ez (Om hn0) (U8 (Jg _)),S1.out.V (Jg _),MM.out.trans (Ew.EA (Jg _)),D.V KM.out (Jg _)⟩):p:=h
theorem EnS(h:p:=by exact⟨Ez n1 ho.size,s1.Ci ho kb Ea U,m1.only ho U U kb.lt,ho.Ek km (EW km kb Ea),fun h=>XE⟩):p:=h
theorem EnT(h:p:=by rintro e w2 ⟨rfl,r2,b2⟩;go_wp2_with fail;go_ret2;exact⟨_,O,by simpa using r2,bt B1 b2⟩):p:=h
theorem EnV(h:p:=by simpa using this):p:=h
theorem EnW(h:p:=by simp only[ho,hx,fB,dJ,Oz,Og,OC,hrun];exact⟨O,O⟩):p:=h
theorem EnY(h:p:=by have:=ht m (E7 _) h;rw[hall m h] at this;cases this):p:=h
theorem En0(h:p:=by exact jI EF U1 (Ei O) ⟨O,O⟩ (EM K3 hp) xS.out O):p:=h
theorem En1(h:p:=by refine⟨U5,?_⟩;simp only[Uq,List.getElem?_map,J5 hi,jY,Option.getD_some] at hl⊢;exact hl):p:=h
theorem En2(h:p:=by have d5:xv 5=Et #[.func (.func f) #[M (Z ⟨gs,0,X⟩)] #[],EU EI]:=hd.at 5 rfl;exact Es dk O):p:=h
theorem En3(h:p:=by rintro e w1 ⟨rfl,b1⟩;rw[HM.out];clear Q0;go_wp2;go_ret;exact⟨O,bt (Y4.out _ _ _) b1⟩):p:=h
theorem En4(h:p:=by rw[hl.cell (p:=⟨0,i,X⟩) sX];exact h.roots i hi):p:=h
theorem En5(h:p:=by go_wp2_with fail;refine EV (v:=EZ #[E I 1,E I z,E I 0,G X 0 0]) Yw O ?_;exact⟨O,Er _ _⟩):p:=h
theorem En6(h:p:=by rw[hl.cell (p:=⟨1,i,X⟩) sX];exact h.cmds i hi):p:=h
theorem En7(h:p:=by unfold If;simp only[ho,resolve,invoke,builtin,Oz,Og,OC,List.map_toArray,Uv,Xn,hs,hx,hrun]):p:=h
theorem En8(h:p:=by obtain rfl:p=0:=U;have d4:xv 4=E I k:=hd.at 4 rfl;exact IM EF (Ei O) (sP O d4 O SB.out) O):p:=h
theorem En9(h:p:=by exact rh EF (g:=g5) (cs:=Ej full) oQ (Ei O) ⟨O,O⟩ (K5.out.V hb) (by rw[Od,aQ.out]) O):p:=h
theorem En_(h:p:=by rw[List.getElem?_take,if_pos hi];simpa using ho):p:=h
theorem EoE(h:p:=by have h5:e.on<listed.size:=U;exact hr e.on U yu):p:=h
theorem EoI(h:p:=by rw[c6];refine h _ ⟨by simp only[size_put,hs],by simp only[Nm,A.df],Nn,Np,lT rE⟩):p:=h
theorem EoJ(h:p:=by exact⟨O,u.out⟩):p:=h
theorem EoO(h:p:=by have h2:=hl e.on U;rw[IU h1] at h2;have h3:e.on<listed.size:=U;simpa[h3] using h2):p:=h
theorem EoU(h:p:=by have d0:v 0=E I (m:Int):=hd.at 0 rfl;exact E_ EF (Ei O) (by simp[go_sem,d0,t0]) O):p:=h
theorem EoX(h:p:=by have d16:xv 16=M (Z ⟨gc,0,X⟩):=hd.at 16 rfl;exact Es (by simp[go_sem,d16]) O):p:=h
theorem EoZ(h:p:=by obtain rfl:p=0:=U;have d18:xv 18=M (Z ⟨gc,0,X⟩):=hd.at 18 rfl;exact Es Lk O):p:=h
theorem Eoa(h:p:=by obtain rfl:p=0:=U;have d15:xv 15=M (Z ⟨gs,0,X⟩):=hd.at 15 rfl;exact Es vT O):p:=h
theorem Eob(h:p:=by obtain rfl:p=0:=U;have d14:xv 14=M (Z ⟨gs,0,X⟩):=hd.at 14 rfl;exact Es Li O):p:=h
theorem Eoc(h:p:=by obtain rfl:p=0:=U;have d13:xv 13=M (Z ⟨gc,0,X⟩):=hd.at 13 rfl;exact Es vG O):p:=h
theorem Eod(h:p:=by obtain rfl:p=0:=U;have d11:xv 11=M (Z ⟨gs,0,X⟩):=hd.at 11 rfl;exact Es dD O):p:=h
theorem Eof(h:p:=by obtain rfl:p=0:=U;have d10:xv 10=M (Z ⟨gs,0,X⟩):=hd.at 10 rfl;exact Es dh O):p:=h
theorem Eog(h:p:=by exact⟨Ez (Om hn0) (U8 (Jg _)),S1.out.V (Jg _),MM.out.trans (Ew.EA (Jg _))⟩):p:=h
theorem Eoh(h:p:=by refine⟨fun h=> ?_,by show c.tok.e<=t2.e;omega⟩;have h2:0<=t2.o:=h;omega):p:=h
theorem Eoi(h:p:=by rw[<-Z3.out,IY,IY,bD,bD,Zs.length_eq];rfl):p:=h
theorem Eoj(h:p:=by exact(P4 gb gm d.off n _ w hb hc hf).mono fun e w' ⟨he,hw⟩=>⟨he,zU⟩):p:=h
theorem Eok(h:p:=by unfold If;simp only[ho,h1,h2,Oz,run_eqGuard_agg _ _ _ _ _ _ _ hm,OC,hq,Og]):p:=h
theorem Eol(h:p:=by exact⟨h,Zo _⟩):p:=h
theorem Eom(h:p:=by rw[OD] at this;exact this):p:=h
theorem Eon(h:p:=by rw[if_pos hw];unfold dI;rw[hr];exact hc.mono fun e w' ⟨v,he,hb,h⟩=>N0):p:=h
theorem Eoo(h:p:=by exact(Fh ((l.take m).take i) 0 y a0 d (fun hmem=>NT hnd hk hd hmem)).symm):p:=h
theorem Eop(h:p:=by rw[this];simp[List.getElem_take,List.getD,J5 (show i<zs.length from U)]):p:=h
theorem Eoq(h:p:=by rw[oX _ _ _ _ hji];rw[aI EI (fun e=>hji e.symm)] at hl;exact hr j hj hl):p:=h
theorem Eor(h:p:=by rcases hv with rfl|rfl|rfl|rfl|rfl|rfl|rfl|rfl|rfl|rfl|rfl|rfl<;>rfl):p:=h
theorem Eos(h:p:=by have Xy:j=0\/j=1\/j=2:=U;subst hk;rcases Xy with rfl|rfl|rfl<;>rfl):p:=h
theorem Eot(h:p:=by exact(gD 0 1000 wq).mono fun e w2 ⟨v,he,hv,hb⟩=>⟨v,he,hb,hv⟩):p:=h
theorem Eou(h:p:=by rw[if_neg U,if_neg U,if_neg U,if_neg U,if_neg U,if_neg U,if_neg U]):p:=h
theorem Eov(h:p:=by have d7:v 7=Et #[EZ Ut,EU fr]:=hd.at 7 rfl;exact IM gV (Ei O) fW O):p:=h
theorem Eow(h:p:=by go_wp2_with fail;go_ret;exact⟨⟨_,_,_,es,O,U,EE.out⟩,u.out⟩):p:=h
theorem Eox(h:p:=by clear hc hg;go_enter kH,kK;go_wp2;go_ret;exact⟨O,Y4.out _ _ _⟩):p:=h
theorem Eoy(h:p:=by exact fun _=>rfl):p:=h
theorem Eoz(h:p:=by exact E2 (g:=w.heap.size+1) u.out U r):p:=h
theorem EoA(h:p:=by obtain⟨b,c,h1,h2,h3,h4⟩:=h;exact⟨b,c,h1,h2,h3,h4.V hb⟩):p:=h
theorem EoB(h:p:=by go_wp2_with fail;go_ret;refine⟨u.out,?_⟩;rw[<-dp.out];rfl):p:=h
theorem EoC(h:p:=by exact Es dD O):p:=h
theorem EoD(h:p:=by exact Es bM O):p:=h
theorem EoF(h:p:=by exact Es UW O):p:=h
theorem EoG(h:p:=by go_ret2;exact⟨O,O⟩):p:=h
theorem EoH(h:p:=by exact fun ev h1 h2=>yO):p:=h
theorem EoK(h:p:=by have:=List.length_take_le i S;have:=dy.out;have:=HL.out;omega):p:=h
theorem EoL(h:p:=by have d28:xv 28=Et #[EZ rv,E I cd]:=hd.at 28 rfl;exact Es Lo O):p:=h
theorem EoM(h:p:=by have d20:xv 20=M (Z ⟨gc,0,X⟩):=hd.at 20 rfl;exact Es Ca O):p:=h
theorem EoN(h:p:=by have d20:xv 20=Et #[EZ Um,E I cd]:=hd.at 20 rfl;exact Es Ca O):p:=h
theorem EoP(h:p:=by have d15:xv 15=M (Z ⟨gc,0,X⟩):=hd.at 15 rfl;exact Es vT O):p:=h
theorem EoQ(h:p:=by exact⟨BW,L',s.only (J8 rv) kb U,m.only (J8 rv) U U kb.lt⟩):p:=h
theorem EoR(h:p:=by have:=hc k p hp (ih (i-k) U k O U) e he hb;rwa [heq] at this):p:=h
theorem EoS(h:p:=by go_wp2_with fail;go_ret;exact⟨⟨_,_,O,X0 _ _⟩,E9 _ _⟩):p:=h
theorem EoT(h:p:=by exact h1 _ _ _ h hr):p:=h
theorem EoV(h:p:=by simp only[Ir];exact⟨trivial,U⟩):p:=h
theorem EoW(h:p:=by exact Es bL O):p:=h
theorem EoY(h:p:=by exact⟨h,ht,fun h=>XE⟩):p:=h
theorem Eo0(h:p:=by obtain⟨g,cs,e,k,p⟩:=h;exact⟨g,cs,e,k.V hb,p.V hb⟩):p:=h
theorem Eo1(h:p:=by rw[hrun] at hr;injection hr with _ hr;rw[hr];exact bel _):p:=h
theorem Eo2(h:p:=by rw[hq i (.inl rfl)] at h;exact h):p:=h
theorem Eo3(h:p:=by refine⟨B,?_,fun h=>absurd (h.1) e0⟩;simp[go_sem,e0]):p:=h
theorem Eo4(h:p:=by rw[if_pos hw];unfold dI;rw[hr];exact⟨v,O,hT.1 _,h⟩):p:=h
theorem Eo5(h:p:=by exact Es dh O):p:=h
theorem Eo6(h:p:=by exact Es XN O):p:=h
theorem Eo7(h:p:=by simp[Lit.wf,IntKind.min,IntKind.max,jW,jV] at h;omega):p:=h
theorem Eo8(h:p:=by simp only[mix,show¬i+k<i from U,if_false,held,hk,hd]):p:=h
theorem Eo9(h:p:=by have d1:v 1=EU B:=hd.at 1 rfl;exact E_ EF (Ei O) Xp O):p:=h
theorem Eo_(h:p:=by exact absurd ⟨j,hj,hc⟩ hno):p:=h
theorem EpE(h:p:=by simp only[Bool.not_false,if_true,Og,Bool.false_and]):p:=h
theorem EpI(h:p:=by go_wp2_with fail;refine EV (UQ O _ _ _) O ⟨O,O⟩):p:=h
theorem EpJ(h:p:=by exact(CA.out wq).mono fun e w2 h=>⟨_,h.1,h.2,O⟩):p:=h
theorem EpO(h:p:=by rw[if_pos hw];unfold dI;rw[hr];exact⟨v,O,hb,h⟩):p:=h
theorem EpU(h:p:=by rw[HE.out];rfl):p:=h
theorem EpX(h:p:=by have d13:xv 13=E I cd:=hd.at 13 rfl;exact Es vG O):p:=h
theorem EpZ(h:p:=by rw[aI EI e,hl j hj];congr 1;rw[eq_iff_iff];omega):p:=h
theorem Epa(h:p:=by rintro e w2 ⟨rfl,b2⟩;replace K2:=J<|K2.out.V b2;replace KT:=J<|KT.out.V b2;replace ON:=J<|ON.out.trans (E3.EA b2);replace RT:=J<|RT.out.V b2;clear b2;go_wp2_with (first|((with_reducible refine It 32 ?_);refine I3 rfl 183 _ rfl (ED (IZ 0)) ji ?_)|(with_reducible refine wS (cs:=(ED (IZ 0))) OM K2 ?_ (ho:=I_ _) (hn:=I_ _) (h1:=ZF _)));refine EV (v:=Et #[EZ (ED (IZ 0)),E I 14]) (dq OM O _ _ w.heap.size _ _ O O (K2.out.setRow _) (I_ _)) O ?_;exact Eln):p:=h
theorem Epb(h:p:=by have c0:=hm.cell 0;rw[Zh _ _ U,if_neg U,hk] at c0;have CF:=J<|fun W=>iJ gm 1 W;have u:=J<|E9 w.heap.size w;clear hm hk;go_enter iO,iU;exact ElZ):p:=h
theorem Epc(h:p:=by have q5:(a !=165)=EI:=xn;replace HF:Ec (f=jK (UF ([a,v]))):=J<|HF.out.trans xo;clear h5;go_wp2_with fail;refine(xk (Z ⟨b,off,X⟩) ([a,v]) 2 c _ sb U (Ix HR.out JJ.out) U).mono ?_;rintro e W2 ⟨rfl,b2⟩;replace OW:=J<|ZD OW.out b2;replace K2:=EM K2 b2;replace K3:=EM K3 b2;replace JJ:=ET JJ b2;clear b2 c0 OW;obtain⟨JA,IE⟩:=En (#[E I 1,E I (UF ([a,v])),E I 0,G X 0 0]:Array Y);exact ElO):p:=h
theorem Epd(h:p:=by intro v w' hb hr;obtain⟨gl,fs,e,m,lg,bx,kk⟩: ∃(gl:Nat) (fs:List (FD×Nat)),v 9=G (Z ⟨gl,0,X⟩) 2 2/\fs.map (·.1)=[Ja,IQ]/\w.heap.size<=gl/\Jy w' w.heap.size gm fs/\D w' gl (EY fs).toArray 298:=hr 9 U;have dt:v 10=EU EI:=hr 10 U;exact Ela):p:=h
theorem Epf(h:p:=by go_enter Tryz.func76,Tryz.ntmps76;exact Eli):p:=h
theorem Epg(h:p:=by obtain⟨gl,fs,e,m,lg,bx,kk⟩: ∃(gl:Nat) (fs:List (FD×Nat)),v 8=G (Z ⟨gl,0,X⟩) 2 2/\fs.map (·.1)=[Ja,IQ]/\w.heap.size<=gl/\Jy w' w.heap.size gm fs/\D w' gl (EY fs).toArray 298:=hd.at 8 rfl;exact El2):p:=h
theorem Eph(h:p:=by go_enter ky,kA;go_wp2;exact Elr):p:=h
theorem Epi(h:p:=by have d2:v 2=M (Z ⟨gm,3,X⟩):=hd.at 2 rfl;refine JL (f:=205) (args:= #[v 2]) (Ei O) Ex ?_;rw[d2];exact ElP):p:=h
theorem Epj(h:p:=by have dt:v 10=EU EI:=hr 10 U;exact Ela):p:=h
theorem Epk(h:p:=by go_wp2_with fail;refine(CO.out).mono ?_;rintro e w' ⟨rfl,rfl⟩;exact Eli):p:=h
theorem Epl(h:p:=by go_wp2_with fail;refine(gO _ _ _ N1.out).mono ?_;rintro e w' ⟨rfl,rfl⟩;go_wp2_with fail;refine(gO _ _ _ N2.out).mono ?_;exact Emb):p:=h
theorem Epm(h:p:=by obtain rfl:p=0:=U;have d5:xv 5=M (Z ⟨gc,56,X⟩):=hd.at 5 rfl;obtain⟨big,KB,OV⟩:=bI hp.2.1.core;exact Emq):p:=h
theorem Epn(h:p:=by have d6:v 6=M (Z ⟨gm,3,X⟩):=hd.at 6 rfl;refine JL (f:=205) (args:= #[v 6]) (Ei O) Ex ?_;rw[d6];exact ElP):p:=h
theorem Epo(h:p:=by subst he;have hrun:=run_loadVar_mid w g off t _ d (World.rangeAt_of_block hg off n) hu mj yD;exact Eml):p:=h
theorem Epp(h:p:=by go_enter Tryz.func226,Tryz.ntmps226;exact Elc):p:=h
theorem Epq(h:p:=by go_enter Tryz.func180,Tryz.ntmps180;go_wp2;refine EV FR O ⟨O,?_⟩;exact Elx):p:=h
theorem Epr(h:p:=by go_enter Tryz.func146,Tryz.ntmps146;go_wp2;refine EV FM O ⟨O,?_⟩;exact Elx):p:=h
theorem Eps(h:p:=by go_wp2;refine EV FR O ⟨O,?_⟩;exact Elx):p:=h
theorem Ept(h:p:=by go_wp2;refine EV FM O ⟨O,?_⟩;exact Elx):p:=h
theorem Epu(h:p:=by refine(sd lo hi g gc gq gt gs c ns rs k 13 _ S1.out JN).mono ?_;exact El0):p:=h
theorem Epv(h:p:=by refine JH (f:=66) (args:= #[E I 1,E I 1000]) (Ei O) Ex ?_;exact Enf):p:=h
theorem Epw(h:p:=by have:=Array.all_eq_true_iff_forall_mem.1 h1.1 e he;exact EnV):p:=h
theorem Epx(h:p:=by go_enter Tryz.func59,Tryz.ntmps59;go_wp2_with fail;exact Enc):p:=h
theorem Epy(h:p:=by clear K8 K7 hx;go_enter Tryz.func223,Tryz.ntmps223;exact Elc):p:=h
theorem Epz(h:p:=by have d11:xv 11=Et #[EZ rv,E I cd]:=hd.at 11 rfl;exact EoC):p:=h
theorem EpA(h:p:=by have d11:xv 11=Et #[EZ mv,E I cd]:=hd.at 11 rfl;exact EoC):p:=h
theorem EpB(h:p:=by clear KT hx;go_enter Tryz.func225,Tryz.ntmps225;exact Elc):p:=h
theorem EpC(h:p:=by clear KT hx;go_enter Tryz.func222,Tryz.ntmps222;exact Elc):p:=h
theorem EpD(h:p:=by go_wp2_with fail;go_ret2;unfold vE;rw[hp.out];exact EoJ):p:=h
theorem EpF(h:p:=by clear e1 e2 K h;go_enter Tryz.func56,Tryz.ntmps56;exact Epk):p:=h
end Go.Proofs.YtclmichaaiohjaaGreatDoor
