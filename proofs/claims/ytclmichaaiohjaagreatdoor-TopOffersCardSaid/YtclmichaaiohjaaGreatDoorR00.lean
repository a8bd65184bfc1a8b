import Derived.WalkKit
import Derived.WalkSpells
import Derived.WalkLawsBesides
import Derived.Lib.Hide
import Derived.ProofKit
import Derived.OpenShut
import Derived.ChangeOld
import Derived.Below
import Derived.Deep.QuietTactic
import Derived.RegionTactic
import Derived.BigRegion
import Derived.BigQuiet
import Derived.Deep.RegionWith
import Derived.Laws.Rows
import Derived.Laws.Tables
import Derived.Laws.CopyOwn
import Derived.Deep.WholeRow
import Derived.KernelRfl
import Derived.Orders
import Derived.Deep.Quiet
import Derived.Deep.MidRow
import Derived.Test.YtclmichaaiohjaaGreatDoorProg
set_option maxRecDepth 100000
set_option linter.unusedVariables false
set_option linter.unusedSimpArgs false
set_option maxHeartbeats 6400000
namespace Go.Proofs.YtclmichaaiohjaaGreatDoor
open RowKit
open _root_.Array renaming getElem?_eq_some_iff->Jt,replicate->Zn
open Bool renaming true->u,false->B,and_eq_true->Oc,false_eq_true->kn
open Go renaming World->M,Value->V,Addr->Eu,bodyPost_ret->ET,results->Xa,execOp->Iw,wpList->IZ,undef->I6,mem_ready->Uo,getD_set_ne->XL,info_parts->bQ,below_setRow->E3,wp_loop_rounds->O9,rounds_succ->Ic,results_none->U1,wpList_store_mid->OH
open Act renaming put->In
open Builtin renaming append_->bP
open Ending renaming returned->Eg
open Instr renaming loadAt->fN,sureAddr->dU
open IntKind renaming wrap->oD,bits->j7,signed->j8,i64->I,u8->IP
open Lib renaming hid->O
open Obj renaming cells->EJ
open Oper renaming wp->ah
open Go.Proofs.Tryz renaming underlying23->bR,func156->kL,ntmps156->kP,func124->gU,ntmps124->gX,func160->ii,ntmps160->ij,func138->lO,ntmps138->lU
open Result renaming andThen_ok->Uf
open RowKit renaming Below->Io,Hid->Ea,intOf->Iv
open RowKit.Below renaming refl->IE,heap_setCell->XM,alloc->JH,setCell->JK,size->XJ
open Sem renaming run_bind->Ud,run_pure->UU
open Value renaming bool->Ec,int->E,agg->EZ,slice->EI,tuple->Et,pointer->Y,oneCell'->OC,ownBlock->mQ
open World renaming setCell->dW,cell?->jx
open Int renaming le_refl->ZB
open List renaming getElem?_eq_getElem->Ok,range->UA,drop_of_length_le->mq,eq_nil_iff_forall_not_mem->mr,length_filter_le->mA,getElem?_eq_some_iff->UG,mem_iff_getElem?->aP,take_append_drop->hU,take_succ_cons->Ir,length_take->aj,take_of_length_le->UZ,getD_eq_getElem?_getD->UK,map_cons->UL,map_nil->Xu,take_zero->Im,getElem?_toArray->Og,setIfInBounds_toArray->Ip,length_append->I2,length_cons->ZV,append_assoc->U9,set_cons_succ->Ig,set_cons_zero->Ih,map_append->ku,drop_succ_cons->IL,drop_zero->IG,append_nil->fc,mem_append_left->jF
open List.Perm renaming refl->bh
open Nat renaming le_trans->EA,le_refl->E7,zero_add->JV,add_assoc->js,le_of_eq->OQ
open Ne renaming symm->Zr
open Option renaming some->D,none->Z,map_some->j_
variable{p:Prop}
theorem X(h:p:=by omega):p:=h
theorem Ed(h:p:=by kernel_rfl):p:=h
theorem Eb(h:p:=by decide):p:=h
theorem by3(h:p:=by subst hW;repeat (first|exact H.new _ _ _|exact H.new' _ _ _ (by simp)|refine H.alloc ?_ _)):p:=h
theorem Ez(h:p:=by simp[go_sem]):p:=h
theorem by5(h:p:=by(repeat (first|exact IE _ _|(refine JH ?_ (by simp<;>omega) _)|(refine JK ?_ (by simp<;>omega) _)))):p:=h
theorem by6(h:p:=by subst hW;(repeat (first|exact IE _ _|(refine JH ?_ (by simp<;>omega) _)|(refine JK ?_ (by simp<;>omega) _)))):p:=h
theorem Eh(h:p:=by simp):p:=h
theorem by8(h:p:=by rw[show(⟨gb,0,Z⟩:Eu).add j=⟨gb,j,Z⟩ from by unfold Addr.add;split<;>simp_all];rw[H.cell KB.out,Og];exact hu):p:=h
theorem Us(h:p:=by with_unfolding_all (simp[OC])):p:=h
theorem Xd(h:p:=by with_unfolding_all (rw[Om,fS])):p:=h
theorem Iu(h:p:=by simp<;>omega):p:=h
theorem Jv(h:p:=by simp[Iv];omega):p:=h
theorem JS(h:p:=by have:=HL.out;omega):p:=h
theorem XB(h:p:=by unfold Addr.add;split<;>simp_all):p:=h
theorem ZU(h:p:=by intro e;subst e;revert hS;decide):p:=h
theorem Ob(h:p:=by have:=HN.out;omega):p:=h
theorem OD(h:p:=by unfold maxLen;omega):p:=h
theorem Z9(h:p:=by unfold aW Zf U2;simp;try omega):p:=h
theorem Ek1(h:p:=by rw[show(⟨gb,0,Z⟩:Eu).add j=⟨gb,j,Z⟩ from by unfold Addr.add;split<;>simp_all];rw[H.cell KI.out,Og];exact hu):p:=h
theorem Mo(h:p:=by have:=H.new (w.alloc (EJ #[E I 0,E I 0,E I 0,EI Z 0 0] 101)) #[E I 0,E I 0,E I 0,EI Z 0 0] 101;simpa using this):p:=h
theorem Jn(h:p:=by simp;omega):p:=h
theorem nM(h:p:=by have:=S1.out.cH;have:=S1.out.gG;have:=MM.out.size;omega):p:=h
theorem Ug(h:p:=by simpa using hi):p:=h
theorem U3(h:p:=by simp only;omega):p:=h
theorem U4(h:p:=by simp[go_sem,d0]):p:=h
theorem Ek2(h:p:=by subst hW;exact⟨_,U,by first|exact H.new _ _ _|exact H.new' _ _ _ (by simp)⟩):p:=h
theorem Un(h:p:=by simpa using h):p:=h
theorem iY(h:p:=by have:=LT.out;have:=BB.out.size;omega):p:=h
theorem Ek3(h:p:=by rw[hv1];exact Za K 1 (by omega) (by omega)):p:=h
theorem Xw(h:p:=by simp[go_sem,d1]):p:=h
theorem qo(h:p:=by obtain⟨b,h1,h2,h3⟩:=h;exact⟨b,h1,h2,H.G h3 hr⟩):p:=h
theorem DO(h:p:=by have:=HL.out;have:=Md.out;have:=DE.out;have:=lY.out;simp only[I2];omega):p:=h
theorem fD(h:p:=by rw[Ia];simp[OC]):p:=h
theorem iW(h:p:=by have:=LT.out;have:=XI.out;omega):p:=h
theorem oI(h:p:=by with_unfolding_all (first|rfl|exact oE.out)):p:=h
theorem XR(h:p:=by simp[go_sem,d4]):p:=h
theorem rW(h:p:=by simp[oD,j7,j8];omega):p:=h
theorem bv(h:p:=by have:=LK.out;omega):p:=h
theorem aX(h:p:=by subst hr;exact h):p:=h
theorem dB(h:p:=by simp[OC]):p:=h
theorem Ek4(h:p:=by first|exact H.new _ _ _|exact H.new' _ _ _ (by simp)):p:=h
theorem Ek5(h:p:=by obtain⟨z,h1,h2⟩:=KZ.out;exact⟨z,h1,ZM.Ek h2 (by decide) (by decide)⟩):p:=h
theorem gZ(h:p:=by have:=ON.out.size;omega):p:=h
theorem Ek6(h:p:=by rw[pD _ _ _ _ (by simp[Ua]),Ua]):p:=h
theorem qJ(h:p:=by obtain⟨_,_,KQ,-,-⟩:=Q;have:=KQ.lt;omega):p:=h
theorem U_(h:p:=by simp[O4]):p:=h
theorem cE(h:p:=by simp[go_sem,d2,cc]):p:=h
theorem cg(h:p:=by simp[Uk,qa,qb,qc]):p:=h
theorem sX(h:p:=by with_unfolding_all (rw[Fu,fS])):p:=h
theorem gC(h:p:=by simp[EG.v,XD.v,Pt.v]):p:=h
theorem Ek7(h:p:=by rw[hsm.out];exact S1.out.core.cell 7 rfl 0 (by simp)):p:=h
theorem xo(h:p:=by obtain⟨z,h1,h2⟩:=cY.out;exact⟨z,h1,H.G h2 b3⟩):p:=h
theorem Cc(h:p:=by obtain⟨b,rv,h1,h2,h3,h4⟩:=h;exact⟨b,rv,h1,h2,h3,H.G h4 hr⟩):p:=h
theorem XV(h:p:=by simp[EG.v]):p:=h
theorem ox(h:p:=by rcases hS with rfl|rfl<;>decide):p:=h
theorem DJ(h:p:=by have:=HN.out;have:=jL.out;have:=qn.out;have:=lY.out;omega):p:=h
theorem cI(h:p:=by simp[go_sem,d3]):p:=h
theorem dl(h:p:=by simp[go_sem,d10]):p:=h
theorem dK(h:p:=by simp[go_sem,d11]):p:=h
theorem QY(h:p:=by rw[List.take_succ_eq_append_getElem hil,List.flatten_append,List.flatten_cons,List.flatten_nil,fc]):p:=h
theorem Zt(h:p:=by simp[Iv]):p:=h
theorem Ek8(h:p:=by rw[cL.out];exact .inr (.inr ⟨U,h4,by show e<65535;omega,4,by omega,by omega,fun e4=>h4 e4.symm,Bw.out.2⟩)):p:=h
theorem Pf(h:p:=by by_cases hj:j<ops.size;(·simp[hj] at h);(·rename_i ho;exact absurd (Jt.1 ho).1 hj)):p:=h
theorem dq(h:p:=by simp[go_sem,d5]):p:=h
theorem dF(h:p:=by simpa using hcd):p:=h
theorem mg(h:p:=by rw[aj];omega):p:=h
theorem wv(h:p:=by have:=HR.out.symm.trans hc;injection this):p:=h
theorem Yk(h:p:=by have:=Md.out;have:=DE.out;have:=lY.out;have:=Egb mE.out;simp only[I2];omega):p:=h
theorem pA(h:p:=by simp[go_sem,d3,d7,IF,E4]):p:=h
theorem Bu(h:p:=by have:=gu.out.e.1;show _<=e;simp only at this;omega):p:=h
theorem kW(h:p:=by rw[uF k h];omega):p:=h
theorem oS(h:p:=by cases d<;>first|rfl|cases hd):p:=h
theorem Cb(h:p:=by rw[hPQ] at h;obtain⟨t2,-,h2,h3,-⟩:=h;exact⟨h2,h3⟩):p:=h
theorem tA(h:p:=by rw[fc];exact S1.out):p:=h
theorem Ek9(h:p:=by have:=(H.cell kb i).trans (by simpa using hi);simpa using this):p:=h
theorem XZ(h:p:=by cases h):p:=h
theorem fp(h:p:=by simp[EG.end_]):p:=h
theorem gd(h:p:=by simp[go_sem,d8]):p:=h
theorem gh(h:p:=by simp[go_sem,d7]):p:=h
theorem Yl(h:p:=by obtain⟨x,hx,h2⟩:=Yd.out h;exact⟨x,jF _ (jF _ hx),h2⟩):p:=h
theorem MO(h:p:=by have h:=IH;unfold EG.a at h;injection h with h;rw[<-h];rfl):p:=h
theorem bu(h:p:=by rw[OZ.out]):p:=h
theorem EIr(h:p:=by have:=BB.out.trans (b6.mono (EA dV.out S3.out));rw[HN.out] at this;exact this):p:=h
theorem xp(h:p:=by have:=OY.out.lt;have:=LT.out;omega):p:=h
theorem GE(h:p:=by rw[hl,hcs,<-Nat.add_mul];exact Nat.mul_le_mul_right _ hroom):p:=h
theorem Lr(h:p:=by have h:=UJ 0 _ U;rw[JD] at h;exact h.trans Lq.out):p:=h
theorem uS(h:p:=by rw[aj,nO];rfl):p:=h
theorem mY(h:p:=by rw[HN.out];exact hlt):p:=h
theorem Ad(h:p:=by with_unfolding_all (rw[Om,HC.out])):p:=h
theorem By(h:p:=by obtain⟨cd,e,hk⟩:=h;exact⟨cd,e,hk.rel hr⟩):p:=h
theorem wg(h:p:=by have:=HN.out;have:=jK.out;omega):p:=h
theorem Ek_(h:p:=by cases e<;>first|exact he|exact he.elim|exact(by obtain⟨_,_,h⟩:=he;exact h.elim)):p:=h
theorem ElE(h:p:=by rw[hall j hj,decide_eq_true (by omega)]):p:=h
theorem uI(h:p:=by rw[NX.out,SR9.out];simp[*]):p:=h
theorem hI(h:p:=by simpa using hs):p:=h
theorem pF(h:p:=by simp[Ua,fS]):p:=h
theorem EEP(h:p:=by obtain⟨gc,gt,h1,h2,h3,h4,h5⟩:=h;exact⟨gc,gt,h1,h2,h3,h4.G hr,h5.G hr⟩):p:=h
theorem F_(h:p:=by have hb:=hbytes;simp only[JV] at hb;omega):p:=h
theorem zZ(h:p:=by rw[hr];exact f9 _ _ _ _ _ _ _ _):p:=h
theorem Kw(h:p:=by simp only[ZV,List.length_nil];omega):p:=h
theorem yK(h:p:=by simp[Xa,Tryz.results173,go_sem]):p:=h
theorem zX(h:p:=by simp[Xa,Tryz.results140,go_sem]):p:=h
theorem ElI(h:p:=by rw[cL.out];exact .inl ⟨U,0,0,by omega,by omega,by omega,by omega,U⟩):p:=h
theorem BH(h:p:=by simp[Xa,Tryz.results139,go_sem]):p:=h
theorem fC(h:p:=by rw[Ia];rfl):p:=h
theorem Vg(h:p:=by have:=Ia;unfold EG.a at this;injection this with this;exact this.symm):p:=h
theorem VK(h:p:=by have:=IH;unfold EG.a at this;injection this with this;exact this.symm):p:=h
theorem ElJ(h:p:=by rw[hsm.out];exact(S1.out.G (ED y)).core.cell 7 rfl 0 (by simp)):p:=h
theorem jp(h:p:=by simp[go_sem,e]):p:=h
theorem ElO(h:p:=by rw[cL.out];exact .inr (.inr ⟨U,h4,by show e<65535;omega,jo.out⟩)):p:=h
theorem kY(h:p:=by rw[Om,hk]):p:=h
theorem xT(h:p:=by rintro rfl;revert hS;decide):p:=h
theorem xV(h:p:=by rintro⟨_,_,⟨_,h⟩,_⟩;cases h):p:=h
theorem qp(h:p:=by have:=nN.out;omega):p:=h
theorem Gt(h:p:=by have:=pX g T 1 W hW h;rwa [hof] at this):p:=h
theorem Gu(h:p:=by have:=pX g T 2 W hW h;rwa [hof] at this):p:=h
theorem Gv(h:p:=by have:=pX g T 3 W hW h;rwa [hof] at this):p:=h
theorem sL(h:p:=by have:=h.lo2;simp;omega):p:=h
theorem Gj(h:p:=by with_unfolding_all (rw[Fu,HS.out.1])):p:=h
theorem Gw(h:p:=by rw[if_neg (fun h=>by cases h.1)];exact⟨a,b⟩):p:=h
theorem yQ(h:p:=by rw[aj] at hj;omega):p:=h
theorem oK(h:p:=by simpa[h5] using h3):p:=h
theorem SE(h:p:=by rw[<-Ay.out,List.getElem?_map,Ok hil];rfl):p:=h
theorem qS(h:p:=by have:=LW.out;omega):p:=h
theorem tG(h:p:=by rintro⟨_,_,h⟩;exact h):p:=h
theorem NU(h:p:=by obtain⟨b,h1,h2⟩:=h;exact⟨b,h1,h2.G hr⟩):p:=h
theorem YU(h:p:=by have:=HL.out;have:=nW.out;simp only[I2];omega):p:=h
theorem D5(h:p:=by rw[HGP.out];exact E7 _):p:=h
theorem NG(h:p:=by have:=MM.out.lm;have:=MM.out.Ek.lt;omega):p:=h
theorem Yj(h:p:=by have:=jL.out;have:=qn.out;have:=Yh.out;have:=lY.out;omega):p:=h
theorem EEU(h:p:=by have:=H.new (w.alloc (EJ cv 48)) zt 43;simpa using this):p:=h
theorem Gq(h:p:=by with_unfolding_all (rw[Om,AL.out])):p:=h
theorem sg(h:p:=by rw[fg.out];exact k9):p:=h
theorem GA(h:p:=by with_unfolding_all (rw[Om,T8.out])):p:=h
theorem GD(h:p:=by with_unfolding_all (rw[Om,TL.out])):p:=h
theorem nf(h:p:=by simp[go_sem,d6]):p:=h
theorem Hr(h:p:=by with_unfolding_all (rw[Om,RL.out])):p:=h
theorem Bg(h:p:=by rw[HN.out];exact E7 _):p:=h
theorem Bq(h:p:=by injection e with e;injection e):p:=h
theorem oy(h:p:=by simp[mf,JI]):p:=h
theorem WL(h:p:=by have:=HN.out;have:=HM.out;have:=jL.out;have:=qP.out;omega):p:=h
theorem mX(h:p:=by simp[c0,JI]):p:=h
theorem Ca(h:p:=by rw[hPQ];exact⟨t2,h1,h2,h3,h4⟩):p:=h
theorem DT(h:p:=by subst hb;exact IE _ _):p:=h
theorem xn(h:p:=by have:=b1.out.size;omega):p:=h
theorem tU(h:p:=by have:=jK.out;omega):p:=h
theorem mF(h:p:=by simpa using hp):p:=h
theorem Vm(h:p:=by have h1:=bz.out;have h2:=vV.out;have h3:=LK.out;omega):p:=h
theorem YP(h:p:=by match i with|0=>rfl|1=>rfl|2=>rfl|3=>rfl|4=>rfl|_+5=>rfl):p:=h
theorem Gy(h:p:=by rw[if_neg (fun h=>hm h.2)];exact⟨a,b⟩):p:=h
theorem i6(h:p:=by rw[hk];rfl):p:=h
theorem i_(h:p:=by simp[Zf]):p:=h
theorem jE(h:p:=by simp[U2]):p:=h
theorem fM(h:p:=by rw[hi,hn]):p:=h
theorem FG(h:p:=by simp[Xa,Tryz.results148,go_sem]):p:=h
theorem F2(h:p:=by simp[Xa,Tryz.results146,go_sem]):p:=h
theorem F3(h:p:=by simp[Xa,Tryz.results150,go_sem]):p:=h
theorem F4(h:p:=by simp[Xa,Tryz.results180,go_sem]):p:=h
theorem QX(h:p:=by subst hw;exact(IE _ _).alloc (E7 _) _):p:=h
theorem B_(h:p:=by have:=S.core.ok.tok.e;omega):p:=h
theorem tD(h:p:=by have:=LT.out;omega):p:=h
theorem Mp(h:p:=by simp[Xa,Tryz.results83,go_sem]):p:=h
theorem xN(h:p:=by rw[jW,if_pos h5]):p:=h
theorem ElU(h:p:=by rw[zE (by omega) h1 cs hcn hic,hcnt];exact zO):p:=h
theorem Rs(h:p:=by rw[GL,hk.cell j,Og];exact hu):p:=h
theorem WG(h:p:=by have h2:=Cx.2.1;unfold U2 at h2;simp at h2;omega):p:=h
theorem fH(h:p:=by simp[c0]):p:=h
theorem ElX(h:p:=by simpa only[hq 25 (by simp),hq 28 (by simp)] using h):p:=h
theorem EII(h:p:=by obtain⟨i,z,h1,h2,h3,-⟩:=EE4;exact⟨i,z,h1,h2,h3⟩):p:=h
theorem Br(h:p:=by with_unfolding_all (simp)):p:=h
theorem EEN(h:p:=by obtain⟨gt,h1,h2,h3⟩:=h;exact⟨gt,h1,h2,h3.G hr⟩):p:=h
theorem GP(h:p:=by simp[go_sem,d3,d7,d11,IF,E4]):p:=h
theorem oM(h:p:=by simpa using ho):p:=h
theorem rB(h:p:=by simp at hi;omega):p:=h
theorem rY(h:p:=by rw[HN.out];omega):p:=h
theorem sH(h:p:=by rw[Ua];omega):p:=h
theorem LO(h:p:=by subst hW;exact Ep w2 _):p:=h
theorem LU(h:p:=by subst hW;exact Ep w4 _):p:=h
theorem Ll(h:p:=by have:=HN.out;have:=nN.out;omega):p:=h
theorem ElZ(h:p:=by rw[hv2];exact Za K 2 (by omega) (by omega)):p:=h
theorem FU(h:p:=by rw[hzs];exact D8):p:=h
theorem xw(h:p:=by have:=Z4.out;omega):p:=h
theorem PY(h:p:=by rw[<-hn];exact(UG.1 hi).1):p:=h
theorem P1(h:p:=by rw[<-hn];exact(UG.1 hj).1):p:=h
theorem Tn(h:p:=by obtain⟨A,c,e,ho⟩:=h;exact⟨A,c,e,ER ho hr⟩):p:=h
theorem Yg(h:p:=by rw[I2];have:=DE.out;simp;omega):p:=h
theorem Kp(h:p:=by subst hW;exact Ep w _):p:=h
theorem Pd(h:p:=by have:=(UG.1 hk).1;omega):p:=h
theorem zi(h:p:=by unfold FD.set;rw[h];rfl):p:=h
theorem zk(h:p:=by unfold FD.box;rw[h];rfl):p:=h
theorem Q2(h:p:=by rw[<-List.flatten_append,hU]):p:=h
theorem Q3(h:p:=by rw[HST.out,I2,zW.out,zY.out]):p:=h
theorem WN(h:p:=by have:=HM.out;have:=jL.out;have:=qP.out;omega):p:=h
theorem D9(h:p:=by rw[JZ.ry];omega):p:=h
theorem P7(h:p:=by intro Y3 hu;simp at hu;obtain⟨a,_,rfl⟩:=hu;rfl):p:=h
theorem F8(h:p:=by simp only[maxLen] at h63;omega):p:=h
theorem Gx(h:p:=by rw[if_pos ⟨U,hm⟩];exact⟨a,b⟩):p:=h
theorem sh(h:p:=by simp[go_sem,d9]):p:=h
theorem vT(h:p:=by have:=HB.out;omega):p:=h
theorem Vj(h:p:=by rw[cL.out];exact .inr (.inl ⟨U,h4,he,U⟩)):p:=h
theorem wl(h:p:=by simp[go_sem,d9,cc]):p:=h
theorem tM(h:p:=by rw[Ia.out];rfl):p:=h
theorem Mx(h:p:=by simpa[mQ] using e2):p:=h
theorem iI(h:p:=by simp[h4]):p:=h
theorem QR(h:p:=by with_unfolding_all (rw[Om,sO])):p:=h
theorem DA(h:p:=by first|rfl|(rw[t1];rfl)):p:=h
theorem Fy(h:p:=by rw[hi,Array.length_toList,hn]):p:=h
theorem Ela(h:p:=by rw[jW,if_neg (by omega)]):p:=h
theorem PB(h:p:=by rw[<-e];exact aP.2 ⟨j,hj⟩):p:=h
theorem PD(h:p:=by rw[um cs hic];exact hPh _ _ _ hb hb'):p:=h
theorem Wh(h:p:=by unfold Zc;rw[ku];exact ZX):p:=h
theorem rP(h:p:=by simpa using hq):p:=h
theorem zB(h:p:=by have:=HS.out.lo;omega):p:=h
theorem AJ(h:p:=by rw[Gk,bE.out]):p:=h
theorem tZ(h:p:=by simp[EG.pass]):p:=h
theorem Cy(h:p:=by rw[aI.out];exact hlt):p:=h
theorem EEp(h:p:=by rw[iV _ _ _ _ U HX3.out.1];omega):p:=h
theorem EIt(h:p:=by have:=BB.out;rw[HN.out] at this;exact this):p:=h
theorem Q9(h:p:=by with_unfolding_all (rw[Om,bE.out])):p:=h
theorem RE(h:p:=by with_unfolding_all (rw[Om,kR.out])):p:=h
theorem VD(h:p:=by have h:=ZL W q;rw[Uw,hpv] at h;exact h):p:=h
theorem ky(h:p:=by simp[EK]):p:=h
theorem mP(h:p:=by rw[he];rfl):p:=h
theorem QD(h:p:=by with_unfolding_all (rw[Om,HL.out])):p:=h
theorem RU(h:p:=by with_unfolding_all (rw[Om,KL.out])):p:=h
theorem Sw(h:p:=by with_unfolding_all (rw[Om,PL.out])):p:=h
theorem Vl(h:p:=by have h1:=bz.out;have h2:=vV.out;omega):p:=h
theorem wO(h:p:=by simp[go_sem,d13]):p:=h
theorem wt(h:p:=by simp[go_sem,d15]):p:=h
theorem wu(h:p:=by simp[go_sem,d17]):p:=h
theorem nP(h:p:=by simp[JI]):p:=h
theorem Yw(h:p:=by cases e<;>first|exact ih _ _ he|exact he):p:=h
theorem Fp(h:p:=by subst he;exact⟨v,U,hb,h⟩):p:=h
theorem F0(h:p:=by simp[One.v,OC]):p:=h
theorem Sk(h:p:=by simp[EP.oT h i,O8,(h.EY i).len]):p:=h
theorem Wr(h:p:=by simp[iQ,gM,a0,b0,a1,b1,a2,b2,a3,b3]):p:=h
theorem MW(h:p:=by rw[hr.out,AT.out.2 hp];rfl):p:=h
theorem Q_(h:p:=by rw[I2,nU.out,ph.out]):p:=h
theorem RI(h:p:=by rw[I2,nX.out,kR.out]):p:=h
theorem Tm(h:p:=by obtain⟨b,e,hk⟩:=h;exact⟨b,e,hr _ _ hk⟩):p:=h
theorem Cd(h:p:=by simp[go_sem,d12,cc]):p:=h
theorem Ch(h:p:=by simp[go_sem,d19,cc]):p:=h
theorem Yo(h:p:=by show¬(t2.o=c.tok.o/\t2.e=c.tok.e);omega):p:=h
theorem Fm(h:p:=by rw[h0] at hmem;cases hmem):p:=h
theorem uZ(h:p:=by simpa using hmn):p:=h
theorem Kx(h:p:=by rw[hp.length_eq];exact k2):p:=h
theorem Vi(h:p:=by have:=HB.out;unfold sat;split<;>omega):p:=h
theorem Vz(h:p:=by have h:=ZL W q;rw[Uw] at h;exact h):p:=h
theorem WE(h:p:=by rw[List.eq_of_mem_replicate hx];omega):p:=h
theorem P4(h:p:=by rw[bV,aj];omega):p:=h
theorem P6(h:p:=by simp[Xa,Tryz.results104,go_sem]):p:=h
theorem zn(h:p:=by rw[<-hw];exact zl):p:=h
theorem sG(h:p:=by simp[Ua]):p:=h
theorem AV(h:p:=by have:=h3.2 h;omega):p:=h
theorem sN(h:p:=by simp[HN.out]):p:=h
theorem VE(h:p:=by subst h2;exact⟨h1,KO,IE _ _⟩):p:=h
theorem Bv(h:p:=by show e<65535;omega):p:=h
theorem Bz(h:p:=by simp[go_sem,d6,cc]):p:=h
theorem BW(h:p:=by simp[Pt.hold,JI]):p:=h
theorem CU(h:p:=by simp[go_sem,d8,cc]):p:=h
theorem Yu(h:p:=by rcases hF with rfl|⟨l,rfl⟩<;>trivial):p:=h
theorem YQ(h:p:=by simp[Xa,Tryz.results117,go_sem]):p:=h
theorem Do(h:p:=by simp[go_sem,d1,cc]):p:=h
theorem MF(h:p:=by rw[jY];exact Ehz):p:=h
theorem EE8(h:p:=by have:=BB.out.size;have:=HN.out;omega):p:=h
theorem Nx(h:p:=by rw[hzs];exact tK):p:=h
theorem EIC(h:p:=by obtain⟨A,d,hs,-⟩:=uE.out;rw[hs];rfl):p:=h
theorem P9(h:p:=by simp only[I2];omega):p:=h
theorem EEI(h:p:=by rcases hS with rfl|rfl|rfl<;>decide):p:=h
theorem EIE(h:p:=by have:=cM.out;have:=K1.out.lt;omega):p:=h
theorem F5(h:p:=by have:=BB.out.size;omega):p:=h
theorem GU(h:p:=by unfold FD.get;rw[h];rfl):p:=h
theorem zU(h:p:=by simp[One.v];omega):p:=h
theorem Bf(h:p:=by simp[Rec.v];omega):p:=h
theorem Bs(h:p:=by have:=hb.lt;omega):p:=h
theorem WM(h:p:=by have:=jL.out;have:=xO.out;omega):p:=h
theorem Yf(h:p:=by have:=qn.out;have:=xO.out;omega):p:=h
theorem Hq(h:p:=by rw[Om,fS]):p:=h
theorem Tc(h:p:=by unfold bf pn;rw[p0,p1,p2,p3,p4]):p:=h
theorem Rq(h:p:=by simp only[List.length_nil];omega):p:=h
theorem VO(h:p:=by subst hW;exact Ep wr _):p:=h
theorem Vk(h:p:=by subst hW;exact Ep w7 _):p:=h
theorem Vw(h:p:=by subst hW;exact Ep w6 _):p:=h
theorem Elb(h:p:=by rw[hq 14 (by simp)] at h;exact h):p:=h
theorem Ci(h:p:=by simp[go_sem,e25]):p:=h
theorem Elc(h:p:=by rw[hq 31 (by simp)] at h;exact h):p:=h
theorem Cj(h:p:=by simp[go_sem,d20]):p:=h
theorem EEJ(h:p:=by rintro rfl;rw[hS] at hT;cases hT):p:=h
theorem EEq(h:p:=by unfold maxLen;have:=NN.out;omega):p:=h
theorem EIq(h:p:=by have:=q_.out;have:=S3.out;omega):p:=h
theorem EID(h:p:=by have:=HQ4.out;have:=HT.out;omega):p:=h
theorem oL(h:p:=by simp at h):p:=h
theorem oV(h:p:=by simp[O8]):p:=h
theorem Eld(h:p:=by rw[e _ (by omega)];exact h.kA):p:=h
theorem Rt(h:p:=by rw[I2];exact h2):p:=h
theorem VU(h:p:=by rw[dC.out];exact E7 _):p:=h
theorem WK(h:p:=by rw[<-HE.out.1];exact HT2.out.2.2):p:=h
theorem WP(h:p:=by rw[<-js];exact S8.out):p:=h
theorem Gm(h:p:=by rw[HM.out];exact hlt):p:=h
theorem G1(h:p:=by rw[HN.out];exact hin):p:=h
theorem Elf(h:p:=by rw[G5,if_pos (by omega)]):p:=h
theorem MZ(h:p:=by rw[hn];exact tB.out):p:=h
theorem Yv(h:p:=by obtain⟨_,_,h⟩:=he;exact h.elim):p:=h
theorem MC(h:p:=by simpa[Jb] using K):p:=h
theorem FF(h:p:=by simp[dW]):p:=h
theorem Gr(h:p:=by rw[Om,AL.out]):p:=h
theorem Lt(h:p:=by simp[go_sem,d16,cc]):p:=h
theorem Lv(h:p:=by simp[go_sem,d22,cc]):p:=h
theorem Nh(h:p:=by simp[c0,FR,JI]):p:=h
theorem yR(h:p:=by simpa using hj):p:=h
theorem y_(h:p:=by simpa using hc):p:=h
theorem QH(h:p:=by rw[<-hW];unfold Xc;omega):p:=h
theorem Cf(h:p:=by simpa using nn):p:=h
theorem Pu(h:p:=by rcases v with _|⟨h,s⟩<;>rfl):p:=h
theorem F9(h:p:=by simpa using hown.1):p:=h
theorem Gi(h:p:=by rw[HS.out.1];omega):p:=h
theorem Hl(h:p:=by simp[go_sem,d4,cc]):p:=h
theorem NZ(h:p:=by simp[go_sem,d0,cc]):p:=h
theorem Na(h:p:=by simp[go_sem,e1,e2]):p:=h
theorem D7(h:p:=by simp[c0,il]):p:=h
theorem Fl(h:p:=by rw[hl k hlt];simp):p:=h
theorem uO(h:p:=by simp at hx):p:=h
theorem uq(h:p:=by rw[hr];rfl):p:=h
theorem wh(h:p:=by simp[Pt.v]):p:=h
theorem xL(h:p:=by rw[h5];rfl):p:=h
theorem F7(h:p:=by simpa using hown):p:=h
theorem zg(h:p:=by injection hv):p:=h
theorem Gh(h:p:=by rw[HL.out];omega):p:=h
theorem Gn(h:p:=by rw[HM.out];omega):p:=h
theorem Kt(h:p:=by have:=K.lt;omega):p:=h
theorem tE(h:p:=by simp[h1]):p:=h
theorem Lf(h:p:=by simp[go_sem,e11]):p:=h
theorem Lm(h:p:=by simp[go_sem,e15]):p:=h
theorem Ls(h:p:=by simp[go_sem,d14]):p:=h
theorem Lu(h:p:=by simp[go_sem,d18]):p:=h
theorem Lx(h:p:=by simp[go_sem,d28]):p:=h
theorem LV(h:p:=by simp[go_sem,d26]):p:=h
theorem tx(h:p:=by simp[h0]):p:=h
theorem Dk(h:p:=by rw[<-xQ.out]):p:=h
theorem Fk(h:p:=by simpa using hlt):p:=h
theorem Kk(h:p:=by simp[go_sem,d2]):p:=h
theorem Li(h:p:=by rw[he];exact hk):p:=h
theorem MV(h:p:=by rw[AT.out.1,hp]):p:=h
theorem za(h:p:=by rw[h2];simp):p:=h
theorem AB(h:p:=by simp[I4.v]):p:=h
theorem Bt(h:p:=by rw[Uv.out]):p:=h
theorem uB(h:p:=by simp[hx]):p:=h
theorem xM(h:p:=by simp[h5]):p:=h
theorem hM(h:p:=by rfl):p:=h
theorem En{α}(a:α):∃b,b=a:=⟨a,rfl⟩
theorem Jo{α}(a:α):∃b,a=b:=⟨a,rfl⟩
@[reducible]def El(w w':M):Prop:=Io w.heap.size w w'
theorem U{α:Sort _}{a:α}:a=a:=rfl
theorem Ib[Decidable p](h:p):decide p=true:=decide_eq_true h
theorem IJ[Decidable p](h:¬p):decide p=false:=decide_eq_false h
theorem Elg(h:p:=by go_wp2_with (with_reducible refine wA f_ (Ev.mk ?_));apply Eo;have K2:=O<|H.new w JB 298;have BB:=O<|Ep w (EJ JB 298);have l1:w.heap.size<(w.alloc (EJ JB 298)).heap.size:=Eh;generalize w.alloc (EJ JB 298)=w1 at*;go_wp2_with fail;refine(CN.out _).mono ?_;rintro e w2 ⟨v,rfl,⟨gb,rfl,lb,kb⟩,b2⟩;replace K2:=O<|K2.out.G b2;replace BB:=EW BB b2;have O1:=O<|iO d gb;have Ur:Ea ((IF d gb).size=5):=O U;have HB:Ea (∀W:M,Zd W d gm gb->FV W w.heap.size gm d (EZ (IF d gb))):=O fun W h=>⟨gb,U,X,h⟩;generalize IF d gb=fv at*;clear b2 CN;go_wp2_with (with_reducible refine wS (cs:=fv) XF K2 ?_ (hn:=Ur.out) (h1:=O1.out));refine ET (v:=EZ fv) (Jl XF U _ _ (w.heap.size) _ U (K2.out.setRow _) Ur.out) U ⟨_,U,HB.out _ (H.setRow_other kb _ _ X),E3 BB.out X _⟩):p:=h
theorem Elh(h:p:=by rw[<-Ia];have oE:=TS;clear TS TO OZ;have TS:Ea (JF.size=4):=O fC;have TO:Ea (JF.all (·.oneCell')=u):=O fD;have OZ:=O Ia;clear Ia;have OW:=O<|X9 W2 w.heap.size;go_wp2_with (with_reducible refine wS (cs:=JF) OJ K3 (Ev.mk ?_) (ho:=oI) (hn:=TS.out) (h1:=TO.out));apply Eo;have hne:w.heap.size≠(w.heap.size+1):=X;replace OW:=O<|aF OW.out K3.out JF;replace JU:=O<|E3 JU.out (X:w.heap.size<=(w.heap.size+1)) JF;replace K2:=O<|(On JF).Ek K2.out hne;replace K3:=O<|K3.out.setRow JF;clear hne;generalize W2.setRow (w.heap.size+1) JF=V2 at*;go_wp2_with (with_reducible first|refine wL OJ K3 ?_ (hn:=TS.out)|refine wS (cs:=JF) OJ K2 ?_ (hn:=TS.out) (h1:=TO.out));refine ET (Jl OJ U _ _ w.heap.size JF U (K2.out.setRow JF) TS.out) U ?_;rw[OZ.out,HF.out];exact⟨⟨_,U,_,_,U,aF OW.out K2.out _⟩,E3 JU.out (E7 _) _⟩):p:=h
theorem Eli(h:p:=by refine CF.out.mono ?_;rintro x W2 ⟨rfl,b2⟩;replace K0:=O<|K0.out.G b2;replace K1:=O<|K1.out.G b2;replace K3:=O<|K3.out.G b2;replace K5:=O<|K5.out.G b2;replace BB:=EW BB b2;clear b2 CF;go_wp2_with (with_reducible first|refine wL EV K1 ?_|refine wS (cs:= #[E I h,E I e,E I o,E I oa,E I om,E I la,E I lm,Ec b]) EV K5 ?_ (h1:=Us));refine ET (UM EV U _ _ (w.heap.size+1+1+1+1+1) _ _ U U (K5.out.setRow _) U) U ⟨?_,E3 (g:=w.heap.size+1+1+1+1+1) BB.out X _⟩;rw[HE.out];rfl):p:=h
theorem Elj(h:p:=by have t1':decide ((i:Int)<(n:Int))=u:=Ib X;obtain⟨x,hx⟩: ∃x,GQ[i]?=D x:=⟨GQ[i]'(by rw[l_.out];exact hlt),Ok _⟩;obtain⟨gg,cur,rfl,ka,dQ⟩:=wV OA.out hx l_.out;have KA:=O ka;have dR:=O dQ;clear ka dQ hx;have K0:=O<|H.new wr #[E I 0,E I 0,E I 0,E I 0] 133;have b2:=Ep wr (EJ #[E I 0,E I 0,E I 0,E I 0] 133);go_wp2_with (with_reducible first|refine wM (off:=i*4) (cs:= #[E I x.s,E I x.r,E I x.a,E I x.m]) jR KA ?_ (he:=dR.out)|refine wA wW ?_|refine wS (cs:= #[E I x.s,E I x.r,E I x.a,E I x.m]) jR K0 (Ev.mk ?_) (h1:=Us));apply Eo;obtain⟨gx,hgx⟩:=En wr.heap.size;rw[<-hgx] at K0⊢;generalize wr.alloc (EJ #[E I 0,E I 0,E I 0,E I 0] 133)=Xz at*;have KX:=O<|K0.out.setRow #[E I x.s,E I x.r,E I x.a,E I x.m];have b3:=E3 (g:=gx) b2 (OQ hgx.symm) #[E I x.s,E I x.r,E I x.a,E I x.m];generalize Xz.setRow gx #[E I x.s,E I x.r,E I x.a,E I x.m]=Jx at*;clear K0 b2 hgx KA dR;replace S1:=O<|S1.out.G b3;replace MM:=O<|MM.out.trans (Ex.Ew b3);replace OA:=O<|ER OA.out fun _ _ h=>H.G h b3;clear b3;have cx:Jx.cell? ⟨gx,0,Z⟩=D (E I x.s):=(H.cell KX.out 0).trans U;go_wp2_with fail;refine(pY lo hi g gc gq gt gs _ (ns+m2+m3) _ x.s x.s 30 _ S1.out DJ).mono ?_;rintro e16 w16 ⟨rfl,⟨m16,iS,s16⟩,aB⟩;replace S1:=O s16;replace MM:=O<|MM.out.trans aB;replace KX:=O<|aB.Ek KX.out Eb Eb;replace OA:=O<|ER OA.out fun _ _ h=>aB.Ek h Eb Eb;have xO:=O iS;clear s16 aB iS cx;have cx:jx _ ⟨gx,0,Z⟩=D (E I x.s):=(H.cell KX.out 0).trans U;go_wp2_with fail;refine(ZC lo hi g gc gq gt gs _ _ _ 12 x.s 0 30 0 _ S1.out DO).mono ?_;rintro e17 nY ⟨rfl,xc,qR⟩;have S8:=O xc;replace MM:=O<|MM.out.trans qR;replace OA:=O<|ER OA.out fun _ _ h=>qR.Ek h Eb Eb;clear xc qR cx KX;have Egh:=lY.out;go_wp2_with fail;refine⟨⟨i+1,m3+m16,n3++[⟨12,x.s,0,t2.e,30,0⟩],X,Eh,Yf,Yg,?_,MM.out,base,OA.out⟩,Jv⟩;rw[<-js,<-U9,<-U9];have h:=S8.out;rw[<-U9] at h;exact h):p:=h
theorem Elk(h:p:=by go_wp2_with fail;refine(CF.out _).mono ?_;rintro e w1 ⟨v,rfl,⟨gb,rfl,lb,kb⟩,b1⟩;have FB:Ea (El w (w1.alloc (EJ (E4 [(Ii,gb)]).toArray 298))):=O<|b1.alloc b1.size _;have FK:Ea (Xx (w1.alloc (EJ (E4 [(Ii,gb)]).toArray 298)) w.heap.size w1.heap.size gm [(Ii,gb)]):=O (ao (H.new w1 _ 298) (fun i hi=>by have:i=0:=Ug;subst this;exact⟨lb,H.alloc kb _⟩) b1.size);clear b1 c0 CF kb;unfold IF;go_wp2_with fail;go_ret2;exact⟨_,_,_,U,U,FK.out,FB.out⟩):p:=h
theorem Ell(h:p:=by simp only[Ir,Im,IL,IG,EL,In,Ip,Ig,Ih];rw[dt,e];have FK:=O<|ao kk bx lg;have FB:=EW BB hb;replace m:=O m;clear hr hb dt e kk bx;go_wp2_with fail;go_ret2;exact⟨gl,_,fs,U,m.out,FK.out,FB.out⟩):p:=h
theorem Elm(h:p:=by rw[show(t5,vW).fst.a=EZ Z3 from qk];have fk:=O fk;have ly:=O ly;have Ld:=O qk;have Bw:=O h50;clear qk h50 hg;go_wp2_with (((with_reducible refine JE 109 ?_);(with_reducible refine X7 (g:=OV) (cs:=Z3) EV ?_ ?_ KB ?_ ?_ ?_ ?_);(·exact Ei U);(·exact⟨U,U,U⟩);(·exact RS.out);(·exact fk.out);(·exact ly.out);refine Ev.mk ?_));apply Eo;have vY:=O<|KB.out.setRow Z3;have v_:=O<|H.setRow_other KR.out OV Z3 (Zr tI.out);have wE:=O<|Q1.out.Xh Z3 KB.out Eb Eb;have wI:=O<|MM.out.Xi Z3 cM.out lw.out KB.out Eb Eb;clear KB KR Q1 MM KT;have KB:=vY;have KR:=v_;have Q1:=wE;have MM:=wI;clear vY v_ wE wI;generalize w9.setRow OV Z3=UD at*;go_wp2_with (first|((with_reducible refine U0 109 ?_);(with_reducible refine Zo (g:=OV) EV ?_ ?_ KB ?_ ?_);(·exact Ei rfl);(·exact⟨rfl,rfl⟩);(·exact fk.out))|((with_reducible refine JE 109 ?_);(with_reducible refine X7 (g:=gk+1) (cs:=Z3) EV ?_ ?_ KR ?_ ?_ ?_ ?_);(·exact Ei rfl);(·exact⟨rfl,rfl,rfl⟩);(·rfl);(·exact fk.out);(·exact ly.out)));refine ET (UM EV U _ _ (gk+1) Z3 (E I 5) U U (KR.out.setRow _) fk.out) U ?_;refine⟨⟨t5,5,L',congrArg (fun v=>Eg (Et #[v,E I 5])) Ld.out.symm,(by rw[cL.out];exact .inr (.inr ⟨U,h4,Bv,4,X,X,fun e4=>h4 e4.symm,Bw.out.2⟩)),SQ.out,?_⟩,MM.out.Xi _ bv lw.out KR.out Eb Eb⟩;exact Q1.out.Xh _ KR.out Eb Eb):p:=h
theorem Eln(h:p:=by go_wp2;go_ret;exact⟨U,by(repeat (first|exact IE _ _|(refine JH ?_ Iu _)|(refine JK ?_ Iu _)))⟩):p:=h
theorem Elo(h:p:=by intro _ hw';obtain⟨y9,rfl⟩:=hw';have Em:=ED y9;replace KX:=EQ KX Em;replace S1:=O<|S1.out.G Em;replace MM:=O<|MM.out.trans (Ex.Ew Em);replace OA:=O<|ER OA.out fun _ _ h=>H.G h Em;clear y0 Ma yx Em;generalize Ey Jx y9=cW at*;go_wp2_with fail;refine(qI lo gq _ (pn g 48) x.s _ S1.out.core.lq S1.out.core.Z2 S1.out.core.ok.q).mono ?_;rintro e15 L0 ⟨⟨b15,rfl⟩,⟨L3,xE,xI⟩,m15⟩;have xJ:=S1.out.core.ok.sub xI;replace S1:=O<|S1.out.gH m15 L3 xE xJ;replace MM:=O<|MM.out.trans (m15.jB hi);replace KX:=O<|m15.Ek KX.out Eb Eb;replace OA:=O<|ER OA.out fun _ _ h=>m15.Ek h Eb Eb;clear m15 xE xI xJ;have cx:jx _ ⟨gx,0,Z⟩=D (E I x.s):=(H.cell KX.out 0).trans U;go_wp2_with fail;refine(pY lo hi g gc gq gt gs _ (ns+m+m2) _ x.s 4 29 _ S1.out WL).mono ?_;rintro e16 w16 ⟨rfl,⟨m16,iS,s16⟩,aB⟩;have S8:=O s16;replace MM:=O<|MM.out.trans aB;replace OA:=O<|ER OA.out fun _ _ h=>aB.Ek h Eb Eb;have xO:=O iS;clear s16 aB iS cx;have Kz:=qP.out;go_wp2_with fail;refine⟨⟨i+1,L3,m2+m16,X,Eh,WM,?_,MM.out,base,OA.out⟩,Jv⟩;rw[show ns+m+(m2+m16)=ns+m+m2+m16 from X];exact S8.out):p:=h
theorem Elp(h:p:=by go_enter Tryz.func170,Tryz.ntmps170;go_wp2_with fail;refine O9 4 ?_;(iterate 2 rw[Ic];go_wp2_with fail);(iterate 2 rw[Ic];go_wp2_with fail);go_ret;exact⟨U,U⟩):p:=h
theorem Elq(h:p:=by have d2:v 2=Y (D ⟨gm,1,Z⟩):=hd.at 2 rfl;refine Ot (f:=203) (args:= #[v 2]) (Ei U) Ez ?_;rw[d2];exact(ig gm 1 w').mono fun e w'' ⟨v,he,⟨gb,e2,lb,kb⟩,hb'⟩=>⟨v,he,hb',gb,e2,EA (EA BB.out.size hb.size) lb,kb⟩):p:=h
theorem Elr(h:p:=by intro _ hw';obtain⟨y9,rfl⟩:=hw';have Em:=ED y9;replace S1:=O<|S1.out.G Em;replace MM:=O<|MM.out.trans (Ex.Ew Em);clear y0 Em KG Xm iK PL XO CN;generalize Ey fu y9=dP at*;have TH:=O<|cV S1.out.core 11 rfl 12 wh;go_wp2_with ((with_reducible refine JE 50 ?_);(with_reducible refine OH U 50 _ _ U gc 102 p'.v.toArray ?_ ?_ ?_ ?_ ?_ ?_);(·rfl);(·rfl);(·exact TH.out);(·exact iC.2);(·simp[Pt.v,OC]);refine Ev.mk ?_);apply Eo;have S4:=S1.out.iB p' (S1.out.core.ok.iB iD.out);replace S1:=O S4.1;replace MM:=O<|MM.out.trans S4.2;clear S4 TH;change IZ _ _ _ _ _ (dP.setCells gc 102 p'.v);generalize dP.setCells gc 102 p'.v=Yi at*;go_wp2_with fail;go_end0;have e1:ns+m2+m3+m4=ns+(m2+m3+m4):=X;have h8:=S1.out;rw[e1,U9] at h8;exact⟨U,⟨_,m2+m3+m4,_,Yj,Yk,h8,WW HT.out HT1.out (fun x hx=>jF _ (jF _ (Mf.out x hx))) (fun h=>Yl) T1 KQ Ya.out (fun x hx=>List.mem_append_right _ hx) mE.out p' Z1.out⟩,MM.out⟩):p:=h
theorem Els(h:p:=by go_wp2_with fail;go_ret;exact⟨U,U⟩):p:=h
theorem Elt(h:p:=by have d6:v 6=Y (D ⟨gm,4,Z⟩):=hd.at 6 rfl;refine Ot (f:=206) (args:= #[v 6]) (Ei U) Ez ?_;rw[d6];exact(px gm 4 w').mono fun e w'' ⟨v,he,⟨gb,e2,lb,kb⟩,hb'⟩=>⟨v,he,hb',gb,e2,EA (EA BB.out.size hb.size) lb,kb⟩):p:=h
theorem Elu(h:p:=by obtain rfl:p=0:=X;exact Es Ez U):p:=h
theorem Elv(h:p:=by go_wp2_with (first|((with_reducible refine Is 50 ?_);refine I3 rfl 183 _ rfl (EF (If 0)) jr ?_)|(with_reducible refine wS (cs:=(EF (If 0))) O_ K2 ?_ (ho:=JJ _) (hn:=JJ _) (h1:=ZY _)));refine ET (v:=Et #[EZ (EF (If 0)),E I 13]) (dy O_ U _ _ w.heap.size _ _ U U (K2.out.setRow _) (JJ _)) U ?_;exact PF.out _ _ U (H.setRow_other KT.out w.heap.size _ X) (ON.out.ZE (g2:=w.heap.size) (E7 _) (bI _) ON.out.size)):p:=h
theorem Elw(h:p:=by obtain rfl:p=0:=X;have d2:xv 2=Y (D ⟨gs,0,Z⟩):=hd.at 2 rfl;have cc:wq.cell? ⟨gs,0,Z⟩=D (Y (D ⟨gc,0,Z⟩)):=hp.2.1.IC;exact Es cE U):p:=h
theorem Elx(h:p:=by (repeat (first|exact IE _ _|(refine JH ?_ Iu _)|(refine JK ?_ Iu _)))):p:=h
theorem Ely(h:p:=by exact PF.out _ _ U (H.setRow_other KT.out w.heap.size _ X) (ON.out.ZE (g2:=w.heap.size) (E7 _) (bI _) ON.out.size)):p:=h
theorem Elz(h:p:=by exact IU EM (Ei U) Ez U):p:=h
theorem ElA(h:p:=by have B1:=O<|Ep w (EJ #[E I sz,E I lo,E I hi,.func (.func Y5) #[] #[gp],.func (.func S) #[] #[gp]] 298);have KB:=O<|H.new w #[E I sz,E I lo,E I hi,.func (.func Y5) #[] #[gp],.func (.func S) #[] #[gp]] 298;have HR:=O<|Iy hr B1.out;clear hr;go_enter Tryz.func209,Tryz.ntmps209;go_wp2_with fail;generalize w.alloc (EJ #[E I sz,E I lo,E I hi,.func (.func Y5) #[] #[gp],.func (.func S) #[] #[gp]] 298)=w1 at*;have cb:=fun j=>KB.out.cell j;refine(CT.out _ HR.out).mono ?_;rintro e w2 ⟨rfl,rfl⟩;go_wp2_with fail;refine(HS.out.call _ B1.out).mono ?_;rintro e w3 ⟨rfl,hq⟩;clear HE;go_wp2_with fail;go_ret;exact⟨U,_,B1.out,hq⟩):p:=h
theorem ElB(h:p:=by subst hcd;go_wp2_with fail;refine(qI lo gq L most s _ LQ.out Q1.out HL.out).mono ?_;rintro e6 w6 ⟨⟨bb,rfl⟩,⟨L',q6,sq⟩,m6⟩;replace Q1:=O q6;have SQ:=O sq;replace KR:=O<|m6.Ek KR.out Eb Eb;replace KB:=O<|m6.Ek KB.out Eb Eb;replace MM:=O<|MM.out.trans m6;clear m6 q6 sq;go_wp2_with (with_reducible first|refine wL EV KB ?_ (hn:=RS.out)|refine wS (cs:=rv) EV KR ?_ (hn:=RS.out) (h1:=RO.out));refine ET (jb EV U _ _ gr rv (E I 3) (E I 0) U U U (KR.out.setRow _) RS.out) U ?_;refine⟨⟨t2,3,0,Bt,.inr (.inl ⟨U,U,HG.out,L',SQ.out,Q1.out.Xh _ KR.out Eb Eb⟩)⟩,MM.out.Xi _ LR.out lw.out KR.out Eb Eb⟩):p:=h
theorem ElC(h:p:=by go_wp2_with (first|((with_reducible refine Is 5 ?_);refine I3 rfl 298 _ rfl fv BF.out ?_)|(with_reducible refine wS (cs:=fv) XF K8 ?_ (hn:=Ur.out) (h1:=O1.out)));refine ET (v:=EZ fv) (Jl XF U _ _ (w.heap.size+1) _ U (K8.out.setRow _) Ur.out) U ⟨_,U,HB.out _ (K4.out.setRow_other _ _ X),E3 BB.out X _⟩):p:=h
theorem ElD(h:p:=by go_ret;exact⟨U,U⟩):p:=h
theorem ElF(h:p:=by have c0:=hm.cell 0;rw[Zs _ _ X,if_neg X,hk] at c0;have CF:=O<|fun W=>GK gm 2 W;have BB:=O<|IE w.heap.size w;clear hm hk;go_enter ii,ij;go_wp2_with fail;refine(CF.out _).mono ?_;rintro e w1 ⟨v,rfl,⟨gb,rfl,lb,kb⟩,b1⟩;have FB:Ea (El w (w1.alloc (EJ (E4 [(Xf,gb)]).toArray 298))):=O<|b1.alloc b1.size _;have FK:Ea (Xx (w1.alloc (EJ (E4 [(Xf,gb)]).toArray 298)) w.heap.size w1.heap.size gm [(Xf,gb)]):=O (ao (H.new w1 _ 298) (fun i hi=>by have:i=0:=Ug;subst this;exact⟨lb,H.alloc kb _⟩) b1.size);clear b1 c0 CF kb;unfold IF;go_wp2_with fail;go_ret2;exact⟨_,_,_,U,U,FK.out,FB.out⟩):p:=h
theorem ElG(h:p:=by have t9:(cd !=0)=u:=dF;have vR:=O hcd;clear hcd;go_wp2_with fail;refine(ql gk tv TS.out TO.out cd _ KT.out).mono ?_;rintro e7 w7 ⟨rfl,b7⟩;replace KT:=EQ KT b7;replace KR:=EQ KR b7;replace KP:=EQ KP b7;replace Q1:=O<|Q1.out.G b7;replace MM:=O<|MM.out.trans (Iz.Ew b7 (EA lw.out MM.out.bel.size));clear b7;go_wp2_with (with_reducible refine wS (cs:=tv) EV KR ?_ (hn:=TS.out) (h1:=TO.out));refine ET (jb EV U _ _ gr tv (E I 0) (E I cd) U U U (KR.out.setRow _) TS.out) U ?_;refine⟨⟨t,0,cd,bu,.inl ⟨vR.out,U,U,Q1.out.Xh _ KR.out Eb Eb⟩⟩,MM.out.Xi _ LR.out lw.out KR.out Eb Eb⟩):p:=h
theorem ElH(h:p:=by obtain⟨gl,fs,e,m,lg,bx,kk⟩:=h;exact⟨gl,fs,e,m,lg,bx.G hb,kk.G hb⟩):p:=h
theorem ElK(h:p:=by clear b1 c0 CF kb;unfold IF;go_wp2_with fail;go_ret2;exact⟨_,_,_,U,U,FK.out,FB.out⟩):p:=h
theorem ElL(h:p:=by obtain rfl:p=0:=X;have d3:xv 3=Y (D ⟨gc,0,Z⟩):=hd.at 3 rfl;exact Es cI U):p:=h
theorem ElM(h:p:=by obtain rfl:p=0:=X;have d1:xv 1=Y (D ⟨gs,0,Z⟩):=hd.at 1 rfl;exact Es Xw U):p:=h
theorem ElN(h:p:=by obtain rfl:p=0:=X;have d0:xv 0=Y (D ⟨gs,0,Z⟩):=hd.at 0 rfl;exact Es U4 U):p:=h
theorem ElP(h:p:=by have B1:=O<|Ep w (EJ #[E I sz,E I lo,E I hi,.func (.func Y5) #[] #[gp],.func (.func S) #[] #[gp]] 298);have KB:=O<|H.new w #[E I sz,E I lo,E I hi,.func (.func Y5) #[] #[gp],.func (.func S) #[] #[gp]] 298;have HR:=O<|Iy hr B1.out;clear hr;go_enter Tryz.func209,Tryz.ntmps209;go_wp2_with fail;generalize w.alloc (EJ #[E I sz,E I lo,E I hi,.func (.func Y5) #[] #[gp],.func (.func S) #[] #[gp]] 298)=w1 at*;have cb:=fun j=>KB.out.cell j;refine(CT.out _ HR.out).mono ?_;rintro e w2 ⟨rfl,rfl⟩;go_wp2_with fail;go_ret;exact⟨U,B1.out⟩):p:=h
theorem ElQ(h:p:=by have d5:v 5=Y (D ⟨gm,0,Z⟩):=hd.at 5 rfl;exact IU EM (Ei U) dq U):p:=h
theorem ElR(h:p:=by have d4:v 4=Y (D ⟨gm,0,Z⟩):=hd.at 4 rfl;exact IU EM (Ei U) XR U):p:=h
theorem ElS(h:p:=by have d1:v 1=Y (D ⟨gm,0,Z⟩):=hd.at 1 rfl;exact IU EM (Ei U) Xw U):p:=h
theorem ElT(h:p:=by have d0:v 0=Y (D ⟨gm,0,Z⟩):=hd.at 0 rfl;exact IU EM (Ei U) U4 U):p:=h
theorem ElV(h:p:=by have HL2:=O hl2;clear hl2 hx;go_wp2_with fail;refine CP.out.mono ?_;rintro e w9 ⟨rfl,az,o9⟩;replace TT:=O<|TT.out.trans (Jc.ls o9);replace K:=O<|o9.Ek K.out Jg.out.symm;go_wp2_with fail;go_ret;exact⟨⟨_,U⟩,⟨ZF,x,HP.out,HL2.out,Ln.cut K.out,az⟩,TT.out⟩):p:=h
theorem ElW(h:p:=by have r3:=Iy r2 BB;generalize hxs:ps[i]=xs at*;generalize hys:(ps.take i).flatten=ys at*;obtain⟨k,hk⟩:=Jo xs.length;rw[hk] at ck hle;rw[hn] at hle;have zW:=O hn;have zY:=O hk;have a_:=O ho;have Jw:=O BB;have R3:=O r3;have HST:=O hst;clear hn hk ho BB r3 r2 e2 hst hxs hys;go_wp2_with ((at_builtin;refine us _ U (.tmp 12) (.tmp 13) U w.heap.size A d n ys zW.out U a_.out Y4 c2 k xs zY.out U R3.out X Jw.out.size ?_;intro A1 m_ w4 o1 b4));exact⟨⟨i+1,A1,m_,n+k,X,Eh,U,Q3,by rw[HST.out];exact o1,Jw.out.trans b4⟩,Jv⟩):p:=h
theorem ElY(h:p:=by intro _ hw';obtain⟨y8,rfl⟩:=hw';have Em:=ED y8;replace KT:=O<|KT.out.G Em;replace ON:=O<|ON.out.trans (EH.Ew Em);clear Em;generalize Ey w5 y8=w6 at*;have KF:=O<|TP.out w6 KT.out;replace ON:=O<|ON.out.trans (Jq (g:=g) sv 81 w6);replace TH:=O<|TH.out w6 KT.out;go_wp2_with ((with_reducible refine JE 160 ?_);(with_reducible refine OH U 160 _ _ U g 81 sv.toArray ?_ ?_ ?_ ?_ ?_ ?_);(·rfl);(·rfl);(·rw[SZ.out];exact TH.out);(·rw[SZ.out];exact Zv.2);(·exact S1.out));go_ret;exact⟨U,KF.out,ON.out⟩):p:=h
theorem El0(h:p:=by intro _ hw';obtain⟨y8,rfl⟩:=hw';have Em:=ED y8;replace KT:=O<|KT.out.G Em;replace ON:=O<|ON.out.trans (EH.Ew Em);clear Em;generalize Ey w5 y8=w6 at*;have KF:=O<|TP.out w6 KT.out;replace ON:=O<|ON.out.trans (Jq (g:=g) sv 42 w6);replace TH:=O<|TH.out w6 KT.out;go_wp2_with ((with_reducible refine JE 160 ?_);(with_reducible refine OH U 160 _ _ U g 42 sv.toArray ?_ ?_ ?_ ?_ ?_ ?_);(·rfl);(·rfl);(·rw[SZ.out];exact TH.out);(·rw[SZ.out];exact Zv.2);(·exact S1.out));go_ret;exact⟨U,KF.out,ON.out⟩):p:=h
theorem El1(h:p:=by intro _ hw';obtain⟨y8,rfl⟩:=hw';have Em:=ED y8;replace KT:=O<|KT.out.G Em;replace ON:=O<|ON.out.trans (EH.Ew Em);clear Em;generalize Ey w5 y8=w6 at*;have KF:=O<|TP.out w6 KT.out;replace ON:=O<|ON.out.trans (Jq (g:=g) sv 3 w6);replace TH:=O<|TH.out w6 KT.out;go_wp2_with ((with_reducible refine JE 160 ?_);(with_reducible refine OH U 160 _ _ U g 3 sv.toArray ?_ ?_ ?_ ?_ ?_ ?_);(·rfl);(·rfl);(·rw[SZ.out];exact TH.out);(·rw[SZ.out];exact Zv.2);(·exact S1.out));go_ret;exact⟨U,KF.out,ON.out⟩):p:=h
theorem El2(h:p:=by intro _ hw';obtain⟨y9,rfl⟩:=hw';have Em:=ED y9;replace S1:=O<|S1.out.G Em;replace MM:=O<|MM.out.trans (Ex.Ew Em);clear y0 wT Em;generalize Ey wr y9=fu at*;go_wp2_with fail;refine(BY lo hi g gc gq gt gs _ _ _ md ⟨2,4,0⟩ _ S1.out tz.out ME).mono ?_;rintro e21 dP ⟨rfl,iR,m21⟩;have S8:=O iR;replace MM:=O<|MM.out.trans m21;clear iR m21;go_wp2_with fail;go_end0;exact⟨U,⟨_,m+m2,new,WN,WP,.inr ⟨U,L2,t2,md,S8.out.core.ok.tok,HO.out.1,HO.out.2,U,wY.out⟩⟩,MM.out⟩):p:=h
theorem El3(h:p:=by intro _ hw';obtain⟨y9,rfl⟩:=hw';have Em:=ED y9;replace KT:=O<|KT.out.G Em;replace K7:=O<|K7.out.G Em;replace ON:=O<|ON.out.trans (EH.Ew Em);clear c1 KX CO CM Em;generalize Ey w1 y9=w2 at*;go_wp2_with fail;go_ret;exact⟨U,KT.out,ON.out⟩):p:=h
theorem El4(h:p:=by refine CF.out.mono ?_;rintro x W2 ⟨rfl,b2⟩;replace K3:=O<|K3.out.G b2;replace K4:=O<|K4.out.G b2;replace K5:=O<|K5.out.G b2;replace K6:=O<|K6.out.G b2;replace BB:=EW BB b2;clear b2 CF;go_wp2_with (with_reducible first|refine wL EV K3 ?_|refine wS (cs:= #[E I h,E I e,E I o,E I oa,E I om,E I la,E I lm,Ec b]) EV K6 ?_ (h1:=Us));refine ET (UM EV U _ _ (w.heap.size+1+1+1) _ _ U U (K6.out.setRow _) U) U ⟨?_,E3 (g:=w.heap.size+1+1+1) BB.out X _⟩;rw[HE.out];rfl):p:=h
theorem El5(h:p:=by exact(uV gm 3 w').mono fun e w'' ⟨v,he,⟨gb,e2,lb,kb⟩,hb'⟩=>⟨v,he,hb',gb,e2,EA (EA BB.out.size hb.size) lb,kb⟩):p:=h
theorem El6(h:p:=by have g2:v 2=Ec B:=hd.at 2 rfl;exact IU EM (Z7 U U (congrArg D g2)) Ez U):p:=h
theorem El7(h:p:=by intro ev o w ho;unfold Iw;simp only[ho];kernel_rfl):p:=h
theorem El8(h:p:=by obtain rfl:p=0:=X;have d4:xv 4=Y (D ⟨gc,0,Z⟩):=hd.at 4 rfl;exact Es XR U):p:=h
theorem El9(h:p:=by have g2:v 2=Ec B:=hd.at 2 rfl;have d3:v 3=EI A (m+8) c:=hd.at 3 rfl;obtain⟨A',d',d9,r9⟩: ∃A' d',v 9=EI A' (m+8) d'/\Row w' A' (bd++tg):=hd.at 9 rfl;refine Ot (f:=168) (args:= #[v 3,v 9]) (Z7 U U (congrArg D g2)) Ez ?_;rw[d3,d9];refine(z5 A A' xs (bd++tg) (m+8) (m+8) c d' w' HM.out pw.out (HR.out.G (bt BB.out hb)) r9 X X).mono fun e w'' ⟨he,hw⟩=>⟨_,he,by subst hw;exact IE _ _,?_⟩;rw[SM.out];rfl):p:=h
theorem El_(h:p:=by have:j∈UX ops listed:=fR.2 ⟨hj,hc⟩;rw[List.length_eq_zero_iff.1 (Nat.le_zero.1 hf)] at this;cases this):p:=h
theorem EmE(h:p:=by obtain rfl:p=0:=X;have d9:xv 9=Y (D ⟨gs,0,Z⟩):=hd.at 9 rfl;have cc:wq.cell? ⟨gs,0,Z⟩=D (Y (D ⟨gc,0,Z⟩)):=hp.2.1.IC;exact Es wl U):p:=h
theorem EmI(h:p:=by have K:=O K;have HC:=O HC;have Jg:=O hne;clear hne;go_enter Tryz.func188,Tryz.ntmps188;go_wp2_with fail;refine O9 1 ?_;rw[Ic];go_wp2_with fail;go_end0;exact⟨U,⟨_,bh _,K.out⟩,EH.refl _ _⟩):p:=h
theorem EmJ(h:p:=by obtain⟨g,A,d3,k3,r3⟩: ∃g A,v 3=EI (D ⟨g,0,Z⟩) 2 2/\H w' g #[EI A 64 64,EI (D ⟨g7,0,Z⟩) 32 32] 23/\Row w' A x2:=hd ⟨3,.data⟩ Eh U;refine rG (f:=243) (args:= #[v 3]) (Ei U) Ez ?_;rw[d3];exact(z4 g 2 A (D ⟨g7,0,Z⟩) 64 32 64 32 x2 s1 w' nX.out kR.out k3 r3 (aR (K7.out.G hb) pu.out) X).mono fun e w'' ⟨⟨A1,d1,he,o1⟩,hb'⟩=>⟨_,he,hb',_,_,U,o1.row⟩):p:=h
theorem EmO(h:p:=by rintro e7 w7 ⟨rfl,s7,m7⟩;have S8:=O s7;replace MM:=O<|MM.out.trans m7;clear s7 m7;go_wp2_with fail;refine ET (U1 U _ _ _) U ?_;exact⟨U,⟨c,0,1,_,X,S8.out,.inl U⟩,MM.out⟩):p:=h
theorem EmU(h:p:=by obtain⟨g,d1,r1⟩: ∃g,v 1=EI (D ⟨g,0,Z⟩) 64 64/\Row w' (D ⟨g,0,Z⟩) x2:=hd ⟨1,.data⟩ Eh U;have d2:v 2=_:=hd ⟨2,.data⟩ Eh U;refine PU (v:=EI (D ⟨w'.heap.size,0,Z⟩) 2 2) (w':=w'.alloc (EJ #[EI (D ⟨g,0,Z⟩) 64 64,EI (D ⟨g7,0,Z⟩) 32 32] 23)) (Ei U) (by simp[go_sem,d1,d2]) (Ep _ _) ⟨_,_,U,H.new _ _ _,Iy r1 (Ep _ _)⟩):p:=h
theorem EmX(h:p:=by exact IU EM (Ei U) jp ⟨gl,fs,U,m,lg,bx,kk⟩):p:=h
theorem EmZ(h:p:=by have g2:v 2=Ec B:=hd.at 2 rfl;have d4:v 4=EZ (Ej key):=hd.at 4 rfl;have d5:v 5=E I s:=hd.at 5 rfl;have d8:v 8=EI A m c:=hd.at 8 rfl;refine Ot (f:=171) (args:= #[v 4,v 5,v 8]) (Z7 U U (congrArg D g2)) Ez ?_;rw[d4,d5,d8];exact(CC.out w' (bt BB.out hb)).mono fun e w'' ⟨⟨A',d',he,o⟩,hb'⟩=>⟨_,he,hb',A',d',U,o.row⟩):p:=h
theorem Ema(h:p:=by obtain⟨rv,hw,cd,hpq,e25⟩: ∃(rv:Array V) (hw:Int) (cd:Int),PQ rv hw cd/\xv 25=Et #[EZ rv,E I hw,E I cd]:=hd.at 25 rfl;exact Es Ci ⟨rv,hw,cd,hpq,e25,U⟩):p:=h
theorem Emb(h:p:=by obtain rfl:k=n:=X;have t1:decide ((k:Int)<(k:Int))=B:=IJ X;go_wp2_with fail;go_ret;refine⟨?_,BB.out⟩;rw[hr.out];have:=HT.out;rw[UZ Bg] at this;rw[this];rfl):p:=h
theorem Emc(h:p:=by refine(CP.out _).mono ?_;rintro x w2 ⟨rfl,b2⟩;replace K4:=O<|K4.out.G b2;replace BB:=EW BB b2;clear b2;go_wp2_with (with_reducible refine wS (cs:=r) EV K4 ?_ (hn:=SR.out) (h1:=OR.out));refine ET (Jl EV U _ _ (w.heap.size+1) r U (K4.out.setRow r) SR.out) U ⟨U,?_⟩;exact E3 (g:=w.heap.size+1) BB.out X r):p:=h
theorem Emd(h:p:=by have t9:(cd !=0)=u:=dF;go_wp2_with fail;refine(iw lo hi g gc gq gt gs _ ns rs k v1 cd _ S1.out Ob JS).mono ?_;rintro e7 w7 ⟨rfl,s7,m7⟩;have S8:=O s7;replace MM:=O<|MM.out.trans m7;clear s7 m7;go_wp2_with fail;refine ET (U1 U _ _ _) U ?_;exact⟨U,⟨_,1,_,X,S8.out,L',.inl ⟨cd,U,U⟩⟩,MM.out⟩):p:=h
theorem Emf(h:p:=by unfold Uj;go_enter Tryz.func140,Tryz.ntmps140;go_wp2_with fail;refine ET zX U ⟨U,?_⟩;exact J9 _ _ _):p:=h
theorem Emg(h:p:=by intro j hj;simp only[List.mem_range'_1] at hj;have hjn:j<ops.size:=X;exact fR.2 ⟨hjn,ht j hj.1 hjn⟩):p:=h
theorem Emh(h:p:=by obtain rfl:p=0:=X;have d11:xv 11=Y (D ⟨gc,0,Z⟩):=hd.at 11 rfl;exact Es dK U):p:=h
theorem Emi(h:p:=by obtain rfl:p=0:=X;have d10:xv 10=Y (D ⟨gc,0,Z⟩):=hd.at 10 rfl;exact Es dl U):p:=h
theorem Emj(h:p:=by have:=kO (l.take m) 0 i x a0 o v hnd (htk i o hi ho);rw[JV] at this;exact this):p:=h
theorem Emk(h:p:=by exact⟨⟨_,U,_,_,U,aF OW.out K2.out _⟩,E3 JU.out (E7 _) _⟩):p:=h
theorem Eml(h:p:=by refine ET (UM EV U _ _ (gk+1) rv (E I 5) U U (KR.out.setRow _) RS.out) U ?_;refine⟨⟨t3,5,L',congrArg (fun v=>Eg (Et #[v,E I 5])) Uv.out.symm,(by rw[cL.out];exact .inr (.inr ⟨U,h4,Bv,jo.out⟩)),SQ.out,?_⟩,MM.out.Xi _ bv lw.out KR.out Eb Eb⟩;exact Q1.out.Xh _ KR.out Eb Eb):p:=h
theorem Emm(h:p:=by obtain rfl:p=0:=X;have d8:xv 8=Y (D ⟨gs,0,Z⟩):=hd.at 8 rfl;exact Es gd U):p:=h
theorem Emn(h:p:=by obtain rfl:p=0:=X;have d7:xv 7=Y (D ⟨gs,0,Z⟩):=hd.at 7 rfl;exact Es gh U):p:=h
theorem Emo(h:p:=by replace K4:=O<|K4.out.G hb;replace BB:=EW BB hb;replace AL:=O AL;clear hr hb d5 ea;go_wp2_with (with_reducible refine wS (cs:=Ej ans) J7 K4 ?_ (ho:=Xd) (hn:=Gq) (h1:=Xt _));refine ET (v:=EZ (Ej ans)) (Jl J7 U _ _ (w.heap.size) _ U (K4.out.setRow _) Gr) U ⟨U,E3 BB.out X _⟩):p:=h
theorem Emp(h:p:=by go_wp2_with fail;refine(iw lo hi g gc gq gt gs c ns rs k v1 cd _ S1.out Ob JS).mono ?_;rintro e7 w7 ⟨rfl,s7,m7⟩;have S8:=O s7;replace MM:=O<|MM.out.trans m7;clear s7 m7;go_wp2_with fail;refine ET (U1 U _ _ _) U ?_;exact⟨U,⟨_,1,_,X,S8.out,.inl ⟨cd,U,U⟩⟩,MM.out⟩):p:=h
theorem Emq(h:p:=by exact Es Ez U):p:=h
theorem Emr(h:p:=by refine ET (UM EV U _ _ (w.heap.size+1+1+1) _ _ U U (K6.out.setRow _) U) U ⟨?_,E3 (g:=w.heap.size+1+1+1) BB.out X _⟩;rw[HE.out];rfl):p:=h
theorem Ems(h:p:=by rintro e w' ⟨rfl,rfl⟩;go_wp2_with fail;refine(HH.out _ m1 m2).mono ?_;rintro e w' ⟨rfl,rfl⟩;go_wp2;go_ret;exact⟨U,Ep _ _⟩):p:=h
theorem Emt(h:p:=by rename_i hw;rw[if_pos hw] at st;refine .inl (Oper.wp_mono (fun a' w' h'=> ?_) st);obtain⟨v,rfl,hb',hv⟩:=h';exact next v w' hb' hv):p:=h
theorem Emu(h:p:=by have QM:=MM.out.trans (Jc.qE (Jc.aE o4) K.out KQ.out k4 nF lg LQ.out);go_wp2_with fail;go_end0;exact⟨U,⟨L4,_,cp,ZG,nF,OW⟩,QM⟩):p:=h
theorem Emv(h:p:=by obtain⟨A,d,d4,r4⟩: ∃A d,v 4=EI A 96 d/\Row w' A (x2++s1):=hd ⟨4,.data⟩ Eh U;refine rG (f:=82) (args:= #[v 4]) (Ei U) Ez ?_;rw[d4];exact(sb A (x2++s1) 96 d w' RI r4 X (RT.out.G (bt BB.out hb))).mono fun e w'' ⟨he,hb'⟩=>⟨_,he,hb',U⟩):p:=h
theorem Emw(h:p:=by go_wp2_with fail;refine ET (v:=EZ #[E I 0,E I 0,E I 0,EI Z 0 0]) Mp U ?_;rw[HF.out];exact⟨⟨_,U,tL _ _ dE U⟩,J9 _ _ _⟩):p:=h
theorem Emx(h:p:=by exact Q1.out.Xh _ KR.out Eb Eb):p:=h
theorem Emy(h:p:=by exact SS.out.via (fun k cs S hS hk=>ho.Ek hk (E5 hk OY.out ZU)) hb):p:=h
theorem Emz(h:p:=by exact⟨j,hj,fun k hk hk2=>h ⟨k,hk,hk2⟩⟩):p:=h
theorem EmA(h:p:=by go_wp2_with fail;exact⟨⟨k+1,X,Eh,uI,KT.out,KS.out,OR.out,BB.out,LW.out⟩,Jv⟩):p:=h
theorem EmB(h:p:=by generalize Ej key=kv at*;go_enter gU,gX;go_wp2_with fail;go_ret;exact⟨U,Ep w _⟩):p:=h
theorem EmC(h:p:=by replace hp:=O hp;go_enter Tryz.func211,Tryz.ntmps211;go_wp2_with fail;refine hp.out.mono ?_;rintro e w1 ⟨rfl,r1,b1⟩;replace r1:=O r1;replace b1:=O b1;clear hp h1;go_wp2_with fail;go_ret;exact⟨⟨_,U,r1.out⟩,b1.out⟩):p:=h
theorem EmD(h:p:=by exact Zq (Ei U) (lD _ _ _ U) (Ep wq _) ⟨wq.heap.size,_,U,hp.1,U,H.new _ _ _⟩):p:=h
theorem EmF(h:p:=by have d6:v 6=Y (D ⟨gm,5,Z⟩):=hd.at 6 rfl;refine Ot (f:=241) (args:= #[v 6]) (Ei U) Ez ?_;rw[d6];exact(Sz gm 5 w').mono fun e w'' ⟨v,he,⟨gb,e2,lb,kb⟩,hb'⟩=>⟨v,he,hb',gb,e2,EA (EA BB.out.size hb.size) lb,kb⟩):p:=h
theorem EmG(h:p:=by go_wp2_with (go_at_call 162;refine(pQ _ _ _ N1.out).mono ?_;rintro e w' ⟨rfl,rfl⟩);go_ret;exact⟨U,Ep _ _⟩):p:=h
theorem EmH(h:p:=by obtain rfl:p=0:=X;have d12:xv 12=Y (D ⟨gc,56,Z⟩):=hd.at 12 rfl;obtain⟨big,KB,UJ⟩:=bA hp.2.1.core;have EX:big.extract 56 (56+8)=Iq:=(UJ 1 c.tok.v U).trans Zb.out;exact aV EM EV (Ei U) ⟨U,d12⟩ KB Xk.out EX U):p:=h
theorem EmK(h:p:=by have EX:big.extract 56 (56+8)=Iq:=(UJ 1 c.tok.v U).trans Zb.out;exact aV EM EV (Ei U) ⟨U,d12⟩ KB Xk.out EX U):p:=h
theorem EmL(h:p:=by have EX:big.extract 56 (56+8)=Iq:=(UJ 1 c.tok.v U).trans Zb.out;exact aV EM EV (Ei U) ⟨U,d5⟩ KB Xk.out EX U):p:=h
theorem EmM(h:p:=by rw[mr];intro j hj;obtain⟨h1,o,ho,-⟩:=Uo.1 hj;have hjn:=(Jt.1 ho).1;rw[hl j hjn] at h1;simp at h1;omega):p:=h
theorem EmN(h:p:=by obtain⟨k,hk,hk2⟩:=h;exact fE k hk hk2):p:=h
theorem EmP(h:p:=by have K:=O K;have HC:=O HC;have Jg:=O hne;clear hne;go_enter Tryz.func187,Tryz.ntmps187;go_wp2_with fail;refine O9 1 ?_;rw[Ic];go_wp2_with fail;go_ret;exact⟨⟨_,U⟩,⟨_,bh _,K.out⟩,EH.refl _ _⟩):p:=h
theorem EmQ(h:p:=by obtain⟨i,h1,h2,h3,h4⟩:=bQ h;exact⟨i,h1,h2,h3,h4⟩):p:=h
theorem EmR(h:p:=by obtain rfl:p=0:=X;exact IQ JW.kept (Ei U) Ez U):p:=h
theorem EmS(h:p:=by refine⟨U,fun i h6 lI=> ?_⟩;have h:i=6\/i=7\/i=8\/i=9\/i=10\/i=11\/i=12\/i=13:=X;rcases h with rfl|rfl|rfl|rfl|rfl|rfl|rfl|rfl<;>exact(show(0:Int)<=0/\(0:Int)<=255 from⟨Eb,Eb⟩)):p:=h
theorem EmT(h:p:=by have g2:v 2=Ec B:=hd.at 2 rfl;have d6:v 6=EI A (m+8) c:=hd.at 6 rfl;have d7:v 7=E I (m:Int):=hd.at 7 rfl;exact IU EM (Z7 U U (congrArg D g2)) (GF _ (.tmp 18) (.tmp 19) U A (m+8) c m nf gh X) U):p:=h
theorem EmV(h:p:=by rw[mr];intro j hj;obtain⟨h1,o,ho,-⟩:=Uo.1 hj;have hjn:=(Jt.1 ho).1;rw[hall j hjn] at h1;cases h1):p:=h
theorem EmW(h:p:=by obtain rfl:p=0:=X;have d5:xv 5=Y (D ⟨gc,0,Z⟩):=hd.at 5 rfl;obtain⟨big,KB,UJ⟩:=bA hp.2.1.core;have EX:big.extract 0 (0+56)=pv:=Lr;exact aV EM XY (Ei U) ⟨U,d5⟩ KB wn.out EX U):p:=h
theorem EmY(h:p:=by rintro e7 w7 ⟨rfl,s7,m7⟩;have S8:=O s7;replace MM:=O<|MM.out.trans m7;clear s7 m7;go_wp2_with fail;refine ET (U1 U _ _ _) U ?_;exact⟨U,⟨c,1,7,_,X,S8.out,.inl U⟩,MM.out⟩):p:=h
theorem Em0(h:p:=by have d0:v 0=_:=hd ⟨0,.data⟩ Eh U;refine rG (f:=244) (args:= #[v 0,E IP 92]) (Ei U) Ez ?_;rw[d0];exact(C2.out w').mono fun e w'' ⟨he,hk,hb'⟩=>⟨_,he,hb',_,U,aR hk pq.out⟩):p:=h
theorem Em1(h:p:=by unfold EP.of;rw[if_pos X];show(if(T.EY 2).on then Y (D ⟨g,81,Z⟩) else Y Z)=_;rw[hon];rfl):p:=h
theorem Em2(h:p:=by unfold EP.of;rw[if_pos X];show(if(T.EY 1).on then Y (D ⟨g,42,Z⟩) else Y Z)=_;rw[hon];rfl):p:=h
theorem Em3(h:p:=by unfold EP.of;rw[if_pos X];show(if(T.EY 0).on then Y (D ⟨g,3,Z⟩) else Y Z)=_;rw[hon];rfl):p:=h
theorem Em4(h:p:=by have:=mA (fun i=> !(Zn l.toArray.size B).getD i u) (UA l.toArray.size);simpa[UX] using this):p:=h
theorem Em5(h:p:=by subst he;have hrun:=run_loadVar_mid w g off t _ d (World.rangeAt_of_block hg off n) hu oS Fy;rw[Array.toArray_toList] at hrun;unfold Iw;simp only[ho,hx,fN,dU,Ud,UU,Uf,hrun]):p:=h
theorem Em6(h:p:=by simp only[ho,hx,fN,dU,Ud,UU,Uf,hrun]):p:=h
theorem Em7(h:p:=by show(wr.setCell _ _).heap[_]?=_;rw[XM _ _ _ _ U3];exact HZ.out):p:=h
theorem Em8(h:p:=by show(wr.setCell _ _).heap[_]?=_;rw[XM _ _ _ _ U3];exact HP.out):p:=h
theorem Em9(h:p:=by show(wr.setCell _ _).heap[_]?=_;rw[XM _ _ _ _ U3];exact HN.out):p:=h
theorem Em_(h:p:=by have d2:v 2=E I s:=hd.at 2 rfl;refine Ot (f:=211) (args:= #[v 2,E I 1]) (Ei U) Ez ?_;rw[d2];exact(Aa s w').mono fun e w'' ⟨⟨g,he,r⟩,hb'⟩=>⟨_,he,hb',g,U,r⟩):p:=h
theorem EnE(h:p:=by intro _ hw';obtain⟨y9,rfl⟩:=hw';have Em:=ED y9;replace BB:=EW BB Em;clear Em ci cj;generalize Ey w1 y9=w2 at*;go_wp2_with fail;go_ret;refine⟨?_,BB.out⟩;simp):p:=h
theorem EnI(h:p:=by obtain rfl:p=0:=X;have d19:xv 19=Y (D ⟨gc,64,Z⟩):=hd.at 19 rfl;have cc:wq.cell? ⟨gc,64,Z⟩=D (Y (D ⟨gq,0,Z⟩)):=hp.2.1.core.cell 2 rfl 0 Eh;exact Es Ch U):p:=h
theorem EnJ(h:p:=by obtain rfl:p=0:=X;have d12:xv 12=Y (D ⟨gc,64,Z⟩):=hd.at 12 rfl;have cc:wq.cell? ⟨gc,64,Z⟩=D (Y (D ⟨gq,0,Z⟩)):=hp.2.1.core.cell 2 rfl 0 Eh;exact Es Cd U):p:=h
theorem EnO(h:p:=by rw[e] at hp;rw[e];clear e;go_enter Tryz.func252,Tryz.ntmps252;go_wp2_with (go_at_call 111;refine(hp.out).mono ?_;rintro e w' ⟨rfl,rfl⟩);go_ret2;exact⟨U,U⟩):p:=h
theorem EnU(h:p:=by exact IQ JW.kept (Ei U) Ez U):p:=h
theorem EnX(h:p:=by rw[List.getElem?_take,if_pos hi];simpa using ho):p:=h
theorem EnZ(h:p:=by obtain⟨rv,how,hpq,e23⟩: ∃(rv:Array V) (how:Int),PQ rv how/\xv 23=Et #[EZ rv,E I how]:=hd.at 23 rfl;exact Es (by simp[go_sem,e23]) ⟨rv,how,hpq,e23,U⟩):p:=h
theorem Ena(h:p:=by have EX:big.extract 0 (0+56)=pv:=Lr;exact aV EM XY (Ei U) ⟨U,d5⟩ KB wn.out EX U):p:=h
theorem Enb(h:p:=by obtain⟨rv,cd,hpq,e16⟩: ∃(rv:Array V) (cd:Int),PQ rv cd/\xv 16=Et #[EZ rv,E I cd]:=hd.at 16 rfl;exact Es (by simp[go_sem,e16]) ⟨rv,cd,hpq,e16,U⟩):p:=h
theorem Enc(h:p:=by have h5:i<listed.size:=X;simp[h5]):p:=h
theorem Enf(h:p:=by have h2:=hl e.on X;rw[Ib h1] at h2;have h3:e.on<listed.size:=X;simpa[h3] using h2):p:=h
theorem Eng(h:p:=by obtain rfl:p=1:=X;obtain⟨cd,e11,hpk⟩: ∃cd,xv 11=Et #[EZ tv,E I 0,E I cd]/\fm lo gq gr L most s rk 0 mp cd wq:=hd.at 11 rfl;exact IQ fl (Ei U) Lf U):p:=h
theorem Enh(h:p:=by obtain rfl:p=0:=X;have d17:xv 17=Y (D ⟨gc,0,Z⟩):=hd.at 17 rfl;exact Es wu U):p:=h
theorem Eni(h:p:=by have:=mA (fun i=> !(Zn ops.size B).getD i u) (UA ops.size);simpa[UX] using this):p:=h
theorem Enj(h:p:=by refine wpList_step fun K hK=> ?_;rw[if_pos hw];unfold ah;rw[hr];exact hK _ _ h):p:=h
theorem Enk(h:p:=by have:i=fs.length:=rB;subst this;rw[List.getElem_append_right (E7 _)];simp only[Nat.sub_self,List.getElem_cons_zero];exact⟨hgb,X_ h3 hbx (Ah d)⟩):p:=h
theorem Enl(h:p:=by obtain rfl:i=m:=X;rw[UZ Gn] at ho hn;subst hn;have a_:=O ho;have Jw:=O BB;clear ho BB;go_wp2_with fail;go_ret;exact⟨⟨_,_,U,a_.out⟩,Jw.out⟩):p:=h
theorem Enm(h:p:=by obtain rfl:p=0:=X;have d16:xv 16=Y (D ⟨gs,0,Z⟩):=hd.at 16 rfl;have cc:wq.cell? ⟨gs,0,Z⟩=D (Y (D ⟨gc,0,Z⟩)):=hp.2.1.IC;exact Es Lt U):p:=h
theorem Enn(h:p:=by obtain rfl:p=0:=X;have d12:xv 12=Y (D ⟨gs,0,Z⟩):=hd.at 12 rfl;have cc:wq.cell? ⟨gs,0,Z⟩=D (Y (D ⟨gc,0,Z⟩)):=hp.2.1.IC;exact Es Cd U):p:=h
theorem Eno(h:p:=by rw[eM] at f1;simp at f1;rw[h1,f2];simp[f1]):p:=h
theorem Enp(h:p:=by intro x w hw hx;have e:EL (l.take m) 0 x a0=EL (l.take m) 0 y a0:=rK _ 0 _ _ _ fun j _ hj=>hx j X;simp only[e];have:=hK w hw;simpa using this):p:=h
theorem Enq(h:p:=by obtain rfl:p=0:=X;have d7:xv 7=Y (D ⟨gc,65,Z⟩):=hd.at 7 rfl;have d5:xv 5=E I (k-1):=hd.at 5 rfl;exact IQ EM (Ei U) (qC U d7 d5 IX.out) U):p:=h
theorem Enr(h:p:=by obtain rfl:p=0:=X;have d2:xv 2=Y (D ⟨gs,0,Z⟩):=hd.at 2 rfl;have cc:wq.cell? ⟨gs,0,Z⟩=D (Y (D ⟨gc,0,Z⟩)):=hp.1.IC;exact Es cE U):p:=h
theorem Ens(h:p:=by rw[JV] at this;exact this):p:=h
theorem Ent(h:p:=by rw[if_pos hw];unfold ah;rw[hr];exact hc.mono fun e w' ⟨v,he,hb,h⟩=>Fp):p:=h
theorem Enu(h:p:=by exact⟨hp.1.only (On rv) kb X,hp.2.1.only (On rv) X X kb.lt,H.setRow_other hp.2.2.1 b rv (E5 hp.2.2.1 kb Eb),by simpa using hp.2.2.2⟩):p:=h
theorem Env(h:p:=by have:=ht m (E7 _) h;rw[hall m h] at this;cases this):p:=h
theorem Enw(h:p:=by have d26:xv 26=Et #[EZ Ux,EZ (Ej kv),E I cd]:=hd.at 26 rfl;exact Es LV U):p:=h
theorem Enx(h:p:=by obtain⟨rv,cd,hpq,e15⟩: ∃(rv:Array V) (cd:Int),PQ rv cd/\xv 15=Et #[EZ rv,E I cd]:=hd.at 15 rfl;exact Es Lm ⟨rv,cd,hpq,e15,U⟩):p:=h
theorem Eny(h:p:=by obtain⟨e,he,hb⟩:=List.any_eq_true.1 h;simp only[Oc,beq_iff_eq] at hb;have:=hd e (Array.mem_toList_iff.1 he) hb.1;rwa [hb.2] at this):p:=h
theorem Enz(h:p:=by rintro e w2 ⟨rfl,S2,M2⟩;go_wp2_with fail;go_end0;exact⟨U,S2,M2⟩):p:=h
theorem EnA(h:p:=by rw[hv];simp[bP,run_underlying bR,sizeOf,typeInfo,hi,Builtin.lenOf,Builtin.firstCells,hn];simp at hv;exact⟨hv.1.symm,hv.2.2.symm⟩):p:=h
theorem EnB(h:p:=by injection hv with h1 h2 h3;subst h1 h3;simp[bP,run_underlying bR,sizeOf,typeInfo,hi,Builtin.lenOf,Builtin.firstCells,hnc,storeCells]):p:=h
theorem EnC(h:p:=by have g2:v 2=Ec B:=hd.at 2 rfl;exact Fz EM (g:=w.heap.size) J7 (Z7 U U (congrArg D g2)) ⟨U,Ez⟩ (K3.out.G hb) (by rw[Om,HL.out]) U):p:=h
theorem EnD(h:p:=by exact UV.keep HI.out fun _ _ h=>(J6 (g:=gs) 0 _).Ek h (E5 h aG.out Eb)):p:=h
theorem EnF(h:p:=by go_ret;exact⟨U,KF.out,ON.out⟩):p:=h
theorem EnG(h:p:=by have:=Fq ((l.take m).take i) ((l.take m).drop i) 0 (mix (held (l.take m) a0) y i) a0;rw[hU] at this;rw[this];congr 1;rw[aj];omega):p:=h
theorem EnH(h:p:=by go_ret;exact⟨U,Ep _ _⟩):p:=h
theorem EnK(h:p:=by have h5:=hcl j oj hoj hl e he hbe;rw[uj] at h5;rw[h5] at h1;cases h1):p:=h
theorem EnL(h:p:=by exact(gQ 1 1000 wq).mono fun e w2 ⟨v,he,hv,hb⟩=>⟨v,he,hb,hv⟩):p:=h
theorem EnM(h:p:=by have:=Array.all_eq_true_iff_forall_mem.1 h1.1 e he;simpa using this):p:=h
theorem EnN(h:p:=by have d9:v 9=Y (D ⟨gm,0,Z⟩):=hd.at 9 rfl;exact IU EM (Ei U) sh U):p:=h
theorem EnP(h:p:=by have d8:v 8=Y (D ⟨gm,0,Z⟩):=hd.at 8 rfl;exact IU EM (Ei U) gd U):p:=h
theorem EnQ(h:p:=by unfold EG.Uq at hg;simp only at hg;rw[if_neg X,if_neg X,if_neg X] at hg;injection hg with a1 a2;exact⟨a2.symm,a1.symm⟩):p:=h
theorem EnR(h:p:=by exact MM.out.only ho gy hz3 OY.out.lt):p:=h
theorem EnS(h:p:=by have h5:e.on<listed.size:=X;exact hr e.on X oK):p:=h
theorem EnT(h:p:=by rintro e w3 ⟨rfl,k3,o3⟩;go_wp2_with fail;refine ET (U1 U _ _ _) U ?_;go_wp2_with fail;go_end0;exact⟨U,k3,o3⟩):p:=h
theorem EnV(h:p:=by go_wp2_with fail;go_end0;refine⟨U,?_,ON.out⟩;simp only[Ju,h1.out,h7.out,h9.out,if_true,kn,if_false];exact K.out):p:=h
theorem EnW(h:p:=by go_wp2_with fail;go_end0;refine⟨U,?_,ON.out⟩;simp only[Ju,h1.out,h2.out,h4.out,if_true,kn,if_false];exact K.out):p:=h
theorem EnY(h:p:=by exact⟨U,_,_,U,U,U⟩):p:=h
theorem En0(h:p:=by have h6:k=0\/k=1\/k=2\/k=3\/k=4\/k=5\/k=6\/k=7:=X;rcases h6 with rfl|rfl|rfl|rfl|rfl|rfl|rfl|rfl<;>decide):p:=h
theorem En1(h:p:=by injection h with h;subst h;have e:(⟨b,off,Z⟩:Eu).add j=⟨b,off+j,Z⟩:=XB;rw[e,hc j hj];simpa[hj] using hu):p:=h
theorem En2(h:p:=by rcases hd with rfl|rfl<;>exact⟨⟨Eb,Eb,Eb⟩,Eb,Eb,Eb⟩):p:=h
theorem En3(h:p:=by have:j∈UX ops listed:=fR.2 ⟨hj,hlj⟩;rw[List.length_eq_zero_iff.1 (Nat.le_zero.1 hf)] at this;cases this):p:=h
theorem En4(h:p:=by simpa using this):p:=h
theorem En5(h:p:=by have d6:xv 6=Y (D ⟨gc,0,Z⟩):=hd.at 6 rfl;exact Es nf U):p:=h
theorem En6(h:p:=by simp only[oD,j7,j8];have:=Int.emod_nonneg x (b:=65536) X;have:=Int.emod_lt_of_pos x (b:=65536) X;simp;omega):p:=h
theorem En7(h:p:=by rename_i hw;rw[if_neg hw] at st;exact next I6 w (by rw[um cs hic];exact hb) (fun j hj _ hl=>hr j hj hl) st):p:=h
theorem En8(h:p:=by obtain rfl:p=0:=X;exact IQ fl (Ei U) Ez U):p:=h
theorem En9(h:p:=by rw[hrun] at hr;injection hr with hq hr;injection hq with hq;rw[hr];exact⟨.inr ⟨_,hq,E7 _⟩,bel _⟩):p:=h
theorem En_(h:p:=by clear hk hs h1;go_enter Tryz.func47,Tryz.ntmps47;go_wp2_with fail;refine ET (U1 U _ _ _) U ?_;exact fin):p:=h
theorem EoE(h:p:=by obtain rfl:p=0:=X;exact Zq (Ei U) (lD _ _ _ U) (Ep wq _) ⟨wq.heap.size,_,U,hp.2.2.2,U,H.new _ _ _⟩):p:=h
theorem EoI(h:p:=by go_wp2_with fail;go_end0;refine⟨U,?_,ON.out⟩;simp only[Ju,h1.out,if_true,kn,if_false];exact K.out):p:=h
theorem EoJ(h:p:=by go_wp2_with fail;go_ret;exact⟨DA,U⟩):p:=h
theorem EoO(h:p:=by go_wp2_with fail;go_end0;exact⟨U,U⟩):p:=h
theorem EoU(h:p:=by refine JR (f:=44) (args:= #[]) (Ei U) Ez ?_;exact(wQ wq).mono fun e w2 ⟨he,hb⟩=>⟨_,he,hb,U⟩):p:=h
theorem EoX(h:p:=by obtain rfl:p=0:=X;exact Zq (Ei U) (lM _ _ _ U) (Ep wq _) ⟨wq.heap.size,_,U,hp.1,U,H.new _ _ _⟩):p:=h
theorem EoZ(h:p:=by exact⟨Cf,L',s.only (On rv) kb X,m.only (On rv) X X kb.lt,H.setRow_other km b rv (E5 km kb Eb)⟩):p:=h
theorem Eoa(h:p:=by intro k o ho d hd;unfold held;rw[JV,ho];simp only[hd]):p:=h
theorem Eob(h:p:=by exact⟨S1.out.G (Jk _),MM.out.trans (Ex.Ew (Jk _)),H.G KM.out (Jk _),EA (OQ hn0) (XJ (Jk _))⟩):p:=h
theorem Eoc(h:p:=by exact⟨EA (OQ hn0) (XJ (Jk _)),S1.out.G (Jk _),MM.out.trans (Ex.Ew (Jk _)),H.G KM.out (Jk _)⟩):p:=h
theorem Eod(h:p:=by exact⟨EA n1 ho.size,s1.Cq ho kb Eb X,m1.only ho X X kb.lt,ho.Ek km (E5 km kb Eb),fun h=>XZ⟩):p:=h
theorem Eof(h:p:=by rintro e w2 ⟨rfl,r2,b2⟩;go_wp2_with fail;go_ret2;exact⟨_,U,by simpa using r2,bt B1 b2⟩):p:=h
theorem Eog(h:p:=by exact absurd ⟨j,hj,hc⟩ hno):p:=h
theorem Eoh(h:p:=by simp only[ho,hx,fN,dU,Ud,UU,Uf,hrun];exact⟨U,U⟩):p:=h
theorem Eoi(h:p:=by exact mH EM XY (Ei U) ⟨U,U⟩ (EQ K3 hp) yl.out U):p:=h
theorem Eoj(h:p:=by refine⟨Ug,?_⟩;simp only[UK,List.getElem?_map,Ok hi,j_,Option.getD_some] at hl⊢;exact hl):p:=h
theorem Eok(h:p:=by rintro e w1 ⟨rfl,b1⟩;rw[HM.out];clear Q0;go_wp2;go_ret;exact⟨U,bt (Y4.out _ _ _) b1⟩):p:=h
theorem Eol(h:p:=by have d5:xv 5=Et #[.func (.func f) #[Y (D ⟨gs,0,Z⟩)] #[],Ec u]:=hd.at 5 rfl;exact Es dq U):p:=h
theorem Eom(h:p:=by go_wp2_with fail;refine ET (v:=EZ #[E I 1,E I z,E I 0,EI Z 0 0]) YQ U ?_;exact⟨U,Ep _ _⟩):p:=h
theorem Eon(h:p:=by rw[if_pos hw];unfold ah;rw[hr];exact⟨v,U,hb,h⟩):p:=h
theorem Eoo(h:p:=by rw[hl.cell (p:=⟨0,i,Z⟩) sL];exact h.roots i hi):p:=h
theorem Eop(h:p:=by rw[jX _ _ _ _ hji];rw[XL u (fun e=>hji e.symm)] at hl;exact hR j _ w w' hj (hr j hj hl) hb'):p:=h
theorem Eoq(h:p:=by exact⟨U,BB.out⟩):p:=h
theorem Eor(h:p:=by rw[hl.cell (p:=⟨1,i,Z⟩) sL];exact h.cmds i hi):p:=h
theorem Eos(h:p:=by unfold Iw;simp only[ho,resolve,invoke,builtin,Ud,UU,Uf,List.map_toArray,UL,Xu,hs,hx,hrun]):p:=h
theorem Eot(h:p:=by obtain rfl:p=0:=X;have d4:xv 4=E I k:=hd.at 4 rfl;exact IQ EM (Ei U) (tj U d4 U SB.out) U):p:=h
theorem Eou(h:p:=by rw[XL u e,hl j hj];congr 1;rw[eq_iff_iff];omega):p:=h
theorem Eov(h:p:=by exact PX (g:=g5) (cs:=Ej full) pg (Ei U) ⟨U,U⟩ (K5.out.G hb) (by rw[Om,bE.out]) U):p:=h
theorem Eow(h:p:=by have d0:v 0=E I (m:Int):=hd.at 0 rfl;exact IU EM (Ei U) (by simp[go_sem,d0,t0]) U):p:=h
theorem Eox(h:p:=by have d16:xv 16=Y (D ⟨gc,0,Z⟩):=hd.at 16 rfl;exact Es (by simp[go_sem,d16]) U):p:=h
theorem Eoy(h:p:=by obtain rfl:p=0:=X;have d18:xv 18=Y (D ⟨gc,0,Z⟩):=hd.at 18 rfl;exact Es Lu U):p:=h
theorem Eoz(h:p:=by obtain rfl:p=0:=X;have d15:xv 15=Y (D ⟨gs,0,Z⟩):=hd.at 15 rfl;exact Es wt U):p:=h
theorem EoA(h:p:=by obtain rfl:p=0:=X;have d14:xv 14=Y (D ⟨gs,0,Z⟩):=hd.at 14 rfl;exact Es Ls U):p:=h
theorem EoB(h:p:=by obtain rfl:p=0:=X;have d13:xv 13=Y (D ⟨gc,0,Z⟩):=hd.at 13 rfl;exact Es wO U):p:=h
theorem EoC(h:p:=by obtain rfl:p=0:=X;have d11:xv 11=Y (D ⟨gs,0,Z⟩):=hd.at 11 rfl;exact Es dK U):p:=h
theorem EoD(h:p:=by obtain rfl:p=0:=X;have d10:xv 10=Y (D ⟨gs,0,Z⟩):=hd.at 10 rfl;exact Es dl U):p:=h
theorem EoF(h:p:=by rw[hq i (.inl rfl)] at h;exact h):p:=h
theorem EoG(h:p:=by exact⟨EA (OQ hn0) (XJ (Jk _)),S1.out.G (Jk _),MM.out.trans (Ex.Ew (Jk _))⟩):p:=h
theorem EoH(h:p:=by exact absurd ⟨X,hc⟩ h2):p:=h
theorem EoK(h:p:=by refine⟨fun h=> ?_,by show c.tok.e<=t2.e;omega⟩;have h2:0<=t2.o:=h;omega):p:=h
theorem EoL(h:p:=by rw[<-aI.out,I2,I2,bV,bV,ZG.length_eq];rfl):p:=h
theorem EoM(h:p:=by exact(Qa gb gm d.off n _ w hb hc hf).mono fun e w' ⟨he,hw⟩=>⟨he,zn⟩):p:=h
theorem EoN(h:p:=by have:=rR hcl _ c i h (hcs c (aP.2 ⟨j,hj⟩)) hlc;rw[this] at h1;cases h1):p:=h
theorem EoP(h:p:=by exact⟨h,ZB _⟩):p:=h
theorem EoQ(h:p:=by exact done (fuel+1) listed x w hall hb hr):p:=h
theorem EoR(h:p:=by exact(Fr ((l.take m).take i) 0 y a0 d (fun hmem=>Pa hnd hk hd hmem)).symm):p:=h
theorem EoS(h:p:=by rw[this];simp[List.getElem_take,List.getD,Ok (show i<zs.length from X)]):p:=h
theorem EoT(h:p:=by rw[jX _ _ _ _ hji];rw[XL u (fun e=>hji e.symm)] at hl;exact hr j hj hl):p:=h
theorem EoV(h:p:=by exact h1 _ _ _ h hr):p:=h
theorem EoW(h:p:=by rcases hv with rfl|rfl|rfl|rfl|rfl|rfl|rfl|rfl|rfl|rfl|rfl|rfl<;>rfl):p:=h
theorem EoY(h:p:=by have XC:j=0\/j=1\/j=2:=X;subst hk;rcases XC with rfl|rfl|rfl<;>rfl):p:=h
theorem Eo0(h:p:=by exact(gQ 0 1000 wq).mono fun e w2 ⟨v,he,hv,hb⟩=>⟨v,he,hb,hv⟩):p:=h
theorem Eo1(h:p:=by rw[hl i hin] at h1;simp at h1;exact h1):p:=h
theorem Eo2(h:p:=by rename_i s h1 h2 _;exact h2 _ _ _ h hr):p:=h
theorem Eo3(h:p:=by exact E3 (g:=w.heap.size+1) BB.out X r):p:=h
theorem Eo4(h:p:=by have:=rR un _ i c h hin hset;rwa [XL u (fun e=>hne e.symm)] at this):p:=h
theorem Eo5(h:p:=by go_wp2_with fail;go_ret;exact⟨⟨_,_,_,es,U,X,EE.out⟩,BB.out⟩):p:=h
theorem Eo6(h:p:=by rw[if_neg X,if_neg X,if_neg X,if_neg X,if_neg X,if_neg X,if_neg X]):p:=h
theorem Eo7(h:p:=by have d7:v 7=Et #[EZ UF,Ec fr]:=hd.at 7 rfl;exact IQ hG (Ei U) gh U):p:=h
theorem Eo8(h:p:=by clear hc hg;go_enter lO,lU;go_wp2;go_ret;exact⟨U,Y4.out _ _ _⟩):p:=h
theorem Eo9(h:p:=by exact fun _=>rfl):p:=h
theorem Eo_(h:p:=by simpa[UX] using this):p:=h
theorem EpE(h:p:=by unfold cnt;rw[List.filter_eq_self.2 fun c hc=>hall c (hcs c hc)]):p:=h
theorem EpI(h:p:=by go_wp2_with fail;go_ret;refine⟨BB.out,?_⟩;rw[<-dx.out];rfl):p:=h
theorem EpJ(h:p:=by obtain⟨b,c,h1,h2,h3,h4⟩:=h;exact⟨b,c,h1,h2,h3,h4.G hb⟩):p:=h
theorem EpO(h:p:=by exact Es dK U):p:=h
theorem EpU(h:p:=by exact Es cI U):p:=h
theorem EpX(h:p:=by exact Es U4 U):p:=h
theorem EpZ(h:p:=by go_ret2;exact⟨U,U⟩):p:=h
theorem Epa(h:p:=by have:=List.length_take_le i S;have:=dC.out;have:=HL.out;omega):p:=h
theorem Epb(h:p:=by have d28:xv 28=Et #[EZ rv,E I cd]:=hd.at 28 rfl;exact Es Lx U):p:=h
theorem Epc(h:p:=by have d20:xv 20=Y (D ⟨gc,0,Z⟩):=hd.at 20 rfl;exact Es Cj U):p:=h
theorem Epd(h:p:=by have d20:xv 20=Et #[EZ Ux,E I cd]:=hd.at 20 rfl;exact Es Cj U):p:=h
theorem Epf(h:p:=by have d15:xv 15=Y (D ⟨gc,0,Z⟩):=hd.at 15 rfl;exact Es wt U):p:=h
theorem Epg(h:p:=by exact⟨Cf,L',s.only (On rv) kb X,m.only (On rv) X X kb.lt⟩):p:=h
theorem Eph(h:p:=by have:=hc k p hp (ih (i-k) X k U X) e he hb;rwa [heq] at this):p:=h
theorem Epi(h:p:=by go_wp2_with fail;go_ret;exact⟨⟨_,_,U,X9 _ _⟩,IE _ _⟩):p:=h
theorem Epj(h:p:=by simp only[Iv];exact⟨trivial,X⟩):p:=h
theorem Epk(h:p:=by have:i<ops.size:=X;simp[this] at h):p:=h
theorem Epl(h:p:=by rename_i hw;rw[if_neg hw] at st;exact next I6 w (hT.1 _) st):p:=h
theorem Epm(h:p:=by exact Es cE U):p:=h
theorem Epn(h:p:=by exact⟨h,ht,fun h=>XZ⟩):p:=h
theorem Epo(h:p:=by obtain⟨g,cs,e,k,p⟩:=h;exact⟨g,cs,e,k.G hb,p.G hb⟩):p:=h
theorem Epp(h:p:=by simp only[Oc,beq_iff_eq] at hb;exact⟨e,he,hb.1,hb.2⟩):p:=h
theorem Epq(h:p:=by rw[hrun] at hr;injection hr with _ hr;rw[hr];exact bel _):p:=h
theorem Epr(h:p:=by rw[if_pos hw];unfold ah;rw[hr];exact⟨v,U,hT.1 _,h⟩):p:=h
theorem Eps(h:p:=by exact Es dl U):p:=h
theorem Ept(h:p:=by exact Es XR U):p:=h
theorem Epu(h:p:=by simp[Lit.wf,IntKind.min,IntKind.max,j8,j7] at h;omega):p:=h
theorem Epv(h:p:=by simp only[mix,show¬i+k<i from X,if_false,held,hk,hd]):p:=h
theorem Epw(h:p:=by have d1:v 1=Ec B:=hd.at 1 rfl;exact IU EM (Ei U) Xw U):p:=h
theorem Epx(h:p:=by exact h.same _ U):p:=h
theorem Epy(h:p:=by exact List.nodup_range'):p:=h
theorem Epz(h:p:=by simp only[oP] at key;exact key):p:=h
theorem EpA(h:p:=by simp only[Bool.not_false,if_true,UU,Bool.false_and]):p:=h
theorem EpB(h:p:=by go_wp2_with fail;refine ET (U1 U _ _ _) U ⟨U,U⟩):p:=h
theorem EpC(h:p:=by exact(CA.out wq).mono fun e w2 h=>⟨_,h.1,h.2,U⟩):p:=h
theorem EpD(h:p:=by exact hl.elim):p:=h
theorem EpF(h:p:=by rw[HE.out];rfl):p:=h
theorem EpG(h:p:=by have d13:xv 13=E I cd:=hd.at 13 rfl;exact Es wO U):p:=h
theorem EpH(h:p:=by intro i hi h;have:i<l.length:=Ug;simp[this] at h):p:=h
theorem EpK(h:p:=by rintro e w2 ⟨rfl,b2⟩;replace K2:=O<|K2.out.G b2;replace KT:=O<|KT.out.G b2;replace ON:=O<|ON.out.trans (EH.Ew b2);replace RT:=O<|RT.out.G b2;clear b2;go_wp2_with (first|((with_reducible refine Is 32 ?_);refine I3 rfl 183 _ rfl (EF (If 0)) jr ?_)|(with_reducible refine wS (cs:=(EF (If 0))) O_ K2 ?_ (ho:=JJ _) (hn:=JJ _) (h1:=ZY _)));refine ET (v:=Et #[EZ (EF (If 0)),E I 14]) (dy O_ U _ _ w.heap.size _ _ U U (K2.out.setRow _) (JJ _)) U ?_;exact Ely):p:=h
theorem EpL(h:p:=by have c0:=hm.cell 0;rw[Zs _ _ X,if_neg X,hk] at c0;have CF:=O<|fun W=>ig gm 1 W;have BB:=O<|IE w.heap.size w;clear hm hk;go_enter ii,ij;exact Elk):p:=h
theorem EpM(h:p:=by have q5:(a !=165)=u:=xM;replace HF:Ea (f=jV (UR ([a,v]))):=O<|HF.out.trans xN;clear h5;go_wp2_with fail;refine(xK (D ⟨b,off,Z⟩) ([a,v]) 2 c _ sN X (Iy HR.out JU.out) X).mono ?_;rintro e W2 ⟨rfl,b2⟩;replace OW:=O<|ZW OW.out b2;replace K2:=EQ K2 b2;replace K3:=EQ K3 b2;replace JU:=EW JU b2;clear b2 c0 OW;obtain⟨JF,Ia⟩:=En (#[E I 1,E I (UR ([a,v])),E I 0,EI Z 0 0]:Array V);exact Elh):p:=h
theorem EpN(h:p:=by intro v w' hb hr;obtain⟨gl,fs,e,m,lg,bx,kk⟩: ∃(gl:Nat) (fs:List (FD×Nat)),v 9=EI (D ⟨gl,0,Z⟩) 2 2/\fs.map (·.1)=[Jf,IS]/\w.heap.size<=gl/\JC w' w.heap.size gm fs/\H w' gl (E4 fs).toArray 298:=hr 9 X;have dt:v 10=Ec u:=hr 10 X;exact Ell):p:=h
theorem EpP(h:p:=by go_enter Tryz.func76,Tryz.ntmps76;exact Els):p:=h
theorem EpQ(h:p:=by obtain⟨gl,fs,e,m,lg,bx,kk⟩: ∃(gl:Nat) (fs:List (FD×Nat)),v 8=EI (D ⟨gl,0,Z⟩) 2 2/\fs.map (·.1)=[Jf,IS]/\w.heap.size<=gl/\JC w' w.heap.size gm fs/\H w' gl (E4 fs).toArray 298:=hd.at 8 rfl;exact EmX):p:=h
theorem EpR(h:p:=by go_enter kL,kP;go_wp2;exact ElD):p:=h
theorem EpS(h:p:=by have d2:v 2=Y (D ⟨gm,3,Z⟩):=hd.at 2 rfl;refine Ot (f:=205) (args:= #[v 2]) (Ei U) Ez ?_;rw[d2];exact El5):p:=h
theorem EpT(h:p:=by have dt:v 10=Ec u:=hr 10 X;exact Ell):p:=h
theorem EpV(h:p:=by go_wp2_with fail;refine(CO.out).mono ?_;rintro e w' ⟨rfl,rfl⟩;exact Els):p:=h
theorem EpW(h:p:=by go_wp2_with fail;refine(gB _ _ _ N1.out).mono ?_;rintro e w' ⟨rfl,rfl⟩;go_wp2_with fail;refine(gB _ _ _ N2.out).mono ?_;exact Ems):p:=h
theorem EpY(h:p:=by obtain rfl:p=0:=X;have d5:xv 5=Y (D ⟨gc,56,Z⟩):=hd.at 5 rfl;obtain⟨big,KB,UJ⟩:=bA hp.2.1.core;exact EmL):p:=h
theorem Ep0(h:p:=by have d6:v 6=Y (D ⟨gm,3,Z⟩):=hd.at 6 rfl;refine Ot (f:=205) (args:= #[v 6]) (Ei U) Ez ?_;rw[d6];exact El5):p:=h
theorem Ep1(h:p:=by have hkn:k=ops.size:=X;subst hkn;rw[mq Eh] at h;refine wpAny_done ?_ h _;exact EmM):p:=h
theorem Ep2(h:p:=by go_enter Tryz.func226,Tryz.ntmps226;exact Eln):p:=h
theorem Ep3(h:p:=by refine wpAny_done ?_ (hend x w hb fun i hi=>hr i hi (hall i hi)) fuel;exact EmV):p:=h
theorem Ep4(h:p:=by go_enter Tryz.func180,Tryz.ntmps180;go_wp2;refine ET F4 U ⟨U,?_⟩;exact Elx):p:=h
theorem Ep5(h:p:=by go_enter Tryz.func146,Tryz.ntmps146;go_wp2;refine ET F2 U ⟨U,?_⟩;exact Elx):p:=h
theorem Ep6(h:p:=by go_wp2;refine ET F4 U ⟨U,?_⟩;exact Elx):p:=h
theorem Ep7(h:p:=by go_wp2;refine ET F2 U ⟨U,?_⟩;exact Elx):p:=h
theorem Ep8(h:p:=by refine(sP lo hi g gc gq gt gs c ns rs k 13 _ S1.out JS).mono ?_;exact EmO):p:=h
theorem Ep9(h:p:=by intro e he hb';have h3:=dX e he hb';have h4:=(oN hB ho).1 e he;exact EnS):p:=h
theorem Ep_(h:p:=by refine JR (f:=66) (args:= #[E I 1,E I 1000]) (Ei U) Ez ?_;exact EnL):p:=h
theorem EqE(h:p:=by go_enter Tryz.func59,Tryz.ntmps59;go_wp2_with fail;exact EnH):p:=h
theorem EqI(h:p:=by clear K8 K7 hx;go_enter Tryz.func223,Tryz.ntmps223;exact Eln):p:=h
theorem EqJ(h:p:=by have d11:xv 11=Et #[EZ rv,E I cd]:=hd.at 11 rfl;exact EpO):p:=h
theorem EqO(h:p:=by have d11:xv 11=Et #[EZ mv,E I cd]:=hd.at 11 rfl;exact EpO):p:=h
theorem EqU(h:p:=by clear KT hx;go_enter Tryz.func225,Tryz.ntmps225;exact Eln):p:=h
theorem EqX(h:p:=by clear KT hx;go_enter Tryz.func222,Tryz.ntmps222;exact Eln):p:=h
theorem EqZ(h:p:=by go_wp2_with fail;go_ret2;unfold vp;rw[hp.out];exact Eoq):p:=h
theorem Eqa(h:p:=by clear e1 e2 K h;go_enter Tryz.func56,Tryz.ntmps56;exact EpV):p:=h
end Go.Proofs.YtclmichaaiohjaaGreatDoor
