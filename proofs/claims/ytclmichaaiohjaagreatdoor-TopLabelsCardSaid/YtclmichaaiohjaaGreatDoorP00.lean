import Derived.WalkKit
import Derived.WalkSpells
import Derived.WalkLawsBesides
import Derived.Lib.Hide
import Derived.ProofKit
import Derived.OpenShut
import Derived.ChangeOld
import Derived.Below
import Derived.Deep.QuietTactic
import Derived.RegionTactic
import Derived.BigRegion
import Derived.BigQuiet
import Derived.Deep.RegionWith
import Derived.Laws.Rows
import Derived.Laws.Tables
import Derived.Laws.CopyOwn
import Derived.Deep.WholeRow
import Derived.KernelRfl
import Derived.Orders
import Derived.Deep.Quiet
import Derived.Deep.MidRow
import Derived.Test.YtclmichaaiohjaaGreatDoorProg
set_option maxRecDepth 100000
set_option linter.unusedVariables false
set_option linter.unusedSimpArgs false
set_option maxHeartbeats 6400000
namespace Go.Proofs.YtclmichaaiohjaaGreatDoor
open RowKit
open _root_.Array renaming getElem?_eq_some_iff->Ja
open Bool renaming true->G,false->Y
open Go renaming World->H,Value->M,Addr->Et,bodyPost_ret->EQ,below_setRow->E2,rounds_succ->Ib
open Act renaming put->Ic
open IntKind renaming i64->I,u8->IB
open Lib renaming hid->J
open Obj renaming cells->EI
open RowKit renaming Hid->Ea
open RowKit.Below renaming refl->E6
open Value renaming bool->Eb,int->E,agg->EU,slice->u,tuple->Es,pointer->V
open List renaming take_succ_cons->Il,take_zero->Ij,setIfInBounds_toArray->Ig,length_append->IL,set_cons_succ->IJ,set_cons_zero->IU,drop_succ_cons->Iz,drop_zero->Ix
open Nat renaming le_trans->Ey,le_refl->E5
open Option renaming some->X,none->Z
variable{p:Prop}
theorem U(h:p:=by omega):p:=h
theorem Ec(h:p:=by kernel_rfl):p:=h
theorem EZ(h:p:=by decide):p:=h
theorem by3(h:p:=by subst hW;repeat (first|exact D.new _ _ _|exact D.new' _ _ _ (by simp)|refine D.alloc ?_ _)):p:=h
theorem Ew(h:p:=by simp[go_sem]):p:=h
theorem by5(h:p:=by(repeat (first|exact E6 _ _|(refine Below.alloc ?_ (by simp<;>omega) _)|(refine Below.setCell ?_ (by simp<;>omega) _)))):p:=h
theorem by6(h:p:=by subst hW;(repeat (first|exact E6 _ _|(refine Below.alloc ?_ (by simp<;>omega) _)|(refine Below.setCell ?_ (by simp<;>omega) _)))):p:=h
theorem Ek(h:p:=by simp):p:=h
theorem by8(h:p:=by rw[show(⟨gb,0,Z⟩:Et).add j=⟨gb,j,Z⟩ from by unfold Addr.add;split<;>simp_all];rw[D.cell KB.out,List.getElem?_toArray];exact hu):p:=h
theorem OP(h:p:=by with_unfolding_all (simp[Value.oneCell'])):p:=h
theorem Uh(h:p:=by with_unfolding_all (rw[JV,bL])):p:=h
theorem Io(h:p:=by simp<;>omega):p:=h
theorem Ju(h:p:=by have:=HL.out;omega):p:=h
theorem U4(h:p:=by unfold Addr.add;split<;>simp_all):p:=h
theorem JP(h:p:=by have:=HN.out;omega):p:=h
theorem JN(h:p:=by simp[intOf];omega):p:=h
theorem XR(h:p:=by unfold ZQ Xk Ub;simp;try omega):p:=h
theorem Ob(h:p:=by unfold maxLen;omega):p:=h
theorem FH(h:p:=by have:=D.new (w.alloc (EI #[E I 0,E I 0,E I 0,u Z 0 0] 101)) #[E I 0,E I 0,E I 0,u Z 0 0] 101;simpa using this):p:=h
theorem JJ(h:p:=by simp;omega):p:=h
theorem jw(h:p:=by have:=S1.out.Z8;have:=S1.out.dz;have:=MM.out.size;omega):p:=h
theorem OQ(h:p:=by simp[go_sem,d0]):p:=h
theorem Om(h:p:=by simpa using hi):p:=h
theorem UX(h:p:=by simp only;omega):p:=h
theorem Ehq(h:p:=by subst hW;exact⟨_,O,by first|exact D.new _ _ _|exact D.new' _ _ _ (by simp)⟩):p:=h
theorem Ou(h:p:=by simpa using h):p:=h
theorem Uj(h:p:=by simp[go_sem,d4]):p:=h
theorem Ehr(h:p:=by rw[hv1];exact U_ K 1 (by omega) (by omega)):p:=h
theorem UP(h:p:=by subst hr;exact h):p:=h
theorem ya(h:p:=by have:=HL.out;have:=Fr.out;have:=yX.out;have:=iA.out;simp only[IL];omega):p:=h
theorem bB(h:p:=by rw[IE];simp[Value.oneCell']):p:=h
theorem UK(h:p:=by simp[go_sem,d1]):p:=h
theorem jQ(h:p:=by with_unfolding_all (first|rfl|exact jP.out)):p:=h
theorem On(h:p:=by simp[OU]):p:=h
theorem nz(h:p:=by simp[IntKind.wrap,IntKind.bits,IntKind.signed];omega):p:=h
theorem oL(h:p:=by obtain⟨b,h1,h2,h3⟩:=h;exact⟨b,h1,h2,D.B h3 hr⟩):p:=h
theorem Xi(h:p:=by simp[go_sem,d3]):p:=h
theorem hG(h:p:=by intro e;subst e;revert hS;decide):p:=h
theorem Zw(h:p:=by have:=LK.out;omega):p:=h
theorem Ehs(h:p:=by first|exact D.new _ _ _|exact D.new' _ _ _ (by simp)):p:=h
theorem Eht(h:p:=by obtain⟨z,h1,h2⟩:=KZ.out;exact⟨z,h1,XB.Em h2 (by decide) (by decide)⟩):p:=h
theorem iP(h:p:=by rcases hS with rfl|rfl<;>decide):p:=h
theorem b_(h:p:=by have:=ON.out.size;omega):p:=h
theorem Ehu(h:p:=by rw[lf _ _ _ _ (by simp[Oi]),Oi]):p:=h
theorem lR(h:p:=by obtain⟨_,_,KQ,-,-⟩:=Q;have:=KQ.lt;omega):p:=h
theorem Za(h:p:=by simp[go_sem,d11]):p:=h
theorem Ehv(h:p:=by rw[show(⟨gb,0,Z⟩:Et).add j=⟨gb,j,Z⟩ from by unfold Addr.add;split<;>simp_all];rw[D.cell KI.out,List.getElem?_toArray];exact hu):p:=h
theorem ZN(h:p:=by simp[go_sem,d2,cc]):p:=h
theorem ZV(h:p:=by simp[UU,qa,qb,qc]):p:=h
theorem X4(h:p:=by rw[HRR.out];rfl):p:=h
theorem nH(h:p:=by with_unfolding_all (rw[zM,bL])):p:=h
theorem co(h:p:=by simp[EL.v,Oa.v,Pt.v]):p:=h
theorem Ehw(h:p:=by rw[hsm.out];exact S1.out.core.cell 7 rfl 0 (by simp)):p:=h
theorem tu(h:p:=by obtain⟨z,h1,h2⟩:=aI.out;exact⟨z,h1,D.B h2 b3⟩):p:=h
theorem Zp(h:p:=by simp[go_sem,d10]):p:=h
theorem xB(h:p:=by obtain⟨b,rv,h1,h2,h3,h4⟩:=h;exact⟨b,rv,h1,h2,h3,D.B h4 hr⟩):p:=h
theorem Zq(h:p:=by simp[go_sem,d5]):p:=h
theorem ct(h:p:=by simp[Value.oneCell']):p:=h
theorem yZ(h:p:=by have:=HN.out;have:=fV.out;have:=mU.out;have:=iA.out;omega):p:=h
theorem j4(h:p:=by subst hb;exact E6 _ _):p:=h
theorem Md(h:p:=by rw[List.take_succ_eq_append_getElem hil,List.flatten_append,List.flatten_cons,List.flatten_nil,List.append_nil]):p:=h
theorem Xl(h:p:=by simp[intOf]):p:=h
theorem Ehx(h:p:=by rw[Z9.out];exact .inr (.inr ⟨O,h4,by show e<65535;omega,4,by omega,by omega,fun e4=>h4 e4.symm,xo.out.2⟩)):p:=h
theorem Ht(h:p:=by by_cases hj:j<ops.size;(·simp[hj] at h);(·rename_i ho;exact absurd (Ja.1 ho).1 hj)):p:=h
theorem am(h:p:=by simp[go_sem,d8]):p:=h
theorem aC(h:p:=by simpa using hcd):p:=h
theorem iQ(h:p:=by rw[List.length_take];omega):p:=h
theorem sA(h:p:=by have:=HR.out.symm.trans hc;injection this):p:=h
theorem Sq(h:p:=by have:=Fr.out;have:=yX.out;have:=iA.out;have:=EcI iC.out;simp only[IL];omega):p:=h
theorem lU(h:p:=by simp[go_sem,d3,d7,Iw,EY]):p:=h
theorem xm(h:p:=by have:=fF.out.e.1;show _<=e;simp only at this;omega):p:=h
theorem gW(h:p:=by rw[qp k h];omega):p:=h
theorem XW(h:p:=by simp[EL.v]):p:=h
theorem kf(h:p:=by cases d<;>first|rfl|cases hd):p:=h
theorem xA(h:p:=by rw[hPQ] at h;obtain⟨t2,-,h2,h3,-⟩:=h;exact⟨h2,h3⟩):p:=h
theorem pO(h:p:=by rw[List.append_nil];exact S1.out):p:=h
theorem Ehy(h:p:=by have:=(D.cell kb i).trans (by simpa using hi);simpa using this):p:=h
theorem Uf(h:p:=by cases h):p:=h
theorem br(h:p:=by simp[EL.end_]):p:=h
theorem gH(h:p:=by rw[HN.out];exact hlt):p:=h
theorem Sr(h:p:=by obtain⟨x,hx,h2⟩:=Sl.out h;exact⟨x,List.mem_append_left _ (List.mem_append_left _ hx),h2⟩):p:=h
theorem Fl(h:p:=by have h:=Iy;unfold EL.a at h;injection h with h;rw[<-h];rfl):p:=h
theorem Zv(h:p:=by rw[JM.out]):p:=h
theorem tz(h:p:=by have:=OE.out.lt;have:=LT.out;omega):p:=h
theorem Aq(h:p:=by rw[hl,hcs,<-Nat.add_mul];exact Nat.mul_le_mul_right _ hroom):p:=h
theorem DR(h:p:=by have h:=OY 0 _ O;rw[Jj] at h;exact h.trans DQ.out):p:=h
theorem qD(h:p:=by rw[List.length_take,jX];rfl):p:=h
theorem dk(h:p:=by simp[go_sem,d7]):p:=h
theorem pp(h:p:=by rintro rfl;revert hS;decide):p:=h
theorem iG(h:p:=by simp[go_sem,d1,cc]):p:=h
theorem vQ(h:p:=by with_unfolding_all (rw[JV,HC.out])):p:=h
theorem xp(h:p:=by obtain⟨cd,e,hk⟩:=h;exact⟨cd,e,hk.rel hr⟩):p:=h
theorem sh(h:p:=by have:=HN.out;have:=fT.out;omega):p:=h
theorem Ehz(h:p:=by cases e<;>first|exact he|exact he.elim|exact(by obtain⟨_,_,h⟩:=he;exact h.elim)):p:=h
theorem EhA(h:p:=by rw[hall j hj,decide_eq_true (by omega)]):p:=h
theorem dE(h:p:=by simpa using hs):p:=h
theorem lj(h:p:=by simp[Oi,bL]):p:=h
theorem Vl(h:p:=by obtain⟨gc,gt,h1,h2,h3,h4,h5⟩:=h;exact⟨gc,gt,h1,h2,h3,h4.B hr,h5.B hr⟩):p:=h
theorem Ap(h:p:=by have hb:=hbytes;simp only[Nat.zero_add] at hb;omega):p:=h
theorem u0(h:p:=by rw[hr];exact bR _ _ _ _ _ _ _ _):p:=h
theorem Dn(h:p:=by simp only[List.length_cons,List.length_nil];omega):p:=h
theorem ux(h:p:=by simp[results,Tryz.results173,go_sem]):p:=h
theorem uY(h:p:=by simp[results,Tryz.results140,go_sem]):p:=h
theorem EhB(h:p:=by rw[Z9.out];exact .inl ⟨O,0,0,by omega,by omega,by omega,by omega,O⟩):p:=h
theorem xr(h:p:=by simp[results,Tryz.results139,go_sem]):p:=h
theorem bA(h:p:=by rw[IE];rfl):p:=h
theorem QO(h:p:=by have:=IE;unfold EL.a at this;injection this with this;exact this.symm):p:=h
theorem QA(h:p:=by have:=Iy;unfold EL.a at this;injection this with this;exact this.symm):p:=h
theorem EhC(h:p:=by rw[hsm.out];exact(S1.out.B (EC y)).core.cell 7 rfl 0 (by simp)):p:=h
theorem fB(h:p:=by simp[go_sem,e]):p:=h
theorem EhD(h:p:=by rw[Z9.out];exact .inr (.inr ⟨O,h4,by show e<65535;omega,fz.out⟩)):p:=h
theorem gY(h:p:=by rw[JV,hk]):p:=h
theorem tR(h:p:=by rintro⟨_,_,⟨_,h⟩,_⟩;cases h):p:=h
theorem mX(h:p:=by have:=jx.out;omega):p:=h
theorem Ba(h:p:=by have:=kD g T 1 W hW h;rwa [hof] at this):p:=h
theorem Bb(h:p:=by have:=kD g T 2 W hW h;rwa [hof] at this):p:=h
theorem Bc(h:p:=by have:=kD g T 3 W hW h;rwa [hof] at this):p:=h
theorem oX(h:p:=by have:=h.lo2;simp;omega):p:=h
theorem AR(h:p:=by with_unfolding_all (rw[zM,HS.out.1])):p:=h
theorem EhF(h:p:=by rw[if_neg (fun h=>by cases h.1)];exact⟨a,b⟩):p:=h
theorem uC(h:p:=by rw[List.length_take] at hj;omega):p:=h
theorem jy(h:p:=by simp[go_sem,d17]):p:=h
theorem kI(h:p:=by simpa[h5] using h3):p:=h
theorem gy(h:p:=by simpa using hp):p:=h
theorem NZ(h:p:=by rw[<-wj.out,List.getElem?_map,List.getElem?_eq_getElem hil];rfl):p:=h
theorem pc(h:p:=by rintro⟨_,_,h⟩;exact h):p:=h
theorem Gk(h:p:=by obtain⟨b,h1,h2⟩:=h;exact⟨b,h1,h2.B hr⟩):p:=h
theorem Sd(h:p:=by have:=HL.out;have:=jM.out;simp only[IL];omega):p:=h
theorem zJ(h:p:=by rw[HGP.out];exact E5 _):p:=h
theorem Sp(h:p:=by have:=fV.out;have:=mU.out;have:=So.out;have:=iA.out;omega):p:=h
theorem To(h:p:=by have:=D.new (w.alloc (EI cv 48)) zt 43;simpa using this):p:=h
theorem BO(h:p:=by with_unfolding_all (rw[JV,AL.out])):p:=h
theorem nP(h:p:=by rw[g_.out];exact k9):p:=h
theorem Bh(h:p:=by with_unfolding_all (rw[JV,T8.out])):p:=h
theorem Bk(h:p:=by with_unfolding_all (rw[JV,TL.out])):p:=h
theorem Cs(h:p:=by with_unfolding_all (rw[JV,RL.out])):p:=h
theorem w_(h:p:=by rw[HN.out];exact E5 _):p:=h
theorem xd(h:p:=by injection e with e;injection e):p:=h
theorem RF(h:p:=by have:=HN.out;have:=HM.out;have:=fV.out;have:=sW.out;omega):p:=h
theorem iK(h:p:=by simp[c0,I3]):p:=h
theorem xz(h:p:=by rw[hPQ];exact⟨t2,h1,h2,h3,h4⟩):p:=h
theorem tr(h:p:=by have:=b1.out.size;omega):p:=h
theorem oF(h:p:=by have:=fT.out;omega):p:=h
theorem ky(h:p:=by rw[HN.out];omega):p:=h
theorem Qc(h:p:=by have h1:=Zx.out;have h2:=sE.out;have h3:=LK.out;omega):p:=h
theorem Bf(h:p:=by rw[if_neg (fun h=>hm h.2)];exact⟨a,b⟩):p:=h
theorem dV(h:p:=by rw[hk];rfl):p:=h
theorem fJ(h:p:=by simp[Xk]):p:=h
theorem fU(h:p:=by simp[Ub]):p:=h
theorem bG(h:p:=by rw[hi,hn]):p:=h
theorem zY(h:p:=by simp[results,Tryz.results148,go_sem]):p:=h
theorem Af(h:p:=by simp[results,Tryz.results146,go_sem]):p:=h
theorem Ag(h:p:=by simp[results,Tryz.results150,go_sem]):p:=h
theorem Ah(h:p:=by simp[results,Tryz.results180,go_sem]):p:=h
theorem Li(h:p:=by subst hw;exact(E6 _ _).alloc (E5 _) _):p:=h
theorem xy(h:p:=by have:=S.core.ok.tok.e;omega):p:=h
theorem pX(h:p:=by have:=LW.out;omega):p:=h
theorem lJ(h:p:=by simp[go_sem,d6]):p:=h
theorem lX(h:p:=by simp[go_sem,d9]):p:=h
theorem FM(h:p:=by simp[results,Tryz.results83,go_sem]):p:=h
theorem tL(h:p:=by rw[gU,if_pos h5]):p:=h
theorem EhG(h:p:=by rw[uQ (by omega) h1 cs hcn hic,hcnt];exact uT):p:=h
theorem MR(h:p:=by rw[Bp,hk.cell j,List.getElem?_toArray];exact hu):p:=h
theorem Rx(h:p:=by have h2:=yE.2.1;unfold Ub at h2;simp at h2;omega):p:=h
theorem bF(h:p:=by simp[c0]):p:=h
theorem EhH(h:p:=by simpa only[hq 25 (by simp),hq 28 (by simp)] using h):p:=h
theorem VA(h:p:=by obtain⟨i,z,h1,h2,h3,-⟩:=Vv;exact⟨i,z,h1,h2,h3⟩):p:=h
theorem xf(h:p:=by with_unfolding_all (simp)):p:=h
theorem Vk(h:p:=by obtain⟨gt,h1,h2,h3⟩:=h;exact⟨gt,h1,h2,h3.B hr⟩):p:=h
theorem Br(h:p:=by simp[go_sem,d3,d7,d11,Iw,EY]):p:=h
theorem kO(h:p:=by simpa using ho):p:=h
theorem kn(h:p:=by simpa using hq):p:=h
theorem nO(h:p:=by simp at hi;omega):p:=h
theorem oO(h:p:=by rw[Oi];omega):p:=h
theorem Ds(h:p:=by subst hW;exact Eo w2 _):p:=h
theorem Dt(h:p:=by subst hW;exact Eo w4 _):p:=h
theorem DL(h:p:=by have:=HN.out;have:=jx.out;omega):p:=h
theorem EhK(h:p:=by rw[hv2];exact U_ K 2 (by omega) (by omega)):p:=h
theorem Ky(h:p:=by rw[<-hn];exact(List.getElem?_eq_some_iff.1 hi).1):p:=h
theorem Kz(h:p:=by rw[<-hn];exact(List.getElem?_eq_some_iff.1 hj).1):p:=h
theorem Pn(h:p:=by obtain⟨A,c,e,ho⟩:=h;exact⟨A,c,e,EW ho hr⟩):p:=h
theorem Sn(h:p:=by rw[IL];have:=yX.out;simp;omega):p:=h
theorem Dh(h:p:=by subst hW;exact Eo w _):p:=h
theorem Hs(h:p:=by have:=(List.getElem?_eq_some_iff.1 hk).1;omega):p:=h
theorem u6(h:p:=by unfold FD.set;rw[h];rfl):p:=h
theorem u9(h:p:=by unfold FD.box;rw[h];rfl):p:=h
theorem Mf(h:p:=by rw[<-List.flatten_append,List.take_append_drop]):p:=h
theorem Mg(h:p:=by rw[HST.out,IL,vz.out,vB.out]):p:=h
theorem RM(h:p:=by have:=HM.out;have:=fV.out;have:=sW.out;omega):p:=h
theorem zX(h:p:=by rw[JE.pD];omega):p:=h
theorem LU(h:p:=by intro Y3 hu;simp at hu;obtain⟨a,_,rfl⟩:=hu;rfl):p:=h
theorem Am(h:p:=by simp only[maxLen] at h63;omega):p:=h
theorem Bd(h:p:=by rw[if_pos ⟨O,hm⟩];exact⟨a,b⟩):p:=h
theorem r_(h:p:=by have:=HB.out;omega):p:=h
theorem QZ(h:p:=by rw[Z9.out];exact .inr (.inl ⟨O,h4,he,O⟩)):p:=h
theorem sw(h:p:=by simp[go_sem,d9,cc]):p:=h
theorem tx(h:p:=by have:=LT.out;omega):p:=h
theorem ph(h:p:=by rw[IE.out];rfl):p:=h
theorem F2(h:p:=by simpa[Value.ownBlock] using e2):p:=h
theorem dX(h:p:=by simp[h4]):p:=h
theorem MX(h:p:=by with_unfolding_all (rw[JV,nF])):p:=h
theorem yH(h:p:=by first|rfl|(rw[t1];rfl)):p:=h
theorem zS(h:p:=by rw[hi,Array.length_toList,hn]):p:=h
theorem EhL(h:p:=by rw[gU,if_neg (by omega)]):p:=h
theorem Km(h:p:=by rw[<-e];exact List.mem_iff_getElem?.2 ⟨j,hj⟩):p:=h
theorem Ko(h:p:=by rw[uP cs hic];exact hPh _ _ _ hb hb'):p:=h
theorem Ra(h:p:=by unfold aL;rw[List.map_append];exact XL):p:=h
theorem vf(h:p:=by have:=HS.out.lo;omega):p:=h
theorem vG(h:p:=by rw[AV,Zm.out]):p:=h
theorem oK(h:p:=by simp[EL.pass]):p:=h
theorem TY(h:p:=by rw[dT _ _ _ _ O TF.out.1];omega):p:=h
theorem Ml(h:p:=by with_unfolding_all (rw[JV,Zm.out])):p:=h
theorem Mn(h:p:=by with_unfolding_all (rw[JV,gT.out])):p:=h
theorem Qw(h:p:=by have h:=XA W q;rw[OD,hpv] at h;exact h):p:=h
theorem gK(h:p:=by simp[EH]):p:=h
theorem i9(h:p:=by rw[he];rfl):p:=h
theorem L6(h:p:=by with_unfolding_all (rw[JV,HL.out])):p:=h
theorem Mp(h:p:=by with_unfolding_all (rw[JV,KL.out])):p:=h
theorem NH(h:p:=by with_unfolding_all (rw[JV,PL.out])):p:=h
theorem Qb(h:p:=by have h1:=Zx.out;have h2:=sE.out;omega):p:=h
theorem sb(h:p:=by simp[go_sem,d13]):p:=h
theorem sy(h:p:=by simp[go_sem,d15]):p:=h
theorem jz(h:p:=by simp[I3]):p:=h
theorem SP(h:p:=by cases e<;>first|exact ih _ _ he|exact he):p:=h
theorem zF(h:p:=by subst he;exact⟨v,O,hb,h⟩):p:=h
theorem Ac(h:p:=by simp[One.v,Value.oneCell']):p:=h
theorem Ns(h:p:=by simp[EM.kh h i,Oh,(h.ER i).len]):p:=h
theorem Rk(h:p:=by simp[dM,cH,a0,b0,a1,b1,a2,b2,a3,b3]):p:=h
theorem Ga(h:p:=by rw[hr.out,AT.out.2 hp];rfl):p:=h
theorem Mm(h:p:=by rw[IL,jZ.out,kP.out]):p:=h
theorem Mo(h:p:=by rw[IL,ja.out,gT.out]):p:=h
theorem Pm(h:p:=by obtain⟨b,e,hk⟩:=h;exact⟨b,e,hr _ _ hk⟩):p:=h
theorem xC(h:p:=by simp[go_sem,d12,cc]):p:=h
theorem xG(h:p:=by simp[go_sem,d19,cc]):p:=h
theorem yY(h:p:=by simp[go_sem,d2,t50]):p:=h
theorem zC(h:p:=by rw[h0] at hmem;cases hmem):p:=h
theorem pN(h:p:=by simpa using hmn):p:=h
theorem Do(h:p:=by rw[hp.length_eq];exact k2):p:=h
theorem QX(h:p:=by have:=HB.out;unfold sat;split<;>omega):p:=h
theorem Qr(h:p:=by have h:=XA W q;rw[OD] at h;exact h):p:=h
theorem QW(h:p:=by rw[List.eq_of_mem_replicate hx];omega):p:=h
theorem KV(h:p:=by rw[ZL,List.length_take];omega):p:=h
theorem LO(h:p:=by simp[results,Tryz.results104,go_sem]):p:=h
theorem vE(h:p:=by rw[<-hw];exact u_):p:=h
theorem oJ(h:p:=by simp[Oi]):p:=h
theorem wD(h:p:=by have:=h3.2 h;omega):p:=h
theorem oc(h:p:=by simp[HN.out]):p:=h
theorem PT(h:p:=by subst h2;exact⟨h1,KO,E6 _ _⟩):p:=h
theorem xn(h:p:=by show e<65535;omega):p:=h
theorem xq(h:p:=by simp[go_sem,d6,cc]):p:=h
theorem xu(h:p:=by simp[Pt.hold,I3]):p:=h
theorem SK(h:p:=by rcases hF with rfl|⟨l,rfl⟩<;>trivial):p:=h
theorem TX(h:p:=by simp[results,Tryz.results117,go_sem]):p:=h
theorem F7(h:p:=by rw[gZ];exact Edm):p:=h
theorem yV(h:p:=by simp[go_sem,e1,d2]):p:=h
theorem Vx(h:p:=by have:=BB.out.size;have:=HN.out;omega):p:=h
theorem La(h:p:=by simp only[IL];omega):p:=h
theorem Tj(h:p:=by rcases hS with rfl|rfl|rfl<;>decide):p:=h
theorem Vz(h:p:=by have:=Z_.out;have:=K1.out.lt;omega):p:=h
theorem uo(h:p:=by simpa using h3):p:=h
theorem Ai(h:p:=by have:=BB.out.size;omega):p:=h
theorem Au(h:p:=by unfold FD.get;rw[h];rfl):p:=h
theorem uW(h:p:=by simp[One.v];omega):p:=h
theorem wY(h:p:=by simp[Rec.v];omega):p:=h
theorem xj(h:p:=by have:=hb.lt;omega):p:=h
theorem RH(h:p:=by have:=fV.out;have:=tI.out;omega):p:=h
theorem Sm(h:p:=by have:=mU.out;have:=tI.out;omega):p:=h
theorem Cr(h:p:=by rw[JV,bL]):p:=h
theorem Pb(h:p:=by unfold Zt pn;rw[p0,p1,p2,p3,p4]):p:=h
theorem MP(h:p:=by simp only[List.length_nil];omega):p:=h
theorem P4(h:p:=by subst hW;exact Eo wr _):p:=h
theorem Qa(h:p:=by subst hW;exact Eo w7 _):p:=h
theorem Qn(h:p:=by subst hW;exact Eo w6 _):p:=h
theorem EhM(h:p:=by rw[hq 14 (by simp)] at h;exact h):p:=h
theorem xH(h:p:=by simp[go_sem,e25]):p:=h
theorem EhN(h:p:=by rw[hq 31 (by simp)] at h;exact h):p:=h
theorem Tk(h:p:=by rintro rfl;rw[hS] at hT;cases hT):p:=h
theorem T5(h:p:=by unfold maxLen;have:=NN.out;omega):p:=h
theorem kJ(h:p:=by simp at h):p:=h
theorem ki(h:p:=by simp[Oh]):p:=h
theorem Fo(h:p:=by rw[aA.out];exact hlt):p:=h
theorem EhP(h:p:=by rw[e _ (by omega)];exact h.gL):p:=h
theorem MS(h:p:=by rw[IL];exact h2):p:=h
theorem P5(h:p:=by rw[cu.out];exact E5 _):p:=h
theorem Rz(h:p:=by rw[<-HE.out.1];exact HT2.out.2.2):p:=h
theorem RV(h:p:=by rw[<-Nat.add_assoc];exact S8.out):p:=h
theorem AY(h:p:=by rw[HM.out];exact hlt):p:=h
theorem By(h:p:=by rw[HN.out];exact hin):p:=h
theorem EhQ(h:p:=by rw[BK,if_pos (by omega)]):p:=h
theorem SN(h:p:=by obtain⟨_,_,h⟩:=he;exact h.elim):p:=h
theorem F5(h:p:=by simpa[I7] using K):p:=h
theorem zn(h:p:=by simp[um,I3]):p:=h
theorem Kp(h:p:=by rw[uP cs hic];exact hb):p:=h
theorem EhR(h:p:=by rw[e _ (by omega)];exact h.o0):p:=h
theorem EhS(h:p:=by rw[e _ (by omega)];exact h.o4):p:=h
theorem MF(h:p:=by subst hw;exact E6 _ _):p:=h
theorem QY(h:p:=by rw[Array.toList_map];exact hb):p:=h
theorem zW(h:p:=by simp[World.setCell]):p:=h
theorem BU(h:p:=by rw[JV,AL.out]):p:=h
theorem DW(h:p:=by simp[go_sem,d16,cc]):p:=h
theorem D0(h:p:=by simp[go_sem,d22,cc]):p:=h
theorem Gz(h:p:=by simp[c0,AJ,I3]):p:=h
theorem uD(h:p:=by simpa using hj):p:=h
theorem Kg(h:p:=by have:=HO.out;simp[Oh];omega):p:=h
theorem uN(h:p:=by simpa using hc):p:=h
theorem L8(h:p:=by rw[<-hW];unfold Ug;omega):p:=h
theorem MD(h:p:=by rw[IL,BL,TL]):p:=h
theorem Ni(h:p:=by rw[List.length_set];exact hl):p:=h
theorem P2(h:p:=by rw[List.take_add_one,hx];rfl):p:=h
theorem xD(h:p:=by simpa using nn):p:=h
theorem Tg(h:p:=by unfold maxLen at hm;exact hm):p:=h
theorem Kf(h:p:=by rcases v with _|⟨h,s⟩<;>rfl):p:=h
theorem An(h:p:=by simpa using hown.1):p:=h
theorem AQ(h:p:=by rw[HS.out.1];omega):p:=h
theorem Nd(h:p:=by unfold cI;simp only[hfo]):p:=h
theorem Cn(h:p:=by simp[go_sem,d4,cc]):p:=h
theorem Pv(h:p:=by intro x hx;simp at hx;omega):p:=h
theorem PN(h:p:=by have:=MM.out.bel.size;omega):p:=h
theorem Qo(h:p:=by have:=S.core.lo2;simp;omega):p:=h
theorem DH(h:p:=by simp[go_sem,d8,cc]):p:=h
theorem Gl(h:p:=by simp[go_sem,d0,cc]):p:=h
theorem Gm(h:p:=by simp[go_sem,e1,e2]):p:=h
theorem Gr(h:p:=by simp[go_sem,e1,d6]):p:=h
theorem Gu(h:p:=by simp[go_sem,d4,d9]):p:=h
theorem VR(h:p:=by rintro rfl;revert hT;decide):p:=h
theorem Su(h:p:=by rw[List.length_drop];omega):p:=h
theorem zU(h:p:=by simp[c0,dp]):p:=h
theorem zB(h:p:=by rw[hl k hlt];simp):p:=h
theorem pK(h:p:=by simp at hx):p:=h
theorem Hc(h:p:=by unfold maxLen at hm;omega):p:=h
theorem qJ(h:p:=by rw[hr];rfl):p:=h
theorem MO(h:p:=by rw[STEP.out];exact KH.out):p:=h
theorem sj(h:p:=by simp[Pt.v]):p:=h
theorem tH(h:p:=by rw[h5];rfl):p:=h
theorem Ak(h:p:=by simpa using hown):p:=h
theorem u5(h:p:=by injection hv):p:=h
theorem AN(h:p:=by rw[HL.out];omega):p:=h
theorem A_(h:p:=by rw[HM.out];omega):p:=h
theorem Ng(h:p:=by rw[<-hds,List.length_map]):p:=h
theorem Dk(h:p:=by have:=K.lt;omega):p:=h
theorem oA(h:p:=by simp[h1]):p:=h
theorem Dz(h:p:=by simp[go_sem,e11]):p:=h
theorem DM(h:p:=by simp[go_sem,e15]):p:=h
theorem DT(h:p:=by simp[go_sem,d14]):p:=h
theorem DY(h:p:=by simp[go_sem,d18]):p:=h
theorem D3(h:p:=by simp[go_sem,d20]):p:=h
theorem FU(h:p:=by simp[go_sem,d26]):p:=h
theorem pI(h:p:=by simp[h0]):p:=h
theorem yr(h:p:=by rw[<-tM.out]):p:=h
theorem Vw(h:p:=by rw[hn0];exact fun W h=>h):p:=h
theorem VF(h:p:=by simp;have:=GP.out;omega):p:=h
theorem VH(h:p:=by rw[hzs];exact GA):p:=h
theorem Q_(h:p:=by rw[<-oW.out];exact hcd):p:=h
theorem Sx(h:p:=by show c.tok.e<=t2.e;omega):p:=h
theorem zA(h:p:=by simpa using hlt):p:=h
theorem DC(h:p:=by rw[he];exact hk):p:=h
theorem GZ(h:p:=by rw[AT.out.1,hp]):p:=h
theorem u1(h:p:=by rw[h2];simp):p:=h
theorem wn(h:p:=by simp[IM.v]):p:=h
theorem xk(h:p:=by rw[OC.out]):p:=h
theorem Qu(h:p:=by show(0:Int)<=1000;omega):p:=h
theorem zu(h:p:=by simp[Addr.add]):p:=h
theorem Al(h:p:=by simpa using hn):p:=h
theorem AB(h:p:=by simpa using hx):p:=h
theorem G7(h:p:=by rw[TV.out];rfl):p:=h
theorem qm(h:p:=by simp[hx]):p:=h
theorem tK(h:p:=by simp[h5]):p:=h
theorem zV(h:p:=by rw[hz2];omega):p:=h
theorem vM(h:p:=by cases h.1):p:=h
theorem Gt(h:p:=by rw[yW.out]):p:=h
theorem dU(h:p:=by rfl):p:=h
theorem u2(h:p:=by simp[h2]):p:=h
theorem wJ(h:p:=by simp[ln]):p:=h
theorem qi(h:p:=by go_num):p:=h
theorem En{α}(a:α):∃b,b=a:=⟨a,rfl⟩
theorem JO{α}(a:α):∃b,a=b:=⟨a,rfl⟩
@[reducible]def Eh(w w':H):Prop:=Below w.heap.size w w'
theorem O{α:Sort _}{a:α}:a=a:=rfl
theorem Ia[Decidable p](h:p):decide p=true:=decide_eq_true h
theorem E9[Decidable p](h:¬p):decide p=false:=decide_eq_false h
theorem EhT(h:p:=by go_wp2_with (with_reducible refine wA bS (Ed.mk ?_));refine Ed.in ?_;have K2:=J<|D.new w Jh 298;have BB:=J<|Eo w (EI Jh 298);have l1:w.heap.size<(w.alloc (EI Jh 298)).heap.size:=Ek;generalize w.alloc (EI Jh 298)=w1 at*;go_wp2_with fail;(with_reducible refine(CN.out _).mono ?_);rintro e w2 ⟨v,rfl,⟨gb,rfl,lb,kb⟩,b2⟩;replace K2:=J<|K2.out.B b2;replace BB:=ET BB b2;have O1:=J<|da d gb;have FSq:Ea ((Iw d gb).size=5):=J O;have HB:Ea (∀W:H,XO W d gm gb->FV W w.heap.size gm d (EU (Iw d gb))):=J fun W h=>⟨gb,O,U,h⟩;generalize Iw d gb=fv at*;clear b2 CN;go_wp2_with (with_reducible refine wS (cs:=fv) UF K2 ?_ (hn:=FSq.out) (h1:=O1.out));refine EQ (v:=EU fv) (Jb UF O _ _ (w.heap.size) _ O (K2.out.setRow _) FSq.out) O ⟨_,O,HB.out _ (D.setRow_other kb _ _ U),E2 BB.out U _⟩):p:=h
theorem EhV(h:p:=by rw[<-IE];have jP:=TS;clear TS TO JM;have TS:Ea (Jk.size=4):=J bA;have TO:Ea (Jk.all (·.oneCell')=G):=J bB;have JM:=J IE;clear IE;have OW:=J<|XJ W2 w.heap.size;go_wp2_with (with_reducible refine wS (cs:=Jk) JK K3 (Ed.mk ?_) (ho:=jQ) (hn:=TS.out) (h1:=TO.out));refine Ed.in ?_;have hne:w.heap.size≠(w.heap.size+1):=U;replace OW:=J<|Zc OW.out K3.out Jk;replace I5:=J<|E2 I5.out (U:w.heap.size<=(w.heap.size+1)) Jk;replace K2:=J<|(Od Jk).Em K2.out hne;replace K3:=J<|K3.out.setRow Jk;clear hne;generalize W2.setRow (w.heap.size+1) Jk=V2 at*;go_wp2_with (with_reducible first|refine wL JK K3 ?_ (hn:=TS.out)|refine wS (cs:=Jk) JK K2 ?_ (hn:=TS.out) (h1:=TO.out));refine EQ (Jb JK O _ _ w.heap.size Jk O (K2.out.setRow Jk) TS.out) O ?_;rw[JM.out,HF.out];exact⟨⟨_,O,_,_,O,Zc OW.out K2.out _⟩,E2 I5.out (E5 _) _⟩):p:=h
theorem EhW(h:p:=by have t1':decide ((i:Int)<(n:Int))=G:=Ia U;obtain⟨x,hx⟩: ∃x,GQ[i]?=X x:=⟨GQ[i]'(by rw[iB.out];exact hlt),List.getElem?_eq_getElem _⟩;obtain⟨gg,cur,rfl,ka,dP⟩:=yI OA.out hx iB.out;have KA:=J ka;have dQ:=J dP;clear ka dP hx;have K0:=J<|D.new wr #[E I 0,E I 0,E I 0,E I 0] 133;have b2:=Eo wr (EI #[E I 0,E I 0,E I 0,E I 0] 133);go_wp2_with (with_reducible first|refine wM (off:=i*4) (cs:= #[E I x.s,E I x.r,E I x.a,E I x.m]) jK KA ?_ (he:=dQ.out)|refine wA yJ ?_|refine wS (cs:= #[E I x.s,E I x.r,E I x.a,E I x.m]) jK K0 (Ed.mk ?_) (h1:=OP));refine Ed.in ?_;obtain⟨gx,hgx⟩:=En wr.heap.size;rw[<-hgx] at K0⊢;generalize wr.alloc (EI #[E I 0,E I 0,E I 0,E I 0] 133)=Xz at*;have KX:=J<|K0.out.setRow #[E I x.s,E I x.r,E I x.a,E I x.m];have b3:=E2 (g:=gx) b2 (Nat.le_of_eq hgx.symm) #[E I x.s,E I x.r,E I x.a,E I x.m];generalize Xz.setRow gx #[E I x.s,E I x.r,E I x.a,E I x.m]=J_ at*;clear K0 b2 hgx KA dQ;replace S1:=J<|S1.out.B b3;replace MM:=J<|MM.out.trans (Ev.Eu b3);replace OA:=J<|EW OA.out fun _ _ h=>D.B h b3;clear b3;have cx:J_.cell? ⟨gx,0,Z⟩=X (E I x.s):=(D.cell KX.out 0).trans O;go_wp2_with fail;(with_reducible refine(lL lo hi g gc gq gt gs _ (ns+m2+m3) _ x.s x.s 30 _ S1.out yZ).mono ?_);rintro e16 w16 ⟨rfl,⟨m16,dR,s16⟩,Zb⟩;replace S1:=J s16;replace MM:=J<|MM.out.trans Zb;replace KX:=J<|Zb.Em KX.out EZ EZ;replace OA:=J<|EW OA.out fun _ _ h=>Zb.Em h EZ EZ;have tI:=J dR;clear s16 Zb dR cx;have cx:World.cell? _ ⟨gx,0,Z⟩=X (E I x.s):=(D.cell KX.out 0).trans O;go_wp2_with fail;(with_reducible refine(Xs lo hi g gc gq gt gs _ _ _ 12 x.s 0 30 0 _ S1.out ya).mono ?_);rintro e17 w17 ⟨rfl,ta,mA⟩;have S8:=J ta;replace MM:=J<|MM.out.trans mA;replace OA:=J<|EW OA.out fun _ _ h=>mA.Em h EZ EZ;clear ta mA cx KX;have Ecb:=iA.out;go_wp2_with fail;refine⟨⟨i+1,m3+m16,n3++[⟨12,x.s,0,t2.e,30,0⟩],U,Ek,Sm,Sn,?_,MM.out,base,OA.out⟩,JN⟩;rw[<-Nat.add_assoc,<-List.append_assoc,<-List.append_assoc];have h:=S8.out;rw[<-List.append_assoc] at h;exact h):p:=h
theorem EhY(h:p:=by (with_reducible refine CF.out.mono ?_);rintro x W2 ⟨rfl,b2⟩;replace K0:=J<|K0.out.B b2;replace K1:=J<|K1.out.B b2;replace K3:=J<|K3.out.B b2;replace K5:=J<|K5.out.B b2;replace BB:=ET BB b2;clear b2 CF;go_wp2_with (with_reducible first|refine wL EP K1 ?_|refine wS (cs:= #[E I h,E I e,E I o,E I oa,E I om,E I la,E I lm,Eb b]) EP K5 ?_ (h1:=OP));refine EQ (O0 EP O _ _ (w.heap.size+1+1+1+1+1) _ _ O O (K5.out.setRow _) O) O ⟨?_,E2 (g:=w.heap.size+1+1+1+1+1) BB.out U _⟩;rw[HE.out];rfl):p:=h
theorem Eh0(h:p:=by have c0:=hm.cell 0;rw[Xj _ _ U,if_neg U,hk] at c0;have CF:=J<|fun W=>dl gm 1 W;have BB:=J<|E6 w.heap.size w;clear hm hk;go_enter Tryz.func160,Tryz.ntmps160;go_wp2_with fail;(with_reducible refine(CF.out _).mono ?_);rintro e w1 ⟨v,rfl,⟨gb,rfl,lb,kb⟩,b1⟩;have FB:Ea (Eh w (w1.alloc (EI (EY [(Ih,gb)]).toArray 298))):=J<|b1.alloc b1.size _;have FK:Ea (Uy (w1.alloc (EI (EY [(Ih,gb)]).toArray 298)) w.heap.size w1.heap.size gm [(Ih,gb)]):=J (X_ (D.new w1 _ 298) (fun i hi=>by have:i=0:=Om;subst this;exact⟨lb,D.alloc kb _⟩) b1.size);clear b1 c0 CF kb;unfold Iw;go_wp2_with fail;go_ret2;exact⟨_,_,_,O,O,FK.out,FB.out⟩):p:=h
theorem Eh1(h:p:=by go_wp2;go_ret;exact⟨O,by(repeat (first|exact E6 _ _|(refine Below.alloc ?_ Io _)|(refine Below.setCell ?_ Io _)))⟩):p:=h
theorem Eh2(h:p:=by simp only[Il,Ij,Iz,Ix,EB,Ic,Ig,IJ,IU];rw[dt,e];have FK:=J<|X_ kk bx lg;have FB:=ET BB hb;replace m:=J m;clear hr hb dt e kk bx;go_wp2_with fail;go_ret2;exact⟨gl,_,fs,O,m.out,FK.out,FB.out⟩):p:=h
theorem Eh3(h:p:=by rw[show(t5,sI).fst.a=EU XM from mI];have bh:=J bh;have iZ:=J iZ;have Dy:=J mI;have xo:=J h50;clear mI h50 hg;go_wp2_with (((with_reducible refine JI 109 ?_);(with_reducible refine X7 (g:=J9) (cs:=XM) EP ?_ ?_ KB ?_ ?_ ?_ ?_);(·exact Ei O);(·exact⟨O,O,O⟩);(·exact RS.out);(·exact bh.out);(·exact iZ.out);refine Ed.mk ?_));refine Ed.in ?_;have sJ:=J<|KB.out.setRow XM;have sO:=J<|D.setRow_other KR.out J9 XM (Ne.symm oB.out);have sU:=J<|Q1.out.Ul XM KB.out EZ EZ;have sX:=J<|MM.out.Um XM Z_.out lw.out KB.out EZ EZ;clear KB KR Q1 MM KT;have KB:=sJ;have KR:=sO;have Q1:=sU;have MM:=sX;clear sJ sO sU sX;generalize w9.setRow J9 XM=UD at*;go_wp2_with (first|((with_reducible refine UB 109 ?_);(with_reducible refine XP (g:=J9) EP ?_ ?_ KB ?_ ?_);(·exact Ei rfl);(·exact⟨rfl,rfl⟩);(·exact bh.out))|((with_reducible refine JI 109 ?_);(with_reducible refine X7 (g:=gk+1) (cs:=XM) EP ?_ ?_ KR ?_ ?_ ?_ ?_);(·exact Ei rfl);(·exact⟨rfl,rfl,rfl⟩);(·rfl);(·exact bh.out);(·exact iZ.out)));refine EQ (O0 EP O _ _ (gk+1) XM (E I 5) O O (KR.out.setRow _) bh.out) O ?_;refine⟨⟨t5,5,L',congrArg (fun v=>Ending.returned (Es #[v,E I 5])) Dy.out.symm,(by rw[Z9.out];exact .inr (.inr ⟨O,h4,xn,4,U,U,fun e4=>h4 e4.symm,xo.out.2⟩)),SQ.out,?_⟩,MM.out.Um _ Zw lw.out KR.out EZ EZ⟩;exact Q1.out.Ul _ KR.out EZ EZ):p:=h
theorem Eh4(h:p:=by go_enter Tryz.func170,Tryz.ntmps170;go_wp2_with fail;refine wp_loop_rounds 4 ?_;(iterate 2 rw[Ib];go_wp2_with fail);(iterate 2 rw[Ib];go_wp2_with fail);go_ret;exact⟨O,O⟩):p:=h
theorem Eh5(h:p:=by intro _ hw';obtain⟨y9,rfl⟩:=hw';have El:=EC y9;replace KX:=EN KX El;replace S1:=J<|S1.out.B El;replace MM:=J<|MM.out.trans (Ev.Eu El);replace OA:=J<|EW OA.out fun _ _ h=>D.B h El;clear y0 Fp yx El;generalize Ex J_ y9=oV at*;go_wp2_with fail;(with_reducible refine(lQ lo gq _ (pn g 48) x.s _ S1.out.core.lq S1.out.core.XV S1.out.core.ok.q).mono ?_);rintro e15 Q5 ⟨⟨b15,rfl⟩,⟨L3,sY,s_⟩,m15⟩;have tE:=S1.out.core.ok.sub s_;replace S1:=J<|S1.out.cD m15 L3 sY tE;replace MM:=J<|MM.out.trans (m15.fM hi);replace KX:=J<|m15.Em KX.out EZ EZ;replace OA:=J<|EW OA.out fun _ _ h=>m15.Em h EZ EZ;clear m15 sY s_ tE;have cx:World.cell? _ ⟨gx,0,Z⟩=X (E I x.s):=(D.cell KX.out 0).trans O;go_wp2_with fail;(with_reducible refine(lL lo hi g gc gq gt gs _ (ns+m+m2) _ x.s 4 29 _ S1.out RF).mono ?_);rintro e16 w16 ⟨rfl,⟨m16,dR,s16⟩,Zb⟩;have S8:=J s16;replace MM:=J<|MM.out.trans Zb;replace OA:=J<|EW OA.out fun _ _ h=>Zb.Em h EZ EZ;have tI:=J dR;clear s16 Zb dR cx;have Dp:=sW.out;go_wp2_with fail;refine⟨⟨i+1,L3,m2+m16,U,Ek,RH,?_,MM.out,base,OA.out⟩,JN⟩;rw[show ns+m+(m2+m16)=ns+m+m2+m16 from U];exact S8.out):p:=h
theorem Eh6(h:p:=by have d2:v 2=V (X ⟨gm,1,Z⟩):=hd.at 2 rfl;refine JY (f:=203) (args:= #[v 2]) (Ei O) Ew ?_;rw[d2];exact(dl gm 1 w').mono fun e w'' ⟨v,he,⟨gb,e2,lb,kb⟩,hb'⟩=>⟨v,he,hb',gb,e2,Ey (Ey BB.out.size hb.size) lb,kb⟩):p:=h
theorem Eh7(h:p:=by (repeat (first|exact E6 _ _|(refine Below.alloc ?_ Io _)|(refine Below.setCell ?_ Io _)))):p:=h
theorem Eh8(h:p:=by intro _ hw';obtain⟨y9,rfl⟩:=hw';have El:=EC y9;replace S1:=J<|S1.out.B El;replace MM:=J<|MM.out.trans (Ev.Eu El);clear y0 El KG Up dF PL Ud CN;generalize Ex gE y9=iy at*;have TH:=J<|aE S1.out.core 11 rfl 12 sj;go_wp2_with ((with_reducible refine JI 50 ?_);(with_reducible refine wpList_store_mid O 50 _ _ O gc 102 p'.v.toArray ?_ ?_ ?_ ?_ ?_ ?_);(·rfl);(·rfl);(·exact TH.out);(·exact fS.2);(·simp[Pt.v,Value.oneCell']);refine Ed.mk ?_);refine Ed.in ?_;have S4:=S1.out.dA p' (S1.out.core.ok.dA dB.out);replace S1:=J S4.1;replace MM:=J<|MM.out.trans S4.2;clear S4 TH;change wpList _ _ _ _ _ (iy.setCells gc 102 p'.v);generalize iy.setCells gc 102 p'.v=w22 at*;go_wp2_with fail;go_end0;have e1:ns+m2+m3+m4=ns+(m2+m3+m4):=U;have h8:=S1.out;rw[e1,List.append_assoc] at h8;exact⟨O,⟨_,m2+m3+m4,_,Sp,Sq,h8,SI HT.out HT1.out (fun x hx=>List.mem_append_left _ (List.mem_append_left _ (Fs.out x hx))) (fun h=>Sr) T1 KQ Si.out (fun x hx=>List.mem_append_right _ hx) iC.out p' XK.out⟩,MM.out⟩):p:=h
theorem Eh9(h:p:=by go_wp2_with fail;go_ret;exact⟨O,O⟩):p:=h
theorem Eh_(h:p:=by have d6:v 6=V (X ⟨gm,4,Z⟩):=hd.at 6 rfl;refine JY (f:=206) (args:= #[v 6]) (Ei O) Ew ?_;rw[d6];exact(lO gm 4 w').mono fun e w'' ⟨v,he,⟨gb,e2,lb,kb⟩,hb'⟩=>⟨v,he,hb',gb,e2,Ey (Ey BB.out.size hb.size) lb,kb⟩):p:=h
theorem EiE(h:p:=by obtain rfl:p=0:=U;exact Ep Ew O):p:=h
theorem EiI(h:p:=by go_wp2_with (first|((with_reducible refine In 50 ?_);refine IP rfl 183 _ rfl (ED (IZ 0)) fD ?_)|(with_reducible refine wS (cs:=(ED (IZ 0))) Oc K2 ?_ (ho:=I4 _) (hn:=I4 _) (h1:=XG _)));refine EQ (v:=Es #[EU (ED (IZ 0)),E I 13]) (ax Oc O _ _ w.heap.size _ _ O O (K2.out.setRow _) (I4 _)) O ?_;exact PF.out _ _ O (D.setRow_other KT.out w.heap.size _ U) (ON.out.U7 (g2:=w.heap.size) (E5 _) (Zo _) ON.out.size)):p:=h
theorem EiJ(h:p:=by obtain rfl:p=0:=U;have d2:xv 2=V (X ⟨gs,0,Z⟩):=hd.at 2 rfl;have cc:wq.cell? ⟨gs,0,Z⟩=X (V (X ⟨gc,0,Z⟩)):=hp.2.1.Iu;exact Ep ZN O):p:=h
theorem EiO(h:p:=by exact PF.out _ _ O (D.setRow_other KT.out w.heap.size _ U) (ON.out.U7 (g2:=w.heap.size) (E5 _) (Zo _) ON.out.size)):p:=h
theorem EiU(h:p:=by exact E_ EF (Ei O) Ew O):p:=h
theorem EiX(h:p:=by have B1:=J<|Eo w (EI #[E I sz,E I lo,E I hi,.func (.func Y5) #[] #[gp],.func (.func S) #[] #[gp]] 298);have KB:=J<|D.new w #[E I sz,E I lo,E I hi,.func (.func Y5) #[] #[gp],.func (.func S) #[] #[gp]] 298;have HR:=J<|Iq hr B1.out;clear hr;go_enter Tryz.func209,Tryz.ntmps209;go_wp2_with fail;generalize w.alloc (EI #[E I sz,E I lo,E I hi,.func (.func Y5) #[] #[gp],.func (.func S) #[] #[gp]] 298)=w1 at*;have cb:=fun j=>KB.out.cell j;(with_reducible refine(CT.out _ HR.out).mono ?_);rintro e w2 ⟨rfl,rfl⟩;go_wp2_with fail;(with_reducible refine(HS.out.call _ B1.out).mono ?_);rintro e w3 ⟨rfl,hq⟩;clear HE;go_wp2_with fail;go_ret;exact⟨O,_,B1.out,hq⟩):p:=h
theorem EiZ(h:p:=by subst hcd;go_wp2_with fail;(with_reducible refine(lQ lo gq L most s _ LQ.out Q1.out HL.out).mono ?_);rintro e6 w6 ⟨⟨bb,rfl⟩,⟨L',q6,sq⟩,m6⟩;replace Q1:=J q6;have SQ:=J sq;replace KR:=J<|m6.Em KR.out EZ EZ;replace KB:=J<|m6.Em KB.out EZ EZ;replace MM:=J<|MM.out.trans m6;clear m6 q6 sq;go_wp2_with (with_reducible first|refine wL EP KB ?_ (hn:=RS.out)|refine wS (cs:=rv) EP KR ?_ (hn:=RS.out) (h1:=RO.out));refine EQ (fg EP O _ _ gr rv (E I 3) (E I 0) O O O (KR.out.setRow _) RS.out) O ?_;refine⟨⟨t2,3,0,xk,.inr (.inl ⟨O,O,HG.out,L',SQ.out,Q1.out.Ul _ KR.out EZ EZ⟩)⟩,MM.out.Um _ LR.out lw.out KR.out EZ EZ⟩):p:=h
theorem Eia(h:p:=by have c0:=hm.cell 0;rw[Xj _ _ U,if_neg U,hk] at c0;have CF:=J<|fun W=>Bo gm 2 W;have BB:=J<|E6 w.heap.size w;clear hm hk;go_enter Tryz.func160,Tryz.ntmps160;go_wp2_with fail;(with_reducible refine(CF.out _).mono ?_);rintro e w1 ⟨v,rfl,⟨gb,rfl,lb,kb⟩,b1⟩;have FB:Ea (Eh w (w1.alloc (EI (EY [(Ui,gb)]).toArray 298))):=J<|b1.alloc b1.size _;have FK:Ea (Uy (w1.alloc (EI (EY [(Ui,gb)]).toArray 298)) w.heap.size w1.heap.size gm [(Ui,gb)]):=J (X_ (D.new w1 _ 298) (fun i hi=>by have:i=0:=Om;subst this;exact⟨lb,D.alloc kb _⟩) b1.size);clear b1 c0 CF kb;unfold Iw;go_wp2_with fail;go_ret2;exact⟨_,_,_,O,O,FK.out,FB.out⟩):p:=h
theorem Eib(h:p:=by have t9:(cd !=0)=G:=aC;have rW:=J hcd;clear hcd;go_wp2_with fail;(with_reducible refine(mJ gk tv TS.out TO.out cd _ KT.out).mono ?_);rintro e7 w7 ⟨rfl,b7⟩;replace KT:=EN KT b7;replace KR:=EN KR b7;replace KP:=EN KP b7;replace Q1:=J<|Q1.out.B b7;replace MM:=J<|MM.out.trans (Is.Eu b7 (Ey lw.out MM.out.bel.size));clear b7;go_wp2_with (with_reducible refine wS (cs:=tv) EP KR ?_ (hn:=TS.out) (h1:=TO.out));refine EQ (fg EP O _ _ gr tv (E I 0) (E I cd) O O O (KR.out.setRow _) TS.out) O ?_;refine⟨⟨t,0,cd,Zv,.inl ⟨rW.out,O,O,Q1.out.Ul _ KR.out EZ EZ⟩⟩,MM.out.Um _ LR.out lw.out KR.out EZ EZ⟩):p:=h
theorem Eic(h:p:=by go_wp2_with (first|((with_reducible refine In 5 ?_);refine IP rfl 298 _ rfl fv BF.out ?_)|(with_reducible refine wS (cs:=fv) UF K8 ?_ (hn:=FSq.out) (h1:=O1.out)));refine EQ (v:=EU fv) (Jb UF O _ _ (w.heap.size+1) _ O (K8.out.setRow _) FSq.out) O ⟨_,O,HB.out _ (K4.out.setRow_other _ _ U),E2 BB.out U _⟩):p:=h
theorem Eid(h:p:=by go_ret;exact⟨O,O⟩):p:=h
theorem Eif(h:p:=by obtain⟨gl,fs,e,m,lg,bx,kk⟩:=h;exact⟨gl,fs,e,m,lg,bx.B hb,kk.B hb⟩):p:=h
theorem Eig(h:p:=by have d11:xv 11=Eb G:=hd.at 11 rfl;exact Xh (Xf O O (congrArg X d11) O) O):p:=h
theorem Eih(h:p:=by have HL2:=J hl2;clear hl2 hx;go_wp2_with fail;(with_reducible refine CP.out.mono ?_);rintro e w9 ⟨rfl,ZX,o9⟩;replace TT:=J<|TT.out.trans (I8.iJ o9);replace K:=J<|o9.Em K.out I_.out.symm;go_wp2_with fail;go_ret;exact⟨⟨_,O⟩,⟨Xu,x,HP.out,HL2.out,Ln.cut K.out,ZX⟩,TT.out⟩):p:=h
theorem Eii(h:p:=by clear b1 c0 CF kb;unfold Iw;go_wp2_with fail;go_ret2;exact⟨_,_,_,O,O,FK.out,FB.out⟩):p:=h
theorem Eij(h:p:=by have B1:=J<|Eo w (EI #[E I sz,E I lo,E I hi,.func (.func Y5) #[] #[gp],.func (.func S) #[] #[gp]] 298);have KB:=J<|D.new w #[E I sz,E I lo,E I hi,.func (.func Y5) #[] #[gp],.func (.func S) #[] #[gp]] 298;have HR:=J<|Iq hr B1.out;clear hr;go_enter Tryz.func209,Tryz.ntmps209;go_wp2_with fail;generalize w.alloc (EI #[E I sz,E I lo,E I hi,.func (.func Y5) #[] #[gp],.func (.func S) #[] #[gp]] 298)=w1 at*;have cb:=fun j=>KB.out.cell j;(with_reducible refine(CT.out _ HR.out).mono ?_);rintro e w2 ⟨rfl,rfl⟩;go_wp2_with fail;go_ret;exact⟨O,B1.out⟩):p:=h
theorem Eik(h:p:=by obtain rfl:p=0:=U;have d3:xv 3=V (X ⟨gc,0,Z⟩):=hd.at 3 rfl;exact Ep Xi O):p:=h
theorem Eil(h:p:=by obtain rfl:p=0:=U;have d1:xv 1=V (X ⟨gs,0,Z⟩):=hd.at 1 rfl;exact Ep UK O):p:=h
theorem Eim(h:p:=by obtain rfl:p=0:=U;have d0:xv 0=V (X ⟨gs,0,Z⟩):=hd.at 0 rfl;exact Ep OQ O):p:=h
theorem Ein(h:p:=by have d5:v 5=V (X ⟨gm,0,Z⟩):=hd.at 5 rfl;exact E_ EF (Ei O) Zq O):p:=h
theorem Eio(h:p:=by have d4:v 4=V (X ⟨gm,0,Z⟩):=hd.at 4 rfl;exact E_ EF (Ei O) Uj O):p:=h
theorem Eip(h:p:=by have d1:v 1=V (X ⟨gm,0,Z⟩):=hd.at 1 rfl;exact E_ EF (Ei O) UK O):p:=h
theorem Eiq(h:p:=by have d0:v 0=V (X ⟨gm,0,Z⟩):=hd.at 0 rfl;exact E_ EF (Ei O) OQ O):p:=h
theorem Eir(h:p:=by have r3:=Iq r2 BB;generalize hxs:ps[i]=xs at*;generalize hys:(ps.take i).flatten=ys at*;obtain⟨k,hk⟩:=JO xs.length;rw[hk] at ck hle;rw[hn] at hle;have vz:=J hn;have vB:=J hk;have ai:=J ho;have XS:=J BB;have R3:=J r3;have HST:=J hst;clear hn hk ho BB r3 r2 e2 hst hxs hys;go_wp2_with ((at_builtin;refine qU _ O (.tmp 12) (.tmp 13) O w.heap.size A d n ys vz.out O ai.out Y4 c2 k xs vB.out O R3.out U XS.out.size ?_;intro A1 jJ w4 o1 b4));exact⟨⟨i+1,A1,jJ,n+k,U,Ek,O,Mg,by rw[HST.out];exact o1,XS.out.trans b4⟩,JN⟩):p:=h
theorem Eis(h:p:=by intro _ hw';obtain⟨y8,rfl⟩:=hw';have El:=EC y8;replace KT:=J<|KT.out.B El;replace ON:=J<|ON.out.trans (EG.Eu El);clear El;generalize Ex w5 y8=w6 at*;have KF:=J<|TP.out w6 KT.out;replace ON:=J<|ON.out.trans (JX (g:=g) sv 81 w6);replace TH:=J<|TH.out w6 KT.out;go_wp2_with ((with_reducible refine JI 160 ?_);(with_reducible refine wpList_store_mid O 160 _ _ O g 81 sv.toArray ?_ ?_ ?_ ?_ ?_ ?_);(·rfl);(·rfl);(·rw[SZ.out];exact TH.out);(·rw[SZ.out];exact Xm.2);(·exact S1.out));go_ret;exact⟨O,KF.out,ON.out⟩):p:=h
theorem Eit(h:p:=by intro _ hw';obtain⟨y8,rfl⟩:=hw';have El:=EC y8;replace KT:=J<|KT.out.B El;replace ON:=J<|ON.out.trans (EG.Eu El);clear El;generalize Ex w5 y8=w6 at*;have KF:=J<|TP.out w6 KT.out;replace ON:=J<|ON.out.trans (JX (g:=g) sv 42 w6);replace TH:=J<|TH.out w6 KT.out;go_wp2_with ((with_reducible refine JI 160 ?_);(with_reducible refine wpList_store_mid O 160 _ _ O g 42 sv.toArray ?_ ?_ ?_ ?_ ?_ ?_);(·rfl);(·rfl);(·rw[SZ.out];exact TH.out);(·rw[SZ.out];exact Xm.2);(·exact S1.out));go_ret;exact⟨O,KF.out,ON.out⟩):p:=h
theorem Eiu(h:p:=by intro _ hw';obtain⟨y8,rfl⟩:=hw';have El:=EC y8;replace KT:=J<|KT.out.B El;replace ON:=J<|ON.out.trans (EG.Eu El);clear El;generalize Ex w5 y8=w6 at*;have KF:=J<|TP.out w6 KT.out;replace ON:=J<|ON.out.trans (JX (g:=g) sv 3 w6);replace TH:=J<|TH.out w6 KT.out;go_wp2_with ((with_reducible refine JI 160 ?_);(with_reducible refine wpList_store_mid O 160 _ _ O g 3 sv.toArray ?_ ?_ ?_ ?_ ?_ ?_);(·rfl);(·rfl);(·rw[SZ.out];exact TH.out);(·rw[SZ.out];exact Xm.2);(·exact S1.out));go_ret;exact⟨O,KF.out,ON.out⟩):p:=h
theorem Eiv(h:p:=by simp only[ho,hx,Instr.loadAt,Instr.sureAddr,Sem.run_bind,Sem.run_pure,Result.andThen_ok,hrun]):p:=h
theorem Eiw(h:p:=by intro _ hw';obtain⟨y9,rfl⟩:=hw';have El:=EC y9;replace S1:=J<|S1.out.B El;replace MM:=J<|MM.out.trans (Ev.Eu El);clear y0 sS El;generalize Ex wr y9=gE at*;go_wp2_with fail;(with_reducible refine(xw lo hi g gc gq gt gs _ _ _ md ⟨2,4,0⟩ _ S1.out pJ.out Fi).mono ?_);rintro e21 iy ⟨rfl,dN,m21⟩;have S8:=J dN;replace MM:=J<|MM.out.trans m21;clear dN m21;go_wp2_with fail;go_end0;exact⟨O,⟨_,m+m2,new,RM,RV,.inr ⟨O,L2,t2,md,S8.out.core.ok.tok,HO.out.1,HO.out.2,O,mx.out⟩⟩,MM.out⟩):p:=h
theorem Eix(h:p:=by (with_reducible refine CF.out.mono ?_);rintro x W2 ⟨rfl,b2⟩;replace K3:=J<|K3.out.B b2;replace K4:=J<|K4.out.B b2;replace K5:=J<|K5.out.B b2;replace K6:=J<|K6.out.B b2;replace BB:=ET BB b2;clear b2 CF;go_wp2_with (with_reducible first|refine wL EP K3 ?_|refine wS (cs:= #[E I h,E I e,E I o,E I oa,E I om,E I la,E I lm,Eb b]) EP K6 ?_ (h1:=OP));refine EQ (O0 EP O _ _ (w.heap.size+1+1+1) _ _ O O (K6.out.setRow _) O) O ⟨?_,E2 (g:=w.heap.size+1+1+1) BB.out U _⟩;rw[HE.out];rfl):p:=h
theorem Eiy(h:p:=by intro _ hw';obtain⟨y9,rfl⟩:=hw';have El:=EC y9;replace KT:=J<|KT.out.B El;replace K7:=J<|K7.out.B El;replace ON:=J<|ON.out.trans (EG.Eu El);clear c1 KX CO CM El;generalize Ex w1 y9=w2 at*;go_wp2_with fail;go_ret;exact⟨O,KT.out,ON.out⟩):p:=h
theorem Eiz(h:p:=by intro ev o w ho;unfold execOp;simp only[ho];kernel_rfl):p:=h
theorem EiA(h:p:=by exact(qG gm 3 w').mono fun e w'' ⟨v,he,⟨gb,e2,lb,kb⟩,hb'⟩=>⟨v,he,hb',gb,e2,Ey (Ey BB.out.size hb.size) lb,kb⟩):p:=h
theorem EiB(h:p:=by have g2:v 2=Eb Y:=hd.at 2 rfl;exact E_ EF (Xd O O (congrArg X g2)) Ew O):p:=h
theorem EiC(h:p:=by have K:=J K;have HC:=J HC;have I_:=J hne;clear hne;go_enter Tryz.func188,Tryz.ntmps188;go_wp2_with fail;refine wp_loop_rounds 1 ?_;rw[Ib];go_wp2_with fail;go_end0;exact⟨O,⟨_,List.Perm.refl _,K.out⟩,EG.refl _ _⟩):p:=h
theorem EiD(h:p:=by have d4:xv 4=Eb Y:=hd.at 4 rfl;have d6:xv 6=u (X ⟨gp,51,Z⟩) 3 3:=hd.at 6 rfl;obtain⟨cap,e1,hok⟩:=Jp.ok (hd.at 7 rfl:Jp 0 1000 (xv 7) wq);refine IY (f:=62) (args:= #[u (X ⟨gp,51,Z⟩) 3 3,.func (.func 80) #[] cap]) (J6 O O (congrArg X d4)) Gr ?_;exact(gd _ cap ([p 51,p 52,p 53].map (E .i64)) (Ol 0 1000) gp 51 3 3 wq O U (hok _ (jY O)) (Gq.out wq hp)).mono fun e w2 ⟨he,hb⟩=>⟨Eb G,he.trans Gt,hb,O⟩):p:=h
theorem EiF(h:p:=by obtain rfl:p=0:=U;have d4:xv 4=V (X ⟨gc,0,Z⟩):=hd.at 4 rfl;exact Ep Uj O):p:=h
theorem EiG(h:p:=by intro xv y_ hp hd;simp only[EB,Ic,Ig,IJ,IU];have a17:xv 17=Eb G:=hd 17 EZ;have fI:xv 18=Eb G:=hd 18 EZ;rw[a17,fI];clear hd a17 fI;replace BB:=J hp;clear hp;go_wp2_with fail;go_ret;exact⟨X4,bt B1.out BB.out⟩):p:=h
theorem EiH(h:p:=by have:j∈Of ops listed:=bK.2 ⟨hj,hc⟩;rw[List.length_eq_zero_iff.1 (Nat.le_zero.1 hf)] at this;cases this):p:=h
theorem EiK(h:p:=by obtain rfl:p=0:=U;have d9:xv 9=V (X ⟨gs,0,Z⟩):=hd.at 9 rfl;have cc:wq.cell? ⟨gs,0,Z⟩=X (V (X ⟨gc,0,Z⟩)):=hp.2.1.Iu;exact Ep sw O):p:=h
theorem EiL(h:p:=by have g2:v 2=Eb Y:=hd.at 2 rfl;have d3:v 3=u A (m+8) c:=hd.at 3 rfl;obtain⟨A',d',d9,r9⟩: ∃A' d',v 9=u A' (m+8) d'/\Row w' A' (bd++tg):=hd.at 9 rfl;refine JY (f:=168) (args:= #[v 3,v 9]) (Xd O O (congrArg X g2)) Ew ?_;rw[d3,d9];refine(vD A A' xs (bd++tg) (m+8) (m+8) c d' w' HM.out lI.out (HR.out.B (bt BB.out hb)) r9 U U).mono fun e w'' ⟨he,hw⟩=>⟨_,he,MF,?_⟩;rw[SM.out];rfl):p:=h
theorem EiM(h:p:=by obtain⟨g,A,d3,k3,r3⟩: ∃g A,v 3=u (X ⟨g,0,Z⟩) 2 2/\D w' g #[u A 64 64,u (X ⟨g7,0,Z⟩) 32 32] 23/\Row w' A x2:=hd ⟨3,.data⟩ Ek O;refine nf (f:=243) (args:= #[v 3]) (Ei O) Ew ?_;rw[d3];exact(vC g 2 A (X ⟨g7,0,Z⟩) 64 32 64 32 x2 s1 w' ja.out gT.out k3 r3 (Zk (K7.out.B hb) lE.out) U).mono fun e w'' ⟨⟨A1,d1,he,o1⟩,hb'⟩=>⟨_,he,hb',_,_,O,o1.row⟩):p:=h
theorem EiN(h:p:=by rintro e7 w7 ⟨rfl,s7,m7⟩;have S8:=J s7;replace MM:=J<|MM.out.trans m7;clear s7 m7;go_wp2_with fail;refine EQ (results_none O _ _ _) O ?_;exact⟨O,⟨c,0,1,_,U,S8.out,.inl O⟩,MM.out⟩):p:=h
theorem EiP(h:p:=by have d1:xv 1=V (X ⟨gp,50,Z⟩):=hd.at 1 rfl;have cc:wq.cell? ⟨gp,50,Z⟩=X (E I (p 50)):=(PC.out _ hp 50 U U);exact Ep iG O):p:=h
theorem EiQ(h:p:=by refine IY (f:=66) (args:= #[E I 1,E I 1000]) (Ei O) Ew ?_;exact(X3 1 1000 wq).mono fun e w2 ⟨v,he,hv,hb⟩=>⟨v,he,hb,hv⟩):p:=h
theorem EiR(h:p:=by obtain rfl:k=n:=U;have t1:decide ((k:Int)<(k:Int))=Y:=E9 U;go_wp2_with fail;go_ret;refine⟨?_,BB.out⟩;rw[hr.out];have:=HT.out;rw[List.take_of_length_le w_] at this;rw[this];rfl):p:=h
theorem EiS(h:p:=by obtain⟨g,d1,r1⟩: ∃g,v 1=u (X ⟨g,0,Z⟩) 64 64/\Row w' (X ⟨g,0,Z⟩) x2:=hd ⟨1,.data⟩ Ek O;have d2:v 2=_:=hd ⟨2,.data⟩ Ek O;refine Hm (v:=u (X ⟨w'.heap.size,0,Z⟩) 2 2) (w':=w'.alloc (EI #[u (X ⟨g,0,Z⟩) 64 64,u (X ⟨g7,0,Z⟩) 32 32] 23)) (Ei O) (by simp[go_sem,d1,d2]) (Eo _ _) ⟨_,_,O,D.new _ _ _,Iq r1 (Eo _ _)⟩):p:=h
theorem EiT(h:p:=by exact E_ EF (Ei O) fB ⟨gl,fs,O,m,lg,bx,kk⟩):p:=h
theorem EiV(h:p:=by have d4:xv 4=Eb Y:=hd.at 4 rfl;refine IY (f:=66) (args:= #[E I 0,E I 1000]) (J6 O O (congrArg X d4)) Ew ?_;exact(X3 0 1000 wq).mono fun e w2 ⟨v,he,hv,hb⟩=>⟨v,he,hb,hv⟩):p:=h
theorem EiW(h:p:=by have t9:(cd !=0)=G:=aC;go_wp2_with fail;(with_reducible refine(dx lo hi g gc gq gt gs _ ns rs k v1 cd _ S1.out JP Ju).mono ?_);rintro e7 w7 ⟨rfl,s7,m7⟩;have S8:=J s7;replace MM:=J<|MM.out.trans m7;clear s7 m7;go_wp2_with fail;refine EQ (results_none O _ _ _) O ?_;exact⟨O,⟨_,1,_,U,S8.out,L',.inl ⟨cd,O,O⟩⟩,MM.out⟩):p:=h
theorem EiY(h:p:=by (with_reducible refine(CP.out _).mono ?_);rintro x w2 ⟨rfl,b2⟩;replace K4:=J<|K4.out.B b2;replace BB:=ET BB b2;clear b2;go_wp2_with (with_reducible refine wS (cs:=r) EP K4 ?_ (hn:=SR.out) (h1:=OR.out));refine EQ (Jb EP O _ _ (w.heap.size+1) r O (K4.out.setRow r) SR.out) O ⟨O,?_⟩;exact E2 (g:=w.heap.size+1) BB.out U r):p:=h
theorem Ei0(h:p:=by have:=gw (l.take m) 0 i x a0 o v hnd (htk i o hi ho);rw[Nat.zero_add] at this;exact this):p:=h
theorem Ei1(h:p:=by have g2:v 2=Eb Y:=hd.at 2 rfl;have d4:v 4=EU (Ej key):=hd.at 4 rfl;have d5:v 5=E I s:=hd.at 5 rfl;have d8:v 8=u A m c:=hd.at 8 rfl;refine JY (f:=171) (args:= #[v 4,v 5,v 8]) (Xd O O (congrArg X g2)) Ew ?_;rw[d4,d5,d8];exact(CC.out w' (bt BB.out hb)).mono fun e w'' ⟨⟨A',d',he,o⟩,hb'⟩=>⟨_,he,hb',A',d',O,o.row⟩):p:=h
theorem Ei2(h:p:=by obtain⟨rv,hw,cd,hpq,e25⟩: ∃(rv:Array M) (hw:Int) (cd:Int),PQ rv hw cd/\xv 25=Es #[EU rv,E I hw,E I cd]:=hd.at 25 rfl;exact Ep xH ⟨rv,hw,cd,hpq,e25,O⟩):p:=h
theorem Ei3(h:p:=by exact(X3 1 1000 wq).mono fun e w2 ⟨v,he,hv,hb⟩=>⟨v,he,hb,hv⟩):p:=h
theorem Ei4(h:p:=by go_wp2_with fail;(with_reducible refine(dx lo hi g gc gq gt gs c ns rs k v1 cd _ S1.out JP Ju).mono ?_);rintro e7 w7 ⟨rfl,s7,m7⟩;have S8:=J s7;replace MM:=J<|MM.out.trans m7;clear s7 m7;go_wp2_with fail;refine EQ (results_none O _ _ _) O ?_;exact⟨O,⟨_,1,_,U,S8.out,.inl ⟨cd,O,O⟩⟩,MM.out⟩):p:=h
theorem Ei5(h:p:=by have d2:xv 2=E I (p 46):=hd.at 2 rfl;obtain⟨wa,wb,e1,ca,cb⟩:Jp 1 1000 (xv 0) wq:=hd.at 0 rfl;refine IY (f:=80) (args:= #[E I (p 46),V (X ⟨wa,0,Z⟩),V (X ⟨wb,0,Z⟩)]) (Ei O) yV ?_;exact(fE (p 46) 1 1000 wa wb wq ca cb).mono fun e w2 ⟨he,hb⟩=>⟨Eb G,he.trans (by rw[pB.out]),j4,O⟩):p:=h
theorem Ei6(h:p:=by generalize Ej key=kv at*;go_enter Tryz.func124,Tryz.ntmps124;go_wp2_with fail;go_ret;exact⟨O,Eo w _⟩):p:=h
theorem Ei7(h:p:=by refine EQ (O0 EP O _ _ (gk+1) rv (E I 5) O O (KR.out.setRow _) RS.out) O ?_;refine⟨⟨t3,5,L',congrArg (fun v=>Ending.returned (Es #[v,E I 5])) OC.out.symm,(by rw[Z9.out];exact .inr (.inr ⟨O,h4,xn,fz.out⟩)),SQ.out,?_⟩,MM.out.Um _ Zw lw.out KR.out EZ EZ⟩;exact Q1.out.Ul _ KR.out EZ EZ):p:=h
theorem Ei8(h:p:=by replace BB:=J hp;clear hp;go_wp2_with fail;go_ret;exact⟨X4,bt B1.out BB.out⟩):p:=h
theorem Ei9(h:p:=by unfold Oo;go_enter Tryz.func140,Tryz.ntmps140;go_wp2_with fail;refine EQ uY O ⟨O,?_⟩;exact JF _ _ _):p:=h
theorem Ei_(h:p:=by intro j hj;simp only[List.mem_range'_1] at hj;have hjn:j<ops.size:=U;exact bK.2 ⟨hjn,ht j hj.1 hjn⟩):p:=h
theorem EjE(h:p:=by obtain rfl:p=0:=U;have d11:xv 11=V (X ⟨gc,0,Z⟩):=hd.at 11 rfl;exact Ep Za O):p:=h
theorem EjI(h:p:=by obtain rfl:p=0:=U;have d10:xv 10=V (X ⟨gc,0,Z⟩):=hd.at 10 rfl;exact Ep Zp O):p:=h
theorem EjJ(h:p:=by exact⟨⟨_,O,_,_,O,Zc OW.out K2.out _⟩,E2 I5.out (E5 _) _⟩):p:=h
theorem EjO(h:p:=by obtain rfl:p=0:=U;have d8:xv 8=V (X ⟨gs,0,Z⟩):=hd.at 8 rfl;exact Ep am O):p:=h
theorem EjU(h:p:=by obtain rfl:p=0:=U;have d7:xv 7=V (X ⟨gs,0,Z⟩):=hd.at 7 rfl;exact Ep dk O):p:=h
theorem EjX(h:p:=by replace K4:=J<|K4.out.B hb;replace BB:=ET BB hb;replace AL:=J AL;clear hr hb d5 ea;go_wp2_with (with_reducible refine wS (cs:=Ej ans) JC K4 ?_ (ho:=Uh) (hn:=BO) (h1:=Uw _));refine EQ (v:=EU (Ej ans)) (Jb JC O _ _ (w.heap.size) _ O (K4.out.setRow _) BU) O ⟨O,E2 BB.out U _⟩):p:=h
theorem EjZ(h:p:=by rw[List.eq_nil_iff_forall_not_mem];intro j hj;obtain⟨h1,o,ho,-⟩:=mem_ready.1 hj;have hjn:=(Ja.1 ho).1;rw[hl j hjn] at h1;simp at h1;omega):p:=h
theorem Eja(h:p:=by exact Ep Ew O):p:=h
theorem Ejb(h:p:=by rw[List.eq_nil_iff_forall_not_mem];intro j hj;obtain⟨h1,o,ho,-⟩:=mem_ready.1 hj;have hjn:=(Ja.1 ho).1;rw[hall j hjn] at h1;cases h1):p:=h
theorem Ejc(h:p:=by refine EQ (O0 EP O _ _ (w.heap.size+1+1+1) _ _ O O (K6.out.setRow _) O) O ⟨?_,E2 (g:=w.heap.size+1+1+1) BB.out U _⟩;rw[HE.out];rfl):p:=h
theorem Ejd(h:p:=by rintro e w' ⟨rfl,rfl⟩;go_wp2_with fail;refine(HH.out _ m1 m2).mono ?_;rintro e w' ⟨rfl,rfl⟩;go_wp2;go_ret;exact⟨O,Eo _ _⟩):p:=h
theorem Ejf(h:p:=by rename_i hw;rw[if_pos hw] at st;refine .inl (Oper.wp_mono (fun a' w' h'=> ?_) st);obtain⟨v,rfl,hb',hv⟩:=h';exact next v w' hb' hv):p:=h
theorem Ejg(h:p:=by have QM:=MM.out.trans (I8.lP (I8.XY o4) K.out KQ.out k4 jq lg LQ.out);go_wp2_with fail;go_end0;exact⟨O,⟨L4,_,cp,Xv,jq,OW⟩,QM⟩):p:=h
theorem Ejh(h:p:=by have:=List.length_filter_le (fun i=> !(Array.replicate l.toArray.size Y).getD i G) (List.range l.toArray.size);simpa[Of] using this):p:=h
theorem Eji(h:p:=by obtain⟨A,d,d4,r4⟩: ∃A d,v 4=u A 96 d/\Row w' A (x2++s1):=hd ⟨4,.data⟩ Ek O;refine nf (f:=82) (args:= #[v 4]) (Ei O) Ew ?_;rw[d4];exact(nL A (x2++s1) 96 d w' Mo r4 U (RT.out.B (bt BB.out hb))).mono fun e w'' ⟨he,hb'⟩=>⟨_,he,hb',O⟩):p:=h
theorem Ejj(h:p:=by have d5:xv 5=Eb G:=hd.at 5 rfl;exact Xh (Xf O O (congrArg X d5) O) O):p:=h
theorem Ejk(h:p:=by have d4:xv 4=Eb G:=hd.at 4 rfl;exact Xh (Xf O O (congrArg X d4) O) O):p:=h
theorem Ejl(h:p:=by exact(X3 0 1000 wq).mono fun e w2 ⟨v,he,hv,hb⟩=>⟨v,he,hb,hv⟩):p:=h
theorem Ejm(h:p:=by have d1:xv 1=V (X ⟨gp,46,Z⟩):=hd.at 1 rfl;have cc:wq.cell? ⟨gp,46,Z⟩=X (E I (p 46)):=(PC.out _ hp 46 U U);exact Ep iG O):p:=h
theorem Ejn(h:p:=by replace hp:=J hp;go_enter Tryz.func211,Tryz.ntmps211;go_wp2_with fail;(with_reducible refine hp.out.mono ?_);rintro e w1 ⟨rfl,r1,b1⟩;replace r1:=J r1;replace b1:=J b1;clear hp h1;go_wp2_with fail;go_ret;exact⟨⟨_,O,r1.out⟩,b1.out⟩):p:=h
theorem Ejo(h:p:=by exact Q1.out.Ul _ KR.out EZ EZ):p:=h
theorem Ejp(h:p:=by go_wp2_with fail;refine EQ (v:=EU #[E I 0,E I 0,E I 0,u Z 0 0]) FM O ?_;rw[HF.out];exact⟨⟨_,O,pg _ _ aO O⟩,JF _ _ _⟩):p:=h
theorem Ejq(h:p:=by exact SS.out.via (fun k cs S hS hk=>ho.Em hk (E7 hk OE.out hG)) hb):p:=h
theorem Ejr(h:p:=by exact⟨j,hj,fun k hk hk2=>h ⟨k,hk,hk2⟩⟩):p:=h
theorem Ejs(h:p:=by obtain⟨i,h1,h2,h3,h4⟩:=info_parts h;exact⟨i,h1,h2,h3,h4⟩):p:=h
theorem Ejt(h:p:=by have:=List.length_filter_le (fun i=> !(Array.replicate ops.size Y).getD i G) (List.range ops.size);simpa[Of] using this):p:=h
theorem Eju(h:p:=by have d4:xv 4=Eb Y:=hd.at 4 rfl;have d5:xv 5=V (X ⟨gp,50,Z⟩):=hd.at 5 rfl;exact Ir EF (J6 O O (congrArg X d4)) Zq O):p:=h
theorem Ejv(h:p:=by have K:=J K;have HC:=J HC;have I_:=J hne;clear hne;go_enter Tryz.func187,Tryz.ntmps187;go_wp2_with fail;refine wp_loop_rounds 1 ?_;rw[Ib];go_wp2_with fail;go_ret;exact⟨⟨_,O⟩,⟨_,List.Perm.refl _,K.out⟩,EG.refl _ _⟩):p:=h
theorem Ejw(h:p:=by exact XD (Ei O) (ig _ _ _ O) (Eo wq _) ⟨wq.heap.size,_,O,hp.1,O,D.new _ _ _⟩):p:=h
theorem Ejx(h:p:=by have d6:v 6=V (X ⟨gm,5,Z⟩):=hd.at 6 rfl;refine JY (f:=241) (args:= #[v 6]) (Ei O) Ew ?_;rw[d6];exact(NP gm 5 w').mono fun e w'' ⟨v,he,⟨gb,e2,lb,kb⟩,hb'⟩=>⟨v,he,hb',gb,e2,Ey (Ey BB.out.size hb.size) lb,kb⟩):p:=h
theorem Ejy(h:p:=by rw[Nat.zero_add] at this;exact this):p:=h
theorem Ejz(h:p:=by go_wp2_with (go_at_call 162;refine(lC _ _ _ N1.out).mono ?_;rintro e w' ⟨rfl,rfl⟩);go_ret;exact⟨O,Eo _ _⟩):p:=h
theorem EjA(h:p:=by obtain rfl:p=0:=U;have d12:xv 12=V (X ⟨gc,56,Z⟩):=hd.at 12 rfl;obtain⟨big,KB,OY⟩:=aD hp.2.1.core;have EX:big.extract 56 (56+8)=Ik:=(OY 1 c.tok.v O).trans XE.out;exact ah EF EP (Ei O) ⟨O,d12⟩ KB Un.out EX O):p:=h
theorem EjB(h:p:=by show(wr.setCell _ _).heap[_]?=_;rw[Below.heap_setCell _ _ _ _ UX];exact HZ.out):p:=h
theorem EjC(h:p:=by show(wr.setCell _ _).heap[_]?=_;rw[Below.heap_setCell _ _ _ _ UX];exact HP.out):p:=h
theorem EjD(h:p:=by show(wr.setCell _ _).heap[_]?=_;rw[Below.heap_setCell _ _ _ _ UX];exact HN.out):p:=h
theorem EjF(h:p:=by have EX:big.extract 56 (56+8)=Ik:=(OY 1 c.tok.v O).trans XE.out;exact ah EF EP (Ei O) ⟨O,d12⟩ KB Un.out EX O):p:=h
theorem EjG(h:p:=by have d11:xv 11=Eb Y:=hd.at 11 rfl;have d13:xv 13=V (X ⟨gp,54,Z⟩):=hd.at 13 rfl;have cc:wq.cell? ⟨gp,54,Z⟩=X (E I (p 54)):=(PC.out _ hp 54 U U);exact Ir EF (J6 O O (congrArg X d11)) (by simp[go_sem,d13,cc]) O):p:=h
theorem EjH(h:p:=by have EX:big.extract 56 (56+8)=Ik:=(OY 1 c.tok.v O).trans XE.out;exact ah EF EP (Ei O) ⟨O,d5⟩ KB Un.out EX O):p:=h
theorem EjK(h:p:=by simp only[ho,hx,Instr.loadAt,Instr.sureAddr,Sem.run_bind,Sem.run_pure,Result.andThen_ok,hrun];exact⟨O,O⟩):p:=h
theorem EjL(h:p:=by have d5:xv 5=Eb Y:=hd.at 5 rfl;have d7:xv 7=V (X ⟨gp,47,Z⟩):=hd.at 7 rfl;have cc:wq.cell? ⟨gp,47,Z⟩=X (E I (p 47)):=(PC.out _ hp 47 U U);exact Ir EF (J6 O O (congrArg X d5)) (by simp[go_sem,d7,cc]) O):p:=h
theorem EjM(h:p:=by go_ret;exact⟨X4,bt B1.out BB.out⟩):p:=h
theorem EjN(h:p:=by obtain⟨k,hk,hk2⟩:=h;exact aR k hk hk2):p:=h
theorem EjP(h:p:=by go_enter Tryz.func20,Tryz.ntmps20;go_wp2_with fail;go_ret;exact⟨O,b1⟩):p:=h
theorem EjQ(h:p:=by obtain rfl:p=0:=U;exact Ir Jx.kept (Ei O) Ew O):p:=h
theorem EjR(h:p:=by refine⟨O,fun i h6 hU=> ?_⟩;have h:i=6\/i=7\/i=8\/i=9\/i=10\/i=11\/i=12\/i=13:=U;rcases h with rfl|rfl|rfl|rfl|rfl|rfl|rfl|rfl<;>exact(show(0:Int)<=0/\(0:Int)<=255 from⟨EZ,EZ⟩)):p:=h
theorem EjS(h:p:=by have g2:v 2=Eb Y:=hd.at 2 rfl;have d6:v 6=u A (m+8) c:=hd.at 6 rfl;have d7:v 7=E I (m:Int):=hd.at 7 rfl;exact E_ EF (Xd O O (congrArg X g2)) (Bl _ (.tmp 18) (.tmp 19) O A (m+8) c m lJ dk U) O):p:=h
theorem EjT(h:p:=by rintro e7 w7 ⟨rfl,s7,m7⟩;have S8:=J s7;replace MM:=J<|MM.out.trans m7;clear s7 m7;go_wp2_with fail;refine EQ (results_none O _ _ _) O ?_;exact⟨O,⟨c,1,7,_,U,S8.out,.inl O⟩,MM.out⟩):p:=h
theorem EjV(h:p:=by obtain rfl:p=0:=U;have d5:xv 5=V (X ⟨gc,0,Z⟩):=hd.at 5 rfl;obtain⟨big,KB,OY⟩:=aD hp.2.1.core;have EX:big.extract 0 (0+56)=pv:=DR;exact ah EF UZ (Ei O) ⟨O,d5⟩ KB sx.out EX O):p:=h
theorem EjW(h:p:=by have d0:v 0=_:=hd ⟨0,.data⟩ Ek O;refine nf (f:=244) (args:= #[v 0,E IB 92]) (Ei O) Ew ?_;rw[d0];exact(C2.out w').mono fun e w'' ⟨he,hk,hb'⟩=>⟨_,he,hb',_,O,Zk hk k_.out⟩):p:=h
theorem EjY(h:p:=by unfold EM.of;rw[if_pos U];show(if(T.ER 2).on then V (X ⟨g,81,Z⟩) else V Z)=_;rw[hon];rfl):p:=h
theorem Ej0(h:p:=by unfold EM.of;rw[if_pos U];show(if(T.ER 1).on then V (X ⟨g,42,Z⟩) else V Z)=_;rw[hon];rfl):p:=h
theorem Ej1(h:p:=by unfold EM.of;rw[if_pos U];show(if(T.ER 0).on then V (X ⟨g,3,Z⟩) else V Z)=_;rw[hon];rfl):p:=h
theorem Ej2(h:p:=by obtain rfl:i=m:=U;rw[List.take_of_length_le A_] at ho hn;subst hn;have ai:=J ho;have XS:=J BB;clear ho BB;go_wp2_with fail;go_ret;exact⟨⟨_,_,O,ai.out⟩,XS.out⟩):p:=h
theorem Ej3(h:p:=by have d2:v 2=E I s:=hd.at 2 rfl;refine JY (f:=211) (args:= #[v 2,E I 1]) (Ei O) Ew ?_;rw[d2];exact(vN s w').mono fun e w'' ⟨⟨g,he,r⟩,hb'⟩=>⟨_,he,hb',g,O,r⟩):p:=h
theorem Ej4(h:p:=by intro _ hw';obtain⟨y9,rfl⟩:=hw';have El:=EC y9;replace BB:=ET BB El;clear El ci cj;generalize Ex w1 y9=w2 at*;go_wp2_with fail;go_ret;refine⟨?_,BB.out⟩;simp):p:=h
theorem Ej5(h:p:=by obtain rfl:p=0:=U;have d19:xv 19=V (X ⟨gc,64,Z⟩):=hd.at 19 rfl;have cc:wq.cell? ⟨gc,64,Z⟩=X (V (X ⟨gq,0,Z⟩)):=hp.2.1.core.cell 2 rfl 0 Ek;exact Ep xG O):p:=h
theorem Ej6(h:p:=by obtain rfl:p=0:=U;have d12:xv 12=V (X ⟨gc,64,Z⟩):=hd.at 12 rfl;have cc:wq.cell? ⟨gc,64,Z⟩=X (V (X ⟨gq,0,Z⟩)):=hp.2.1.core.cell 2 rfl 0 Ek;exact Ep xC O):p:=h
theorem Ej7(h:p:=by rw[e] at hp;rw[e];clear e;go_enter Tryz.func252,Tryz.ntmps252;go_wp2_with (go_at_call 111;refine(hp.out).mono ?_;rintro e w' ⟨rfl,rfl⟩);go_ret2;exact⟨O,O⟩):p:=h
theorem Ej8(h:p:=by have:=zG ((l.take m).take i) ((l.take m).drop i) 0 (mix (held (l.take m) a0) y i) a0;rw[List.take_append_drop] at this;rw[this];congr 1;rw[List.length_take];omega):p:=h
theorem Ej9(h:p:=by exact Ir Jx.kept (Ei O) Ew O):p:=h
theorem Ej_(h:p:=by rw[List.getElem?_take,if_pos hi];simpa using ho):p:=h
theorem EkE(h:p:=by rw[hv];simp[Builtin.append_,run_underlying Tryz.underlying23,sizeOf,typeInfo,hi,Builtin.lenOf,Builtin.firstCells,hn];simp at hv;exact⟨hv.1.symm,hv.2.2.symm⟩):p:=h
theorem EkI(h:p:=by injection hv with h1 h2 h3;subst h1 h3;simp[Builtin.append_,run_underlying Tryz.underlying23,sizeOf,typeInfo,hi,Builtin.lenOf,Builtin.firstCells,hnc,storeCells]):p:=h
theorem EkJ(h:p:=by have d0:xv 0=V (X ⟨gp,50,Z⟩):=hd.at 0 rfl;exact Ep OQ O):p:=h
theorem EkO(h:p:=by obtain⟨rv,how,hpq,e23⟩: ∃(rv:Array M) (how:Int),PQ rv how/\xv 23=Es #[EU rv,E I how]:=hd.at 23 rfl;exact Ep (by simp[go_sem,e23]) ⟨rv,how,hpq,e23,O⟩):p:=h
theorem EkU(h:p:=by refine wpList_step fun K hK=> ?_;rw[if_pos hw];unfold Oper.wp;rw[hr];exact hK _ _ h):p:=h
theorem EkX(h:p:=by have EX:big.extract 0 (0+56)=pv:=DR;exact ah EF UZ (Ei O) ⟨O,d5⟩ KB sx.out EX O):p:=h
theorem EkZ(h:p:=by obtain⟨rv,cd,hpq,e16⟩: ∃(rv:Array M) (cd:Int),PQ rv cd/\xv 16=Es #[EU rv,E I cd]:=hd.at 16 rfl;exact Ep (by simp[go_sem,e16]) ⟨rv,cd,hpq,e16,O⟩):p:=h
theorem Eka(h:p:=by have h5:i<listed.size:=U;simp[h5]):p:=h
theorem Ekb(h:p:=by have h2:=hl e.on U;rw[Ia h1] at h2;have h3:e.on<listed.size:=U;simpa[h3] using h2):p:=h
theorem Ekc(h:p:=by obtain rfl:p=1:=U;obtain⟨cd,e11,hpk⟩: ∃cd,xv 11=Es #[EU tv,E I 0,E I cd]/\bj lo gq gr L most s rk 0 mp cd wq:=hd.at 11 rfl;exact Ir bi (Ei O) Dz O):p:=h
theorem Ekd(h:p:=by refine⟨Om,?_⟩;simp only[List.getD_eq_getElem?_getD,List.getElem?_map,List.getElem?_eq_getElem hi,Option.map_some,Option.getD_some] at hl⊢;exact hl):p:=h
theorem Ekf(h:p:=by obtain rfl:p=0:=U;have d17:xv 17=V (X ⟨gc,0,Z⟩):=hd.at 17 rfl;exact Ep jy O):p:=h
theorem Ekg(h:p:=by unfold execOp;simp only[ho,resolve,invoke,builtin,Sem.run_bind,Sem.run_pure,Result.andThen_ok,List.map_toArray,List.map_cons,List.map_nil,hs,hx,hrun]):p:=h
theorem Ekh(h:p:=by obtain⟨e,he,hb⟩:=List.any_eq_true.1 h;simp only[Bool.and_eq_true,beq_iff_eq] at hb;have:=hd e (Array.mem_toList_iff.1 he) hb.1;rwa [hb.2] at this):p:=h
theorem Eki(h:p:=by rw[if_pos hw];unfold Oper.wp;rw[hr];exact hc.mono fun e w' ⟨v,he,hb,h⟩=>zF):p:=h
theorem Ekj(h:p:=by have:i=fs.length:=nO;subst this;rw[List.getElem_append_right (E5 _)];simp only[Nat.sub_self,List.getElem_cons_zero];exact⟨hgb,XQ h3 hbx (vT d)⟩):p:=h
theorem Ekk(h:p:=by exact⟨h,Int.le_refl _⟩):p:=h
theorem Ekl(h:p:=by obtain rfl:p=0:=U;have d16:xv 16=V (X ⟨gs,0,Z⟩):=hd.at 16 rfl;have cc:wq.cell? ⟨gs,0,Z⟩=X (V (X ⟨gc,0,Z⟩)):=hp.2.1.Iu;exact Ep DW O):p:=h
theorem Ekm(h:p:=by obtain rfl:p=0:=U;have d12:xv 12=V (X ⟨gs,0,Z⟩):=hd.at 12 rfl;have cc:wq.cell? ⟨gs,0,Z⟩=X (V (X ⟨gc,0,Z⟩)):=hp.2.1.Iu;exact Ep xC O):p:=h
theorem Ekn(h:p:=by rw[eM] at f1;simp at f1;rw[h1,f2];simp[f1]):p:=h
theorem Eko(h:p:=by intro x w hw hx;have e:EB (l.take m) 0 x a0=EB (l.take m) 0 y a0:=nj _ 0 _ _ _ fun j _ hj=>hx j U;simp only[e];have:=hK w hw;simpa using this):p:=h
theorem Ekp(h:p:=by obtain rfl:p=0:=U;have d7:xv 7=V (X ⟨gc,65,Z⟩):=hd.at 7 rfl;have d5:xv 5=E I (k-1):=hd.at 5 rfl;exact Ir EF (Ei O) (mj O d7 d5 IX.out) O):p:=h
theorem Ekq(h:p:=by simp only[IntKind.wrap,IntKind.bits,IntKind.signed];have:=Int.emod_nonneg x (b:=65536) U;have:=Int.emod_lt_of_pos x (b:=65536) U;simp;omega):p:=h
theorem Ekr(h:p:=by obtain rfl:p=0:=U;have d2:xv 2=V (X ⟨gs,0,Z⟩):=hd.at 2 rfl;have cc:wq.cell? ⟨gs,0,Z⟩=X (V (X ⟨gc,0,Z⟩)):=hp.1.Iu;exact Ep ZN O):p:=h
theorem Eks(h:p:=by exact⟨hp.1.only (Od rv) kb U,hp.2.1.only (Od rv) U U kb.lt,D.setRow_other hp.2.2.1 b rv (E7 hp.2.2.1 kb EZ),by simpa using hp.2.2.2⟩):p:=h
theorem Ekt(h:p:=by have:=ht m (E5 _) h;rw[hall m h] at this;cases this):p:=h
theorem Eku(h:p:=by have d4:xv 4=Eb Y:=hd.at 4 rfl;exact Ir EF (J6 O O (congrArg X d4)) Ew O):p:=h
theorem Ekv(h:p:=by have d26:xv 26=Es #[EU OF,EU (Ej kv),E I cd]:=hd.at 26 rfl;exact Ep FU O):p:=h
theorem Ekw(h:p:=by obtain⟨rv,cd,hpq,e15⟩: ∃(rv:Array M) (cd:Int),PQ rv cd/\xv 15=Es #[EU rv,E I cd]:=hd.at 15 rfl;exact Ep DM ⟨rv,cd,hpq,e15,O⟩):p:=h
theorem Ekx(h:p:=by rintro e w2 ⟨rfl,S2,M2⟩;go_wp2_with fail;go_end0;exact⟨O,S2,M2⟩):p:=h
theorem Eky(h:p:=by have d2:xv 2=E I (p 50):=hd.at 2 rfl;exact Ep yY O):p:=h
theorem Ekz(h:p:=by have g2:v 2=Eb Y:=hd.at 2 rfl;exact zT EF (g:=w.heap.size) JC (Xd O O (congrArg X g2)) ⟨O,Ew⟩ (K3.out.B hb) (by rw[JV,HL.out]) O):p:=h
theorem EkA(h:p:=by exact O_.keep HI.out fun _ _ h=>(OH (g:=gs) 0 _).Em h (E7 h Zd.out EZ)):p:=h
theorem EkB(h:p:=by go_wp2_with fail;go_end0;refine⟨O,?_,ON.out⟩;simp only[Js,h1.out,h7.out,h9.out,if_true,Bool.false_eq_true,if_false];exact K.out):p:=h
theorem EkC(h:p:=by go_wp2_with fail;go_end0;refine⟨O,?_,ON.out⟩;simp only[Js,h1.out,h2.out,h4.out,if_true,Bool.false_eq_true,if_false];exact K.out):p:=h
theorem EkD(h:p:=by go_ret;exact⟨O,KF.out,ON.out⟩):p:=h
theorem EkF(h:p:=by go_ret;exact⟨O,Eo _ _⟩):p:=h
theorem EkG(h:p:=by have hp':tmps[p]?.getD undef=V (X ⟨g,0,Z⟩):=gy;have hq':tmps[q]?.getD undef=v:=kn;simp[results,h,hp',hq',asAddr,qS hT hg hn]):p:=h
theorem EkH(h:p:=by have h5:=hcl j oj hoj hl e he hbe;rw[pY] at h5;rw[h5] at h1;cases h1):p:=h
theorem EkK(h:p:=by exact h.more _ O O):p:=h
theorem EkL(h:p:=by rintro e w3 ⟨rfl,k3,o3⟩;go_wp2_with fail;refine EQ (results_none O _ _ _) O ?_;go_wp2_with fail;go_end0;exact⟨O,k3,o3⟩):p:=h
theorem EkM(h:p:=by have:=Array.all_eq_true_iff_forall_mem.1 h1.1 e he;simpa using this):p:=h
theorem EkN(h:p:=by have d9:v 9=V (X ⟨gm,0,Z⟩):=hd.at 9 rfl;exact E_ EF (Ei O) lX O):p:=h
theorem EkP(h:p:=by have d8:v 8=V (X ⟨gm,0,Z⟩):=hd.at 8 rfl;exact E_ EF (Ei O) am O):p:=h
theorem EkQ(h:p:=by have d11:xv 11=Eb G:=hd.at 11 rfl;exact Ep Za O):p:=h
theorem EkR(h:p:=by unfold EL.Ow at hg;simp only at hg;rw[if_neg U,if_neg U,if_neg U] at hg;injection hg with a1 a2;exact⟨a2.symm,a1.symm⟩):p:=h
theorem EkS(h:p:=by exact MM.out.only ho cX hz3 OE.out.lt):p:=h
theorem EkT(h:p:=by intro xv wq p hlo hhi hp hd;obtain rfl:p=0:=U;simp only[EB,Ic,Ig,IJ,IU];exact fi EF UZ (Ei O) ⟨O,O⟩ (hp.2.1) GS.out O):p:=h
theorem EkV(h:p:=by have h5:e.on<listed.size:=U;exact hr e.on U kI):p:=h
theorem EkW(h:p:=by have e:(xs++ys).length=0:=Al;have e2:xs++ys=[]:=List.eq_nil_of_length_eq_zero e;rw[e2];exact World.ownsRow_nil _ _ _ _):p:=h
theorem EkY(h:p:=by intro k o ho d hd;unfold held;rw[Nat.zero_add,ho];simp only[hd]):p:=h
theorem Ek0(h:p:=by go_wp2_with fail;go_end0;refine⟨O,?_,ON.out⟩;simp only[Js,h1.out,if_true,Bool.false_eq_true,if_false];exact K.out):p:=h
theorem Ek1(h:p:=by have d3:xv 3=Eb Y:=hd.at 3 rfl;exact Ep Xi O):p:=h
theorem Ek2(h:p:=by exact⟨S1.out.B (I1 _),MM.out.trans (Ev.Eu (I1 _)),D.B KM.out (I1 _),Ey (Nat.le_of_eq hn0) (Below.size (I1 _))⟩):p:=h
theorem Ek3(h:p:=by exact⟨Ey (Nat.le_of_eq hn0) (Below.size (I1 _)),S1.out.B (I1 _),MM.out.trans (Ev.Eu (I1 _)),D.B KM.out (I1 _)⟩):p:=h
theorem Ek4(h:p:=by exact⟨O,_,_,O,O,O⟩):p:=h
theorem Ek5(h:p:=by clear hk hs h1;go_enter Tryz.func47,Tryz.ntmps47;go_wp2_with fail;refine EQ (results_none O _ _ _) O ?_;exact fin):p:=h
theorem Ek6(h:p:=by have h6:k=0\/k=1\/k=2\/k=3\/k=4\/k=5\/k=6\/k=7:=U;rcases h6 with rfl|rfl|rfl|rfl|rfl|rfl|rfl|rfl<;>decide):p:=h
theorem Ek7(h:p:=by injection h with h;subst h;have e:(⟨b,off,Z⟩:Et).add j=⟨b,off+j,Z⟩:=U4;rw[e,hc j hj];simpa[hj] using hu):p:=h
theorem Ek8(h:p:=by rcases hd with rfl|rfl<;>exact⟨⟨EZ,EZ,EZ⟩,EZ,EZ,EZ⟩):p:=h
theorem Ek9(h:p:=by have:j∈Of ops listed:=bK.2 ⟨hj,hlj⟩;rw[List.length_eq_zero_iff.1 (Nat.le_zero.1 hf)] at this;cases this):p:=h
theorem Ek_(h:p:=by simpa using this):p:=h
theorem ElE(h:p:=by obtain rfl:p=0:=U;exact Ir bi (Ei O) Ew O):p:=h
theorem ElI(h:p:=by rw[hrun] at hr;injection hr with hq hr;injection hq with hq;rw[hr];exact⟨.inr ⟨_,hq,E5 _⟩,bel _⟩):p:=h
theorem ElJ(h:p:=by rw[getD_set_ne G e,hl j hj];congr 1;rw[eq_iff_iff];omega):p:=h
theorem ElO(h:p:=by have d4:xv 4=Eb Y:=hd.at 4 rfl;have d8:xv 8=Eb G:=hd.at 8 rfl;exact Ir EF (J6 O O (congrArg X d4)) am O):p:=h
theorem ElU(h:p:=by obtain rfl:p=0:=U;exact XD (Ei O) (ig _ _ _ O) (Eo wq _) ⟨wq.heap.size,_,O,hp.2.2.2,O,D.new _ _ _⟩):p:=h
theorem ElX(h:p:=by rw[if_pos hw];unfold Oper.wp;rw[hr];exact⟨v,O,hb,h⟩):p:=h
theorem ElZ(h:p:=by rw[fc _ _ _ _ hji];rw[getD_set_ne G (fun e=>hji e.symm)] at hl;exact hR j _ w w' hj (hr j hj hl) hb'):p:=h
theorem Ela(h:p:=by go_wp2_with fail;go_ret;exact⟨yH,O⟩):p:=h
theorem Elb(h:p:=by go_wp2_with fail;go_end0;exact⟨O,O⟩):p:=h
theorem Elc(h:p:=by refine IY (f:=44) (args:= #[]) (Ei O) Ew ?_;exact(sQ wq).mono fun e w2 ⟨he,hb⟩=>⟨_,he,hb,O⟩):p:=h
theorem Eld(h:p:=by obtain rfl:p=0:=U;exact XD (Ei O) (io _ _ _ O) (Eo wq _) ⟨wq.heap.size,_,O,hp.1,O,D.new _ _ _⟩):p:=h
theorem Elf(h:p:=by exact⟨xD,L',s.only (Od rv) kb U,m.only (Od rv) U U kb.lt,D.setRow_other km b rv (E7 km kb EZ)⟩):p:=h
theorem Elg(h:p:=by exact⟨Ey (Nat.le_of_eq hn0) (Below.size (I1 _)),S1.out.B (I1 _),MM.out.trans (Ev.Eu (I1 _))⟩):p:=h
theorem Elh(h:p:=by exact⟨Ey n1 ho.size,s1.xS ho kb EZ U,m1.only ho U U kb.lt,ho.Em km (E7 km kb EZ),fun h=>Uf⟩):p:=h
theorem Eli(h:p:=by rintro e w2 ⟨rfl,r2,b2⟩;go_wp2_with fail;go_ret2;exact⟨_,O,by simpa using r2,bt B1 b2⟩):p:=h
theorem Elj(h:p:=by exact absurd ⟨j,hj,hc⟩ hno):p:=h
theorem Elk(h:p:=by exact fi EF UZ (Ei O) ⟨O,O⟩ (EN K3 hp) uh.out O):p:=h
theorem Ell(h:p:=by rw[this];simp[List.getElem_take,List.getD,List.getElem?_eq_getElem (show i<zs.length from U)]):p:=h
theorem Elm(h:p:=by have:=np hcl _ c i h (hcs c (List.mem_iff_getElem?.2 ⟨j,hj⟩)) hlc;rw[this] at h1;cases h1):p:=h
theorem Eln(h:p:=by rintro e w1 ⟨rfl,b1⟩;rw[HM.out];clear Q0;go_wp2;go_ret;exact⟨O,bt (Y4.out _ _ _) b1⟩):p:=h
theorem Elo(h:p:=by have d5:xv 5=Es #[.func (.func f) #[V (X ⟨gs,0,Z⟩)] #[],Eb G]:=hd.at 5 rfl;exact Ep Zq O):p:=h
theorem Elp(h:p:=by rw[hl.cell (p:=⟨0,i,Z⟩) oX];exact h.roots i hi):p:=h
theorem Elq(h:p:=by go_wp2_with fail;refine EQ (v:=EU #[E I 1,E I z,E I 0,u Z 0 0]) TX O ?_;exact⟨O,Eo _ _⟩):p:=h
theorem Elr(h:p:=by exact⟨O,BB.out⟩):p:=h
theorem Els(h:p:=by rw[hl.cell (p:=⟨1,i,Z⟩) oX];exact h.cmds i hi):p:=h
theorem Elt(h:p:=by obtain rfl:p=0:=U;have d4:xv 4=E I k:=hd.at 4 rfl;exact Ir EF (Ei O) (oS O d4 O SB.out) O):p:=h
theorem Elu(h:p:=by clear hc hg;go_enter Tryz.func138,Tryz.ntmps138;go_wp2;go_ret;exact⟨O,Y4.out _ _ _⟩):p:=h
theorem Elv(h:p:=by have d17:xv 17=Eb G:=hd.at 17 rfl;exact Ep jy O):p:=h
theorem Elw(h:p:=by exact Hn (g:=g5) (cs:=Ej full) kL (Ei O) ⟨O,O⟩ (K5.out.B hb) (by rw[JV,Zm.out]) O):p:=h
theorem Elx(h:p:=by rename_i hw;rw[if_neg hw] at st;exact next undef w Kp (fun j hj _ hl=>hr j hj hl) st):p:=h
theorem Ely(h:p:=by simp[IntKind.wrap,IntKind.bits,IntKind.signed]):p:=h
theorem Elz(h:p:=by exact Ep Xi O):p:=h
theorem ElA(h:p:=by have d0:v 0=E I (m:Int):=hd.at 0 rfl;exact E_ EF (Ei O) (by simp[go_sem,d0,t0]) O):p:=h
theorem ElB(h:p:=by have d28:xv 28=Es #[EU rv,E I cd]:=hd.at 28 rfl;exact Ep (by simp[go_sem,d28]) O):p:=h
theorem ElC(h:p:=by unfold execOp;simp only[ho,hx,hy,Sem.run_bind,h,Result.andThen_ok,Sem.run_pure]):p:=h
theorem ElD(h:p:=by rw[fc _ _ _ _ hji];rw[getD_set_ne G (fun e=>hji e.symm)] at hl;exact hr j hj hl):p:=h
theorem ElF(h:p:=by obtain rfl:p=0:=U;have d18:xv 18=V (X ⟨gc,0,Z⟩):=hd.at 18 rfl;exact Ep DY O):p:=h
theorem ElG(h:p:=by obtain rfl:p=0:=U;have d15:xv 15=V (X ⟨gs,0,Z⟩):=hd.at 15 rfl;exact Ep sy O):p:=h
theorem ElH(h:p:=by obtain rfl:p=0:=U;have d14:xv 14=V (X ⟨gs,0,Z⟩):=hd.at 14 rfl;exact Ep DT O):p:=h
theorem ElK(h:p:=by obtain rfl:p=0:=U;have d13:xv 13=V (X ⟨gc,0,Z⟩):=hd.at 13 rfl;exact Ep sb O):p:=h
theorem ElL(h:p:=by obtain rfl:p=0:=U;have d11:xv 11=V (X ⟨gs,0,Z⟩):=hd.at 11 rfl;exact Ep Za O):p:=h
theorem ElM(h:p:=by obtain rfl:p=0:=U;have d10:xv 10=V (X ⟨gs,0,Z⟩):=hd.at 10 rfl;exact Ep Zp O):p:=h
theorem ElN(h:p:=by rw[hq i (.inl rfl)] at h;exact h):p:=h
theorem ElP(h:p:=by exact absurd ⟨U,hc⟩ h2):p:=h
theorem ElQ(h:p:=by rw[List.getElem?_eq_none Ou] at hu;cases hu):p:=h
theorem ElR(h:p:=by rw[e,List.getElem?_toArray];unfold I7;rw[List.getElem?_append_right U,h];rfl):p:=h
theorem ElS(h:p:=by obtain rfl:p=0:=U;have d6:xv 6=V (X ⟨gc,0,Z⟩):=hd.at 6 rfl;exact Ep lJ O):p:=h
theorem ElT(h:p:=by have:=np qE _ i c h hin hset;rwa [getD_set_ne G (fun e=>hne e.symm)] at this):p:=h
theorem ElV(h:p:=by have d11:xv 11=Eb Y:=hd.at 11 rfl;exact Ir EF (J6 O O (congrArg X d11)) Ew O):p:=h
theorem ElW(h:p:=by rw[<-aA.out,IL,IL,ZL,ZL,Xv.length_eq];rfl):p:=h
theorem ElY(h:p:=by simp[Lit.wf,IntKind.min,IntKind.max,IntKind.signed,IntKind.bits] at h;omega):p:=h
theorem El0(h:p:=by have d4:xv 4=Eb Y:=hd.at 4 rfl;have d9:xv 9=Eb Y:=hd.at 9 rfl;exact Ep Gu O):p:=h
theorem El1(h:p:=by exact(Lk gb gm d.off n _ w hb hc hf).mono fun e w' ⟨he,hw⟩=>⟨he,vE⟩):p:=h
theorem El2(h:p:=by exact Ep Za O):p:=h
theorem El3(h:p:=by exact done (fuel+1) listed x w hall hb hr):p:=h
theorem El4(h:p:=by exact Ir EF (J6 O O (congrArg X d4)) am O):p:=h
theorem El5(h:p:=by exact(zH ((l.take m).take i) 0 y a0 d (fun hmem=>Hp hnd hk hd hmem)).symm):p:=h
theorem El6(h:p:=by have d5:xv 5=Eb Y:=hd.at 5 rfl;exact Ir EF (J6 O O (congrArg X d5)) Ew O):p:=h
theorem El7(h:p:=by simp only[Bool.and_eq_true,beq_iff_eq] at hb;exact⟨e,he,hb.1,hb.2⟩):p:=h
theorem El8(h:p:=by exact Ep OQ O):p:=h
theorem El9(h:p:=by exact h1 _ _ _ h hr):p:=h
theorem El_(h:p:=by rw[List.getD_eq_getElem?_getD,List.getElem?_eq_none U] at hl;cases hl):p:=h
theorem EmE(h:p:=by rcases hv with rfl|rfl|rfl|rfl|rfl|rfl|rfl|rfl|rfl|rfl|rfl|rfl<;>rfl):p:=h
theorem EmI(h:p:=by have UC:j=0\/j=1\/j=2:=U;subst hk;rcases UC with rfl|rfl|rfl<;>rfl):p:=h
theorem EmJ(h:p:=by rw[hl i hin] at h1;simp at h1;exact h1):p:=h
theorem EmO(h:p:=by rename_i s h1 h2 _;exact h2 _ _ _ h hr):p:=h
theorem EmU(h:p:=by exact E2 (g:=w.heap.size+1) BB.out U r):p:=h
theorem EmX(h:p:=by go_wp2_with fail;go_ret;exact⟨⟨_,_,_,es,O,U,EE.out⟩,BB.out⟩):p:=h
theorem EmZ(h:p:=by rw[if_neg U,if_neg U,if_neg U,if_neg U,if_neg U,if_neg U,if_neg U]):p:=h
theorem Ema(h:p:=by have d7:v 7=Es #[EU OV,Eb fr]:=hd.at 7 rfl;exact Ir dO (Ei O) dk O):p:=h
theorem Emb(h:p:=by exact Ep Uj O):p:=h
theorem Emc(h:p:=by exact fun _=>rfl):p:=h
theorem Emd(h:p:=by simp only[intOf];exact⟨trivial,U⟩):p:=h
theorem Emf(h:p:=by exact EW HV.out fun _ _ h=>(OH (g:=gs) 0 _).Em h (E7 h Zd.out EZ)):p:=h
theorem Emg(h:p:=by simpa[Of] using this):p:=h
theorem Emh(h:p:=by unfold cnt;rw[List.filter_eq_self.2 fun c hc=>hall c (hcs c hc)]):p:=h
theorem Emi(h:p:=by go_wp2_with fail;go_ret;refine⟨BB.out,?_⟩;rw[<-aw.out];rfl):p:=h
theorem Emj(h:p:=by rename_i hw;rw[if_neg hw] at st;exact next undef w (hT.1 _) st):p:=h
theorem Emk(h:p:=by obtain⟨b,c,h1,h2,h3,h4⟩:=h;exact⟨b,c,h1,h2,h3,h4.B hb⟩):p:=h
theorem Eml(h:p:=by exact Ep Zp O):p:=h
theorem Emm(h:p:=by go_ret2;exact⟨O,O⟩):p:=h
theorem Emn(h:p:=by simp only[Bool.not_false,if_true,Sem.run_pure,Bool.false_and]):p:=h
theorem Emo(h:p:=by have:=List.length_take_le i S;have:=cu.out;have:=HL.out;omega):p:=h
theorem Emp(h:p:=by have d20:xv 20=Es #[EU OF,E I cd]:=hd.at 20 rfl;exact Ep D3 O):p:=h
theorem Emq(h:p:=by go_wp2_with fail;refine EQ (results_none O _ _ _) O ⟨O,O⟩):p:=h
theorem Emr(h:p:=by exact⟨xD,L',s.only (Od rv) kb U,m.only (Od rv) U U kb.lt⟩):p:=h
theorem Ems(h:p:=by have:=hc k p hp (ih (i-k) U k O U) e he hb;rwa [heq] at this):p:=h
theorem Emt(h:p:=by go_wp2_with fail;go_ret;exact⟨⟨_,_,O,XJ _ _⟩,E6 _ _⟩):p:=h
theorem Emu(h:p:=by have:i<ops.size:=U;simp[this] at h):p:=h
theorem Emv(h:p:=by rw[if_pos hw];unfold Oper.wp;rw[hr];exact⟨v,O,hT.1 _,h⟩):p:=h
theorem Emw(h:p:=by exact Ep ZN O):p:=h
theorem Emx(h:p:=by simp[intOf];omega):p:=h
theorem Emy(h:p:=by exact⟨h,ht,fun h=>Uf⟩):p:=h
theorem Emz(h:p:=by obtain⟨g,cs,e,k,p⟩:=h;exact⟨g,cs,e,k.B hb,p.B hb⟩):p:=h
theorem EmA(h:p:=by rw[hrun] at hr;injection hr with _ hr;rw[hr];exact bel _):p:=h
theorem EmB(h:p:=by rintro e w2 ⟨rfl,b2⟩;replace K2:=J<|K2.out.B b2;replace KT:=J<|KT.out.B b2;replace ON:=J<|ON.out.trans (EG.Eu b2);replace RT:=J<|RT.out.B b2;clear b2;go_wp2_with (first|((with_reducible refine In 32 ?_);refine IP rfl 183 _ rfl (ED (IZ 0)) fD ?_)|(with_reducible refine wS (cs:=(ED (IZ 0))) Oc K2 ?_ (ho:=I4 _) (hn:=I4 _) (h1:=XG _)));refine EQ (v:=Es #[EU (ED (IZ 0)),E I 14]) (ax Oc O _ _ w.heap.size _ _ O O (K2.out.setRow _) (I4 _)) O ?_;exact EiO):p:=h
theorem EmC(h:p:=by have q5:(a !=165)=G:=tK;replace HF:Ea (f=gO (O9 ([a,v]))):=J<|HF.out.trans tL;clear h5;go_wp2_with fail;(with_reducible refine(tG (X ⟨b,off,Z⟩) ([a,v]) 2 c _ oc U (Iq HR.out I5.out) U).mono ?_);rintro e W2 ⟨rfl,b2⟩;replace OW:=J<|XF OW.out b2;replace K2:=EN K2 b2;replace K3:=EN K3 b2;replace I5:=ET I5 b2;clear b2 c0 OW;obtain⟨Jk,IE⟩:=En (#[E I 1,E I (O9 ([a,v])),E I 0,u Z 0 0]:Array M);exact EhV):p:=h
theorem EmD(h:p:=by go_enter Tryz.func156,Tryz.ntmps156;go_wp2;exact Eid):p:=h
theorem EmF(h:p:=by intro v w' hb hr;obtain⟨gl,fs,e,m,lg,bx,kk⟩: ∃(gl:Nat) (fs:List (FD×Nat)),v 9=u (X ⟨gl,0,Z⟩) 2 2/\fs.map (·.1)=[I9,IC]/\w.heap.size<=gl/\Ji w' w.heap.size gm fs/\D w' gl (EY fs).toArray 298:=hr 9 U;have dt:v 10=Value.bool G:=hr 10 U;exact Eh2):p:=h
theorem EmG(h:p:=by go_enter Tryz.func76,Tryz.ntmps76;exact Eh9):p:=h
theorem EmH(h:p:=by have dt:v 10=Value.bool G:=hr 10 U;exact Eh2):p:=h
theorem EmK(h:p:=by obtain⟨gl,fs,e,m,lg,bx,kk⟩: ∃(gl:Nat) (fs:List (FD×Nat)),v 8=u (X ⟨gl,0,Z⟩) 2 2/\fs.map (·.1)=[I9,IC]/\w.heap.size<=gl/\Ji w' w.heap.size gm fs/\D w' gl (EY fs).toArray 298:=hd.at 8 rfl;exact EiT):p:=h
theorem EmL(h:p:=by have d2:v 2=V (X ⟨gm,3,Z⟩):=hd.at 2 rfl;refine JY (f:=205) (args:= #[v 2]) (Ei O) Ew ?_;rw[d2];exact EiA):p:=h
theorem EmM(h:p:=by go_wp2_with fail;(with_reducible refine(CO.out).mono ?_);rintro e w' ⟨rfl,rfl⟩;exact Eh9):p:=h
theorem EmN(h:p:=by subst he;have hrun:=run_loadVar_mid w g off t _ d (World.rangeAt_of_block hg off n) hu kf zS;rw[Array.toArray_toList] at hrun;unfold execOp;exact Eiv):p:=h
theorem EmP(h:p:=by intro xv W8 hp hd;simp only[EB,Ic,Ig,IJ,IU];have Jt:xv 11=Eb G:=hd 11 EZ;have a12:xv 12=Eb G:=hd 12 EZ;rw[Jt,a12];clear hd Jt a12;exact Ei8):p:=h
theorem EmQ(h:p:=by go_wp2_with fail;refine(cg _ _ _ N1.out).mono ?_;rintro e w' ⟨rfl,rfl⟩;go_wp2_with fail;refine(cg _ _ _ N2.out).mono ?_;exact Ejd):p:=h
theorem EmR(h:p:=by have d11:xv 11=Eb Y:=hd.at 11 rfl;refine IY (f:=66) (args:= #[E I 1,E I 1000]) (J6 O O (congrArg X d11)) Ew ?_;exact Ei3):p:=h
theorem EmS(h:p:=by have d5:xv 5=Eb Y:=hd.at 5 rfl;refine IY (f:=66) (args:= #[E I 0,E I 1000]) (J6 O O (congrArg X d5)) Ew ?_;exact Ejl):p:=h
theorem EmT(h:p:=by obtain rfl:p=0:=U;have d5:xv 5=V (X ⟨gc,56,Z⟩):=hd.at 5 rfl;obtain⟨big,KB,OY⟩:=aD hp.2.1.core;exact EjH):p:=h
theorem EmV(h:p:=by have d6:v 6=V (X ⟨gm,3,Z⟩):=hd.at 6 rfl;refine JY (f:=205) (args:= #[v 6]) (Ei O) Ew ?_;rw[d6];exact EiA):p:=h
theorem EmW(h:p:=by rw[Array.toArray_toList] at hrun;unfold execOp;exact Eiv):p:=h
theorem EmY(h:p:=by have hkn:k=ops.size:=U;subst hkn;rw[List.drop_of_length_le Ek] at h;refine wpAny_done ?_ h _;exact EjZ):p:=h
theorem Em0(h:p:=by (with_reducible refine(oh lo hi g gc gq gt gs c ns rs k 13 _ S1.out Ju).mono ?_);exact EiN):p:=h
theorem Em1(h:p:=by go_enter Tryz.func226,Tryz.ntmps226;exact Eh1):p:=h
theorem Em2(h:p:=by refine wpAny_done ?_ (hend x w hb fun i hi=>hr i hi (hall i hi)) fuel;exact Ejb):p:=h
theorem Em3(h:p:=by go_enter Tryz.func180,Tryz.ntmps180;go_wp2;refine EQ Ah O ⟨O,?_⟩;exact Eh7):p:=h
theorem Em4(h:p:=by go_enter Tryz.func146,Tryz.ntmps146;go_wp2;refine EQ Af O ⟨O,?_⟩;exact Eh7):p:=h
theorem Em5(h:p:=by go_wp2;refine EQ Ah O ⟨O,?_⟩;exact Eh7):p:=h
theorem Em6(h:p:=by go_wp2;refine EQ Af O ⟨O,?_⟩;exact Eh7):p:=h
theorem Em7(h:p:=by intro e he hb';have h3:=aa e he hb';have h4:=(kU hB ho).1 e he;exact EkV):p:=h
theorem Em8(h:p:=by have d3:xv 3=Eb G:=hd.at 3 rfl;exact Elz):p:=h
theorem Em9(h:p:=by go_enter Tryz.func59,Tryz.ntmps59;go_wp2_with fail;exact EkF):p:=h
theorem Em_(h:p:=by clear KT K7 hx;go_enter Tryz.func221,Tryz.ntmps221;exact Eh1):p:=h
theorem EnE(h:p:=by clear KT K5 h2;go_enter Tryz.func227,Tryz.ntmps227;exact Eh1):p:=h
theorem EnI(h:p:=by clear K8 K7 hx;go_enter Tryz.func223,Tryz.ntmps223;exact Eh1):p:=h
theorem EnJ(h:p:=by have d11:xv 11=Es #[EU rv,E I cd]:=hd.at 11 rfl;exact El2):p:=h
theorem EnO(h:p:=by have d11:xv 11=Es #[EU mv,E I cd]:=hd.at 11 rfl;exact El2):p:=h
theorem EnU(h:p:=by clear KT hx;go_enter Tryz.func225,Tryz.ntmps225;exact Eh1):p:=h
theorem EnX(h:p:=by clear KT hx;go_enter Tryz.func222,Tryz.ntmps222;exact Eh1):p:=h
theorem EnZ(h:p:=by (with_reducible refine(TL.out _ S.out).mono ?_);exact Ekx):p:=h
theorem Ena(h:p:=by go_wp2_with fail;go_ret2;unfold ry;rw[hp.out];exact Elr):p:=h
theorem Enb(h:p:=by clear e1 e2 K h;go_enter Tryz.func56,Tryz.ntmps56;exact EmM):p:=h
end Go.Proofs.YtclmichaaiohjaaGreatDoor
