import Derived.Test.YtclmichaaiohjaaGreatDoorS08
import Derived.DeepKeys
import Derived.Great.BuildSlice
set_option maxRecDepth 100000
set_option linter.unusedVariables false
set_option linter.unusedSimpArgs false
set_option maxHeartbeats 6400000
namespace Go.Proofs.YtclmichaaiohjaaGreatDoor
open RowKit
open And renaming intro->JD
open _root_.Array renaming getElem?_eq_some_iff->J3
open Bool renaming true->EJ,false->EI,and_eq_true->Oj
open Go renaming World->M,Calls->Eg,TypeId->EB,Value->Y,Addr->Ep,Program->Jq,bodyPost_ret->ET,binOp->X5,results->UA,Exit->UM,Act->E_,Oper->EP,yielded->Jg,execOp->Ig,wpList->Ib,undef->I6,Operand->J5,below_setRow->EY,Ending->Ud,wpList_store_mid->Ux
open Act renaming put->Ih
open Ending renaming returned->Ei
open Instr renaming loadAt->gJ,sureAddr->dp,index->Un,indexAt->qY
open IntKind renaming i64->I
open Lib renaming hid->J
open Obj renaming cells->Eb
open Go.Proofs.Tryz renaming prog->EZ
open Region renaming wanted->JO
open Result renaming andThen_ok->OM
open RowKit renaming Below->Ij,Hid->Ed,intOf->In
open RowKit.Below renaming refl->IU,mono->pC,size->XE
open Sem renaming run_bind->OH,run_pure->Oi
open Value renaming bool->Ec,int->E,agg->Ea,slice->G,tuple->Eu,pointer->V,oneCell'->Oc
open World renaming block_lt_of_cell?->Xv,ownsRow_nil->cu,ownsRow_lit->nm
open List renaming getElem?_eq_none->bJ,getElem?_eq_getElem->JV,range->U4,nodup_cons->nI,getElem?_eq_some_iff->Xx,mem_iff_getElem?->gO,cons_append->ku,take_succ_cons->Is,length_take->ar,replicate->fh,take_of_length_le->OP,getElem?_append_left->Z_,getElem?_append_right->aE,map_cons->UB,map_nil->Xn,take_zero->Iq,mem_map->dw,setIfInBounds_toArray->Ik,length_append->IY,flatMap_cons->kG,length_cons->Zn,mem_cons->UJ,set_cons_succ->Ic,set_cons_zero->If,mem_append->Xp,nil_append->ZZ,getElem?_cons_zero->kS,not_mem_nil->Um,drop_succ_cons->IT,drop_zero->IM,take_add_one->nG,all_nil->bv,all_cons->aC,mem_of_getElem?->aD,length_nil->jP,mem_singleton->mX
open Nat renaming lt_or_ge->JW,le_trans->Ew,le_refl->E3,zero_add->Ox,lt_of_lt_of_le->gX,zero_le->aO,reduceAdd->Z3,le_of_lt->aH,le_of_eq->OC
open Option renaming some->D,none->Z,map_some->kj
open Option.some renaming injEq->nF
open KQ
variable{L:List One}{k lo n gq gp lo2 gc gt gm b n0 gl:Nat}{v:Y}{hi m:Int}{w w' W W':M}{vs:List Nat}{A:Option Ep}{p q:Tmp}{cs:Array Y}{g g2:Nat->Y}{c:Ey}{a:Oh}{rs:Int->List Int}{fn:Func}{T:EB}{ops:Array EP}{rest:List EP}{o:EP}{Q:UM->E_->M->Prop}{Y5:Array Y->Prop}
theorem Ei3(gm:Nat)(e:JX)(A:Option Ep)(d:Nat)(w:M): Eg EZ 26 #[V (D ⟨gm,0,Z⟩),Ea (e.cells A d).toArray] w fun en w'=> ∃ge gb,en=Ei (.func (.func 47) #[] #[V (D ⟨ge,0,Z⟩),V (D ⟨gb,0,Z⟩)])/\X4 ge gb e A d gm w'/\El w w':=by
 obtain⟨cv,hcv⟩:=Eo ((e.cells A d).toArray);have HC:=J hcv;rw[<-hcv];clear hcv;go_enter Tryz.func26,Tryz.ntmps26;go_wp2;go_ret;refine⟨_,_,O,⟨?_,?_⟩,JY w _ _⟩;·rw[<-HC.out];have:=H.new (w.alloc (Eb #[V (D ⟨gm,0,Z⟩)] 32)) cv 48;exact EpY
 ·exact(H.new w _ _).B (Er _ _)
def Nk(lo hi:Nat)(g:Nat->Y)(a:Oh)(e:JX)(c:Ey)(rs:Int->List Int)(w:M)(en:Ud)(w':M):Prop:=
 ∃(c':Ey) (rs':Int->List Int) (m:Nat) (new:List Rec) (A1 A2:Option Ep) (c1 c2:Nat) (sc:ta) (hd:List Int),en=Ei (Ea (Jh (OZ c') (G A1 m c1) (G A2 new.length c2) hd).toArray)/\hd.length=32/\(∀x∈hd,0<=x/\x<=255)/\w'.ownsRow hi 264 2 (G A1 m c1) m sc.l/\w'.ownsRow hi 58 6 (G A2 new.length c2) new.length (UC new)/\I7 lo g a c' rs' w'/\rj g e c rs c' rs' m new/\new.length<=5000/\Jw lo hi w w'
theorem Ei4(lo:Nat)(g:Nat->Y)(a:Oh)(c:Ey)(rs:Int->List Int)(e:JX)(A:Option Ep)(d:Nat)(w:M)(Y8:I7 lo g a c rs w)(hx:e.ok)(ho:Own w 0 A d e.b)(hb:e.b.length<=1000): Eg EZ 12 #[V (D ⟨a.gm,0,Z⟩),Ea (e.cells A d).toArray] w (Nk lo w.heap.size g a e c rs w):=by
 have MM:=J Y8;have EE:=J hx;have OWN:=J ho;have HB:=J hb;obtain⟨cv,hcv⟩:=Eo ((e.cells A d).toArray);have HC:=J hcv;have CS:Ed (cv.size=10):=J (by rw[hcv];rfl);have CM:=J<|fun W=>Ei3 a.gm e A d W;rw[<-hcv] at CM⊢;clear Y8 hx ho hb hcv;obtain⟨zt,kI⟩:=Eo ((Jh [E I 0,E I 0,E I 0,E I 0,E I 0,E I 0,E I 0,E I 0,E I 0,E I 0,E I 0,E I 0] (G Z 0 0) (G Z 0 0) (Ev 32)).toArray:Array Y);have HZT:=J kI;have ZT:Ed (Od EZ 43 zt):=J Fb;have ZS:Ed (zt.size=46):=J Fc;clear kI;refine EiN Tryz.func12 O ?_;simp only[Tryz.ntmps12,List.size_toArray,Zn,jP,Z3,Nat.reduceSub,Array.replicate_succ,Array.replicate_zero,List.push_toArray,List.append_toArray,ZZ,ku];go_wp2_with (with_reducible refine wA ZT.out (Ex.mk ?_));apply Es;have KE0:=J<|H.new w cv 48;have b1:=JY w (Eb cv 48) (Eb zt 43);have jU:Ed (H ((w.alloc (Eb cv 48)).alloc (Eb zt 43)) (w.heap.size+1) zt 43):=J EE8;have KE:=J<|KE0.out.B (Er (w.alloc (Eb cv 48)) (Eb zt 43));clear KE0;obtain⟨gr,hgr⟩:=Eo (w.heap.size+1);rw[<-hgr] at jU⊢;obtain⟨ge,hge⟩:=Eo w.heap.size;obtain⟨hi,hhi⟩:=Eo w.heap.size;rw[show Nk lo w.heap.size g a e c rs w=Nk lo hi g a e c rs w by rw[hhi]];rw[<-hge] at KE⊢;have da:=J (show hi<=gr/\hi<=w.heap.size/\w.heap.size<=hi from U);clear hgr hge hhi;generalize (w.alloc (Eb cv 48)).alloc (Eb zt 43)=w1 at*;have u:=J b1;clear b1;have M1:=J<|MM.out.B u.out;have cc:w1.cell? ⟨a.gm,0,Z⟩=D (V (D ⟨a.gc,0,Z⟩)):=(H.cell M1.out.Ek 0).trans O;go_wp2_with fail;refine(Eht lo g a.gc a.gq a.gt c _ M1.out.core).mono ?_;rintro e2 w2 ⟨c',ns,new,sv,rv,sc,hd,rfl,XI,XF,os,Xu,C2,⟨hc',rfl,rfl⟩,mm⟩;rw[hc'] at C2⊢;clear hc' cc;obtain⟨A1,c1,rfl⟩:=mx os;obtain⟨A2,c2,rfl⟩:=mx Xu;have rA:=J (show hi<=w1.heap.size by have:=u.out.size;have:=da.out;omega);have Z5:=J (show lo<=hi by have:=da.out;have:=MM.out.lm;have:=MM.out.Ek.lt;omega);have M2:=J<|M1.out.mut mm C2;replace OWN:=J<|aj OWN.out fun _ _ hk=>mm.Ek (H.B hk u.out) EU EU;have MU:=J<|(Jw.ED (lo:=lo) (hi:=hi) u.out (by have:=da.out;have:=Z5.out;omega)).trans (Jw.yo mm Z5.out rA.out (E3 _));have KE2:=J<|mm.Ek KE.out EU EU;have Ua:=J<|mm.old jU.out EU jU.out.lt;obtain⟨tv,E2⟩: ∃tv,tv=(Jh (OZ c) (G A1 0 c1) (.slice A2 ([]:List Rec).length c2) hd).toArray:=⟨_,O⟩;have TS:=J<|rh (OZ c) (G A1 0 c1) (.slice A2 ([]:List Rec).length c2) hd O XI;have TO:=J<|uJ c A1 A2 0 ([]:List Rec).length c1 c2 hd;rw[<-E2] at TS TO⊢;have Oq:=J E2;have HD:=J<|JD XI XF;have OS:=J os;have OR:=J Xu;have rB:=J mm.size;clear os Xu XI XF E2 mm C2 KE jU M1 u;go_wp2_with (with_reducible refine wA ZT.out (Ex.mk ?_));apply Es;have ak:=J<|H.new w2 zt 43;have b2:=Er w2 (Eb zt 43);obtain⟨ga,hga⟩:=Eo w2.heap.size;rw[<-hga] at ak⊢;have ul:=J (show w2.heap.size<=ga/\gr<ga by have:=Ua.out.lt;omega);clear hga;generalize w2.alloc (Eb zt 43)=w3 at*;go_wp2_with (with_reducible refine wS (cs:=tv) fK ak (Ex.mk ?_) (ho:=ZS.out) (hn:=TS.out) (h1:=TO.out));apply Es;have KA:=J<|ak.out.setRow tv;have b3:=EY (g:=ga) b2 ul.out.1 tv;generalize w3.setRow ga tv=w4 at*;have M4:=J<|M2.out.B b3;have KE4:=J<|KE2.out.B b3;have KR4:=J<|Ua.out.B b3;replace OS:=J<|EG OS.out fun _ _ hk=>H.B hk b3;replace OR:=J<|EG OR.out fun _ _ hk=>H.B hk b3;replace OWN:=J<|aj OWN.out fun _ _ hk=>H.B hk b3;replace MU:=J<|MU.out.trans (Jw.ED b3 (by have:=Z5.out;have:=rA.out;have:=rB.out;omega));have Nl:=J<|Ew rB.out (XE b3);clear ak b2 b3 M2 KE2 Ua rB;go_wp2_with (with_reducible refine wL mw KE4 ?_ (hn:=CS.out));refine(CM.out _).mono ?_;rintro e5 w5 ⟨Nm,gb,rfl,cap,b5⟩;have CAP:=J cap;have M5:=J<|M4.out.B b5;have KR5:=J<|KR4.out.B b5;have KA5:=J<|KA.out.B b5;replace OS:=J<|EG OS.out fun _ _ hk=>H.B hk b5;replace OR:=J<|EG OR.out fun _ _ hk=>H.B hk b5;replace OWN:=J<|aj OWN.out fun _ _ hk=>H.B hk b5;replace MU:=J<|MU.out.trans (Jw.ED b5 (by have:=Z5.out;have:=rA.out;have:=Nl.out;omega));have Nn:=J<|Ew Nl.out (XE b5);clear cap b5 M4 KE4 KR4 KA CM Nl;go_wp2_with fail;refine EiP 47 #[V (D ⟨Nm,0,Z⟩),V (D ⟨gb,0,Z⟩)] O (fun _ _=>Ef) ?_;intro fn rc hrc;have oK:=J hrc;clear hrc;have b6:=JY w5 (.deferred (D [])) (.loop rc);have lp:((w5.alloc (.deferred (D []))).alloc (.loop rc)).heap[w5.heap.size+1]?=D (.loop rc):=by have:=World.alloc_heap_new (w5.alloc (.deferred (D []))) (.loop rc);rwa [World.size_alloc] at this
 have df:((w5.alloc (.deferred (D []))).alloc (.loop rc)).heap[w5.heap.size]?=D (.deferred (D [])):=(Below.heap_alloc _ _ _ Ej).trans (World.alloc_heap_new w5 _);generalize (w5.alloc (.deferred (D []))).alloc (.loop rc)=w6 at*;obtain⟨ll,hll⟩:=Eo (w5.heap.size+1);obtain⟨dd,hdd⟩:=Eo w5.heap.size;rw[<-hll] at lp⊢;rw[<-hdd] at df⊢;have HLD:=J (show hi<=ll/\hi<=dd by have:=rA.out;have:=Nn.out;omega);clear hll hdd;have M6:=J<|M5.out.B b6;have Np:=J<|CAP.out.B b6;have KR6:=J<|KR5.out.B b6;have KA6:=J<|KA5.out.B b6;replace OS:=J<|EG OS.out fun _ _ hk=>H.B hk b6;replace OR:=J<|EG OR.out fun _ _ hk=>H.B hk b6;replace OWN:=J<|aj OWN.out fun _ _ hk=>H.B hk b6;replace MU:=J<|MU.out.trans (Jw.ED b6 (by have:=Z5.out;have:=rA.out;have:=Nn.out;omega));have R6:Ed (aW lo hi ga gr ll dd rc c 0 [] w6):=J (by have ka:=KA6.out;rw[Oq.out] at ka;exact⟨⟨A1,A2,c1,c2,sc,hd,ka,HD.out.1,HD.out.2,mq OS.out rA.out,mq OR.out rA.out⟩,⟨zt,ZS.out,KR6.out⟩,by have:=ul.out.2;omega,lp,df,by have:=ul.out;have:=da.out;omega,da.out.1,HLD.out.1,HLD.out.2,Z5.out⟩);clear b6 lp df M5 CAP KR5 KA5 Nn KA6 KR6 OS OR TS TO Oq HD;have e1:=congrArg Loop.assign oK.out;have e2:=congrArg Loop.body oK.out;have e3:=congrArg Loop.params oK.out;have e4:=congrArg Loop.tmps oK.out;have e5:=congrArg Loop.state oK.out;have e6:=congrArg Loop.pending oK.out;dsimp only at e1 e2 e3 e4 e5 e6
 have YL:oF lo hi ll (aW lo hi ga gr ll dd rc):=by
  refine⟨Z5.out,fun _ _ _ _ h=>h.gT,fun _ _ _ _ _ h hb=>h.B hb,fun _ _ _ _ _ h hb=>h.mu hb,fun _ _ _ _ _ _ _ h K ho=>h.only K ho,?_⟩;clear R6 M6 Np MU HB EE MM HC CS;intro c0 cn m new W sv rv ns nw yu hd2 b RA h32 XF os Xu hm hnn hns hnw;have hy:=run_yield (P:=EZ) (args:= #[Ea (Jh (OZ cn) sv rv hd2).toArray]) RA.lp (by rw[e3];rfl);refine⟨rc.fn,rc.tmps.setIfInBounds 22 (Ea (Jh (OZ cn) sv rv hd2).toArray),rc.assign,rc.body,by rw[e3,EiM] at hy;exact hy,roundIn_of_wpIn trivial ?_⟩;clear hy;rw[e1,e2,e4];obtain⟨B1,d1,rfl⟩:=mx os;obtain⟨B2,d2,rfl⟩:=mx Xu;obtain⟨tn,htn⟩: ∃tn,tn=(Jh (OZ cn) (G B1 ns d1) (G B2 nw.length d2) hd2).toArray:=⟨_,O⟩;have TNS:=J<|rh (OZ cn) (G B1 ns d1) (G B2 nw.length d2) hd2 O h32;have TNO:=J<|uJ cn B1 B2 ns nw.length d1 d2 hd2;rw[<-htn] at TNS TNO⊢;have HTN:=J htn;have RR:=J RA;have NN:=J<|JD h32 (JD XF (JD hm (JD hnn (JD hns hnw))));have OS:=J os;have OR:=J Xu;clear e1 e2 e3 e4 oK RA h32 XF os Xu hm hnn hns hnw htn;simp only[Ik,Ic,If];refine xT ub Ef ?_;go_wp2_with (with_reducible refine wA ZT.out (Ex.mk ?_));apply Es;have K0:=J<|H.new W zt 43;have b1:=Er W (Eb zt 43);obtain⟨gt,hgt⟩:=Eo W.heap.size;rw[<-hgt] at K0⊢;have HGT:=J<|OC hgt.symm;have NA:Ed (ga≠gt/\hi<=gt/\gr≠gt):=J (by obtain⟨_,_,_,_,_,_,ka,_⟩:=RR.out.all;obtain⟨_,_,kr⟩:=RR.out.res;have:=ka.lt;have:=kr.lt;have:=RR.out.hga;omega);clear hgt;generalize W.alloc (Eb zt 43)=V1 at*;go_wp2_with (with_reducible refine wS (cs:=tn) fK K0 (Ex.mk ?_) (ho:=ZS.out) (hn:=TNS.out) (h1:=TNO.out));apply Es;have KT:=J<|K0.out.setRow tn;have b2:=EY (g:=gt) b1 HGT.out tn;generalize V1.setRow gt tn=V2 at*;have YS:=J<|fI.ED (hi:=hi) b2 RR.out.gT;replace RR:=J<|RR.out.B b2;replace OS:=J<|EG OS.out fun _ _ hk=>H.B hk b2;replace OR:=J<|EG OR.out fun _ _ hk=>H.B hk b2;clear K0 b1 b2 HGT;refine⟨_,run_beginRound RR.out.lp e5,?_⟩;obtain⟨rb,hrb⟩:=Eo ({rc with state:= .busy}:Loop);rw[<-hrb];have HRB:=J hrb;clear hrb;obtain⟨B3,B4,d3,d4,Nq,hd3,ka,x1,x2,r1,r2⟩:=RR.out.all;obtain⟨z,hz,kr⟩:=RR.out.res;have KA:=J<|Z7 (o2:= .loop rb) RR.out.lp O ka;have KR:=J<|Z7 (o2:= .loop rb) RR.out.lp O kr;replace KT:=J<|Z7 (o2:= .loop rb) RR.out.lp O KT.out;have R1:=J<|EG r1 fun _ _ hk=>Z7 (o2:= .loop rb) RR.out.lp O hk;have R2:=J<|EG r2 fun _ _ hk=>Z7 (o2:= .loop rb) RR.out.lp O hk;replace OS:=J<|EG OS.out fun _ _ hk=>Z7 (o2:= .loop rb) RR.out.lp O hk;replace OR:=J<|EG OR.out fun _ _ hk=>Z7 (o2:= .loop rb) RR.out.lp O hk;have LP:Ed ((V2.putObj ll (.loop rb)).heap[ll]?=D (.loop rb)/\(V2.putObj ll (.loop rb)).heap[dd]?=D (.deferred (D []))):=J ⟨World.putObj_heap_same (J3.1 RR.out.lp).1,(World.putObj_heap_other (fun e=>by have h1:=RR.out.lp;have h2:=RR.out.df;rw[e,h1] at h2;cases h2)).trans RR.out.df⟩;replace YS:=J<|YS.out.trans (Fa (o2:= .loop rb) RR.out.lp O RR.out.hl);have hO:Ed (hi<=(V2.putObj ll (.loop rb)).heap.size):=J (by rw[World.putObj_size];exact RR.out.gT);have Ff:=J RR.out.hga;have NR:Ed (ga≠gr):=J RR.out.ne;have HX3:=J<|JD x1 x2;have HZ:=J hz;have R0:=J RR.out;have E56:=J<|JD e5 e6;clear ka kr r1 r2 x1 x2 hz RR e5 e6;generalize V2.putObj ll (.loop rb)=V3 at*;obtain⟨av,yw⟩:=Eo ((OZ cn).toArray);have AE:Ed (tn.extract 0 (0+12)=av):=J (by rw[HTN.out,yw];exact EiQ _ _ _ O);have AS:Ed (av.size=12):=J (by rw[yw];rfl);have AO:Ed (av.all (·.oneCell')=EJ):=J (by rw[yw];exact all_oneCell_toArray (EiS cn));have HAV:=J yw;have TH:Ed (V3.there ga 0 av.size):=J (by rw[AS.out];exact bf KA.out EIk);have AI:Ed ((Tryz.prog.info? 38).map (·.size)=D av.size):=J (by rw[AS.out];exact rz.2);clear yw;refine wpIn_block (wpIn_seq ?_);refine xT ub Ef ?_;go_wp2_with (first|(with_reducible refine wM (off:=0) (cs:=av) rz KT ?_ (hn:=AS.out) (he:=AE.out))|((with_reducible refine I3 38 ?_);(with_reducible refine Ux rfl 38 _ _ rfl ga 0 av ?_ ?_ ?_ ?_ ?_ ?_);(·rfl);(·rfl);(·exact TH.out);(·exact AI.out);(·exact AO.out);refine Ex.mk ?_));apply Es;rw[HAV.out,List.toList_toArray];have ka:=EiV (yr:=OZ cn) KA.out (jO c0) (jO cn);have on:=JP (g:=ga) (OZ cn) 0 V3;replace KT:=J<|on.Ek KT.out NA.out.1.symm;replace KR:=J<|on.Ek KR.out NR.out.symm;replace LP:=J<|JD ((on.keep _ (fun e=>by rw[e] at LP;have:=LP.out.1;rw[show V3.heap[ga]?=_ from KA.out] at this;cases this) (J3.1 LP.out.1).1).trans LP.out.1) ((on.keep _ (fun e=>by rw[e] at LP;have:=LP.out.2;rw[show V3.heap[ga]?=_ from KA.out] at this;cases this) (J3.1 LP.out.2).1).trans LP.out.2);replace YS:=J<|YS.out.trans (yt on KA.out EU Ff.out hO.out);replace OS:=J<|EG OS.out fun _ _ hk=>on.Ek hk (E6 hk KA.out EU);replace OR:=J<|EG OR.out fun _ _ hk=>on.Ek hk (E6 hk KA.out EU);replace R1:=J<|EG R1.out fun _ _ hk=>on.Ek hk (E6 hk KA.out EU);replace R2:=J<|EG R2.out fun _ _ hk=>on.Ek hk (E6 hk KA.out EU);replace hO:Ed (hi<=(V3.setCells ga 0 (OZ cn)).heap.size):=J<|Ew hO.out on.size;replace KA:=J ka;clear ka on TH AE AS AO AI HAV;generalize V3.setCells ga 0 (OZ cn)=V4 at*;rw[HTN.out] at KT;go_wp2_with fail;refine wpIn_seq ?_;refine xT ub Ef ?_;have cA:=(uk KA.out (jO _)).1;have cT:=(uk KT.out (jO _)).1;obtain⟨iE,hI1,hI2,jX,jZ⟩:=Vx;obtain⟨Fg,Fh,V5,hrun,oL,f9⟩:=FU (P:=EZ) (w:=V4) hi b 39 39 264 iE _ 2 32 Tryz.underlying39 hI1 hI2 jX jZ O U (G B3 m d3) m (Nq.l) R1.out (G B1 ns d1) ns (yu.l) OS.out yu.one EIl (by have:=NN.out;omega) hO.out;go_wp2_with ((with_reducible refine Io 30 ?_);(refine Jo (Eh O) (Ol O O O hrun) ?_);refine Ex.mk ?_);apply Es;have y5:=EE4 R1.out f9 EU (E3 hi) hO.out;have o5: ∀{k:Nat} {o:Obj},V4.heap[k]?=D o->o.isCells=EI->V5.heap[k]?=D o:=fun h1 h2=>EEV R1.out f9 h1 h2;have k5: ∀{k:Nat} {cs:Array Y} {S:EB},S≠264->H V4 k cs S->H V5 k cs S:=fun hS hk=>ry R1.out f9 hk hS;replace KA:=J<|k5 EU KA.out;replace KT:=J<|k5 EU KT.out;replace KR:=J<|k5 EU KR.out;replace LP:=J<|JD (o5 LP.out.1 rfl) (o5 LP.out.2 rfl);replace YS:=J<|YS.out.trans y5;replace R2:=J<|EG R2.out fun _ _ hk=>k5 EU hk;replace OR:=J<|EG OR.out fun _ _ hk=>k5 EU hk;replace R1:=J oL;have rC:Ed (hi<=V5.heap.size):=J<|Ew hO.out y5.bel.size;clear hrun oL f9 y5 o5 k5 cA cT hI1 hI2 jX jZ;have cA:=(uk KA.out (jO _)).1;have fA:=H.JZ KA.out 12;go_wp2_with fail;have ka:=EiW (G Fg (m+ns) Fh) KA.out (jO _);have on:=JS (g:=ga) (W:=V5) 12 (G Fg (m+ns) Fh);replace KT:=J<|on.Ek KT.out NA.out.1.symm;replace KR:=J<|on.Ek KR.out NR.out.symm;replace LP:=J<|JD ((on.keep _ (fun e=>by rw[e] at LP;have:=LP.out.1;rw[show V5.heap[ga]?=_ from KA.out] at this;cases this) (J3.1 LP.out.1).1).trans LP.out.1) ((on.keep _ (fun e=>by rw[e] at LP;have:=LP.out.2;rw[show V5.heap[ga]?=_ from KA.out] at this;cases this) (J3.1 LP.out.2).1).trans LP.out.2);replace YS:=J<|YS.out.trans (yt on KA.out EU Ff.out rC.out);replace R2:=J<|EG R2.out fun _ _ hk=>on.Ek hk (E6 hk KA.out EU);replace OR:=J<|EG OR.out fun _ _ hk=>on.Ek hk (E6 hk KA.out EU);replace R1:=J<|EG R1.out fun _ _ hk=>on.Ek hk (E6 hk KA.out EU);replace hO:=J<|Ew rC.out on.size;replace KA:=J ka;clear ka on cA fA rC;generalize V5.setCell ⟨ga,12,Z⟩ (G Fg (m+ns) Fh)=V6 at*;refine wpIn_seq ?_;refine xT ub Ef ?_;have cA:=(uk KA.out (jO _)).2;have cT:=(uk KT.out (jO _)).2;obtain⟨iE,hI1,hI2,jX,jZ⟩:=Vj;obtain⟨Fi,c9b,V8,hrun,oL,f9⟩:=FU (P:=EZ) (w:=V6) hi b 40 40 58 iE _ 6 48 Tryz.underlying40 hI1 hI2 jX jZ O U (G B4 new.length d4) new.length (UC new) R2.out (G B2 nw.length d2) nw.length (UC nw) OR.out (Ei1 nw) EIl (by have:=NN.out;omega) hO.out;go_wp2_with ((with_reducible refine Io 36 ?_);(refine Jo (Eh O) (Ol O O O hrun) ?_);refine Ex.mk ?_);apply Es;have y5:=EE4 R2.out f9 EU (E3 hi) hO.out;have o5: ∀{k:Nat} {o:Obj},V6.heap[k]?=D o->o.isCells=EI->V8.heap[k]?=D o:=fun h1 h2=>EEV R2.out f9 h1 h2;have k5: ∀{k:Nat} {cs:Array Y} {S:EB},S≠58->H V6 k cs S->H V8 k cs S:=fun hS hk=>ry R2.out f9 hk hS;replace KA:=J<|k5 EU KA.out;replace KT:=J<|k5 EU KT.out;replace KR:=J<|k5 EU KR.out;replace LP:=J<|JD (o5 LP.out.1 rfl) (o5 LP.out.2 rfl);replace YS:=J<|YS.out.trans y5;replace R1:=J<|EG R1.out fun _ _ hk=>k5 EU hk;replace R2:=J oL;have rC:Ed (hi<=V8.heap.size):=J<|Ew hO.out y5.bel.size;clear hrun oL f9 y5 o5 k5 cA cT hI1 hI2 jX jZ;have cA:=(uk KA.out (jO _)).2;have fA:=H.JZ KA.out 13;go_wp2_with fail;have ka:=EiY (G Fi (new.length+nw.length) c9b) KA.out (jO _);have on:=JS (g:=ga) (W:=V8) 13 (G Fi (new.length+nw.length) c9b);replace KT:=J<|on.Ek KT.out NA.out.1.symm;replace KR:=J<|on.Ek KR.out NR.out.symm;replace LP:=J<|JD ((on.keep _ (fun e=>by rw[e] at LP;have:=LP.out.1;rw[show V8.heap[ga]?=_ from KA.out] at this;cases this) (J3.1 LP.out.1).1).trans LP.out.1) ((on.keep _ (fun e=>by rw[e] at LP;have:=LP.out.2;rw[show V8.heap[ga]?=_ from KA.out] at this;cases this) (J3.1 LP.out.2).1).trans LP.out.2);replace YS:=J<|YS.out.trans (yt on KA.out EU Ff.out rC.out);replace R1:=J<|EG R1.out fun _ _ hk=>on.Ek hk (E6 hk KA.out EU);replace R2:=J<|EG R2.out fun _ _ hk=>on.Ek hk (E6 hk KA.out EU);replace hO:=J<|Ew rC.out on.size;replace KA:=J ka;clear ka on cA fA rC;generalize V8.setCell ⟨ga,13,Z⟩ (G Fi (new.length+nw.length) c9b)=V9 at*;have UE:Ed ((Jh (OZ cn) (G B1 ns d1) (G B2 nw.length d2) hd2).toArray.extract 14 (14+32)=Em hd2):=J<|EiR _ _ _ O NN.out.1;have US:Ed ((Em hd2).size=32):=J (by rw[Ob,NN.out.1]);have UI:Ed ((Tryz.prog.info? 41).map (·.size)=D (Em hd2).size):=J (by rw[US.out];exact UX.2);have UO:=J<|X6 hd2;have TH:Ed (V9.there ga 14 (Em hd2).size):=J (by rw[US.out];exact bf KA.out EIk);obtain⟨uv,huv⟩:=Eo (Em hd2);rw[<-huv] at UE US UI UO TH;have HUV:=J huv;clear huv;refine xT ub Ef ?_;go_wp2_with (first|(with_reducible refine wM (off:=14) (cs:=uv) UX KT ?_ (hn:=US.out) (he:=UE.out))|((with_reducible refine I3 41 ?_);(with_reducible refine Ux rfl 41 _ _ rfl ga 14 uv ?_ ?_ ?_ ?_ ?_ ?_);(·rfl);(·rfl);(·exact TH.out);(·exact UI.out);(·exact UO.out);refine Ex.mk ?_));apply Es;rw[HUV.out,show(Em hd2).toList=hd2.map (E .u8) from rfl];have ka:=Ei0 (hd2:=hd2) KA.out (jO _) HX3.out.1 NN.out.1;have on:=JP (g:=ga) (hd2.map (E .u8)) 14 V9;replace KR:=J<|on.Ek KR.out NR.out.symm;replace LP:=J<|JD ((on.keep _ (fun e=>by rw[e] at LP;have:=LP.out.1;rw[show V9.heap[ga]?=_ from KA.out] at this;cases this) (J3.1 LP.out.1).1).trans LP.out.1) ((on.keep _ (fun e=>by rw[e] at LP;have:=LP.out.2;rw[show V9.heap[ga]?=_ from KA.out] at this;cases this) (J3.1 LP.out.2).1).trans LP.out.2);replace YS:=J<|YS.out.trans (yt on KA.out EU Ff.out hO.out);replace R1:=J<|EG R1.out fun _ _ hk=>on.Ek hk (E6 hk KA.out EU);replace R2:=J<|EG R2.out fun _ _ hk=>on.Ek hk (E6 hk KA.out EU);replace KA:=J ka;clear ka on TH UE US UI UO HUV KT;generalize V9.setCells ga 14 (hd2.map (E .u8))=V10 at*;go_wp2_with fail;refine⟨_,_,run_endRound Z LP.out.1,O,?_,?_⟩
  ·rw[HRB.out,Ei2 E56.out.1 E56.out.2];refine⟨⟨Fg,Fi,Fh,c9b,⟨Nq.l++yu.l,fun Y3 hu=>(Xp.1 hu).elim (Nq.one Y3) (yu.one Y3)⟩,hd2,?_,NN.out.1,NN.out.2.1,EG R1.out fun _ _ hk=>Z7 LP.out.1 rfl hk,?_⟩,⟨z,HZ.out,Z7 LP.out.1 rfl KR.out⟩,NR.out,World.putObj_heap_same (J3.1 LP.out.1).1,(World.putObj_heap_other (fun e=>by have h1:=LP.out.1;have h2:=LP.out.2;rw[e,h1] at h2;cases h2)).trans LP.out.2,R0.out.hga,R0.out.hgr,R0.out.hl,R0.out.hD,R0.out.lh⟩;·rw[IY];exact Z7 LP.out.1 rfl KA.out
   ·rw[Qh,IY];exact EG R2.out fun _ _ hk=>Z7 LP.out.1 rfl hk
  ·exact YS.out.trans (Fa LP.out.1 rfl R0.out.hl)
 change Eg _ _ #[.func (.yield ll) #[] #[],V (D ⟨Nm,0,Z⟩),V (D ⟨gb,0,Z⟩)] _ _;refine(EiL lo hi ll Nm gb g a c rs e A d (aW lo hi ga gr ll dd rc) w6 YL M6.out Np.out R6.out EE.out HB.out OWN.out.row).mono ?_;rintro e7 w7 ⟨⟨v7,rfl⟩,c7,rs7,m7,Fj,mb7,bS,sw7,EIp,mu7⟩;obtain⟨A3,A4,c3,c4,sc4,hd4,ka,x1,x2,r1,r2⟩:=bS.all;obtain⟨z,hz,kr⟩:=bS.res;obtain⟨rx,hrx⟩:=Eo ({rc with state:= .exhausted}:Loop);have hend:(Instr.endLoop ll).run EZ w7= .ok Z (w7.putObj ll (.loop rx)):=by have h:=run_endLoop (P:=EZ) bS.lp (by rw[e5];simp);rw[<-hrx,e6] at h;exact h
 refine⟨Z,_,hend,?_⟩;have y8:=Fa (o2:= .loop rx) bS.lp O bS.hl;have KA:=J<|Z7 (o2:= .loop rx) bS.lp O ka;have KR:=J<|Z7 (o2:= .loop rx) bS.lp O kr;have R1:=J<|EG r1 fun _ _ hk=>Z7 (o2:= .loop rx) bS.lp O hk;have R2:=J<|EG r2 fun _ _ hk=>Z7 (o2:= .loop rx) bS.lp O hk;have DF:Ed ((w7.putObj ll (.loop rx)).heap[dd]?=D (.deferred (D []))):=J<|(World.putObj_heap_other (fun e=>by have h1:=bS.lp;have h2:=bS.df;rw[e,h1] at h2;cases h2)).trans bS.df;have MB:=J<|mb7.y y8 Z5.out;replace MU:=J<|MU.out.trans (mu7.trans (Jw.uj y8 Z5.out));have HZ:=J hz;have RD:=J<|JD bS.hgr (JD bS.hD (JD bS.ne (JD x1 (JD x2 (JD sw7 EIp)))));clear hend hrx y8 ka kr r1 r2 hz bS mb7 mu7 x1 x2 sw7 EIp e1 e2 e3 e4 e5 e6 oK YL M6 Np R6 EE HB OWN;have HW8:Ed (hi<=(w7.putObj ll (.loop rx)).heap.size):=J (by have:=KR.out.lt;have:=RD.out.1;omega);generalize w7.putObj ll (.loop rx)=w8 at*;obtain⟨tw,Nr⟩: ∃tw,tw=(Jh (OZ c7) (G A3 m7 c3) (G A4 Fj.length c4) hd4).toArray:=⟨_,O⟩;have WS:=J<|rh (OZ c7) (G A3 m7 c3) (G A4 Fj.length c4) hd4 O RD.out.2.2.2.1;have WO:=J<|uJ c7 A3 A4 m7 Fj.length c3 c4 hd4;rw[<-Nr] at WS WO KA;have HTW:=J Nr;clear Nr;go_wp2_with (with_reducible first|refine wL fK KA ?_ (hn:=WS.out)|refine wS (cs:=tw) fK KR ?_ (ho:=HZ.out) (hn:=WS.out) (h1:=WO.out));have on:=J9 (g:=gr) (W:=w8) tw;have KF:=KR.out.setRow tw;have yA:(w8.setRow gr tw).heap[dd]?=D (.deferred (D [])):=(on.keep _ (fun e=>by have h1:=DF.out;rw[e,show w8.heap[gr]?=_ from KR.out] at h1;cases h1) (J3.1 DF.out).1).trans DF.out;refine⟨Ej,.inl ⟨_,_,O,run_takeDeferred yA,_,Jd fK O _ _ gr tw O (Z7 yA O KF) WS.out,?_⟩⟩;have yy:=(yt on KR.out EU RD.out.1 HW8.out).trans (Fa (o2:= .deferred Z) yA O RD.out.2.1);have hh:hi=w.heap.size:=by have:=da.out;omega
 subst hh;refine⟨c7,rs7,m7,Fj,A3,A4,c3,c4,sc4,hd4,by rw[HTW.out],RD.out.2.2.2.1,RD.out.2.2.2.2.1,EG R1.out fun _ _ hk=>Z7 yA O (on.Ek hk (E6 hk KR.out EU)),EG R2.out fun _ _ hk=>Z7 yA O (on.Ek hk (E6 hk KR.out EU)),MB.out.y yy Z5.out,RD.out.2.2.2.2.2.1,RD.out.2.2.2.2.2.2,MU.out.trans (Jw.uj yy Z5.out)⟩
def Xj(x lo hi:Int):Bool:=decide (lo<=x)&&decide (x<=hi)
theorem Ei_(lo hi:Int)(w:M): Eg EZ 66 #[E I lo,E I hi] w fun e w'=>e=Ei (.func (.func 80) #[] #[V (D ⟨w.heap.size,0,Z⟩),V (D ⟨w.heap.size+1,0,Z⟩)])/\w'=((w.alloc (Eb #[E I lo] 3)).alloc (Eb #[E I hi] 3)):=by go_enter Tryz.func66,Tryz.ntmps66;exact Enu
theorem rD(x lo hi:Int)(a b:Nat)(w:M)(ha:w.cell? ⟨a,0,Z⟩=D (E I lo))(hb:w.cell? ⟨b,0,Z⟩=D (E I hi)): Eg EZ 80 #[E I x,V (D ⟨a,0,Z⟩),V (D ⟨b,0,Z⟩)] w fun e w'=>e=Ei (Ec (Xj x lo hi))/\w=w':=by
 unfold Xj;by_cases h1:lo<=x;·have t1:decide (lo<=x)=EJ:=IJ h1;go_enter Tryz.func80,Tryz.ntmps80;exact Eqx
 ·have t1:decide (lo<=x)=EI:=IZ h1;go_enter Tryz.func80,Tryz.ntmps80;exact Eqx
def Fl(w:M)(f:FuncId)(cap:Array Y)(vs:List Y)(pr:Y->Bool):Prop:=
 jp f/\ ∀v∈vs,∀W,El w W->Eg EZ f (#[v]++cap) W fun e w'=>e=Ei (Ec (pr v))/\El W w'
theorem Ns{pr:Y->Bool}{L:List Y}(hv:L[k]?=D v)(h:(L.take k).all pr=EJ):((L.take (k+1)).all pr=pr v)/\(pr v=EI->L.all pr=EI):=by
 refine⟨?_,fun hf=> ?_⟩;·rw[nG,hv,List.all_append,h];simp
 ·rw[List.all_eq_false];exact⟨v,aD hv,by rw[hf];simp⟩
theorem EjE:Od EZ 25 #[E I 0,E I 0,E I 0,E I 0]:=by exact En5
theorem oM(f:FuncId)(cap:Array Y)(L:List Y)(pr:Y->Bool)(b off n c:Nat)(w:M)(hn:L.length=n)(hs:n<=1000000)(hf:Fl w f cap L pr)(hl: ∀i v,L[i]?=D v->w.cell? ⟨b,off+i,Z⟩=D v): Eg EZ 62 #[G (D ⟨b,off,Z⟩) n c,.func (.func f) #[] cap] w fun e w'=>e=Ei (Ec (L.all pr))/\El w w':=by
 have HE:=hf.1;unfold jp at HE;have HC:=J hf.2;have HL:=J hl;have HN:=J hn;obtain⟨r,hr⟩:=Eo (L.all pr);rw[<-hr];replace hr:=J hr;clear hf hl hn;go_enter Tryz.func62,Tryz.ntmps62;go_wp2_with fail;go_loopw[9] (fun y wr=> ∃k:Nat,k<=n/\y=E I k/\El w wr/\(L.take k).all pr=EJ) (fun y _=>n-(In y).toNat);case atStart=>exact⟨0,U,O,IU _ _,O⟩
 case round=>
  obtain⟨k,hk,rfl,bb,ht⟩:=hrel;have u:=J bb;have HT:=J ht;clear bb ht;by_cases hlt:k<n
  ·have t1:decide ((k:Int)<(n:Int))=EJ:=IJ U;obtain⟨v,hv⟩: ∃v,L[k]?=D v:=⟨L[k]' kV,JV _⟩;have cv:wr.cell? ⟨b,off+k,Z⟩=D v:=(u.out.cell (Xv _ _ (HL.out k v hv))).trans (HL.out k v hv);have CV:=J<|HC.out _ (aD hv) wr u.out;have AT:=J<|Ns hv HT.out;clear hv;go_wp2_with fail;refine CV.out.mono ?_;rintro e w2 ⟨rfl,b2⟩;replace u:=EV u b2;clear b2;cases hp:pr v with
   |true=> go_wp2_with fail;exact⟨⟨k+1,U,Ej,u.out,Nt⟩,Jb⟩
   |false=> go_wp2;go_ret;exact⟨Nu,u.out⟩
  ·exact EoZ
theorem EjI(f:FuncId)(cap:Array Y)(L:List Y)(pr:Y->Bool)(b off n c:Nat)(w:M)(hn:L.length=n)(hs:n<=1000000)(hf:Fl w f cap L pr)(hl: ∀i v,L[i]?=D v->w.cell? ⟨b,off+i,Z⟩=D v): Eg EZ 60 #[G (D ⟨b,off,Z⟩) n c,.func (.func f) #[] cap] w fun e w'=>e=Ei (Ec (L.all pr))/\El w w':=by
 have HE:=hf.1;unfold jp at HE;have HC:=J hf.2;have HL:=J hl;have HN:=J hn;obtain⟨r,hr⟩:=Eo (L.all pr);rw[<-hr];replace hr:=J hr;clear hf hl hn;go_enter Tryz.func60,Tryz.ntmps60;go_wp2_with fail;go_loopw[9] (fun y wr=> ∃k:Nat,k<=n/\y=E I k/\El w wr/\(L.take k).all pr=EJ) (fun y _=>n-(In y).toNat);case atStart=>exact⟨0,U,O,IU _ _,O⟩
 case round=>
  obtain⟨k,hk,rfl,bb,ht⟩:=hrel;have u:=J bb;have HT:=J ht;clear bb ht;by_cases hlt:k<n
  ·have t1:decide ((k:Int)<(n:Int))=EJ:=IJ U;obtain⟨v,hv⟩: ∃v,L[k]?=D v:=⟨L[k]' kV,JV _⟩;have cv:wr.cell? ⟨b,off+k,Z⟩=D v:=(u.out.cell (Xv _ _ (HL.out k v hv))).trans (HL.out k v hv);have CV:=J<|HC.out _ (aD hv) wr u.out;have AT:=J<|Ns hv HT.out;clear hv;go_wp2_with fail;refine CV.out.mono ?_;rintro e w2 ⟨rfl,b2⟩;replace u:=EV u b2;clear b2;cases hp:pr v with
   |true=> go_wp2_with fail;exact⟨⟨k+1,U,Ej,u.out,Nt⟩,Jb⟩
   |false=> go_wp2;go_ret;exact⟨Nu,u.out⟩
  ·exact EoZ
theorem EjJ(f:FuncId)(cap:Array Y)(L:List Y)(pr:Y->Bool)(b off n c:Nat)(w:M)(hn:L.length=n)(hs:n<=1000000)(hf:Fl w f cap L pr)(S:EB)(CS:Array Y)(kb:H w b CS S)(ho: ∀row:Array Y,Ea row∈L->row.all (·.oneCell')=EJ)(hl: ∀i v,L[i]?=D v-> ∃row:Array Y,v=Ea row/\row.size=4/\CS.extract (off+i*4) (off+i*4+4)=row): Eg EZ 64 #[G (D ⟨b,off,Z⟩) n c,.func (.func f) #[] cap] w fun e w'=>e=Ei (Ec (L.all pr))/\El w w':=by
 have HE:=hf.1;have KB:=J kb;have HO:=J ho;unfold jp at HE;have HC:=J hf.2;have HL:=J hl;have HN:=J hn;obtain⟨r,hr⟩:=Eo (L.all pr);rw[<-hr];replace hr:=J hr;clear hf hl hn kb ho;go_enter Tryz.func64,Tryz.ntmps64;go_wp2_with fail;go_loopw[9] (fun y wr=> ∃k:Nat,k<=n/\y=E I k/\El w wr/\(L.take k).all pr=EJ) (fun y _=>n-(In y).toNat);case atStart=>exact⟨0,U,O,IU _ _,O⟩
 case round=>
  obtain⟨k,hk,rfl,bb,ht⟩:=hrel;have u:=J bb;have HT:=J ht;clear bb ht;by_cases hlt:k<n
  ·have t1:decide ((k:Int)<(n:Int))=EJ:=IJ U;obtain⟨v,hv⟩: ∃v,L[k]?=D v:=⟨L[k]' kV,JV _⟩;obtain⟨row,rfl,hrs,hre⟩:=HL.out k v hv;have KK:=EH KB u.out;have dE:=J hrs;have HRE:=J hre;clear hrs hre;have RO:Ed (row.all (·.oneCell')=EJ):=J<|HO.out row (aD hv);have K0:=J<|H.new wr #[E I 0,E I 0,E I 0,E I 0] 25;have b3:=Er wr (Eb #[E I 0,E I 0,E I 0,E I 0] 25);have HV:=J<|aD hv;have AT:=J<|Ns hv HT.out;clear hv;go_wp2_with (with_reducible first|refine wM (off:=off+k*4) (cs:=row) xU KK ?_ (hn:=dE.out) (he:=HRE.out)|refine wA EjE ?_|refine wS (cs:=row) xU K0 (Ex.mk ?_) (hn:=dE.out) (h1:=RO.out));apply Es;obtain⟨gx,hgx⟩:=Eo wr.heap.size;rw[<-hgx] at K0⊢;generalize wr.alloc (Eb #[E I 0,E I 0,E I 0,E I 0] 25)=UH at*;have KX:=J<|K0.out.setRow row;have b4:=EY (g:=gx) b3 (OC hgx.symm) row;generalize UH.setRow gx row=JM at*;clear K0 b3 hgx;have CV:=J<|HC.out _ HV.out JM (bt u.out b4);replace u:=EV u b4;clear b4;go_wp2_with (with_reducible refine wL xU KX ?_ (hn:=dE.out));refine CV.out.mono ?_;rintro e w2 ⟨rfl,b2⟩;replace u:=EV u b2;clear b2;cases hp:pr (Ea row) with
   |true=> go_wp2_with fail;exact⟨⟨k+1,U,Ej,u.out,Nt⟩,Jb⟩
   |false=> go_wp2;go_ret;exact⟨Nu,u.out⟩
  ·exact EoZ
def Ut(lo hi:Int)(v:Y):Bool:=match v with
 | .int _ x=>Xj x lo hi
 |_=>EI
def Nv(v:Y):Bool:=match v with
 |G _ n _=>Xj n 1 64
 |_=>EI
def rF(v:Y):Bool:=match v with
 | .int _ x=>Xj x 0 15&&x%2==0
 |_=>EI
def um(v:Y):Bool:=match v with
 |Ea a=>a.toList.all (Ut 0 15)
 |_=>EI
def rG(o1 o2 o3:Int)(v:Y):Bool:=match v with
 | .int _ x=>decide (x∈[o1,o2,o3])
 |_=>EI
def Uh(lo hi:Int)(v:Y)(w:M):Prop:= ∃a b:Nat,v= .func (.func 80) #[] #[V (D ⟨a,0,Z⟩),V (D ⟨b,0,Z⟩)]/\w.cell? ⟨a,0,Z⟩=D (E I lo)/\w.cell? ⟨b,0,Z⟩=D (E I hi)
theorem Uh.B{lo:Int}(h:Uh lo hi v w)(hb:El w w'):Uh lo hi v w':=by obtain⟨a,b,e,ca,cb⟩:=h;exact⟨a,b,e,(hb.cell (Xv _ _ ca)).trans ca,(hb.cell (Xv _ _ cb)).trans cb⟩
theorem hU(lo hi:Int)(w:M):Eg EZ 66 #[E I lo,E I hi] w fun e w'=> ∃v,e=Ei v/\Uh lo hi v w'/\El w w':=by
 refine(Ei_ lo hi w).mono ?_;rintro e w' ⟨rfl,rfl⟩;refine⟨_,O,⟨_,_,O,?_,?_⟩,JY _ _ _⟩;·exact(H.cell (H.B (H.new w #[E I lo] 3) (Er _ _)) 0).trans O
 ·simp
theorem Uh.ok{lo:Int}(h:Uh lo hi v w): ∃cap,v= .func (.func 80) #[] cap/\ ∀vs:List Y,(∀Y3∈vs,∃x,Y3=E I x)->Fl w 80 cap vs (Ut lo hi):=by obtain⟨a,b,e,ca,cb⟩:=h;refine⟨_,e,fun vs hvs=>⟨fun _ _=>Ef,fun Y3 hu W hW=> ?_⟩⟩;obtain⟨x,rfl⟩:=hvs Y3 hu;refine(rD x lo hi a b W ((hW.cell (Xv _ _ ca)).trans ca) ((hW.cell (Xv _ _ cb)).trans cb)).mono ?_;rintro e w' ⟨rfl,rfl⟩;exact⟨O,IU _ _⟩
theorem EIr(A:Option Ep)(n c:Nat)(w:M): Eg EZ 61 #[G A n c] w fun e w'=>e=Ei (Ec (Xj n 1 64))/\w=w':=by
 unfold Xj;by_cases h1:(1:Int)<=n;·have t1:decide ((1:Int)<=(n:Int))=EJ:=IJ h1;go_enter Tryz.func61,Tryz.ntmps61;exact Eqx
 ·have t1:decide ((1:Int)<=(n:Int))=EI:=IZ h1;go_enter Tryz.func61,Tryz.ntmps61;exact Eqx
theorem EjU(x:Int)(w:M)(hx:I_ x): Eg EZ 63 #[E I x] w fun e w'=>e=Ei (Ec (rF (E I x)))/\El w w':=by
 unfold rF;cases hb:Xj x 0 15 with
 |true=>
  have h0:0<=x/\x<=15:=by unfold Xj at hb;simpa using hb
  simp only[Bool.true_and];obtain⟨r,hr⟩:=Eo ((x%2==0));rw[<-hr];have hm:x.tmod 2=x%2:=Int.tmod_eq_emod_of_nonneg h0.1;have hr2:(x.tmod 2==0)=r:=by rw[hm,hr]
  have HB:=J hb;have HRR:=J hr;clear hr hm hb;go_enter Tryz.func63,Tryz.ntmps63;go_wp2_with fail;refine(hU 0 15 _).mono ?_;rintro e w1 ⟨v,rfl,⟨a,b,rfl,ca,cb⟩,b1⟩;go_wp2_with fail;refine(rD x 0 15 a b _ ca cb).mono ?_;rintro e w2 ⟨rfl,rfl⟩;rw[HB.out];go_wp2;go_ret;exact⟨by rw[HB.out,HRR.out];rfl,b1⟩
 |false=> simp only[Bool.false_and];have HB:=J hb;clear hb;go_enter Tryz.func63,Tryz.ntmps63;go_wp2_with fail;refine(hU 0 15 _).mono ?_;rintro e w1 ⟨v,rfl,⟨a,b,rfl,ca,cb⟩,b1⟩;go_wp2_with fail;refine(rD x 0 15 a b _ ca cb).mono ?_;rintro e w2 ⟨rfl,rfl⟩;rw[HB.out];go_wp2;go_ret;exact⟨by rw[HB.out];rfl,b1⟩
theorem EjX(L:List Int)(x:Int)(b off n c:Nat)(w:M)(hn:L.length=n)(hs:n<=1000000)(hl: ∀i v,L[i]?=D v->w.cell? ⟨b,off+i,Z⟩=D (E I v)): Eg EZ 110 #[G (D ⟨b,off,Z⟩) n c,E I x] w fun e w'=>(∃r:Int,e=Ei (E I r)/\(0<=r↔x∈L))/\w=w':=by
 have HL:=J hl;have HN:=J hn;clear hl hn;go_enter Tryz.func110,Tryz.ntmps110;go_wp2_with fail;go_loop [8] (fun y=> ∃k:Nat,k<=n/\y=E I k/\ ∀j v,j<k->L[j]?=D v->v≠x) (fun y=>n-(In y).toNat);case atStart=>exact⟨0,U,O,fun j v h=>U⟩
 case round=>
  obtain⟨k,hk,rfl,ht⟩:=hrel;have HT:=J ht;clear ht;by_cases hlt:k<n
  ·have t1:decide ((k:Int)<(n:Int))=EJ:=IJ U;obtain⟨v,hv⟩: ∃v,L[k]?=D v:=⟨L[k]' kV,JV _⟩;have cv:w.cell? ⟨b,off+k,Z⟩=D (E I v):=HL.out k v hv;have HV:=J hv;clear hv;by_cases hx:x=v;·have t2:(x==v)=EJ:=(by simp[hx]);go_wp2;go_ret;refine⟨⟨(k:Int),O,?_⟩,O⟩;exact⟨fun _=>by first|exact aD HV.out|(rw[hx];exact aD HV.out),fun _=>U⟩
   ·have t2:(x==v)=EI:=(by simp[hx]);go_wp2_with fail;refine⟨⟨k+1,U,Ej,fun j Y3 hj hu=> ?_⟩,Jb⟩;by_cases hjk:j<k;·exact HT.out j Y3 hjk hu
    ·obtain rfl:j=k:=U;have:=HV.out.symm.trans hu;injection this with this;rw[<-this];exact fun e=>hx e.symm
  ·obtain rfl:k=n:=U;have t1:decide ((k:Int)<(k:Int))=EI:=IZ U;go_wp2;go_ret;refine⟨⟨-1,O,?_⟩,O⟩;refine⟨fun h=>absurd h U,fun hm=> ?_⟩;exfalso;obtain⟨j,hj⟩:=gO.1 hm;exact HT.out j x (by have:=(Xx.1 hj).1;rw[HN.out] at this;exact this) hj O
theorem EjZ(L:List Int)(x:Int)(bo:Bool)(Zj:bo=decide (x∈L))(b off n c:Nat)(w:M)(hn:L.length=n)(hs:n<=1000000)(hl: ∀i v,L[i]?=D v->w.cell? ⟨b,off+i,Z⟩=D (E I v)): Eg EZ 79 #[G (D ⟨b,off,Z⟩) n c,E I x] w fun e w'=>e=Ei (Ec bo)/\w=w':=by
 have CI:=J<|EjX L x b off n c w hn hs hl;clear hl hn;go_enter Tryz.func79,Tryz.ntmps79;go_wp2_with fail;refine CI.out.mono ?_;rintro e w2 ⟨⟨r,rfl,hr⟩,rfl⟩;have tb:decide (0<=r)=bo:=by rw[Zj];exact decide_eq_decide.2 hr
 clear Zj hr;exact Enu
theorem Eja(x o0 o1 o2 o3 o4:Int)(b:Nat)(w:M)(kb:H w b #[E I o0,E I o1,E I o2,E I o3,E I o4] 22): Eg EZ 78 #[E I x,V (D ⟨b,0,Z⟩)] w fun e w'=>e=Ei (Ec (rG o1 o2 o3 (E I x)))/\w=w':=by
 obtain⟨bo,Zj⟩: ∃bo,bo=rG o1 o2 o3 (E I x):=⟨_,O⟩;rw[<-Zj]
 have CT:=J (EjZ [o1,o2,o3] x bo Zj b 1 3 4 w O U (fun i v hi=>by
  match i,hi with
  |0,hi=>injection hi with hi;rw[<-hi];exact(H.cell kb 1).trans O
  |1,hi=>injection hi with hi;rw[<-hi];exact(H.cell kb 2).trans O
  |2,hi=>injection hi with hi;rw[<-hi];exact(H.cell kb 3).trans O))
 clear Zj kb;go_enter Tryz.func78,Tryz.ntmps78;go_wp2_with fail;refine CT.out.mono ?_;rintro e w2 ⟨rfl,rfl⟩;exact Enu
def Fm(o0 o1 o2 o3 o4:Int):Bool:=(o0==0&&o4==4)&&[E .i64 1,E I 2,E I 3].all (rG o1 o2 o3)
theorem Ejb(o0 o1 o2 o3 o4:Int)(w:M): Eg EZ 59 #[Ea #[E I o0,E I o1,E I o2,E I o3,E I o4]] w fun e w'=>e=Ei (Ec (Fm o0 o1 o2 o3 o4))/\El w w':=by
 unfold Fm;obtain⟨bo,Zj⟩: ∃bo,bo=[E .i64 1,E I 2,E I 3].all (rG o1 o2 o3):=⟨_,O⟩;rw[<-Zj];replace Zj:=J Zj;by_cases h0:o0=0
 ·have t0:(o0 !=0)=EI:=rX;by_cases h4:o4=4
  ·have t4:(o4 !=4)=EI:=ij;have eb:((o0==0&&o4==4)&&bo)=bo:=by rw[h0,h4];rfl
   rw[eb];clear eb h0 h4;have KB:=J<|H.new w #[E I o0,E I o1,E I o2,E I o3,E I o4] 22;have b1:=Er w (Eb #[E I o0,E I o1,E I o2,E I o3,E I o4] 22);have b2:=Er (w.alloc (Eb #[E I o0,E I o1,E I o2,E I o3,E I o4] 22)) (Eb #[E I 1,E I 2,E I 3] 3);have KA:=EH KB b2;have KI:=H.new (w.alloc (Eb #[E I o0,E I o1,E I o2,E I o3,E I o4] 22)) #[E I 1,E I 2,E I 3] 3;rw[World.size_alloc] at KI
   have AL:=J (oM 78 #[V (D ⟨w.heap.size,0,Z⟩)] [E I 1,E I 2,E I 3] (rG o1 o2 o3) (w.heap.size+1) 0 3 3 _ O U ⟨fun _ _=>Ef,fun v hv W hW=>by
    obtain⟨x,rfl⟩: ∃x,v=E I x:=by simp only[UJ,Um,or_false] at hv;rcases hv with rfl|rfl|rfl<;>exact⟨_,rfl⟩
    refine(Eja x o0 o1 o2 o3 o4 w.heap.size W (H.B KA.out hW)).mono ?_;rintro e w' ⟨rfl,rfl⟩;exact⟨O,IU _ _⟩⟩ (fun i v hi=>by
    match i,hi with
    |0,hi=>injection hi with hi;rw[<-hi];exact(H.cell KI 0).trans O
    |1,hi=>injection hi with hi;rw[<-hi];exact(H.cell KI 1).trans O
    |2,hi=>injection hi with hi;rw[<-hi];exact(H.cell KI 2).trans O))
   have u:=J<|bt b1 b2;clear KB b1 b2 KA KI;go_enter Tryz.func59,Tryz.ntmps59;go_wp2_with fail;refine AL.out.mono ?_;rintro e w3 ⟨rfl,b3⟩;rw[<-Zj.out];go_wp2;go_ret;exact⟨O,bt u.out b3⟩
  ·have t4:(o4 !=4)=EJ:=ij;have eb:((o0==0&&o4==4)&&bo)=EI:=ij;rw[eb];clear eb h0 h4;exact ErT
 ·have t0:(o0 !=0)=EJ:=rX;have eb:((o0==0&&o4==4)&&bo)=EI:=rX;rw[eb];clear eb h0;exact ErT
theorem un{vs:List Y}{L:List Int}(h:vs=L.map (E .i64)): ∀Y3∈vs,∃x,Y3=E .i64 x:=by subst h;intro Y3 hu;obtain⟨x,-,e⟩:=dw.1 hu;exact⟨x,e.symm⟩
theorem Ejc(r0 r1 r2 r3:Int)(w:M): Eg EZ 65 #[Ea #[E I r0,E I r1,E I r2,E I r3]] w fun e w'=>e=Ei (Ec (um (Ea #[E I r0,E I r1,E I r2,E I r3])))/\El w w':=by
 obtain⟨bo,Zj⟩: ∃bo,bo=um (Ea #[E I r0,E I r1,E I r2,E I r3]):=⟨_,O⟩;rw[<-Zj];have HBO:Ed (bo=([r0,r1,r2,r3].map (E .i64)).all (Ut 0 15)):=J (by rw[Zj];rfl);have K0:=J<|H.new w #[E I r0,E I r1,E I r2,E I r3] 25;have b1:=Er w (Eb #[E I r0,E I r1,E I r2,E I r3] 25);clear Zj;go_enter Tryz.func65,Tryz.ntmps65;go_wp2_with fail;obtain⟨gb,hgb⟩:=Eo w.heap.size;rw[<-hgb] at K0⊢;have KB:=J K0.out;have u:=J b1;clear K0 b1;generalize w.alloc (Eb #[E I r0,E I r1,E I r2,E I r3] 25)=w1 at*;refine cZ (Ph:=fun _ wq=>El w1 wq) (Rel:=J0) (Iw:=fun w w'=>w=w') [kq (G (D ⟨gb,0,Z⟩) 4 4),.dep (Uh 0 15) (fun v w w' h hr=>h.B hr) (fun v w w' h hr=>ai),kq (Ec bo),kq (Ec bo)] [EI,EI,EI,EI] O [] [(0,0),(0,0),(0,0),(0,0)] Ef Ef Ef Ef Ef UP Ef ?hPh ?h0 ?hstep ?hend;case hPh=> intro p w2 w3 h hr;exact bt h hr
 case h0=> exact Jn w1
 case hstep=>
  refine⟨?_,?_,?_,?_,trivial⟩;all_goals intro xv wq p hlo hhi hp hd
  all_goals simp only[EM,Ih,Ik,Ic,If]
  ·exact Eog
  ·refine JL (f:=66) (args:= #[E I 0,E I 15]) (Eh O) Ez ?_;exact(hU 0 15 wq).mono fun e w2 ⟨v,he,hv,hb⟩=>⟨v,he,hb,hv⟩
  ·have d0:xv 0=G (D ⟨gb,0,Z⟩) 4 4:=hd.at 0 rfl;obtain⟨cap,e1,hok⟩:=Uh.ok (hd.at 1 rfl:Uh 0 15 (xv 1) wq);refine JL (f:=62) (args:= #[G (D ⟨gb,0,Z⟩) 4 4,.func (.func 80) #[] cap]) (Eh O) (by simp[go_sem,e1,d0]) ?_;exact(oM _ cap ([r0,r1,r2,r3].map (E .i64)) (Ut 0 15) gb 0 4 4 wq O U (hok _ (un O)) (fun i v hi=>(H.cell (H.B KB.out hp) i).trans U5|>fun h=>Ov)).mono fun e w2 ⟨he,hb⟩=>⟨Ec bo,he.trans (by rw[HBO.out]),hb,O⟩
  ·have d2:xv 2=Ec bo:=hd.at 2 rfl;exact Et Lx O
 case hend=> intro xv W6 hp hd;simp only[EM,Ih,Ik,Ic,If];have a2:xv 2=Ec bo:=hd 2 EU;have a3:xv 3=Ec bo:=hd 3 EU;rw[a2,a3];clear hd a2 a3;replace u:=EV u hp;clear hp;go_wp2;go_ret;exact Eqt
def uo(p:Nat->Int):Bool:=Fm (p 0) (p 1) (p 2) (p 3) (p 4)
def uq(kl:Nat->Nat):Bool:=((Xj (kl 5) 1 64&&Xj (kl 6) 1 64)&&Xj (kl 7) 1 64)&&Xj (kl 8) 1 64
def yB(p:Nat->Int):Bool:=(p 9==1&&p 13==0)&&([p 10,p 11,p 12].map (E .i64)).all rF
def hZ(p:Nat->Int)(k:Nat):Y:=Ea #[E I (p (14+k*4)),E I (p (15+k*4)),E I (p (16+k*4)),E I (p (17+k*4))]
def yC(p:Nat->Int):Bool:=[hZ p 0,hZ p 1,hZ p 2,hZ p 3,hZ p 4].all um
def yD(p:Nat->Int):Bool:=([p 34,p 35,p 36,p 37,p 38].map (E .i64)).all (Ut 0 31)
def yF(p:Nat->Int):Bool:=([p 39,p 40,p 41].map (E .i64)).all (Ut 0 4)
def yG(p:Nat->Int):Bool:=([p 42,p 43,p 44,p 45].map (E .i64)).all (Ut 1 1000)
def yH(p:Nat->Int):Bool:=Xj (p 46) 1 1000&&Xj (p 47) 0 1000
def yK(p:Nat->Int):Bool:=([p 48,p 49].map (E .i64)).all (Ut 1 3)
def yL(p:Nat->Int):Bool:=(p 50==0&&([p 51,p 52,p 53].map (E .i64)).all (Ut 0 1000))&&Xj (p 54) 1 1000
def Fo(p:Nat->Int):Bool:=Xj (p 55) 0 65535
def yM(b1 b2 b3 b4 b5 b6 b7 b8 b9 b10 b11:Bool):Int:=
 bif b1 then bif b2 then bif b3 then bif b4 then bif b5 then bif b6 then bif b7 then bif b8 then bif b9 then bif b10 then bif b11 then 0 else 50 else 49 else 48 else 47 else 46 else 45 else 44 else 43 else 42 else 41 else 40
def XO(p:Nat->Int)(kl:Nat->Nat):Int:=yM (uo p) (uq kl) (yB p) (yC p) (yD p) (yF p) (yG p) (yH p) (yK p) (yL p) (Fo p)
structure yN(g:Nat->Y)(p:Nat->Int)(kl:Nat->Nat):Prop where
 int: ∀i,i<56->i<5\/8<i->g i=E I (p i)/\I_ (p i)
 key: ∀i,5<=i->i<=8-> ∃(A:Option Ep) (c:Nat),g i=G A (kl i) c
 ok:uo p=EI\/XO p kl=0
theorem Ejf: ∀b2 b3 b4 b5 b6 b7 b8 b9 b10 b11,yM EJ b2 b3 b4 b5 b6 b7 b8 b9 b10 b11=0->b2=EJ/\b3=EJ/\b4=EJ/\b5=EJ/\b6=EJ/\b7=EJ/\b8=EJ/\b9=EJ/\b10=EJ/\b11=EJ:=by intro b2 b3 b4 b5 b6 b7 b8 b9 b10 b11 h;unfold yM at h;cases b2<;>cases b3<;>cases b4<;>cases b5<;>cases b6<;>cases b7<;>cases b8<;>cases b9<;>cases b10<;>cases b11<;>first|(cases h;done)|simp
theorem Ejg:IL EZ 22 5:=⟨⟨_,Tryz.underlying22,O⟩,Ef⟩
theorem Ejh(g:Nat->Y)(p:Nat->Int)(kl:Nat->Nat)(w:M)(hv:yN g p kl): Eg EZ 39 #[Ea (EL 56 g)] w fun e w'=>e=Ei (E I (XO p kl))/\El w w':=by
 obtain⟨r,hr⟩:=Eo (XO p kl);have hok:uo p=EI\/r=0:=by rw[hr];exact hv.ok
 rw[<-hr];unfold XO at hr;obtain⟨b1,hb1⟩:=Eo (uo p);rw[<-hb1] at hr hok;replace hb1:=J hb1;obtain⟨b2,hb2⟩:=Eo (uq kl);rw[<-hb2] at hr;replace hb2:=J hb2;obtain⟨b3,hb3⟩:=Eo (yB p);rw[<-hb3] at hr;replace hb3:=J hb3;obtain⟨b4,hb4⟩:=Eo (yC p);rw[<-hb4] at hr;replace hb4:=J hb4;obtain⟨b5,hb5⟩:=Eo (yD p);rw[<-hb5] at hr;replace hb5:=J hb5;obtain⟨b6,hb6⟩:=Eo (yF p);rw[<-hb6] at hr;replace hb6:=J hb6;obtain⟨b7,qQ⟩:=Eo (yG p);rw[<-qQ] at hr;replace qQ:=J qQ;obtain⟨b8,Fp⟩:=Eo (yH p);rw[<-Fp] at hr;replace Fp:=J Fp;obtain⟨b9,Fq⟩:=Eo (yK p);rw[<-Fq] at hr;replace Fq:=J Fq;obtain⟨b10,Fr⟩:=Eo (yL p);rw[<-Fr] at hr;replace Fr:=J Fr;obtain⟨b11,Fs⟩:=Eo (Fo p);rw[<-Fs] at hr;replace Fs:=J Fs;have HRR:=J hr;have K0:=J<|H.new w (EL 56 g) 28;have ur:=Er w (Eb (EL 56 g) 28);have PV:=J hv;have qu:=J hok;clear hr hv hok;go_enter Tryz.func39,Tryz.ntmps39;go_wp2_with (with_reducible refine JE 4 ?_);apply Es;obtain⟨gp,UG⟩:=Eo w.heap.size;rw[<-UG] at K0⊢;have KP:=J K0.out;have B1:=J ur;clear K0 ur UG;generalize w.alloc (Eb (EL 56 g) 28)=w1 at*;have u:=J<|IU w1.heap.size w1;have PC:Ed (∀W,El w1 W-> ∀i,i<56->i<5\/8<i->W.cell? ⟨gp,i,Z⟩=D (E I (p i))):=J (fun W hW i h1 h2=>by rw[H.cell (H.B KP.out hW) i,fp,if_pos h1,(PV.out.int i h1 h2).1]);have dR:Ed ((EL 56 g).extract 0 (0+5)= #[E I (p 0),E I (p 1),E I (p 2),E I (p 3),E I (p 4)]):=J (by have e:(EL 56 g).extract 0 (0+5)= #[g 0,g 1,g 2,g 3,g 4]:=ig;rw[e,(PV.out.int 0 U U).1,(PV.out.int 1 U U).1,(PV.out.int 2 U U).1,(PV.out.int 3 U U).1,(PV.out.int 4 U U).1]);have CO:Ed (∀W,Eg EZ 59 #[Ea #[E I (p 0),E I (p 1),E I (p 2),E I (p 3),E I (p 4)]] W fun e w'=>e=Ei (Ec b1)/\El W w'):=J (fun W=>by rw[hb1.out];exact Ejb _ _ _ _ _ W);go_wp2_with (with_reducible refine wM (off:=0) (cs:= #[E I (p 0),E I (p 1),E I (p 2),E I (p 3),E I (p 4)]) Ejg KP ?_ (he:=dR.out));refine(CO.out _).mono ?_;rintro e W1 ⟨rfl,bb⟩;replace u:=EV u bb;clear bb CO dR;cases b1 with
 |false=> go_wp2;go_ret;exact⟨by rw[HRR.out];rfl,bt B1.out u.out⟩
 |true=>
 obtain⟨t2,t3,t4,t5,t6,t7,t8,t9,t10,t11⟩:=Ejf _ _ _ _ _ _ _ _ _ _ (by rw[<-HRR.out];exact qu.out.resolve_left EU);have T2:=J t2;have T3:=J t3;have T4:=J t4;have T5:=J t5;have T6:=J t6;have T7:=J t7;have T8:=J t8;have T9:=J t9;have Nw:=J t10;have T11:=J t11;clear t2 t3 t4 t5 t6 t7 t8 t9 t10 t11 qu;obtain⟨A5,c5,e5⟩:=PV.out.key 5 U U;obtain⟨A6,c6,e6⟩:=PV.out.key 6 U U;obtain⟨A7,c7,e7⟩:=PV.out.key 7 U U;obtain⟨A8,c8,e8⟩:=PV.out.key 8 U U;obtain⟨Ft,Nx⟩:=Eo ([G A5 (kl 5) c5,G A6 (kl 6) c6,G A7 (kl 7) c7].all Nv);obtain⟨Fu,Ny⟩:=Eo (Xj (kl 8) 1 64);obtain rfl:b2=(Ft&&Fu):=by rw[hb2.out,Nx,Ny];unfold uq;simp[Nv,Bool.and_assoc]
 have CK:Ed (∀W,El w1 W->Eg EZ 60 #[G (D ⟨gp,5,Z⟩) 3 3,.func (.func 61) #[] #[]] W fun e w'=>e=Ei (Ec Ft)/\El W w'):=J (fun W hW=>by
  rw[Nx];refine EjI 61 #[] _ Nv gp 5 3 3 W O U ⟨fun _ _=>Ef,fun v hv W2 hW2=> ?_⟩ (fun i v hi=> ?_)
  ·obtain⟨A,n,c,rfl⟩: ∃A n c,v=G A n c:=by simp only[UJ,Um,or_false] at hv;rcases hv with rfl|rfl|rfl<;>exact⟨_,_,_,rfl⟩
   refine(EIr A n c W2).mono ?_;rintro e w' ⟨rfl,rfl⟩;exact⟨O,IU _ _⟩
  ·have hc: ∀i,i<56->W.cell? ⟨gp,i,Z⟩=D (g i):=fun i h=>by rw[H.cell (H.B KP.out hW) i,fp,if_pos h]
   match i,hi with
   |0,hi=>injection hi with hi;rw[<-hi,<-e5];exact hc 5 U
   |1,hi=>injection hi with hi;rw[<-hi,<-e6];exact hc 6 U
   |2,hi=>injection hi with hi;rw[<-hi,<-e7];exact hc 7 U)
 have CK8:Ed (∀W,Eg EZ 61 #[G A8 (kl 8) c8] W fun e w'=>e=Ei (Ec Fu)/\W=w'):=J (fun W=>by rw[Ny];exact EIr _ _ _ W);have C8:Ed (∀W,El w1 W->W.cell? ⟨gp,8,Z⟩=D (G A8 (kl 8) c8)):=J (fun W hW=>by rw[H.cell (H.B KP.out hW) 8,fp,if_pos U,e8]);clear e5 e6 e7 e8 Nx Ny;go_wp2_with fail;refine(CK.out _ u.out).mono ?_;rintro e W2 ⟨rfl,bb⟩;replace u:=EV u bb;clear bb CK;have cc8:=C8.out _ u.out;obtain rfl:Ft=EJ:=by have h:=T2.out;revert h;cases Ft<;>simp
 go_wp2_with fail;refine(CK8.out _).mono ?_;rintro e W2' ⟨rfl,rfl⟩;obtain rfl:Fu=EJ:=by have h:=T2.out;revert h;cases Fu<;>simp
 clear CK8 C8 cc8;have c9:=PC.out _ u.out 9 U U;have c13:=PC.out _ u.out 13 U U;obtain⟨Nz,ND⟩: ∃b,b=([p 10,p 11,p 12].map (E .i64)).all rF:=⟨_,O⟩
 have EIt:Ed (∀W,El w1 W-> ∀i v,([p 10,p 11,p 12].map (E .i64))[i]?=D v->W.cell? ⟨gp,10+i,Z⟩=D v):=J (fun W hW i v hi=>by
  match i,hi with
  |0,hi=>injection hi with hi;rw[<-hi];exact PC.out W hW 10 U U
  |1,hi=>injection hi with hi;rw[<-hi];exact PC.out W hW 11 U U
  |2,hi=>injection hi with hi;rw[<-hi];exact PC.out W hW 12 U U
  )
 have CR:Ed (∀W,El w1 W->Eg EZ 62 #[G (D ⟨gp,10,Z⟩) 3 4,.func (.func 63) #[] #[]] W fun e w'=>e=Ei (Ec Nz)/\El W w'):=J (fun W hW=>by
  rw[ND];refine oM 63 #[] _ rF gp 10 3 4 W O U ⟨fun _ _=>Ef,fun v hv W2 hW2=> ?_⟩ (EIt.out W hW)
  obtain⟨x,rfl,hx⟩: ∃x,v=E I x/\I_ x:=by
   simp only[UB,Xn,UJ,Um,or_false] at hv;rcases hv with rfl|rfl|rfl;·exact⟨_,O,(PV.out.int 10 U U).2⟩
   ·exact⟨_,O,(PV.out.int 11 U U).2⟩
   ·exact⟨_,O,(PV.out.int 12 U U).2⟩
  exact EjU x W2 hx)
 have e3:Ed (b3=((p 9==1&&p 13==0)&&Nz)):=J (by rw[hb3.out,ND];rfl);clear ND EIt;have h9:p 9=1:=by have h:=T3.out;rw[e3.out] at h;simp at h;exact h.1.1
 have t9:(p 9 !=1)=EI:=by simp[h9]
 have iK:p 13=0:=by have h:=T3.out;rw[e3.out] at h;simp at h;exact h.1.2
 have t13:(p 13 !=0)=EI:=by simp[iK]
 obtain rfl:b3=Nz:=by rw[e3.out];simp[h9,iK]
 clear h9 iK e3;go_wp2_with fail;refine(CR.out _ u.out).mono ?_;rintro e W3 ⟨rfl,bb⟩;replace u:=EV u bb;clear bb CR c9 c13 t9 t13;obtain rfl:b3=EJ:=by have h:=T3.out;revert h;cases b3<;>simp
 have CR:Ed (∀W,El w1 W->Eg EZ 64 #[G (D ⟨gp,14,Z⟩) 5 5,.func (.func 65) #[] #[]] W fun e w'=>e=Ei (Ec b4)/\El W w'):=J (fun W hW=>by
  rw[hb4.out];have hrow: ∀v∈[hZ p 0,hZ p 1,hZ p 2,hZ p 3,hZ p 4],∃r0 r1 r2 r3:Int,v=Ea #[E I r0,E I r1,E I r2,E I r3]:=fun v hv=>by simp only[UJ,Um,or_false] at hv;rcases hv with rfl|rfl|rfl|rfl|rfl<;>exact⟨_,_,_,_,rfl⟩
  refine EjJ 65 #[] _ um gp 14 5 5 W O U ⟨fun _ _=>Ef,fun v hv W2 hW2=> ?_⟩ 28 (EL 56 g) (H.B KP.out hW) (fun row hr=> ?_) (fun i v hi=> ?_);·obtain⟨r0,r1,r2,r3,rfl⟩:=hrow v hv;exact Ejc r0 r1 r2 r3 W2
  ·obtain⟨r0,r1,r2,r3,e⟩:=hrow _ hr;injection e with e;rw[e];simp[Oc]
  ·match i,hi with
   |0,hi=> injection hi with hi;refine⟨_,hi.symm,O,?_⟩;have e:(EL 56 g).extract (14) (14+4)= #[g 14,g 15,g 16,g 17]:=ig;rw[show 14+0*4=14 from rfl,e,(PV.out.int 14 U U).1,(PV.out.int 15 U U).1,(PV.out.int 16 U U).1,(PV.out.int 17 U U).1]
   |1,hi=> injection hi with hi;refine⟨_,hi.symm,O,?_⟩;have e:(EL 56 g).extract (18) (18+4)= #[g 18,g 19,g 20,g 21]:=ig;rw[show 14+1*4=18 from rfl,e,(PV.out.int 18 U U).1,(PV.out.int 19 U U).1,(PV.out.int 20 U U).1,(PV.out.int 21 U U).1]
   |2,hi=> injection hi with hi;refine⟨_,hi.symm,O,?_⟩;have e:(EL 56 g).extract (22) (22+4)= #[g 22,g 23,g 24,g 25]:=ig;rw[show 14+2*4=22 from rfl,e,(PV.out.int 22 U U).1,(PV.out.int 23 U U).1,(PV.out.int 24 U U).1,(PV.out.int 25 U U).1]
   |3,hi=> injection hi with hi;refine⟨_,hi.symm,O,?_⟩;have e:(EL 56 g).extract (26) (26+4)= #[g 26,g 27,g 28,g 29]:=ig;rw[show 14+3*4=26 from rfl,e,(PV.out.int 26 U U).1,(PV.out.int 27 U U).1,(PV.out.int 28 U U).1,(PV.out.int 29 U U).1]
   |4,hi=> injection hi with hi;refine⟨_,hi.symm,O,?_⟩;have e:(EL 56 g).extract (30) (30+4)= #[g 30,g 31,g 32,g 33]:=ig;rw[show 14+4*4=30 from rfl,e,(PV.out.int 30 U U).1,(PV.out.int 31 U U).1,(PV.out.int 32 U U).1,(PV.out.int 33 U U).1]
   )
 go_wp2_with fail;refine(CR.out _ u.out).mono ?_;rintro e W4 ⟨rfl,bb⟩;replace u:=EV u bb;clear bb CR;obtain rfl:b4=EJ:=by have h:=T4.out;revert h;cases b4<;>simp
 have vP:Ed (b5=([p 34,p 35,p 36,p 37,p 38].map (E .i64)).all (Ut 0 31)):=J hb5.out
 have EIu:Ed (∀W,El w1 W-> ∀i v,([p 34,p 35,p 36,p 37,p 38].map (E .i64))[i]?=D v->W.cell? ⟨gp,34+i,Z⟩=D v):=J (fun W hW i v hi=>by
  match i,hi with
  |0,hi=>injection hi with hi;rw[<-hi];exact PC.out W hW 34 U U
  |1,hi=>injection hi with hi;rw[<-hi];exact PC.out W hW 35 U U
  |2,hi=>injection hi with hi;rw[<-hi];exact PC.out W hW 36 U U
  |3,hi=>injection hi with hi;rw[<-hi];exact PC.out W hW 37 U U
  |4,hi=>injection hi with hi;rw[<-hi];exact PC.out W hW 38 U U
  )
 go_wp2_with fail;refine cZ (Ph:=fun _ wq=>El w1 wq) (Rel:=J0) (Iw:=fun w w'=>w=w') [kp gp 34,kq (G (D ⟨gp,34,Z⟩) 5 5),.dep (Uh 0 31) (fun v w w' h hr=>h.B hr) (fun v w w' h hr=>ai),kq (Ec b5),kq (Ec (!b5)),kq (Ec (!b5))] [EI,EI,EI,EI,EI,EI] O [] [(0,0),(0,0),(0,0),(0,0),(0,0),(0,0)] Ef Ef Ef Ef Ef UP Ef ?hPh ?h0 ?hstep ?hend;case hPh=> intro p_ w2 w3 h hr;exact bt h hr
 case h0=> exact bt u.out (Jn W4)
 case hstep=>
  refine⟨?_,?_,?_,?_,?_,?_,trivial⟩;all_goals intro xv wq p_ hlo hhi hp hd
  all_goals simp only[EM,Ih,Ik,Ic,If]
  ·exact Eog
  ·have d0:xv 0=V (D ⟨gp,34,Z⟩):=hd.at 0 rfl;exact EqN
  ·refine JL (f:=66) (args:= #[E I 0,E I 31]) (Eh O) Ez ?_;exact(hU 0 31 wq).mono fun e w2 ⟨v,he,hv,hb⟩=>⟨v,he,hb,hv⟩
  ·have d1:xv 1=G (D ⟨gp,34,Z⟩) 5 5:=hd.at 1 rfl;obtain⟨cap,e1,hok⟩:=Uh.ok (hd.at 2 rfl:Uh 0 31 (xv 2) wq);refine JL (f:=62) (args:= #[G (D ⟨gp,34,Z⟩) 5 5,.func (.func 80) #[] cap]) (Eh O) (by simp[go_sem,e1,d1]) ?_;exact(oM _ cap ([p 34,p 35,p 36,p 37,p 38].map (E .i64)) (Ut 0 31) gp 34 5 5 wq O U (hok _ (un O)) (EIu.out wq hp)).mono fun e w2 ⟨he,hb⟩=>⟨Ec b5,he.trans (by rw[vP.out]),hb,O⟩
  ·have d3:xv 3=Ec b5:=hd.at 3 rfl;exact EqM
  ·have d4:xv 4=Ec (!b5):=hd.at 4 rfl;exact ErI
 case hend=>
  intro xv W5 hp hd;simp only[EM,Ih,Ik,Ic,If];have a4:xv 4=Ec (!b5):=hd 4 EU;have a5:xv 5=Ec (!b5):=hd 5 EU;rw[a4,a5];clear hd a4 a5;replace u:=J hp;clear hp;clear EIu vP;obtain rfl:b5=EJ:=by have h:=T5.out;revert h;cases b5<;>simp
  have vQ:Ed (b6=([p 39,p 40,p 41].map (E .i64)).all (Ut 0 4)):=J hb6.out;go_wp2_with fail;refine cZ (Ph:=fun _ wq=>El w1 wq) (Rel:=J0) (Iw:=fun w w'=>w=w') [kp gp 39,kq (E I (p 39)),kp gp 40,kq (E I (p 40)),kp gp 41,kq (E I (p 41)),.dep (fun v w=> ∃b:Nat,v=G (D ⟨b,0,Z⟩) 3 3/\H w b #[E I (p 39),E I (p 40),E I (p 41)] 3) (fun v w w' h hr=>NF) (fun v w w' h hr=>ai),.dep (Uh 0 4) (fun v w w' h hr=>h.B hr) (fun v w w' h hr=>ai),kq (Ec b6),kq (Ec (!b6)),kq (Ec (!b6))] [EI,EI,EI,EI,EI,EI,EI,EI,EI,EI,EI] O [] [(0,0),(0,0),(0,0),(0,0),(0,0),(0,0),(0,0),(0,0),(0,0),(0,0),(0,0)] Ef Ef Ef Ef Ef UP Ef ?hPh ?h0 ?hstep ?hend;case hPh=> intro p_ w2 w3 h hr;exact bt h hr
  case h0=> exact bt u.out (Jn W5)
  case hstep=>
   refine⟨?_,?_,?_,?_,?_,?_,?_,?_,?_,?_,?_,trivial⟩;all_goals intro xv wq p_ hlo hhi hp hd
   all_goals simp only[EM,Ih,Ik,Ic,If]
   ·exact Eog
   ·have d0:xv 0=V (D ⟨gp,39,Z⟩):=hd.at 0 rfl;have cc:wq.cell? ⟨gp,39,Z⟩=D (E I (p 39)):=(PC.out _ hp 39 U U);exact Et NG O
   ·exact Eog
   ·have d2:xv 2=V (D ⟨gp,40,Z⟩):=hd.at 2 rfl;have cc:wq.cell? ⟨gp,40,Z⟩=D (E I (p 40)):=(PC.out _ hp 40 U U);exact Eq3
   ·exact Eog
   ·have d4:xv 4=V (D ⟨gp,41,Z⟩):=hd.at 4 rfl;have cc:wq.cell? ⟨gp,41,Z⟩=D (E I (p 41)):=(PC.out _ hp 41 U U);exact Et LU O
   ·have d1:xv 1=E I (p 39):=hd.at 1 rfl;have d3:xv 3=E I (p 40):=hd.at 3 rfl;have d5:xv 5=E I (p 41):=hd.at 5 rfl;exact Zp (w':=wq.alloc (Eb #[E I (p 39),E I (p 40),E I (p 41)] 3)) (Eh O) (by simp[go_sem,d1,d3,d5]) (Er wq _) ⟨wq.heap.size,O,H.new _ _ _⟩
   ·refine JL (f:=66) (args:= #[E I 0,E I 4]) (Eh O) Ez ?_;exact(hU 0 4 wq).mono fun e w2 ⟨v,he,hv,hb⟩=>⟨v,he,hb,hv⟩
   ·obtain⟨cap,e1,hok⟩:=Uh.ok (hd.at 7 rfl:Uh 0 4 (xv 7) wq);obtain⟨b,e2,kb⟩: ∃b:Nat,xv 6=G (D ⟨b,0,Z⟩) 3 3/\H wq b #[E I (p 39),E I (p 40),E I (p 41)] 3:=hd.at 6 rfl;refine JL (f:=62) (args:= #[G (D ⟨b,0,Z⟩) 3 3,.func (.func 80) #[] cap]) (Eh O) NH ?_;exact(oM _ cap ([p 39,p 40,p 41].map (E .i64)) (Ut 0 4) b 0 3 3 wq O U (hok _ (un O)) (fun i v hi=>by have:=(H.cell kb i).trans U5;simpa using this)).mono fun e w2 ⟨he,hb⟩=>⟨Ec b6,he.trans (by rw[vQ.out]),hb,O⟩
   ·have d8:xv 8=Ec b6:=hd.at 8 rfl;exact Et gG O
   ·have d9:xv 9=Ec (!b6):=hd.at 9 rfl;exact Et sS O
  case hend=>
   intro xv W6 hp hd;simp only[EM,Ih,Ik,Ic,If];have a9:xv 9=Ec (!b6):=hd 9 EU;have Uf:xv 10=Ec (!b6):=hd 10 EU;rw[a9,Uf];clear hd a9 Uf;replace u:=J hp;clear hp;clear vQ;obtain rfl:b6=EJ:=by have h:=T6.out;revert h;cases b6<;>simp
   have qJ:Ed (b7=([p 42,p 43,p 44,p 45].map (E .i64)).all (Ut 1 1000)):=J qQ.out;go_wp2_with fail;refine cZ (Ph:=fun _ wq=>El w1 wq) (Rel:=J0) (Iw:=fun w w'=>w=w') [kp gp 42,kq (E I (p 42)),kp gp 43,kq (E I (p 43)),kp gp 44,kq (E I (p 44)),kp gp 45,kq (E I (p 45)),.dep (fun v w=> ∃b:Nat,v=G (D ⟨b,0,Z⟩) 4 4/\H w b #[E I (p 42),E I (p 43),E I (p 44),E I (p 45)] 3) (fun v w w' h hr=>NF) (fun v w w' h hr=>ai),.dep (Uh 1 1000) (fun v w w' h hr=>h.B hr) (fun v w w' h hr=>ai),kq (Ec b7),kq (Ec (!b7)),kq (Ec (!b7))] [EI,EI,EI,EI,EI,EI,EI,EI,EI,EI,EI,EI,EI] O [] [(0,0),(0,0),(0,0),(0,0),(0,0),(0,0),(0,0),(0,0),(0,0),(0,0),(0,0),(0,0),(0,0)] Ef Ef Ef Ef Ef UP Ef ?hPh ?h0 ?hstep ?hend;case hPh=> intro p_ w2 w3 h hr;exact bt h hr
   case h0=> exact bt u.out (Jn W6)
   case hstep=>
    refine⟨?_,?_,?_,?_,?_,?_,?_,?_,?_,?_,?_,?_,?_,trivial⟩;all_goals intro xv wq p_ hlo hhi hp hd
    all_goals simp only[EM,Ih,Ik,Ic,If]
    ·exact Eog
    ·have d0:xv 0=V (D ⟨gp,42,Z⟩):=hd.at 0 rfl;have cc:wq.cell? ⟨gp,42,Z⟩=D (E I (p 42)):=(PC.out _ hp 42 U U);exact Et NG O
    ·exact Eog
    ·have d2:xv 2=V (D ⟨gp,43,Z⟩):=hd.at 2 rfl;have cc:wq.cell? ⟨gp,43,Z⟩=D (E I (p 43)):=(PC.out _ hp 43 U U);exact Eq3
    ·exact Eog
    ·have d4:xv 4=V (D ⟨gp,44,Z⟩):=hd.at 4 rfl;have cc:wq.cell? ⟨gp,44,Z⟩=D (E I (p 44)):=(PC.out _ hp 44 U U);exact Et LU O
    ·exact Eog
    ·have d6:xv 6=V (D ⟨gp,45,Z⟩):=hd.at 6 rfl;have cc:wq.cell? ⟨gp,45,Z⟩=D (E I (p 45)):=(PC.out _ hp 45 U U);exact Et Dj O
    ·have d1:xv 1=E I (p 42):=hd.at 1 rfl;have d3:xv 3=E I (p 43):=hd.at 3 rfl;have d5:xv 5=E I (p 44):=hd.at 5 rfl;have d7:xv 7=E I (p 45):=hd.at 7 rfl;exact Zp (w':=wq.alloc (Eb #[E I (p 42),E I (p 43),E I (p 44),E I (p 45)] 3)) (Eh O) (by simp[go_sem,d1,d3,d5,d7]) (Er wq _) ⟨wq.heap.size,O,H.new _ _ _⟩
    ·exact ErK
    ·obtain⟨cap,e1,hok⟩:=Uh.ok (hd.at 9 rfl:Uh 1 1000 (xv 9) wq);obtain⟨b,e2,kb⟩: ∃b:Nat,xv 8=G (D ⟨b,0,Z⟩) 4 4/\H wq b #[E I (p 42),E I (p 43),E I (p 44),E I (p 45)] 3:=hd.at 8 rfl;refine JL (f:=62) (args:= #[G (D ⟨b,0,Z⟩) 4 4,.func (.func 80) #[] cap]) (Eh O) NH ?_;exact(oM _ cap ([p 42,p 43,p 44,p 45].map (E .i64)) (Ut 1 1000) b 0 4 4 wq O U (hok _ (un O)) (fun i v hi=>by have:=(H.cell kb i).trans U5;simpa using this)).mono fun e w2 ⟨he,hb⟩=>⟨Ec b7,he.trans (by rw[qJ.out]),hb,O⟩
    ·have d10:xv 10=Ec b7:=hd.at 10 rfl;exact ErE
    ·have d11:xv 11=Ec (!b7):=hd.at 11 rfl;exact EqL
   case hend=>
    intro xv W7 hp hd;simp only[EM,Ih,Ik,Ic,If];have OU:xv 11=Ec (!b7):=hd 11 EU;have a12:xv 12=Ec (!b7):=hd 12 EU;rw[OU,a12];clear hd OU a12;replace u:=J hp;clear hp;clear qJ;obtain rfl:b7=EJ:=by have h:=T7.out;revert h;cases b7<;>simp
    obtain⟨NM,Fv⟩:=Eo (Xj (p 46) 1 1000);obtain⟨NP,Fw⟩:=Eo (Xj (p 47) 0 1000);obtain rfl:b8=(NM&&NP):=by rw[Fp.out,Fv,Fw];rfl
    replace Fv:=J Fv;replace Fw:=J Fw;obtain rfl:NM=EJ:=by have h:=T8.out;revert h;cases NM<;>simp
    obtain rfl:NP=EJ:=by have h:=T8.out;revert h;cases NP<;>simp
    go_wp2_with fail;refine cZ (Ph:=fun _ wq=>El w1 wq) (Rel:=J0) (Iw:=fun w w'=>w=w') [.dep (Uh 1 1000) (fun v w w' h hr=>h.B hr) (fun v w w' h hr=>ai),kp gp 46,kq (E I (p 46)),kq (Ec EJ),kq (Ec EI),kq (Ec EI),.dep (Uh 0 1000) (fun v w w' h hr=>h.B hr) (fun v w w' h hr=>ai),kp gp 47,kq (E I (p 47)),kq (Ec EJ),kq (Ec EI),kq (Ec EI),kq (Ec EI)] [EI,EI,EI,EI,EI,EI,EI,EI,EI,EI,EI,EI,EI] O [] [(0,0),(0,0),(0,0),(0,0),(0,0),(0,0),(0,0),(0,0),(0,0),(0,0),(0,0),(0,0),(0,0)] Ef Ef Ef Ef Ef UP Ef ?hPh ?h0 ?hstep ?hend;case hPh=> intro p_ w2 w3 h hr;exact bt h hr
    case h0=> exact bt u.out (Jn W7)
    case hstep=>
     refine⟨?_,?_,?_,?_,?_,?_,?_,?_,?_,?_,?_,?_,?_,trivial⟩;all_goals intro xv wq p_ hlo hhi hp hd
     all_goals simp only[EM,Ih,Ik,Ic,If]
     ·exact ErK
     ·exact Eog
     ·have d1:xv 1=V (D ⟨gp,46,Z⟩):=hd.at 1 rfl;have cc:wq.cell? ⟨gp,46,Z⟩=D (E I (p 46)):=(PC.out _ hp 46 U U);exact Et oH O
     ·have d2:xv 2=E I (p 46):=hd.at 2 rfl;obtain⟨wa,wb,e1,ca,cb⟩:Uh 1 1000 (xv 0) wq:=hd.at 0 rfl;refine JL (f:=80) (args:= #[E I (p 46),V (D ⟨wa,0,Z⟩),V (D ⟨wb,0,Z⟩)]) (Eh O) (by simp[go_sem,e1,d2]) ?_;exact(rD (p 46) 1 1000 wa wb wq ca cb).mono fun e w2 ⟨he,hb⟩=>⟨Ec EJ,he.trans (by rw[Fv.out]),Fx,O⟩
     ·have d3:xv 3=Ec EJ:=hd.at 3 rfl;exact EqM
     ·have d4:xv 4=Ec EI:=hd.at 4 rfl;exact ErI
     ·have d5:xv 5=Ec EI:=hd.at 5 rfl;refine JL (f:=66) (args:= #[E I 0,E I 1000]) (cC O O (congrArg D d5)) Ez ?_;exact EqB
     ·have d5:xv 5=Ec EI:=hd.at 5 rfl;exact IQ ER (cC O O (congrArg D d5)) Ez O
     ·have d5:xv 5=Ec EI:=hd.at 5 rfl;have d7:xv 7=V (D ⟨gp,47,Z⟩):=hd.at 7 rfl;have cc:wq.cell? ⟨gp,47,Z⟩=D (E I (p 47)):=(PC.out _ hp 47 U U);exact IQ ER (cC O O (congrArg D d5)) (by simp[go_sem,d7,cc]) O
     ·have d5:xv 5=Ec EI:=hd.at 5 rfl;have d8:xv 8=E I (p 47):=hd.at 8 rfl;obtain⟨wa,wb,e1,ca,cb⟩:Uh 0 1000 (xv 6) wq:=hd.at 6 rfl;refine JL (f:=80) (args:= #[E I (p 47),V (D ⟨wa,0,Z⟩),V (D ⟨wb,0,Z⟩)]) (cC O O (congrArg D d5)) (by simp[go_sem,e1,d8]) ?_;exact(rD (p 47) 0 1000 wa wb wq ca cb).mono fun e w2 ⟨he,hb⟩=>⟨Ec EJ,he.trans (by rw[Fw.out]),Fx,O⟩
     ·have d5:xv 5=Ec EI:=hd.at 5 rfl;have d9:xv 9=Ec EJ:=hd.at 9 rfl;exact IQ ER (cC O O (congrArg D d5)) sS O
     ·have d5:xv 5=Ec EI:=hd.at 5 rfl;have d10:xv 10=Ec EI:=hd.at 10 rfl;exact Et (by simp[go_sem,d5,d10]) O
     ·have d11:xv 11=Ec EI:=hd.at 11 rfl;exact EqL
    case hend=>
     intro xv W8 hp hd;simp only[EM,Ih,Ik,Ic,If];have OU:xv 11=Ec EI:=hd 11 EU;have a12:xv 12=Ec EI:=hd 12 EU;rw[OU,a12];clear hd OU a12;replace u:=J hp;clear hp;have HB9:Ed (b9=([p 48,p 49].map (E .i64)).all (Ut 1 3)):=J Fq.out;go_wp2_with fail;refine cZ (Ph:=fun _ wq=>El w1 wq) (Rel:=J0) (Iw:=fun w w'=>w=w') [kp gp 48,kq (E I (p 48)),kp gp 49,kq (E I (p 49)),.dep (fun v w=> ∃b:Nat,v=G (D ⟨b,0,Z⟩) 2 2/\H w b #[E I (p 48),E I (p 49)] 3) (fun v w w' h hr=>NF) (fun v w w' h hr=>ai),.dep (Uh 1 3) (fun v w w' h hr=>h.B hr) (fun v w w' h hr=>ai),kq (Ec b9),kq (Ec (!b9)),kq (Ec (!b9))] [EI,EI,EI,EI,EI,EI,EI,EI,EI] O [] [(0,0),(0,0),(0,0),(0,0),(0,0),(0,0),(0,0),(0,0),(0,0)] Ef Ef Ef Ef Ef UP Ef ?hPh ?h0 ?hstep ?hend;case hPh=> intro p_ w2 w3 h hr;exact bt h hr
     case h0=> exact bt u.out (Jn W8)
     case hstep=>
      refine⟨?_,?_,?_,?_,?_,?_,?_,?_,?_,trivial⟩;all_goals intro xv wq p_ hlo hhi hp hd
      all_goals simp only[EM,Ih,Ik,Ic,If]
      ·exact Eog
      ·have d0:xv 0=V (D ⟨gp,48,Z⟩):=hd.at 0 rfl;have cc:wq.cell? ⟨gp,48,Z⟩=D (E I (p 48)):=(PC.out _ hp 48 U U);exact Et NG O
      ·exact Eog
      ·have d2:xv 2=V (D ⟨gp,49,Z⟩):=hd.at 2 rfl;have cc:wq.cell? ⟨gp,49,Z⟩=D (E I (p 49)):=(PC.out _ hp 49 U U);exact Eq3
      ·have d1:xv 1=E I (p 48):=hd.at 1 rfl;have d3:xv 3=E I (p 49):=hd.at 3 rfl;exact Zp (w':=wq.alloc (Eb #[E I (p 48),E I (p 49)] 3)) (Eh O) (by simp[go_sem,d1,d3]) (Er wq _) ⟨wq.heap.size,O,H.new _ _ _⟩
      ·refine JL (f:=66) (args:= #[E I 1,E I 3]) (Eh O) Ez ?_;exact(hU 1 3 wq).mono fun e w2 ⟨v,he,hv,hb⟩=>⟨v,he,hb,hv⟩
      ·obtain⟨cap,e1,hok⟩:=Uh.ok (hd.at 5 rfl:Uh 1 3 (xv 5) wq);obtain⟨b,e2,kb⟩: ∃b:Nat,xv 4=G (D ⟨b,0,Z⟩) 2 2/\H wq b #[E I (p 48),E I (p 49)] 3:=hd.at 4 rfl;refine JL (f:=62) (args:= #[G (D ⟨b,0,Z⟩) 2 2,.func (.func 80) #[] cap]) (Eh O) NH ?_;exact(oM _ cap ([p 48,p 49].map (E .i64)) (Ut 1 3) b 0 2 2 wq O U (hok _ (un O)) (fun i v hi=>by have:=(H.cell kb i).trans U5;simpa using this)).mono fun e w2 ⟨he,hb⟩=>⟨Ec b9,he.trans (by rw[HB9.out]),hb,O⟩
      ·have d6:xv 6=Ec b9:=hd.at 6 rfl;exact Et pP O
      ·have d7:xv 7=Ec (!b9):=hd.at 7 rfl;exact Et iw O
     case hend=>
      intro xv W9 hp hd;simp only[EM,Ih,Ik,Ic,If];have a7:xv 7=Ec (!b9):=hd 7 EU;have a8:xv 8=Ec (!b9):=hd 8 EU;rw[a7,a8];clear hd a7 a8;replace u:=J hp;clear hp;clear HB9;obtain rfl:b9=EJ:=by have h:=T9.out;revert h;cases b9<;>simp
      obtain⟨Fy,Fz⟩: ∃b,b=([p 51,p 52,p 53].map (E .i64)).all (Ut 0 1000):=⟨_,O⟩;obtain⟨FG,FH⟩:=Eo (Xj (p 54) 1 1000);have e10:Ed (b10=((p 50==0&&Fy)&&FG)):=J (by rw[Fr.out,Fz,FH];rfl);replace Fz:=J Fz;replace FH:=J FH
      have Ejk:Ed (∀W,El w1 W-> ∀i v,([p 51,p 52,p 53].map (E .i64))[i]?=D v->W.cell? ⟨gp,51+i,Z⟩=D v):=J (fun W hW i v hi=>by
       match i,hi with
       |0,hi=>injection hi with hi;rw[<-hi];exact PC.out W hW 51 U U
       |1,hi=>injection hi with hi;rw[<-hi];exact PC.out W hW 52 U U
       |2,hi=>injection hi with hi;rw[<-hi];exact PC.out W hW 53 U U
       )
      have h50:p 50=0:=by have h:=Nw.out;rw[e10.out] at h;simp at h;exact h.1.1
      have t50:(p 50 !=0)=EI:=by simp[h50]
      obtain rfl:b10=(Fy&&FG):=by rw[e10.out];simp[h50]
      clear e10 h50;obtain rfl:Fy=EJ:=by have h:=Nw.out;revert h;cases Fy<;>simp
      obtain rfl:FG=EJ:=by have h:=Nw.out;revert h;cases FG<;>simp
      go_wp2_with fail;refine cZ (Ph:=fun _ wq=>El w1 wq) (Rel:=J0) (Iw:=fun w w'=>w=w') [kp gp 50,kp gp 50,kq (E I (p 50)),kq (Ec EI),kq (Ec EI),kp gp 50,kq (G (D ⟨gp,51,Z⟩) 3 3),.dep (Uh 0 1000) (fun v w w' h hr=>h.B hr) (fun v w w' h hr=>ai),kq (Ec EJ),kq (Ec EI),kq (Ec EI),kq (Ec EI),.dep (Uh 1 1000) (fun v w w' h hr=>h.B hr) (fun v w w' h hr=>ai),kp gp 54,kq (E I (p 54)),kq (Ec EJ),kq (Ec EI),kq (Ec EI),kq (Ec EI)] [EI,EI,EI,EI,EI,EI,EI,EI,EI,EI,EI,EI,EI,EI,EI,EI,EI,EI,EI] O [] [(0,0),(0,0),(0,0),(0,0),(0,0),(0,0),(0,0),(0,0),(0,0),(0,0),(0,0),(0,0),(0,0),(0,0),(0,0),(0,0),(0,0),(0,0),(0,0)] Ef Ef Ef Ef Ef UP Ef ?hPh ?h0 ?hstep ?hend;case hPh=> intro p_ w2 w3 h hr;exact bt h hr
      case h0=> exact bt u.out (Jn W9)
      case hstep=>
       refine⟨?_,?_,?_,?_,?_,?_,?_,?_,?_,?_,?_,?_,?_,?_,?_,?_,?_,?_,?_,trivial⟩;all_goals intro xv wq p_ hlo hhi hp hd
       all_goals simp only[EM,Ih,Ik,Ic,If]
       ·exact Eog
       ·have d0:xv 0=V (D ⟨gp,50,Z⟩):=hd.at 0 rfl;exact EqN
       ·have d1:xv 1=V (D ⟨gp,50,Z⟩):=hd.at 1 rfl;have cc:wq.cell? ⟨gp,50,Z⟩=D (E I (p 50)):=(PC.out _ hp 50 U U);exact Et oH O
       ·have d2:xv 2=E I (p 50):=hd.at 2 rfl;exact Et (by simp[go_sem,d2,t50]) O
       ·have d3:xv 3=Ec EI:=hd.at 3 rfl;exact EqM
       ·have d4:xv 4=Ec EI:=hd.at 4 rfl;exact IQ ER (cC O O (congrArg D d4)) Ez O
       ·have d4:xv 4=Ec EI:=hd.at 4 rfl;have d5:xv 5=V (D ⟨gp,50,Z⟩):=hd.at 5 rfl;exact IQ ER (cC O O (congrArg D d4)) dD O
       ·have d4:xv 4=Ec EI:=hd.at 4 rfl;refine JL (f:=66) (args:= #[E I 0,E I 1000]) (cC O O (congrArg D d4)) Ez ?_;exact EqB
       ·have d4:xv 4=Ec EI:=hd.at 4 rfl;have d6:xv 6=G (D ⟨gp,51,Z⟩) 3 3:=hd.at 6 rfl;obtain⟨cap,e1,hok⟩:=Uh.ok (hd.at 7 rfl:Uh 0 1000 (xv 7) wq);refine JL (f:=62) (args:= #[G (D ⟨gp,51,Z⟩) 3 3,.func (.func 80) #[] cap]) (cC O O (congrArg D d4)) (by simp[go_sem,e1,d6]) ?_;exact(oM _ cap ([p 51,p 52,p 53].map (E .i64)) (Ut 0 1000) gp 51 3 3 wq O U (hok _ (un O)) (Ejk.out wq hp)).mono fun e w2 ⟨he,hb⟩=>⟨Ec EJ,he.trans (by rw[Fz.out]),hb,O⟩
       ·have d4:xv 4=Ec EI:=hd.at 4 rfl;have d8:xv 8=Ec EJ:=hd.at 8 rfl;exact IQ ER (cC O O (congrArg D d4)) gG O
       ·have d4:xv 4=Ec EI:=hd.at 4 rfl;have d9:xv 9=Ec EI:=hd.at 9 rfl;exact Et (by simp[go_sem,d4,d9]) O
       ·have d10:xv 10=Ec EI:=hd.at 10 rfl;exact ErE
       ·have d11:xv 11=Ec EI:=hd.at 11 rfl;refine JL (f:=66) (args:= #[E I 1,E I 1000]) (cC O O (congrArg D d11)) Ez ?_;exact Eph
       ·have d11:xv 11=Ec EI:=hd.at 11 rfl;exact IQ ER (cC O O (congrArg D d11)) Ez O
       ·have d11:xv 11=Ec EI:=hd.at 11 rfl;have d13:xv 13=V (D ⟨gp,54,Z⟩):=hd.at 13 rfl;have cc:wq.cell? ⟨gp,54,Z⟩=D (E I (p 54)):=(PC.out _ hp 54 U U);exact IQ ER (cC O O (congrArg D d11)) (by simp[go_sem,d13,cc]) O
       ·have d11:xv 11=Ec EI:=hd.at 11 rfl;have d14:xv 14=E I (p 54):=hd.at 14 rfl;obtain⟨wa,wb,e1,ca,cb⟩:Uh 1 1000 (xv 12) wq:=hd.at 12 rfl;refine JL (f:=80) (args:= #[E I (p 54),V (D ⟨wa,0,Z⟩),V (D ⟨wb,0,Z⟩)]) (cC O O (congrArg D d11)) (by simp[go_sem,e1,d14]) ?_;exact(rD (p 54) 1 1000 wa wb wq ca cb).mono fun e w2 ⟨he,hb⟩=>⟨Ec EJ,he.trans (by rw[FH.out]),Fx,O⟩
       ·have d11:xv 11=Ec EI:=hd.at 11 rfl;have d15:xv 15=Ec EJ:=hd.at 15 rfl;exact IQ ER (cC O O (congrArg D d11)) xE O
       ·have d11:xv 11=Ec EI:=hd.at 11 rfl;have d16:xv 16=Ec EI:=hd.at 16 rfl;exact Et (by simp[go_sem,d11,d16]) O
       ·have d17:xv 17=Ec EI:=hd.at 17 rfl;exact Et xI O
      case hend=>
       intro xv W10 hp hd;simp only[EM,Ih,Ik,Ic,If];have a17:xv 17=Ec EI:=hd 17 EU;have a18:xv 18=Ec EI:=hd 18 EU;rw[a17,a18];clear hd a17 a18;replace u:=J hp;clear hp;have EIx:Ed (b11=Xj (p 55) 0 65535):=J Fs.out;go_wp2_with fail;refine cZ (Ph:=fun _ wq=>El w1 wq) (Rel:=J0) (Iw:=fun w w'=>w=w') [.dep (Uh 0 65535) (fun v w w' h hr=>h.B hr) (fun v w w' h hr=>ai),kp gp 55,kq (E I (p 55)),kq (Ec b11),kq (Ec (!b11)),kq (Ec (!b11))] [EI,EI,EI,EI,EI,EI] O [] [(0,0),(0,0),(0,0),(0,0),(0,0),(0,0)] Ef Ef Ef Ef Ef UP Ef ?hPh ?h0 ?hstep ?hend;case hPh=> intro p_ w2 w3 h hr;exact bt h hr
       case h0=> exact bt u.out (Jn W10)
       case hstep=>
        refine⟨?_,?_,?_,?_,?_,?_,trivial⟩;all_goals intro xv wq p_ hlo hhi hp hd
        all_goals simp only[EM,Ih,Ik,Ic,If]
        ·refine JL (f:=66) (args:= #[E I 0,E I 65535]) (Eh O) Ez ?_;exact(hU 0 65535 wq).mono fun e w2 ⟨v,he,hv,hb⟩=>⟨v,he,hb,hv⟩
        ·exact Eog
        ·have d1:xv 1=V (D ⟨gp,55,Z⟩):=hd.at 1 rfl;have cc:wq.cell? ⟨gp,55,Z⟩=D (E I (p 55)):=(PC.out _ hp 55 U U);exact Et oH O
        ·have d2:xv 2=E I (p 55):=hd.at 2 rfl;obtain⟨wa,wb,e1,ca,cb⟩:Uh 0 65535 (xv 0) wq:=hd.at 0 rfl;refine JL (f:=80) (args:= #[E I (p 55),V (D ⟨wa,0,Z⟩),V (D ⟨wb,0,Z⟩)]) (Eh O) (by simp[go_sem,e1,d2]) ?_;exact(rD (p 55) 0 65535 wa wb wq ca cb).mono fun e w2 ⟨he,hb⟩=>⟨Ec b11,he.trans (by rw[EIx.out]),Fx,O⟩
        ·have d3:xv 3=Ec b11:=hd.at 3 rfl;exact EqM
        ·have d4:xv 4=Ec (!b11):=hd.at 4 rfl;exact ErI
       case hend=>
        intro xv W11 hp hd;simp only[EM,Ih,Ik,Ic,If];have a4:xv 4=Ec (!b11):=hd 4 EU;have a5:xv 5=Ec (!b11):=hd 5 EU;rw[a4,a5];clear hd a4 a5;replace u:=J hp;clear hp;clear EIx;obtain rfl:b11=EJ:=by have h:=T11.out;revert h;cases b11<;>simp
        go_wp2;go_ret;exact⟨by rw[HRR.out];rfl,bt B1.out u.out⟩
def c0(p:Nat->Int):Ey:=⟨⟨4,p 55,-1,0,0,0,0,EI⟩,[],iC (p 42) (p 49),0,0,p 39,GA,⟨1,0,0,0,0,0,0,0,0,GA⟩⟩
def rH:Dr:=⟨0,EI,[0,0,0,0,0,0,0,0]⟩
theorem NT:rH.ok:=⟨EU,O,EU⟩
def core0(g:Nat->Y)(p:Nat->Int)(gq gt:Nat):Array Y:=(aG (EL 56 g).toList (c0 p) gq gt rH rH rH (Ev 32)).flatten.toArray
theorem Ejm(g:Nat->Y)(p:Nat->Int)(gq gt:Nat):Tryz.prog.built 120 [(0,Ea (EL 56 g)),(1,Ea #[E I 4,E I (p 55),E I (-1),E I 0,E I 0,E I 0,E I 0,Ec EI]),(2,V (D ⟨gq,0,Z⟩)),(4,V (D ⟨gt,0,Z⟩)),(7,E I (p 39)),(8,Ea #[E I 2,E I 4,E I 0]),(9,Ea #[E I 1,E I 0,E I 0,E I 0,E I 0,E I 0,E I 0,E I 0,E I 0,E I 2,E I 4,E I 0]),(10,Ea (Em (Ev 32)))]=D (core0 g p gq gt):=Ef
theorem FM{cap:Nat}{ys:List Int}(h:Own W lo A cap ys)(hn:ys.length=n)(h1:1<=n)(h64:n<=64):iH W lo (G A n cap):=by obtain⟨g,cur,e,hg,hk,ht,hc⟩:=Vf h U;have:=yk h;subst hn;exact⟨g,_,cap,cur,ys,by rw[e],hg,O,h1,h64,hc,this.2,hk,ht,h.2⟩
theorem Ejn{b1 b2 b3 b4 b5 b6 b7 b8 b9 b10 b11:Bool}(h:yM b1 b2 b3 b4 b5 b6 b7 b8 b9 b10 b11=0):b1=EJ/\b2=EJ/\b3=EJ/\b4=EJ/\b5=EJ/\b6=EJ/\b7=EJ/\b8=EJ/\b9=EJ/\b10=EJ/\b11=EJ:=by revert h;unfold yM;cases b1<;>cases b2<;>cases b3<;>cases b4<;>cases b5<;>cases b6<;>cases b7<;>cases b8<;>cases b9<;>cases b10<;>cases b11<;>simp
theorem hG{x lo:Int}:Xj x lo hi=EJ↔lo<=x/\x<=hi:=by unfold Xj;simp
theorem Ejo{p:Nat->Int}{kl:Nat->Nat}(h:XO p kl=0):(∀i,9<=i->i<56->(Zr i:Int)<=p i/\p i<=U_ i/\(9<i->i<13->p i%2=0))/\ ∀i,5<=i->i<=8->1<=kl i/\kl i<=64:=by
 obtain⟨h1,h2,h3,h4,h5,h6,h7,h8,h9,h10,h11⟩:=Ejn h;refine⟨fun i hi1 hi2=> ?_,fun i hi1 hi2=> ?_⟩;·simp only[yB,Oj,beq_iff_eq,UB,Xn,aC,bv,rF,hG] at h3;simp only[yC,hZ,aC,bv,um,Ut,hG,Oj,Nat.reduceMul,Z3,Nat.zero_mul,Nat.add_zero] at h4;simp only[yD,Oj,UB,Xn,aC,bv,Ut,hG] at h5;simp only[yF,Oj,UB,Xn,aC,bv,Ut,hG] at h6;simp only[yG,Oj,UB,Xn,aC,bv,Ut,hG] at h7;simp only[yH,Oj,hG] at h8;simp only[yK,Oj,UB,Xn,aC,bv,Ut,hG] at h9;simp only[yL,Oj,beq_iff_eq,UB,Xn,aC,bv,Ut,hG] at h10;simp only[Fo,hG] at h11;have hc:i=9\/i=10\/i=11\/i=12\/i=13\/i=14\/i=15\/i=16\/i=17\/i=18\/i=19\/i=20\/i=21\/i=22\/i=23\/i=24\/i=25\/i=26\/i=27\/i=28\/i=29\/i=30\/i=31\/i=32\/i=33\/i=34\/i=35\/i=36\/i=37\/i=38\/i=39\/i=40\/i=41\/i=42\/i=43\/i=44\/i=45\/i=46\/i=47\/i=48\/i=49\/i=50\/i=51\/i=52\/i=53\/i=54\/i=55:=U;rcases hc with rfl|rfl|rfl|rfl|rfl|rfl|rfl|rfl|rfl|rfl|rfl|rfl|rfl|rfl|rfl|rfl|rfl|rfl|rfl|rfl|rfl|rfl|rfl|rfl|rfl|rfl|rfl|rfl|rfl|rfl|rfl|rfl|rfl|rfl|rfl|rfl|rfl|rfl|rfl|rfl|rfl|rfl|rfl|rfl|rfl|rfl|rfl<;>simp[Zr,U_]<;>omega
 ·simp only[uq,Oj,hG] at h2;have hc:i=5\/i=6\/i=7\/i=8:=U;rcases hc with rfl|rfl|rfl|rfl<;>omega
theorem Ejp:IL EZ 24 3:=⟨⟨_,Tryz.underlying24,O⟩,Ef⟩
theorem Ejq(a b c:Y)(W:M):(Un 24 (Ea #[a,b,c]) (E I 0)).run EZ W= .ok a W:=Ef
theorem Ejr(a b c:Y)(W:M):(Un 24 (Ea #[a,b,c]) (E I 1)).run EZ W= .ok b W:=Ef
theorem Ejs(a b c:Y)(W:M):(Un 24 (Ea #[a,b,c]) (E I 2)).run EZ W= .ok c W:=Ef
def yP(w:M)(g:Nat->Y)(kl:Nat->Nat):Prop:= ∀i,5<=i->i<=8-> ∃(A:Option Ep) (cap:Nat) (ys:List Int),g i=G A (kl i) cap/\ys.length=kl i/\Row w A ys
theorem yQ(h:Jr W lo gq L m)(hb:El W W'):Jr W' lo gq L m:=by obtain⟨v,came,k,r2,r3⟩:=h;exact⟨v,came,k.B hb,r2,EG r3 fun _ _ hk=>hk.B hb⟩
theorem FN{S:EB}(h:Jr W lo gq L m)(ho:E7 gp W W')(K:H W gp cs S)(h1:152≠S)(h2:171≠S):Jr W' lo gq L m:=by obtain⟨v,came,k,r2,r3⟩:=h;exact⟨v,came,ho.Ek k (E6 k K h1),r2,EG r3 fun _ _ hk=>ho.Ek hk (E6 hk K h2)⟩
theorem Ejt(pv:Array Y)(e5:Int)(w:M)(hs:pv.size=56)(h5:pv[55]?=D (E I e5)): Eg EZ 42 #[Ea pv] w fun e w'=>e=Ei (Ea #[E I 4,E I e5,E I (-1),E I 0,E I 0,E I 0,E I 0,Ec EI])/\El w w':=by
 have K0:=J<|H.new w pv 28;have b2:=JY w (Eb pv 28) (Eb #[E I 0,E I 0,E I 0,E I 0,E I 0,E I 0,E I 0,Ec EI] 109);have c1:((w.alloc (Eb pv 28)).alloc (Eb #[E I 0,E I 0,E I 0,E I 0,E I 0,E I 0,E I 0,Ec EI] 109)).cell? ⟨w.heap.size,55,Z⟩=D (E I e5):=by rw[(H.B K0.out (Er _ _)).cell,h5]
 have KT:Ed (H ((w.alloc (Eb pv 28)).alloc (Eb #[E I 0,E I 0,E I 0,E I 0,E I 0,E I 0,E I 0,Ec EI] 109)) (w.heap.size+1) #[E I 0,E I 0,E I 0,E I 0,E I 0,E I 0,E I 0,Ec EI] 109):=J (by have:=H.new (w.alloc (Eb pv 28)) #[E I 0,E I 0,E I 0,E I 0,E I 0,E I 0,E I 0,Ec EI] 109;simpa using this);have u:=J b2;clear b2 hs h5 K0;go_enter Tryz.func42,Tryz.ntmps42;go_wp2_with (with_reducible refine JE 4 ?_);apply Es;generalize (w.alloc (Eb pv 28)).alloc (Eb #[E I 0,E I 0,E I 0,E I 0,E I 0,E I 0,E I 0,Ec EI] 109)=w1 at*;go_wp2_with fail;have TP:Eg EZ 67 #[Ea #[E I 0,E I 0,E I 0,E I 0,E I 0,E I 0,E I 0,Ec EI],E I 4,E I e5] w1 fun x w'=>x=Ei (EN.pass ⟨0,0,0,0,0,0,0,EI⟩ 4 e5).a/\El w1 w':=GG ⟨0,0,0,0,0,0,0,EI⟩ 4 e5 w1;refine TP.mono ?_;rintro e w2 ⟨rfl,bb⟩;replace KT:=EH KT bb;replace u:=EV u bb;clear bb c1;obtain⟨tv,E2⟩: ∃tv,(EN.pass ⟨0,0,0,0,0,0,0,EI⟩ 4 e5).a=Ea tv/\tv= #[E I 4,E I e5,E I (-1),E I 0,E I 0,E I 0,E I 0,Ec EI]:=⟨_,O,O⟩;rw[E2.1];have TS:Ed (tv.size=8):=J (by rw[E2.2];rfl);have TO:Ed (tv.all (·.oneCell')=EJ):=J (by rw[E2.2];simp[Oc]);have Oq:=J E2.2;clear E2;go_wp2_with (with_reducible refine wS (cs:=tv) EW KT ?_ (hn:=TS.out) (h1:=TO.out));refine ET (Jd EW O _ _ (w.heap.size+1) tv O (KT.out.setRow tv) TS.out) O ?_;rw[Oq.out];exact⟨O,EY u.out U _⟩
theorem NV:TM 0 0:=by unfold TM;omega
def EIy(g:Nat->Y)(p:Nat->Int)(kl:Nat->Nat)(w:M)(e:Ud)(w':M):Prop:=
 (XO p kl≠0/\e=Ei (Eu #[V Z,E I (XO p kl)]))\/(XO p kl=0/\ ∃(g2:Nat->Y) (gc gq gt:Nat),e=Ei (Eu #[V (D ⟨gc,0,Z⟩),E I 0])/\JU w.heap.size g2 gc gq gt (c0 p) w'/\ ∀i,i<56->i<5\/8<i->g2 i=E I (p i))
structure oN(W:M)(lo gp k:Nat)(g g2:Nat->Y):Prop where
 Ek:H W gp (EL 56 g2) 28
 num: ∀i,i<56->i<5\/8<i->g2 i=g i
 old: ∀i,5+k<=i->i<=8->g2 i=g i
 new: ∀i,5<=i->i<5+k->iH W lo (g2 i)
theorem oN.B(h:oN W lo gp k g g2)(hb:El W W'):oN W' lo gp k g g2:=
 ⟨h.Ek.B hb,h.num,h.old,fun i h1 h2=>(h.new i h1 h2).Ek fun _ _ hk=>hk.B hb⟩
theorem oN.set(h:oN W lo gp k g g2)(hk:k<4)(hv:iH W lo v):oN (W.setCell ⟨gp,5+k,Z⟩ v) lo gp (k+1) g (UR g2 (5+k) v):=by
 have ho:=JS (g:=gp) (W:=W) (5+k) v;have hb: ∀Y3,iH W lo Y3->iH (W.setCell ⟨gp,5+k,Z⟩ v) lo Y3:=fun Y3 hu=>hu.Ek fun _ _ hk=>ho.Ek hk (E6 hk h.Ek EU);refine⟨?_,fun i h1 h2=> ?_,fun i h1 h2=> ?_,fun i h1 h2=> ?_⟩;·rw[<-Am];exact h.Ek.set _ _
 ·rw[pA _ _ _ _ U];exact h.num i h1 h2
 ·rw[pA _ _ _ _ U];exact h.old i U h2
 ·by_cases hi:i=5+k;·subst hi;rw[G8];exact hb _ hv
  ·rw[pA _ _ _ _ hi];exact hb _ (h.new i h1 U)
theorem Eju(g:Nat->Y)(p:Nat->Int)(kl:Nat->Nat)(w:M)(hv:yN g p kl)(hk:yP w g kl)(hR:Ju w)(hC:Xs w)(h2:2<=w.heap.size): Eg EZ 23 #[Ea (EL 56 g)] w fun e w'=>EIy g p kl w e w'/\El w w':=by
 have PV:=J hv;have KI:=J hk;have RC:=J<|JD hR hC;have K0:=J<|H.new w (EL 56 g) 28;have ur:=Er w (Eb (EL 56 g) 28);obtain⟨ck,hck⟩:=Eo (XO p kl);have CK:Ed (∀W,Eg EZ 39 #[Ea (EL 56 g)] W fun e w'=>e=Ei (E I ck)/\El W w'):=J (fun W=>by rw[hck];exact Ejh g p kl W hv);have rK:=J hck;clear hv hk hR hC hck;obtain⟨pv,hpv⟩:=Eo (EL 56 g);rw[<-hpv] at K0 ur CK⊢;have PS:Ed (pv.size=56):=J (by rw[hpv];simp);have HPV:=J hpv;clear hpv;go_enter Tryz.func23,Tryz.ntmps23;go_wp2_with (with_reducible refine JE 9 ?_);apply Es;obtain⟨gp,UG⟩:=Eo w.heap.size;rw[<-UG] at K0⊢;have HGP:=J UG;have KP:=J K0.out;have u:=J ur;clear K0 ur UG;generalize w.alloc (Eb pv 28)=w1 at*;go_wp2_with (with_reducible refine wL U1 KP ?_ (hn:=PS.out));refine(CK.out _).mono ?_;rintro e w2 ⟨rfl,bb⟩;replace u:=EV u bb;replace KP:=EH KP bb;clear bb CK PS;by_cases hc:ck=0
 case neg=>
  have t1:(ck !=0)=EJ:=by simp[hc]
  go_wp2;go_ret2;refine⟨Or.inl ⟨?_,?_⟩,u.out⟩;·rw[<-rK.out];exact hc
  ·rw[<-rK.out];rfl
 subst hc;have OK:=J<|Ejo rK.out.symm;rw[HPV.out] at KP;clear HPV;have c48:w2.cell? ⟨gp,48,Z⟩=D (E I (p 48)):=by rw[H.cell KP.out 48,fp,if_pos U,(PV.out.int 48 U U).1]
 have h48:=OK.out.1 48 U U;simp only[Zr,U_] at h48;go_wp2_with fail;refine(Efa w.heap.size (p 48) _ (by simp at h48;omega) u.out.size).mono ?_;rintro e w3 ⟨⟨gq,rfl,hgq,qb⟩,bb⟩;have QB:=J qb;have HGQ:Ed (w.heap.size<=gq):=J<|Ew u.out.size hgq;replace u:=EV u bb;replace KP:=EH KP bb;clear bb qb hgq c48 h48;obtain⟨A5,d5,ys5,e5,l5,r5⟩:=KI.out 5 U U;obtain⟨A6,d6,ys6,e6,l6,r6⟩:=KI.out 6 U U;obtain⟨A7,d7,ys7,e7,l7,r7⟩:=KI.out 7 U U;obtain⟨A8,d8,Q_,e8,l8,r8⟩:=KI.out 8 U U;have EX5:Ed ((EL 56 g).extract 5 (5+3)= #[G A5 (kl 5) d5,G A6 (kl 6) d6,G A7 (kl 7) d7]):=J (by have e:(EL 56 g).extract 5 (5+3)= #[g 5,g 6,g 7]:=ig;rw[e,e5,e6,e7]);have E8:=J e8;have R5:=J r5;have R6:=J r6;have R7:=J r7;have R8:=J r8;have CB:Ed (oN w3 w.heap.size gp 0 g g):=J ⟨KP.out,fun _ _ _=>rfl,fun _ _ _=>rfl,fun i h1 h2=>U⟩;clear e5 e6 e7 e8 r5 r6 r7 r8;have k5:=OK.out.2 5 U U;have k6:=OK.out.2 6 U U;have k7:=OK.out.2 7 U U;have k8:=OK.out.2 8 U U;go_wp2_with (with_reducible refine wM (off:=5) (cs:= #[G A5 (kl 5) d5,G A6 (kl 6) d6,G A7 (kl 7) d7]) Ejp KP ?_ (he:=EX5.out));clear EX5 KP;go_loopw[25] (fun y wr=> ∃(k:Nat) (g2:Nat->Y),k<=3/\y=E I k/\oN wr w.heap.size gp k g g2/\Jr wr w.heap.size gq [] (p 48)/\El w wr) (fun y _=>3-(In y).toNat);case atStart=>exact⟨0,g,U,O,CB.out,QB.out,u.out⟩
 case round=>
  obtain⟨k,g2,hk,rfl,cb,qb,bb⟩:=hrel;replace CB:=J cb;replace QB:=J qb;replace u:=J bb;clear cb qb bb;have hkk:k=0\/k=1\/k=2\/k=3:=U;rcases hkk with rfl|rfl|rfl|rfl
  ·have IX:=Ejq (G A5 (kl 5) d5) (G A6 (kl 6) d6) (G A7 (kl 7) d7);simp only[show((0:Nat):Int)=0 from rfl];go_wp2_with fail;refine(D8 A5 ys5 (kl 5) d5 _ l5 (It R5.out u.out) U).mono ?_;rintro e w4 ⟨⟨A',c',rfl,ow⟩,bb⟩;have KY:=J<|FM (X8 ow (show w.heap.size<=wr.heap.size from u.out.size)) l5 k5.1 k5.2;replace CB:=J<|CB.out.B bb;replace QB:=J<|yQ QB.out bb;replace u:=EV u bb;clear ow bb IX;have cs:w4.cell? ⟨gp,5,Z⟩=D (g2 5):=by rw[H.cell CB.out.Ek 5,fp,if_pos U]
   have ff:w4.frozen? ⟨gp,5,Z⟩=EI:=H.JZ CB.out.Ek 5;have S4:=J<|CB.out.set (k:=0) U KY.out;have Q4:=J<|FN QB.out (JS (g:=gp) (W:=w4) 5 (G A' (kl 5) c')) CB.out.Ek EU EU;have B4:=J<|u.out.setCell (p:=⟨gp,5,Z⟩) FR (G A' (kl 5) c');go_wp2_with fail;exact⟨⟨1,_,U,Ej,S4.out,Q4.out,B4.out⟩,Zs⟩
  ·have IX:=Ejr (G A5 (kl 5) d5) (G A6 (kl 6) d6) (G A7 (kl 7) d7);simp only[show((1:Nat):Int)=1 from rfl];go_wp2_with fail;refine(D8 A6 ys6 (kl 6) d6 _ l6 (It R6.out u.out) U).mono ?_;rintro e w4 ⟨⟨A',c',rfl,ow⟩,bb⟩;have KY:=J<|FM (X8 ow (show w.heap.size<=wr.heap.size from u.out.size)) l6 k6.1 k6.2;replace CB:=J<|CB.out.B bb;replace QB:=J<|yQ QB.out bb;replace u:=EV u bb;clear ow bb IX;have cs:w4.cell? ⟨gp,6,Z⟩=D (g2 6):=by rw[H.cell CB.out.Ek 6,fp,if_pos U]
   have ff:w4.frozen? ⟨gp,6,Z⟩=EI:=H.JZ CB.out.Ek 6;have S4:=J<|CB.out.set (k:=1) U KY.out;have Q4:=J<|FN QB.out (JS (g:=gp) (W:=w4) 6 (G A' (kl 6) c')) CB.out.Ek EU EU;have B4:=J<|u.out.setCell (p:=⟨gp,6,Z⟩) FR (G A' (kl 6) c');go_wp2_with fail;exact⟨⟨2,_,U,Ej,S4.out,Q4.out,B4.out⟩,Zs⟩
  ·have IX:=Ejs (G A5 (kl 5) d5) (G A6 (kl 6) d6) (G A7 (kl 7) d7);simp only[show((2:Nat):Int)=2 from rfl];go_wp2_with fail;refine(D8 A7 ys7 (kl 7) d7 _ l7 (It R7.out u.out) U).mono ?_;rintro e w4 ⟨⟨A',c',rfl,ow⟩,bb⟩;have KY:=J<|FM (X8 ow (show w.heap.size<=wr.heap.size from u.out.size)) l7 k7.1 k7.2;replace CB:=J<|CB.out.B bb;replace QB:=J<|yQ QB.out bb;replace u:=EV u bb;clear ow bb IX;have cs:w4.cell? ⟨gp,7,Z⟩=D (g2 7):=by rw[H.cell CB.out.Ek 7,fp,if_pos U]
   have ff:w4.frozen? ⟨gp,7,Z⟩=EI:=H.JZ CB.out.Ek 7;have S4:=J<|CB.out.set (k:=2) U KY.out;have Q4:=J<|FN QB.out (JS (g:=gp) (W:=w4) 7 (G A' (kl 7) c')) CB.out.Ek EU EU;have B4:=J<|u.out.setCell (p:=⟨gp,7,Z⟩) FR (G A' (kl 7) c');go_wp2_with fail;exact⟨⟨3,_,U,Ej,S4.out,Q4.out,B4.out⟩,Zs⟩
  ·simp only[show((3:Nat):Int)=3 from rfl];have c8:wr.cell? ⟨gp,8,Z⟩=D (G A8 (kl 8) d8):=by rw[H.cell CB.out.Ek 8,fp,if_pos U,CB.out.old 8 U U,E8.out]
   go_wp2_with fail;refine(D8 A8 Q_ (kl 8) d8 _ l8 (It R8.out u.out) U).mono ?_;rintro e w4 ⟨⟨A',c',rfl,ow⟩,bb⟩;have KY:=J<|FM (X8 ow (show w.heap.size<=wr.heap.size from u.out.size)) l8 k8.1 k8.2;replace CB:=J<|CB.out.B bb;replace QB:=J<|yQ QB.out bb;replace u:=EV u bb;clear ow bb c8;have cs:w4.cell? ⟨gp,8,Z⟩=D (g2 8):=by rw[H.cell CB.out.Ek 8,fp,if_pos U]
   have ff:w4.frozen? ⟨gp,8,Z⟩=EI:=H.JZ CB.out.Ek 8;have S4:=J<|CB.out.set (k:=3) U KY.out;have Q4:=J<|FN QB.out (JS (g:=gp) (W:=w4) 8 (G A' (kl 8) c')) CB.out.Ek EU EU;have B4:=J<|u.out.setCell (p:=⟨gp,8,Z⟩) FR (G A' (kl 8) c');go_wp2_with fail;obtain⟨g3,hg3⟩: ∃g3,g3=UR g2 (5+3) (G A' (kl 8) c'):=⟨_,O⟩;rw[<-hg3] at S4;have K3:=J S4.out.Ek;clear cs ff CB QB u KY hg3;generalize w4.setCell ⟨gp,8,Z⟩ (G A' (kl 8) c')=w5 at*;have G3: ∀i,i<56->i<5\/8<i->g3 i=E I (p i):=fun i h1 h2=>(S4.out.num i h1 h2).trans (PV.out.int i h1 h2).1;have GN:=J G3;obtain⟨f_,yR⟩:=Eo (EL 56 g3);rw[<-yR] at K3;have yS:Ed (f_.size=56):=J (by rw[yR];simp);have P3: ∀i,i<56->i<5\/8<i->f_[i]?=D (E I (p i)):=fun i h1 h2=>by rw[yR,fp,if_pos h1,G3 i h1 h2]
   obtain⟨m5,uI⟩:=Eo (p 39);have C39:Ed (∀W,El w5 W->W.cell? ⟨gp,39,Z⟩=D (E I m5)):=J (fun W hW=>by rw[H.cell (H.B K3.out hW) 39,P3 39 U U,uI]);obtain⟨FT,htk⟩:=Eo (#[E I 4,E I (p 55),E I (-1),E I 0,E I 0,E I 0,E I 0,Ec EI]:Array Y);have TN:Ed (∀W,Eg EZ 42 #[Ea f_] W fun e w'=>e=Ei (Ea FT)/\El W w'):=J (fun W=>by rw[htk];exact Ejt f_ (p 55) W yS.out (P3 55 U U));obtain⟨T0,hT0⟩:=Eo (iC (p 42) (p 49));obtain⟨n0,hn0⟩:=Eo w5.heap.size;have Xt:=J hn0;have TT:Ed (∀W,El w5 W->Eg EZ 43 #[Ea f_] W fun e w'=> ∃g,n0<=g/\e=Ei (V (D ⟨g,0,Z⟩))/\Iv w' g T0/\El W w'):=J (fun W hW=>by rw[hT0];refine(Ebb f_ (p 42) (p 49) W yS.out (P3 42 U U) (P3 49 U U)).mono ?_;rintro e w' ⟨g,h1,h2,h3,h4⟩;exact⟨g,Ew (Ew (OC hn0) hW.size) h1,h2,h3,h4⟩);obtain⟨zh,NW⟩:=Eo (Em (Ev 32));have OFN:Ed (∀W,Eg EZ 45 #[G Z 0 0] W fun e w'=>e=Ei (Ea zh)/\El W w'):=J (fun W=>by rw[NW];exact of_nil W);have BPT:Ed (Tryz.prog.built 50 [(0,E I 1),(3,Ea #[E I 2,E I 4,E I 0])]=D #[E I 1,E I 0,E I 0,E I 0,E I 0,E I 0,E I 0,E I 0,E I 0,E I 2,E I 4,E I 0]):=J Ef;obtain⟨cv,hcv⟩:=Eo (core0 g3 p gq);have BC:Ed (∀gt:Nat,Tryz.prog.built 120 [(0,Ea f_),(1,Ea FT),(2,V (D ⟨gq,0,Z⟩)),(4,V (D ⟨gt,0,Z⟩)),(7,E I m5),(8,Ea #[E I 2,E I 4,E I 0]),(9,Ea #[E I 1,E I 0,E I 0,E I 0,E I 0,E I 0,E I 0,E I 0,E I 0,E I 2,E I 4,E I 0]),(10,Ea zh)]=D (cv gt)):=J (fun gt=>by rw[yR,htk,uI,NW,hcv];exact Ejm g3 p gq gt);have NY:=J hcv;have HT0:=J hT0;clear G3 yR P3 uI htk hT0 hn0 NW hcv;refine cZ (Ph:=fun _ wq=>El w5 wq) (Rel:=J0) (Iw:=fun w w'=>w=w') [kq (Ea f_),kq (Ea f_),kq (Ea FT),kp gq 0,kq (Ea f_),.dep (fun v w=> ∃gt:Nat,v=V (D ⟨gt,0,Z⟩)/\n0<=gt/\Iv w gt T0) (fun v w w' h hr=>EIG) (fun v w w' h hr=>ai),kp gp 39,kq (E I m5),kq (Ea #[E I 2,E I 4,E I 0]),kq (Ea #[E I 2,E I 4,E I 0]),kq (Ea #[E I 1,E I 0,E I 0,E I 0,E I 0,E I 0,E I 0,E I 0,E I 0,E I 2,E I 4,E I 0]),kq (Ea zh),.dep (fun v w=> ∃gt:Nat,v=Ea (cv gt)/\n0<=gt/\Iv w gt T0) (fun v w w' h hr=>EIG) (fun v w w' h hr=>ai),.dep (fun v w=> ∃gc gt:Nat,v=V (D ⟨gc,0,Z⟩)/\n0<=gc/\n0<=gt/\H w gc (cv gt) 120/\Iv w gt T0) (fun v w w' h hr=>EIH) (fun v w w' h hr=>ai),.dep (fun v w=> ∃gc gt:Nat,v=V (D ⟨gc,0,Z⟩)/\n0<=gc/\n0<=gt/\H w gc (cv gt) 120/\Iv w gt T0) (fun v w w' h hr=>EIH) (fun v w w' h hr=>ai),kq (E I 0)] [EI,EI,EI,EI,EI,EI,EI,EI,EI,EI,EI,EI,EI,EI,EI,EI] O [] [(0,0),(0,0),(0,0),(0,0),(0,0),(0,0),(0,0),(0,0),(0,0),(0,0),(0,0),(0,0),(0,0),(0,0),(0,0),(0,0)] Ef Ef Ef Ef Ef UP Ef ?hPh ?h0 ?hstep ?hend;case hPh=> intro p_ w2 w3 h hr;exact bt h hr
   case h0=> exact Jn w5
   case hstep=>
    refine⟨?_,?_,?_,?_,?_,?_,?_,?_,?_,?_,?_,?_,?_,?_,?_,?_,trivial⟩;all_goals intro xv wq p_ hlo hhi hp hd
    all_goals simp only[EM,Ih,Ik,Ic,If]
    ·exact Ep2
    ·exact Ep2
    ·have d1:xv 1=Ea f_:=hd.at 1 rfl;refine JL (f:=42) (args:= #[xv 1]) (Eh O) Ez ?_;rw[d1];exact(TN.out wq).mono fun e w2 ⟨he,hb⟩=>⟨_,he,hb,O⟩
    ·exact Eog
    ·exact Ep2
    ·have d4:xv 4=Ea f_:=hd.at 4 rfl;refine JL (f:=43) (args:= #[xv 4]) (Eh O) Ez ?_;rw[d4];exact(TT.out wq hp).mono fun e w2 ⟨gt,hg,he,ht,hb⟩=>⟨_,he,hb,gt,O,hg,ht⟩
    ·exact Eog
    ·have d6:xv 6=V (D ⟨gp,39,Z⟩):=hd.at 6 rfl;have cc:wq.cell? ⟨gp,39,Z⟩=D (E I m5):=(C39.out wq hp);exact Et Dj O
    ·exact EpP
    ·exact EpP
    ·have d9:xv 9=Ea #[E I 2,E I 4,E I 0]:=hd.at 9 rfl;exact IQ ER (Eh O) (NU O (by simp only[UB,Xn,d9];exact BPT.out)) O
    ·refine JL (f:=45) (args:= #[G Z 0 0]) (Eh O) Ez ?_;exact(OFN.out wq).mono fun e w2 ⟨he,hb⟩=>⟨_,he,hb,O⟩
    ·have d0:xv 0=Ea f_:=hd.at 0 rfl;have d2:xv 2=Ea FT:=hd.at 2 rfl;have d3:xv 3=V (D ⟨gq,0,Z⟩):=hd.at 3 rfl;have d7:xv 7=E I m5:=hd.at 7 rfl;have d8:xv 8=Ea #[E I 2,E I 4,E I 0]:=hd.at 8 rfl;have d10:xv 10=Ea #[E I 1,E I 0,E I 0,E I 0,E I 0,E I 0,E I 0,E I 0,E I 0,E I 2,E I 4,E I 0]:=hd.at 10 rfl;have d11:xv 11=Ea zh:=hd.at 11 rfl;obtain⟨gt,e5_,l5_,t5_⟩: ∃gt:Nat,xv 5=V (D ⟨gt,0,Z⟩)/\n0<=gt/\Iv wq gt T0:=hd.at 5 rfl;exact IQ ER (Eh O) (NU O (by simp only[UB,Xn,d0,d2,d3,e5_,d7,d8,d10,d11];exact BC.out gt)) ⟨gt,O,l5_,t5_⟩
    ·obtain⟨gt,e12,VE,t12⟩: ∃gt:Nat,xv 12=Ea (cv gt)/\n0<=gt/\Iv wq gt T0:=hd.at 12 rfl;exact Zp (w':=wq.alloc (Eb (cv gt) 120)) (Eh O) (by simp[go_sem,e12]) (Er wq _) ⟨wq.heap.size,gt,O,Ew (OC Xt.out) hp.size,VE,H.new _ _ _,t12.B (Er wq _)⟩
    ·exact Et Ez (hd.at 13 rfl: ∃gc gt:Nat,xv 13=V (D ⟨gc,0,Z⟩)/\n0<=gc/\n0<=gt/\H wq gc (cv gt) 120/\Iv wq gt T0)
    ·exact Eog
   case hend=>
    intro xv W6 hp hd;simp only[EM,Ih,Ik,Ic,If];obtain⟨gc,gt,e14,l1,l2,kc,kt⟩: ∃gc gt:Nat,xv 14=V (D ⟨gc,0,Z⟩)/\n0<=gc/\n0<=gt/\H W6 gc (cv gt) 120/\Iv W6 gt T0:=hd 14 EU;have e15:xv 15=E I 0:=hd 15 EU;rw[e14,e15];have KC:=J kc;have KT:=J kt;have QF:=J<|yQ Q4.out hp;have SF:=J<|S4.out.B hp;have BF:=EV B4 hp;have HL:Ed (w.heap.size<=n0):=J (by rw[Xt.out];exact B4.out.size);clear hd kc kt e14 e15 hp Q4 S4 B4 TN TT OFN BPT BC C39 K3;go_wp2;go_ret2;refine⟨Or.inr ⟨rK.out.symm,g3,gc,gq,gt,O,?_,GN.out⟩,BF.out⟩;have hl:=HL.out;refine⟨h2,⟨fun i h1 h3=> ?_,fun i h1 h3=> ?_⟩,?_,Ew hl l1,HGQ.out,Ew hl l2,⟨rH,rH,rH,Ev 32,?_,NT,NT,NT,O,EU⟩,?_,?_,fun i h1 h3=>SF.out.new i h1 U,(RC.out.1).B BF.out,(RC.out.2).B BF.out⟩;·rw[GN.out i h1 h3];exact⟨O,(PV.out.int i h1 h3).2⟩
    ·have ho:=OK.out.1 i h1 h3;refine⟨(p i).toNat,?_,?_,?_,fun h4 h5=> ?_⟩;·rw[GN.out i h3 U,Int.toNat_of_nonneg U]
     ·omega
     ·omega
     ·have:=ho.2.2 h4 h5;omega
    ·have o55:=OK.out.1 55 U U;have o42:=OK.out.1 42 U U;have o49:=OK.out.1 49 U U;have o39:=OK.out.1 39 U U;simp only[Zr,U_] at o55 o42 o49 o39;refine⟨⟨gE,?_,gE,gE,gE,gE,gE,gE⟩,EbZ _ _,gE,gE,gE,gE,gE,gE,?_,⟨N0,N0,N0⟩,⟨my,my,my,my,my,my,my,my,my⟩,?_⟩;·show 0<=p 55/\p 55<=65535;simp at o55;omega
     ·show 0<=p 39/\p 39<=4;simp at o39;omega
     ·refine⟨?_,⟨FW,FW,FW,FW⟩,fun i=> ?_⟩;·show 0<=p 42/\p 42<=1000;simp at o42;omega
      ·show TM ((iC (p 42) (p 49)).E4 i).a ((iC (p 42) (p 49)).E4 i).m;match i with
       |0=>exact NV
       |1=>exact NV
       |_+2=>exact NV
    ·have:=KC.out;rw[NY.out] at this;exact this
    ·have:=KT.out;rw[HT0.out] at this;exact this
    ·have e48:pn g3 48=p 48:=by unfold pn;rw[GN.out 48 U U];rfl
     rw[e48];exact QF.out
theorem JU.mono(h:JU lo g gc gq gt c W)(hl:lo2<=lo)(h2:2<=lo2):JU lo2 g gc gq gt c W:=by obtain⟨v,came,k,r2,r3⟩:=h.ZC;refine⟨h2,h.XV,h.ok,Ew hl h.lc,Ew hl h.lq,Ew hl h.lt,h.Ek,h.tab,⟨v,came,k,r2,mq r3 hl⟩,fun i a b=> ?_,h.roots,h.cmds⟩;obtain⟨gk,n,cap,cur,ys,h1,h3,h4⟩:=h.keys i a b;exact⟨gk,n,cap,cur,ys,h1,Ew hl h3,h4⟩
def EjG(vs:List Nat):List Y:=vs.map (fun s=>V (D ⟨s,0,Z⟩))++fh (3-vs.length) (V Z)
def oP(gc:Nat)(vs:List Nat):Array Y:=([V (D ⟨gc,0,Z⟩),E I 0]++EjG vs).toArray
theorem EjH(gc:Nat)(vs:List Nat)(b:Nat)(h:vs.length<3):(oP gc vs).setIfInBounds (2+vs.length) (V (D ⟨b,0,Z⟩))=oP gc (vs++[b]):=by
 match vs,h with
 |[],_=>rfl
 |[_],_=>rfl
 |[_,_],_=>rfl
structure kJ(lo gm gc:Nat)(vs:List Nat)(W:M):Prop where
 Ek:H W gm (oP gc vs) 84
 st: ∀s∈vs,lo<=s/\H W s #[G Z 0 0] 122
 nd:vs.Nodup
theorem kJ.B(h:kJ lo gm gc vs W)(hb:Ij W.heap.size W W'):kJ lo gm gc vs W':=
 ⟨h.Ek.B hb,fun s hs=>⟨(h.st s hs).1,H.B (h.st s hs).2 hb⟩,h.nd⟩
theorem kJ.add{W2:M}(h:kJ lo gm gc vs W)(hb:Ij W.heap.size W W2)(hl:lo<=b)(hn:W.heap.size<=b)(kb:H W2 b #[G Z 0 0] 122)(h3:vs.length<3):kJ lo gm gc (vs++[b]) (W2.setCell ⟨gm,2+vs.length,Z⟩ (V (D ⟨b,0,Z⟩))):=by
 have k2:=h.Ek.B hb;have on:=JS (g:=gm) (W:=W2) (2+vs.length) (V (D ⟨b,0,Z⟩));refine⟨by rw[<-EjH gc vs b h3];exact k2.set _ _,fun s hs=> ?_,?_⟩
 ·rcases Xp.1 hs with hs|hs;·exact⟨(h.st s hs).1,on.Ek (H.B (h.st s hs).2 hb) (E6 (H.B (h.st s hs).2 hb) k2 EU)⟩
  ·rw[mX.1 hs];exact⟨hl,on.Ek kb (E6 kb k2 EU)⟩
 ·rw[List.nodup_append];refine⟨h.nd,Ej,fun s hs t ht e=> ?_⟩;rw[mX.1 ht] at e;have:=(h.st s hs).2.lt;omega
theorem EjK(gm:Nat)(j:Nat)(hj:j<3)(W:M):(qY 82 (V (D ⟨gm,2,Z⟩)) (E I (j:Int))).run EZ W= .ok (V (D ⟨gm,2+j,Z⟩)) W:=by have:=EEW gm ((j:Int)+1) j O hj W;rwa [Int.add_sub_cancel] at this
def EjL(p:Nat->Int)(kl:Nat->Nat)(w:M)(e:Ud)(w':M):Prop:=
 (XO p kl≠0/\ ∃gm,e=Ei (V (D ⟨gm,0,Z⟩))/\w.heap.size<=gm/\H w' gm #[V Z,E I (XO p kl),V Z,V Z,V Z] 84)
 \/(XO p kl=0/\ ∃(g2:Nat->Y) (a:Oh),e=Ei (V (D ⟨a.gm,0,Z⟩))/\I7 w.heap.size g2 a (c0 p) (fun _=>[]) w'/\ ∀i,i<56->i<5\/8<i->g2 i=E I (p i))
theorem I7.EjM(h:kJ lo gm gc vs W)(C:JU lo g gc gq gt c W)(hm:lo<=gm)(h3:vs.length=3): ∃a:Oh,a.gm=gm/\I7 lo g a c (fun _=>[]) W:=by
 match vs,h3 with
 |[s1,s2,s3],_=> have hn:=h.nd;simp only[nI,UJ,Um,or_false,not_or,not_false_eq_true,List.nodup_nil,and_true] at hn;have st: ∀s∈[s1,s2,s3],aV lo s [] W:=fun s hs=>⟨Z,0,(h.st s hs).2,XL _ _⟩;exact⟨⟨gc,gq,gt,gm,s1,s2,s3⟩,O,⟨C,h.Ek,hm,(h.st s1 Ej).1,(h.st s2 Ej).1,(h.st s3 Ej).1,hn.1.1,hn.1.2,hn.2,st s1 Ej,st s2 Ej,st s3 Ej,fun _=>⟨by intro x hx;simp at hx,Ej⟩⟩⟩
theorem EjN(gc:Nat)(vs:List Nat)(h:vs.length<3):(oP gc vs)[2+vs.length]?=D (V Z):=by
 match vs,h with
 |[],_=>rfl
 |[_],_=>rfl
 |[_,_],_=>rfl
theorem EIN(g:Nat->Y)(p:Nat->Int)(kl:Nat->Nat)(w:M)(hv:yN g p kl)(hk:yP w g kl)(hR:Ju w)(hC:Xs w)(h2:2<=w.heap.size): Eg EZ 10 #[Ea (EL 56 g)] w fun e w'=>EjL p kl w e w'/\Ij w.heap.size w w':=by
 have K0:=J<|H.new w (EL 56 g) 28;have b1:=Er w (Eb (EL 56 g) 28);have CN:Ed (Eg EZ 23 #[Ea (EL 56 g)] (w.alloc (Eb (EL 56 g) 28)) fun e w'=>EIy g p kl (w.alloc (Eb (EL 56 g) 28)) e w'/\Ij (w.alloc (Eb (EL 56 g) 28)).heap.size (w.alloc (Eb (EL 56 g) 28)) w'):=J<|Eju g p kl _ hv (fun i h1 h2=>by obtain⟨A,cap,ys,e1,e2,e3⟩:=hk i h1 h2;exact⟨A,cap,ys,e1,e2,It e3 b1⟩) (hR.B b1) (hC.B b1) I8;obtain⟨pv,hpv⟩:=Eo (EL 56 g);rw[<-hpv] at K0 b1 CN⊢;have PS:Ed (pv.size=56):=J (by rw[hpv];simp);have H2:=J h2;clear hpv hv hk hR hC h2;go_enter Tryz.func10,Tryz.ntmps10;obtain⟨gp,UG⟩:=Eo w.heap.size;go_wp2_with (with_reducible refine wL U1 K0 ?_ (hn:=PS.out));refine CN.out.mono ?_;rintro e w2 ⟨hn,b2⟩;have u:=J<|bt b1 b2;have LW:=J (show w.heap.size<=(w.alloc (Eb pv 28)).heap.size from Ej);clear b1 b2 CN K0;rcases hn with⟨hc,rfl⟩|⟨hc,g2,gc,gq,gt,rfl,C,hg⟩
 ·obtain⟨ck,hck⟩:=Eo (XO p kl);rw[<-hck] at hc⊢;have rK:=J hck;have t1:(ck !=0)=EJ:=zW;have HC:=J hc;have bm:Tryz.prog.built 84 [(1,E I ck)]=D #[V Z,E I ck,V Z,V Z,V Z]:=Ef;clear hck hc;go_wp2_with (first|((with_reducible refine Io 15 ?_);refine I4 rfl 84 _ rfl #[V Z,E I ck,V Z,V Z,V Z] bm ?_));go_ret;refine⟨.inl ⟨?_,_,O,u.out.size,?_⟩,bt u.out (Er _ _)⟩;·rw[<-rK.out];exact HC.out
  ·rw[<-rK.out];exact H.new _ _ _
 have bm:Tryz.prog.built 84 [(0,V (D ⟨gc,0,Z⟩))]=D #[V (D ⟨gc,0,Z⟩),E I 0,V Z,V Z,V Z]:=Ef;have CC:=J<|C.mono LW.out H2.out;have HG:=J<|JD hc hg;clear C hg hc;go_wp2_with (first|((with_reducible refine Io 18 ?_);refine I4 rfl 84 _ rfl #[V (D ⟨gc,0,Z⟩),E I 0,V Z,V Z,V Z] bm ?_));obtain⟨gm,hgm⟩:=Eo w2.heap.size;have K3:=J<|H.new w2 (oP gc []) 84;have b3:=Er w2 (Eb (oP gc []) 84);change _=_ at hgm;rw[show(#[V (D ⟨gc,0,Z⟩),E I 0,V Z,V Z,V Z]:Array Y)=oP gc [] from rfl];rw[<-hgm] at K3⊢;have us:Ed (w.heap.size<=gm):=J (by rw[hgm];exact u.out.size);clear hgm bm;generalize w2.alloc (Eb (oP gc []) 84)=w3 at*;replace CC:=J<|CC.out.B b3;replace u:=EV u b3;have SB:Ed (kJ w.heap.size gm gc [] w3):=J ⟨K3.out,fun _ h=>absurd h Um,List.nodup_nil⟩;obtain⟨lo,hlo⟩:=Eo w.heap.size;obtain⟨p0,hp0⟩:=Eo p;rw[<-hlo] at SB CC us;rw[<-hp0] at CC;have Jv:Ed (Ij lo w w3):=J (by rw[hlo];exact u.out);have Z5:=J hlo;have HP0:=J hp0;clear b3 K3 hlo hp0 u;have u:=Jv;clear Jv;go_wp2_with fail;go_loopw[20] (fun Y3 wr=> ∃vs:List Nat,Y3=E I vs.length/\vs.length<=3/\kJ lo gm gc vs wr/\JU lo g2 gc gq gt (c0 p0) wr/\Ij lo w wr) (fun Y3 _=>3-(In Y3).toNat);case atStart=>exact⟨[],O,Ej,SB.out,CC.out,u.out⟩
 case round=>
  clear SB CC u;obtain⟨vs,rfl,hv3,SB,CC,u⟩:=hrel;replace SB:=J SB;replace CC:=J CC;replace u:=J u;by_cases hlt:vs.length<3
  ·have t8:decide ((vs.length:Int)<3)=EJ:=IJ U;have H3:=J hlt;have IX:=J<|fun W=>EjK gm vs.length hlt W;have mj:=J (show lo<=wr.heap.size by have:=SB.out.Ek.lt;have:=us.out;omega);go_wp2_with fail;refine cZ (Ph:=fun p wq=>match p with|0=>Ij wr.heap.size wr wq|_=>(∃b:Nat,kJ lo gm gc (vs++[b]) wq/\JU lo g2 gc gq gt (c0 p0) wq/\Ij lo w wq)) (Rel:=J0) (Iw:=fun w w'=> ∀g c,H w g c 122->H w' g c 122) [kp gm 0,kq (E I vs.length),.dep (fun v w=> ∃b:Nat,v=V (D ⟨b,0,Z⟩)/\lo<=b/\wr.heap.size<=b/\H w b #[G Z 0 0] 122) (fun v w w' h hr=>by obtain⟨b,h1,h2,h3,h4⟩:=h;exact⟨b,h1,h2,h3,H.B h4 hr⟩) (fun v w w' h hr=>by obtain⟨b,h1,h2,h3,h4⟩:=h;exact⟨b,h1,h2,h3,hr _ _ h4⟩),kp gm 0,kp gm 2,kq (V (D ⟨gm,2+vs.length,Z⟩)),.val (fun _=>True)] _ O [6] [(0,0),(0,0),(0,0),(0,0),(0,0),(0,0),(0,0)] Ef Ef Ef Ef Ef UP Ef ?hPh ?h0 ?hstep ?hend
   case hPh=>
    intro p w2 w3 h hr;match p,h with
    |0,h=>exact bt h hr
    |_+1,⟨b,h1,h2,h3⟩=>exact⟨b,h1.B hr,h2.B hr,h3.trans (pC hr (Ew us.out (aH h1.Ek.lt)))⟩
   case h0=> exact Jn wr
   case hstep=>
    refine⟨?_,?_,?_,?_,?_,?_,?_,trivial⟩;all_goals first|intro xv wq p9 hlo hhi hp hd|intro xv wq hp hd
    all_goals simp only[EM,Ih,Ik,Ic,If]
    ·obtain rfl:p9=0:=U;exact Eog
    ·obtain rfl:p9=0:=U;exact Eog
    ·obtain rfl:p9=0:=U;refine JL (f:=24) (args:= #[]) (Eh O) Ez ?_;exact(Eir wq).mono fun e w2 h=>⟨_,h.1,by rw[h.2];exact Er wq _,wq.heap.size,O,Ew mj.out hp.size,hp.size,by rw[h.2];exact H.new _ _ _⟩
    ·obtain rfl:p9=0:=U;have d0:xv 0=V (D ⟨gm,0,Z⟩):=hd.at 0 rfl;exact EqN
    ·obtain rfl:p9=0:=U;have d3:xv 3=V (D ⟨gm,0,Z⟩):=hd.at 3 rfl;exact EqM
    ·obtain rfl:p9=0:=U;have d4:xv 4=V (D ⟨gm,2,Z⟩):=hd.at 4 rfl;have d1:xv 1=E I vs.length:=hd.at 1 rfl;exact IQ ER (Eh O) (fV O d4 d1 IX.out) O
    ·have d5:xv 5=V (D ⟨gm,2+vs.length,Z⟩):=hd.at 5 rfl;obtain⟨b,e2,h1,h2,h3⟩: ∃b:Nat,xv 2=V (D ⟨b,0,Z⟩)/\lo<=b/\wr.heap.size<=b/\H wq b #[G Z 0 0] 122:=hd.at 2 rfl;have k2:=H.B SB.out.Ek hp;have ff:wq.frozen? ⟨gm,2+vs.length,Z⟩=EI:=H.JZ k2 _;have cc:wq.cell? ⟨gm,2+vs.length,Z⟩=D (V Z):=(H.cell k2 _).trans (EjN gc vs H3.out);have ad:=SB.out.add hp h1 h2 h3 H3.out;have on:=JS (g:=gm) (W:=wq) (2+vs.length) (V (D ⟨b,0,Z⟩));refine GD (w':=wq.setCell ⟨gm,2+vs.length,Z⟩ (V (D ⟨b,0,Z⟩))) (Eh O) (by simp[go_sem,d5,e2,cc,ff]) ⟨fun g2 c2 h4=>h4.other gm _ _ (dL h4 k2 EU),b,ad,?_,?_⟩ trivial;·exact(CC.out.B hp).via (fun k cs S hS hk=>on.Ek hk (E6 hk k2 yp)) (on.bel lo us.out (Ew mj.out hp.size))
     ·exact(u.out.trans (pC hp mj.out)).trans (on.bel lo us.out (Ew mj.out hp.size))
   case hend=>
    intro xv w6 hp hd;simp only[EM,Ih,Ik,Ic,If,Z3];obtain⟨b,s6,c6,b6⟩:=hp;clear hd;go_wp2_with fail;go_roundw;case rel=>exact⟨vs++[b],Ej,I8,s6,c6,b6⟩
    case measure=>simp[In];omega
  ·have t8:decide ((vs.length:Int)<3)=EI:=IZ U;go_wp2;go_ret;obtain⟨a,ha,Y8⟩:=I7.EjM SB.out CC.out us.out U;refine⟨.inr ⟨HG.out.1,g2,a,by rw[ha];rfl,?_,HG.out.2⟩,by rw[<-Z5.out];exact u.out⟩;rw[<-Z5.out,<-HP0.out];exact Y8
def aY:List Y:=[E I 4,E I 1,E I 0,E I 0,E I 0,E I 0,E I 2,E I 4,E I 0,E I 2,E I 4,E I 0]
theorem EjQ:Od EZ 38 #[E I 0,E I 0,E I 0,E I 0,E I 0,E I 0,E I 0,E I 0,E I 0,E I 0,E I 0,E I 0]:=by exact En5
theorem EjR:aY.toArray.all (·.oneCell')=EJ:=by simp[aY,Oc]
theorem EIP(w:M):Eg EZ 16 #[] w fun e w'=>e=Ei (Ea aY.toArray)/\Ij w.heap.size w w':=by have BL:=J<|MN 2 4;have BF:Ed (Tryz.prog.built 38 [(0,E I 4),(1,E I 1),(3,Ea #[E I 2,E I 4,E I 0]),(4,Ea #[E I 2,E I 4,E I 0])]=D aY.toArray):=J Ef;obtain⟨fv,Ul⟩:=Eo aY.toArray;have O0:Ed (fv.size=12):=J (by rw[Ul];rfl);have FO:Ed (fv.all (·.oneCell')=EJ):=J (by rw[Ul];exact EjR);rw[<-Ul] at BF⊢;clear Ul;go_enter Tryz.func16,Tryz.ntmps16;go_wp2_with (with_reducible refine wA EjQ (Ex.mk ?_));apply Es;obtain⟨zv,hzv⟩:=Eo (#[E I 0,E I 0,E I 0,E I 0,E I 0,E I 0,E I 0,E I 0,E I 0,E I 0,E I 0,E I 0]:Array Y);rw[<-hzv];have ZS:Ed (zv.size=12):=J (by rw[hzv];rfl);clear hzv;have K0:=J<|H.new w zv 38;have b0:=Er w (Eb zv 38);generalize w.alloc (Eb zv 38)=w1 at*;go_wp2_with (first|((with_reducible refine Io 2 ?_);refine I4 rfl 36 _ rfl #[E I 2,E I 4,E I 0] BL.out ?_)|(with_reducible refine wA MD (Ex.mk ?_)));apply Es;have K1:=J<|H.new w1 #[E I 0,E I 0,E I 0] 36;have b1:=Er w1 (Eb #[E I 0,E I 0,E I 0] 36);have K2:=J<|K0.out.B b1;have HN:=J (show w.heap.size<w1.heap.size by have:=K0.out.lt;omega);have b2:=J<|bt b0 b1;clear b0 b1 K0;obtain⟨gl,hgl⟩:=Eo w1.heap.size;rw[<-hgl] at K1 HN⊢;clear hgl;generalize w1.alloc (Eb #[E I 0,E I 0,E I 0] 36)=w2 at*;go_wp2_with (with_reducible refine wS (cs:= #[E I 2,E I 4,E I 0]) fR K1 (Ex.mk ?_) (h1:=U9));apply Es;have KL:=J<|K1.out.setRow #[E I 2,E I 4,E I 0];have KF:=J<|H.setRow_other K2.out gl #[E I 2,E I 4,E I 0] J_;have b3:=J<|EY (g:=gl) b2.out J_ #[E I 2,E I 4,E I 0];clear K1 K2 b2;generalize w2.setRow gl #[E I 2,E I 4,E I 0]=w3 at*;go_wp2_with (first|(with_reducible refine wL fR KL ?_)|((with_reducible refine Io 5 ?_);refine I4 rfl 38 _ rfl fv BF.out ?_)|(with_reducible refine wS (cs:=fv) rz KF ?_ (ho:=ZS.out) (hn:=O0.out) (h1:=FO.out)));exact ET (Jd rz O _ _ w.heap.size fv O (KF.out.setRow fv) O0.out) O ⟨O,EY (g:=w.heap.size) b3.out (E3 _) fv⟩
def rL:Array Y:=(Jh aY (G Z 0 0) (G Z 0 0) (Ev 32)).toArray
theorem EIQ:rL.all (·.oneCell')=EJ:=by
 refine all_oneCell_toArray ?_;intro v hv;simp only[Jh,Xp,dw] at hv;rcases hv with hv|hv|⟨x,-,rfl⟩;·simp only[aY,UJ,Um,or_false] at hv;exact Eqz
 ·simp only[UJ,Um,or_false] at hv;rcases hv with rfl|rfl<;>rfl
 ·rfl
theorem EjS(gm:Nat)(x y1 y2 y3:Y)(cv:Array Y)(w:M)(K:H w gm #[V Z,x,y1,y2,y3] 84): Eg EZ 12 #[V (D ⟨gm,0,Z⟩),Ea cv] w fun e w'=>e=Ei (Ea rL)/\Ij w.heap.size w w':=by obtain⟨zt,kI⟩:=Eo ((Jh [E I 0,E I 0,E I 0,E I 0,E I 0,E I 0,E I 0,E I 0,E I 0,E I 0,E I 0,E I 0] (G Z 0 0) (G Z 0 0) (Ev 32)).toArray:Array Y);have ZT:Ed (Od EZ 43 zt):=J Fb;have ZS:Ed (zt.size=46):=J Fc;clear kI;obtain⟨fv,Ul⟩:=Eo aY.toArray;obtain⟨tn,htn⟩:=Eo rL;have BN:Ed (Tryz.prog.built 43 [(0,Ea fv)]=D tn):=J (by rw[Ul,htn];kernel_rfl);have NS:Ed (tn.size=46):=J (by rw[htn];rfl);have NO:Ed (tn.all (·.oneCell')=EJ):=J (by rw[htn];exact EIQ);have CF:=J<|fun W=>EIP W;rw[<-Ul] at CF;rw[<-htn];clear Ul htn;have KE:=J<|H.new w cv 48;go_enter Tryz.func12,Tryz.ntmps12;go_wp2_with (with_reducible refine wA ZT.out (Ex.mk ?_));apply Es;have b1:=JY w (Eb cv 48) (Eb zt 43);have KR:Ed (H ((w.alloc (Eb cv 48)).alloc (Eb zt 43)) (w.heap.size+1) zt 43):=J EE8;obtain⟨gr,hgr⟩:=Eo (w.heap.size+1);rw[<-hgr] at KR⊢;have hI:=J (show w.heap.size<=gr from U);clear hgr KE;have KM:=H.B K b1;have u:=J b1;generalize (w.alloc (Eb cv 48)).alloc (Eb zt 43)=w1 at*;have cc:w1.cell? ⟨gm,0,Z⟩=D (V Z):=(H.cell KM 0).trans O;clear KM b1 K;go_wp2_with fail;refine(CF.out _).mono ?_;rintro e w2 ⟨rfl,b2⟩;replace KR:=J<|KR.out.B b2;replace u:=EV u b2;clear b2 cc CF;go_wp2_with (first|((with_reducible refine Io 13 ?_);refine I4 rfl 43 _ rfl tn BN.out ?_)|(with_reducible refine wS (cs:=tn) fK KR ?_ (ho:=ZS.out) (hn:=NS.out) (h1:=NO.out)));exact ET (Jd fK O _ _ gr tn O (KR.out.setRow tn) NS.out) O ⟨O,EY (g:=gr) u.out hI.out tn⟩
theorem EIR(c:Ey)(q:Y):(kE c q).toArray.size=31:=by simp[kE,Zg,Us]
theorem EIS(c:Ey)(A:Option Ep)(n d:Nat):(kE c (G A n d)).toArray.all (·.oneCell')=EJ:=by simp[kE,Zg,Us,Oc]
theorem FY:ZJ.size=31:=Ef
theorem N4:ZJ.all (·.oneCell')=EJ:=Ef
theorem EjT(lo:Nat)(g:Nat->Y)(a:Oh)(c:Ey)(rs:Int->List Int)(w:M)(Y8:I7 lo g a c rs w): Eg EZ 13 #[V (D ⟨a.gm,0,Z⟩)] w fun e w'=>(∃A d,e=Ei (Ea (kE c (G A c.q.length d)).toArray)/\w'.ownsRow w.heap.size 3 1 (G A c.q.length d) c.q.length (Uz ((Jt c.q).map One.s)))/\Ij w.heap.size w w':=by have MM:=J Y8;have KR:=J<|H.new w ZJ 54;have b1:=Er w (Eb ZJ 54);clear Y8;go_enter Tryz.func13,Tryz.ntmps13;go_wp2_with (with_reducible refine wA rm (Ex.mk ?_));apply Es;have M1:=J<|MM.out.B b1;have u:=J b1;clear b1 MM;generalize w.alloc (Eb ZJ 54)=w1 at*;have cc:w1.cell? ⟨a.gm,0,Z⟩=D (V (D ⟨a.gc,0,Z⟩)):=(H.cell M1.out.Ek 0).trans O;go_wp2_with fail;refine(EiE lo g a.gc a.gq a.gt c _ M1.out.core).mono ?_;rintro e w2 ⟨⟨v,rfl,ow⟩,b2⟩;obtain⟨A,d,rfl⟩:=mx ow;obtain⟨sv,hsv⟩: ∃sv,sv=(kE c (G A c.q.length d)).toArray:=⟨_,O⟩;have SS:Ed (sv.size=31):=J (by rw[hsv];exact EIR _ _);have SO:Ed (sv.all (·.oneCell')=EJ):=J (by rw[hsv];exact EIS _ _ _ _);rw[<-hsv];have sR:=J hsv;have OW:=J<|mq ow u.out.size;replace KR:=J<|KR.out.B b2;replace u:=EV u b2;clear ow hsv b2 cc M1;go_wp2_with (with_reducible refine wS (cs:=sv) fY KR ?_ (ho:=FY) (hn:=SS.out) (h1:=SO.out));refine ET (Jd fY O _ _ w.heap.size sv O (KR.out.setRow sv) SS.out) O ⟨⟨A,d,by rw[sR.out],?_⟩,EY (g:=w.heap.size) u.out (E3 _) sv⟩;have on:=J9 (g:=w.heap.size) (W:=w2) sv;exact EG OW.out fun _ _ hk=>on.Ek hk (E6 hk KR.out EU)
theorem EjV(gm:Nat)(x y1 y2 y3:Y)(w:M)(K:H w gm #[V Z,x,y1,y2,y3] 84): Eg EZ 13 #[V (D ⟨gm,0,Z⟩)] w fun e w'=>e=Ei (Ea ZJ)/\Ij w.heap.size w w':=by have KR:=J<|H.new w ZJ 54;have b1:=Er w (Eb ZJ 54);have BZ:Ed (Tryz.prog.built 54 []=D ZJ):=J Ef;go_enter Tryz.func13,Tryz.ntmps13;go_wp2_with (with_reducible refine wA rm (Ex.mk ?_));apply Es;have KM:=H.B K b1;have u:=J b1;generalize w.alloc (Eb ZJ 54)=w1 at*;have cc:w1.cell? ⟨gm,0,Z⟩=D (V Z):=(H.cell KM 0).trans O;clear KM b1 K;obtain⟨zv,hzv⟩:=Eo ZJ;have SS:Ed (zv.size=31):=J (by rw[hzv];exact FY);have SO:Ed (zv.all (·.oneCell')=EJ):=J (by rw[hzv];exact N4);rw[<-hzv] at BZ KR;have HZV:=J hzv;clear hzv;go_wp2_with (first|((with_reducible refine Io 8 ?_);refine I4 rfl 54 _ rfl zv BZ.out ?_)|(with_reducible refine wS (cs:=zv) fY KR ?_ (ho:=SS.out) (hn:=SS.out) (h1:=SO.out)));exact ET (Jd fY O _ _ w.heap.size zv O (KR.out.setRow zv) SS.out) O ⟨by rw[HZV.out],EY (g:=w.heap.size) u.out (E3 _) zv⟩
def Zk(g:Nat->Y)(i:Nat):Int:=In (g i)
def mA(g:Nat->Y)(i:Nat):Nat:=lenOf (g i)
theorem EjY(h: ∀i,9<=i->i<56-> ∃n:Nat,g i=E I n/\cF i n)(i:Nat)(h1:9<=i)(h2:i<56):(Zr i:Int)<=Zk g i/\Zk g i<=U_ i/\(9<i->i<13->Zk g i%2=0):=by obtain⟨n,e,a,b,c⟩:=h i h1 h2;unfold Zk;rw[e];simp only[In];exact⟨U,U,fun x y=>by have:=c x y;omega⟩
theorem Ej0{a c:Nat}(h:1<=a/\a<=3/\1<=b/\b<=3/\1<=c/\c<=3/\a≠b/\a≠c/\b≠c):[E .i64 1,E I 2,E I 3].all (rG (a:Int) (b:Int) (c:Int))=EJ:=by simp only[aC,bv,rG,UJ,Um,or_false,Bool.and_true,Oj,decide_eq_true_eq];omega
theorem EIT(h:cG w g):XO (Zk g) (mA g)=0:=by
 have ok:=EjY h.int;obtain⟨a,b,c,e1,e2,e3,hp⟩:=h.perm;have k: ∀i,5<=i->i<=8->Xj (mA g i) 1 64=EJ:=fun i h1 h2=>by obtain⟨A,n,cap,ys,base,e,_,_,x,y⟩:=h.keys i h1 h2;unfold mA;rw[e];simp only[lenOf];exact hG.2 ⟨U,U⟩
 have r: ∀i,9<=i->i<56-> ∀lo hi:Int,lo<=Zr i->(U_ i:Int)<=hi->Xj (Zk g i) lo hi=EJ:=fun i h1 h2 lo hi h3 h4=>by have:=ok i h1 h2;exact hG.2 ⟨U,U⟩
 have b1:uo (Zk g)=EJ:=by unfold uo Fm Zk;rw[h.o0,h.o4,e1,e2,e3];simp only[In];rw[Ej0 hp];rfl
 have b2:uq (mA g)=EJ:=by unfold uq;rw[k 5 U U,k 6 U U,k 7 U U,k 8 U U];rfl
 have b3:yB (Zk g)=EJ:=by have o9:=ok 9 U U;have o13:=ok 13 U U;have SG:=(ok 10 U U).2.2 U U;have SK:=(ok 11 U U).2.2 U U;have q12:=(ok 12 U U).2.2 U U;simp[Zr,U_] at o9 o13;simp only[yB,UB,Xn,aC,bv,rF,Oj,beq_iff_eq];exact⟨⟨U,U⟩,⟨r 10 U U _ _ ja jb,SG⟩,⟨r 11 U U _ _ ja jb,SK⟩,⟨r 12 U U _ _ ja jb,q12⟩,trivial⟩
 have b4:yC (Zk g)=EJ:=by simp only[yC,hZ,aC,bv,um,Ut,Oj,Nat.reduceMul,Z3,Nat.zero_mul,Nat.add_zero];refine⟨⟨?_,?_,?_,?_,trivial⟩,⟨?_,?_,?_,?_,trivial⟩,⟨?_,?_,?_,?_,trivial⟩,⟨?_,?_,?_,?_,trivial⟩,⟨?_,?_,?_,?_,trivial⟩,trivial⟩<;>exact r _ U U _ _ ja jb
 have b5:yD (Zk g)=EJ:=by simp only[yD,UB,Xn,aC,bv,Ut,Oj];refine⟨?_,?_,?_,?_,?_,trivial⟩<;>exact r _ U U _ _ ja jb
 have b6:yF (Zk g)=EJ:=by simp only[yF,UB,Xn,aC,bv,Ut,Oj];refine⟨?_,?_,?_,trivial⟩<;>exact r _ U U _ _ ja jb
 have b7:yG (Zk g)=EJ:=by simp only[yG,UB,Xn,aC,bv,Ut,Oj];refine⟨?_,?_,?_,?_,trivial⟩<;>exact r _ U U _ _ ja jb
 have b8:yH (Zk g)=EJ:=by simp only[yH,Oj];constructor<;>exact r _ U U _ _ ja jb
 have b9:yK (Zk g)=EJ:=by simp only[yK,UB,Xn,aC,bv,Ut,Oj];refine⟨?_,?_,trivial⟩<;>exact r _ U U _ _ ja jb
 have b10:yL (Zk g)=EJ:=by have o50:=ok 50 U U;simp[Zr,U_] at o50;simp only[yL,UB,Xn,aC,bv,Ut,Oj,beq_iff_eq];refine⟨⟨U,?_,?_,?_,trivial⟩,?_⟩<;>exact r _ U U _ _ ja jb
 have b11:Fo (Zk g)=EJ:=r _ U U _ _ ja jb;unfold XO;rw[b1,b2,b3,b4,b5,b6,b7,b8,b9,b10,b11];rfl
theorem N5(h:cG w g):yN g (Zk g) (mA g)/\yP w g (mA g):=by
 obtain⟨a,b,c,e1,e2,e3,hp⟩:=h.perm;refine⟨⟨fun i h1 h2=> ?_,fun i h1 h2=> ?_,.inr (EIT h)⟩,fun i h1 h2=> ?_⟩
 ·have hc:i=0\/i=1\/i=2\/i=3\/i=4\/9<=i:=U;unfold Zk I_;rcases hc with rfl|rfl|rfl|rfl|rfl|hc;·rw[h.o0];simp[In]
  ·rw[e1];exact Eq2
  ·rw[e2];exact Eq2
  ·rw[e3];exact Eq2
  ·rw[h.o4];simp[In]
  ·obtain⟨n,e,_,x,_⟩:=h.int i hc h1;rw[e];simp only[In];have:U_ i<=65535:=by unfold U_;(repeat' split);all_goals omega
   exact⟨trivial,U⟩
 ·obtain⟨A,n,cap,ys,base,e,_⟩:=h.keys i h1 h2;exact⟨A,cap,by unfold mA;rw[e];rfl⟩
 ·obtain⟨A,n,cap,ys,base,e,l,ho,_⟩:=h.keys i h1 h2;exact⟨A,cap,ys,by unfold mA;rw[e];rfl,by unfold mA;rw[e];exact l,ho.row⟩
theorem I7.mono(h:I7 lo g a c rs W)(hl:lo2<=lo)(h2:2<=lo2):I7 lo2 g a c rs W:=by have st: ∀{s r},aV lo s r W->aV lo2 s r W:=fun⟨A,c,k,o⟩=>⟨A,c,k,X8 o hl⟩;exact⟨h.core.mono hl h2,h.Ek,Ew hl h.lm,Ew hl h.l1,Ew hl h.l2,Ew hl h.l3,h.n12,h.n13,h.n23,st h.st1,st h.st2,st h.mr,h.oD⟩
theorem EIV(g:Nat->Y)(h: ∀i,i<56->(g i).oneCell'=EJ):(EL 56 g).all (·.oneCell')=EJ:=by rw[Array.all_eq_true_iff_forall_mem];intro v hv;obtain⟨i,hi,e⟩:=Array.mem_iff_getElem.1 hv;rw[<-e,sA];exact h i U5
theorem Ej4(hT:IL EZ T n)(h:fn.results= #[.tmp q,.cell p T])(tmps:Array Y)(w:M)(g:Nat)(cs:Array Y)(v:Y) (hp:tmps.getD p I6=V (D ⟨g,0,Z⟩)) (hq:tmps.getD q I6=v) (hg:H w g cs T) (hn:cs.size=n):(UA fn tmps).run EZ w= .ok (Eu #[v,Ea cs]) w:=by exact Epr
def hH:Array Y:=EL 56 fun i=>if 5<=i/\i<=8 then .slice Z 0 0 else E I 0
theorem N6:Od EZ 28 hH:=by exact En5
def N7:List EB:=[120,152,171,163,5,84,122]
theorem I7.keep(h:I7 lo g a c rs W)(hb: ∀k cs S,N7.contains S=EJ->H W k cs S->H W' k cs S)(hl:Ij lo W W'):I7 lo g a c rs W':=by have st: ∀{s r},aV lo s r W->aV lo s r W':=fun h=>h.via (fun _ _=>hb _ _ _ EU) (fun _ _=>hb _ _ _ EU);refine⟨h.core.via (fun k cs S hS hk=>hb k cs S ?_ hk) hl,hb _ _ _ EU h.Ek,h.lm,h.l1,h.l2,h.l3,h.n12,h.n13,h.n23,st h.st1,st h.st2,st h.mr,h.oD⟩;simp only[Cx,List.contains_eq_mem,UJ,Um,or_false,decide_eq_true_eq] at hS;rcases hS with rfl|rfl|rfl|rfl|rfl<;>decide
theorem I7.only{gx:Nat}(h:I7 lo g a c rs W)(ho:E7 gx W W')(K:H W gx cs T)(hT:N7.contains T=EI)(hl:lo<=gx):I7 lo g a c rs W':=
 h.keep (fun _ _ _ hS hk=>ho.Ek hk (E6 hk K EE3)) (ho.bel lo hl (Ew h.lm (aH h.Ek.lt)))
theorem cG.keep(h:cG w g)(hb: ∀k cs,H w k cs 5->H w' k cs 5):cG w' g:=
 ⟨h.o0,h.o4,h.perm,fun i h1 h2=>by obtain⟨A,n,cap,ys,base,e,l,ho,r⟩:=h.keys i h1 h2;exact⟨A,n,cap,ys,base,e,l,aj ho hb,r⟩,h.int⟩
def hM(g:Nat->Y)(n0:Nat)(v:Y)(W:M):Prop:=
 ∃(g2:Nat->Y) (a:Oh),v=V (D ⟨a.gm,0,Z⟩)/\I7 n0 g2 a (c0 (Zk g)) (fun _=>[]) W/\ ∀i,i<56->i<5\/8<i->g2 i=E I (Zk g i)
theorem hM.B(h:hM g n0 v W)(hb:Ij W.heap.size W W'):hM g n0 v W':=by obtain⟨g2,a,e,m,r⟩:=h;exact⟨g2,a,e,m.B hb,r⟩
theorem Ej5(g:Nat->Y)(n0:Nat)(w:M)(hf:cG w g)(hR:Ju w)(hC:Xs w)(h2:2<=n0)(hn:n0<=w.heap.size): Eg EZ 10 #[Ea (EL 56 g)] w fun e w'=>(∃v,e=Ei v/\hM g n0 v w')/\Ij w.heap.size w w':=by
 obtain⟨pv,kv⟩:=N5 hf;refine(EIN g _ _ w pv kv hR hC U).mono ?_;rintro e w' ⟨hm,hb⟩;rcases hm with⟨h1,-⟩|⟨-,g2,a,rfl,m,r⟩;·exact absurd (EIT hf) h1
 ·exact⟨⟨_,O,g2,a,O,m.mono hn h2,r⟩,hb⟩
theorem Ej6(f:Nat->Y)(w:M)(hp:sB w f)(hR:Ju w)(hC:Xs w)(h2:2<=w.heap.size): Eg EZ 18 #[Ea (EL 56 f)] w fun e w'=>(∃g v,e=Ei (Eu #[v,Ea (EL 56 g)])/\cG w' g/\hM g w.heap.size v w')/\Ij w.heap.size w w':=by
 obtain⟨n0,hn0⟩:=Eo w.heap.size;have CN:Ed (∀(g:Nat->Y) (W:M),cG W g->Ju W->Xs W->n0<=W.heap.size->_):=J<|fun g W hf hR hC hn=>Ej5 g n0 W hf hR hC U hn;have K0:=J<|H.new w (EL 56 f) 28;have b1:=Er w (Eb (EL 56 f) 28);have CF:=J<|fun W (hb:Ij w.heap.size w W)=>EU1 f W ⟨hp.int,fun i h1 h2=>by obtain⟨A,xs,cap,e,l1,l2,r,x⟩:=hp.key i h1 h2;exact⟨A,xs,cap,e,l1,l2,It r hb,x⟩⟩;have RT:=J<|JD hR hC;obtain⟨fv,Ul⟩:=Eo (EL 56 f);rw[<-Ul] at CF K0 b1⊢;have O0:Ed (fv.size=56):=J (by rw[Ul];simp);clear Ul hp hR hC h2;go_enter Tryz.func18,Tryz.ntmps18;go_wp2_with (with_reducible refine wA N6 (Ex.mk ?_));apply Es;obtain⟨zv,hzv⟩:=Eo hH;rw[<-hzv];have ZS:Ed (zv.size=56):=J (by rw[hzv];simp[hH]);clear hzv;have jU:Ed (H ((w.alloc (Eb fv 28)).alloc (Eb zv 28)) (w.heap.size+1) zv 28):=J (by have:=H.new (w.alloc (Eb fv 28)) zv 28;simpa using this);have b2:=Er (w.alloc (Eb fv 28)) (Eb zv 28);have KP:=J<|K0.out.B b2;have u:=J<|bt b1 b2;have hI:Ed (n0<=w.heap.size+1):=J U;clear b1 b2 K0;obtain⟨gr,hgr⟩:=Eo (w.heap.size+1);obtain⟨gp,UG⟩:=Eo w.heap.size;rw[<-hgr] at jU hI⊢;rw[<-UG] at KP⊢;clear hgr UG;generalize (w.alloc (Eb fv 28)).alloc (Eb zv 28)=w2 at*;go_wp2_with (with_reducible refine wL U1 KP ?_ (hn:=O0.out));refine(CF.out _ u.out).mono ?_;rintro e w3 ⟨⟨g,rfl,hf⟩,b3⟩;obtain⟨gv,hgv⟩:=Eo (EL 56 g);rw[<-hgv];have N8:=J hgv;have GS:Ed (gv.size=56):=J (by rw[hgv];simp);have FP:=N5 hf
 have GO:Ed (gv.all (·.oneCell')=EJ):=J (by rw[hgv];exact EIV g (fun i hi=>by
  by_cases h5:i<5\/8<i;·rw[(FP.1.int i hi h5).1];rfl
  ·obtain⟨A,c,e⟩:=FP.1.key i U U;rw[e];rfl))
 have N9:=J<|CN.out g;rw[<-hgv] at N9;replace CN:=N9;have FF0:=J hf;replace jU:=J<|jU.out.B b3;replace u:=EV u b3;clear hgv FP hf b3 CF KP O0 N9;go_wp2_with (with_reducible refine wA N6 (Ex.mk ?_));apply Es;obtain⟨z2,hz2⟩:=Eo hH;rw[<-hz2];have Z2:Ed (z2.size=56):=J (by rw[hz2];simp[hH]);clear hz2;have ak:=J<|H.new w3 z2 28;have b2:=Er w3 (Eb z2 28);obtain⟨ga,hga⟩:=Eo w3.heap.size;rw[<-hga] at ak⊢;have ul:=J (show w3.heap.size<=ga/\gr≠ga by have:=jU.out.lt;omega);clear hga;generalize w3.alloc (Eb z2 28)=w4 at*;go_wp2_with (with_reducible refine wS (cs:=gv) U1 ak (Ex.mk ?_) (ho:=Z2.out) (hn:=GS.out) (h1:=GO.out));apply Es;have KA:=J<|ak.out.setRow gv;have b3:=EY (g:=ga) b2 ul.out.1 gv;generalize w4.setRow ga gv=w5 at*;have FF:=J<|FF0.out.B b3;have KR:=J<|jU.out.B b3;replace u:=EV u b3;replace RT:=J<|JD (RT.out.1.B u.out) (RT.out.2.B u.out);replace u:Ed (Ij n0 w w5):=J (by rw[hn0];exact u.out);have Xt:=J hn0;have LE:=J<|OC hn0;clear ak jU FF0 b2 b3 ul Z2 hn0;go_wp2_with fail;refine cZ (Ph:=fun p wq=>match p with|0=>(Ju wq/\H wq ga gv 28/\cG wq g/\H wq gr zv 28/\Xs wq/\Ij n0 w wq)|_=>(H wq gr gv 28/\cG wq g/\Ij n0 w wq)) (Rel:=J0) (Iw:=fun w w'=> ∀v,hM g n0 v w->hM g n0 v w') [kq (Ea gv),.dep (fun v w=>hM g n0 v w) (fun v w w' h hr=>h.B hr) (fun v w w' h hr=>hr v h),kq (Ea gv),.dep (fun v w=>hM g n0 v w) (fun v w w' h hr=>h.B hr) (fun v w w' h hr=>hr v h),.val (fun _=>True)] _ O [4] [(0,0),(0,0),(0,0),(0,0),(0,0)] Ef Ef Ef Ef Ef UP Ef ?hPh ?h0 ?hstep ?hend
 case hPh=>
  intro p w2 w3 h hr;match p,h with
  |0,⟨h1,h2,h3,h4,h5,h6⟩=>exact⟨h1.B hr,H.B h2 hr,h3.B hr,H.B h4 hr,h5.B hr,h6.trans (pC hr (Ew LE.out h6.size))⟩
  |_+1,⟨h1,h2,h3⟩=>exact⟨H.B h1 hr,h2.B hr,h3.trans (pC hr (Ew LE.out h3.size))⟩
 case h0=> have hb:=Jn w5;exact⟨RT.out.1.B hb,H.B KA.out hb,FF.out.B hb,H.B KR.out hb,RT.out.2.B hb,u.out.trans (pC hb (Ew LE.out u.out.size))⟩
 case hstep=>
  refine⟨?_,?_,?_,?_,?_,trivial⟩;·exact Epm
  ·intro xv wq p hlo hhi hp hd;obtain rfl:p=0:=U;simp only[EM,Ih,Ik,Ic,If];have d0:xv 0=Ea gv:=hd.at 0 rfl;refine JL (f:=10) (args:= #[xv 0]) (Eh O) Ez ?_;rw[d0];exact(CN.out wq hp.2.2.1 hp.1 hp.2.2.2.2.1 (Ew LE.out hp.2.2.2.2.2.size)).mono fun e w2 h=>by obtain⟨⟨v,he,hm⟩,hb⟩:=h;exact⟨v,he,hb,hm⟩
  ·exact Epm
  ·intro xv wq p hlo hhi hp hd;obtain rfl:p=0:=U;simp only[EM,Ih,Ik,Ic,If];exact Et Ez (hd.at 1 rfl:hM g n0 (xv 1) wq)
  ·intro xv wq hp hd;simp only[EM,Ih,Ik,Ic,If];have d2:xv 2=Ea gv:=hd.at 2 rfl;have on:=J9 (g:=gr) (W:=wq) gv;refine cX U1 (Eh O) ⟨O,O,d2⟩ hp.2.2.2.1 ZS.out GS.out GO.out ⟨fun v h=> ?_,?_,?_,?_⟩ trivial;·obtain⟨g2,a,e,m,r⟩:=h;exact⟨g2,a,e,m.only on hp.2.2.2.1 EU hI.out,r⟩
   ·exact H.setRow hp.2.2.2.1 gv
   ·exact hp.2.2.1.keep fun _ _ hk=>on.Ek hk (E6 hk hp.2.2.2.1 EU)
   ·exact hp.2.2.2.2.2.trans (on.bel n0 hI.out (Ew LE.out hp.2.2.2.2.2.size))
 case hend=> intro xv w6 hp hd;simp only[EM,Ih,Ik,Ic,If,Z3];have m3:hM g n0 (xv 3) w6:=hd 3 EU;obtain⟨g2,a,e3,m,r⟩:=m3;rw[e3];have HE:=J<|show hM g n0 (V (D ⟨a.gm,0,Z⟩)) w6 from⟨g2,a,O,m,r⟩;clear hd e3 m r;obtain⟨kr,ft,bb⟩:=hp;go_wp2_with fail;refine ET (v:=Eu #[V (D ⟨a.gm,0,Z⟩),Ea gv]) (Ej4 U1 O _ _ gr _ _ O O kr GS.out) O ?_;rw[<-Xt.out];exact⟨⟨g,_,by rw[N8.out],ft,HE.out⟩,bb⟩
section
variable{P:Program}
theorem N_{a:E_}(hg:o.guard=Z)(st T:EB)(x:J5)(n:Nat)(tv:Array Y)(ho:o.op= .buildSlice st 1 #[(0,x)])(hx:a.eval x=Ea tv)(hs:tv.size=n) (hu:P.underlying st=D (.slice T)) (hi: ∃ie z,P.info? T=D ie/\ie.zero=D z/\ie.size=n) (hn:0<n) (hn2:n<=1000) (h:Ib P ops Q rest (a.put o.dst (G (D ⟨w.heap.size,0,Z⟩) 1 1)) (w.alloc (Eb tv T))):Ib P ops Q (o::rest) a w:=by obtain⟨ie,z,h1,h2,h3⟩:=hi;subst h3;refine wpList_buildSlice hg st T 1 _ ho tv ie z hu h1 h2 U U ?_ h;have e:(#[((0:Nat),x)].map fun(i,x)=>(i,a.eval x)).toList=([Value.agg tv].zipIdx 0).map fun x=>(x.2,x.1):=u5;rw[e];have hz:1*ie.size=((Array.range (1*ie.size)).map (z.cells[· %z.cells.size]!)).size:=Ej;have:=Great.fill_whole hn [Value.agg tv] ((Array.range (1*ie.size)).map (z.cells[· %z.cells.size]!)) (by simp[Value.cells,hs]) Ej;rw[this];simp[Value.cells]
end
theorem Ej7: ∃ie z,Tryz.prog.info? 43=D ie/\ie.zero=D z/\ie.size=46:=by
 have h:(Tryz.prog.info? 43).map (fun i=>(i.zero.isSome,i.size))=D (EJ,46):=Ef;cases hi:Tryz.prog.info? 43 with
 |none=>rw[hi] at h;cases h
 |some ie=> rw[hi] at h;simp only[kj,nF,Prod.mk.injEq] at h;obtain⟨z,hz⟩:=Option.isSome_iff_exists.1 h.1;exact⟨ie,z,O,hz,h.2⟩
theorem Ej8: ∃i z,Tryz.prog.info? 43=D i/\i.zero=D z/\i.size=46/\i.bytes=176/\z.cells.size=46:=by
 have h:(Tryz.prog.info? 43).map (fun i=>(i.zero.isSome,(i.zero.map fun z=>z.cells.size),i.size,i.bytes))=D (EJ,D 46,46,176):=Ef;cases hi:Tryz.prog.info? 43 with
 |none=>rw[hi] at h;cases h
 |some ie=> rw[hi] at h;simp only[kj,nF,Prod.mk.injEq] at h;obtain⟨z,hz⟩:=Option.isSome_iff_exists.1 h.1;rw[hz] at h;simp only[kj,nF] at h;exact⟨ie,z,O,hz,h.2.2.1,h.2.2.2,h.2.1⟩
theorem Ej9(gl base b2:Nat)(A:Option Ep)(n c:Nat)(xs:List Y)(Y3:Y)(m:Nat)(ys:List Y)(w:M)(K:H w gl #[G A n c] 91)(hown:w.ownsRow base 43 46 (G A n c) n xs)(hu:w.ownsRow b2 43 46 Y3 m ys)(h1: ∀y∈ys,y.oneCell'=EJ)(hsz:n+m<=1000)(hb:base<=w.heap.size): Eg EZ 28 #[V (D ⟨gl,0,Z⟩),Y3] w fun e w'=>e=Ei (Eu #[])/\ ∃A' c' w1,w'=w1.setCell ⟨gl,0,Z⟩ (G A' (n+m) c')/\H w1 gl #[G A n c] 91/\w1.ownsRow base 43 46 (G A' (n+m) c') (n+m) (xs++ys)/\w.grownBy w1 (G A n c).ownBlock:=by obtain⟨i,z,hI1,hI2,jX,jZ,yT⟩:=Ej8;obtain⟨Y4,d,rfl⟩:=mx hu;obtain⟨A9,c9,V5,hrun,oL,f9⟩:=FU (P:=EZ) (w:=w) base b2 60 60 43 i z 46 176 Tryz.underlying60 hI1 hI2 jX jZ yT U (G A n c) n xs hown (G Y4 m d) m ys hu h1 J8 U hb;have c0:w.cell? ⟨gl,0,Z⟩=D (G A n c):=(H.cell K 0).trans O;have OWN:=J oL;have KG:=J<|ry hown f9 K EU;have GR:=J f9;clear oL f9 hI1 hI2 jX jZ yT K hown hu h1;go_enter Tryz.func28,Tryz.ntmps28;go_wp2_with ((with_reducible refine Io 10 ?_);(refine Jo (Eh O) (Ol O O O hrun) ?_);refine Ex.mk ?_);apply Es;clear hrun c0;have c1:V5.cell? ⟨gl,0,Z⟩=D (G A n c):=(H.cell KG.out 0).trans O;have f1:V5.frozen? ⟨gl,0,Z⟩=EI:=H.JZ KG.out 0;go_wp2;go_end0;exact⟨O,A9,c9,V5,O,KG.out,OWN.out,GR.out⟩
theorem F0{P:Jq}{a:E_}{off:Nat}{cs:List Y}(hT:IL P T n)(hw:JO o (Jg ops a.tmps)=EJ)(hl:kC o a T b off)(hr:Ed (w.rangeAt b off cs))(hn:cs.length=n) (h:Ib P ops Q rest (a.put o.dst (Ea cs.toArray)) w):Ib P ops Q (o::rest) a w:=by
 obtain⟨⟨d,hu,hd⟩,hi⟩:=hT;unfold kC at hl;split at hl;·rename_i t x ho;obtain⟨rfl,hx⟩:=hl;refine Jo hw ?_ h;have hrun:=run_loadVar_mid w b off t cs d hr.out hu nX iO;unfold Ig;exact EoK
 ·exact hl.elim
def mB:JX:=⟨0,0,[],EI,0,0,0,0,EI,EI⟩
theorem EIY:Od EZ 48 (mB.cells Z 0).toArray:=by intro ev o w ho;unfold Ig;simp only[ho];simp[go_sem];exact congrArg (fun c=>w.alloc (Eb c 48)) Ef
theorem EI0: ∃i z,Tryz.prog.info? 48=D i/\i.zero=D z/\i.size=10/\i.bytes=96/\z.cells.size=10:=by
 have h:(Tryz.prog.info? 48).map (fun i=>(i.zero.isSome,(i.zero.map fun z=>z.cells.size),i.size,i.bytes))=D (EJ,D 10,10,96):=Ef;cases hi:Tryz.prog.info? 48 with
 |none=>rw[hi] at h;cases h
 |some ie=> rw[hi] at h;simp only[kj,nF,Prod.mk.injEq] at h;obtain⟨z,hz⟩:=Option.isSome_iff_exists.1 h.1;rw[hz] at h;simp only[kj,nF] at h;exact⟨ie,z,O,hz,h.2.2.1,h.2.2.2,h.2.1⟩
abbrev bT:=List (JX×Option Ep×Nat)
def rM(es:bT):List Y:=es.flatMap fun x=>x.1.cells x.2.1 x.2.2
structure O9(n0:Nat)(W:M)(A:Option Ep)(n c:Nat)(es:bT):Prop where
 own:W.ownsRow n0 48 10 (G A n c) n (rM es)
 len:es.length=n
 each: ∀x∈es,x.1.ok/\x.1.b.length<=120/\Own W n0 x.2.1 x.2.2 x.1.b
theorem O9.B{c:Nat}{es:bT}(h:O9 n0 W A n c es)(hb:Ij W.heap.size W W'):O9 n0 W' A n c es:=
 ⟨EG h.own fun _ _ hk=>H.B hk hb,h.len,fun x hx=>⟨(h.each x hx).1,(h.each x hx).2.1,XM (h.each x hx).2.2 hb⟩⟩
theorem O9.keep{c:Nat}{es:bT}(h:O9 n0 W A n c es)(hb: ∀S,S=48\/S=5-> ∀k cs,H W k cs S->H W' k cs S):O9 n0 W' A n c es:=
 ⟨EG h.own (hb _ (.inl O)),h.len,fun x hx=>⟨(h.each x hx).1,(h.each x hx).2.1,aj (h.each x hx).2.2 (hb _ (.inr O))⟩⟩
theorem JX.ut(e:JX)(A:Option Ep)(d:Nat):(e.cells A d).length=10:=rfl
theorem Ej_(es:bT): ∀(i j:Nat),j<10-> ∀x,es[i]?=D x->(rM es)[i*10+j]?=(x.1.cells x.2.1 x.2.2)[j]?:=by
 induction es with
 |nil=>intro i j _ x h;simp at h
 |cons y t ih=>
  intro i j hj x h;rw[rM,kG];match i,h with
  |0,h=> simp only[kS,nF] at h;subst h;rw[Z_ F1,Nat.zero_mul,Ox]
  |i+1,h=> rw[aE F1,JX.ut,show(i+1)*10+j-10=i*10+j from U];exact ih i j hj x Ov
theorem EkE(es:bT)(x:JX×Option Ep×Nat):rM (es++[x])=rM es++x.1.cells x.2.1 x.2.2:=by simp[rM]
theorem O9.at{c:Nat}{es:bT}(h:O9 n0 W A n c es)(i:Nat)(hi:i<n): ∃b x,A=D ⟨b,0,Z⟩/\es[i]?=D x/\x∈es/\n0<=b/\W.rangeAt b (i*10) (x.1.cells x.2.1 x.2.2):=by
 obtain⟨x,hx⟩: ∃x,es[i]?=D x:=⟨es[i]'(by rw[h.len];exact hi),JV _⟩;rcases h.own.2 with⟨-,h0⟩|⟨g,cap,cur,hv,hb,hrest⟩;·omega
 ·injection hv with e1 e2 e3;subst e1 e3;refine⟨g,x,O,hx,aD hx,hb,fun j v hj=> ?_⟩
  have hjl:j<10:=by
   rcases JW j 10 with h|h;·exact h
   ·rw[bJ F1] at hj;cases hj
  rw[h.own.cellAt (i*10+j) U,Ej_ es i j hjl x hx];exact hj
theorem EkI(e:JX)(A A2:Option Ep)(d d2:Nat)(n:Nat)(b:List Int)(h:b.length=n):(e.cells A d).toArray.setIfInBounds 2 (G A2 n d2)=(JX.cells {e with b:=b} A2 d2).toArray:=by subst h;rfl
theorem O9.nil(n0:Nat)(w:M)(h:n0<=w.heap.size):O9 n0 (w.alloc (Eb #[] 48)) (D ⟨w.heap.size,0,Z⟩) 0 0 []:=
 ⟨nm w #[] 0 h J8 O,O,fun x hx=>absurd hx (Um)⟩
theorem EkJ(v:Y)(w:M)(hv:ua w v): Eg EZ 11 #[v] w fun e w'=>(∃A n c es,e=Ei (G A n c)/\n<=60/\O9 w.heap.size w' A n c es)/\Ij w.heap.size w w':=by
 obtain⟨A,m,cap,rfl,hx⟩:=hv;have HX:=J hx;obtain⟨n0,hn0⟩:=Eo w.heap.size;have E0:=J<|O9.nil n0 w U;have B0:Ed (Ij n0 w (w.alloc (Eb #[] 48))):=J (by rw[hn0];exact Er w _);have B1:Ed (∀W,Ij n0 w W->Ij w.heap.size w W):=J (by rw[hn0];exact fun W h=>h);have B2:Ed (∀W,Ij w.heap.size w W->Ij n0 w W):=J (by rw[hn0];exact fun W h=>h);have HN:=J hn0;clear hx;rw[<-hn0];clear hn0;obtain⟨i,z,hI1,hI2,jX,jZ,yT⟩:=EI0;have AP:=J<|fun(Y6:M) (Ax:Option Ep) (n c:Nat) (es:bT) (Bx:Option Ep) (x:JX×Option Ep×Nat) (ho:O9 n0 Y6 Ax n c es) (hu:Y6.ownsRow n0 48 10 (G Bx 1 1) 1 (x.1.cells x.2.1 x.2.2)) (h1:n<=60) (hb:n0<=Y6.heap.size)=>FU (P:=EZ) (w:=Y6) n0 n0 29 29 48 i z 10 96 Tryz.underlying29 hI1 hI2 jX jZ yT U (G Ax n c) n (rM es) ho.own (G Bx 1 1) 1 (x.1.cells x.2.1 x.2.2) hu (fun y hy=>by have:=JX.one x.1 x.2.1 x.2.2;rw[Array.all_eq_true_iff_forall_mem] at this;exact this y (by simpa using hy)) J8 U hb;clear hI1 hI2 jX jZ yT;go_enter Tryz.func11,Tryz.ntmps11;go_wp2_with fail;go_loopw[3,4] (fun x y wr=> ∃(i n c:Nat) (A:Option Ep) (es:bT),i<=60/\n<=i/\y=E I i/\x=G A n c/\O9 n0 wr A n c es/\Ij n0 w wr) (fun _ y _=>60-(In y).toNat);case atStart=>exact⟨0,0,0,_,_,U,U,O,O,E0.out,B0.out⟩
 case round=>
  clear E0 B0;obtain⟨i,n,c,Ao,es,EmS,hni,rfl,rfl,EE,u⟩:=hrel;replace EE:=J EE;replace u:=J u;by_cases hlt:i<m
  ·by_cases hl2:i<60
   ·have t1:decide ((i:Int)<(m:Int))=EJ:=IJ U;have t2:decide ((i:Int)<60)=EJ:=IJ U;obtain⟨b,off,hA,hcx⟩:=HX.out.resolve_left U;obtain⟨e,Ab,d,hin,hoc⟩:=hcx i hlt;subst hA
    have RA:Ed (wr.rangeAt b (off+i*10) (e.cells Ab d)):=J (by
     intro j v hj
     have hjl:j<10:=by
      rcases JW j 10 with h|h;·exact h
      ·rw[bJ F1] at hj;cases hj
     have hc:=(hoc j hjl).trans hj;rw[(B1.out wr u.out).cell (Xv _ _ hc)];exact hc)
    have IN:=J<|hin.B (B1.out wr u.out);obtain⟨k,hk⟩:=Eo (min e.b.length 120);have hk1:k<=d:=by have:=hin.le;omega
    have ek:min (e.b.length:Int) 120=(k:Int):=U;have hk2:k<=e.b.length/\k<=120:=U;have hd:=hin.max;obtain⟨lb,hlb⟩:=Eo e.b.length;rw[<-hlb] at ek hk2;have HLB:=J hlb;have lS:Ed ((mB.cells Z 0).toArray.size=10):=J O;have uu:Ed ((e.cells Ab d).toArray.size=10):=J O;have yV:=J<|e.one Ab d;have c2:(e.cells Ab d).toArray[2]?=D (G Ab lb d):=by rw[hlb];rfl
    obtain⟨cv,hcv⟩:=Eo ((e.cells Ab d).toArray);have NY:=J hcv;have CL:Ed ((e.cells Ab d).length=10):=J<|JX.ut _ _ _;clear hcx hoc hin hk hlb;go_wp2_with (first|((with_reducible refine Xm 48 ?_);(with_reducible refine F0 (b:=b) (off:=off+i*10) (cs:=e.cells Ab d) mw ?_ ?_ RA ?_ ?_);(·exact Eh rfl);(·exact⟨rfl,rfl⟩);(·exact CL.out))|(with_reducible refine wA EIY (Ex.mk ?_)));apply Es;rw[<-hcv] at uu yV c2⊢;clear hcv RA;have KE:=J<|H.new wr (mB.cells Z 0).toArray 48;have b1:=Er wr (Eb (mB.cells Z 0).toArray 48);have da:=J (show n0<=wr.heap.size from EI1);obtain⟨ge,hge⟩:=Eo wr.heap.size;rw[<-hge] at KE da⊢;have HG2:=J (show wr.heap.size<=ge from U);clear hge;generalize wr.alloc (Eb (mB.cells Z 0).toArray 48)=w1 at*;go_wp2_with (with_reducible refine wS (cs:=cv) mw KE (Ex.mk ?_) (ho:=lS.out) (hn:=uu.out) (h1:=yV.out));apply Es;have K1:=J<|KE.out.setRow cv;have b2:=EY (g:=ge) b1 HG2.out cv;generalize w1.setRow ge cv=w2 at*;have EE2:=J<|EE.out.B b2;have Jv:=J<|u.out.trans (b2.mono EI1);have RB:=J<|It IN.out.row b2;have LTO:=J<|wj EE.out.own;clear KE b1 b2 EE u;obtain⟨A5,c5,V5,hrun,PJ,EI2,-⟩:=sx (w2.alloc (Eb #[] 5)) w2.heap.size (D ⟨w2.heap.size,0,Z⟩) 0 [] (GP w2 w2.heap.size (E3 _)) Ab d (e.b.take k) (It (r_ RB.out k) (Er w2 _)) (by have:=List.length_take_le k e.b;simp only[jP];omega) Ej 23;have hkl:(e.b.take k).length=k:=by rw[ar,<-HLB.out];omega
    rw[hkl] at hrun;simp only[jP,Ox] at hrun;rw[ZZ] at PJ;have OWN:=J PJ;have b5:=(Er w2 (Eb #[] 5)).trans EI2;have f2:(w2.alloc (Eb #[] 5)).cell? ⟨ge,2,Z⟩=D (G Ab lb d):=((K1.out.B (Er w2 _)).cell 2).trans c2;have fB:=J hkl;clear PJ EI2 hkl;go_wp2_with ((with_reducible refine Io 29 ?_);(refine Jo (Eh O) (Ol O O O hrun) ?_);refine Ex.mk ?_);apply Es;clear hrun f2;have K5:=J<|K1.out.B b5;have jc:=J<|EE2.out.B b5;have N8:=J<|show ge<V5.heap.size from K5.out.lt;have f5:V5.frozen? ⟨ge,2,Z⟩=EI:=K5.out.JZ 2;have g5:V5.cell? ⟨ge,2,Z⟩=D (G Ab lb d):=(K5.out.cell 2).trans c2;go_wp2_with (with_reducible refine P_ 48 ?_);apply Es;obtain⟨e2,he2⟩:=Eo ({e with b:=e.b.take k}:JX);have hc2:cv.setIfInBounds 2 (G A5 k c5)=(e2.cells A5 c5).toArray:=by rw[NY.out,he2];exact EkI e Ab A5 d c5 k _ fB.out
    have K6:=J<|hc2▸K5.out.set 2 (G A5 k c5);have F2:=JS (g:=ge) (W:=V5) 2 (G A5 k c5);have KU:=K5.out;have hb2:e2.b=e.b.take k:=by rw[he2]
    have EO:Ed (JX.ok e2/\e2.b.length<=120/\Own (V5.setCell ⟨ge,2,Z⟩ (G A5 k c5)) n0 A5 c5 e2.b):=J ⟨by rw[he2];exact⟨IN.out.ok.x0,IN.out.ok.x1,IN.out.ok.x2,IN.out.ok.x3⟩,by rw[hb2,fB.out];exact hk2.2,by rw[hb2];exact aj (X8 OWN.out EI3) fun _ _ hk=>F2.Ek hk (E6 hk KU EU)⟩;have rN:Ed (O9 n0 (V5.setCell ⟨ge,2,Z⟩ (G A5 k c5)) Ao n c es):=J ⟨VW jc.out.own fun a ha=>F2.keep _ (Nat.ne_of_lt (gX (LTO.out a ha) HG2.out)) (wj jc.out.own a ha),jc.out.len,fun x hx=>⟨(jc.out.each x hx).1,(jc.out.each x hx).2.1,aj (jc.out.each x hx).2.2 fun _ _ hk=>F2.Ek hk (E6 hk KU EU)⟩⟩;have AX:=J<|(Jv.out.trans (b5.mono EI3)).trans (F2.bel n0 da.out (by have:=da.out;have:=N8.out;omega));generalize V5.setCell ⟨ge,2,Z⟩ (G A5 k c5)=w6 at*;have rB:=J<|show(e2.cells A5 c5).toArray.size=10 from rfl;have F3:=J (show∃ie z,Tryz.prog.info? 48=D ie/\ie.zero=D z/\ie.size=10 from EI4);have b7:=Er w6 (Eb (e2.cells A5 c5).toArray 48);have F4:=J (show n0<=w6.heap.size by have:=AX.out.size;have:=HN.out;omega);obtain⟨A8,c8,V8,EI5,EI6,gr8⟩:=AP.out (w6.alloc (Eb (e2.cells A5 c5).toArray 48)) Ao n c es (D ⟨w6.heap.size,0,Z⟩) (e2,A5,c5) (rN.out.B b7) (nm w6 _ 1 F4.out J8 O) U (by simp;have:=F4.out;omega);have OW8:=J EI6;have GR8:=J gr8;clear EI6 gr8 AP;obtain⟨v2,hv2⟩:=Eo ((e2.cells A5 c5).toArray);rw[<-hv2] at K6 rB EI5;have xg:=J hv2;clear hv2 hc2;go_wp2_with (first|(with_reducible refine wL mw K6 ?_ (hn:=rB.out))|((with_reducible refine Io 33 ?_);(refine N_ rfl 29 48 _ 10 v2 rfl rfl rB.out Tryz.underlying29 F3.out U U ?_))|((with_reducible refine Io 34 ?_);(refine Jo (Eh rfl) (Ol rfl rfl rfl EI5) ?_)));refine⟨⟨i+1,n+1,c8,A8,es++[(e2,A5,c5)],U,U,Ej,O,⟨?_,?_,?_⟩,?_⟩,Jb⟩;·rw[EkE];exact OW8.out
    ·rw[IY,rN.out.len];rfl
    ·intro x hx;have keep: ∀A c b,Own w6 n0 A c b->Own V8 n0 A c b:=fun A c b h=>aj h fun _ _ hk=>ry (rN.out.B b7).own GR8.out (H.B hk b7) EU;rcases Xp.1 hx with hx|hx;·exact⟨(rN.out.each x hx).1,(rN.out.each x hx).2.1,keep _ _ _ (rN.out.each x hx).2.2⟩
     ·rw[mX.1 hx];exact⟨EO.out.1,EO.out.2.1,keep _ _ _ EO.out.2.2⟩
    ·exact(AX.out.trans (b7.mono F4.out)).trans (Nh (rN.out.B b7).own GR8.out (by simp;have:=F4.out;omega))
   ·have t1:decide ((i:Int)<(m:Int))=EJ:=IJ U;have t2:decide ((i:Int)<60)=EI:=IZ U;exact Eq7
  ·have t1:decide ((i:Int)<(m:Int))=EI:=IZ U;exact Eq7
theorem Eka{r:Tmp}(hT:IL EZ T n)(h:fn.results= #[.tmp q,.cell p T,.tmp r])(tmps:Array Y)(w:M)(g:Nat)(cs:Array Y)(v Y3:Y) (hp:tmps.getD p I6=V (D ⟨g,0,Z⟩)) (hq:tmps.getD q I6=v) (hr:tmps.getD r I6=Y3) (hg:H w g cs T) (hn:cs.size=n):(UA fn tmps).run EZ w= .ok (Eu #[v,Ea cs,Y3]) w:=by
 have hp':tmps[p]?.getD I6=V (D ⟨g,0,Z⟩):=kw;have hq':tmps[q]?.getD I6=v:=kH;have hr':tmps[r]?.getD I6=Y3:=by simpa using hr
 simp[UA,h,hp',hq',hr',asAddr,vp hT hg hn]
theorem Ekb(gm:Nat)(v:Y)(w:M)(h:w.cell? ⟨gm,1,Z⟩=D v): Eg EZ 29 #[V (D ⟨gm,0,Z⟩)] w fun e w'=>e=Ei v/\Ij w.heap.size w w':=by go_enter Tryz.func29,Tryz.ntmps29;go_wp2;go_ret;exact⟨O,IU _ _⟩
theorem Ekc:Od EZ 91 #[G Z 0 0]:=by exact ErX
structure F5(n0 gm:Nat)(code:Int)(S:M->Prop)(Y5 PS:Array Y->Prop):Prop where
 keep: ∀W W',S W->(∀k cs T,N7.contains T=EJ->H W k cs T->H W' k cs T)->Ij n0 W W'->S W'
 step: ∀W (e:JX) A d,S W->e.ok->Own W 0 A d e.b->e.b.length<=120->Eg EZ 12 #[V (D ⟨gm,0,Z⟩),Ea (e.cells A d).toArray] W fun en w'=> ∃tv:Array Y,en=Ei (Ea tv)/\tv.size=46/\tv.all (·.oneCell')=EJ/\Y5 tv/\S w'/\Jw n0 W.heap.size W w'
 site: ∀W,S W->Eg EZ 13 #[V (D ⟨gm,0,Z⟩)] W fun en w'=> ∃sv:Array Y,en=Ei (Ea sv)/\sv.size=31/\sv.all (·.oneCell')=EJ/\PS sv/\Ij W.heap.size W w'
 code: ∀W,S W->W.cell? ⟨gm,1,Z⟩=D (E I code)
theorem F5.B{code:Int}{S:M->Prop}{PS:Array Y->Prop}(h:F5 n0 gm code S Y5 PS)(hs:S W)(hb:Ij W.heap.size W W')(hn:n0<=W.heap.size):S W':=
 h.keep W W' hs (fun _ _ _ _ hk=>hk.B hb) (hb.mono hn)
def h_(Jx:List (Array Y)):List Y:=Jx.flatMap Array.toList
theorem Ekd(Jx:List (Array Y))(t:Array Y):h_ (Jx++[t])=h_ Jx++t.toList:=by simp[h_]
structure mC(n0 gl:Nat)(n:Nat)(Y5:Array Y->Prop)(W:M):Prop where
 ex: ∃(A:Option Ep) (c:Nat) (Jx:List (Array Y)),H W gl #[G A n c] 91/\W.ownsRow n0 43 46 (G A n c) n (h_ Jx)/\Jx.length=n/\ ∀tv∈Jx,Y5 tv/\tv.size=46
theorem mC.keep(h:mC n0 gl n Y5 W)(hb: ∀S,S=91\/S=43-> ∀k cs,H W k cs S->H W' k cs S):mC n0 gl n Y5 W':=by obtain⟨A,c,Jx,k,o,r⟩:=h;exact⟨A,c,Jx,hb _ (.inl O) _ _ k,EG o (hb _ (.inr O)),r⟩
theorem mC.B(h:mC n0 gl n Y5 W)(hb:Ij W.heap.size W W'):mC n0 gl n Y5 W':=h.keep fun _ _ _ _ hk=>hk.B hb
def F6(gl gm:Nat)(n0 n:Nat)(code:Int)(Y5 PS:Array Y->Prop)(j:Nat)(v:Y)(w:M):Prop:=match j with
 |0=>v=V (D ⟨gl,0,Z⟩)
 |1=> ∃(A:Option Ep) (c:Nat) (Jx:List (Array Y)),v=G A n c/\w.ownsRow n0 43 46 (G A n c) n (h_ Jx)/\Jx.length=n/\ ∀tv∈Jx,Y5 tv/\tv.size=46
 |2=>v=V (D ⟨gm,0,Z⟩)
 |3=> ∃sv:Array Y,v=Ea sv/\sv.size=31/\sv.all (·.oneCell')=EJ/\PS sv
 |4=>v=V (D ⟨gm,0,Z⟩)
 |_=>v=E I code
theorem Ekf(gl gm:Nat)(n0 n:Nat)(code:Int)(Y5 PS:Array Y->Prop): ∀j v w w',j<6->F6 gl gm n0 n code Y5 PS j v w->J0 w w'->F6 gl gm n0 n code Y5 PS j v w':=by
 intro j v w w' hi h hb;unfold F6 at*;split at h;case h_2=>obtain⟨A,c,Jx,e,o,r⟩:=h;exact⟨A,c,Jx,e,EG o fun _ _ hk=>H.B hk hb,r⟩
 all_goals exact h
theorem Ekg(pv:Array Y)(Y5:Array Y->Prop)(PS:Int->Array Y->Prop)(b0:Nat)(A0:Option Ep)(n c0:Nat)(es:bT)(w:M)(hp:pv.size=56)(hn:n<=60)(hE:O9 b0 w A0 n c0 es) (hN: ∀W,Ij w.heap.size w W->Eg EZ 10 #[Ea pv] W fun e w'=>(∃gm code S,e=Ei (V (D ⟨gm,0,Z⟩))/\F5 w.heap.size gm code S Y5 (PS code)/\S w')/\Ij W.heap.size W w'): Eg EZ 14 #[Ea pv,G A0 n c0] w fun e w'=>(∃A c Jx sv code,e=Ei (Eu #[G A n c,Ea sv,E I code])/\w'.ownsRow w.heap.size 43 46 (G A n c) n (h_ Jx)/\Jx.length=n/\(∀tv∈Jx,Y5 tv/\tv.size=46)/\sv.size=31/\PS code sv)/\Ij w.heap.size w w':=by
 obtain⟨n0,hn0⟩:=Eo w.heap.size;rw[<-hn0] at hN⊢;have CN:=J hN;have HN:=J hn0;have HP:=J hp;have K0:=J<|H.new w pv 28;have b1:=Er w (Eb pv 28);have EE:=J hE;clear hN hn0 hp hE;go_enter Tryz.func14,Tryz.ntmps14;go_wp2_with (with_reducible refine wA rm (Ex.mk ?_));apply Es;obtain⟨zs,hzs⟩:=Eo ZJ;rw[<-hzs];have ZS:Ed (zs.size=31):=J PU;clear hzs;have F7:Ed (H ((w.alloc (Eb pv 28)).alloc (Eb zs 54)) (w.heap.size+1) zs 54):=J (by have:=H.new (w.alloc (Eb pv 28)) zs 54;simpa using this);have b2:=Er (w.alloc (Eb pv 28)) (Eb zs 54);have KP:=J<|K0.out.B b2;have bb:=bt b1 b2;replace EE:=J<|EE.out.B bb;have u:Ed (Ij n0 w ((w.alloc (Eb pv 28)).alloc (Eb zs 54))):=J (by rw[HN.out];exact bb);have PX:Ed (n0<=w.heap.size+1):=J J_;clear b1 b2 bb K0;obtain⟨gs,hgs⟩:=Eo (w.heap.size+1);obtain⟨gp,UG⟩:=Eo w.heap.size;rw[<-hgs] at F7 PX⊢;rw[<-UG] at KP⊢;clear hgs UG;generalize (w.alloc (Eb pv 28)).alloc (Eb zs 54)=w2 at*;go_wp2_with (with_reducible refine wL U1 KP ?_ (hn:=HP.out));refine(CN.out _ u.out).mono ?_;rintro e w3 ⟨⟨gm,code,S,rfl,rs,ss⟩,b3⟩;have RS:=J rs;have SS:=J ss;have KS:=J<|F7.out.B b3;replace EE:=J<|EE.out.B b3;have HS2:=J (show n0<=w2.heap.size by have:=PX.out;have:=F7.out.lt;omega);replace u:=J<|u.out.trans (b3.mono HS2.out);have LN:=J<|Ew HS2.out b3.size;clear rs ss b3 KP F7 CN HS2;go_wp2_with (with_reducible refine wA Ekc (Ex.mk ?_));apply Es;have PZ:=J<|H.new w3 #[G Z 0 0] 91;have b4:=Er w3 (Eb #[G Z 0 0] 91);have mh:=J<|show n0<=w3.heap.size from LN.out;obtain⟨gl,hgl⟩:=Eo w3.heap.size;rw[<-hgl] at PZ mh⊢;clear hgl;replace SS:=J<|RS.out.B SS.out b4 LN.out;replace KS:=J<|KS.out.B b4;replace EE:=J<|EE.out.B b4;replace u:=J<|u.out.trans (b4.mono LN.out);replace LN:=J<|Ew LN.out b4.size;have TL:Ed (mC n0 gl 0 Y5 (w3.alloc (Eb #[G Z 0 0] 91))):=J ⟨Z,0,[],PZ.out,cu _ _ _ _,O,fun tv h=>absurd h (Um)⟩;clear b4 PZ;generalize w3.alloc (Eb #[G Z 0 0] 91)=w4 at*;go_wp2_with fail;go_loopw[15] (fun y wr=> ∃i:Nat,i<=n/\y=E I i/\S wr/\H wr gs zs 54/\O9 b0 wr A0 n c0 es/\mC n0 gl i Y5 wr/\Ij n0 w wr/\n0<=wr.heap.size) (fun y _=>n-(In y).toNat);case atStart=>exact⟨0,U,O,SS.out,KS.out,EE.out,TL.out,u.out,LN.out⟩
 case round=>
  clear SS KS EE TL u LN;obtain⟨i,hin,rfl,SS,KS,EE,TL,u,LN⟩:=hrel;replace SS:=J SS;replace KS:=J KS;replace EE:=J EE;replace TL:=J TL;replace u:=J u;replace LN:=J LN;by_cases hlt:i<n
  ·have t1:decide ((i:Int)<(n:Int))=EJ:=IJ U;obtain⟨b,x,hA,hx1,hx2,-,hra⟩:=EE.out.at i hlt;obtain⟨eo,el,ew⟩:=EE.out.each x hx2;subst hA;have RA:=J hra;have OW:=J ew;have EO:=J<|JD eo el;have CL:Ed ((x.1.cells x.2.1 x.2.2).length=10):=J<|JX.ut _ _ _;have uu:Ed ((x.1.cells x.2.1 x.2.2).toArray.size=10):=J O;have yV:=J<|x.1.one x.2.1 x.2.2;have lS:Ed ((mB.cells Z 0).toArray.size=10):=J O;have rP:=J<|fun W (hs:S W) (ho:Own W 0 x.2.1 x.2.2 x.1.b)=>RS.out.step W x.1 x.2.1 x.2.2 hs eo ho el;clear hx1 hra ew eo el;go_wp2_with (first|((with_reducible refine Xm 48 ?_);(with_reducible refine F0 (b:=b) (off:=i*10) (cs:=x.1.cells x.2.1 x.2.2) mw ?_ ?_ RA ?_ ?_);(·exact Eh rfl);(·exact⟨rfl,rfl⟩);(·exact CL.out))|(with_reducible refine wA EIY (Ex.mk ?_)));apply Es;have KE:=J<|H.new wr (mB.cells Z 0).toArray 48;have b1:=Er wr (Eb (mB.cells Z 0).toArray 48);obtain⟨cv,hcv⟩:=Eo ((x.1.cells x.2.1 x.2.2).toArray);obtain⟨ge,hge⟩:=Eo wr.heap.size;rw[<-hcv] at uu yV⊢;simp only[<-hcv] at rP;rw[<-hge] at KE⊢;have HG2:=J (show wr.heap.size<=ge from U);clear hge hcv RA;generalize wr.alloc (Eb (mB.cells Z 0).toArray 48)=w1 at*;go_wp2_with (with_reducible refine wS (cs:=cv) mw KE (Ex.mk ?_) (ho:=lS.out) (hn:=uu.out) (h1:=yV.out));apply Es;have KE1:=J<|KE.out.setRow cv;have b2:=EY (g:=ge) b1 HG2.out cv;generalize w1.setRow ge cv=w2 at*;replace SS:=J<|RS.out.B SS.out b2 LN.out;replace KS:=J<|KS.out.B b2;replace EE:=J<|EE.out.B b2;replace TL:=J<|TL.out.B b2;replace u:=J<|u.out.trans (b2.mono LN.out);replace OW:=J<|X8 (XM OW.out b2) (aO _);replace LN:=J<|Ew LN.out b2.size;clear KE b1 b2;go_wp2_with (with_reducible refine wL mw KE1 ?_ (hn:=uu.out));refine(rP.out _ SS.out OW.out).mono ?_;rintro e w5 ⟨tv,rfl,ts,tn,tg,ss,mm⟩;have TS:=J ts;have TO:=J tn;have TG:=J tg;have F8:=J ss;have F9:=J<|mm.Ek _ _ _ KS.out.lt EU EU KS.out;have jc:=J<|EE.out.keep fun S hS k cs hk=>mm.Ek k cs S hk.lt oQ oQ hk;have TL5:=J<|TL.out.keep fun S hS k cs hk=>mm.Ek k cs S hk.lt oQ oQ hk;have F_:=J<|u.out.trans mm.bel;have kO:=J<|Ew LN.out mm.bel.size;clear ts tn tg ss mm SS KS EE TL u LN KE1 OW rP;go_wp2_with ((with_reducible refine Io 22 ?_);(refine N_ O 60 43 _ 46 tv O O TS.out Tryz.underlying60 Ej7 U U ?_);refine Ex.mk ?_);apply Es;have b6:=Er w5 (Eb tv 43);have Pa:=J<|nm (base:=n0) (e:=43) (size:=46) w5 tv 1 kO.out J8 (by rw[TS.out]);obtain⟨gt,hgt⟩:=Eo w5.heap.size;rw[<-hgt] at Pa⊢;clear hgt;replace F8:=J<|RS.out.B F8.out b6 kO.out;replace F9:=J<|F9.out.B b6;replace jc:=J<|jc.out.B b6;obtain⟨A,c,Jx,kl,own,tl1,tl2⟩:=(TL5.out.B b6).ex;have KL:=J kl;have OWN:=J own;have TVS:=J<|JD tl1 tl2;replace F_:=J<|F_.out.trans (b6.mono kO.out);replace kO:=J<|Ew kO.out b6.size;clear b6 kl own tl1 tl2 TL5;generalize w5.alloc (Eb tv 43)=w6 at*;go_wp2_with fail;refine(Ej9 gl n0 n0 A i c (h_ Jx) (G (D ⟨gt,0,Z⟩) 1 1) 1 tv.toList w6 KL.out OWN.out Pa.out (fun y hy=>by have:=TO.out;rw[Array.all_eq_true_iff_forall_mem] at this;exact this y (by simpa using hy)) U kO.out).mono ?_;rintro e w9 ⟨rfl,A9,c9,w7,rfl,k7,EJO,gr⟩;have on:=JS (g:=gl) (W:=w7) 0 (G A9 (i+1) c9);have EmT:=J mh.out;have b7:=Nh OWN.out gr kO.out;have kp: ∀k cs T,T≠43->T≠91->H w6 k cs T->H (w7.setCell ⟨gl,0,Z⟩ (G A9 (i+1) c9)) k cs T:=fun k cs T h1 h2 hk=>on.Ek (ry OWN.out gr hk h1) (E6 (ry OWN.out gr hk h1) k7 h2);have b8:Ij n0 w6 (w7.setCell ⟨gl,0,Z⟩ (G A9 (i+1) c9)):=b7.trans (on.bel n0 mh.out (Ew kO.out b7.size));have SS9:=J<|RS.out.keep _ _ F8.out (fun k cs T hT hk=>kp k cs T (by rintro rfl;revert hT;decide) (by rintro rfl;revert hT;decide) hk) b8;have yW:=J<|kp _ _ _ EU EU F9.out;have EE9:=J<|jc.out.keep fun S hS k cs hk=>kp k cs S oQ oQ hk;have Pb:=J<|F_.out.trans b8;have Pc:=J<|Ew kO.out b8.size
   have GE:Ed (mC n0 gl (i+1) Y5 (w7.setCell ⟨gl,0,Z⟩ (G A9 (i+1) c9))):=J ⟨A9,c9,Jx++[tv],k7.set 0 _,by rw[Ekd];exact EG EJO fun _ _ hk=>on.Ek hk (E6 hk k7 EU),by rw[IY,TVS.out.1];rfl,fun t ht=>by
    rcases Xp.1 ht with ht|ht;·exact TVS.out.2 t ht
    ·rw[mX.1 ht];exact⟨TG.out,TS.out⟩⟩
   clear on b7 b8 kp k7 EJO gr F8 F9 jc F_ kO KL OWN Pa;generalize w7.setCell ⟨gl,0,Z⟩ (G A9 (i+1) c9)=w8 at*;go_wp2_with fail;exact⟨⟨i+1,U,Ej,SS9.out,yW.out,EE9.out,GE.out,Pb.out,Pc.out⟩,Jb⟩
  ·have t1:decide ((i:Int)<(n:Int))=EI:=IZ U;obtain rfl:i=n:=U;go_wp2_with fail;refine ZV ER Ef 6 Ef Ej EU (F6 gl gm n0 i code Y5 (PS code)) (Ekf _ _ _ _ _ _ _) ?_ ?_
   ·simp only[Xl,Is,Iq,EM,Ih,Ik,Ic,If,and_true];refine⟨?_,?_,?_,?_,?_,?_⟩;all_goals intro v w' hb hd
    ·exact EnB
    ·have d0:v 0=V (D ⟨gl,0,Z⟩):=hd.at 0 rfl;obtain⟨A,c,Jx,k,o,r⟩:=(TL.out.B hb).ex;have hc:w'.cell? ⟨gl,0,Z⟩=D (G A i c):=(k.cell 0).trans O;exact IE ER (Eh O) (by simp[go_sem,d0,hc]) ⟨A,c,Jx,O,o,r⟩
    ·exact EnB
    ·have d2:v 2=V (D ⟨gm,0,Z⟩):=hd.at 2 rfl;refine J4 (f:=13) (args:= #[v 2]) (Eh O) Ez ?_;rw[d2];exact(RS.out.site w' (RS.out.B SS.out hb LN.out)).mono fun e w'' ⟨sv,he,h1,h2,h3,hb'⟩=>⟨_,he,hb',sv,O,h1,h2,h3⟩
    ·exact EnB
    ·have d4:v 4=V (D ⟨gm,0,Z⟩):=hd.at 4 rfl;refine J4 (f:=29) (args:= #[v 4]) (Eh O) Ez ?_;rw[d4];exact(Ekb gm _ w' (RS.out.code w' (RS.out.B SS.out hb LN.out))).mono fun e w'' ⟨he,hb'⟩=>⟨_,he,hb',O⟩
   ·intro v w9 hb hr;obtain⟨A,c,Jx,d1,own,tl⟩: ∃(A:Option Ep) (c:Nat) (Jx:List (Array Y)),v 1=G A i c/\w9.ownsRow n0 43 46 (G A i c) i (h_ Jx)/\Jx.length=i/\ ∀tv∈Jx,Y5 tv/\tv.size=46:=hr 1 U;obtain⟨sv,d3,sz,so,ps⟩: ∃sv:Array Y,v 3=Ea sv/\sv.size=31/\sv.all (·.oneCell')=EJ/\PS code sv:=hr 3 U;have d5:v 5=E I code:=hr 5 U;simp only[Is,Iq,IT,IM,EM,Ih,Ik,Ic,If];rw[d1,d3,d5];have yW:=J<|KS.out.B hb;have Pb:=J<|u.out.trans (hb.mono LN.out);have OWN:=J own;have GE:=J tl;have SZ:=J sz;have SO:=J so;have PP:=J ps;have Pc:=J<|Ew LN.out hb.size;clear own tl sz so ps hr hb d1 d3 d5 SS KS EE TL u;go_wp2_with (with_reducible refine wS (cs:=sv) fY yW ?_ (ho:=ZS.out) (hn:=SZ.out) (h1:=SO.out));have on:=J9 (g:=gs) (W:=w9) sv;refine ET (v:=Eu #[G A i c,Ea sv,E I code]) (Eka fY O _ _ gs sv _ _ O O O (yW.out.setRow sv) SZ.out) O ?_;exact⟨⟨A,c,Jx,sv,code,O,EG OWN.out fun _ _ hk=>on.Ek hk (E6 hk yW.out EU),GE.out.1,GE.out.2,SZ.out,PP.out⟩,Pb.out.trans (on.bel n0 PX.out Pc.out)⟩
def Pd(p:Nat->Int)(kl:Nat->Nat)(code:Int)(sv:Array Y):Prop:=
 (XO p kl≠0/\code=XO p kl/\sv=ZJ)\/(XO p kl=0/\code=0/\ ∃(c:Ey) (A:Option Ep) (n d:Nat),sv=(kE c (G A n d)).toArray/\p 55<=c.tok.e/\0<=c.tok.h/\c.tok.h<=4)
theorem Ekj(p:Nat->Int)(kl:Nat->Nat)(n0 gm:Nat)(hc:XO p kl≠0):F5 n0 gm (XO p kl) (fun W=>n0<=W.heap.size/\H W gm #[V Z,E I (XO p kl),V Z,V Z,V Z] 84) (fun tv=>XO p kl≠0->tv=rL) (Pd p kl (XO p kl)):=by
 refine⟨fun W W' h hb hl=>⟨Ew h.1 hl.size,hb _ _ _ EU h.2⟩,fun W e A d h _ _ _=> ?_,fun W h=> ?_,fun W h=>(H.cell h.2 1).trans O⟩;·refine(EjS gm _ _ _ _ _ W h.2).mono ?_;rintro en w' ⟨rfl,hb⟩;exact⟨_,O,rh aY _ _ _ O O,EIQ,fun _=>rfl,⟨Ew h.1 hb.size,h.2.B hb⟩,Jw.ED hb h.1⟩
 ·refine(EjV gm _ _ _ _ W h.2).mono ?_;rintro en w' ⟨rfl,hb⟩;exact⟨_,O,FY,N4,.inl ⟨hc,O,O⟩,hb⟩
theorem Ekk(g:Nat->Y)(p:Nat->Int)(kl:Nat->Nat)(b0:Nat)(A0:Option Ep)(n c0:Nat)(es:bT)(w:M)(hch:XO p kl≠0)(hv:yN g p kl)(hk:yP w g kl)(hR:Ju w)(hC:Xs w)(h2:2<=w.heap.size)(hn:n<=60)(hE:O9 b0 w A0 n c0 es): Eg EZ 14 #[Ea (EL 56 g),G A0 n c0] w fun e w'=>(∃A c Jx sv code,e=Ei (Eu #[G A n c,Ea sv,E I code])/\w'.ownsRow w.heap.size 43 46 (G A n c) n (h_ Jx)/\Jx.length=n/\(∀tv∈Jx,(XO p kl≠0->tv=rL)/\tv.size=46)/\sv.size=31/\Pd p kl code sv)/\Ij w.heap.size w w':=by
 refine Ekg (EL 56 g) (fun tv=>XO p kl≠0->tv=rL) (Pd p kl) b0 A0 n c0 es w Ej hn hE fun W hb=> ?_;have hkW:yP W g kl:=fun i h1 h2=>by obtain⟨A,cap,ys,e1,e2,e3⟩:=hk i h1 h2;exact⟨A,cap,ys,e1,e2,It e3 hb⟩
 refine(EIN g p kl W hv hkW (hR.B hb) (hC.B hb) (Ew h2 hb.size)).mono ?_;rintro e w' ⟨hm,hb2⟩;refine⟨?_,hb2⟩;rcases hm with⟨h1,gm,rfl,hl,K⟩|⟨h1,g2,a,rfl,Y8,-⟩;·exact⟨gm,_,_,O,Ekj p kl _ gm h1,Ew hb.size hb2.size,K⟩
 ·exact absurd h1 hch
theorem Ekl(x0 x1 x2 x3 x4 x5 x6 x7 x8 x9 gA iY y0 y1 y2 y3 y4 y5 y6 y7 y8 y9 rQ rR:Int)(W:M): ∃r:Bool,(X5 .eql 50 (Ea #[E I x0,E I x1,E I x2,E I x3,E I x4,E I x5,E I x6,E I x7,E I x8,E I x9,E I gA,E I iY]) (Ea #[E I y0,E I y1,E I y2,E I y3,E I y4,E I y5,E I y6,E I y7,E I y8,E I y9,E I rQ,E I rR])).run EZ W= .ok (Ec r) W/\((x0=y0/\x1=y1/\x2=y2/\x3=y3/\x4=y4/\x5=y5/\x6=y6/\x7=y7/\x8=y8/\x9=y9/\gA=rQ/\iY=rR)->r=EJ):=by
 have h1:(Op.equalIn (9999) 25 (Ea #[E I x1,E I x2,E I x3,E I x4]) (Ea #[E I y1,E I y2,E I y3,E I y4])).run EZ W= .ok (decide (x1=y1/\x2=y2/\x3=y3/\x4=y4)) W:=By _ _ _ _ _ _ _ _ _ W;have h5:(Op.equalIn (9999) 25 (Ea #[E I x5,E I x6,E I x7,E I x8]) (Ea #[E I y5,E I y6,E I y7,E I y8])).run EZ W= .ok (decide (x5=y5/\x6=y6/\x7=y7/\x8=y8)) W:=By _ _ _ _ _ _ _ _ _ W;by_cases e0:x0=y0
 ·by_cases e1:x1=y1/\x2=y2/\x3=y3/\x4=y4
  ·by_cases e5:x5=y5/\x6=y6/\x7=y7/\x8=y8
   ·by_cases e9:x9=y9
    ·by_cases e10:gA=rQ
     ·by_cases e11:iY=rR;·refine⟨EJ,?_,fun _=>rfl⟩;rw[IJ e1] at h1;rw[IJ e5] at h5;simp[go_sem,e0,h1,h5,e9,e10,e11]
      ·refine⟨EI,?_,fun h=>U⟩;rw[IJ e1] at h1;rw[IJ e5] at h5;simp[go_sem,e0,h1,h5,e9,e10,e11]
     ·refine⟨EI,?_,fun h=>U⟩;rw[IJ e1] at h1;rw[IJ e5] at h5;simp[go_sem,e0,h1,h5,e9,e10]
    ·refine⟨EI,?_,fun h=>U⟩;rw[IJ e1] at h1;rw[IJ e5] at h5;simp[go_sem,e0,h1,h5,e9]
   ·refine⟨EI,?_,fun h=>U⟩;rw[IJ e1] at h1;rw[IZ e5] at h5;simp[go_sem,e0,h1,h5]
  ·refine⟨EI,?_,fun h=>U⟩;rw[IZ e1] at h1;simp[go_sem,e0,h1]
 ·exact Eqm
theorem Ekm(x0 x1 x2 x3 x4 x5 x6 x7 x8 x9 gA iY y0 y1 y2 y3 y4 y5 y6 y7 y8 y9 rQ rR:Int)(W:M): ∃r:Bool,(X5 .eql 38 (Ea #[E I x0,E I x1,E I x2,E I x3,E I x4,E I x5,E I x6,E I x7,E I x8,E I x9,E I gA,E I iY]) (Ea #[E I y0,E I y1,E I y2,E I y3,E I y4,E I y5,E I y6,E I y7,E I y8,E I y9,E I rQ,E I rR])).run EZ W= .ok (Ec r) W/\((x0=y0/\x1=y1/\x2=y2/\x3=y3/\x4=y4/\x5=y5/\x6=y6/\x7=y7/\x8=y8/\x9=y9/\gA=rQ/\iY=rR)->r=EJ):=by
 have h2:(Op.equalIn (9999) 25 (Ea #[E I x2,E I x3,E I x4,E I x5]) (Ea #[E I y2,E I y3,E I y4,E I y5])).run EZ W= .ok (decide (x2=y2/\x3=y3/\x4=y4/\x5=y5)) W:=By _ _ _ _ _ _ _ _ _ W;by_cases e0:x0=y0
 ·by_cases e1:x1=y1
  ·by_cases e2:x2=y2/\x3=y3/\x4=y4/\x5=y5
   ·by_cases e6:x6=y6
    ·by_cases e7:x7=y7
     ·by_cases e8:x8=y8
      ·by_cases e9:x9=y9
       ·by_cases e10:gA=rQ
        ·by_cases e11:iY=rR;·refine⟨EJ,?_,fun _=>rfl⟩;rw[IJ e2] at h2;simp[go_sem,e0,e1,h2,e6,e7,e8,e9,e10,e11]
         ·refine⟨EI,?_,fun h=>U⟩;rw[IJ e2] at h2;simp[go_sem,e0,e1,h2,e6,e7,e8,e9,e10,e11]
        ·refine⟨EI,?_,fun h=>U⟩;rw[IJ e2] at h2;simp[go_sem,e0,e1,h2,e6,e7,e8,e9,e10]
       ·refine⟨EI,?_,fun h=>U⟩;rw[IJ e2] at h2;simp[go_sem,e0,e1,h2,e6,e7,e8,e9]
      ·refine⟨EI,?_,fun h=>U⟩;rw[IJ e2] at h2;simp[go_sem,e0,e1,h2,e6,e7,e8]
     ·refine⟨EI,?_,fun h=>U⟩;rw[IJ e2] at h2;simp[go_sem,e0,e1,h2,e6,e7]
    ·refine⟨EI,?_,fun h=>U⟩;rw[IJ e2] at h2;simp[go_sem,e0,e1,h2,e6]
   ·refine⟨EI,?_,fun h=>U⟩;rw[IZ e2] at h2;simp[go_sem,e0,e1,h2]
  ·refine⟨EI,?_,fun h=>U⟩;simp[go_sem,e0,e1]
 ·exact Eqm
theorem Ekn(x0 x1 x2 y0 y1 y2:Int)(W:M): ∃r:Bool,(X5 .eql 36 (Ea #[E I x0,E I x1,E I x2]) (Ea #[E I y0,E I y1,E I y2])).run EZ W= .ok (Ec r) W/\((x0=y0/\x1=y1/\x2=y2)->r=EJ):=by
 by_cases e0:x0=y0
 ·by_cases e1:x1=y1
  ·by_cases e2:x2=y2;·refine⟨EJ,?_,fun _=>rfl⟩;simp[go_sem,e0,e1,e2]
   ·refine⟨EI,?_,fun h=>U⟩;simp[go_sem,e0,e1,e2]
  ·refine⟨EI,?_,fun h=>U⟩;simp[go_sem,e0,e1]
 ·exact Eqm
theorem Eko(x y:Nat->Bool)(W:M): ∃r:Bool,(X5 .eql 52 (Ea #[Ec (x 0),Ec (x 1),Ec (x 2),Ec (x 3),Ec (x 4)]) (Ea #[Ec (y 0),Ec (y 1),Ec (y 2),Ec (y 3),Ec (y 4)])).run EZ W= .ok (Ec r) W/\((x 0=y 0/\x 1=y 1/\x 2=y 2/\x 3=y 3/\x 4=y 4)->r=EJ):=by
 refine⟨decide (x 0=y 0/\x 1=y 1/\x 2=y 2/\x 3=y 3/\x 4=y 4),?_,fun h=>IJ h⟩;generalize x 0=x0;generalize x 1=x1;generalize x 2=x2;generalize x 3=x3;generalize x 4=x4;generalize y 0=y0;generalize y 1=y1;generalize y 2=y2;generalize y 3=y3;generalize y 4=y4;obtain⟨i,hi⟩:=info_of_underlying Tryz.underlying4;have hx:=run_equalIn_array (P:=EZ) W 9999 #[Ec x0,Ec x1,Ec x2,Ec x3,Ec x4] #[Ec y0,Ec y1,Ec y2,Ec y3,Ec y4] Tryz.underlying52 hi;rw[show Tryz.prog.cellsOf 4=1 from Ef,show U4 5=[0,1,2,3,4] from rfl] at hx;simp only[Op.eqItems,Z3,Nat.reduceMul] at hx;by_cases e0:x0=y0
 ·subst e0;by_cases e1:x1=y1
  ·subst e1;by_cases e2:x2=y2
   ·subst e2;by_cases e3:x3=y3
    ·subst e3;by_cases e4:x4=y4;·subst e4;simp[go_sem,hx]
     ·simp[go_sem,hx,e4]
    ·simp[go_sem,hx,e3]
   ·simp[go_sem,hx,e2]
  ·simp[go_sem,hx,e1]
 ·simp[go_sem,hx,e0]
theorem Ekp(x y:Nat->Int)(W:M): ∃r:Bool,(X5 .eql 22 (Ea #[E I (x 0),E I (x 1),E I (x 2),E I (x 3),E I (x 4)]) (Ea #[E I (y 0),E I (y 1),E I (y 2),E I (y 3),E I (y 4)])).run EZ W= .ok (Ec r) W/\((x 0=y 0/\x 1=y 1/\x 2=y 2/\x 3=y 3/\x 4=y 4)->r=EJ):=by
 refine⟨decide (x 0=y 0/\x 1=y 1/\x 2=y 2/\x 3=y 3/\x 4=y 4),?_,fun h=>IJ h⟩;generalize x 0=x0;generalize x 1=x1;generalize x 2=x2;generalize x 3=x3;generalize x 4=x4;generalize y 0=y0;generalize y 1=y1;generalize y 2=y2;generalize y 3=y3;generalize y 4=y4;obtain⟨i,hi⟩:=info_of_underlying Tryz.underlying3;have hx:=run_equalIn_array (P:=EZ) W 9999 #[E I x0,E I x1,E I x2,E I x3,E I x4] #[E I y0,E I y1,E I y2,E I y3,E I y4] Tryz.underlying22 hi;rw[show Tryz.prog.cellsOf 3=1 from Ef,show U4 5=[0,1,2,3,4] from rfl] at hx;simp only[Op.eqItems,Z3,Nat.reduceMul] at hx;by_cases e0:x0=y0
 ·subst e0;by_cases e1:x1=y1
  ·subst e1;by_cases e2:x2=y2
   ·subst e2;by_cases e3:x3=y3
    ·subst e3;by_cases e4:x4=y4;·subst e4;simp[go_sem,hx]
     ·simp[go_sem,hx,e4]
    ·simp[go_sem,hx,e3]
   ·simp[go_sem,hx,e2]
  ·simp[go_sem,hx,e1]
 ·simp[go_sem,hx,e0]
end Go.Proofs.YtclmichaaiohjaaGreatDoor
