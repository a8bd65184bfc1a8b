import Derived.Test.YtclmichaaiohjaaGreatDoorR08
set_option maxRecDepth 100000
set_option linter.unusedVariables false
set_option linter.unusedSimpArgs false
set_option maxHeartbeats 6400000
namespace Go.Proofs.YtclmichaaiohjaaGreatDoor
open RowKit
open _root_.Array renaming getElem?_eq_some_iff->Jt
open Bool renaming true->u,false->B
open Go renaming World->M,Calls->Ef,TypeId->EC,Value->V,Addr->Eu,Program->Js,heap_alloc_new->fL,bodyPost_ret->ET,results->Xa,Act->E6,Oper->EN,execOp->Iw,wpList->IZ,undef->I6,Operand->UH,below_setRow->E3,wpQuiet_nil->IM,results_none->U1,Ending->Ut,wpList_store_mid->OH
open Act renaming put->In
open Ending renaming returned->Eg
open Instr renaming mapUpdate->jP,lookup->gL
open IntKind renaming i64->I,u8->IP
open Lib renaming hid->O
open Obj renaming cells->EJ
open Go.Proofs.Tryz renaming prog->EU
open Result renaming andThen_ok->Uf
open RowKit renaming Hid->Ea
open RowKit.Below renaming refl->IE,size->XJ
open Sem renaming run_bind->Ud,run_pure->UU,run->UC
open Value renaming bool->Ec,int->E,agg->EZ,slice->EI,tuple->Et,pointer->Y,oneCell'->OC
open World renaming alloc->UN
open Int renaming le_refl->ZB
open List renaming mem_of_mem_take->fK,getElem?_eq_getElem->Ok,getElem?_eq_some_iff->UG,take_succ_cons->Ir,length_take->aj,getD_eq_getElem?_getD->UK,getElem?_append_right->ak,take_zero->Im,setIfInBounds_toArray->Ip,getElem_mem->hH,append_assoc->U9,set_cons_succ->Ig,set_cons_zero->Ih,length_drop->mV,drop_succ_cons->IL,drop_zero->IG,append_nil->fc
open Nat renaming le_trans->EA,le_refl->E7,zero_add->JV,le_of_eq->OQ
open Option renaming some->D,none->Z
open KQ
variable{x y:UH}{W w w':M}{g gs n b n0 lo hi gc gq gt ns:Nat}{o:EN}{T T2:EC}{cs c2:Array V}{v Y3 r:V}{rs:List Rec}{P:Js}{F:UH->V}{a:E6}{K:E6->Prop}
theorem Edz(t:EG)(po s d:Int)(th:Bool):((t.make po s d th).2≠0)\/(s=t.h/\t.e<65535/\d≠s/\1<=d/\d<=3/\t.o<0/\t.make po s d th=({t with o:=d,oa:=0,om:=max po 0},0)):=by
 unfold EG.make;by_cases h1:s≠t.h;·rw[if_pos h1];exact .inl Eh
 ·rw[if_neg h1];by_cases h2:65535<=t.e;·rw[if_pos h2];exact .inl Eh
  ·rw[if_neg h2];by_cases h3:d=s;·rw[if_pos h3];exact .inl Eh
   ·rw[if_neg h3];by_cases h4:d<1\/3<d\/th=B;·rw[if_pos h4];exact .inl Eh
    ·rw[if_neg h4];by_cases h5:0<=t.o;·rw[if_pos h5];exact .inl Eh
     ·rw[if_neg h5];exact .inr ⟨X,X,h3,X,X,X,U⟩
theorem EdA(lo hi:Nat)(g:Nat->V)(gc gq gt gs:Nat)(c:EB)(ns:Nat)(rs:List Rec)(l:List Int)(k:Int)(w:M)(S:E_ lo hi g gc gq gt gs c ns rs w)(hk:1<=k/\k<=3)(hn:ns<800000)(hl:rs.length<800000): Ef EU 131 #[Y (D ⟨gs,0,Z⟩),E I k,EZ (EF l)] w fun e w'=>e=Eg (Et #[])/\(∃c' m new,m<=3/\E_ lo hi g gc gq gt gs c' (ns+m) (rs++new) w'/\((∃cd,c'=c/\new=[⟨7,k,l.getD 1 0,c.tok.e,cd,0⟩])\/(∃po:Int,g 44=E I po/\k=c.tok.h/\c.tok.o<0/\c'={c with tok:={c.tok with o:=l.getD 3 0,oa:=0,om:=max po 0}}/\new=[⟨9,k,l.getD 1 0,c.tok.e,0,l.getD 3 0⟩])))/\Ex lo hi w w':=by
 obtain⟨po,hpo,VH⟩:=S.core.ZJ.fit 44 X X;have iD:=O hpo;have Z1:Ea ((po:Int)<=1000):=O (by have:=VH.2.1;unfold U2 at this;simp at this;omega);have ZL:=fun d th W=>EOW g c.tok k d po th W hpo;have HK:=O hk;clear hpo VH hk;obtain⟨Iq,Uw,Xk,Zb⟩: ∃Iq,c.tok.a=EZ Iq/\Ea (Iq.size=8)/\Ea (c.tok.v.toArray=Iq):=⟨_,U,O U,O U⟩;obtain⟨pv,hpv,wn,Lq⟩: ∃pv,EK 56 g=pv/\Ea (pv.size=56)/\Ea ((EK 56 g).toList.toArray=pv):=⟨_,U,O ky,O Eh⟩;have S0:=O S;have HN:=O hn;have HL:=O hl;have KM:=O<|H.new w (EF l) 183;have b1:=Ep w (EJ (EF l) 183);have S1:=O<|S0.out.G b1;have MM:=O<|Ex.Ew (lo:=lo) (hi:=hi) b1;obtain⟨v1,hv1⟩:=En (l.getD 1 0);have Oo:Ea (∀W g,H W g (EF l) 183->W.cell? ⟨g,1,Z⟩=D (E I v1)):=O (fun W g K=>by rw[hv1];exact Za K 1 X X);try rw[<-hv1]
 replace hv1:=O hv1;obtain⟨v3,hv3⟩:=En (l.getD 3 0);have ww:Ea (∀W g,H W g (EF l) 183->W.cell? ⟨g,3,Z⟩=D (E I v3)):=O (fun W g K=>by rw[hv3];exact Za K 3 X X);try rw[<-hv3]
 replace hv3:=O hv3;clear S hn hl S0;obtain⟨mv,hmv⟩:=En (EF l);rw[<-hmv] at KM b1 S1 MM Oo ww⊢;clear hmv;cases hr:c.tok.make po k v3 (c.T.Zu v3) with|mk t2 cd=>
 obtain⟨rv,IH,RS,RO⟩:=ZH t2;have RS:=O RS;have RO:=O RO;have Uv:=O IH;have HR:=O hr;have CA:Ea (∀W,Ef EU 178 #[EZ pv,EZ Iq,E I k,E I v3,Ec (c.T.Zu v3)] W fun x w'=>x=Eg (Et #[EZ rv,E I cd])/\El W w'):=O (fun W=>by have h:=ZL v3 (c.T.Zu v3) W;rw[hr,Uw,hpv] at h;rw[<-IH];exact h);clear hr ZL Uw hpv;obtain⟨e2,he2⟩:=En t2.e;have CE:Ea (∀W g,H W g rv 109->W.cell? ⟨g,1,Z⟩=D (E I e2)):=O (fun W g K=>by have e:rv=Uj t2.h t2.e t2.o t2.oa t2.om t2.la t2.lm t2.bad:=VK;subst e;rw[he2];exact(H.cell K 1).trans U);have aJ:Ea (rv.toList=t2.v):=O (by have:=IH;unfold EG.a at this;injection this with this;rw[<-this];rfl);clear IH he2;have BR3:Tryz.prog.built 222 [(0,E I 135),(3,E I k),(4,E I e2)]=D (I9 [135,0,0,k,e2,0,0,0,0,0,0,0,0,0]):=Ed;go_enter Tryz.func131,Tryz.ntmps131;go_wp2_with fail;clear b1;generalize w.alloc (EJ mv 183)=w1 at*;obtain⟨gm,hgm⟩:=En w.heap.size;rw[<-hgm] at KM⊢;clear hgm;obtain⟨n0,hn0⟩:=En w1.heap.size;have X0:=O (show lo<=n0/\hi<=n0/\w.heap.size<=n0 from nM);refine iF (Ph:=fun _ wq=>(E_ lo hi g gc gq gt gs c ns rs wq/\Ex lo hi w wq/\H wq gm mv 183/\n0<=wq.heap.size)) (Rel:=Oa) (Ij:=lC) [.val (fun v=>v=Y (D ⟨gs,0,Z⟩)),.val (fun v=>v=Y (D ⟨gs,0,Z⟩)),.val (fun v=>v=Y (D ⟨gs,0,Z⟩)),.val (fun v=>v=Y (D ⟨gc,0,Z⟩)),.val (fun v=>v=Y (D ⟨gc,0,Z⟩)),.val (fun v=>v=Y (D ⟨gc,0,Z⟩)),.val (fun v=>v=EZ pv),.val (fun v=>v=Y (D ⟨gs,0,Z⟩)),.val (fun v=>v=Y (D ⟨gs,0,Z⟩)),.val (fun v=>v=Y (D ⟨gs,0,Z⟩)),.val (fun v=>v=Y (D ⟨gc,0,Z⟩)),.val (fun v=>v=Y (D ⟨gc,0,Z⟩)),.val (fun v=>v=Y (D ⟨gc,56,Z⟩)),.val (fun v=>v=EZ Iq),.val (fun v=>v=E I k),.val (fun v=>v=Y (D ⟨gm,3,Z⟩)),.val (fun v=>v=E I v3),.val (fun v=>v=Y (D ⟨gs,0,Z⟩)),.val (fun v=>v=Y (D ⟨gs,0,Z⟩)),.val (fun v=>v=Y (D ⟨gs,0,Z⟩)),.val (fun v=>v=Y (D ⟨gc,0,Z⟩)),.val (fun v=>v=Y (D ⟨gc,0,Z⟩)),.val (fun v=>v=Y (D ⟨gc,95,Z⟩)),.val (fun v=>v=Y (D ⟨gt,0,Z⟩)),.val (fun v=>v=Y (D ⟨gm,3,Z⟩)),.val (fun v=>v=E I v3),.val (fun v=>v=Ec (c.T.Zu v3)),.val (fun v=>v=Et #[EZ rv,E I cd]),.val (fun v=>v=Et #[EZ rv,E I cd]),.val (fun v=>v=EZ rv),.val (fun v=>v=E I cd),.dep (aO n0) (fun v w w' h hr=>h.G hr) (fun v w w' h hr=>h.iG hr),.tie [31] (fun x w=> ∃b:Nat,x 31=Y (D ⟨b,0,Z⟩)/\n0<=b/\H w b rv 109) (fun x w w' h hr=>qo) (fun x y w hq h=>by rw[hq 31 Eh] at h;exact h),.val (fun v=>v=E I cd)] [B,B,B,B,B,B,B,B,B,B,B,B,B,B,B,B,B,B,B,B,B,B,B,B,B,B,B,B,B,B,B,B,u,B] U [[],[],[],[],[],[],[],[],[],[],[],[],[],[],[],[],[],[],[],[],[],[],[],[],[],[],[],[],[],[],[],[],[31],[]] U [32] [(0,0),(0,0),(0,0),(0,0),(0,0),(0,0),(0,0),(0,0),(0,0),(0,0),(0,0),(0,0),(0,0),(0,0),(0,0),(0,0),(0,0),(0,0),(0,0),(0,0),(0,0),(0,0),(0,0),(0,0),(0,0),(0,0),(0,0),(0,0),(0,0),(0,0),(0,1),(0,0),(0,0),(1,1)] Ed Ed Ed Ed Ed Ed U_ Ed ?hPh ?h0 ?hstep ?hend;case hPh=> intro p w2 w3 h hr;exact⟨h.1.G hr,h.2.1.trans (Ex.Ew hr),H.G h.2.2.1 hr,EA h.2.2.2 (XJ hr)⟩
 case h0=> exact Eob
 case hstep=>
  refine⟨?_,?_,?_,?_,?_,?_,?_,?_,?_,?_,?_,?_,?_,?_,?_,?_,?_,?_,?_,?_,?_,?_,?_,?_,?_,?_,?_,?_,?_,?_,?_,?_,?_,?_,trivial⟩;all_goals first|intro xv wq p hlo hhi hp hd|intro xv wq hp hd
  all_goals simp only[EL,In,Ip,Ig,Ih]
  ·exact Elu
  ·exact ElN
  ·exact ElM
  ·exact Enr
  ·exact ElL
  ·exact El8
  ·obtain rfl:p=0:=X;have d5:xv 5=Y (D ⟨gc,0,Z⟩):=hd.at 5 rfl;obtain⟨big,KB,UJ⟩:=bA hp.1.core;exact Ena
  ·exact Elu
  ·exact Emn
  ·exact Emm
  ·obtain rfl:p=0:=X;have d9:xv 9=Y (D ⟨gs,0,Z⟩):=hd.at 9 rfl;have cc:wq.cell? ⟨gs,0,Z⟩=D (Y (D ⟨gc,0,Z⟩)):=hp.1.IC;exact Es wl U
  ·exact Emi
  ·exact Emh
  ·obtain rfl:p=0:=X;have d12:xv 12=Y (D ⟨gc,56,Z⟩):=hd.at 12 rfl;obtain⟨big,KB,UJ⟩:=bA hp.1.core;exact EmK
  ·exact Elu
  ·exact Elu
  ·obtain rfl:p=0:=X;have d15:xv 15=Y (D ⟨gm,3,Z⟩):=hd.at 15 rfl;have cc:wq.cell? ⟨gm,3,Z⟩=D (E I v3):=ww.out _ _ hp.2.2.1;exact Es (by simp[go_sem,d15,cc]) U
  ·exact Elu
  ·obtain rfl:p=0:=X;have d17:xv 17=Y (D ⟨gs,0,Z⟩):=hd.at 17 rfl;exact Es wu U
  ·obtain rfl:p=0:=X;have d18:xv 18=Y (D ⟨gs,0,Z⟩):=hd.at 18 rfl;exact Es Lu U
  ·obtain rfl:p=0:=X;have d19:xv 19=Y (D ⟨gs,0,Z⟩):=hd.at 19 rfl;have cc:wq.cell? ⟨gs,0,Z⟩=D (Y (D ⟨gc,0,Z⟩)):=hp.1.IC;exact Es Ch U
  ·obtain rfl:p=0:=X;exact Epc
  ·obtain rfl:p=0:=X;have d21:xv 21=Y (D ⟨gc,0,Z⟩):=hd.at 21 rfl;exact Es (by simp[go_sem,d21]) U
  ·obtain rfl:p=0:=X;have d22:xv 22=Y (D ⟨gc,95,Z⟩):=hd.at 22 rfl;have cc:wq.cell? ⟨gc,95,Z⟩=D (Y (D ⟨gt,0,Z⟩)):=hp.1.core.cell 6 rfl 0 Eh;exact Es Lv U
  ·exact Elu
  ·obtain rfl:p=0:=X;have d24:xv 24=Y (D ⟨gm,3,Z⟩):=hd.at 24 rfl;have cc:wq.cell? ⟨gm,3,Z⟩=D (E I v3):=ww.out _ _ hp.2.2.1;exact Es (by simp[go_sem,d24,cc]) U
  ·obtain rfl:p=0:=X;have d23:xv 23=Y (D ⟨gt,0,Z⟩):=hd.at 23 rfl;have d25:xv 25=E I v3:=hd.at 25 rfl;refine JR (f:=55) (args:= #[xv 23,xv 25]) (Ei U) Ez ?_;rw[d23,d25];exact(nI gt c.T v3 wq hp.1.core.tab hp.1.core.ok.T).mono fun e w2 h=>⟨_,h.1,h.2▸IE _ _,U⟩
  ·obtain rfl:p=0:=X;have d6:xv 6=EZ pv:=hd.at 6 rfl;have d13:xv 13=EZ Iq:=hd.at 13 rfl;have d14:xv 14=E I k:=hd.at 14 rfl;have d16:xv 16=E I v3:=hd.at 16 rfl;have d26:xv 26=Ec (c.T.Zu v3):=hd.at 26 rfl;refine JR (f:=178) (args:= #[xv 6,xv 13,xv 14,xv 16,xv 26]) (Ei U) Ez ?_;rw[d6,d13,d14,d16,d26];exact EpC
  ·obtain rfl:p=0:=X;have d27:xv 27=Et #[EZ rv,E I cd]:=hd.at 27 rfl;exact Es (by simp[go_sem,d27]) U
  ·obtain rfl:p=0:=X;exact Epb
  ·exact Epb
  ·exact EoE
  ·have d29:xv 29=EZ rv:=hd.at 29 rfl;obtain⟨b,d0,eA,lb,h8,kb⟩:aO n0 (xv 31) wq:=hd.at 31 rfl;have nh:=X0.out;refine db EV (Ei U) ⟨U,eA,d29⟩ kb h8 RS.out RO.out ⟨tX kb RS.out,?_⟩ ⟨b,eA,lb,kb.setRow _⟩;exact Enu
  ·obtain rfl:p=1:=X;have d30:xv 30=E I cd:=hd.at 30 rfl;exact Es (by simp[go_sem,d30]) U
 case hend=>
  intro xv W6 hp hd;clear S1 MM KM;simp only[EL,In,Ip,Ig,Ih];obtain⟨b,eA,lb,kb⟩: ∃b:Nat,xv 31=Y (D ⟨b,0,Z⟩)/\n0<=b/\H W6 b rv 109:=hd 32 Eb;have d33:xv 33=E I cd:=hd 33 Eb;obtain⟨s6,m6,dL,-⟩:=hp;have S1:=O s6;have MM:=O m6;have KM:=O dL;have KB:=O kb;rw[eA,d33];clear s6 m6 dL kb hd eA d33 CA;have c1:=Oo.out _ _ KM.out;rcases Edz c.tok po k v3 (c.T.Zu v3) with hc|⟨q1,q2,q3,q4,q5,q6,hc⟩
  ·have hcd:cd≠0:=by rw[HR.out] at hc;exact hc
   have t9:(cd !=0)=u:=dF;clear hc hcd;exact Emp
  ·have hcd:cd=0:=wv;have ht:t2={c.tok with o:=v3,oa:=0,om:=max (po:Int) 0}:=wv;have HT:=O ht;have HTO:Ea (t2.ok):=O (by have hh:=S1.out.core.ok.tok;have hb:=Z1.out;have hk:=HK.out;rw[ht];exact⟨hh.h,hh.e,⟨by show(-1:Int)<=v3;omega,q5⟩,⟨ZB _,by show(0:Int)<=1000;omega⟩,⟨by show(0:Int)<=max (po:Int) 0;omega,by show max (po:Int) 0<=1000;omega⟩,hh.la,hh.lm,fun _=>⟨by show 1<=c.tok.h;omega,by show c.tok.h<=3;omega,by show v3≠c.tok.h;omega⟩⟩);have HQ1:=O q1;have HQ6:=O q6;subst hcd;clear hc q1 q2 q3 q4 q5 q6 ht;go_wp2_with fail;have y0: ∀y:Ext W6,(Ey W6 y).cell? ⟨gs,0,Z⟩=D (Y (D ⟨gc,0,Z⟩)):=fun y=>(S1.out.G (ED y)).IC;refine J5 7 Ed Ed ?_;simp only[Ir,Im,IL,IG]
   repeat (first
    |go_big_quiet_skip
    |(go_big_quiet_want
      first
       |(refine Ub (T:=109) (g:=b) EV _ rfl rfl KB ?_ ?_;(·exact RS.out);go_simp;go_big_quiet_on)
       |(go_big_quiet_op
         first
          |go_big_quiet_on
          |go_big_quiet_call (fail))))
   refine IM ?_;intro _ hw';obtain⟨y9,rfl⟩:=hw';have Em:=ED y9;replace KB:=EQ KB Em;replace KM:=EQ KM Em;replace S1:=O<|S1.out.G Em;replace MM:=O<|MM.out.trans (Ex.Ew Em);clear y0 Em c1;generalize Ey W6 y9=w9 at*;have TH:=O<|cV S1.out.core 1 rfl 8 XV;go_wp2_with ((with_reducible refine JE 109 ?_);(with_reducible refine OH U 109 _ _ U gc 56 rv ?_ ?_ ?_ ?_ ?_ ?_);(·rfl);(·rfl);(·rw[RS.out];exact TH.out);(·rw[RS.out];exact EV.2);(·exact RO.out);refine Ev.mk ?_);apply Eo;rw[aJ.out];have S4:=S1.out.aA t2 (S1.out.core.ok.aA HTO.out);obtain⟨d0,d1,d2,hd,KG,-⟩:=S1.out.core.Ek;replace KB:=O<|(Jq (g:=gc) t2.v 56 w9).Ek KB.out (E5 KB.out KG Eb);replace KM:=O<|(Jq (g:=gc) t2.v 56 w9).Ek KM.out (E5 KM.out KG Eb);replace S1:=O S4.1;replace MM:=O<|MM.out.trans S4.2;clear S4 TH KG;generalize w9.setCells gc 56 t2.v=UD at*;have c0:=CE.out _ _ KB.out;have c3:=ww.out _ _ KM.out;go_wp2_with ((with_reducible refine Is 60 ?_);refine I3 U 222 _ U (I9 [135,0,0,k,e2,0,0,0,0,0,0,0,0,0]) BR3 ?_);refine(Bo lo hi g gc gq gt gs _ ns rs [135,0,0,k,e2,0,0,0,0,0,0,0,0,0] v3 _ S1.out (pW _ _ _ _ _ _) Ob).mono ?_;rintro e11 am ⟨rfl,⟨m1,hm1,s11⟩,m11⟩;replace KM:=O<|m11.Ek KM.out Eb Eb;replace S1:=O s11;replace MM:=O<|MM.out.trans m11;have jK:=O hm1;clear m11 s11 hm1 c0 c3 KB;have c1:=Oo.out _ _ KM.out;have c3:=ww.out _ _ KM.out;go_wp2_with fail;refine(ZC lo hi g gc gq gt gs _ (ns+m1) rs 9 k v1 0 v3 _ S1.out JS).mono ?_;rintro e12 Xz ⟨rfl,s12,m12⟩;replace KM:=O<|m12.Ek KM.out Eb Eb;replace S1:=O s12;replace MM:=O<|MM.out.trans m12;clear m12 s12 c1 c3;have c1:=Oo.out _ _ KM.out;go_wp2_with fail;refine(jz lo hi g gc gq gt gs _ (ns+m1) _ k v1 _ S1.out wg).mono ?_;rintro e13 Jx ⟨rfl,s13,m13⟩;have S8:=O s13;replace MM:=O<|MM.out.trans m13;clear s13 m13;go_wp2_with fail;go_end0;refine⟨U,⟨_,m1+1,_,tU,S8.out,.inr ⟨po,iD.out,HQ1.out,HQ6.out,?_,?_⟩⟩,MM.out⟩;·rw[HT.out,hv3.out]
   ·rw[HT.out]
theorem VL:IW EU 183 12:=⟨⟨_,Tryz.underlying183,U⟩,Ed⟩
theorem wy:IW EU 25 4:=⟨⟨_,Tryz.underlying25,U⟩,Ed⟩
theorem Ck{x m:Int}(hx:JI x)(h0:0<=m/\m<=32767):JI (OU x (-m) m):=by
 obtain⟨h1,h2⟩:=hx;unfold OU JI;repeat' split
 all_goals omega
theorem VM(g:Nat->V)(p0:Pt)(hf: ∀i,9<=i->i<56-> ∃n:Nat,g i=E I n/\aW i n)(hp:p0.ok)(k q cl x0 x1 x2 x3:Int)(hc:0<=cl/\cl<=3)(h0:JI x0)(h1:JI x1)(h2:JI x2)(h3:JI x3): ∃p:Pt,p.ok/\p.b=⟨1,k,q⟩/\ ∀W,Ef EU 139 #[EZ (EK 56 g),EZ p0.v.toArray,E I cl,EZ #[E I x0,E I x1,E I x2,E I x3],EZ #[E I 1,E I k,E I q]] W fun e w'=>e=Eg (EZ p.v.toArray)/\El W w':=by
 have hb: ∀i,50<=i->i<54-> ∃n:Int,g i=E I n/\0<=n/\n<=32767:=fun i h4 h5=>by
  obtain⟨n,e,ho⟩:=hf i X X;refine⟨n,e,X,?_⟩;have:=ho.2.1
  have hh:U2 i<=1000:=by
   unfold U2;repeat' split
   all_goals omega
  omega
 have mk: ∀(cl m:Int),0<=cl/\cl<=3->0<=m/\m<=32767->(⟨cl,OU x0 (-m) m,OU x1 (-m) m,OU x2 (-m) m,OU x3 (-m) m,p0.n0,p0.n1,p0.n2,p0.n3,⟨1,k,q⟩⟩:Pt).ok:=fun cl m h4 h5=>⟨⟨by show _<=cl;omega,by show cl<=_;omega⟩,Ck h0 h5,Ck h1 h5,Ck h2 h5,Ck h3 h5,hp.n0,hp.n1,hp.n2,hp.n3⟩;have h:cl=0\/cl=1\/cl=2\/cl=3:=X;rcases h with rfl|rfl|rfl|rfl;·obtain⟨m,e,hm⟩:=hb 50 X X;exact⟨_,mk 0 m X hm,U,fun W=>EdZ g m e hm p0.c p0.a0 p0.a1 p0.a2 p0.a3 p0.n0 p0.n1 p0.n2 p0.n3 p0.b.r p0.b.s p0.b.q 1 k q x0 x1 x2 x3 W⟩
 ·obtain⟨m,e,hm⟩:=hb 51 X X;exact⟨_,mk 1 m X hm,U,fun W=>Eda g m e hm p0.c p0.a0 p0.a1 p0.a2 p0.a3 p0.n0 p0.n1 p0.n2 p0.n3 p0.b.r p0.b.s p0.b.q 1 k q x0 x1 x2 x3 W⟩
 ·obtain⟨m,e,hm⟩:=hb 52 X X;exact⟨_,mk 2 m X hm,U,fun W=>Edb g m e hm p0.c p0.a0 p0.a1 p0.a2 p0.a3 p0.n0 p0.n1 p0.n2 p0.n3 p0.b.r p0.b.s p0.b.q 1 k q x0 x1 x2 x3 W⟩
 ·obtain⟨m,e,hm⟩:=hb 53 X X;exact⟨_,mk 3 m X hm,U,fun W=>Edc g m e hm p0.c p0.a0 p0.a1 p0.a2 p0.a3 p0.n0 p0.n1 p0.n2 p0.n3 p0.b.r p0.b.s p0.b.q 1 k q x0 x1 x2 x3 W⟩
structure wz(l:List Int):Prop where
 q:0<=l.getD 1 0/\l.getD 1 0<=4294967295
 m:0<=l.getD 5 0/\l.getD 5 0<=4
 c:0<=l.getD 6 0/\l.getD 6 0<=3
 x0:JI (l.getD 8 0)
 x1:JI (l.getD 9 0)
 x2:JI (l.getD 10 0)
 x3:JI (l.getD 11 0)
theorem EdG(lo hi:Nat)(g:Nat->V)(gc gq gt gs:Nat)(c:EB)(ns:Nat)(rs:List Rec)(l:List Int)(k:Int)(w:M)(S:E_ lo hi g gc gq gt gs c ns rs w)(hk:1<=k/\k<=3)(hm:wz l)(hn:ns<800000)(hl:rs.length<800000): Ef EU 135 #[Y (D ⟨gs,0,Z⟩),E I k,EZ (EF l)] w fun e w'=>e=Eg (Et #[])/\(∃c' m new,m<=3/\E_ lo hi g gc gq gt gs c' (ns+m) (rs++new) w'/\((∃cd,c'=c/\new=[⟨7,k,l.getD 1 0,c.tok.e,cd,0⟩])\/(new=[⟨6,k,l.getD 1 0,c.tok.e,0,0⟩]/\(c'={c with mode:=l.getD 5 0,Em:=⟨1,k,l.getD 1 0⟩}\/ ∃p:Pt,p.b=⟨1,k,l.getD 1 0⟩/\c'={c with pt:=p}))))/\Ex lo hi w w':=by
 have HK:=O hk;have jM:=O hm;obtain⟨jd,ta⟩: ∃jd:Int,∀W,ZI W->Ef EU 138 #[EZ (EK 56 g),EZ c.tok.v.toArray,E I k,E I (c.T.gI k),E I c.mode,EZ (EF l)] W fun e w'=>e=Eg (E I jd)/\El W w':=⟨_,fun W hc=>Tf g c.tok.h c.tok.e k (c.T.gI k) c.mode (l.getD 0 0) (l.getD 4 0) (l.getD 5 0) (l.getD 6 0) (E I c.tok.o) (E I c.tok.oa) (E I c.tok.om) (E I c.tok.la) (E I c.tok.lm) (Ec c.tok.bad) (E I (l.getD 1 0)) (E I (l.getD 2 0)) (E I (l.getD 3 0)) (Ec (l.getD 7 0==1)) (E I (l.getD 8 0)) (E I (l.getD 9 0)) (E I (l.getD 10 0)) (E I (l.getD 11 0)) W (fun i h1 h2=>S.core.ZJ.int i h2 (.inr X)) hc⟩;clear hk hm;have VN:Ea ((EF l).size=12):=O<|JJ l;have MG:Ea (∃A:List V,A.length=8/\ ∀W g,H W g (EF l) 183->Ji W g [A,[E I (l.getD 8 0),E I (l.getD 9 0),E I (l.getD 10 0),E I (l.getD 11 0)]] 183):=O ⟨[E I (l.getD 0 0),E I (l.getD 1 0),E I (l.getD 2 0),E I (l.getD 3 0),E I (l.getD 4 0),E I (l.getD 5 0),E I (l.getD 6 0),Ec (l.getD 7 0==1)],U,fun W g K=>K⟩;obtain⟨p,hpo,hpb,lF⟩: ∃p:Pt,p.ok/\p.b=⟨1,k,l.getD 1 0⟩/\ ∀W,Ef EU 139 #[EZ (EK 56 g),EZ c.pt.v.toArray,E I (l.getD 6 0),EZ #[E I (l.getD 8 0),E I (l.getD 9 0),E I (l.getD 10 0),E I (l.getD 11 0)],EZ #[E I 1,E I k,E I (l.getD 1 0)]] W fun e w'=>e=Eg (EZ p.v.toArray)/\El W w':=VM g c.pt S.core.ZJ.fit S.core.ok.pt k (l.getD 1 0) (l.getD 6 0) (l.getD 8 0) (l.getD 9 0) (l.getD 10 0) (l.getD 11 0) jM.out.c jM.out.x0 jM.out.x1 jM.out.x2 jM.out.x3;have iD:=O hpo;have Z1:=O hpb;have CS:=O lF;clear hpo hpb lF;have S0:=O S;have HN:=O hn;have HL:=O hl;have KM:=O<|H.new w (EF l) 183;have b1:=Ep w (EJ (EF l) 183);have S1:=O<|S0.out.G b1;have MM:=O<|Ex.Ew (lo:=lo) (hi:=hi) b1;obtain⟨v0,hv0⟩:=En (l.getD 0 0);have Cl:Ea (∀W g,H W g (EF l) 183->W.cell? ⟨g,0,Z⟩=D (E I v0)):=O (fun W g K=>by rw[hv0];exact Za K 0 X X);try rw[<-hv0]
 replace hv0:=O hv0;obtain⟨v1,hv1⟩:=En (l.getD 1 0);have Oo:Ea (∀W g,H W g (EF l) 183->W.cell? ⟨g,1,Z⟩=D (E I v1)):=O (fun W g K=>by rw[hv1];exact Za K 1 X X);try rw[<-hv1]
 replace hv1:=O hv1;obtain⟨v5,hv5⟩:=En (l.getD 5 0);have VP:Ea (∀W g,H W g (EF l) 183->W.cell? ⟨g,5,Z⟩=D (E I v5)):=O (fun W g K=>by rw[hv5];exact Za K 5 X X);try rw[<-hv5]
 replace hv5:=O hv5;obtain⟨v6,hv6⟩:=En (l.getD 6 0);have VQ:Ea (∀W g,H W g (EF l) 183->W.cell? ⟨g,6,Z⟩=D (E I v6)):=O (fun W g K=>by rw[hv6];exact Za K 6 X X);try rw[<-hv6]
 replace hv6:=O hv6;obtain⟨v8,tc⟩:=En (l.getD 8 0);have MC8:Ea (∀W g,H W g (EF l) 183->W.cell? ⟨g,8,Z⟩=D (E I v8)):=O (fun W g K=>by rw[tc];exact Za K 8 X X);try rw[<-tc]
 replace tc:=O tc;obtain⟨v9,td⟩:=En (l.getD 9 0);have MC9:Ea (∀W g,H W g (EF l) 183->W.cell? ⟨g,9,Z⟩=D (E I v9)):=O (fun W g K=>by rw[td];exact Za K 9 X X);try rw[<-td]
 replace td:=O td;obtain⟨v10,tf⟩:=En (l.getD 10 0);have EdL:Ea (∀W g,H W g (EF l) 183->W.cell? ⟨g,10,Z⟩=D (E I v10)):=O (fun W g K=>by rw[tf];exact Za K 10 X X);try rw[<-tf]
 replace tf:=O tf;obtain⟨v11,ti⟩:=En (l.getD 11 0);have EdM:Ea (∀W g,H W g (EF l) 183->W.cell? ⟨g,11,Z⟩=D (E I v11)):=O (fun W g K=>by rw[ti];exact Za K 11 X X);try rw[<-ti]
 replace ti:=O ti;clear S hn hl S0;obtain⟨mv,hmv⟩:=En (EF l);rw[<-hmv] at KM b1 S1 MM Cl Oo VP VQ MC8 MC9 EdL EdM ta VN MG⊢;clear hmv;go_enter Tryz.func135,Tryz.ntmps135;go_wp2_with fail;clear b1;generalize w.alloc (EJ mv 183)=w1 at*;obtain⟨gm,hgm⟩:=En w.heap.size;rw[<-hgm] at KM⊢;clear hgm;obtain⟨d0,d1,d2,hd,KG,o0,o1,o2,-,-⟩:=S1.out.core.Ek;have Xm:=O<|Ox (c:=c) (gq:=gq) (gt:=gt) (hd:=hd) (JD g) o0 o1 o2 0 X;have wB:=O<|Ox (c:=c) (gq:=gq) (gt:=gt) (hd:=hd) (JD g) o0 o1 o2 1 X;have KG:=O KG;have PL:=O<|JD g;have CJ:=O ta;have TB:=O S1.out.core.tab;have Cm:=O S1.out.core.ok.T;have Cn:=O S1.out.core.cmds;clear o0 o1 o2 ta;have y0: ∀y:Ext w1,(Ey w1 y).cell? ⟨gs,0,Z⟩=D (Y (D ⟨gc,0,Z⟩)):=fun y=>(S1.out.G (ED y)).IC;have y95: ∀y:Ext w1,(Ey w1 y).cell? ⟨gc,95,Z⟩=D (Y (D ⟨gt,0,Z⟩)):=fun y=>(S1.out.G (ED y)).core.cell 6 rfl 0 Eh;have y98: ∀y:Ext w1,(Ey w1 y).cell? ⟨gc,98,Z⟩=D (E I c.mode):=fun y=>(S1.out.G (ED y)).core.cell 9 rfl 0 Eh;have XO:Ea ((EK 56 g).toList.toArray=EK 56 g):=O Eh;refine Xs Ed Ed ?_
 repeat (first
  |go_big_quiet_skip
  |(go_big_quiet_want
    first
     |(refine Zj (T:=28) (g:=gc) (off:=0) XY _ rfl rfl KG 0 rfl Xm.out PL.out ?_;(try rw[XO.out]);go_simp;go_big_quiet_on)
     |(refine Zj (T:=109) (g:=gc) (off:=56) EV _ rfl rfl KG 1 rfl wB.out rfl ?_;go_simp;go_big_quiet_on)
     |(refine Ub (T:=183) (g:=gm) VL _ rfl rfl KM ?_ ?_;(·exact VN.out);go_simp;go_big_quiet_on)
     |(go_big_quiet_op
       first
        |go_big_quiet_on
        |go_big_quiet_call (with_reducible first|refine X5 (sI gt c.T k _ (TB.out.G (ED _)) Cm.out)|refine ag (CJ.out _ (Cn.out.G (ED _)))))))
 refine IM ?_;intro _ hw';obtain⟨y9,rfl⟩:=hw';have Em:=ED y9;replace KM:=EQ KM Em;replace S1:=O<|S1.out.G Em;replace MM:=O<|MM.out.trans (Ex.Ew Em);clear y0 y95 y98 Em KG Xm wB PL XO;generalize Ey w1 y9=w2 at*;have c1:=Oo.out _ _ KM.out;by_cases hjd:jd=0
 ·subst hjd;have Ly:Tryz.prog.built 36 [(0,E I 1),(1,E I k),(2,E I v1)]=D #[E I 1,E I k,E I v1]:=Ed;go_wp2_with (first|((with_reducible refine Is 52 ?_);refine I3 rfl {LT} _ rfl #[E I 1,E I k,E I v1] Ly ?_)|(with_reducible refine I7 54 ?_));apply Eo;generalize hW:UN _ _=w4 at*;have KL:Ea (H w4 (w2.heap.size) #[E I 1,E I k,E I v1] 36):=O (by subst hW;repeat (first|exact H.new _ _ _|exact H.new' _ _ _ Eh|refine H.alloc ?_ _));have b3:Ea (El w2 w4):=O LO;clear hW;obtain⟨gl,hgl⟩:=En w2.heap.size;rw[<-hgl] at KL⊢;clear hgl;have w4e:True:=trivial;replace KM:=EQ KM b3.out;replace S1:=O<|S1.out.G b3.out;replace MM:=O<|MM.out.trans (Ex.Ew b3.out);clear b3 c1;have c0:=Cl.out _ _ KM.out;have Z4:Ea ((⟨1,k,v1⟩:XD).ok):=O (by have h1:=HK.out;have h2:=jM.out.q;rw[<-hv1.out] at h2;exact⟨nP,⟨by show _<=k;omega,by show k<=_;omega⟩,⟨by show _<=v1;omega,by show v1<=_;omega⟩⟩);by_cases hk10:v0=10
  ·have t10:(v0==10)=u:=by simp[hk10]
   clear hk10;go_wp2_with fail;have y0: ∀y:Ext w4,(Ey w4 y).cell? ⟨gs,0,Z⟩=D (Y (D ⟨gc,0,Z⟩)):=fun y=>(S1.out.G (ED y)).IC;have y5: ∀y:Ext w4,(Ey w4 y).cell? ⟨gm,5,Z⟩=D (E I v5):=fun y=>VP.out _ _ (H.G KM.out (ED y));refine J5 8 Ed Ed ?_;simp only[Ir,Im,IL,IG]
   repeat (first
    |go_big_quiet_skip
    |(go_big_quiet_want
      first
       |(go_big_quiet_op
         first
          |go_big_quiet_on
          |go_big_quiet_call (fail))))
   refine IM ?_;intro _ hw';obtain⟨y9,rfl⟩:=hw';have Em:=ED y9;replace KM:=EQ KM Em;replace KL:=EQ KL Em;replace S1:=O<|S1.out.G Em;replace MM:=O<|MM.out.trans (Ex.Ew Em);clear y0 y5 Em c0;generalize Ey w4 y9=w5 at*;have zm:w5.cell? ⟨gc,98,Z⟩=D (E I c.mode):=S1.out.core.cell 9 rfl 0 Eh;have zf:=tO S1.out.core 98;go_wp2_with fail;have S4:=S1.out.wX v5 (S1.out.core.ok.wX (by rw[hv5.out];exact jM.out.m));obtain⟨d0,d1,d2,hd,KG,-⟩:=S1.out.core.Ek;replace KL:Ea (H (w5.setCell ⟨gc,98,Z⟩ (E I v5)) gl #[E I 1,E I k,E I v1] 36):=O<|(J6 (g:=gc) (W:=w5) 98 (E I v5)).Ek KL.out (E5 KL.out KG Eb);replace KM:Ea (H (w5.setCell ⟨gc,98,Z⟩ (E I v5)) gm mv 183):=O<|(J6 (g:=gc) (W:=w5) 98 (E I v5)).Ek KM.out (E5 KM.out KG Eb);replace S1:Ea (E_ lo hi g gc gq gt gs {c with mode:=v5} ns rs (w5.setCell ⟨gc,98,Z⟩ (E I v5))):=O S4.1;replace MM:Ea (Ex lo hi w (w5.setCell ⟨gc,98,Z⟩ (E I v5))):=O<|MM.out.trans S4.2;clear S4 zm zf KG;generalize w5.setCell ⟨gc,98,Z⟩ (E I v5)=w6 at*;have y0: ∀y:Ext w6,(Ey w6 y).cell? ⟨gs,0,Z⟩=D (Y (D ⟨gc,0,Z⟩)):=fun y=>(S1.out.G (ED y)).IC;refine J5 7 Ed Ed ?_;simp only[Ir,Im,IL,IG]
   repeat (first
    |go_big_quiet_skip
    |(go_big_quiet_want
      first
       |(refine Ub (T:=36) (g:=gl) fo _ rfl rfl KL ?_ ?_;(·rfl);go_simp;go_big_quiet_on)
       |(go_big_quiet_op
         first
          |go_big_quiet_on
          |go_big_quiet_call (fail))))
   refine IM ?_;intro _ hw';obtain⟨y9,rfl⟩:=hw';have Em:=ED y9;replace KM:=EQ KM Em;replace KL:=EQ KL Em;replace S1:=O<|S1.out.G Em;replace MM:=O<|MM.out.trans (Ex.Ew Em);clear y0 Em;generalize Ey w6 y9=w7 at*;have TH:=O<|cV S1.out.core 10 rfl 3 (by simp[XD.v]);go_wp2_with ((with_reducible refine JE 36 ?_);(with_reducible refine OH U 36 _ _ U gc 99 #[E I 1,E I k,E I v1] ?_ ?_ ?_ ?_ ?_ ?_);(·rfl);(·rfl);(·exact TH.out);(·exact fo.2);(·simp[OC]);refine Ev.mk ?_);apply Eo;have S4:=S1.out.wZ ⟨1,k,v1⟩ (S1.out.core.ok.wZ Z4.out);obtain⟨d0,d1,d2,hd,KG,-⟩:=S1.out.core.Ek;replace KM:Ea (H (w7.setCells gc 99 (⟨1,k,v1⟩:XD).v) gm mv 183):=O<|(Jq (g:=gc) (⟨1,k,v1⟩:XD).v 99 w7).Ek KM.out (E5 KM.out KG Eb);replace S1:=O S4.1;replace MM:=O<|MM.out.trans S4.2;clear S4 TH KG KL;change IZ _ _ _ _ _ (w7.setCells gc 99 (⟨1,k,v1⟩:XD).v);generalize w7.setCells gc 99 (⟨1,k,v1⟩:XD).v=w8 at*;have c1:=Oo.out _ _ KM.out;go_wp2_with fail;refine(ZC lo hi g gc gq gt gs _ ns rs 6 k v1 0 0 _ S1.out JS).mono ?_;rintro e12 Xz ⟨rfl,s12,m12⟩;replace KM:=O<|m12.Ek KM.out Eb Eb;replace S1:=O s12;replace MM:=O<|MM.out.trans m12;clear m12 s12 c1;have c1:=Oo.out _ _ KM.out;go_wp2_with fail;refine(jz lo hi g gc gq gt gs _ ns _ k v1 _ S1.out Ob).mono ?_;rintro e13 Jx ⟨rfl,s13,m13⟩;have S8:=O s13;replace MM:=O<|MM.out.trans m13;clear s13 m13;go_wp2_with fail;go_end0;refine⟨U,⟨_,1,_,X,S8.out,.inr ⟨U,.inl ?_⟩⟩,MM.out⟩;rw[hv5.out]
  ·have t10:(v0==10)=B:=by simp[hk10]
   go_wp2_with fail;obtain⟨d0,d1,d2,hd,KG,o0,o1,o2,-,-⟩:=S1.out.core.Ek;have Xm:=O<|Ox (c:=c) (gq:=gq) (gt:=gt) (hd:=hd) (JD g) o0 o1 o2 0 X;have iK:=O<|Ox (c:=c) (gq:=gq) (gt:=gt) (hd:=hd) (JD g) o0 o1 o2 11 X;have KG:=O KG;have PL:=O<|JD g;obtain⟨A8,VR,VS⟩:=MG.out;have KX:=O<|VS _ _ KM.out;have OX:Ea (aT [A8,[E I v8,E I v9,E I v10,E I v11]] 1=8):=O (by simp[aT,VR]);rw[<-tc.out,<-td.out,<-tf.out,<-ti.out] at KX;rw[<-hv1.out,<-hv6.out,<-tc.out,<-td.out,<-tf.out,<-ti.out] at CS;have y0: ∀y:Ext w4,(Ey w4 y).cell? ⟨gs,0,Z⟩=D (Y (D ⟨gc,0,Z⟩)):=fun y=>(S1.out.G (ED y)).IC;have y6: ∀y:Ext w4,(Ey w4 y).cell? ⟨gm,6,Z⟩=D (E I v6):=fun y=>VQ.out _ _ (H.G KM.out (ED y));clear o0 o1 o2 VR VS;refine J5 26 Ed Ed ?_;simp only[Ir,Im,IL,IG]
   repeat (first
    |go_big_quiet_skip
    |(go_big_quiet_want
      first
       |(refine Zj (T:=28) (g:=gc) (off:=0) XY _ rfl rfl KG 0 rfl Xm.out PL.out ?_;go_simp;go_big_quiet_on)
       |(refine Zj (T:=50) (g:=gc) (off:=102) iC _ rfl rfl KG 11 rfl iK.out rfl ?_;go_simp;go_big_quiet_on)
       |(refine Zj (T:=25) (g:=gm) (off:=8) wy _ rfl rfl KX 1 rfl OX.out rfl ?_;go_simp;go_big_quiet_on)
       |(refine Ub (T:=36) (g:=gl) fo _ rfl rfl KL ?_ ?_;(·rfl);go_simp;go_big_quiet_on)
       |(go_big_quiet_op
         first
          |go_big_quiet_on
          |go_big_quiet_call (with_reducible refine ag (CS.out _)))))
   refine IM ?_;intro _ hw';obtain⟨y9,rfl⟩:=hw';have Em:=ED y9;replace KM:=EQ KM Em;replace S1:=O<|S1.out.G Em;replace MM:=O<|MM.out.trans (Ex.Ew Em);clear y0 y6 Em KG Xm iK KX OX;generalize Ey w4 y9=w5 at*;have TH:=O<|cV S1.out.core 11 rfl 12 wh;go_wp2_with ((with_reducible refine JE 50 ?_);(with_reducible refine OH U 50 _ _ U gc 102 p.v.toArray ?_ ?_ ?_ ?_ ?_ ?_);(·rfl);(·rfl);(·exact TH.out);(·exact iC.2);(·simp[Pt.v,OC]);refine Ev.mk ?_);apply Eo;have S4:=S1.out.iB p (S1.out.core.ok.iB iD.out);obtain⟨d0,d1,d2,hd,KG,-⟩:=S1.out.core.Ek;replace KM:Ea (H (w5.setCells gc 102 p.v) gm mv 183):=O<|(Jq (g:=gc) p.v 102 w5).Ek KM.out (E5 KM.out KG Eb);replace S1:=O S4.1;replace MM:=O<|MM.out.trans S4.2;clear S4 TH KG;change IZ _ _ _ _ _ (w5.setCells gc 102 p.v);generalize w5.setCells gc 102 p.v=w8 at*;have c1:=Oo.out _ _ KM.out;go_wp2_with fail;refine(ZC lo hi g gc gq gt gs _ ns rs 6 k v1 0 0 _ S1.out JS).mono ?_;rintro e12 Xz ⟨rfl,s12,m12⟩;replace KM:=O<|m12.Ek KM.out Eb Eb;replace S1:=O s12;replace MM:=O<|MM.out.trans m12;clear m12 s12 c1;have c1:=Oo.out _ _ KM.out;go_wp2_with fail;refine(jz lo hi g gc gq gt gs _ ns _ k v1 _ S1.out Ob).mono ?_;rintro e13 Jx ⟨rfl,s13,m13⟩;have S8:=O s13;replace MM:=O<|MM.out.trans m13;clear s13 m13;go_wp2_with fail;go_end0;exact⟨U,⟨_,1,_,X,S8.out,.inr ⟨U,.inr ⟨p,by rw[Z1.out,hv1.out],U⟩⟩⟩,MM.out⟩
 ·have t9:(jd !=0)=u:=by simpa using hjd
  go_wp2_with fail;refine(iw lo hi g gc gq gt gs c ns rs k v1 jd _ S1.out Ob JS).mono ?_;rintro e7 w7 ⟨rfl,s7,m7⟩;have S8:=O s7;replace MM:=O<|MM.out.trans m7;clear s7 m7;go_wp2_with fail;refine ET (U1 U _ _ _) U ?_;exact⟨U,⟨_,1,_,X,S8.out,.inl ⟨jd,U,U⟩⟩,MM.out⟩
def jN(xs:List Int)(k:Int):Bool:=match xs with
 |[]=>B
 |x::_=>x==k
theorem EdN(A:Option Eu)(xs:List Int)(n c:Nat)(k:Int)(w:M)(hn:xs.length=n)(hr:Row w A xs)(hm:n<=9223372036854775807): Ef EU 85 #[EI A n c,E IP k] w fun e w'=>e=Eg (Ec (jN xs k))/\w=w':=by
 obtain⟨hr,hb⟩:=hr;cases xs with
 |nil=>
  obtain rfl:n=0:=by rw[<-hn];rfl
  go_enter Tryz.func85,Tryz.ntmps85;exact Els
 |cons x r=>
  obtain⟨m,rfl⟩: ∃m,n=m+1:=⟨r.length,by rw[<-hn];rfl⟩;rcases hr with e|⟨b,off,rfl,hc⟩;·cases e
  ·have h0:w.cell? ⟨b,off,Z⟩=D (E IP x):=by have:=hc 0 Eh;simpa using this
   have t1:decide (0<((m:Int)+1))=u:=Ib X;have er:jN (x::r) k=(x==k):=rfl;rw[er];clear hc hb hn er;go_enter Tryz.func85,Tryz.ntmps85;exact Els
theorem EdP{bs l:List Int}(hb: ∀x∈bs,0<=x/\x<=255)(h:fh bs=D l):wz l:=by
 obtain⟨hp,hl,-⟩:=Hb hb h;match l,hl with
 |[a0,a1,a2,a3,a4,a5,a6,a7,a8,a9,Ul,Oi],_=>
  obtain⟨hf,-⟩:=Sc a0 a1 a2 a3 a4 a5 a6 a7 a8 a9 Ul Oi bs hp;have h2:=(Hd _ _ _ _ _ _ _ _ _ _ _).1 hf;obtain⟨x8,x9,nE,qz,k0,q,e4,r2,t3,m5,c6⟩:=h2;refine⟨q,m5,⟨?_,c6.2⟩,?_,?_,?_,?_⟩;·show 0<=a6;have:=c6.1;split at this<;>omega
  ·exact⟨by show _<=a8;omega,by show a8<=_;omega⟩
  ·exact⟨by show _<=a9;omega,by show a9<=_;omega⟩
  ·exact⟨by show _<=Ul;omega,by show Ul<=_;omega⟩
  ·exact⟨by show _<=Oi;omega,by show Oi<=_;omega⟩
def nQ(w:M)(r:Nat)(o:Obj):M:={w with heap:=w.heap.setIfInBounds r o}
theorem lG{es:Array MapEntry}{clock:Nat}(h:W.heap[g]?=D (.map es clock))(k:Int)(v:V)(hf: ∀W,(Instr.findKey 3 (E I k) es.toList).run EU W= .ok Z W): (jP 188 (.map (D g)) (E I k) v).run EU W= .ok () (nQ W g (.map (es.push {key:=E I k,val:=v,born:=clock}) (clock+1))):=by
 have hu: ∀W,UC EU (underlying 188) W= .ok (.map 3 186) W:=fun _=>Ed;have hck: ∀W,(Instr.checkKey B 10000 3 (E I k)).run EU W= .ok () W:=fun _=>Ed;have hg:(Sem.getObj g Sem.pure).run EU W= .ok (.map es clock) W:=by simp[UC,h]
 have hs: ∀o,(setObj g o).run EU W= .ok () (nQ W g o):=fun o=>by simp[setObj,UC,h,nQ]
 unfold jP;simp only[Ud,hu,Uf,getObj,hg,hck,hf,hs]
def JQ(gs:Nat)(k:Int)(f:Nat)(n:Nat):MapEntry:={key:=E I k,val:= .func (.func f) #[Y (D ⟨gs,0,Z⟩)] #[],born:=n}
def Xn(gs:Nat):Nat->Array MapEntry
 |0=> #[]
 |1=> #[JQ gs 3 128 0]
 |2=> #[JQ gs 3 128 0,JQ gs 4 129 1]
 |3=> #[JQ gs 3 128 0,JQ gs 4 129 1,JQ gs 5 130 2]
 |4=> #[JQ gs 3 128 0,JQ gs 4 129 1,JQ gs 5 130 2,JQ gs 6 131 3]
 |5=> #[JQ gs 3 128 0,JQ gs 4 129 1,JQ gs 5 130 2,JQ gs 6 131 3,JQ gs 7 132 4]
 |6=> #[JQ gs 3 128 0,JQ gs 4 129 1,JQ gs 5 130 2,JQ gs 6 131 3,JQ gs 7 132 4,JQ gs 8 133 5]
 |7=> #[JQ gs 3 128 0,JQ gs 4 129 1,JQ gs 5 130 2,JQ gs 6 131 3,JQ gs 7 132 4,JQ gs 8 133 5,JQ gs 9 134 6]
 |8=> #[JQ gs 3 128 0,JQ gs 4 129 1,JQ gs 5 130 2,JQ gs 6 131 3,JQ gs 7 132 4,JQ gs 8 133 5,JQ gs 9 134 6,JQ gs 10 135 7]
 |9=> #[JQ gs 3 128 0,JQ gs 4 129 1,JQ gs 5 130 2,JQ gs 6 131 3,JQ gs 7 132 4,JQ gs 8 133 5,JQ gs 9 134 6,JQ gs 10 135 7,JQ gs 11 135 8]
 |_=> #[]
theorem lH{o o':Obj}(h:W.heap[g]?=D o):(nQ W g o').heap[g]?=D o':=by have hl:g<W.heap.size:=(Jt.1 h).1;simp[nQ,hl]
theorem lK{W0:M}{o:Obj}(h:El W0 W)(hg:W0.heap.size<=g):El W0 (nQ W g o):=
 ⟨h.os,h.tape,h.output,by simpa[nQ] using h.size,fun k hk=>by have:=h.block k hk;simp only[nQ];rw[Array.getElem?_setIfInBounds_ne X];exact this⟩
theorem EdQ(gs:Nat)(w:M): Ef EU 89 #[Y (D ⟨gs,0,Z⟩)] w fun e w'=>e=Eg (.map (D w.heap.size))/\w'.heap[w.heap.size]?=D (.map (Xn gs 9) 9)/\El w w':=by
 obtain⟨W0,hW0⟩: ∃W0,W0=w.alloc (.map #[] 0):=⟨_,U⟩;have hmm:(Instr.makeMap 188 Z).run EU w= .ok (.map (D w.heap.size)) W0:=by rw[hW0];rfl
 have H0:W0.heap[w.heap.size]?=D (.map (Xn gs 0) 0):=by rw[hW0];exact fL w _
 have B0:El w W0:=by rw[hW0];exact Ep w _
 clear hW0;obtain⟨W1,f0,H1,B1⟩: ∃W',(jP 188 (.map (D w.heap.size)) (E I 3) (.func (.func 128) #[Y (D ⟨gs,0,Z⟩)] #[])).run EU W0= .ok () W'/\W'.heap[w.heap.size]?=D (.map (Xn gs 1) 1)/\El w W':=⟨_,lG H0 3 _ (fun _=>Ed),lH H0,lK B0 (E7 _)⟩;clear H0 B0;obtain⟨W2,f1,H2,B2⟩: ∃W',(jP 188 (.map (D w.heap.size)) (E I 4) (.func (.func 129) #[Y (D ⟨gs,0,Z⟩)] #[])).run EU W1= .ok () W'/\W'.heap[w.heap.size]?=D (.map (Xn gs 2) 2)/\El w W':=⟨_,lG H1 4 _ (fun _=>Ed),lH H1,lK B1 (E7 _)⟩;clear H1 B1;obtain⟨W3,f2,H3,B3⟩: ∃W',(jP 188 (.map (D w.heap.size)) (E I 5) (.func (.func 130) #[Y (D ⟨gs,0,Z⟩)] #[])).run EU W2= .ok () W'/\W'.heap[w.heap.size]?=D (.map (Xn gs 3) 3)/\El w W':=⟨_,lG H2 5 _ (fun _=>Ed),lH H2,lK B2 (E7 _)⟩;clear H2 B2;obtain⟨W4,f3,H4,B4⟩: ∃W',(jP 188 (.map (D w.heap.size)) (E I 6) (.func (.func 131) #[Y (D ⟨gs,0,Z⟩)] #[])).run EU W3= .ok () W'/\W'.heap[w.heap.size]?=D (.map (Xn gs 4) 4)/\El w W':=⟨_,lG H3 6 _ (fun _=>Ed),lH H3,lK B3 (E7 _)⟩;clear H3 B3;obtain⟨W5,f4,H5,B5⟩: ∃W',(jP 188 (.map (D w.heap.size)) (E I 7) (.func (.func 132) #[Y (D ⟨gs,0,Z⟩)] #[])).run EU W4= .ok () W'/\W'.heap[w.heap.size]?=D (.map (Xn gs 5) 5)/\El w W':=⟨_,lG H4 7 _ (fun _=>Ed),lH H4,lK B4 (E7 _)⟩;clear H4 B4;obtain⟨W6,f5,H6,B6⟩: ∃W',(jP 188 (.map (D w.heap.size)) (E I 8) (.func (.func 133) #[Y (D ⟨gs,0,Z⟩)] #[])).run EU W5= .ok () W'/\W'.heap[w.heap.size]?=D (.map (Xn gs 6) 6)/\El w W':=⟨_,lG H5 8 _ (fun _=>Ed),lH H5,lK B5 (E7 _)⟩;clear H5 B5;obtain⟨W7,f6,H7,B7⟩: ∃W',(jP 188 (.map (D w.heap.size)) (E I 9) (.func (.func 134) #[Y (D ⟨gs,0,Z⟩)] #[])).run EU W6= .ok () W'/\W'.heap[w.heap.size]?=D (.map (Xn gs 7) 7)/\El w W':=⟨_,lG H6 9 _ (fun _=>Ed),lH H6,lK B6 (E7 _)⟩;clear H6 B6;obtain⟨W8,f7,H8,B8⟩: ∃W',(jP 188 (.map (D w.heap.size)) (E I 10) (.func (.func 135) #[Y (D ⟨gs,0,Z⟩)] #[])).run EU W7= .ok () W'/\W'.heap[w.heap.size]?=D (.map (Xn gs 8) 8)/\El w W':=⟨_,lG H7 10 _ (fun _=>Ed),lH H7,lK B7 (E7 _)⟩;clear H7 B7;obtain⟨W9,f8,H9,B9⟩: ∃W',(jP 188 (.map (D w.heap.size)) (E I 11) (.func (.func 135) #[Y (D ⟨gs,0,Z⟩)] #[])).run EU W8= .ok () W'/\W'.heap[w.heap.size]?=D (.map (Xn gs 9) 9)/\El w W':=⟨_,lG H8 11 _ (fun _=>Ed),lH H8,lK B8 (E7 _)⟩;clear H8 B8;have H9:=O H9;have B9:=O B9;go_enter Tryz.func89,Tryz.ntmps89;go_wp2_with fail;go_ret;exact⟨U,H9.out,B9.out⟩
theorem lL(h:W.heap[g]?=D (.map (Xn gs 9) 9))(k:Int)(f:Nat)(i:Nat)(hf: ∀W,(Instr.findKey 3 (E I k) (Xn gs 9).toList).run EU W= .ok (D (i,.func (.func f) #[Y (D ⟨gs,0,Z⟩)] #[])) W): (gL 188 (.map (D g)) (E I k) u).run EU W= .ok (Et #[.func (.func f) #[Y (D ⟨gs,0,Z⟩)] #[],Ec u]) W:=by
 have hu: ∀W,UC EU (underlying 188) W= .ok (.map 3 186) W:=fun _=>Ed;have hck: ∀b W,(Instr.checkKey b 10000 3 (E I k)).run EU W= .ok () W:=fun _ _=>Ed;have hg:(Sem.getObj g Sem.pure).run EU W= .ok (.map (Xn gs 9) 9) W:=by simp[UC,h]
 unfold gL;simp only[Ud,hu,Uf,getObj,hg,hck,hf,UU,if_true]
theorem EdR(h:W.heap[g]?=D (.map (Xn gs 9) 9)):(gL 188 (.map (D g)) (E I 3) u).run EU W= .ok (Et #[.func (.func 128) #[Y (D ⟨gs,0,Z⟩)] #[],Ec u]) W:=lL h 3 128 0 (fun _=>Ed)
theorem EdS(h:W.heap[g]?=D (.map (Xn gs 9) 9)):(gL 188 (.map (D g)) (E I 4) u).run EU W= .ok (Et #[.func (.func 129) #[Y (D ⟨gs,0,Z⟩)] #[],Ec u]) W:=lL h 4 129 1 (fun _=>Ed)
theorem EdT(h:W.heap[g]?=D (.map (Xn gs 9) 9)):(gL 188 (.map (D g)) (E I 5) u).run EU W= .ok (Et #[.func (.func 130) #[Y (D ⟨gs,0,Z⟩)] #[],Ec u]) W:=lL h 5 130 2 (fun _=>Ed)
theorem EdV(h:W.heap[g]?=D (.map (Xn gs 9) 9)):(gL 188 (.map (D g)) (E I 6) u).run EU W= .ok (Et #[.func (.func 131) #[Y (D ⟨gs,0,Z⟩)] #[],Ec u]) W:=lL h 6 131 3 (fun _=>Ed)
theorem EdW(h:W.heap[g]?=D (.map (Xn gs 9) 9)):(gL 188 (.map (D g)) (E I 7) u).run EU W= .ok (Et #[.func (.func 132) #[Y (D ⟨gs,0,Z⟩)] #[],Ec u]) W:=lL h 7 132 4 (fun _=>Ed)
theorem EdY(h:W.heap[g]?=D (.map (Xn gs 9) 9)):(gL 188 (.map (D g)) (E I 8) u).run EU W= .ok (Et #[.func (.func 133) #[Y (D ⟨gs,0,Z⟩)] #[],Ec u]) W:=lL h 8 133 5 (fun _=>Ed)
theorem Ed0(h:W.heap[g]?=D (.map (Xn gs 9) 9)):(gL 188 (.map (D g)) (E I 9) u).run EU W= .ok (Et #[.func (.func 134) #[Y (D ⟨gs,0,Z⟩)] #[],Ec u]) W:=lL h 9 134 6 (fun _=>Ed)
theorem Ed1(h:W.heap[g]?=D (.map (Xn gs 9) 9)):(gL 188 (.map (D g)) (E I 10) u).run EU W= .ok (Et #[.func (.func 135) #[Y (D ⟨gs,0,Z⟩)] #[],Ec u]) W:=lL h 10 135 7 (fun _=>Ed)
theorem Ed2(h:W.heap[g]?=D (.map (Xn gs 9) 9)):(gL 188 (.map (D g)) (E I 11) u).run EU W= .ok (Et #[.func (.func 135) #[Y (D ⟨gs,0,Z⟩)] #[],Ec u]) W:=lL h 11 135 8 (fun _=>Ed)
section
variable{P:Program}
theorem Lz{fn:Func}{p p2 q:Tmp}{n2:Nat}(hT:IW P T n)(Uu:IW P T2 n2)(h:fn.results= #[.cell p T,.cell p2 T2,.tmp q])(tmps:Array V)(w:M)(g g2:Nat)(cs cs2:Array V)(v:V) (hp:tmps.getD p I6=Y (D ⟨g,0,Z⟩)) (hp2:tmps.getD p2 I6=Y (D ⟨g2,0,Z⟩)) (hq:tmps.getD q I6=v) (hg:H w g cs T) (hn:cs.size=n) (hg2:H w g2 cs2 T2) (hn2:cs2.size=n2):(Xa fn tmps).run P w= .ok (Et #[EZ cs,EZ cs2,v]) w:=by
 have hp':tmps[p]?.getD I6=Y (D ⟨g,0,Z⟩):=mF;have Ed3:tmps[p2]?.getD I6=Y (D ⟨g2,0,Z⟩):=by simpa using hp2
 have hq':tmps[q]?.getD I6=v:=rP;simp[Xa,h,hp',Ed3,hq',asAddr,AA hT hg hn,AA Uu hg2 hn2]
end
def IB(Ik:Int)(op:Bool)(nc:List Int):Array V:= #[E I Ik,Ec op]++Ej nc
theorem aU(Ik:Int)(op:Bool)(nc:List Int)(h:nc.length=8):(IB Ik op nc).size=10:=by simp[IB,Om,h]
theorem qB(Ik:Int)(op:Bool)(nc:List Int):(IB Ik op nc).all (·.oneCell')=u:=by
 rw[Array.all_eq_true];intro i hi;simp only[IB] at hi⊢;rw[Array.getElem_append];split
 ·rename_i h;have:i=0\/i=1:=by simp at h;omega
  rcases this with rfl|rfl<;>rfl
 ·simp[Ej,OC]
theorem Co(Ik:Int)(op:Bool)(nc:List Int):(IB Ik op nc)[0]?=D (E I Ik):=by unfold IB;rw[Array.getElem?_append_left Eh];rfl
theorem LA(Ik:Int)(op:Bool)(nc:List Int):(IB Ik op nc)[1]?=D (Ec op):=by unfold IB;rw[Array.getElem?_append_left Eh];rfl
theorem LB(Ik:Int)(op:Bool)(nc:List Int)(h:nc.length=8):(IB Ik op nc).extract 2 (2+8)=Ej nc:=by
 match nc,h with
 |[a,b,c,d,e,f,g,i],_=>rfl
theorem Ed4(Ik:Int)(op:Bool)(nc:List Int)(h:nc.length=8):Tryz.prog.built 117 [(0,E I Ik),(1,Ec op),(2,EZ (Ej nc))]=D (IB Ik op nc):=by
 obtain⟨a,b,c,d,e,f,g,i,rfl⟩: ∃a b c d e f g i,nc=[a,b,c,d,e,f,g,i]:=by
  match nc,h with
  |[a,b,c,d,e,f,g,i],_=>exact⟨a,b,c,d,e,f,g,i,U⟩
 kernel_rfl
theorem VT(Ik:Int):Tryz.prog.built 117 [(0,E I Ik)]=D (IB Ik B (Er 8)):=Ed
theorem LD:Tryz.prog.built 41 []=D (Ej (Er 32)):=Ed
theorem XK:IW EU 117 10:=⟨⟨_,Tryz.underlying117,U⟩,Ed⟩
theorem lM:Od EU 117 (IB 0 B (Er 8)):=by intro ev o w ho;unfold Iw;simp only[ho];simp[go_sem];exact congrArg (fun c=>w.alloc (EJ c 117)) Ed
theorem lN:(Er 8).length=8:=rfl
theorem Ed5(A:Option Eu)(n c:Nat)(s Ik:Int)(op:Bool)(nc:List Int)(w:M)(hc:nc.length=8)(hm:4294967295<=Ik): Ef EU 121 #[EZ (IB Ik op nc),EI A n c,E I s] w fun e w'=>e=Eg (Et #[EZ (IB Ik op nc),E I 24])/\El w w':=by have DS:=O<|aU Ik op nc hc;have D1:=O<|qB Ik op nc;have C0:=Co Ik op nc;generalize IB Ik op nc=dv at*;clear hc;go_enter Tryz.func121,Tryz.ntmps121;go_wp2_with (with_reducible refine wA lM (Ev.mk ?_));apply Eo;have K3:=O<|(H.new w dv 117).alloc (EJ (IB 0 B (Er 8)) 117);have K6:=O<|H.new' (w.alloc (EJ dv 117)) (IB 0 B (Er 8)) 117 (g:=w.heap.size+1) Eh;have BB:=O<|J9 w (EJ dv 117) (EJ (IB 0 B (Er 8)) 117);generalize (w.alloc (EJ dv 117)).alloc (EJ (IB 0 B (Er 8)) 117)=w1 at*;have c0:=K3.out.cell 0;rw[C0] at c0;clear C0;go_wp2_with (with_reducible first|refine wL XK K3 ?_ (hn:=DS.out)|refine wS (cs:=dv) XK K6 ?_ (ho:=aU _ _ _ lN) (hn:=DS.out) (h1:=D1.out));refine ET (v:=Et #[EZ dv,E I 24]) (dy XK U _ _ (w.heap.size+1) _ _ U U (K6.out.setRow _) DS.out) U ⟨U,E3 BB.out X _⟩
theorem Ed6(A:Option Eu)(k:List Int)(n c:Nat)(s Ik:Int)(op:Bool)(nc:List Int)(w:M)(hn:k.length=n)(hk:Row w A k)(hl:n<=10000000)(hc:nc.length=8)(hm: -9223372036854775808<=Ik/\Ik<4294967295)(hR:JP w): Ef EU 121 #[EZ (IB Ik op nc),EI A n c,E I s] w fun e w'=>e=Eg (Et #[EZ (IB (Ik+1) u ((J1 k (dj s (Ik+1))).take 8)),E I 0])/\El w w':=by have CN:=fun(W:M) (hb:El w W)=>EXm A k n c s (Ik+1) W hn (hk.G hb) hl (hR.G hb);have AL:((J1 k (dj s (Ik+1))).take 8).length=8:=uS;generalize (J1 k (dj s (Ik+1))).take 8=an at*;have BD:=O<|Ed4 (Ik+1) u an AL;have DS:=O<|aU (Ik+1) u an AL;have D1:=O<|qB (Ik+1) u an;have C0:=Co Ik op nc;have i1:IntKind.i64.wrap (Ik+1)=Ik+1:=IntWalk.i64_in _ X;generalize IB Ik op nc=dv at*;generalize IB (Ik+1) u an=dr at*;replace CN:=O CN;replace AL:=O AL;clear hc hn hk hR;obtain⟨hm0,hm1⟩:=hm;go_enter Tryz.func121,Tryz.ntmps121;go_wp2_with (with_reducible refine wA lM (Ev.mk ?_));apply Eo;have K3:=O<|(H.new w dv 117).alloc (EJ (IB 0 B (Er 8)) 117);have K6:=O<|H.new' (w.alloc (EJ dv 117)) (IB 0 B (Er 8)) 117 (g:=w.heap.size+1) Eh;have BB:=O<|J9 w (EJ dv 117) (EJ (IB 0 B (Er 8)) 117);generalize (w.alloc (EJ dv 117)).alloc (EJ (IB 0 B (Er 8)) 117)=w1 at*;have c0:=K3.out.cell 0;rw[C0] at c0;clear C0;go_wp2_with fail;clear c0;refine(CN.out _ BB.out).mono ?_;rintro e w2 ⟨rfl,b2⟩;replace K6:=O<|K6.out.G b2;replace BB:=EW BB b2;clear b2 CN K3;go_wp2_with (first|((with_reducible refine Is 21 ?_);refine I3 rfl 117 _ rfl dr BD.out ?_)|(with_reducible refine wS (cs:=dr) XK K6 ?_ (ho:=aU _ _ _ lN) (hn:=DS.out) (h1:=D1.out)));refine ET (v:=Et #[EZ dr,E I 0]) (dy XK U _ _ (w.heap.size+1) _ _ U U (K6.out.setRow _) DS.out) U ⟨U,E3 BB.out X _⟩
theorem Ed7(A:Option Eu)(n c:Nat)(s r Ik:Int)(nc pf:List Int)(w:M)(hc:nc.length=8): Ef EU 123 #[EZ (IB Ik B nc),EI A n c,E I s,E I r,EZ (Ej pf)] w fun e w'=>e=Eg (Et #[EZ (IB Ik B nc),EZ (Ej (Er 32)),E I 17])/\El w w':=by have DS:=O<|aU Ik B nc hc;have D1:=O<|qB Ik B nc;have C1:=LA Ik B nc;have BZ:=O LD;generalize IB Ik B nc=dv at*;clear hc;go_enter Tryz.func123,Tryz.ntmps123;go_wp2_with (with_reducible first|refine wA lM ?_|refine wA aY (Ev.mk ?_));apply Eo;have K5:=O<|(((H.new w dv 117).alloc (EJ (Ej pf) 115)).alloc (EJ (IB 0 B (Er 8)) 117)).alloc (EJ (Ej (Er 32)) 41);have K9:=O<|((H.new' (w.alloc (EJ dv 117)) (Ej pf) 115 (g:=w.heap.size+1) Eh).alloc (EJ (IB 0 B (Er 8)) 117)).alloc (EJ (Ej (Er 32)) 41);have I8:=O<|(H.new' ((w.alloc (EJ dv 117)).alloc (EJ (Ej pf) 115)) (IB 0 B (Er 8)) 117 (g:=w.heap.size+1+1) Eh).alloc (EJ (Ej (Er 32)) 41);have I1:=O<|H.new' (((w.alloc (EJ dv 117)).alloc (EJ (Ej pf) 115)).alloc (EJ (IB 0 B (Er 8)) 117)) (Ej (Er 32)) 41 (g:=w.heap.size+1+1+1) Eh;have BB:=O<|bt (af w (EJ dv 117) (EJ (Ej pf) 115) (EJ (IB 0 B (Er 8)) 117)) (Ep (((w.alloc (EJ dv 117)).alloc (EJ (Ej pf) 115)).alloc (EJ (IB 0 B (Er 8)) 117)) (EJ (Ej (Er 32)) 41));generalize (((w.alloc (EJ dv 117)).alloc (EJ (Ej pf) 115)).alloc (EJ (IB 0 B (Er 8)) 117)).alloc (EJ (Ej (Er 32)) 41)=w1 at*;obtain⟨g9,iL⟩:=Jo (w.heap.size+1);rw[iL] at K9 I8 I1;simp only[iL];obtain⟨g10,iM⟩:=Jo (g9+1);rw[iM] at I8 I1;simp only[iM];obtain⟨g11,iN⟩:=Jo (g10+1);rw[iN] at I1;simp only[iN];have n9:w.heap.size<g9:=X;have n10:g9<g10:=X;have n11:g10<g11:=X;clear iL iM iN;have c1:=K5.out.cell 1;rw[C1] at c1;clear C1;go_wp2_with (first|(with_reducible refine wL XK K5 ?_ (hn:=DS.out))|((with_reducible refine Is 19 ?_);refine I3 rfl 41 _ rfl (Ej (Er 32)) BZ.out ?_)|(with_reducible refine wS (cs:=dv) XK I8 (Ev.mk ?_) (ho:=aU _ _ _ lN) (hn:=DS.out) (h1:=D1.out)));apply Eo;clear c1 K5 K9;replace I1:=O<|I1.out.setRow_other g10 dv X;replace I8:=O<|I8.out.setRow dv;replace BB:=O<|E3 (g:=g10) BB.out X dv;generalize w1.setRow g10 dv=w2 at*;go_wp2_with (with_reducible refine wS (cs:=Ej (Er 32)) J7 I1 ?_ (ho:=Xd) (hn:=Xd) (h1:=Xt _));refine ET (v:=Et #[EZ dv,EZ (Ej (Er 32)),E I 17]) (Lz XK J7 U _ _ g10 g11 _ _ _ U U U (I8.out.setRow_other _ _ X) DS.out (I1.out.setRow _) Hq) U ⟨U,E3 BB.out X _⟩
def Cp(cl:Array V)(A:Option Eu)(n c:Nat)(s r:Int)(g5:Nat)(nc kv:List Int)(i:Nat)(v:V)(w:M):Prop:=match i with
 |0=>v=EZ cl
 |1=>v=EI A n c
 |2=>v=E I s
 |3=>v=E I r
 |4=>v=Y (D ⟨g5,2,Z⟩)
 |5=>v=EZ (Ej nc)
 |_=>v=EZ (Ej kv)
theorem Ed8(cl:Array V)(A:Option Eu)(n c:Nat)(s r:Int)(g5:Nat)(nc kv:List Int): ∀i v w w',i<7->Cp cl A n c s r g5 nc kv i v w->Oa w w'->Cp cl A n c s r g5 nc kv i v w':=by intro i v w w' hi h hb;unfold Cp at*;split at h;all_goals exact h
theorem Ed9(A:Option Eu)(k:List Int)(n c:Nat)(s r Ik:Int)(nc pf:List Int)(w:M)(hn:k.length=n)(hk:Row w A k)(hl:n<=10000000)(hc:nc.length=8)(hb: ∀x∈nc,0<=x/\x<=255)(hR:JP w)(hpl:pf.length=8)(hpb: ∀x∈pf,0<=x/\x<=255)(hp:pf≠(J1 k (OP 80 s r nc)).take 8): Ef EU 123 #[EZ (IB Ik u nc),EI A n c,E I s,E I r,EZ (Ej pf)] w fun e w'=>e=Eg (Et #[EZ (IB Ik B (Er 8)),EZ (Ej (Er 32)),E I 14])/\El w w':=by have CP:=fun(W:M) (hb':El w W)=>Ri A k nc n c s r W hn (hk.G hb') hl hc hb (hR.G hb');have CK:=fun(W:M) (hb':El w W)=>Rj A k nc n c s r W hn (hk.G hb') hl hc hb (hR.G hb');have RL:((J1 k (OP 80 s r nc)).take 8).length=8:=uS;have RB: ∀x∈(J1 k (OP 80 s r nc)).take 8,0<=x/\x<=255:=fun x hx=>uM _ _ x (fK hx);have KL:(J1 k (OP 75 s r nc)).length=32:=nO _ _;have SM:decide (pf=(J1 k (OP 80 s r nc)).take 8)=B:=IJ hp;generalize (J1 k (OP 80 s r nc)).take 8=rt at*;generalize J1 k (OP 75 s r nc)=kv at*;have DS:=O<|aU Ik u nc hc;have C0:=Co Ik u nc;have C1:=LA Ik u nc;have CX:=O<|LB Ik u nc hc;have BZ:=O LD;have BC:=O<|VT Ik;have ES:=O<|aU Ik B (Er 8) lN;have E1:=O<|qB Ik B (Er 8);generalize IB Ik u nc=dv at*;generalize IB Ik B (Er 8)=cl at*;replace CP:=O CP;replace CK:=O CK;replace RL:=O RL;replace RB:=O RB;replace KL:=O KL;replace SM:=O SM;have ic:=O hpl;have Z1:=O hpb;have HC:=O hc;clear hc hn hk hR hb hpl hpb hp;go_enter Tryz.func123,Tryz.ntmps123;go_wp2_with (with_reducible first|refine wA lM ?_|refine wA aY (Ev.mk ?_));apply Eo;have K5:=O<|(((H.new w dv 117).alloc (EJ (Ej pf) 115)).alloc (EJ (IB 0 B (Er 8)) 117)).alloc (EJ (Ej (Er 32)) 41);have K9:=O<|((H.new' (w.alloc (EJ dv 117)) (Ej pf) 115 (g:=w.heap.size+1) Eh).alloc (EJ (IB 0 B (Er 8)) 117)).alloc (EJ (Ej (Er 32)) 41);have I8:=O<|(H.new' ((w.alloc (EJ dv 117)).alloc (EJ (Ej pf) 115)) (IB 0 B (Er 8)) 117 (g:=w.heap.size+1+1) Eh).alloc (EJ (Ej (Er 32)) 41);have I1:=O<|H.new' (((w.alloc (EJ dv 117)).alloc (EJ (Ej pf) 115)).alloc (EJ (IB 0 B (Er 8)) 117)) (Ej (Er 32)) 41 (g:=w.heap.size+1+1+1) Eh;have BB:=O<|bt (af w (EJ dv 117) (EJ (Ej pf) 115) (EJ (IB 0 B (Er 8)) 117)) (Ep (((w.alloc (EJ dv 117)).alloc (EJ (Ej pf) 115)).alloc (EJ (IB 0 B (Er 8)) 117)) (EJ (Ej (Er 32)) 41));generalize (((w.alloc (EJ dv 117)).alloc (EJ (Ej pf) 115)).alloc (EJ (IB 0 B (Er 8)) 117)).alloc (EJ (Ej (Er 32)) 41)=w1 at*;obtain⟨g9,iL⟩:=Jo (w.heap.size+1);rw[iL] at K9 I8 I1;simp only[iL];obtain⟨g10,iM⟩:=Jo (g9+1);rw[iM] at I8 I1;simp only[iM];obtain⟨g11,iN⟩:=Jo (g10+1);rw[iN] at I1;simp only[iN];have n9:w.heap.size<g9:=X;have n10:g9<g10:=X;have n11:g10<g11:=X;clear iL iM iN;have c0:=K5.out.cell 0;have c1:=K5.out.cell 1;rw[C0] at c0;rw[C1] at c1;clear C0 C1;have l11:=I1.out.lt;go_wp2_with (first|((with_reducible refine Is 22 ?_);refine I3 rfl 117 _ rfl cl BC.out ?_)|(with_reducible refine wA lM (Ev.mk ?_)));apply Eo;clear c0 c1;have bel:=Ep w1 (EJ (IB 0 B (Er 8)) 117);replace K5:=O<|K5.out.G bel;replace K9:=O<|K9.out.G bel;replace I8:=O<|I8.out.G bel;replace I1:=O<|I1.out.G bel;replace BB:=EW BB bel;have Uc:=O<|H.new w1 (IB 0 B (Er 8)) 117;clear bel;generalize w1.alloc (EJ (IB 0 B (Er 8)) 117)=w2 at*;generalize w1.heap.size=g13 at*;go_wp2_with (with_reducible refine wS (cs:=cl) XK Uc (Ev.mk ?_) (ho:=aU _ _ _ lN) (hn:=ES.out) (h1:=E1.out));apply Eo;replace K5:=O<|K5.out.setRow_other g13 cl X;replace K9:=O<|K9.out.setRow_other g13 cl X;replace I8:=O<|I8.out.setRow_other g13 cl X;replace I1:=O<|I1.out.setRow_other g13 cl X;replace Uc:=O<|Uc.out.setRow cl;replace BB:=O<|E3 (g:=g13) BB.out X cl;generalize w2.setRow g13 cl=w3 at*;go_wp2_with (with_reducible refine wM (off:=2) (cs:=Ej nc) Z_ K5 ?_ (hn:=Ad) (he:=CX.out));refine(CP.out _ BB.out).mono ?_;rintro e w4 ⟨rfl,b4⟩;replace K5:=O<|K5.out.G b4;replace K9:=O<|K9.out.G b4;replace I8:=O<|I8.out.G b4;replace I1:=O<|I1.out.G b4;replace Uc:=O<|Uc.out.G b4;replace BB:=EW BB b4;clear b4 CP;have l13:=Uc.out.lt;go_wp2_with (with_reducible refine wA pi (Ev.mk ?_));apply Eo;have bel:=Ep w4 (EJ (Ej (Er 8)) 115);replace K5:=O<|K5.out.G bel;replace K9:=O<|K9.out.G bel;replace I8:=O<|I8.out.G bel;replace I1:=O<|I1.out.G bel;replace Uc:=O<|Uc.out.G bel;replace BB:=EW BB bel;have bD:=O<|H.new w4 (Ej (Er 8)) 115;clear bel;generalize w4.alloc (EJ (Ej (Er 8)) 115)=w5 at*;generalize w4.heap.size=g14 at*;go_wp2_with (with_reducible refine wS (cs:=Ej rt) Z_ bD (Ev.mk ?_) (ho:=Xd) (hn:=Hr) (h1:=Xt _));apply Eo;replace K5:=O<|K5.out.setRow_other g14 (Ej rt) X;replace K9:=O<|K9.out.setRow_other g14 (Ej rt) X;replace I8:=O<|I8.out.setRow_other g14 (Ej rt) X;replace I1:=O<|I1.out.setRow_other g14 (Ej rt) X;replace Uc:=O<|Uc.out.setRow_other g14 (Ej rt) X;replace bD:=O<|bD.out.setRow (Ej rt);replace BB:=O<|E3 (g:=g14) BB.out F5 (Ej rt);generalize w5.setRow g14 (Ej rt)=w6 at*;have CS:=O<|fun q=>z5 (D ⟨g9,0,Z⟩) (D ⟨g14,0,Z⟩) pf rt 8 8 8 8 (w6.drewN q) ic.out RL.out (yF (aR K9.out Z1.out) q) (yF (aR bD.out RB.out) q) X X;rw[SM.out] at CS;go_wp2_with fail;go_quiet (((with_reducible refine(CS.out _).mono ?_);(rintro e w2 ⟨rfl,rfl⟩;exact⟨U,_,U⟩)));clear CS;replace K5:=O<|K5.out.drewN nq;replace K9:=O<|K9.out.drewN nq;replace I8:=O<|I8.out.drewN nq;replace I1:=O<|I1.out.drewN nq;replace Uc:=O<|Uc.out.drewN nq;replace bD:=O<|bD.out.drewN nq;replace BB:=O<|j9 BB.out nq;generalize w6.drewN nq=w7 at*;go_wp2_with (first|(with_reducible refine wL XK Uc ?_ (hn:=ES.out))|((with_reducible refine Is 34 ?_);refine I3 rfl 41 _ rfl (Ej (Er 32)) BZ.out ?_)|(with_reducible refine wS (cs:=cl) XK I8 (Ev.mk ?_) (ho:=aU _ _ _ lN) (hn:=ES.out) (h1:=E1.out)));apply Eo;replace K5:=O<|K5.out.setRow_other g10 cl X;replace K9:=O<|K9.out.setRow_other g10 cl X;replace I1:=O<|I1.out.setRow_other g10 cl X;replace Uc:=O<|Uc.out.setRow_other g10 cl X;replace bD:=O<|bD.out.setRow_other g10 cl X;replace I8:=O<|I8.out.setRow cl;replace BB:=O<|E3 (g:=g10) BB.out X cl;generalize w7.setRow g10 cl=w8 at*;go_wp2_with (with_reducible refine wS (cs:=Ej (Er 32)) J7 I1 ?_ (ho:=Xd) (hn:=Xd) (h1:=Xt _));refine ET (v:=Et #[EZ cl,EZ (Ej (Er 32)),E I 14]) (Lz XK J7 U _ _ g10 g11 _ _ _ U U U (I8.out.setRow_other _ _ X) ES.out (I1.out.setRow _) Hq) U ⟨U,E3 BB.out X _⟩
theorem EfI(A:Option Eu)(k:List Int)(n c:Nat)(s r Ik:Int)(nc pf:List Int)(w:M)(hn:k.length=n)(hk:Row w A k)(hl:n<=10000000)(hc:nc.length=8)(hb: ∀x∈nc,0<=x/\x<=255)(hR:JP w)(hpl:pf.length=8)(hpb: ∀x∈pf,0<=x/\x<=255)(hp:pf=(J1 k (OP 80 s r nc)).take 8): Ef EU 123 #[EZ (IB Ik u nc),EI A n c,E I s,E I r,EZ (Ej pf)] w fun e w'=>e=Eg (Et #[EZ (IB Ik B (Er 8)),EZ (Ej (J1 k (OP 75 s r nc))),E I 0])/\El w w':=by
 have CP:=fun(W:M) (hb':El w W)=>Ri A k nc n c s r W hn (hk.G hb') hl hc hb (hR.G hb');have CK:=fun(W:M) (hb':El w W)=>Rj A k nc n c s r W hn (hk.G hb') hl hc hb (hR.G hb');have RL:((J1 k (OP 80 s r nc)).take 8).length=8:=uS;have RB: ∀x∈(J1 k (OP 80 s r nc)).take 8,0<=x/\x<=255:=fun x hx=>uM _ _ x (fK hx);have KL:(J1 k (OP 75 s r nc)).length=32:=nO _ _;have SM:decide (pf=(J1 k (OP 80 s r nc)).take 8)=u:=Ib hp;generalize (J1 k (OP 80 s r nc)).take 8=rt at*;generalize J1 k (OP 75 s r nc)=kv at*;have DS:=O<|aU Ik u nc hc;have C0:=Co Ik u nc;have C1:=LA Ik u nc;have CX:=O<|LB Ik u nc hc;have BZ:=O LD;have BC:=O<|VT Ik;have ES:=O<|aU Ik B (Er 8) lN;have E1:=O<|qB Ik B (Er 8);generalize IB Ik u nc=dv at*;generalize IB Ik B (Er 8)=cl at*;replace CP:=O CP;replace CK:=O CK;replace RL:=O RL;replace RB:=O RB;replace KL:=O KL;replace SM:=O SM;have ic:=O hpl;have Z1:=O hpb;have HC:=O hc;clear hc hn hk hR hb hpl hpb hp;go_enter Tryz.func123,Tryz.ntmps123;go_wp2_with (with_reducible first|refine wA lM ?_|refine wA aY (Ev.mk ?_));apply Eo;have K5:=O<|(((H.new w dv 117).alloc (EJ (Ej pf) 115)).alloc (EJ (IB 0 B (Er 8)) 117)).alloc (EJ (Ej (Er 32)) 41);have K9:=O<|((H.new' (w.alloc (EJ dv 117)) (Ej pf) 115 (g:=w.heap.size+1) Eh).alloc (EJ (IB 0 B (Er 8)) 117)).alloc (EJ (Ej (Er 32)) 41);have I8:=O<|(H.new' ((w.alloc (EJ dv 117)).alloc (EJ (Ej pf) 115)) (IB 0 B (Er 8)) 117 (g:=w.heap.size+1+1) Eh).alloc (EJ (Ej (Er 32)) 41);have I1:=O<|H.new' (((w.alloc (EJ dv 117)).alloc (EJ (Ej pf) 115)).alloc (EJ (IB 0 B (Er 8)) 117)) (Ej (Er 32)) 41 (g:=w.heap.size+1+1+1) Eh;have BB:=O<|bt (af w (EJ dv 117) (EJ (Ej pf) 115) (EJ (IB 0 B (Er 8)) 117)) (Ep (((w.alloc (EJ dv 117)).alloc (EJ (Ej pf) 115)).alloc (EJ (IB 0 B (Er 8)) 117)) (EJ (Ej (Er 32)) 41));generalize (((w.alloc (EJ dv 117)).alloc (EJ (Ej pf) 115)).alloc (EJ (IB 0 B (Er 8)) 117)).alloc (EJ (Ej (Er 32)) 41)=w1 at*;obtain⟨g9,iL⟩:=Jo (w.heap.size+1);rw[iL] at K9 I8 I1;simp only[iL];obtain⟨g10,iM⟩:=Jo (g9+1);rw[iM] at I8 I1;simp only[iM];obtain⟨g11,iN⟩:=Jo (g10+1);rw[iN] at I1;simp only[iN];have n9:w.heap.size<g9:=X;have n10:g9<g10:=X;have n11:g10<g11:=X;clear iL iM iN;have c0:=K5.out.cell 0;have c1:=K5.out.cell 1;rw[C0] at c0;rw[C1] at c1;clear C0 C1;have l11:=I1.out.lt;go_wp2_with (first|((with_reducible refine Is 22 ?_);refine I3 rfl 117 _ rfl cl BC.out ?_)|(with_reducible refine wA lM (Ev.mk ?_)));apply Eo;clear c0 c1;have bel:=Ep w1 (EJ (IB 0 B (Er 8)) 117);replace K5:=O<|K5.out.G bel;replace K9:=O<|K9.out.G bel;replace I8:=O<|I8.out.G bel;replace I1:=O<|I1.out.G bel;replace BB:=EW BB bel;have Uc:=O<|H.new w1 (IB 0 B (Er 8)) 117;clear bel;generalize w1.alloc (EJ (IB 0 B (Er 8)) 117)=w2 at*;generalize w1.heap.size=g13 at*;go_wp2_with (with_reducible refine wS (cs:=cl) XK Uc (Ev.mk ?_) (ho:=aU _ _ _ lN) (hn:=ES.out) (h1:=E1.out));apply Eo;replace K5:=O<|K5.out.setRow_other g13 cl X;replace K9:=O<|K9.out.setRow_other g13 cl X;replace I8:=O<|I8.out.setRow_other g13 cl X;replace I1:=O<|I1.out.setRow_other g13 cl X;replace Uc:=O<|Uc.out.setRow cl;replace BB:=O<|E3 (g:=g13) BB.out X cl;generalize w2.setRow g13 cl=w3 at*;go_wp2_with (with_reducible refine wM (off:=2) (cs:=Ej nc) Z_ K5 ?_ (hn:=Ad) (he:=CX.out));refine(CP.out _ BB.out).mono ?_;rintro e w4 ⟨rfl,b4⟩;replace K5:=O<|K5.out.G b4;replace K9:=O<|K9.out.G b4;replace I8:=O<|I8.out.G b4;replace I1:=O<|I1.out.G b4;replace Uc:=O<|Uc.out.G b4;replace BB:=EW BB b4;clear b4 CP;have l13:=Uc.out.lt;go_wp2_with (with_reducible refine wA pi (Ev.mk ?_));apply Eo;have bel:=Ep w4 (EJ (Ej (Er 8)) 115);replace K5:=O<|K5.out.G bel;replace K9:=O<|K9.out.G bel;replace I8:=O<|I8.out.G bel;replace I1:=O<|I1.out.G bel;replace Uc:=O<|Uc.out.G bel;replace BB:=EW BB bel;have bD:=O<|H.new w4 (Ej (Er 8)) 115;clear bel;generalize w4.alloc (EJ (Ej (Er 8)) 115)=w5 at*;generalize w4.heap.size=g14 at*;go_wp2_with (with_reducible refine wS (cs:=Ej rt) Z_ bD (Ev.mk ?_) (ho:=Xd) (hn:=Hr) (h1:=Xt _));apply Eo;replace K5:=O<|K5.out.setRow_other g14 (Ej rt) X;replace K9:=O<|K9.out.setRow_other g14 (Ej rt) X;replace I8:=O<|I8.out.setRow_other g14 (Ej rt) X;replace I1:=O<|I1.out.setRow_other g14 (Ej rt) X;replace Uc:=O<|Uc.out.setRow_other g14 (Ej rt) X;replace bD:=O<|bD.out.setRow (Ej rt);replace BB:=O<|E3 (g:=g14) BB.out F5 (Ej rt);generalize w5.setRow g14 (Ej rt)=w6 at*;have CS:=O<|fun q=>z5 (D ⟨g9,0,Z⟩) (D ⟨g14,0,Z⟩) pf rt 8 8 8 8 (w6.drewN q) ic.out RL.out (yF (aR K9.out Z1.out) q) (yF (aR bD.out RB.out) q) X X;rw[SM.out] at CS;go_wp2_with fail;go_quiet (((with_reducible refine(CS.out _).mono ?_);(rintro e w2 ⟨rfl,rfl⟩;exact⟨U,_,U⟩)));clear CS;replace K5:=O<|K5.out.drewN nq;replace K9:=O<|K9.out.drewN nq;replace I8:=O<|I8.out.drewN nq;replace I1:=O<|I1.out.drewN nq;replace Uc:=O<|Uc.out.drewN nq;replace bD:=O<|bD.out.drewN nq;replace BB:=O<|j9 BB.out nq;generalize w6.drewN nq=w7 at*;go_wp2_with fail;refine aQ EM Ed 7 Ed Eh Eb (Cp cl A n c s r w.heap.size nc kv) (Ed8 _ _ _ _ _ _ _ _ _) ?_ ?_
 ·simp only[X6,Ir,Im,EL,In,Ip,Ig,Ih,and_true];refine⟨?_,?_,?_,?_,?_,?_,?_⟩;all_goals intro v w' hb hd
  ·exact Fz EM (g:=g13) XK (Ei U) ⟨U,Ez⟩ (Uc.out.G hb) ES.out U
  ·exact Elz
  ·exact Elz
  ·exact Elz
  ·exact Elz
  ·have d4:v 4=Y (D ⟨w.heap.size,2,Z⟩):=hd.at 4 rfl;exact EJg EM (g:=w.heap.size) (off:=2) (cs:=Ej nc) Z_ (Ei U) ⟨U,XR⟩ (K5.out.G hb) (by rw[Om,HC.out]) CX.out U
  ·have d1:v 1=EI A n c:=hd.at 1 rfl;have d2:v 2=E I s:=hd.at 2 rfl;have d3:v 3=E I r:=hd.at 3 rfl;have d5:v 5=EZ (Ej nc):=hd.at 5 rfl;refine Ot (f:=169) (args:= #[v 1,v 2,v 3,v 5]) (Ei U) Ez ?_;rw[d1,d2,d3,d5];exact(CK.out w' (bt BB.out hb)).mono fun e w'' ⟨he,hb'⟩=>⟨_,he,hb',U⟩
 ·intro v w' hb hr;have d0:v 0=EZ cl:=hr 0 X;have d6:v 6=EZ (Ej kv):=hr 6 X;simp only[Ir,Im,IL,IG,EL,In,Ip,Ig,Ih];rw[d0,d6];replace I8:=O<|I8.out.G hb;replace I1:=O<|I1.out.G hb;replace BB:=EW BB hb;clear hr hb d0 d6 K5 K9 Uc bD CK;go_wp2_with (with_reducible refine wS (cs:=cl) XK I8 (Ev.mk ?_) (ho:=aU _ _ _ lN) (hn:=ES.out) (h1:=E1.out));apply Eo;replace I1:=O<|I1.out.setRow_other g10 cl X;replace I8:=O<|I8.out.setRow cl;replace BB:=O<|E3 (g:=g10) BB.out X cl;generalize w'.setRow g10 cl=w8 at*;go_wp2_with (with_reducible refine wS (cs:=Ej kv) J7 I1 ?_ (ho:=Xd) (hn:=RU) (h1:=Xt _));refine ET (v:=Et #[EZ cl,EZ (Ej kv),E I 0]) (Lz XK J7 U _ _ g10 g11 _ _ _ U U U (I8.out.setRow_other _ _ X) ES.out (I1.out.setRow _) (by rw[Om,KL.out])) U ⟨U,E3 BB.out X _⟩
def lP(T:EC)(n:Nat)(cs:Array V)(w w':M):Prop:= ∀b c,H w b c T->c.size=n-> ∃c':Array V,c'.size=n/\H w' b c' T/\(c=cs->c'=cs)
theorem wC(hs:cs.size=n):lP T n cs w (w.setRow b cs):=fun k d h h8=>by
 by_cases e:k=b;·subst e;exact⟨cs,hs,h.setRow cs,fun _=>rfl⟩
 ·exact⟨d,h8,H.setRow_other h b cs e,id⟩
theorem VV{c:Array V}(k:H w b c2 T2)(hT:T≠T2):lP T n cs w (w.setRow b c):=fun _ d h h8=>⟨d,h8,H.setRow_other h b c (E5 h k hT),id⟩
theorem EfJ(ho:EH g w w')(k:H w g c2 T2)(hT:T≠T2):lP T n cs w w':=fun _ d h h8=>⟨d,h8,ho.Ek h (E5 h k hT),id⟩
def bF(T:EC)(n n0:Nat)(v:V)(w:M):Prop:= ∃(b:Nat) (c:Array V),v=Y (D ⟨b,0,Z⟩)/\n0<=b/\c.size=n/\H w b c T
theorem bF.G(h:bF T n n0 v w)(hb:El w w'):bF T n n0 v w':=by exact EpJ
theorem bF.sz(h:bF T n n0 v w)(hb:lP T n cs w w'):bF T n n0 v w':=by obtain⟨b,c,h1,h2,h3,h4⟩:=h;obtain⟨c',h5,h6,-⟩:=hb b c h4 h3;exact⟨b,c',h1,h2,h5,h6⟩
theorem E_.Cq{g:Nat->V}{c:EB}{W':M}(S:E_ lo hi g gc gq gt gs c ns rs W)(ho:EH b W W'){d:Array V}(K:H W b d T)(hT:(124::264::58::Bc).contains T=B)(h1:lo<=b):E_ lo hi g gc gq gt gs c ns rs W':=by obtain⟨sv,rv,sc,ks,r1,r2⟩:=S.fi;have kp: ∀k cs S,(124::264::58::Bc).contains S=u->H W k cs S->H W' k cs S:=fun k cs S hS hb=>ho.Ek hb (E5 hb K (by intro e;subst e;rw[hT] at hS;cases hS));exact⟨S.core.via (fun k cs T hT hb=>kp k cs T (by simp only[List.contains_cons,hT,Bool.or_true]) hb) (ho.bel lo h1 Kt),S.hc,S.hq,S.ht,S.cH,S.his,sv,rv,sc,kp _ _ _ Eb ks,ER r1 fun _ _ hk=>kp _ _ _ Eb hk,ER r2 fun _ _ hk=>kp _ _ _ Eb hk⟩
theorem Dr.vA(d:Dr):d.v.toArray=IB d.n d.op d.nc:=by simp[Dr.v,IB,Ej]
theorem VW{g:Nat->V}{c:EB}(C:JO lo g gc gq gt c w)(j:Nat)(hj:j<3): ∃(d:Dr) (big:Array V),d.ok/\H w gc big 120/\big.extract (65+j*10) (65+j*10+10)=IB d.n d.op d.nc:=by
 obtain⟨d0,d1,d2,hd,KG,o0,o1,o2,-,-⟩:=C.Ek;have XC:j=0\/j=1\/j=2:=X;rcases XC with rfl|rfl|rfl;·exact⟨d0,_,o0,KG,(Ji.extract 3 rfl (Ox (JD g) o0 o1 o2 3 X) 10 (Dr.len' o0)).trans d0.vA⟩
 ·exact⟨d1,_,o1,KG,(Ji.extract 4 rfl (Ox (JD g) o0 o1 o2 4 X) 10 (Dr.len' o1)).trans d1.vA⟩
 ·exact⟨d2,_,o2,KG,(Ji.extract 5 rfl (Ox (JD g) o0 o1 o2 5 X) 10 (Dr.len' o2)).trans d2.vA⟩
theorem VY{g:Nat->V}{c:EB}(C:JO lo g gc gq gt c w)(j:Nat)(hj:j<3):w.there gc (65+j*10) 10:=by
 obtain⟨d0,d1,d2,hd,KG,o0,o1,o2,-,-⟩:=C.Ek;have XC:j=0\/j=1\/j=2:=X;rcases XC with rfl|rfl|rfl;·exact KG.there 3 rfl (Ox (JD g) o0 o1 o2 3 X) 10 (by rw[Dr.len' o0];exact E7 _)
 ·exact KG.there 4 rfl (Ox (JD g) o0 o1 o2 4 X) 10 (by rw[Dr.len' o1];exact E7 _)
 ·exact KG.there 5 rfl (Ox (JD g) o0 o1 o2 5 X) 10 (by rw[Dr.len' o2];exact E7 _)
theorem E_.V7{g:Nat->V}{c:EB}(S:E_ lo hi g gc gq gt gs c ns rs W)(j:Nat)(hj:j<3)(d:Dr)(od:d.ok):E_ lo hi g gc gq gt gs c ns rs (W.setCells gc (65+j*10) (IB d.n d.op d.nc).toList)/\Ex lo hi W (W.setCells gc (65+j*10) (IB d.n d.op d.nc).toList):=by
 rw[<-Dr.vA];change E_ lo hi g gc gq gt gs c ns rs (W.setCells gc (65+j*10) d.v)/\Ex lo hi W (W.setCells gc (65+j*10) d.v);obtain⟨d0,d1,d2,hd,k,o0,o1,o2,r⟩:=S.core.Ek;obtain⟨sv,rv,sc,ks,r1,r2⟩:=S.fi;have fin: ∀W',EH gc W W'->(∃(d0 d1 d2:Dr) (hd:List Int),Ji W' gc (aw (EK 56 g).toList c gq gt d0 d1 d2 hd) 120/\d0.ok/\d1.ok/\d2.ok/\hd.length=32/\ ∀x∈hd,0<=x/\x<=255)->E_ lo hi g gc gq gt gs c ns rs W'/\Ex lo hi W W':=fun W' ho hb=>by obtain⟨e0,e1,e2,ehd,k',_⟩:=id hb;exact⟨⟨S.core.set ho U U S.core.ok hb,S.hc,S.hq,S.ht,S.cH,S.his,sv,rv,sc,ho.Ek ks (E5 ks k Eb),ER r1 fun _ _ hk=>ho.Ek hk (E5 hk k Eb),ER r2 fun _ _ hk=>ho.Ek hk (E5 hk k Eb)⟩,Ex.vt ho k k' Eb S.core.lc⟩
 refine fin _ (Jq _ _ _) ?_;have XC:j=0\/j=1\/j=2:=X;rcases XC with rfl|rfl|rfl;·exact⟨d,d1,d2,hd,k.set 3 rfl (Ox (JD g) o0 o1 o2 3 X) d.v (by rw[Dr.len' od,Dr.len' o0]),od,o1,o2,r⟩
 ·exact⟨d0,d,d2,hd,k.set 4 rfl (Ox (JD g) o0 o1 o2 4 X) d.v (by rw[Dr.len' od,Dr.len' o1]),o0,od,o2,r⟩
 ·exact⟨d0,d1,d,hd,k.set 5 rfl (Ox (JD g) o0 o1 o2 5 X) d.v (by rw[Dr.len' od,Dr.len' o2]),o0,o1,od,r⟩
theorem V_(gc:Nat)(k:Int)(j:Nat)(hk:k=(j:Int)+1)(hj:j<3)(W:M):(Instr.indexAt 118 (Y (D ⟨gc,65,Z⟩)) (E I (k-1))).run EU W= .ok (Y (D ⟨gc,65+j*10,Z⟩)) W:=by exact EoY
theorem sub_one(k:Int)(h1:1<=k)(h3:k<=3)(W:M):(binOp .sub 3 (E I k) (E I 1)).run EU W= .ok (E I (k-1)) W:=by have hk:k=1\/k=2\/k=3:=X;rcases hk with rfl|rfl|rfl<;>rfl
theorem EfO(d:Dr)(hd:d.ok)(A:Option Eu)(ys:List Int)(n cap:Nat)(k:Int)(hn:ys.length=n)(hl:n<=10000000): ∃(d':Dr) (cd:Int),d'.ok/\ ∀W,Row W A ys->JP W->Ef EU 121 #[EZ (IB d.n d.op d.nc),EI A n cap,E I k] W fun e w'=>e=Eg (Et #[EZ (IB d'.n d'.op d'.nc),E I cd])/\El W w':=by
 obtain⟨⟨n1,n2⟩,jl,hb⟩:=hd;by_cases hm:d.n<4294967295;·refine⟨⟨d.n+1,u,(J1 ys (dj k (d.n+1))).take 8⟩,0,⟨⟨by show 0<=d.n+1;omega,by show d.n+1<=_;omega⟩,by show List.length (List.take 8 _)=8;rw[aj,nO];rfl,fun x hx=>uM _ _ x (fK hx)⟩,fun W hr hR=>Ed6 A ys n cap k d.n d.op d.nc W hn hr hl jl ⟨X,hm⟩ hR⟩
 ·exact⟨d,24,⟨⟨n1,n2⟩,jl,hb⟩,fun W _ _=>Ed5 A n cap k d.n d.op d.nc W jl X⟩
theorem EfU(d:Dr)(hd:d.ok)(A:Option Eu)(ys pf:List Int)(n cap:Nat)(k r:Int)(hn:ys.length=n)(hl:n<=10000000)(hpl:pf.length=8)(hpb: ∀x∈pf,0<=x/\x<=255): ∃(d':Dr) (kv:List Int) (cd:Int),d'.ok/\kv.length=32/\(∀x∈kv,0<=x/\x<=255)/\ ∀W,Row W A ys->JP W->Ef EU 123 #[EZ (IB d.n d.op d.nc),EI A n cap,E I k,E I r,EZ (Ej pf)] W fun e w'=>e=Eg (Et #[EZ (IB d'.n d'.op d'.nc),EZ (Ej kv),E I cd])/\El W w':=by
 have z32: ∀x∈Er 32,0<=x/\x<=255:=fun x hx=>WE;have z8: ∀x∈Er 8,0<=x/\x<=255:=fun x hx=>WE;obtain⟨nn,op,nc⟩:=d;obtain⟨⟨n1,n2⟩,jl,hb⟩:=hd;cases op with
 |false=>exact⟨⟨nn,B,nc⟩,Er 32,17,⟨⟨n1,n2⟩,jl,hb⟩,U,z32,fun W _ _=>Ed7 A n cap k r nn nc pf W jl⟩
 |true=>
  by_cases hp:pf=(J1 ys (OP 80 k r nc)).take 8;·exact⟨⟨nn,B,Er 8⟩,J1 ys (OP 75 k r nc),0,⟨⟨n1,n2⟩,U,z8⟩,nO _ _,uM _ _,fun W hr hR=>EfI A ys n cap k r nn nc pf W hn hr hl jl hb hR hpl hpb hp⟩
  ·exact⟨⟨nn,B,Er 8⟩,Er 32,14,⟨⟨n1,n2⟩,U,z8⟩,U,z32,fun W hr hR=>Ed9 A ys n cap k r nn nc pf W hn hr hl jl hb hR hpl hpb hp⟩
theorem qC(ho:o.op= .indexAddr T x y)(hx:F x=Y3)(hy:F y=v)(h: ∀W,(Instr.indexAt T Y3 v).run P W= .ok r W):(Iw F o).run P w= .ok (.value r) w:=by unfold Iw;simp only[ho,hx,hy,Ud,h,Uf,UU]
theorem tj{b:BinOp}(ho:o.op= .binOp b T x y T2)(hx:F x=Y3)(hy:F y=v)(h: ∀W,(binOp b T Y3 v).run P W= .ok r W)(hb:T2=T:=by rfl)(hg: ∀W,(eqGuard b T x y Y3 v).run P W= .ok () W:=by intro;rfl):(Iw F o).run P w= .ok (.value r) w:=by subst hb;unfold Iw;simp only[ho,hx,hy,Ud,hg,h,Uf,UU]
theorem Cr(h: ∀w,(Iw a.eval o).run P w= .ok (.value v) w)(hk:K (a.put o.dst v)):o.quiet P a (fun w'=> ∃x,w'=Ey W x) K:=by refine⟨_,fun w hw=> ?_,hk⟩;unfold Oper.quietAt;rw[h];obtain⟨y,rfl⟩:=hw;first|exact⟨rfl,rfl⟩|exact⟨rfl,y,rfl⟩
theorem EfX(a b c d e f g i:Int):Tryz.prog.built 222 [(0,E I 129),(6,EZ (Ej [a,b,c,d,e,f,g,i]))]=D (I9 ([129,0,0,0,0,0]++[a,b,c,d,e,f,g,i])):=Ed
theorem EfZ(nc:List Int)(h:nc.length=8):Tryz.prog.built 222 [(0,E I 129),(6,EZ (Ej nc))]=D (I9 ([129,0,0,0,0,0]++nc)):=by
 match nc,h with
 |[a,b,c,d,e,f,g,i],_=>exact EfX a b c d e f g i
theorem Efa(a b c d e f:Int){nc:List Int}(h:nc.length=8)(hb: ∀x∈nc,0<=x/\x<=255):dz ([a,b,c,d,e,f]++nc):=by
 refine⟨by simp[h],fun i h6 lI=> ?_⟩;have e1:([a,b,c,d,e,f]++nc).getD i 0=nc.getD (i-6) 0:=by rw[UK,UK,ak (by simpa using h6)];rfl
 rw[e1,UK,Ok X];exact hb _ (hH _)
theorem Efb(lo hi:Nat)(g:Nat->V)(gc gq gt gs:Nat)(c:EB)(ns:Nat)(rs:List Rec)(A:Option Eu)(n cap:Nat)(xs:List Int)(k:Int)(w:M)(S:E_ lo hi g gc gq gt gs c ns rs w)(hk:1<=k/\k<=3)(hx:xs.length=n)(hnc:n<=cap)(hcap:cap<=9223372036854775807)(hr:Row w A xs)(hn:ns<800000)(hl:rs.length<800000): Ef EU 86 #[Y (D ⟨gs,0,Z⟩),E I k,EI A n cap] w fun e w'=>e=Eg (Et #[])/\(∃m kd cd,m<=1/\E_ lo hi g gc gq gt gs c (ns+m) (rs++[⟨kd,k,0,c.tok.e,cd,0⟩]) w')/\Ex lo hi w w':=by
 obtain⟨j,hj,XC⟩: ∃j:Nat,k=(j:Int)+1/\j<3:=⟨(k-1).toNat,X,X⟩;have IX:=O<|fun W=>V_ gc k j hj XC W;have SB:=O<|fun W=>sub_one k hk.1 hk.2 W;have HJ:=O XC;have HK:=O hk;have S1:=O S;have HN:=O hn;have HL:=O hl;have PI:=O<|fun i (h1:9<=i) (h2:i<56)=>S.core.ZJ.int i h2 (.inr X);have CT:=O<|fun W (h:Row W A xs)=>Ha xs A n cap hx hnc hcap W h;have RW:=O hr;clear S hn hl hk hj XC hx hnc hcap hr;go_enter Tryz.func86,Tryz.ntmps86;go_wp2_with fail;refine(CT.out _ RW.out).mono ?_;rintro e1 w1 h1
 obtain⟨l,lQ,he,b1⟩: ∃(l:List Int) (lQ:Int),e1=Eg (Et #[EZ (EF l),E I lQ])/\El w w1:=by
  obtain⟨h1,b1⟩:=h1;cases h2:fh xs with
  |none=>rw[h2] at h1;exact⟨_,_,h1,b1⟩
  |some l=>rw[h2] at h1;exact⟨_,_,h1,b1⟩
 subst he;replace S1:=O<|S1.out.G b1;have MM:=O<|Ex.Ew (lo:=lo) (hi:=hi) b1;obtain⟨v2,hv2⟩:=En (l.getD 2 0);have tp:Ea (∀W g,H W g (EF l) 183->W.cell? ⟨g,2,Z⟩=D (E I v2)):=O (fun W g K=>by rw[hv2];exact Za K 2 X X);have iP:=O<|JJ l;have nR:=O<|ZY l;clear h1 b1 CT RW hv2;generalize EF l=mv at*;have K0:=O<|H.new w1 (EF (If 0)) 183;have b2:=Ep w1 (EJ (EF (If 0)) 183);go_wp2_with (with_reducible first|refine wA ik ?_|refine wS (cs:=mv) O_ K0 (Ev.mk ?_) (ho:=JJ _) (hn:=iP.out) (h1:=nR.out));apply Eo;obtain⟨gm,hgm⟩:=En w1.heap.size;rw[<-hgm] at K0⊢;generalize w1.alloc (EJ (EF (If 0)) 183)=w2 at*;have KM:=O<|K0.out.setRow mv;have b3:=E3 (g:=gm) b2 (OQ hgm.symm) mv;generalize w2.setRow gm mv=w3 at*;clear K0 b2 hgm;replace S1:=O<|S1.out.G b3;replace MM:=O<|MM.out.trans (Ex.Ew b3);clear b3;by_cases wD:lQ=0
 ·subst wD;go_wp2_with fail;obtain⟨d0,d1,d2,hd,KG,o0,o1,o2,-,-⟩:=S1.out.core.Ek;have Xm:=O<|Ox (c:=c) (gq:=gq) (gt:=gt) (hd:=hd) (JD g) o0 o1 o2 0 X;have KG:=O KG;have PL:=O<|JD g;have XO:Ea ((EK 56 g).toList.toArray=EK 56 g):=O Eh;clear o0 o1 o2;have y0: ∀y:Ext w3,(Ey w3 y).cell? ⟨gs,0,Z⟩=D (Y (D ⟨gc,0,Z⟩)):=fun y=>(S1.out.G (ED y)).IC;have y2: ∀y:Ext w3,(Ey w3 y).cell? ⟨gm,2,Z⟩=D (E I v2):=fun y=>tp.out _ _ (H.G KM.out (ED y));refine Xs Ed Ed ?_
  repeat (first
   |go_big_quiet_skip
   |(go_big_quiet_want
     first
      |(refine Zj (T:=28) (g:=gc) (off:=0) XY _ rfl rfl KG 0 rfl Xm.out PL.out ?_;(try rw[XO.out]);go_simp;go_big_quiet_on)
      |(go_big_quiet_op
        first
         |go_big_quiet_on
         |go_big_quiet_call (with_reducible refine ag (TZ g k v2 _ PI.out)))))
  refine IM ?_;intro _ hw';obtain⟨y9,rfl⟩:=hw';have Em:=ED y9;replace KM:=EQ KM Em;replace S1:=O<|S1.out.G Em;replace MM:=O<|MM.out.trans (Ex.Ew Em);clear y0 y2 Em KG Xm PL XO;generalize Ey w3 y9=w4 at*;cases htk:lJ g k v2 with
  |false=> go_wp2_with fail;refine(iw lo hi g gc gq gt gs c ns rs k 0 18 _ S1.out Ob JS).mono ?_;rintro e7 w7 ⟨rfl,s7,m7⟩;have S8:=O s7;replace MM:=O<|MM.out.trans m7;clear s7 m7;go_wp2_with fail;refine ET (U1 U _ _ _) U ?_;exact⟨U,⟨1,7,_,X,S8.out⟩,MM.out⟩
  |true=>
   go_wp2_with fail;obtain⟨A5,n5,c5,ys,qD,hyl,hy1,LF,LH,hym,wF⟩:=(S1.out.core.keys 8 X X).row;obtain⟨dd,LL,od,bg,bx⟩:=VW S1.out.core j HJ.out;have BG:=O bg;have BX:=O bx;have RY:=O wF;obtain⟨d2,cd,qF,lR⟩:=EfO dd od A5 ys n5 c5 k hyl X;have DV:Ea ((IB dd.n dd.op dd.nc).size=10):=O<|aU _ _ _ od.len;have dM:Ea ((IB d2.n d2.op d2.nc).size=10):=O<|aU _ _ _ qF.len;have qG:Ea ((IB d2.n d2.op d2.nc).all (·.oneCell')=u):=O<|qB _ _ _;have HD2:=O qF;obtain⟨dv,hdv⟩:=En (IB dd.n dd.op dd.nc);obtain⟨Ux,qH⟩:=En (IB d2.n d2.op d2.nc);rw[<-hdv] at lR DV BX;rw[<-qH] at lR dM qG;have CH:=O lR;have Cs:=DV;have wG:=O qH;obtain⟨key,hkey⟩:=En (EI A5 n5 c5);rw[<-hkey] at CH qD;have Ct:Ea (∀W,E_ lo hi g gc gq gt gs c ns rs W->W.cell? ⟨gc,8,Z⟩=D key):=O (fun W s=>by have h:W.cell? ⟨gc,8,Z⟩=(EK 56 g).toList[8]?:=s.core.cell 0 rfl 8 Eh;rw[h,show(EK 56 g).toList[8]?=D (g 8) from ky,qD]);clear od bg bx wF lR qF hdv qH hkey qD hyl hy1 LF LH hym DV htk;obtain⟨n0,hn0⟩:=En w4.heap.size;have X0:=O (show lo<=n0/\hi<=n0/\w.heap.size<=n0 from nM);refine iF (Ph:=fun p wq=>(n0<=wq.heap.size/\E_ lo hi g gc gq gt gs c ns rs wq/\Ex lo hi w wq/\(p=0->Row wq A5 ys/\JP wq/\ ∃big:Array V,H wq gc big 120/\big.extract (65+j*10) (65+j*10+10)=dv))) (Rel:=Oa) (Ij:=lP 117 10 Ux) [kp gs 0,kp gs 0,kp gs 0,kp gc 0,kq (E I k),kq (E I (k-1)),kp gc 0,kp gc 65,kq (Y (D ⟨gc,65+j*10,Z⟩)),kq (EZ dv),kp gs 0,kp gs 0,kp gs 0,kp gc 0,kp gc 0,kp gc 0,kp gc 8,kq key,kq (E I k),kq (Et #[EZ Ux,E I cd]),kq (Et #[EZ Ux,E I cd]),kq (EZ Ux),kq (E I cd),.dep (bF 117 10 n0) (fun v w w' h hr=>h.G hr) (fun v w w' h hr=>h.sz hr),.tie [23] (fun x w=> ∃b:Nat,x 23=Y (D ⟨b,0,Z⟩)/\n0<=b/\H w b Ux 117) (fun x w w' h hr=>qo) (fun x y w hq h=>by rw[hq 23 Eh] at h;exact h),kq (E I cd)] [B,B,B,B,B,B,B,B,B,B,B,B,B,B,B,B,B,B,B,B,B,B,B,B,u,B] U [[],[],[],[],[],[],[],[],[],[],[],[],[],[],[],[],[],[],[],[],[],[],[],[],[23],[]] U [24] [(0,0),(0,0),(0,0),(0,0),(0,0),(0,0),(0,0),(0,0),(0,0),(0,0),(0,0),(0,0),(0,0),(0,0),(0,0),(0,0),(0,0),(0,0),(0,0),(0,0),(0,0),(0,0),(0,1),(0,0),(0,0),(1,1)] Ed Ed Ed Ed Ed Ed U_ Ed ?hPh ?h0 ?hstep ?hend;case hPh=> intro p w2 w3 h hr;exact⟨EA h.1 (XJ hr),h.2.1.G hr,h.2.2.1.trans (Ex.Ew hr),fun hp=>by obtain⟨a1,a2,big,a3,a4⟩:=h.2.2.2 hp;exact⟨Iy a1 hr,a2.G hr,big,H.G a3 hr,a4⟩⟩
   case h0=> have hb:=Jk w4;exact⟨EA (OQ hn0) (XJ hb),S1.out.G hb,MM.out.trans (Ex.Ew hb),fun _=>⟨Iy RY.out hb,S1.out.core.roots.G hb,LL,H.G BG.out hb,BX.out⟩⟩
   case hstep=>
    refine⟨?_,?_,?_,?_,?_,?_,?_,?_,?_,?_,?_,?_,?_,?_,?_,?_,?_,?_,?_,?_,?_,?_,?_,?_,?_,?_,trivial⟩;all_goals first|intro xv wq p hlo hhi hp hd|intro xv wq hp hd
    all_goals simp only[EL,In,Ip,Ig,Ih]
    ·exact Elu
    ·exact ElN
    ·exact ElM
    ·exact Elw
    ·exact Elu
    ·exact Eot
    ·exact ElL
    ·obtain rfl:p=0:=X;exact En5
    ·exact Enq
    ·obtain rfl:p=0:=X;have d8:xv 8=Y (D ⟨gc,65+j*10,Z⟩):=hd.at 8 rfl;obtain⟨-,-,big,KB,EX⟩:=hp.2.2.2 rfl;exact aV EM XK (Ei U) ⟨U,d8⟩ KB Cs.out EX U
    ·exact Elu
    ·exact EoD
    ·exact EoC
    ·exact Enn
    ·exact EoB
    ·obtain rfl:p=0:=X;have d14:xv 14=Y (D ⟨gc,0,Z⟩):=hd.at 14 rfl;exact Es Ls U
    ·obtain rfl:p=0:=X;exact Epf
    ·obtain rfl:p=0:=X;have d16:xv 16=Y (D ⟨gc,8,Z⟩):=hd.at 16 rfl;have cc:wq.cell? ⟨gc,8,Z⟩=D (key):=Ct.out wq hp.2.1;exact Es Lt U
    ·exact Elu
    ·obtain rfl:p=0:=X;have d9:xv 9=EZ dv:=hd.at 9 rfl;have d17:xv 17=key:=hd.at 17 rfl;have d18:xv 18=E I k:=hd.at 18 rfl;refine JR (f:=121) (args:= #[xv 9,xv 17,xv 18]) (Ei U) Ez ?_;rw[d9,d17,d18];exact(CH.out wq (hp.2.2.2 rfl).1 (hp.2.2.2 rfl).2.1).mono fun e w2 h=>⟨_,h.1,h.2,U⟩
    ·obtain rfl:p=0:=X;have d19:xv 19=Et #[EZ Ux,E I cd]:=hd.at 19 rfl;exact Es (by simp[go_sem,d19]) U
    ·obtain rfl:p=0:=X;exact Epd
    ·exact Epd
    ·exact EoX
    ·have d21:xv 21=EZ Ux:=hd.at 21 rfl;obtain⟨b,c8,eA,lb,h8,kb⟩:bF 117 10 n0 (xv 23) wq:=hd.at 23 rfl;have nh:=X0.out;refine db XK (Ei U) ⟨U,eA,d21⟩ kb h8 dM.out qG.out ⟨wC dM.out,?_⟩ ⟨b,eA,lb,kb.setRow _⟩;obtain⟨n1,s1,m1,-⟩:=hp;have ho:=On (g:=b) (W:=wq) Ux;exact⟨EA n1 ho.size,s1.Cq ho kb Eb X,m1.only ho X X kb.lt,fun h=>XZ⟩
    ·obtain rfl:p=1:=X;have d22:xv 22=E I cd:=hd.at 22 rfl;exact Es (by simp[go_sem,d22]) U
   case hend=>
    intro xv W6 hp hd;simp only[EL,In,Ip,Ig,Ih];obtain⟨b,eA,lb,kb⟩: ∃b:Nat,xv 23=Y (D ⟨b,0,Z⟩)/\n0<=b/\H W6 b Ux 117:=hd 24 Eb;have a25:xv 25=E I cd:=hd 25 Eb;obtain⟨-,s6,m6,-⟩:=hp;replace S1:=O s6;replace MM:=O m6;have KB:=O kb;rw[eA,a25];clear s6 m6 kb hd eA a25 KM;by_cases hcd:cd=0
    ·subst hcd;go_wp2_with fail;have y0: ∀y:Ext W6,(Ey W6 y).cell? ⟨gs,0,Z⟩=D (Y (D ⟨gc,0,Z⟩)):=fun y=>(S1.out.G (ED y)).IC;refine J5 10 Ed Ed ?_;simp only[Ir,Im,IL,IG]
     repeat (first
      |go_big_quiet_skip
      |(go_big_quiet_want
        first
         |(refine Ub (T:=117) (g:=b) XK _ rfl rfl KB ?_ ?_;(·exact dM.out);go_simp;go_big_quiet_on)
         |(refine Cr (v:=E I (k-1)) (fun _=>tj rfl rfl rfl SB.out) ?_;go_simp;go_big_quiet_on)
         |(refine Cr (v:=Y (D ⟨gc,65+j*10,Z⟩)) (fun _=>qC rfl rfl rfl IX.out) ?_;go_simp;go_big_quiet_on)
         |(go_big_quiet_op
           first
            |go_big_quiet_on
            |go_big_quiet_call (fail))))
     refine IM ?_;intro _ hw';obtain⟨y9,rfl⟩:=hw';have Em:=ED y9;replace KB:=EQ KB Em;replace S1:=O<|S1.out.G Em;replace MM:=O<|MM.out.trans (Ex.Ew Em);clear y0 Em;generalize Ey W6 y9=w9 at*;have TH:=O<|VY S1.out.core j HJ.out;go_wp2_with ((with_reducible refine JE 117 ?_);(with_reducible refine OH U 117 _ _ U gc (65+j*10) Ux ?_ ?_ ?_ ?_ ?_ ?_);(·rfl);(·rfl);(·rw[dM.out];exact TH.out);(·rw[dM.out];exact XK.2);(·exact qG.out);refine Ev.mk ?_);apply Eo;have S4:=S1.out.V7 j HJ.out d2 HD2.out;rw[<-wG.out] at S4;obtain⟨d0,d1,d2',hd,KG,-⟩:=S1.out.core.Ek;replace KB:=O<|(Jq (g:=gc) Ux.toList (65+j*10) w9).Ek KB.out (E5 KB.out KG Eb);replace S1:=O S4.1;replace MM:=O<|MM.out.trans S4.2;clear S4 TH KG;generalize w9.setCells gc (65+j*10) Ux.toList=UD at*;have NC:Ea (Ux.extract 2 (2+8)=Ej d2.nc):=O (by rw[wG.out];exact LB _ _ _ HD2.out.len);have NS:Ea ((Ej d2.nc).size=8):=O (by rw[Om];exact HD2.out.len);have BN:=O<|EfZ d2.nc HD2.out.len;have IR:=O<|Efa 129 0 0 0 0 0 HD2.out.len HD2.out.bytes;generalize [129,0,0,0,0,0]++d2.nc=rl at*;generalize Ej d2.nc=nv at*;go_wp2_with (first|(with_reducible refine wM (off:=2) (cs:=nv) Z_ KB ?_ (hn:=NS.out) (he:=NC.out))|((with_reducible refine Is 77 ?_);refine I3 rfl 222 _ rfl (I9 rl) BN.out ?_));refine(vz lo hi g gc gq gt gs c ns rs rl k _ S1.out IR.out Ob).mono ?_;rintro e11 am ⟨rfl,s11,m11⟩;replace S1:=O s11;replace MM:=O<|MM.out.trans m11;clear s11 m11;go_wp2_with fail;refine(ZC lo hi g gc gq gt gs c (ns+1) rs 2 k 0 0 0 _ S1.out JS).mono ?_;rintro e12 Xz ⟨rfl,s12,m12⟩;have S8:=O s12;replace MM:=O<|MM.out.trans m12;clear s12 m12;go_wp2_with fail;go_end0;exact⟨U,⟨1,2,_,X,S8.out⟩,MM.out⟩
    ·have t9:(cd !=0)=u:=dF;go_wp2_with fail;refine(iw lo hi g gc gq gt gs c ns rs k 0 cd _ S1.out Ob JS).mono ?_;rintro e7 w7 ⟨rfl,s7,m7⟩;have S8:=O s7;replace MM:=O<|MM.out.trans m7;clear s7 m7;go_wp2_with fail;refine ET (U1 U _ _ _) U ?_;exact⟨U,⟨1,7,_,X,S8.out⟩,MM.out⟩
 ·have t9:(lQ !=0)=u:=by simpa using wD
  go_wp2_with fail;refine(sP lo hi g gc gq gt gs c ns rs k 13 _ S1.out JS).mono ?_;rintro e7 w7 ⟨rfl,s7,m7⟩;have S8:=O s7;replace MM:=O<|MM.out.trans m7;clear s7 m7;go_wp2_with fail;refine ET (U1 U _ _ _) U ?_;exact⟨U,⟨0,1,_,X,S8.out⟩,MM.out⟩
theorem Efd(gc:Nat)(k:Int)(j:Nat)(hk:k=(j:Int)+1)(hj:j<3)(W:M):(Instr.indexAt 24 (Y (D ⟨gc,5,Z⟩)) (E I (k-1))).run EU W= .ok (Y (D ⟨gc,5+j,Z⟩)) W:=by exact EoY
theorem Eff(T:EC)(parts:Array (Nat×UH))(ho:o.op= .build T parts)(cs:Array V)(hb:P.built T (parts.toList.map fun(i,x)=>(i,a.eval x))=D cs) (hk:K (a.put o.dst (EZ cs))):o.quiet P a (fun w'=> ∃x,w'=Ey W x) K:=by refine⟨_,fun w hw=> ?_,hk⟩;have hrun:=fun w=>run_build (P:=P) w T (parts.map fun(i,x)=>(i,a.eval x)) cs (by rw[Array.toList_map];exact hb);unfold Oper.quietAt Iw;simp only[ho,Ud,hrun,Uf,UU];obtain⟨y,rfl⟩:=hw;exact⟨U,U⟩
theorem Efg{off:Nat}{xs:List Int}(h:Row w (D ⟨b,off,Z⟩) xs):w.rangeAt b off (xs.map (E .u8)):=fun j v hv=>by
 obtain⟨h1,-⟩:=h;rcases h1 with rfl|⟨b',o',e,h3⟩;·simp at hv
 ·injection e with e;injection e with e1 e2 e3;subst e1 e2;rw[List.getElem?_map] at hv;cases hx:xs[j]? with
  |none=>rw[hx] at hv;cases hv
  |some x=> rw[hx] at hv;obtain⟨hj,ej⟩:=UG.1 hx;injection hv with hv;rw[h3 j hj,ej,<-hv]
theorem Efh{T:EP}{s r:Int}{key:List Int}{e:Ut}(h:sf T gt s r key w e w'): ∃cd T',e=Eg (E I cd)/\E2 w' gt T'/\EH gt w w'/\((cd≠0/\T'=T)\/(cd=0/\(s=1\/s=2\/s=3)/\T'=T.put (s-1).toNat (It u (max T.E9 0) r key))):=by
 unfold sf at h;obtain⟨h1,h2⟩:=h;split at h1
 ·rename_i h3;split at h1;·exact⟨19,T,h1.1,h1.2,h2,.inl ⟨Eb,rfl⟩⟩
  ·exact⟨0,_,h1.1,h1.2,h2,.inr ⟨rfl,h3.1,rfl⟩⟩
 ·exact⟨1,T,h1.1,h1.2,h2,.inl ⟨Eb,rfl⟩⟩
theorem Efi(lo hi:Nat)(g:Nat->V)(gc gq gt gs:Nat)(c:EB)(ns:Nat)(rs:List Rec)(A:Option Eu)(n cap:Nat)(xs:List Int)(k:Int)(w:M)(S:E_ lo hi g gc gq gt gs c ns rs w)(hk:1<=k/\k<=3)(hx:xs.length=n)(hnc:n<=cap)(hcap:cap<=9223372036854775807)(hr:Row w A xs)(hn:ns<800000)(hl:rs.length<800000): Ef EU 87 #[Y (D ⟨gs,0,Z⟩),E I k,EI A n cap] w fun e w'=>e=Eg (Et #[])/\(∃c' m kd cd,m<=1/\E_ lo hi g gc gq gt gs c' (ns+m) (rs++[⟨kd,k,0,c.tok.e,cd,0⟩]) w'/\(c'=c\/(kd=3/\ ∃T':EP,c'={c with T:=T'})))/\Ex lo hi w w':=by
 obtain⟨j,hj,XC⟩: ∃j:Nat,k=(j:Int)+1/\j<3:=⟨(k-1).toNat,X,X⟩;have IX:=O<|fun W=>V_ gc k j hj XC W;have SB:=O<|fun W=>sub_one k hk.1 hk.2 W;have HJ:=O XC;have HK:=O hk;have IK:=O<|fun W=>Efd gc k j hj XC W;have S1:=O S;have HN:=O hn;have HL:=O hl;have MM:=O<|Ex.refl lo hi w;have PI:=O<|fun i (h1:9<=i) (h2:i<56)=>S.core.ZJ.int i h2 (.inr X);by_cases Efj:n=10
 ·subst Efj
  obtain⟨b0,LM,rfl⟩: ∃b off,A=D ⟨b,off,Z⟩:=by
   rcases hr.1 with h|⟨b,off,e,-⟩;·rw[h] at hx;cases hx
   ·exact⟨b,off,e⟩
  have CT:=O<|fun W (h:Row W (D ⟨b0,LM,Z⟩) (xs.take 2))=>Ha (xs.take 2) (D ⟨b0,LM,Z⟩) 2 cap (by rw[aj,hx];rfl) X hcap W h;have wH:=O hr;have WI:=O hx;have HNC:=O hnc;clear S hn hl hk hj XC hx hr hcap;go_enter Tryz.func87,Tryz.ntmps87;go_wp2_with fail;refine(CT.out _ (oG wH.out 2)).mono ?_;rintro e1 w1 h1
  obtain⟨l,lQ,he,b1⟩: ∃(l:List Int) (lQ:Int),e1=Eg (Et #[EZ (EF l),E I lQ])/\El w w1:=by
   obtain⟨h1,b1⟩:=h1;cases h2:fh (xs.take 2) with
   |none=>rw[h2] at h1;exact⟨_,_,h1,b1⟩
   |some l=>rw[h2] at h1;exact⟨_,_,h1,b1⟩
  subst he;replace S1:=O<|S1.out.G b1;replace MM:=O<|Ex.Ew (lo:=lo) (hi:=hi) b1;have RR:=O<|Iy wH.out b1;obtain⟨v2,hv2⟩:=En (l.getD 2 0);have tp:Ea (∀W g,H W g (EF l) 183->W.cell? ⟨g,2,Z⟩=D (E I v2)):=O (fun W g K=>by rw[hv2];exact Za K 2 X X);have iP:=O<|JJ l;have nR:=O<|ZY l;clear h1 b1 CT wH hv2;generalize EF l=mv at*;have K0:=O<|H.new w1 (EF (If 0)) 183;have b2:=Ep w1 (EJ (EF (If 0)) 183);go_wp2_with (with_reducible first|refine wA ik ?_|refine wS (cs:=mv) O_ K0 (Ev.mk ?_) (ho:=JJ _) (hn:=iP.out) (h1:=nR.out));apply Eo;obtain⟨gm,hgm⟩:=En w1.heap.size;rw[<-hgm] at K0⊢;generalize w1.alloc (EJ (EF (If 0)) 183)=w2 at*;have KM:=O<|K0.out.setRow mv;have b3:=E3 (g:=gm) b2 (OQ hgm.symm) mv;generalize w2.setRow gm mv=w3 at*;clear K0 b2 hgm;replace S1:=O<|S1.out.G b3;replace MM:=O<|MM.out.trans (Ex.Ew b3);replace RR:=O<|Iy RR.out b3;clear b3;by_cases wD:lQ=0
  ·subst wD;have Rc:=Ra;obtain⟨pf,hpf⟩:=En (xs.drop 2);have hpl:pf.length=8:=by rw[hpf,mV,WI.out]
   have RG:=O<|Efg (np RR.out 2);have hpb:=(np RR.out 2).2;rw[<-hpf] at RG hpb;have WJ:Ea ((Ej pf).size=8):=O (by rw[Om,hpl]);have Efl:Ea ((pf.map (E .u8)).toArray=Ej pf):=O U;have ic:=O hpl;have Z1:=O hpb;clear hpf hpl hpb RR WI HNC;have K0:=O<|H.new w3 (Ej (Er 8)) 115;have b2:=Ep w3 (EJ (Ej (Er 8)) 115);go_wp2_with (first|((with_reducible refine U0 115 ?_);(with_reducible refine wpList_load_mid rfl 115 _ rfl b0 (LM+2) ?_ (pf.map (E .u8)) _ ?_ Tryz.underlying115 ?_ ?_ ?_);(·rfl);(·exact RG.out);(·rfl);(·rw[List.length_map,ic.out];kernel_rfl);rw[Efl.out])|(with_reducible refine wA pi ?_)|(with_reducible refine wS (cs:=(Ej pf)) Z_ K0 (Ev.mk ?_) (ho:=Xd) (hn:=WJ.out) (h1:=Xt _)));apply Eo;obtain⟨gp,Xj⟩:=En w3.heap.size;rw[<-Xj] at K0⊢;clear Rc RG;generalize w3.alloc (EJ (Ej (Er 8)) 115)=AQ at*;have KP:=O<|K0.out.setRow (Ej pf);have b3:=E3 (g:=gp) b2 (OQ Xj.symm) (Ej pf);generalize AQ.setRow gp (Ej pf)=w4 at*;clear K0 b2 Xj;replace KM:=EQ KM b3;replace S1:=O<|S1.out.G b3;replace MM:=O<|MM.out.trans (Ex.Ew b3);clear b3;obtain⟨A5,n5,c5,ys,qD,hyl,hy1,LF,LH,hym,wF⟩:=(S1.out.core.keys (5+j) X (by have:=HJ.out;omega)).row;obtain⟨dd,LL,od,bg,bx⟩:=VW S1.out.core j HJ.out;have BG:=O bg;have BX:=O bx;have RY:=O wF;obtain⟨d2,kv,cd,qF,hkl,hkb,lR⟩:=EfU dd od A5 ys pf n5 c5 k v2 hyl X ic.out Z1.out;have Cs:Ea ((IB dd.n dd.op dd.nc).size=10):=O<|aU _ _ _ od.len;have dM:Ea ((IB d2.n d2.op d2.nc).size=10):=O<|aU _ _ _ qF.len;have qG:Ea ((IB d2.n d2.op d2.nc).all (·.oneCell')=u):=O<|qB _ _ _;have LS:Ea ((Ej kv).size=32):=O (by rw[Om,hkl]);have KVO:=O<|Xt kv;have dh:=O hkl;have na:=O hkb;have HD2:=O qF;obtain⟨dv,hdv⟩:=En (IB dd.n dd.op dd.nc);obtain⟨Ux,qH⟩:=En (IB d2.n d2.op d2.nc);rw[<-hdv] at lR Cs BX;rw[<-qH] at lR dM qG;have CH:=O lR;have wG:=O qH;obtain⟨key,hkey⟩:=En (EI A5 n5 c5);rw[<-hkey] at CH qD;have Ct:Ea (∀W,E_ lo hi g gc gq gt gs c ns rs W->W.cell? ⟨gc,5+j,Z⟩=D key):=O (fun W s=>by have hj:=HJ.out;have h:W.cell? ⟨gc,lX 0+(5+j),Z⟩=(EK 56 g).toList[5+j]?:=s.core.cell 0 rfl (5+j) Jn;rw[show lX 0+(5+j)=5+j from JV _] at h;rw[h,show(EK 56 g).toList[5+j]?=D (g (5+j)) by simp[EK,show 5+j<56 from X],qD]);clear od bg bx wF lR qF hdv qH hkey qD hyl hy1 LF LH hym hkl hkb;obtain⟨n0,hn0⟩:=En w4.heap.size;have X0:=O (show lo<=n0/\hi<=n0/\w.heap.size<=n0 from nM);go_wp2_with fail;refine iF (Ph:=fun p wq=>(n0<=wq.heap.size/\E_ lo hi g gc gq gt gs c ns rs wq/\Ex lo hi w wq/\H wq gm mv 183/\(p=0->Row wq A5 ys/\JP wq/\H wq gp (Ej pf) 115/\ ∃big:Array V,H wq gc big 120/\big.extract (65+j*10) (65+j*10+10)=dv))) (Rel:=Oa) (Ij:=fun w w'=>lP 117 10 Ux w w'/\lP 41 32 (Ej kv) w w') [.val (fun v=>v=Y (D ⟨gs,0,Z⟩)),.val (fun v=>v=Y (D ⟨gs,0,Z⟩)),.val (fun v=>v=Y (D ⟨gs,0,Z⟩)),.val (fun v=>v=Y (D ⟨gc,0,Z⟩)),.val (fun v=>v=E I k),.val (fun v=>v=E I (k-1)),.val (fun v=>v=Y (D ⟨gc,0,Z⟩)),.val (fun v=>v=Y (D ⟨gc,65,Z⟩)),.val (fun v=>v=Y (D ⟨gc,65+j*10,Z⟩)),.val (fun v=>v=EZ dv),.val (fun v=>v=Y (D ⟨gs,0,Z⟩)),.val (fun v=>v=Y (D ⟨gs,0,Z⟩)),.val (fun v=>v=Y (D ⟨gs,0,Z⟩)),.val (fun v=>v=Y (D ⟨gc,0,Z⟩)),.val (fun v=>v=E I k),.val (fun v=>v=E I (k-1)),.val (fun v=>v=Y (D ⟨gc,0,Z⟩)),.val (fun v=>v=Y (D ⟨gc,0,Z⟩)),.val (fun v=>v=Y (D ⟨gc,5,Z⟩)),.val (fun v=>v=Y (D ⟨gc,5+j,Z⟩)),.val (fun v=>v=key),.val (fun v=>v=E I k),.val (fun v=>v=Y (D ⟨gm,2,Z⟩)),.val (fun v=>v=E I v2),.val (fun v=>v=EZ (Ej pf)),.val (fun v=>v=Et #[EZ Ux,EZ (Ej kv),E I cd]),.val (fun v=>v=Et #[EZ Ux,EZ (Ej kv),E I cd]),.val (fun v=>v=EZ Ux),.val (fun v=>v=EZ (Ej kv)),.val (fun v=>v=E I cd),.dep (bF 117 10 n0) (fun v w w' h hr=>h.G hr) (fun v w w' h hr=>h.sz hr.1),.dep (bF 41 32 n0) (fun v w w' h hr=>h.G hr) (fun v w w' h hr=>h.sz hr.2),.tied [30] (fun x w=> ∃b:Nat,x 30=Y (D ⟨b,0,Z⟩)/\n0<=b/\H w b Ux 117) (fun x w w' h hr=>qo) (fun x w w' h hr=>by obtain⟨b,h1,h2,h3⟩:=h;obtain⟨c',-,h4,h5⟩:=hr.1 b _ h3 dM.out;exact⟨b,h1,h2,h5 U▸h4⟩) (fun x y w hq h=>by rw[hq 30 Eh] at h;exact h),.tie [31] (fun x w=> ∃b:Nat,x 31=Y (D ⟨b,0,Z⟩)/\n0<=b/\H w b (Ej kv) 41) (fun x w w' h hr=>qo) (fun x y w hq h=>by rw[hq 31 Eh] at h;exact h),.val (fun v=>v=E I cd)] [B,B,B,B,B,B,B,B,B,B,B,B,B,B,B,B,B,B,B,B,B,B,B,B,B,B,B,B,B,B,B,B,B,u,B] U [[],[],[],[],[],[],[],[],[],[],[],[],[],[],[],[],[],[],[],[],[],[],[],[],[],[],[],[],[],[],[],[],[30],[31],[]] U [32,33] [(0,0),(0,0),(0,0),(0,0),(0,0),(0,0),(0,0),(0,0),(0,0),(0,0),(0,0),(0,0),(0,0),(0,0),(0,0),(0,0),(0,0),(0,0),(0,0),(0,0),(0,0),(0,0),(0,0),(0,0),(0,0),(0,0),(0,0),(0,0),(0,1),(0,2),(0,0),(0,0),(0,0),(1,1),(2,2)] Ed Ed Ed Ed Ed Ed U_ Ed ?hPh ?h0 ?hstep ?hend;case hPh=> intro p w2 w3 h hr;exact⟨EA h.1 (XJ hr),h.2.1.G hr,h.2.2.1.trans (Ex.Ew hr),H.G h.2.2.2.1 hr,fun hp=>by obtain⟨a1,a2,ap,big,a3,a4⟩:=h.2.2.2.2 hp;exact⟨Iy a1 hr,a2.G hr,H.G ap hr,big,H.G a3 hr,a4⟩⟩
   case h0=> have hb:=Jk w4;exact⟨EA (OQ hn0) (XJ hb),S1.out.G hb,MM.out.trans (Ex.Ew hb),H.G KM.out hb,fun _=>⟨Iy RY.out hb,S1.out.core.roots.G hb,H.G KP.out hb,LL,H.G BG.out hb,BX.out⟩⟩
   case hstep=>
    refine⟨?_,?_,?_,?_,?_,?_,?_,?_,?_,?_,?_,?_,?_,?_,?_,?_,?_,?_,?_,?_,?_,?_,?_,?_,?_,?_,?_,?_,?_,?_,?_,?_,?_,?_,?_,trivial⟩;all_goals first|intro xv wq p hlo hhi hp hd|intro xv wq hp hd
    all_goals simp only[EL,In,Ip,Ig,Ih]
    ·exact Elu
    ·exact ElN
    ·exact ElM
    ·exact Elw
    ·exact Elu
    ·exact Eot
    ·exact ElL
    ·obtain rfl:p=0:=X;exact En5
    ·exact Enq
    ·obtain rfl:p=0:=X;have d8:xv 8=Y (D ⟨gc,65+j*10,Z⟩):=hd.at 8 rfl;obtain⟨-,-,-,big,KB,EX⟩:=hp.2.2.2.2 rfl;exact aV EM XK (Ei U) ⟨U,d8⟩ KB Cs.out EX U
    ·exact Elu
    ·exact EoD
    ·exact EoC
    ·exact Enn
    ·exact Elu
    ·obtain rfl:p=0:=X;have d14:xv 14=E I k:=hd.at 14 rfl;exact IQ EM (Ei U) (tj U d14 U SB.out) U
    ·exact EoB
    ·obtain rfl:p=0:=X;exact Eox
    ·exact Enh
    ·obtain rfl:p=0:=X;have d18:xv 18=Y (D ⟨gc,5,Z⟩):=hd.at 18 rfl;have d15:xv 15=E I (k-1):=hd.at 15 rfl;exact IQ EM (Ei U) (qC U d18 d15 IK.out) U
    ·obtain rfl:p=0:=X;have d19:xv 19=Y (D ⟨gc,5+j,Z⟩):=hd.at 19 rfl;have cc:wq.cell? ⟨gc,5+j,Z⟩=D (key):=Ct.out wq hp.2.1;exact Es Ch U
    ·exact Elu
    ·exact Elu
    ·obtain rfl:p=0:=X;have d22:xv 22=Y (D ⟨gm,2,Z⟩):=hd.at 22 rfl;have cc:wq.cell? ⟨gm,2,Z⟩=D (E I v2):=tp.out _ _ hp.2.2.2.1;exact Es Lv U
    ·obtain rfl:p=0:=X;exact mH EM Z_ (Ei U) ⟨U,U⟩ ((hp.2.2.2.2 rfl).2.2.1) WJ.out U
    ·obtain rfl:p=0:=X;have d9:xv 9=EZ dv:=hd.at 9 rfl;have d20:xv 20=key:=hd.at 20 rfl;have d21:xv 21=E I k:=hd.at 21 rfl;have d23:xv 23=E I v2:=hd.at 23 rfl;have d24:xv 24=EZ (Ej pf):=hd.at 24 rfl;refine JR (f:=123) (args:= #[xv 9,xv 20,xv 21,xv 23,xv 24]) (Ei U) Ez ?_;rw[d9,d20,d21,d23,d24];exact(CH.out wq (hp.2.2.2.2 rfl).1 (hp.2.2.2.2 rfl).2.1).mono fun e w2 h=>⟨_,h.1,h.2,U⟩
    ·obtain rfl:p=0:=X;have d25:xv 25=Et #[EZ Ux,EZ (Ej kv),E I cd]:=hd.at 25 rfl;exact Es (by simp[go_sem,d25]) U
    ·obtain rfl:p=0:=X;exact Enw
    ·exact Enw
    ·exact Enw
    ·exact EoX
    ·obtain rfl:p=0:=X;exact Zq (Ei U) (aY _ _ _ U) (Ep wq _) ⟨wq.heap.size,_,U,hp.1,U,H.new _ _ _⟩
    ·have d27:xv 27=EZ Ux:=hd.at 27 rfl;obtain⟨b,c8,eA,lb,h8,kb⟩:bF 117 10 n0 (xv 30) wq:=hd.at 30 rfl;have nh:=X0.out;refine db XK (Ei U) ⟨U,eA,d27⟩ kb h8 dM.out qG.out ⟨⟨wC dM.out,VV kb Eb⟩,?_⟩ ⟨b,eA,lb,kb.setRow _⟩;obtain⟨n1,s1,m1,km,-⟩:=hp;have ho:=On (g:=b) (W:=wq) Ux;exact Eod
    ·have d28:xv 28=EZ (Ej kv):=hd.at 28 rfl;obtain⟨b,c8,eA,lb,h8,kb⟩:bF 41 32 n0 (xv 31) wq:=hd.at 31 rfl;have nh:=X0.out;refine db J7 (Ei U) ⟨U,eA,d28⟩ kb h8 LS.out KVO.out ⟨⟨VV kb Eb,wC LS.out⟩,?_⟩ ⟨b,eA,lb,kb.setRow _⟩;obtain⟨n1,s1,m1,km,-⟩:=hp;have ho:=On (g:=b) (W:=wq) (Ej kv);exact Eod
    ·obtain rfl:p=2:=X;have d29:xv 29=E I cd:=hd.at 29 rfl;exact Es (by simp[go_sem,d29]) U
   case hend=>
    intro xv W6 hp hd;simp only[EL,In,Ip,Ig,Ih];obtain⟨b,eA,lb,kb⟩: ∃b:Nat,xv 30=Y (D ⟨b,0,Z⟩)/\n0<=b/\H W6 b Ux 117:=hd 32 Eb;obtain⟨bk,eK,lk,kk⟩: ∃b:Nat,xv 31=Y (D ⟨b,0,Z⟩)/\n0<=b/\H W6 b (Ej kv) 41:=hd 33 Eb;have a34:xv 34=E I cd:=hd 34 Eb;obtain⟨-,s6,m6,dL,-⟩:=hp;replace S1:=O s6;replace MM:=O m6;replace KM:=O dL;have KB:=O kb;have KK:=O kk;rw[eA,eK,a34];clear s6 m6 dL kb kk hd eA eK a34 KP BG BX RY CH Ct;go_wp2_with fail;have y0: ∀y:Ext W6,(Ey W6 y).cell? ⟨gs,0,Z⟩=D (Y (D ⟨gc,0,Z⟩)):=fun y=>(S1.out.G (ED y)).IC;refine J5 10 Ed Ed ?_;simp only[Ir,Im,IL,IG]
    repeat (first
     |go_big_quiet_skip
     |(go_big_quiet_want
       first
        |(refine Ub (T:=117) (g:=b) XK _ rfl rfl KB ?_ ?_;(·exact dM.out);go_simp;go_big_quiet_on)
        |(refine Cr (v:=E I (k-1)) (fun _=>tj rfl rfl rfl SB.out) ?_;go_simp;go_big_quiet_on)
        |(refine Cr (v:=Y (D ⟨gc,65+j*10,Z⟩)) (fun _=>qC rfl rfl rfl IX.out) ?_;go_simp;go_big_quiet_on)
        |(go_big_quiet_op
          first
           |go_big_quiet_on
           |go_big_quiet_call (fail))))
    refine IM ?_;intro _ hw';obtain⟨y9,rfl⟩:=hw';have Em:=ED y9;replace KB:=EQ KB Em;replace KK:=EQ KK Em;replace KM:=EQ KM Em;replace S1:=O<|S1.out.G Em;replace MM:=O<|MM.out.trans (Ex.Ew Em);clear y0 Em;generalize Ey W6 y9=w9 at*;have TH:=O<|VY S1.out.core j HJ.out;go_wp2_with ((with_reducible refine JE 117 ?_);(with_reducible refine OH U 117 _ _ U gc (65+j*10) Ux ?_ ?_ ?_ ?_ ?_ ?_);(·rfl);(·rfl);(·rw[dM.out];exact TH.out);(·rw[dM.out];exact XK.2);(·exact qG.out);refine Ev.mk ?_);apply Eo;have S4:=S1.out.V7 j HJ.out d2 HD2.out;rw[<-wG.out] at S4;obtain⟨d0,d1,d2',hd,KG,-⟩:=S1.out.core.Ek;have nS:=Jq (g:=gc) Ux.toList (65+j*10) w9;replace KK:=O<|nS.Ek KK.out (E5 KK.out KG Eb);replace KM:=O<|nS.Ek KM.out (E5 KM.out KG Eb);replace S1:=O S4.1;replace MM:=O<|MM.out.trans S4.2;clear S4 TH KG KB nS;generalize w9.setCells gc (65+j*10) Ux.toList=UD at*;by_cases nC:cd=17;·subst nC;go_wp2_with fail;refine(iw lo hi g gc gq gt gs c ns rs k 0 17 _ S1.out Ob JS).mono ?_;exact EmY
    ·have t17:(cd==17)=B:=by simpa using nC
     by_cases hcd:cd=0
     ·subst hcd;clear nC;go_wp2_with fail;obtain⟨d0,d1,d2,hd,KG,o0,o1,o2,-,-⟩:=S1.out.core.Ek;have Xm:=O<|Ox (c:=c) (gq:=gq) (gt:=gt) (hd:=hd) (JD g) o0 o1 o2 0 X;have KG:=O KG;have PL:=O<|JD g;have XO:Ea ((EK 56 g).toList.toArray=EK 56 g):=O Eh;clear o0 o1 o2;have y0: ∀y:Ext UD,(Ey UD y).cell? ⟨gs,0,Z⟩=D (Y (D ⟨gc,0,Z⟩)):=fun y=>(S1.out.G (ED y)).IC;have y2: ∀y:Ext UD,(Ey UD y).cell? ⟨gm,2,Z⟩=D (E I v2):=fun y=>tp.out _ _ (H.G KM.out (ED y));refine Xs Ed Ed ?_
      repeat (first
       |go_big_quiet_skip
       |(go_big_quiet_want
         first
          |(refine Zj (T:=28) (g:=gc) (off:=0) XY _ rfl rfl KG 0 rfl Xm.out PL.out ?_;(try rw[XO.out]);go_simp;go_big_quiet_on)
          |(go_big_quiet_op
            first
             |go_big_quiet_on
             |go_big_quiet_call (with_reducible refine ag (TZ g k v2 _ PI.out)))))
      refine IM ?_;intro _ hw';obtain⟨y9,rfl⟩:=hw';have Em:=ED y9;replace KM:=EQ KM Em;replace S1:=O<|S1.out.G Em;replace MM:=O<|MM.out.trans (Ex.Ew Em);replace KK:=EQ KK Em;clear y0 y2 Em KG Xm PL XO;generalize Ey UD y9=am at*;cases htk:lJ g k v2 with
      |false=> go_wp2_with fail;refine(iw lo hi g gc gq gt gs c ns rs k 0 18 _ S1.out Ob JS).mono ?_;rintro e7 w7 ⟨rfl,s7,m7⟩;have S8:=O s7;replace MM:=O<|MM.out.trans m7;clear s7 m7;go_wp2_with fail;refine ET (U1 U _ _ _) U ?_;exact⟨U,⟨c,1,7,_,X,S8.out,.inl U⟩,MM.out⟩
      |true=>
       go_wp2_with fail;clear htk t17;have y0: ∀y:Ext am,(Ey am y).cell? ⟨gs,0,Z⟩=D (Y (D ⟨gc,0,Z⟩)):=fun y=>(S1.out.G (ED y)).IC;have y95: ∀y:Ext am,(Ey am y).cell? ⟨gc,95,Z⟩=D (Y (D ⟨gt,0,Z⟩)):=fun y=>(S1.out.G (ED y)).core.cell 6 rfl 0 Eh;have y2: ∀y:Ext am,(Ey am y).cell? ⟨gm,2,Z⟩=D (E I v2):=fun y=>tp.out _ _ (H.G KM.out (ED y));refine J5 11 Ed Ed ?_;simp only[Ir,Im,IL,IG]
       repeat (first
        |go_big_quiet_skip
        |(go_big_quiet_want
          first
           |(refine Ub (T:=41) (g:=bk) J7 _ rfl rfl KK ?_ ?_;(·exact LS.out);go_simp;go_big_quiet_on)
           |(go_big_quiet_op
             first
              |go_big_quiet_on
              |go_big_quiet_call (fail))))
       refine IM ?_;intro _ hw';obtain⟨y9,rfl⟩:=hw';have Em:=ED y9;replace KM:=EQ KM Em;replace S1:=O<|S1.out.G Em;replace MM:=O<|MM.out.trans (Ex.Ew Em);clear y0 y95 y2 Em KK;generalize Ey am y9=Xz at*;go_wp2_with fail;refine(EXc gt c.T k v2 kv _ S1.out.core.tab S1.out.core.ok.T dh.out).mono ?_;intro e13 Jx iu;obtain⟨LY,T',rfl,kt,ot,hT⟩:=Efh iu
       have hok:T'.ok/\T'.Xg:=by
        rcases hT with⟨-,rfl⟩|⟨-,-,rfl⟩;·exact⟨S1.out.core.ok.T,S1.out.core.ok.E9⟩
        ·exact⟨S1.out.core.ok.T.put _ (EU6 _ _ _ _ dh.out na.out),S1.out.core.ok.E9.put _ (TM.start S1.out.core.ok.E9)⟩
       have hS:=S1.out.wj ot T' kt (S1.out.core.ok.wi hok.1 hok.2);replace KM:=O<|ot.Ek KM.out (E5 KM.out S1.out.core.tab Eb);replace S1:=O hS.1;replace MM:=O<|MM.out.trans hS.2;have HT:=O hT;clear iu kt ot hT hok hS;by_cases hc3:LY=0
       ·subst hc3;go_wp2_with fail;have y0: ∀y:Ext Jx,(Ey Jx y).cell? ⟨gs,0,Z⟩=D (Y (D ⟨gc,0,Z⟩)):=fun y=>(S1.out.G (ED y)).IC;have y2: ∀y:Ext Jx,(Ey Jx y).cell? ⟨gm,2,Z⟩=D (E I v2):=fun y=>tp.out _ _ (H.G KM.out (ED y));obtain⟨hh,jQ⟩:=En c.tok.h;obtain⟨ee,hee⟩:=En c.tok.e;have Cu: ∀y:Ext Jx,(Ey Jx y).cell? ⟨gc,56,Z⟩=D (E I hh):=fun y=>by rw[jQ];exact(S1.out.G (ED y)).core.cell 1 rfl 0 XV
        have y57: ∀y:Ext Jx,(Ey Jx y).cell? ⟨gc,57,Z⟩=D (E I ee):=fun y=>by rw[hee];exact(S1.out.G (ED y)).core.cell 1 rfl 1 XV
        replace jQ:=O jQ;replace hee:=O hee;have BR:Tryz.prog.built 222 [(0,E I 130),(2,E I v2),(3,E I hh),(4,E I ee)]=D (I9 [130,0,v2,hh,ee,0,0,0,0,0,0,0,0,0]):=Ed;refine J5 21 Ed Ed ?_;simp only[Ir,Im,IL,IG]
        repeat (first
         |go_big_quiet_skip
         |(go_big_quiet_want
           first
            |(refine Eff 222 _ rfl _ BR ?_;go_simp;go_big_quiet_on)
            |(go_big_quiet_op
              first
               |go_big_quiet_on
               |go_big_quiet_call (fail))))
        refine IM ?_;intro _ hw';obtain⟨y9,rfl⟩:=hw';have Em:=ED y9;replace S1:=O<|S1.out.G Em;replace MM:=O<|MM.out.trans (Ex.Ew Em);clear y0 y2 Cu y57 Em KM BR;generalize Ey Jx y9=cW at*;go_wp2_with fail;refine(vz lo hi g gc gq gt gs _ ns rs [130,0,v2,hh,ee,0,0,0,0,0,0,0,0,0] k _ S1.out (pW _ _ _ _ _ _) Ob).mono ?_;rintro e15 L0 ⟨rfl,s15,m15⟩;replace S1:=O s15;replace MM:=O<|MM.out.trans m15;clear s15 m15;go_wp2_with fail;refine(ZC lo hi g gc gq gt gs _ (ns+1) rs 3 k 0 0 0 _ S1.out JS).mono ?_;rintro e16 w16 ⟨rfl,s16,m16⟩;have S8:=O s16;replace MM:=O<|MM.out.trans m16;clear s16 m16;go_wp2_with fail;go_end0;exact⟨U,⟨_,1,3,_,X,S8.out,.inr ⟨U,T',U⟩⟩,MM.out⟩
       ·have t9:(LY !=0)=u:=by simpa using hc3
        have eT:T'=c.T:=by
         rcases HT.out with⟨-,h⟩|⟨h,-⟩;·exact h
         ·exact absurd h hc3
        subst eT;go_wp2_with fail;refine(iw lo hi g gc gq gt gs c ns rs k 0 LY _ S1.out Ob JS).mono ?_;exact EmY
     ·have t9:(cd !=0)=u:=dF;go_wp2_with fail;refine(sP lo hi g gc gq gt gs c ns rs k cd _ S1.out JS).mono ?_;exact EmO
  ·have t9:(lQ !=0)=u:=by simpa using wD
   go_wp2_with fail;exact Ep8
 ·have t9:((n:Int) !=10)=u:=Jn;clear S hk hj XC hx hr hcap hnc hn hl;go_enter Tryz.func87,Tryz.ntmps87;go_wp2_with fail;exact Ep8
def qK(g:Nat->V)(k:Int)(l:List Int)(c c':EB)(new:List Rec):Prop:=
 (c'=c/\new=[])
 \/(∃L',UQ L' c.q/\c'={c with T:=c.T.lA k,tok:=(c.tok.drop k).1,q:=L'}/\new=(if(c.tok.drop k).2 then [⟨12,k,0,c.tok.e,16,0⟩] else [])++[⟨4,k,l.getD 1 0,(c.tok.drop k).1.e,0,0⟩])
 \/(∃L' t2 hw,t2.ok/\t2.e=c.tok.e+1/\t2.o= -1/\c'={c with tok:=t2,q:=L'}/\new=[⟨8,t2.h,l.getD 1 0,t2.e,0,hw⟩])
 \/(∃L' kd cd,(kd=7\/kd=10)/\c'={c with q:=L'}/\new=[⟨kd,k,l.getD 1 0,c.tok.e,cd,0⟩])
 \/(0<=c.tok.o/\c.tok.o=k/\c'={c with tok:=c.tok.end_}/\new=[⟨11,k,l.getD 1 0,c.tok.e,0,0⟩])
 \/(k=c.tok.h/\c.tok.o<0/\c'={c with tok:={c.tok with o:=l.getD 3 0,oa:=0,om:=max (pn g 44) 0}}/\new=[⟨9,k,l.getD 1 0,c.tok.e,0,l.getD 3 0⟩])
 \/(new=[⟨6,k,l.getD 1 0,c.tok.e,0,0⟩]/\(c'={c with mode:=l.getD 5 0,Em:=⟨1,k,l.getD 1 0⟩}\/ ∃p:Pt,p.b=⟨1,k,l.getD 1 0⟩/\c'={c with pt:=p}))
def nT(g:Nat->V)(k code:Int)(xs:List Int)(c c':EB)(m:Nat)(new:List Rec):Prop:=
 (∃cd,c'=c/\m=0/\new=[⟨1,k,0,c.tok.e,cd,0⟩]/\(code≠0\/jN xs 1=u\/jN xs 2=u\/(c.T.take k xs).code≠0))
 \/(code=0/\(jN xs 1=u\/jN xs 2=u)/\ ∃kd cd,new=[⟨kd,k,0,c.tok.e,cd,0⟩]/\(c'=c\/(kd=3/\ ∃T':EP,c'={c with T:=T'})))
 \/(code=0/\jN xs 1=B/\jN xs 2=B/\(c.T.take k xs).code=0/\qK g k (c.T.take k xs).msg {c with T:=(c.T.take k xs).tab} c' new)
def WU(lo hi:Nat)(g:Nat->V)(gc gq gt gs:Nat)(k:Int)(l:List Int)(f:FuncId):Prop:=
 jj f/\(∀(W:M) (gg:Nat),W.heap[gg]?=D (.map (Xn gs 9) 9)->(gL 188 (.map (D gg)) (E I (l.getD 0 0)) u).run EU W= .ok (Et #[.func (.func f) #[Y (D ⟨gs,0,Z⟩)] #[],Ec u]) W)
 /\ ∀(c:EB) (ns:Nat) (rs:List Rec) (w:M),E_ lo hi g gc gq gt gs c ns rs w->ns<800000->rs.length<800000->
  Ef EU f #[Y (D ⟨gs,0,Z⟩),E I k,EZ (EF l)] w fun e w'=>e=Eg (Et #[])/\(∃c' m new,m<=3/\E_ lo hi g gc gq gt gs c' (ns+m) (rs++new) w'/\qK g k l c c' new)/\Ex lo hi w w'
theorem Efo(lo hi:Nat)(g:Nat->V)(gc gq gt gs:Nat)(k:Int)(hk:1<=k/\k<=3)(l:List Int)(hm:wz l)(h3:3<=l.getD 0 0)(h11:l.getD 0 0<=11): ∃f,WU lo hi g gc gq gt gs k l f:=by
 have hc:l.getD 0 0=3\/l.getD 0 0=4\/l.getD 0 0=5\/l.getD 0 0=6\/l.getD 0 0=7\/l.getD 0 0=8\/l.getD 0 0=9\/l.getD 0 0=10\/l.getD 0 0=11:=X
 have cmd: ∀(c:EB) (ns:Nat) (rs:List Rec) (w:M),E_ lo hi g gc gq gt gs c ns rs w->ns<800000->rs.length<800000->
  Ef EU 135 #[Y (D ⟨gs,0,Z⟩),E I k,EZ (EF l)] w fun e w'=>e=Eg (Et #[])/\(∃c' m new,m<=3/\E_ lo hi g gc gq gt gs c' (ns+m) (rs++new) w'/\qK g k l c c' new)/\Ex lo hi w w':=fun c ns rs w S hn hl=>by
  refine(EdG lo hi g gc gq gt gs c ns rs l k w S hk hm hn hl).mono ?_
  rintro e w' ⟨he,⟨c',m,new,h1,h2,h3⟩,mm⟩
  refine⟨he,⟨c',m,new,h1,h2,?_⟩,mm⟩
  rcases h3 with⟨cd,rfl,rfl⟩|⟨hn,h4⟩
  ·exact .inr (.inr (.inr (.inl ⟨_,7,cd,.inl U,U,U⟩)))
  ·exact .inr (.inr (.inr (.inr (.inr (.inr ⟨hn,h4⟩)))))
 rcases hc with h|h|h|h|h|h|h|h|h;·refine⟨128,fun _ _=>Ed,fun W gg hg=>by rw[h];exact EdR hg,fun c ns rs w S hn hl=> ?_⟩;refine(Edk lo hi g gc gq gt gs c ns rs l k w S hn hl).mono ?_;rintro e w' ⟨he,s,mm⟩;refine⟨he,⟨c,1,[],X,by rw[fc];exact s,.inl ⟨U,U⟩⟩,mm⟩
 ·refine⟨129,fun _ _=>Ed,fun W gg hg=>by rw[h];exact EdS hg,fun c ns rs w S hn hl=> ?_⟩;refine(Edl lo hi g gc gq gt gs c ns rs l k w S hn hl).mono ?_;rintro e w' ⟨he,⟨L',m,h1,h2,s⟩,mm⟩;refine⟨he,⟨_,m,_,h1,by rw[<-U9];exact s,.inr (.inl ⟨L',h2,U,U⟩)⟩,mm⟩
 ·refine⟨130,fun _ _=>Ed,fun W gg hg=>by rw[h];exact EdT hg,fun c ns rs w S hn hl=> ?_⟩;refine(Edt lo hi g gc gq gt gs c ns rs l k w S hk hn hl).mono ?_;rintro e w' ⟨he,⟨c',m,new,h1,s,L',h2⟩,mm⟩;refine⟨he,⟨c',m,new,h1,s,?_⟩,mm⟩;rcases h2 with⟨cd,rfl,rfl⟩|⟨t2,a1,a2,a3,rfl,rfl⟩|⟨rfl,rfl⟩;·exact .inr (.inr (.inr (.inl ⟨L',7,cd,.inl U,U,U⟩)))
  ·exact .inr (.inr (.inl ⟨L',t2,3,a1,a2,a3,U,U⟩))
  ·exact .inr (.inr (.inr (.inl ⟨L',10,0,.inr U,U,U⟩)))
 ·refine⟨131,fun _ _=>Ed,fun W gg hg=>by rw[h];exact EdV hg,fun c ns rs w S hn hl=> ?_⟩;refine(EdA lo hi g gc gq gt gs c ns rs l k w S hk hn hl).mono ?_;rintro e w' ⟨he,⟨c',m,new,h1,s,h2⟩,mm⟩;refine⟨he,⟨c',m,new,h1,s,?_⟩,mm⟩;rcases h2 with⟨cd,rfl,rfl⟩|⟨po,a1,a2,a3,rfl,rfl⟩;·exact .inr (.inr (.inr (.inl ⟨_,7,cd,.inl U,U,U⟩)))
  ·refine .inr (.inr (.inr (.inr (.inr (.inl ⟨a2,a3,?_,U⟩)))));have e:pn g 44=po:=by unfold pn;rw[a1];rfl
   rw[e]
 ·refine⟨132,fun _ _=>Ed,fun W gg hg=>by rw[h];exact EdW hg,fun c ns rs w S hn hl=> ?_⟩;refine(Edp lo hi g gc gq gt gs c ns rs l k w S hn hl).mono ?_;rintro e w' ⟨he,⟨c',m,new,h1,s,h2⟩,mm⟩;refine⟨he,⟨c',m,new,h1,s,?_⟩,mm⟩;rcases h2 with⟨cd,rfl,rfl⟩|⟨t2,L',a1,-,rfl,rfl⟩;·exact .inr (.inr (.inr (.inl ⟨_,7,cd,.inl U,U,U⟩)))
  ·obtain⟨b1,b2,-,b3⟩:=gK S.core.ok.tok a1;exact .inr (.inr (.inl ⟨L',t2,1,b1,b2,b3,U,U⟩))
 ·refine⟨133,fun _ _=>Ed,fun W gg hg=>by rw[h];exact EdY hg,fun c ns rs w S hn hl=> ?_⟩;refine(Edy lo hi g gc gq gt gs c ns rs l k w S hn hl).mono ?_;rintro e w' ⟨he,⟨c',m,new,h1,s,h2⟩,mm⟩;refine⟨he,⟨c',m,new,h1,s,?_⟩,mm⟩;rcases h2 with⟨cd,rfl,rfl⟩|⟨a1,a2,rfl,rfl⟩;·exact .inr (.inr (.inr (.inl ⟨_,7,cd,.inl U,U,U⟩)))
  ·exact .inr (.inr (.inr (.inr (.inl ⟨a1,a2,U,U⟩))))
 ·refine⟨134,fun _ _=>Ed,fun W gg hg=>by rw[h];exact Ed0 hg,fun c ns rs w S hn hl=> ?_⟩;refine(Edq lo hi g gc gq gt gs c ns rs l k w S hn hl).mono ?_;rintro e w' ⟨he,⟨c',m,new,h1,s,L',h2⟩,mm⟩;refine⟨he,⟨c',m,new,h1,s,?_⟩,mm⟩;rcases h2 with⟨cd,rfl,rfl⟩|⟨t2,a1,a2,a3,rfl,rfl⟩;·exact .inr (.inr (.inr (.inl ⟨L',7,cd,.inl U,U,U⟩)))
  ·exact .inr (.inr (.inl ⟨L',t2,2,a1,a2,a3,U,U⟩))
 ·exact⟨135,fun _ _=>Ed,fun W gg hg=>by rw[h];exact Ed1 hg,cmd⟩
 ·exact⟨135,fun _ _=>Ed,fun W gg hg=>by rw[h];exact Ed2 hg,cmd⟩
theorem Efp(T:EP)(i:Nat)(bs:List Int)(h:(bX T i bs).code≠0):(bX T i bs).tab=T:=by
 unfold bX at*;split;·rfl
 ·rename_i l hl;rw[hl] at h;simp only at h;split;·rfl
  ·rename_i h2;rw[if_neg h2] at h;split;·rename_i h3;rw[if_pos h3] at h;exact absurd rfl h
   ·rfl
theorem Efq(T:EP)(k:Int)(xs:List Int)(h:(T.take k xs).code≠0):(T.take k xs).tab=T:=by
 unfold EP.take at*;split
 ·rename_i h1;rw[if_pos h1] at h;split;·rename_i h2;rw[if_pos h2] at h;exact Efp T _ _ h
  ·rfl
 ·rfl
theorem Efr{T:EP}(h:T.ok)(ht:T.Xg)(i:Nat)(bs:List Int)(hb: ∀x∈bs,0<=x/\x<=255):(bX T i bs).tab.ok/\(bX T i bs).tab.Xg/\((bX T i bs).code=0->wz (bX T i bs).msg/\3<=(bX T i bs).msg.getD 0 0/\(bX T i bs).msg.getD 0 0<=11):=by
 unfold bX;split;·exact Epn
 ·rename_i l hl;split;·exact⟨h,ht,fun h=>XZ⟩
  ·rename_i hk;split;·have hq:=Sj hb hl;have hkk:=(EZp (Hb hb hl).1).2;refine⟨h.put i ⟨(h.EY i).len,(h.EY i).bytes,Sm (h.EY i).win X⟩,ht.put i (TM.start ht),fun _=>⟨EdP hb hl,?_,hkk.2⟩⟩;show 3<=l.getD 0 0;omega
   ·exact Epn
theorem Efs{T:EP}(h:T.ok)(ht:T.Xg)(k:Int)(xs:List Int)(hb: ∀x∈xs,0<=x/\x<=255):(T.take k xs).tab.ok/\(T.take k xs).tab.Xg/\((T.take k xs).code=0->wz (T.take k xs).msg/\3<=(T.take k xs).msg.getD 0 0/\(T.take k xs).msg.getD 0 0<=11):=by
 unfold EP.take;split
 ·split;·exact Efr h ht _ _ (fun x hx=>hb x (fK hx))
  ·exact Epn
 ·exact Epn
end Go.Proofs.YtclmichaaiohjaaGreatDoor
