import Derived.Test.YtclmichaaiohjaaGreatDoorR09
import Derived.Lib.Walk
set_option maxRecDepth 100000
set_option linter.unusedVariables false
set_option linter.unusedSimpArgs false
set_option maxHeartbeats 6400000
namespace Go.Proofs.YtclmichaaiohjaaGreatDoor
open RowKit
open _root_.Array renaming getElem?_eq_some_iff->Jt
open Bool renaming true->u,false->B
open Go renaming World->M,Calls->Ef,TypeId->EC,Value->V,Addr->Eu,Program->Js,bodyPost_ret->ET,Oper->EN,yielded->Jd,execOp->Iw,wpList->IZ,Operand->UH,info_parts->bQ,below_setRow->E3,wpQuiet_nil->IM,callFunc->Jj,wp_loop_rounds->O9,rounds_succ->Ic,results_none->U1,wpList_store_mid->OH
open Act renaming put->In
open Ending renaming returned->Eg
open Instr renaming index->JY,lookup->gL
open IntKind renaming i64->I
open Lib renaming hid->O
open Obj renaming cells->EJ
open Go.Proofs.Tryz renaming prog->EU
open Region renaming wanted->I_
open Result renaming andThen_ok->Uf
open RowKit renaming Below->Io,Hid->Ea,intOf->Iv
open RowKit.Below renaming refl->IE,alloc->JH,setCell->JK,size->XJ
open Sem renaming run_bind->Ud,run_pure->UU
open Value renaming bool->Ec,int->E,agg->EZ,slice->EI,tuple->Et,pointer->Y,oneCell'->OC
open World renaming alloc->UN,ownsRow_nil->cJ,cell?->jx,ownsRow->cK
open Int renaming le_refl->ZB
open List renaming getElem?_eq_getElem->Ok,drop_eq_getElem_cons->kJ,getElem?_eq_some_iff->UG,take_append_drop->hU,take_succ_cons->Ir,length_take->aj,getElem?_take_of_lt->bN,take_zero->Im,mem_map->da,getElem?_toArray->Og,setIfInBounds_toArray->Ip,length_append->I2,append_assoc->U9,set_cons_succ->Ig,set_cons_zero->Ih,mem_append->XP,map_append->ku,drop_succ_cons->IL,drop_zero->IG,append_nil->fc,mem_append_left->jF,mem_singleton->ft
open Nat renaming le_trans->EA,le_refl->E7,add_assoc->js,le_of_eq->OQ
open Option renaming some->D,none->Z
open KQ
variable{T:EP}{x m:Int}{w W:M}{g n base i:Nat}{c c':EB}{t t2 t' t1:EG}{A:Option Eu}{new:List Rec}
theorem Eft{P:Js}{F:UH->V}{o:EN}{T:EC}{x y:UH}{b:Bool}{Y3 v r:V}(ho:o.op= .lookup T x y b)(hx:F x=Y3)(hy:F y=v)(h:(gL T Y3 v b).run P w= .ok r w):(Iw F o).run P w= .ok (.value r) w:=by unfold Iw;simp only[ho,hx,hy,Ud,h,Uf,UU]
theorem Efu{w':M}{o:Obj}(h:w.heap[g]?=D o)(hb:El w w'):w'.heap[g]?=D o:=(hb.block g (Jt.1 h).1).trans h
theorem Efv(lo hi:Nat)(g:Nat->V)(gc gq gt gs:Nat)(c:EB)(ns:Nat)(rs:List Rec)(code:Int)(A:Option Eu)(n cap:Nat)(xs:List Int)(k:Int)(w:M)(S:E_ lo hi g gc gq gt gs c ns rs w)(hk:1<=k/\k<=3)(hx:xs.length=n)(hnc:n<=cap)(hcap:cap<=9223372036854775807)(wK:n<=1000)(hr:Row w A xs)(hn:ns<800000)(hl:rs.length<800000): Ef EU 71 #[Y (D ⟨gs,0,Z⟩),E I k,EZ #[E I code,EI A n cap]] w fun e w'=>e=Eg (Et #[])/\(∃c' m new,m<=3/\E_ lo hi g gc gq gt gs c' (ns+m) (rs++new) w'/\nT g k code xs c c' m new)/\Ex lo hi w w':=by
 have HN:=O hn;have HL:=O hl;have WX:=O<|fun W (s:E_ lo hi g gc gq gt gs c ns rs W) (h:Row W A xs)=>Efb lo hi g gc gq gt gs c ns rs A n cap xs k W s hk hx hnc hcap h hn hl;have WZ:=O<|fun W (s:E_ lo hi g gc gq gt gs c ns rs W) (h:Row W A xs)=>Efi lo hi g gc gq gt gs c ns rs A n cap xs k W s hk hx hnc hcap h hn hl;have CB:=O<|fun W (h:Row W A xs) b=>EdN A xs n cap b W hx h X;have Wa:=fun W K (h:Row W A xs) R=>EZT gt c.T k xs A n cap W K S.core.ok.T hx hnc hcap wK h R;have hti:=Efs S.core.ok.T S.core.ok.E9 k xs hr.2;obtain⟨T',hT'⟩:=En ((c.T.take k xs).tab);obtain⟨l,hl'⟩:=En ((c.T.take k xs).msg);obtain⟨cd,qL⟩:=En ((c.T.take k xs).code);obtain⟨mv,hmv⟩:=En (EF l);have tr:Ea (cd=0-> ∃f,WU lo hi g gc gq gt gs k l f):=O (fun h=>by rw[qL] at h;have h2:=hti.2.2 h;rw[hl'];exact Efo lo hi g gc gq gt gs k hk _ h2.1 h2.2.1 h2.2.2);have HT:Ea (T'.ok/\T'.Xg):=O (by rw[hT'];exact⟨hti.1,hti.2.1⟩);have CT:Ea (∀W,E2 W gt c.T->Row W A xs->JP W->Ef EU 88 #[Y (D ⟨gt,0,Z⟩),E I k,EI A n cap] W fun e w'=>e=Eg (Et #[EZ mv,E I cd])/\E2 w' gt T'/\EH gt W w'):=O (fun W K h R=>by rw[hmv,hl',qL,hT'];exact Wa W K h R);have iP:Ea (mv.size=12):=O (by rw[hmv];exact JJ l);have nR:Ea (mv.all (·.oneCell')=u):=O (by rw[hmv];exact ZY l);obtain⟨v0,hv0⟩:=En (l.getD 0 0);have Cl:Ea (∀W g,H W g mv 183->W.cell? ⟨g,0,Z⟩=D (E I v0)):=O (fun W g K=>by rw[hv0];rw[hmv] at K;exact Za K 0 X X);replace hT':=O hT';replace hl':=O hl';replace qL:=O qL;replace hmv:=O hmv;replace hv0:=O hv0;have S0:=O S;have R0:=O hr;have KI:=O<|H.new w #[E I code,EI A n cap] 74;have b1:=Ep w (EJ #[E I code,EI A n cap] 74);have S1:=O<|S0.out.G b1;have MM:=O<|Ex.Ew (lo:=lo) (hi:=hi) b1;have RW:=O<|Iy R0.out b1;clear S hn hl hk hx hnc hcap wK hr Wa hti S0 R0;go_enter Tryz.func71,Tryz.ntmps71;go_wp2_with (with_reducible refine I7 46 ?_);apply Eo;clear b1;generalize w.alloc (EJ #[E I code,EI A n cap] 74)=w1 at*;obtain⟨gi,hgi⟩:=En w.heap.size;rw[<-hgi] at KI⊢;clear hgi;have i0:w1.cell? ⟨gi,0,Z⟩=D (E I code):=(H.cell KI.out 0).trans U;have i1:w1.cell? ⟨gi,1,Z⟩=D (EI A n cap):=(H.cell KI.out 1).trans U;by_cases hcode:code=0
 ·subst hcode;go_wp2_with fail;refine(CB.out _ RW.out 1).mono ?_;rintro e2 w2 ⟨rfl,rfl⟩;cases hb1:jN xs 1 with
  |true=> have HB1:=O hb1;clear hb1;go_wp2_with fail;refine(WX.out _ S1.out RW.out).mono ?_;rintro e7 w7 ⟨rfl,⟨m,kd,L5,hm,s7⟩,m7⟩;have S8:=O s7;replace MM:=O<|MM.out.trans m7;clear s7 m7;go_wp2_with fail;go_end0;exact⟨U,⟨c,m,_,X,S8.out,.inr (.inl ⟨U,.inl HB1.out,kd,L5,U,.inl U⟩)⟩,MM.out⟩
  |false=>
   have HB1:=O hb1;clear hb1;go_wp2_with fail;refine(CB.out _ RW.out 2).mono ?_;rintro e2 w2 ⟨rfl,rfl⟩;cases hb2:jN xs 2 with
   |true=> have HB2:=O hb2;clear hb2;go_wp2_with fail;refine(WZ.out _ S1.out RW.out).mono ?_;rintro e7 w7 ⟨rfl,⟨c',m,kd,L5,hm,s7,hc7⟩,m7⟩;have S8:=O s7;replace MM:=O<|MM.out.trans m7;clear s7 m7;go_wp2_with fail;go_end0;exact⟨U,⟨c',m,_,X,S8.out,.inr (.inl ⟨U,.inr HB2.out,kd,L5,U,hc7⟩)⟩,MM.out⟩
   |false=>
    have HB2:=O hb2;clear hb2;obtain⟨n0,hn0⟩:=En w1.heap.size;have X0:=O (show lo<=n0/\hi<=n0/\w.heap.size<=n0 from nM);go_wp2_with fail;refine iF (Ph:=fun p wq=>(n0<=wq.heap.size/\(match p with|0=>E_ lo hi g gc gq gt gs c ns rs wq/\Ex lo hi w wq/\Row wq A xs/\H wq gi #[E I 0,EI A n cap] 74|_=>E_ lo hi g gc gq gt gs {c with T:=T'} ns rs wq/\Ex lo hi w wq))) (Rel:=Oa) (Ij:=lP 183 12 mv) [kp gs 0,kp gs 0,kp gs 0,kp gc 0,kp gc 0,kp gc 95,kp gt 0,kq (E I k),kp gi 1,kq (EI A n cap),kq (Et #[EZ mv,E I cd]),kq (Et #[EZ mv,E I cd]),kq (EZ mv),kq (E I cd),.dep (bF 183 12 n0) (fun v w w' h hr=>h.G hr) (fun v w w' h hr=>h.sz hr),.tie [14] (fun x w=> ∃b:Nat,x 14=Y (D ⟨b,0,Z⟩)/\n0<=b/\H w b mv 183) (fun x w w' h hr=>qo) (fun x y w hq h=>by rw[hq 14 Eh] at h;exact h),kq (E I cd)] [B,B,B,B,B,B,B,B,B,B,B,B,B,B,B,u,B] U [[],[],[],[],[],[],[],[],[],[],[],[],[],[],[],[14],[]] U [10,15] [(0,0),(0,0),(0,0),(0,0),(0,0),(0,0),(0,0),(0,0),(0,0),(0,0),(0,0),(1,1),(1,1),(1,2),(0,1),(1,1),(2,2)] Ed Ed Ed Ed Ed Ed U_ Ed ?hPh ?h0 ?hstep ?hend
    case hPh=>
     intro p w2 w3 h hr;match p,h with
     |0,h=>exact⟨EA h.1 (XJ hr),h.2.1.G hr,h.2.2.1.trans (Ex.Ew hr),Iy h.2.2.2.1 hr,H.G h.2.2.2.2 hr⟩
     |_+1,h=>exact⟨EA h.1 (XJ hr),h.2.1.G hr,h.2.2.trans (Ex.Ew hr)⟩
    case h0=> have hb:=Jk w1;exact⟨EA (OQ hn0) (XJ hb),S1.out.G hb,MM.out.trans (Ex.Ew hb),Iy RW.out hb,H.G KI.out hb⟩
    case hstep=>
     refine⟨?_,?_,?_,?_,?_,?_,?_,?_,?_,?_,?_,?_,?_,?_,?_,?_,?_,trivial⟩;all_goals first|intro xv wq p hlo hhi hp hd|intro xv wq hp hd
     all_goals simp only[EL,In,Ip,Ig,Ih]
     ·exact Elu
     ·exact ElN
     ·exact ElM
     ·exact Elw
     ·exact ElL
     ·exact El8
     ·obtain rfl:p=0:=X;have d5:xv 5=Y (D ⟨gc,95,Z⟩):=hd.at 5 rfl;have cc:wq.cell? ⟨gc,95,Z⟩=D (Y (D ⟨gt,0,Z⟩)):=hp.2.1.core.cell 6 rfl 0 Eh;exact Es (by simp[go_sem,d5,cc]) U
     ·exact Elu
     ·exact Elu
     ·obtain rfl:p=0:=X;have d8:xv 8=Y (D ⟨gi,1,Z⟩):=hd.at 8 rfl;have cc:wq.cell? ⟨gi,1,Z⟩=D (EI A n cap):=(H.cell hp.2.2.2.2 1).trans U;exact Es CU U
     ·have d6:xv 6=Y (D ⟨gt,0,Z⟩):=hd.at 6 rfl;have d7:xv 7=E I k:=hd.at 7 rfl;have d9:xv 9=EI A n cap:=hd.at 9 rfl;refine JR (f:=88) (args:= #[xv 6,xv 7,xv 9]) (Ei U) Ez ?_;rw[d6,d7,d9];refine(CT.out wq hp.2.1.core.tab hp.2.2.2.1 hp.2.1.core.roots).mono fun e w2 h=> ?_;obtain⟨he,kt,ot⟩:=h;have hS:=hp.2.1.wj ot T' kt (hp.2.1.core.ok.wi HT.out.1 HT.out.2);exact⟨_,he,⟨EfJ ot hp.2.1.core.tab Eb,EA hp.1 ot.size,hS.1,hp.2.2.1.trans hS.2⟩,U⟩
     ·obtain rfl:p=1:=X;have d10:xv 10=Et #[EZ mv,E I cd]:=hd.at 10 rfl;exact Eps
     ·obtain rfl:p=1:=X;exact EqO
     ·exact EqO
     ·exact Zq (Ei U) (ik _ _ _ U) (Ep wq _) ⟨wq.heap.size,_,U,hp.1,JJ _,H.new _ _ _⟩
     ·have d12:xv 12=EZ mv:=hd.at 12 rfl;obtain⟨b,c8,eA,lb,h8,kb⟩:bF 183 12 n0 (xv 14) wq:=hd.at 14 rfl;have nh:=X0.out;refine db O_ (Ei U) ⟨U,eA,d12⟩ kb h8 iP.out nR.out ⟨wC iP.out,?_⟩ ⟨b,eA,lb,kb.setRow _⟩;obtain⟨n1,s1,m1⟩:=hp;have ho:=On (g:=b) (W:=wq) mv;exact⟨EA n1 ho.size,s1.Cq ho kb Eb X,m1.only ho X X kb.lt⟩
     ·obtain rfl:p=2:=X;exact EpG
    case hend=>
     intro xv W6 hp hd;simp only[EL,In,Ip,Ig,Ih];obtain⟨gm,eA,lb,kb⟩: ∃b:Nat,xv 14=Y (D ⟨b,0,Z⟩)/\n0<=b/\H W6 b mv 183:=hd 15 Eb;have a16:xv 16=E I cd:=hd 16 Eb;obtain⟨-,s6,m6⟩:=hp;replace S1:=O s6;replace MM:=O m6;have KM:=O kb;rw[eA,a16];clear s6 m6 kb hd eA a16 KI RW CT WX WZ CB i0 i1;by_cases hcd:cd=0
     ·subst hcd;obtain⟨f,hf1,hf2,hf3⟩:=tr.out U;rw[<-hv0.out] at hf2;rw[<-hmv.out] at hf3;have FL:=O hf2;have FC:=O hf3;have hf1: ∀(args:Array V) (w:M),(Jj f args).run EU w= .ok (.enter f args) w:=hf1;clear hf2 hf3;obtain⟨n1,hn1⟩:=En W6.heap.size;go_wp2_with fail;refine iF (Ph:=fun _ wq=>E_ lo hi g gc gq gt gs {c with T:=T'} ns rs wq/\Ex lo hi w wq/\H wq gm mv 183) (Rel:=Oa) (Ij:=fun w w'=>w=w') [kp gs 0,.dep (fun v w=> ∃gg,v= .map (D gg)/\w.heap[gg]?=D (.map (Xn gs 9) 9)) (fun v w w' h hr=>by obtain⟨gg,h1,h2⟩:=h;exact⟨gg,h1,Efu h2 hr⟩) (fun v w w' h hr=>aX),kp gm 0,kq (E I v0),kq (Et #[.func (.func f) #[Y (D ⟨gs,0,Z⟩)] #[],Ec u]),kq (Et #[.func (.func f) #[Y (D ⟨gs,0,Z⟩)] #[],Ec u]),kq (.func (.func f) #[Y (D ⟨gs,0,Z⟩)] #[]),kq (Ec u),kq (.func (.func f) #[Y (D ⟨gs,0,Z⟩)] #[]),kq (Ec u)] [B,B,B,B,B,B,B,B,B,B] U [[],[],[],[],[],[],[],[],[],[]] U [] [(0,0),(0,0),(0,0),(0,0),(0,0),(0,0),(0,0),(0,0),(0,0),(0,0)] Ed Ed Ed Ed Ed Ed U_ Ed ?hPh ?h0 ?hstep ?hend;case hPh=> intro p w2 w3 h hr;exact⟨h.1.G hr,h.2.1.trans (Ex.Ew hr),H.G h.2.2 hr⟩
      case h0=> have hb:=Jk W6;exact⟨S1.out.G hb,MM.out.trans (Ex.Ew hb),H.G KM.out hb⟩
      case hstep=>
       refine⟨?_,?_,?_,?_,?_,?_,?_,?_,?_,?_,trivial⟩;all_goals intro xv wq p hlo hhi hp hd
       all_goals simp only[EL,In,Ip,Ig,Ih]
       ·exact Emq
       ·have d0:xv 0=Y (D ⟨gs,0,Z⟩):=hd.at 0 rfl;refine JR (f:=89) (args:= #[xv 0]) (Ei U) Ez ?_;rw[d0];exact(EdQ gs wq).mono fun e w2 h=>⟨_,h.1,h.2.2,wq.heap.size,U,h.2.1⟩
       ·exact Emq
       ·have d2:xv 2=Y (D ⟨gm,0,Z⟩):=hd.at 2 rfl;have cc:wq.cell? ⟨gm,0,Z⟩=D (E I v0):=Cl.out _ _ hp.2.2;exact Epm
       ·have d3:xv 3=E I v0:=hd.at 3 rfl;obtain⟨gg,eg,hg⟩: ∃gg,xv 1= .map (D gg)/\wq.heap[gg]?=D (.map (Xn gs 9) 9):=hd.at 1 rfl;exact IQ EM (Ei U) (Eft U eg d3 (FL.out wq gg hg)) U
       ·have d4:xv 4=Et #[.func (.func f) #[Y (D ⟨gs,0,Z⟩)] #[],Ec u]:=hd.at 4 rfl;exact Ept
       ·exact Eol
       ·exact Eol
       ·have d6:xv 6= .func (.func f) #[Y (D ⟨gs,0,Z⟩)] #[]:=hd.at 6 rfl;exact Es nf U
       ·have d7:xv 7=Ec u:=hd.at 7 rfl;exact Es gh U
      case hend=> intro xv W7 hp hd;simp only[EL,In,Ip,Ig,Ih];have a8:xv 8= .func (.func f) #[Y (D ⟨gs,0,Z⟩)] #[]:=hd 8 Eb;have a9:xv 9=Ec u:=hd 9 Eb;obtain⟨s7,m7,k7⟩:=hp;replace S1:=O s7;replace MM:=O m7;replace KM:=O k7;rw[a8,a9];clear s7 m7 k7 hd a8 a9 FL;go_wp2_with (with_reducible refine wL O_ KM ?_ (hn:=iP.out));refine(FC.out _ ns rs _ S1.out HN.out HL.out).mono ?_;rintro e8 w8 ⟨rfl,⟨c',m,new,hm,s8,h8⟩,m8⟩;have S8:=O s8;replace MM:=O<|MM.out.trans m8;clear s8 m8;go_wp2_with fail;go_end0;rw[hl'.out,hT'.out] at h8;exact⟨U,⟨c',m,new,hm,S8.out,.inr (.inr ⟨U,HB1.out,HB2.out,qL.out.symm,h8⟩)⟩,MM.out⟩
     ·have t9:(cd !=0)=u:=dF;have eT:T'=c.T:=by rw[hT'.out];exact Efq _ _ _ (by rw[<-qL.out];exact hcd)
      subst eT;go_wp2_with fail;refine(sP lo hi g gc gq gt gs c ns rs k cd _ S1.out JS).mono ?_;rintro e7 w7 ⟨rfl,s7,m7⟩;have S8:=O s7;replace MM:=O<|MM.out.trans m7;clear s7 m7;go_wp2_with fail;refine ET (U1 U _ _ _) U ?_;exact⟨U,⟨c,0,_,X,S8.out,.inl ⟨_,U,U,U,.inr (.inr (.inr (by rw[<-qL.out];exact hcd)))⟩⟩,MM.out⟩
 ·have t9:(code !=0)=u:=by simpa using hcode
  go_wp2_with fail;refine(sP lo hi g gc gq gt gs c ns rs k code _ S1.out JS).mono ?_;rintro e7 w7 ⟨rfl,s7,m7⟩;have S8:=O s7;replace MM:=O<|MM.out.trans m7;clear s7 m7;go_wp2_with fail;go_end0;exact⟨U,⟨c,0,_,X,S8.out,.inl ⟨_,U,U,U,.inl hcode⟩⟩,MM.out⟩
theorem Wb(K:E2 W g T)(i:Nat):H W g (T.pre i++(O8 (T.EY i).on (T.EY i).a (T.EY i).m++(([E .i64 (T.EY i).r]++((T.EY i).key.map (E .u8)++Of (T.EY i).win))++T.post i))).toArray 163:=by unfold E2 at K;rw[T.rN i] at K;simpa[I4.v] using K
theorem Efx(g i:Nat)(T:EP)(w:M)(K:E2 w g T)(h:T.ok)(hoff:(T.EY i).on=B): Ef EU 145 #[Y (D ⟨g,so i,Z⟩)] w fun e w'=>e=Eg (Ec B)/\w=w':=by have k:=Wb K i;rw[hoff] at k;exact Pv g (so i) _ _ _ _ _ w k (EP.oT h i)
theorem Efy(g:Nat)(T:EP)(w:M)(K:E2 w g T)(hoff:T.ZQ=B): Ef EU 145 #[Y (D ⟨g,0,Z⟩)] w fun e w'=>e=Eg (Ec B)/\w=w':=by have k:H w g ([]++([Ec T.ZQ,E I T.sa,E I T.sm]++(T.s0.v++(T.s1.v++(T.s2.v++T.tl))))).toArray 163:=K;rw[hoff] at k;exact Pv g 0 _ _ _ _ _ w k U
theorem Efz(g i:Nat)(T:EP)(w:M)(K:E2 w g T)(h:T.ok)(hon:(T.EY i).on=u)(h1: -9223372036854775808<=(T.EY i).a)(h3:(T.EY i).m<=9223372036854775807): Ef EU 145 #[Y (D ⟨g,so i,Z⟩)] w fun e w'=>e=Eg (Ec (decide ((T.EY i).m<=sat (T.EY i).a (T.EY i).m)))/\E2 w' g (T.put i {T.EY i with a:=sat (T.EY i).a (T.EY i).m})/\EH g w w':=by have k:=Wb K i;rw[hon] at k;refine(Pw g (so i) _ _ _ _ _ w k (EP.oT h i) h1 h3).mono ?_;rintro e w' ⟨he,hk,ho⟩;refine⟨he,?_,ho⟩;unfold E2;rw[T.uf i];simpa[I4.v,hon] using hk
theorem EH.Wc{a b c:M}(h:EH g a b)(k:Io a.heap.size b c):EH g a c:=
 ⟨EA h.size k.size,fun i hi hl=>(k.block i hl).trans (h.keep i hi hl),fun i hi hl=>(h.bel i hi hl).trans (k.mono hl)⟩
theorem TM.step{a:Int}(h:TM a m):TM (sat a m) m:=by
 obtain⟨h1,h2,h3,h4⟩:=h;unfold sat;split;·exact⟨X,X,h3,h4⟩
 ·exact⟨X,X,h3,h4⟩
theorem EfA(g i:Nat)(hi:i<3)(T:EP)(w:M)(K:E2 w g T)(h:T.ok)(ht:T.Xg): Ef EU 145 #[Y (D ⟨g,so i,Z⟩)] w fun e w'=>(∃b T',e=Eg (Ec b)/\E2 w' g T'/\T'.ok/\T'.Xg)/\EH g w w':=by
 cases hon:(T.EY i).on with
 |false=> refine(Efx g i T w K h hon).mono ?_;rintro e w' ⟨rfl,rfl⟩;exact⟨⟨_,T,U,K,h,ht⟩,EH.refl _ _⟩
 |true=> have hb:=ht.EY i;refine(Efz g i T w K h hon (by have:=hb.1;omega) (by have:=hb.2.2.2;omega)).mono ?_;rintro e w' ⟨rfl,k,o⟩;exact⟨⟨_,_,U,k,h.put i ⟨(h.EY i).len,(h.EY i).bytes,(h.EY i).win⟩,ht.put i (TM.step hb)⟩,o⟩
theorem EfB(g:Nat)(T:EP)(w:M)(K:E2 w g T)(h:T.ok)(ht:T.Xg): Ef EU 145 #[Y (D ⟨g,0,Z⟩)] w fun e w'=>(∃b T',e=Eg (Ec b)/\E2 w' g T'/\T'.ok/\T'.Xg)/\EH g w w':=by
 cases hon:T.ZQ with
 |false=> refine(Efy g T w K hon).mono ?_;rintro e w' ⟨rfl,rfl⟩;exact⟨⟨_,T,U,K,h,ht⟩,EH.refl _ _⟩
 |true=>
  have hb:=ht.st;have k:H w g ([]++(O8 u T.sa T.sm++(T.s0.v++(T.s1.v++(T.s2.v++T.tl))))).toArray 163:=by have K2:H w g (T.hd++(T.s0.v++(T.s1.v++(T.s2.v++T.tl)))).toArray 163:=K;unfold EP.hd at K2;rw[hon] at K2;exact K2
  refine(Pw g 0 _ _ _ _ _ w k U (by have:=hb.1;omega) (by have:=hb.2.2.2;omega)).mono ?_;rintro e w' ⟨rfl,k,o⟩;refine⟨⟨_,{T with sa:=sat T.sa T.sm},U,?_,⟨h.s0,h.s1,h.s2⟩,⟨ht.E9,TM.step hb,fun i=> ?_⟩⟩,o⟩;·show H w' g ([Ec T.ZQ,E I (sat T.sa T.sm),E I T.sm]++(T.s0.v++(T.s1.v++(T.s2.v++T.tl)))).toArray 163;rw[hon];exact k
  ·exact match i with|0=>ht.EY 0|1=>ht.EY 1|_+2=>ht.EY 2
theorem EfC(K:E2 W g T)(h:T.ok)(ht:T.Xg):E2 (W.setCells g 0 [Ec B,E I 0,E I 0]) g {T with ZQ:=false,sa:=0,sm:=0}/\({T with ZQ:=false,sa:=0,sm:=0}:EP).ok/\({T with ZQ:=false,sa:=0,sm:=0}:EP).Xg:=
 ⟨Zp (post:=T.s0.v++(T.s1.v++(T.s2.v++T.tl))) [Ec B,E I 0,E I 0] T.hd [] 0 W K U U,⟨h.s0,h.s1,h.s2⟩,⟨ht.E9,(show TM 0 0 from⟨Eb,Eb,Eb,Eb⟩),fun i=>match i with|0=>ht.EY 0|1=>ht.EY 1|_+2=>ht.EY 2⟩⟩
theorem Wd: ∃i,Tryz.prog.info? 3=D i/\i.zero=D (E I 0)/\i.size=1/\i.bytes=8:=by have h:(Tryz.prog.info? 3).map (fun i=>(i.zero,i.size,i.bytes))=D (D (E I 0),1,8):=Ed;exact EmQ
theorem EfD:IW EU 156 3:=⟨⟨_,Tryz.underlying156,U⟩,Ed⟩
theorem EfF:Tryz.prog.built 156 []=D #[Ec B,E I 0,E I 0]:=Ed
theorem EfG(g i:Nat)(hi:i<3)(W:M):(Instr.indexAt 161 (Y (D ⟨g,3,Z⟩)) (E I (i:Int))).run EU W= .ok (Y (D ⟨g,so i,Z⟩)) W:=by have h:i=0\/i=1\/i=2:=X;rcases h with rfl|rfl|rfl<;>rfl
def Zc(L:List Int):List V:=L.map (E .i64)
theorem EfH(g:Nat)(T:EP)(w:M)(K:E2 w g T)(h:T.ok)(ht:T.Xg): Ef EU 101 #[Y (D ⟨g,0,Z⟩)] w fun e w'=>(∃(L:List Int) (A:Option Eu) (c:Nat) (T1:EP),e=Eg (EI A L.length c)/\w'.ownsRow w.heap.size 3 1 (EI A L.length c) L.length (Zc L)/\L.length<=4/\(∀x∈L,0<=x/\x<=3)/\E2 w' g T1/\T1.ok/\T1.Xg)/\EH g w w':=by
 have KT:=O K;have OK:=O h;have OT:=O ht;have II:=O Wd;have BP:=O EfF;have BZ:=O Qq;have SZ:=O<|show Jp.v.toArray.size=39 from I4.J_ U;have S1:=O<|Zw Jp;have SV:Ea (Jp.v.toArray.toList=Jp.v):=O U;have TP:=O<|fun(T:EP) W (k:E2 W g T) (h:T.ok) i=>ia k h i Jp U;have TT:=O<|fun(T:EP) (h:T.Xg) i=>h.put i (s:=Jp) ⟨Eb,Eb,Eb,Eb⟩;have TK:=O<|fun(T:EP) (h:T.ok) i=>h.put i ud;have TH:=O<|fun(T:EP) W (k:E2 W g T) (h:T.ok) (i:Nat)=>XN (o:=so i) (n:=39) k (by rw[uF k h];have:=Gc i;omega);obtain⟨sv,hsv⟩:=En Jp.v.toArray;rw[<-hsv] at BZ SZ S1 SV;clear hsv K h ht;generalize Jp.v=sl at*;go_enter Tryz.func101,Tryz.ntmps101;go_wp2_with fail;refine(EfB g T _ KT.out OK.out OT.out).mono ?_;rintro e w1 ⟨⟨b,T1,rfl,k1,ok1,Wf⟩,o1⟩;replace KT:=O k1;replace OK:=O ok1;replace OT:=O Wf;have ON:=O o1;clear k1 ok1 Wf o1;go_upto_if 9 with(fail)
 go_cut[3] from 10 to 16 (fun v wx=> ∃(L:List Int) (A:Option Eu) (c:Nat) (T1:EP),v=EI A L.length c/\wx.ownsRow w.heap.size 3 1 (EI A L.length c) L.length (Zc L)/\L.length<=1/\(∀x∈L,0<=x/\x<=3)/\E2 wx g T1/\T1.ok/\T1.Xg/\EH g w wx)
 case first=>
  cases b;·go_wp2_with fail;go_meet;exact⟨[],Z,0,T1,U,cJ _ _ _ _,Eh,Eh,KT.out,OK.out,OT.out,ON.out⟩
  ·have Wg:=O<|XN (o:=0) (n:=3) KT.out (by rw[uF KT.out OK.out];omega);go_wp2_with (first|((with_reducible refine Is 11 ?_);refine I3 rfl 156 _ rfl #[Ec false,E I 0,E I 0] BP.out ?_)|((with_reducible refine JE 156 ?_);(with_reducible refine OH rfl 156 _ _ rfl g 0 #[Ec false,E I 0,E I 0] ?_ ?_ ?_ ?_ ?_ ?_);(·rfl);(·rfl);(·exact Wg.out);(·exact EfD.2);(·simp[OC]);refine Ev.mk ?_));apply Eo;have hz:=EfC KT.out OK.out OT.out;replace KT:=O hz.1;replace OK:=O hz.2.1;replace OT:=O hz.2.2;replace ON:=O<|ON.out.trans (Jq (g:=g) [Ec B,E I 0,E I 0] 0 w1);clear hz Wg;change IZ _ _ _ _ _ (w1.setCells g 0 [Ec B,E I 0,E I 0]);generalize w1.setCells g 0 [Ec B,E I 0,E I 0]=w2 at*;go_wp2_with (with_reducible refine I7 16 ?_);apply Eo;have OG:Ea (cK w2 w.heap.size 3 1 (.slice Z ([]:List Int).length 0) ([]:List Int).length (Zc [])):=O<|cJ _ _ _ _;have KB:=O<|H.new w2 #[E I (0)] 3;have b4:=O<|Ep w2 (EJ #[E I (0)] 3);replace OG:=O<|ER OG.out fun _ _ h=>H.G h b4.out;replace KT:=O<|KT.out.G b4.out;replace ON:=O<|ON.out.trans (EH.Ew b4.out);clear b4;generalize w2.alloc (EJ #[E I (0)] 3)=w7 at*;generalize w2.heap.size=gb at*;have lw:=ON.out.size;obtain⟨qA,qc,qw,U6,ZX,Oj,-,-⟩:=dc (P:=EU) w7 w.heap.size w.heap.size 51 51 3 II.out.choose _ 1 8 Tryz.underlying51 II.out.choose_spec.1 II.out.choose_spec.2.1 II.out.choose_spec.2.2.1 II.out.choose_spec.2.2.2 rfl Z 0 0 (Zc []) OG.out ⟨gb,0,Z⟩ 1 1 [E I (0)] U (fun j Y3 hu=>by rw[show(⟨gb,0,Z⟩:Eu).add j=⟨gb,j,Z⟩ from XB];rw[H.cell KB.out,Og];exact hu) dB (fun _=>X) OD X lw (E7 _);have iy:=vM (P:=EU) w7 w.heap.size 51 51 3 II.out.choose _ 1 8 Tryz.underlying51 II.out.choose_spec.1 II.out.choose_spec.2.1 II.out.choose_spec.2.2.1 II.out.choose_spec.2.2.2 Z 0 0 (Zc []) OG.out ⟨gb,0,Z⟩ 1 1 [E I (0)] U (fun j Y3 hu=>by rw[show(⟨gb,0,Z⟩:Eu).add j=⟨gb,j,Z⟩ from XB];rw[H.cell KB.out,Og];exact hu) dB (fun _=>X) OD X U6;go_wp2_with ((with_reducible refine Is 16 ?_);(refine Ol (Ei U) (Up U U U U6) ?_);refine Ev.mk ?_);apply Eo;have OL:Ea (cK qw w.heap.size 3 1 (EI qA (0+1) qc) (0+1) (Zc ([]++[0]))):=O Wh;replace KT:=O<|X_ Oj KT.out Eb;replace ON:=O<|ON.out.Wc (Oj.2.1 lw);clear ZX Oj U6 OG KB iy lw;go_wp2_with fail;go_meet;exact⟨[0],qA,qc,_,U,OL.out,Eh,Eh,KT.out,OK.out,OT.out,ON.out⟩
 case rest=>
  obtain⟨L,A,c,T2,rfl,og,hl,hb,k2,Wi,Wj,o2⟩:=hcut;clear KT OK OT ON;replace o2:=O o2;go_wp2_with fail;go_loopw[3,17] (fun v y wr=> ∃(i:Nat) (L:List Int) (A:Option Eu) (c:Nat) (T1:EP),i<=3/\y=E I i/\v=EI A L.length c/\wr.ownsRow w.heap.size 3 1 (EI A L.length c) L.length (Zc L)/\L.length<=i+1/\(∀x∈L,0<=x/\x<=3)/\E2 wr g T1/\T1.ok/\T1.Xg/\EH g w wr) (fun _ y _=>3-(Iv y).toNat);case atStart=>exact⟨0,L,A,c,T2,X,U,U,og,X,hb,k2,Wi,Wj,o2.out⟩
  case round=>
   obtain⟨i,L,A,c,T3,hi,rfl,rfl,Wl,hl3,hb3,k3,Wm,Wn,o3⟩:=hrel;clear og hb k2 Wi Wj o2 hl;have OG:=O Wl;have HL:=O hl3;have HB:=O hb3;have KT:=O k3;have OK:=O Wm;have OT:=O Wn;have ON:=O o3;clear Wl hl3 hb3 k3 Wm Wn o3;by_cases hlt:i<3
   ·have t1:decide ((i:Int)<3)=u:=Ib X;have ix:=fun W=>EfG g i hlt W;have HLT:=O hlt;go_wp2_with fail;refine(EfA g i HLT.out T3 _ KT.out OK.out OT.out).mono ?_;rintro e w4 ⟨⟨b,T4,rfl,k4,Wo,Wp⟩,o4⟩;replace OG:=O<|ER OG.out fun _ _ h=>o4.Ek h (E5 h KT.out Eb);replace KT:=O k4;replace OK:=O Wo;replace OT:=O Wp;replace ON:=O<|ON.out.trans o4;clear k4 Wo Wp o4;cases b;·go_wp2_with fail;refine⟨⟨i+1,L,A,c,T4,X,Eh,U,OG.out,JS,HB.out,KT.out,OK.out,OT.out,ON.out⟩,Jv⟩
    ·have Wq:=O<|TH.out T4 _ KT.out OK.out i;go_wp2_with (first|((with_reducible refine Is 30 ?_);refine I3 rfl 160 _ rfl sv BZ.out ?_)|((with_reducible refine JE 160 ?_);(with_reducible refine OH rfl 160 _ _ rfl g (so i) sv ?_ ?_ ?_ ?_ ?_ ?_);(·rfl);(·rfl);(·rw[SZ.out];exact Wq.out);(·rw[SZ.out];exact Zv.2);(·exact S1.out);refine Ev.mk ?_));apply Eo;rw[SV.out];replace OG:=O<|ER OG.out fun _ _ h=>(Jq (g:=g) sl (so i) w4).Ek h (E5 h KT.out Eb);replace KT:=O<|TP.out T4 _ KT.out OK.out i;replace OK:=O<|TK.out T4 OK.out i;replace OT:=O<|TT.out T4 OT.out i;replace ON:=O<|ON.out.trans (Jq (g:=g) sl (so i) w4);clear Wq;generalize w4.setCells g (so i) sl=w5 at*;have p4:L.length<=4:=JS;go_wp2_with (with_reducible refine I7 36 ?_);apply Eo;have KB:=O<|H.new w5 #[E I ((i:Int)+1)] 3;have b4:=O<|Ep w5 (EJ #[E I ((i:Int)+1)] 3);replace OG:=O<|ER OG.out fun _ _ h=>H.G h b4.out;replace KT:=O<|KT.out.G b4.out;replace ON:=O<|ON.out.trans (EH.Ew b4.out);clear b4;generalize w5.alloc (EJ #[E I ((i:Int)+1)] 3)=w7 at*;generalize w5.heap.size=gb at*;have lw:=ON.out.size;obtain⟨qA,qc,qw,U6,ZX,Oj,-,-⟩:=dc (P:=EU) w7 w.heap.size w.heap.size 51 51 3 II.out.choose _ 1 8 Tryz.underlying51 II.out.choose_spec.1 II.out.choose_spec.2.1 II.out.choose_spec.2.2.1 II.out.choose_spec.2.2.2 rfl A c L.length (Zc L) OG.out ⟨gb,0,Z⟩ 1 1 [E I ((i:Int)+1)] U (fun j Y3 hu=>by rw[show(⟨gb,0,Z⟩:Eu).add j=⟨gb,j,Z⟩ from XB];rw[H.cell KB.out,Og];exact hu) dB (fun _=>X) OD X lw (E7 _);have iy:=vM (P:=EU) w7 w.heap.size 51 51 3 II.out.choose _ 1 8 Tryz.underlying51 II.out.choose_spec.1 II.out.choose_spec.2.1 II.out.choose_spec.2.2.1 II.out.choose_spec.2.2.2 A c L.length (Zc L) OG.out ⟨gb,0,Z⟩ 1 1 [E I ((i:Int)+1)] U (fun j Y3 hu=>by rw[show(⟨gb,0,Z⟩:Eu).add j=⟨gb,j,Z⟩ from XB];rw[H.cell KB.out,Og];exact hu) dB (fun _=>X) OD X U6;go_wp2_with ((with_reducible refine Is 36 ?_);(refine Ol (Ei U) (Up U U U U6) ?_);refine Ev.mk ?_);apply Eo;have OL:Ea (cK qw w.heap.size 3 1 (EI qA (L.length+1) qc) (L.length+1) (Zc (L++[(i:Int)+1]))):=O Wh;replace KT:=O<|X_ Oj KT.out Eb;replace ON:=O<|ON.out.Wc (Oj.2.1 lw);clear ZX Oj U6 OG KB iy lw;go_wp2_with fail;refine⟨⟨i+1,L++[(i:Int)+1],qA,qc,_,X,Eh,by rw[I2];rfl,by rw[I2];exact OL.out,by rw[I2,List.length_singleton];have:=HL.out;omega,?_,KT.out,OK.out,OT.out,ON.out⟩,Jv⟩;intro x hx;rcases XP.1 hx with hx|hx;·exact HB.out x hx
     ·rw[ft] at hx;omega
   ·obtain rfl:i=3:=X;have hl4:=HL.out;go_wp2_with fail;go_ret;exact⟨⟨L,A,c,T3,U,OG.out,X,HB.out,KT.out,OK.out,OT.out⟩,ON.out⟩
def gM(m x:Int):Bool:=decide (x< -m)||decide (m<x)
def iQ(m x0 x1 x2 x3:Int):Bool:=gM m x0||(gM m x1||(gM m x2||gM m x3))
theorem EfL(m x0 x1 x2 x3:Int)(w:M)(hm:0<=m/\m<=32767): Ef EU 136 #[E I m,EZ #[E I x0,E I x1,E I x2,E I x3]] w fun e w'=>e=Eg (Ec (iQ m x0 x1 x2 x3))/\El w w':=by
 have j0: ∀w,(JY 25 (EZ #[E I x0,E I x1,E I x2,E I x3]) (E I 0)).run EU w= .ok (E I x0) w:=fun _=>Ed;have j1: ∀w,(JY 25 (EZ #[E I x0,E I x1,E I x2,E I x3]) (E I 1)).run EU w= .ok (E I x1) w:=fun _=>Ed;have j2: ∀w,(JY 25 (EZ #[E I x0,E I x1,E I x2,E I x3]) (E I 2)).run EU w= .ok (E I x2) w:=fun _=>Ed;have j3: ∀w,(JY 25 (EZ #[E I x0,E I x1,E I x2,E I x3]) (E I 3)).run EU w= .ok (E I x3) w:=fun _=>Ed;go_enter Tryz.func136,Tryz.ntmps136;go_wp2_with fail;refine O9 5 ?_;rw[Ic];cases a0:decide (x0< -m)
 ·cases b0:decide (m<x0)
  ·go_wp2_with fail;rw[Ic];cases a1:decide (x1< -m)
   ·cases b1:decide (m<x1)
    ·go_wp2_with fail;rw[Ic];cases a2:decide (x2< -m)
     ·cases b2:decide (m<x2)
      ·go_wp2_with fail;rw[Ic];cases a3:decide (x3< -m)
       ·cases b3:decide (m<x3);·go_wp2_with fail;rw[Ic];go_wp2_with fail;go_ret;exact⟨Wr,Ep w _⟩
        ·go_wp2_with fail;go_ret;exact⟨Wr,Ep w _⟩
       ·go_wp2_with fail;go_ret;exact⟨by simp[iQ,gM,a0,b0,a1,b1,a2,b2,a3],Ep w _⟩
      ·go_wp2_with fail;go_ret;exact⟨by simp[iQ,gM,a0,b0,a1,b1,a2,b2],Ep w _⟩
     ·go_wp2_with fail;go_ret;exact⟨by simp[iQ,gM,a0,b0,a1,b1,a2],Ep w _⟩
    ·go_wp2_with fail;go_ret;exact⟨by simp[iQ,gM,a0,b0,a1,b1],Ep w _⟩
   ·go_wp2_with fail;go_ret;exact⟨by simp[iQ,gM,a0,b0,a1],Ep w _⟩
  ·go_wp2_with fail;go_ret;exact⟨by simp[iQ,gM,a0,b0],Ep w _⟩
 ·go_wp2_with fail;go_ret;exact⟨by simp[iQ,gM,a0],Ep w _⟩
def nV(ms mb r:Int)(va:Bool)(x0 x1 x2 x3:Int):Int×Bool:=if(va&&iQ mb x0 x1 x2 x3)=u then(sat (max r 0) ms,decide (ms<=sat (max r 0) ms)) else(0,B)
theorem EfM{ms mb r:Int}(hs:1<=ms/\ms<=1000)(hr:0<=r/\r<=1000)(va:Bool)(x0 x1 x2 x3:Int):0<=(nV ms mb r va x0 x1 x2 x3).1/\(nV ms mb r va x0 x1 x2 x3).1<=1000:=by
 unfold nV;split;·simp only[sat];split<;>omega
 ·exact⟨Eb,Eb⟩
theorem EfN:IW EU 25 4:=⟨⟨_,Tryz.underlying25,U⟩,Ed⟩
theorem EfP(g:Nat->V)(ms mb:Int)(hs:g 46=E I ms)(hb:g 47=E I mb)(hs2:1<=ms/\ms<=1000)(hb2:0<=mb/\mb<=32767)(r:Int)(hr:0<=r/\r<=1000)(va gv:Bool)(x0 x1 x2 x3:Int)(w:M): Ef EU 92 #[EZ (EK 56 g),E I r,EZ #[Ec va,E I x0,E I x1,E I x2,E I x3,Ec gv]] w fun e w'=>e=Eg (Et #[E I (nV ms mb r va x0 x1 x2 x3).1,Ec (nV ms mb r va x0 x1 x2 x3).2])/\El w w':=by
 have Ws:=O<|fun W=>EfL mb x0 x1 x2 x3 W hb2;obtain⟨bb,hby⟩:=En (iQ mb x0 x1 x2 x3);have L6:Ea (nV ms mb r va x0 x1 x2 x3=if(va&&bb)=u then(sat (max r 0) ms,decide (ms<=sat (max r 0) ms)) else(0,B)):=O (by rw[hby];rfl);rw[<-hby] at Ws;have HR:=O hr;have HS2:=O hs2;obtain⟨pv,hpv⟩:=En (EK 56 g);have Wt:Ea (pv[46]?=D (E I ms)):=O (by rw[hpv,<-hs];simp[EK]);have PC2:Ea (pv[47]?=D (E I mb)):=O (by rw[hpv,<-hb];simp[EK]);rw[<-hpv];clear hpv hs hb hs2 hb2 hr hby;go_enter Tryz.func92,Tryz.ntmps92;go_wp2_with (with_reducible refine I7 9 ?_);apply Eo;generalize hW:UN _ _=w1 at*;have KP:Ea (H w1 (w.heap.size) pv 28):=O (by subst hW;repeat (first|exact H.new _ _ _|exact H.new' _ _ _ Eh|refine H.alloc ?_ _));have KS:Ea (H w1 (w.heap.size+1) #[Ec va,E I x0,E I x1,E I x2,E I x3,Ec gv] 46):=O (by subst hW;repeat (first|exact H.new _ _ _|exact H.new' _ _ _ Eh|refine H.alloc ?_ _));have b1:Ea (El w w1):=O (by subst hW;(repeat (first|exact IE _ _|(refine JH ?_ Iu _)|(refine JK ?_ Iu _))));clear hW;obtain⟨gb,hgb⟩:=En (w.heap.size+1);obtain⟨gp,Xj⟩:=En w.heap.size;rw[<-hgb] at KS⊢;rw[<-Xj] at KP;rw[show w.heap.size=gp from Xj.symm];clear hgb Xj;have c0:w1.cell? ⟨gb,0,Z⟩=D (Ec va):=(H.cell KS.out 0).trans U;have c47:w1.cell? ⟨gp,47,Z⟩=D (E I mb):=(H.cell KP.out 47).trans PC2.out;cases va with
 |false=> go_wp2_with fail;go_ret2;refine⟨?_,b1.out⟩;rw[L6.out];rfl
 |true=>
  go_wp2_with ((with_reducible refine kX 25 ?_);(with_reducible refine rL (g:=gb) (off:=1) (cs:= #[E I x0,E I x1,E I x2,E I x3]) EfN ?_ ?_ KS ?_ ?_ ?_);(·first|exact Ei rfl|(simp[I_,Jd];done));(·exact⟨U,U⟩);(·rfl);(·simp));refine(Ws.out _).mono ?_;rintro e w2 ⟨rfl,b2⟩;replace KP:=EQ KP b2;replace b1:=EW b1 b2;clear b2 c0 c47 KS;cases bb with
  |false=> go_wp2_with fail;go_ret2;refine⟨?_,b1.out⟩;rw[L6.out];rfl
  |true=>
   have c46:w2.cell? ⟨gp,46,Z⟩=D (E I ms):=(H.cell KP.out 46).trans Wt.out;have h1:=HR.out;have h2:=HS2.out;go_wp2_with fail;refine(uJ (max r 0) ms _ X X).mono ?_;rintro e w3 ⟨rfl,rfl⟩;go_wp2_with fail;have y46: ∀y:Ext w2,(Ey w2 y).cell? ⟨gp,46,Z⟩=D (E I ms):=fun y=>(H.cell (H.G KP.out (ED y)) 46).trans Wt.out;refine Xs Ed Ed ?_
   repeat (first
    |go_big_quiet_skip
    |(go_big_quiet_want
      first
       |(go_big_quiet_op
         first
          |go_big_quiet_on
          |go_big_quiet_call (fail))))
   refine IM ?_;intro _ hw';obtain⟨y9,rfl⟩:=hw';have Em:=ED y9;replace b1:=EW b1 Em;clear y46 KP Em c46;generalize Ey w2 y9=w4 at*;go_wp2_with fail;go_ret2;refine⟨?_,b1.out⟩;rw[L6.out];rfl
def Cv(c c':EB)(new:List Rec):Prop:=
 (∃L' cd,c'={c with q:=L'}/\new=[⟨7,0,c.samples,c.tok.e,cd,0⟩])
 \/(∃L' t2 hw,t2.ok/\t2.e=c.tok.e+1/\t2.o= -1/\c'={c with tok:=t2,q:=L'}/\new=[⟨8,t2.h,c.samples,t2.e,0,hw⟩])
 \/(new=[⟨6,0,c.samples,c.tok.e,0,0⟩]/\ ∃p:Pt,p.b=⟨1,0,c.samples⟩/\c'={c with pt:=p})
theorem EfT(lo hi:Nat)(g:Nat->V)(gc gq gt gs:Nat)(c:EB)(ns:Nat)(rs:List Rec)(w:M)(S:E_ lo hi g gc gq gt gs c ns rs w)(hn:ns<800000)(hl:rs.length<800000): Ef EU 93 #[Y (D ⟨gs,0,Z⟩)] w fun e w'=>e=Eg (Et #[])/\(∃c' m new,m<=3/\E_ lo hi g gc gq gt gs c' (ns+m) (rs++new) w'/\Cv c c' new)/\Ex lo hi w w':=by
 have ZL:=fun W q=>Vf lo gq c.q (pn g 48) 0 c.tok W S.core.lq q S.core.ok.q B_;obtain⟨Iq,Uw,Xk,Zb⟩: ∃Iq,c.tok.a=EZ Iq/\Ea (Iq.size=8)/\Ea (c.tok.v.toArray=Iq):=⟨_,U,O U,O U⟩;have S1:=O S;have HN:=O hn;have HL:=O hl;have MM:=O<|Ex.refl lo hi w;obtain⟨sm,hsm⟩:=En c.samples;replace hsm:=O hsm;clear S hn hl;have CA:Ea (∀W,Jr W lo gq c.q (pn g 48)->Ef EU 137 #[EZ Iq,Y (D ⟨gq,0,Z⟩),E I 0] W _):=O (fun W q=>Vz);obtain⟨PQ,hPQ⟩: ∃PQ:Array V->Int->Prop,PQ=fun rv cd=> ∃t2:EG,t2.a=EZ rv/\rv.size=8/\rv.all (·.oneCell')=u/\s_ c.tok c.q 0 t2 cd:=⟨_,U⟩;have qt:Ea (∀(t2:EG) (rv:Array V) (cd:Int),t2.a=EZ rv->rv.size=8->rv.all (·.oneCell')=u->s_ c.tok c.q 0 t2 cd->PQ rv cd):=O (fun t2 rv cd h1 h2 h3 h4=>Ca);have qu:Ea (∀rv cd,PQ rv cd->rv.size=8/\rv.all (·.oneCell')=u):=O (fun rv cd h=>Cb);replace hPQ:=O hPQ;clear ZL Uw;obtain⟨n0,hn0⟩:=En w.heap.size;have X0:=O (show lo<=n0/\hi<=n0/\w.heap.size<=n0 by have:=S1.out.cH;have:=S1.out.gG;omega);go_enter Tryz.func93,Tryz.ntmps93;go_wp2_with fail;refine iF (Ph:=fun p wq=>n0<=wq.heap.size/\(match p with|0=>(E_ lo hi g gc gq gt gs c ns rs wq/\Ex lo hi w wq)|_=>(∃L':List One,E_ lo hi g gc gq gt gs {c with q:=L'} ns rs wq/\Ex lo hi w wq))) (Rel:=Oa) (Ij:=lC) [kp gs 0,kp gs 0,kp gs 0,kp gc 0,kp gc 0,kp gc 56,kq (EZ Iq),kp gs 0,kp gs 0,kp gs 0,kp gc 0,kp gc 0,kp gc 64,kp gq 0,.val (fun v=> ∃(rv:Array V) (cd:Int),PQ rv cd/\v=Et #[EZ rv,E I cd]),.val (fun v=> ∃(rv:Array V) (cd:Int),PQ rv cd/\v=Et #[EZ rv,E I cd]),.bC [15,16] (fun x=> ∃(rv:Array V) (cd:Int),PQ rv cd/\x 15=Et #[EZ rv,E I cd]/\x 16=EZ rv) (fun x y hq h=>by simpa only[hq 15 Eh,hq 16 Eh] using h),.bC [15,17] (fun x=> ∃(rv:Array V) (cd:Int),PQ rv cd/\x 15=Et #[EZ rv,E I cd]/\x 17=E I cd) (fun x y hq h=>by simpa only[hq 15 Eh,hq 17 Eh] using h),.dep (aO n0) (fun v w w' h hr=>h.G hr) (fun v w w' h hr=>h.iG hr),.tie [18,16] (fun x w=> ∃(b:Nat) (rv:Array V),x 18=Y (D ⟨b,0,Z⟩)/\x 16=EZ rv/\n0<=b/\H w b rv 109) (fun x w w' h hr=>Cc) (fun x y w hq h=>by rw[hq 18 Eh,hq 16 Eh] at h;exact h),.bC [17,20] (fun x=>x 20=x 17) (fun x y hq h=>by simpa only[hq 17 Eh,hq 20 Eh] using h)] [B,B,B,B,B,B,B,B,B,B,B,B,B,B,B,B,B,B,B,u,B] U [[],[],[],[],[],[],[],[],[],[],[],[],[],[],[],[],[15,16],[15,17],[],[18,16],[17,20]] U [14,19] [(0,0),(0,0),(0,0),(0,0),(0,0),(0,0),(0,0),(0,0),(0,0),(0,0),(0,0),(0,0),(0,0),(0,0),(0,0),(1,1),(1,1),(1,2),(0,1),(1,1),(2,2)] Ed Ed Ed Ed Ed Ed U_ Ed ?hPh ?h0 ?hstep ?hend
 case hPh=>
  intro p w2 w3 h hr;match p,h with
  |0,h=>exact⟨EA h.1 (XJ hr),h.2.1.G hr,h.2.2.trans (Ex.Ew hr)⟩
  |_+1,h=> obtain⟨nn,L',s,m⟩:=h;exact⟨EA nn (XJ hr),L',s.G hr,m.trans (Ex.Ew hr)⟩
 case h0=> exact EoG
 case hstep=>
  refine⟨?_,?_,?_,?_,?_,?_,?_,?_,?_,?_,?_,?_,?_,?_,?_,?_,?_,?_,?_,?_,?_,trivial⟩;all_goals first|intro xv wq p hlo hhi hp hd|intro xv wq hp hd
  all_goals simp only[EL,In,Ip,Ig,Ih]
  ·exact Elu
  ·exact ElN
  ·exact ElM
  ·exact Elw
  ·exact ElL
  ·exact El8
  ·exact EpY
  ·exact Elu
  ·exact Emn
  ·exact Emm
  ·exact EmE
  ·exact Emi
  ·exact Emh
  ·exact EnJ
  ·have d6:xv 6=EZ Iq:=hd.at 6 rfl;have d13:xv 13=Y (D ⟨gq,0,Z⟩):=hd.at 13 rfl;refine JR (f:=137) (args:= #[xv 6,xv 13,E I 0]) (Ei U) Ez ?_;rw[d6,d13];refine(CA.out wq hp.2.1.core.Z2).mono fun e w2 h=> ?_;obtain⟨⟨t2,cd,L2,he,hf,sq,q2⟩,m2⟩:=h;obtain⟨rv,IH,hs,ho⟩:=ZH t2;exact⟨_,he,⟨m2.iG,EA hp.1 m2.bel.size,L2,hp.2.1.gH m2 L2 q2 (hp.2.1.core.ok.sub sq),hp.2.2.trans (m2.jB hi)⟩,rv,cd,qt.out t2 rv cd IH hs ho hf,congrArg (fun v=>Value.tuple #[v,E I cd]) IH⟩
  ·obtain rfl:p=1:=X;obtain⟨rv,cd,hpq,e14⟩: ∃(rv:Array V) (cd:Int),PQ rv cd/\xv 14=Et #[EZ rv,E I cd]:=hd.at 14 rfl;exact Es (by simp[go_sem,e14]) ⟨rv,cd,hpq,U⟩
  ·obtain rfl:p=1:=X;exact Enx
  ·exact Enx
  ·exact EmD
  ·obtain⟨b,d0,eA,lb,h8,kb⟩:aO n0 (xv 18) wq:=hd.at 18 rfl;have nh:=X0.out;obtain⟨rv,cd,hpq,-,e16⟩: ∃(rv:Array V) (cd:Int),PQ rv cd/\xv 15=Et #[EZ rv,E I cd]/\xv 16=EZ rv:=hd.at 16 rfl;have hsz:=qu.out _ _ hpq;obtain⟨nn,L',s,m⟩:=hp;refine db EV (Ei U) ⟨U,eA,e16⟩ kb h8 hsz.1 hsz.2 ⟨tX kb hsz.1,?_⟩ ⟨b,rv,eA,e16,lb,kb.setRow _⟩;exact Epg
  ·obtain rfl:p=2:=X;obtain⟨rv,cd,hpq,-,e17⟩: ∃(rv:Array V) (cd:Int),PQ rv cd/\xv 15=Et #[EZ rv,E I cd]/\xv 17=E I cd:=hd.at 17 rfl;exact Es (by simp[go_sem,e17]) (e17.symm)
 case hend=>
  intro xv W6 hp hd;clear S1 MM;simp only[EL,In,Ip,Ig,Ih];obtain⟨rv,cd,hpq,eM,e16⟩: ∃(rv:Array V) (cd:Int),PQ rv cd/\xv 15=Et #[EZ rv,E I cd]/\xv 16=EZ rv:=hd 16 Eb;obtain⟨b,iH,eA,eE,lb,kb⟩: ∃(b:Nat) (rv:Array V),xv 18=Y (D ⟨b,0,Z⟩)/\xv 16=EZ rv/\n0<=b/\H W6 b rv 109:=hd 19 Eb;have qx:iH=rv:=by rw[eE] at e16;injection e16
  subst qx;have a20:xv 20=E I cd:=by have h1:xv 20=xv 17:=hd 20 Eb;obtain⟨Cg,Lo,-,f1,f2⟩: ∃(rv:Array V) (cd:Int),PQ rv cd/\xv 15=Et #[EZ rv,E I cd]/\xv 17=E I cd:=hd 17 Eb;exact Eno
  obtain⟨-,L',s6,m6⟩:=hp;have S1:=O s6;have MM:=O m6;have KB:=O kb;rw[eA,a20];rw[hPQ.out] at hpq;obtain⟨t2,IH,hs,ho,hf⟩:=hpq;have Uv:=O IH;have RS:=O hs;have HF:=O hf;clear s6 m6 kb hd eA a20 CA IH hs ho hf eM eE;by_cases hcd:cd=0
  ·subst hcd
   have HT2:Ea (t2.ok/\t2.e=c.tok.e+1/\t2.o= -1):=O (by
    rcases HF.out with⟨a1,-⟩|⟨-,-,-,x,-,a2⟩;·exact absurd U a1
    ·exact⟨(gK S1.out.core.ok.tok a2).1,(gK S1.out.core.ok.tok a2).2.1,(gK S1.out.core.ok.tok a2).2.2.2⟩)
   go_wp2_with fail;have y0: ∀y:Ext W6,(Ey W6 y).cell? ⟨gs,0,Z⟩=D (Y (D ⟨gc,0,Z⟩)):=fun y=>(S1.out.G (ED y)).IC;have y96: ∀y:Ext W6,(Ey W6 y).cell? ⟨gc,96,Z⟩=D (E I sm):=fun y=>by rw[hsm.out];exact(S1.out.G (ED y)).core.cell 7 rfl 0 Eh
   refine J5 9 Ed Ed ?_;simp only[Ir,Im,IL,IG]
   repeat (first
    |go_big_quiet_skip
    |(go_big_quiet_want
      first
       |(refine Ub (T:=109) (g:=b) EV _ rfl rfl KB ?_ ?_;(·exact RS.out);go_simp;go_big_quiet_on)
       |(go_big_quiet_op
         first
          |go_big_quiet_on
          |go_big_quiet_call (fail))))
   refine IM ?_;intro _ hw';obtain⟨y9,rfl⟩:=hw';have Em:=ED y9;replace S1:=O<|S1.out.G Em;replace MM:=O<|MM.out.trans (Ex.Ew Em);clear y0 y96 Em KB;generalize Ey W6 y9=w9 at*;go_wp2_with fail;rw[<-Uv.out];refine(nK lo hi g gc gq gt gs _ ns rs t2 2 sm _ S1.out HT2.out.1 Ob JS).mono ?_;rintro e7 w7 ⟨rfl,⟨L2,m7,XS,sq,s7⟩,Xl⟩;have S8:=O s7;replace MM:=O<|MM.out.trans Xl;have nN:=O XS;clear s7 Xl sq XS;go_wp2_with fail;go_end0;refine⟨U,⟨_,m7,_,qp,S8.out,.inr (.inl ⟨L2,t2,2,HT2.out.1,HT2.out.2.1,HT2.out.2.2,U,?_⟩)⟩,MM.out⟩;rw[hsm.out]
  ·have t9:(cd !=0)=u:=dF;have z0:=S1.out.IC;have lS:W6.cell? ⟨gc,96,Z⟩=D (E I sm):=by rw[hsm.out];exact S1.out.core.cell 7 rfl 0 Eh
   go_wp2_with fail;refine(ZC lo hi g gc gq gt gs _ ns rs 7 0 sm cd 0 _ S1.out JS).mono ?_;rintro e7 w7 ⟨rfl,s7,m7⟩;have S8:=O s7;replace MM:=O<|MM.out.trans m7;clear s7 m7 z0 lS;go_wp2_with fail;refine ET (U1 U _ _ _) U ?_;refine⟨U,⟨_,0,_,X,S8.out,.inl ⟨L',cd,U,?_⟩⟩,MM.out⟩;rw[hsm.out]
theorem EfV(lo hi:Nat)(g:Nat->V)(gc gq gt gs:Nat)(c:EB)(ns:Nat)(rs:List Rec)(w:M)(S:E_ lo hi g gc gq gt gs c ns rs w)(hn:ns<800000)(hl:rs.length<800000): Ef EU 95 #[Y (D ⟨gs,0,Z⟩)] w fun e w'=>e=Eg (Et #[])/\(∃c' m new,m<=3/\E_ lo hi g gc gq gt gs c' (ns+m) (rs++new) w'/\Cv c c' new)/\Ex lo hi w w':=by
 have ZL:=fun W=>rV c.tok 0 W B_;obtain⟨Iq,Uw,Xk,Zb⟩: ∃Iq,c.tok.a=EZ Iq/\Ea (Iq.size=8)/\Ea (c.tok.v.toArray=Iq):=⟨_,U,O U,O U⟩;have S1:=O S;have HN:=O hn;have HL:=O hl;have MM:=O<|Ex.refl lo hi w;obtain⟨sm,hsm⟩:=En c.samples;replace hsm:=O hsm;clear S hn hl;cases hr:c.tok.Uq 0 with|mk t2 cd=>
 obtain⟨rv,IH,RS,RO⟩:=ZH t2;have RS:=O RS;have RO:=O RO;have Uv:=O IH;have HR:=O hr;have CA:Ea (∀W,Ef EU 140 #[EZ Iq,E I 0] W fun x w'=>x=Eg (Et #[EZ rv,E I cd])/\El W w'):=O (fun W=>by have h:=ZL W;rw[hr,Uw] at h;rw[<-IH];exact h);clear hr IH ZL Uw;have z0:=S1.out.IC;obtain⟨big,KB,UJ⟩:=bA S1.out.core;have KB:=O KB;have dH:Ea (big.extract 56 (56+8)=Iq):=O<|(UJ 1 c.tok.v U).trans Zb.out;clear UJ;go_enter Tryz.func95,Tryz.ntmps95;go_wp2_with (with_reducible refine wM (off:=56) (cs:=Iq) EV KB ?_ (hn:=Xk.out) (he:=dH.out));refine(CA.out _).mono ?_;rintro e6 w6 ⟨rfl,b6⟩;replace S1:=O<|S1.out.G b6;replace MM:=O<|MM.out.trans (Ex.Ew b6);clear b6 z0 KB;have K0:=O<|H.new w6 #[E I 0,E I 0,E I 0,E I 0,E I 0,E I 0,E I 0,Ec B] 109;have b2:=Ep w6 (EJ #[E I 0,E I 0,E I 0,E I 0,E I 0,E I 0,E I 0,Ec B] 109);go_wp2_with (with_reducible first|refine wA lD ?_|refine wS (cs:=rv) EV K0 (Ev.mk ?_) (hn:=RS.out) (h1:=RO.out));apply Eo;obtain⟨b,hgm⟩:=En w6.heap.size;rw[<-hgm] at K0⊢;generalize w6.alloc (EJ #[E I 0,E I 0,E I 0,E I 0,E I 0,E I 0,E I 0,Ec B] 109)=w7 at*;have KB:=O<|K0.out.setRow rv;have b3:=E3 (g:=b) b2 (OQ hgm.symm) rv;generalize w7.setRow b rv=w8 at*;clear K0 b2 hgm;replace S1:=O<|S1.out.G b3;replace MM:=O<|MM.out.trans (Ex.Ew b3);clear b3;by_cases hcd:cd=0
 ·subst hcd;have HT2:=O<|gK S1.out.core.ok.tok HR.out;go_wp2_with fail;have y0: ∀y:Ext w8,(Ey w8 y).cell? ⟨gs,0,Z⟩=D (Y (D ⟨gc,0,Z⟩)):=fun y=>(S1.out.G (ED y)).IC;have y96: ∀y:Ext w8,(Ey w8 y).cell? ⟨gc,96,Z⟩=D (E I sm):=fun y=>by rw[hsm.out];exact(S1.out.G (ED y)).core.cell 7 rfl 0 Eh
  refine J5 9 Ed Ed ?_;simp only[Ir,Im,IL,IG]
  repeat (first
   |go_big_quiet_skip
   |(go_big_quiet_want
     first
      |(refine Ub (T:=109) (g:=b) EV _ rfl rfl KB ?_ ?_;(·exact RS.out);go_simp;go_big_quiet_on)
      |(go_big_quiet_op
        first
         |go_big_quiet_on
         |go_big_quiet_call (fail))))
  refine IM ?_;intro _ hw';obtain⟨y9,rfl⟩:=hw';have Em:=ED y9;replace S1:=O<|S1.out.G Em;replace MM:=O<|MM.out.trans (Ex.Ew Em);clear y0 y96 Em KB;generalize Ey w8 y9=w9 at*;go_wp2_with fail;rw[<-Uv.out];refine(nK lo hi g gc gq gt gs _ ns rs t2 4 sm _ S1.out HT2.out.1 Ob JS).mono ?_;rintro e7 w7 ⟨rfl,⟨L2,m7,XS,sq,s7⟩,Xl⟩;have S8:=O s7;replace MM:=O<|MM.out.trans Xl;have nN:=O XS;clear s7 Xl sq XS;go_wp2_with fail;go_end0;refine⟨U,⟨_,m7,_,qp,S8.out,.inr (.inl ⟨L2,t2,4,HT2.out.1,HT2.out.2.1,HT2.out.2.2.2,U,?_⟩)⟩,MM.out⟩;rw[hsm.out]
 ·have t9:(cd !=0)=u:=dF;have z0:=S1.out.IC;have lS:w8.cell? ⟨gc,96,Z⟩=D (E I sm):=by rw[hsm.out];exact S1.out.core.cell 7 rfl 0 Eh
  go_wp2_with fail;refine(ZC lo hi g gc gq gt gs _ ns rs 7 0 sm cd 0 _ S1.out JS).mono ?_;rintro e7 w7 ⟨rfl,s7,m7⟩;have S8:=O s7;replace MM:=O<|MM.out.trans m7;clear s7 m7 z0 lS;go_wp2_with fail;refine ET (U1 U _ _ _) U ?_;refine⟨U,⟨_,0,_,X,S8.out,.inl ⟨c.q,cd,U,?_⟩⟩,MM.out⟩;rw[hsm.out]
theorem L7:Od EU 36 #[E I 0,E I 0,E I 0]:=by exact El7
theorem EfW(ep:Int):Tryz.prog.built 183 [(0,E I 11),(4,E I ep),(6,E I 1)]=D (EF [11,0,0,0,ep,0,1,0,0,0,0,0]):=Ed
theorem EfY(a b c:Int):Tryz.prog.built 36 [(0,E I a),(1,E I b),(2,E I c)]=D #[E I a,E I b,E I c]:=Ed
theorem Ef0(lo hi:Nat)(g:Nat->V)(gc gq gt gs:Nat)(c:EB)(ns:Nat)(rs:List Rec)(va gv:Bool)(x0 x1 x2 x3:Int)(w:M)(S:E_ lo hi g gc gq gt gs c ns rs w)(hx:JI x0/\JI x1/\JI x2/\JI x3)(hn:ns<800000)(hl:rs.length<800000): Ef EU 94 #[Y (D ⟨gs,0,Z⟩),EZ #[Ec va,E I x0,E I x1,E I x2,E I x3,Ec gv]] w fun e w'=>e=Eg (Et #[])/\(∃c' m new,m<=3/\E_ lo hi g gc gq gt gs c' (ns+m) (rs++new) w'/\Cv c c' new)/\Ex lo hi w w':=by
 obtain⟨ep,Wu⟩:=En c.tok.e;obtain⟨jd,ta⟩: ∃jd:Int,∀W,ZI W->Ef EU 138 #[EZ (EK 56 g),EZ c.tok.v.toArray,E I 0,E I 0,E I c.mode,EZ (EF [11,0,0,0,ep,0,1,0,0,0,0,0])] W fun e w'=>e=Eg (E I jd)/\El W w':=⟨_,fun W hc=>Tf g c.tok.h c.tok.e 0 0 c.mode 11 ep 0 1 (E I c.tok.o) (E I c.tok.oa) (E I c.tok.om) (E I c.tok.la) (E I c.tok.lm) (Ec c.tok.bad) (E I 0) (E I 0) (E I 0) (Ec B) (E I 0) (E I 0) (E I 0) (E I 0) W (fun i h1 h2=>S.core.ZJ.int i h2 (.inr X)) hc⟩;obtain⟨p,hpo,hpb,lF⟩: ∃p:Pt,p.ok/\p.b=⟨1,0,c.samples⟩/\ ∀W,Ef EU 139 #[EZ (EK 56 g),EZ c.pt.v.toArray,E I 1,EZ #[E I x0,E I x1,E I x2,E I x3],EZ #[E I 1,E I 0,E I c.samples]] W fun e w'=>e=Eg (EZ p.v.toArray)/\El W w':=VM g c.pt S.core.ZJ.fit S.core.ok.pt 0 c.samples 1 x0 x1 x2 x3 X hx.1 hx.2.1 hx.2.2.1 hx.2.2.2;have S0:=O S;have HN:=O hn;have HL:=O hl;have CJ:=O ta;have iD:=O hpo;have Z1:=O hpb;have Wv:=O<|EfW ep;have HEP:=O Wu;obtain⟨sm,hsm⟩:=En c.samples;replace hsm:=O hsm;have CS:=O lF;rw[<-hsm.out] at CS;have Ly:=O<|EfY 1 0 sm;have KS:=O<|H.new w #[Ec va,E I x0,E I x1,E I x2,E I x3,Ec gv] 46;have b1:=Ep w (EJ #[Ec va,E I x0,E I x1,E I x2,E I x3,Ec gv] 46);have S1:=O<|S0.out.G b1;have MM:=O<|Ex.Ew (lo:=lo) (hi:=hi) b1;have iP:=O<|JJ [11,0,0,0,ep,0,1,0,0,0,0,0];have nR:=O<|ZY [11,0,0,0,ep,0,1,0,0,0,0,0];obtain⟨mv,hmv⟩:=En (EF [11,0,0,0,ep,0,1,0,0,0,0,0]);rw[<-hmv] at CJ Wv iP nR;clear S hn hl ta hpo hpb lF Wu hmv hx S0;have z0:=S1.out.IC;have z57:(w.alloc (EJ #[Ec va,E I x0,E I x1,E I x2,E I x3,Ec gv] 46)).cell? ⟨gc,57,Z⟩=D (E I ep):=by rw[HEP.out];exact S1.out.core.cell 1 rfl 1 XV
 go_enter Tryz.func94,Tryz.ntmps94;go_wp2_with (with_reducible refine I7 15 ?_);apply Eo;clear b1 z0 z57;generalize w.alloc (EJ #[Ec va,E I x0,E I x1,E I x2,E I x3,Ec gv] 46)=w1 at*;obtain⟨gb,hgb⟩:=En w.heap.size;rw[<-hgb] at KS⊢;clear hgb;have K0:=O<|H.new w1 (EF (If 0)) 183;have b2:=Ep w1 (EJ (EF (If 0)) 183);go_wp2_with (first|((with_reducible refine Is 15 ?_);refine I3 rfl 183 _ rfl mv Wv.out ?_)|(with_reducible refine wA ik ?_)|(with_reducible refine wS (cs:=mv) O_ K0 (Ev.mk ?_) (ho:=JJ _) (hn:=iP.out) (h1:=nR.out)));apply Eo;obtain⟨gm,hgm⟩:=En w1.heap.size;rw[<-hgm] at K0⊢;generalize w1.alloc (EJ (EF (If 0)) 183)=w2 at*;have KM:=O<|K0.out.setRow mv;have b3:=E3 (g:=gm) b2 (OQ hgm.symm) mv;generalize w2.setRow gm mv=w3 at*;clear K0 b2 hgm;replace KS:=EQ KS b3;replace S1:=O<|S1.out.G b3;replace MM:=O<|MM.out.trans (Ex.Ew b3);clear b3;go_wp2_with fail;obtain⟨d0,d1,d2,hd,KG,o0,o1,o2,-,-⟩:=S1.out.core.Ek;have Xm:=O<|Ox (c:=c) (gq:=gq) (gt:=gt) (hd:=hd) (JD g) o0 o1 o2 0 X;have wB:=O<|Ox (c:=c) (gq:=gq) (gt:=gt) (hd:=hd) (JD g) o0 o1 o2 1 X;have KG:=O KG;have PL:=O<|JD g;have XO:Ea ((EK 56 g).toList.toArray=EK 56 g):=O Eh;clear o0 o1 o2;have Cn:=O S1.out.core.cmds;have y0: ∀y:Ext w3,(Ey w3 y).cell? ⟨gs,0,Z⟩=D (Y (D ⟨gc,0,Z⟩)):=fun y=>(S1.out.G (ED y)).IC;have y98: ∀y:Ext w3,(Ey w3 y).cell? ⟨gc,98,Z⟩=D (E I c.mode):=fun y=>(S1.out.G (ED y)).core.cell 9 rfl 0 Eh;refine Xs Ed Ed ?_
 repeat (first
  |go_big_quiet_skip
  |(go_big_quiet_want
    first
     |(refine Zj (T:=28) (g:=gc) (off:=0) XY _ rfl rfl KG 0 rfl Xm.out PL.out ?_;(try rw[XO.out]);go_simp;go_big_quiet_on)
     |(refine Zj (T:=109) (g:=gc) (off:=56) EV _ rfl rfl KG 1 rfl wB.out rfl ?_;(try rw[XO.out]);go_simp;go_big_quiet_on)
     |(refine Ub (T:=183) (g:=gm) VL _ rfl rfl KM ?_ ?_;(·exact iP.out);go_simp;go_big_quiet_on)
     |(go_big_quiet_op
       first
        |go_big_quiet_on
        |go_big_quiet_call (with_reducible refine ag (CJ.out _ (Cn.out.G (ED _)))))))
 refine IM ?_;intro _ hw';obtain⟨y9,rfl⟩:=hw';have Em:=ED y9;replace KS:=EQ KS Em;replace S1:=O<|S1.out.G Em;replace MM:=O<|MM.out.trans (Ex.Ew Em);clear y0 y98 Em KG Xm wB PL XO Cn KM CJ;generalize Ey w3 y9=w4 at*;by_cases hjd:jd=0
 ·subst hjd;have z0:=S1.out.IC;have lS:w4.cell? ⟨gc,96,Z⟩=D (E I sm):=by rw[hsm.out];exact S1.out.core.cell 7 rfl 0 Eh
  have K0:=O<|H.new w4 #[E I 0,E I 0,E I 0] 36;have b2:=Ep w4 (EJ #[E I 0,E I 0,E I 0] 36);go_wp2_with (first|((with_reducible refine Is 58 ?_);refine I3 rfl 36 _ rfl #[E I 1,E I 0,E I sm] Ly.out ?_)|(with_reducible refine wA L7 ?_)|(with_reducible refine wS (cs:= #[E I 1,E I 0,E I sm]) fo K0 (Ev.mk ?_) (h1:=Us)));apply Eo;obtain⟨gl,hgl⟩:=En w4.heap.size;rw[<-hgl] at K0⊢;generalize w4.alloc (EJ #[E I 0,E I 0,E I 0] 36)=w5 at*;have KL:=O<|K0.out.setRow #[E I 1,E I 0,E I sm];have b3:=E3 (g:=gl) b2 (OQ hgl.symm) #[E I 1,E I 0,E I sm];generalize w5.setRow gl #[E I 1,E I 0,E I sm]=w6 at*;clear K0 b2 hgl z0 lS;replace KS:=EQ KS b3;replace S1:=O<|S1.out.G b3;replace MM:=O<|MM.out.trans (Ex.Ew b3);clear b3;go_wp2_with fail;obtain⟨d0,d1,d2,hd,KG,o0,o1,o2,-,-⟩:=S1.out.core.Ek;have Xm:=O<|Ox (c:=c) (gq:=gq) (gt:=gt) (hd:=hd) (JD g) o0 o1 o2 0 X;have iK:=O<|Ox (c:=c) (gq:=gq) (gt:=gt) (hd:=hd) (JD g) o0 o1 o2 11 X;have KG:=O KG;have PL:=O<|JD g;have XO:Ea ((EK 56 g).toList.toArray=EK 56 g):=O Eh;clear o0 o1 o2;have KX:Ea (Ji w6 gb [[Ec va],[E I x0,E I x1,E I x2,E I x3],[Ec gv]] 46):=O KS.out;have OX:Ea (aT [[Ec va],[E I x0,E I x1,E I x2,E I x3],[Ec gv]] 1=1):=O U;have y0: ∀y:Ext w6,(Ey w6 y).cell? ⟨gs,0,Z⟩=D (Y (D ⟨gc,0,Z⟩)):=fun y=>(S1.out.G (ED y)).IC;refine J5 24 Ed Ed ?_;simp only[Ir,Im,IL,IG]
  repeat (first
   |go_big_quiet_skip
   |(go_big_quiet_want
     first
      |(refine Zj (T:=28) (g:=gc) (off:=0) XY _ rfl rfl KG 0 rfl Xm.out PL.out ?_;(try rw[XO.out]);go_simp;go_big_quiet_on)
      |(refine Zj (T:=50) (g:=gc) (off:=102) iC _ rfl rfl KG 11 rfl iK.out rfl ?_;(try rw[XO.out]);go_simp;go_big_quiet_on)
      |(refine Zj (T:=25) (g:=gb) (off:=1) wy _ rfl rfl KX 1 rfl OX.out rfl ?_;go_simp;go_big_quiet_on)
      |(refine Ub (T:=36) (g:=gl) fo _ rfl rfl KL ?_ ?_;(·rfl);go_simp;go_big_quiet_on)
      |(go_big_quiet_op
        first
         |go_big_quiet_on
         |go_big_quiet_call (with_reducible refine ag (CS.out _)))))
  refine IM ?_;intro _ hw';obtain⟨y9,rfl⟩:=hw';have Em:=ED y9;replace S1:=O<|S1.out.G Em;replace MM:=O<|MM.out.trans (Ex.Ew Em);clear y0 Em KG Xm iK KX OX KL PL XO;generalize Ey w6 y9=w7 at*;have TH:=O<|cV S1.out.core 11 rfl 12 wh;go_wp2_with ((with_reducible refine JE 50 ?_);(with_reducible refine OH U 50 _ _ U gc 102 p.v.toArray ?_ ?_ ?_ ?_ ?_ ?_);(·rfl);(·rfl);(·exact TH.out);(·exact iC.2);(·simp[Pt.v,OC]);refine Ev.mk ?_);apply Eo;have S4:=S1.out.iB p (S1.out.core.ok.iB iD.out);replace S1:=O S4.1;replace MM:=O<|MM.out.trans S4.2;clear S4 TH KS;change IZ _ _ _ _ _ (w7.setCells gc 102 p.v);generalize w7.setCells gc 102 p.v=w8 at*;have z0:=S1.out.IC;have lS:w8.cell? ⟨gc,96,Z⟩=D (E I sm):=by rw[hsm.out];exact S1.out.core.cell 7 rfl 0 Eh
  go_wp2_with fail;refine(ZC lo hi g gc gq gt gs _ ns rs 6 0 sm 0 0 _ S1.out JS).mono ?_;rintro e12 Xz ⟨rfl,s12,m12⟩;have S8:=O s12;replace MM:=O<|MM.out.trans m12;clear m12 s12 z0 lS;go_wp2_with fail;go_end0;refine⟨U,⟨_,0,_,X,S8.out,.inr (.inr ⟨?_,p,Z1.out,U⟩)⟩,MM.out⟩;rw[hsm.out]
 ·have t9:(jd !=0)=u:=by simpa using hjd
  have z0:=S1.out.IC;have lS:w4.cell? ⟨gc,96,Z⟩=D (E I sm):=by rw[hsm.out];exact S1.out.core.cell 7 rfl 0 Eh
  go_wp2_with fail;refine(ZC lo hi g gc gq gt gs _ ns rs 7 0 sm jd 0 _ S1.out JS).mono ?_;rintro e7 w7 ⟨rfl,s7,m7⟩;have S8:=O s7;replace MM:=O<|MM.out.trans m7;clear s7 m7 z0 lS;go_wp2_with fail;refine ET (U1 U _ _ _) U ?_;refine⟨U,⟨_,0,_,X,S8.out,.inl ⟨c.q,jd,U,?_⟩⟩,MM.out⟩;rw[hsm.out]
def qM(c c':EB)(new:List Rec):Prop:= ∃(a b:Int) (T1:EP),(c'={c with samples:=a,beyond:=b,T:=T1}/\new=[])\/Cv {c with samples:=a,beyond:=b,T:=T1} c' new
theorem EB.ok.Lg(h:c.ok)(hx:0<=x/\x<=4294967295):({c with samples:=x}:EB).ok:=⟨h.tok,h.T,h.q,h.ones,h.src,h.nd,hx,h.jy,h.mode,h.Em,h.pt,h.E9⟩
theorem EB.ok.wU(h:c.ok)(hx:0<=x/\x<=1000):({c with beyond:=x}:EB).ok:=⟨h.tok,h.T,h.q,h.ones,h.src,h.nd,h.ip,hx,h.mode,h.Em,h.pt,h.E9⟩
theorem Cw:IW EU 46 6:=⟨⟨_,Tryz.underlying46,U⟩,Ed⟩
theorem Ww{n:Int}(h0:0<=n/\n<=m):0<=sat n m/\sat n m<=m:=by unfold sat;split<;>omega
theorem Ef2(lo hi:Nat)(g:Nat->V)(gc gq gt gs:Nat)(c:EB)(ns:Nat)(rs:List Rec)(va gv:Bool)(x0 x1 x2 x3:Int)(w:M)(S:E_ lo hi g gc gq gt gs c ns rs w)(hx:JI x0/\JI x1/\JI x2/\JI x3)(hn:ns<800000)(hl:rs.length<800000): Ef EU 72 #[Y (D ⟨gs,0,Z⟩),EZ #[Ec va,E I x0,E I x1,E I x2,E I x3,Ec gv]] w fun e w'=>e=Eg (Et #[])/\(∃c' m new,m<=3/\E_ lo hi g gc gq gt gs c' (ns+m) (rs++new) w'/\qM c c' new)/\Ex lo hi w w':=by
 obtain⟨ms,hms,L8⟩:=S.core.ZJ.fit 46 X X;obtain⟨mb,hmb,Wx⟩:=S.core.ZJ.fit 47 X X;have L9:1<=(ms:Int)/\(ms:Int)<=1000:=by have h1:=L8.1;have h2:=L8.2.1;unfold Zf at h1;unfold U2 at h2;simp at h1 h2;omega
 have Wy:0<=(mb:Int)/\(mb:Int)<=32767:=by have h2:=Wx.2.1;unfold U2 at h2;simp at h2;omega
 have CSE:=O<|fun(r:Int) (hr:0<=r/\r<=1000) W=>EfP g ms mb hms hmb L9 Wy r hr va gv x0 x1 x2 x3 W;have Wz:=O L9;have S0:=O S;have HN:=O hn;have HL:=O hl;have HX:=O hx;have KS:=O<|H.new w #[Ec va,E I x0,E I x1,E I x2,E I x3,Ec gv] 46;have b1:=Ep w (EJ #[Ec va,E I x0,E I x1,E I x2,E I x3,Ec gv] 46);have S1:=O<|S0.out.G b1;have MM:=O<|Ex.Ew (lo:=lo) (hi:=hi) b1;clear S hn hl hx S0 hms hmb L8 Wx L9 Wy;have c0:(w.alloc (EJ #[Ec va,E I x0,E I x1,E I x2,E I x3,Ec gv] 46)).cell? ⟨w.heap.size,0,Z⟩=D (Ec va):=(H.cell KS.out 0).trans U;go_enter Tryz.func72,Tryz.ntmps72;cases va with
 |false=> have z0:=S1.out.IC;have zm:(w.alloc (EJ #[Ec B,E I x0,E I x1,E I x2,E I x3,Ec gv] 46)).cell? ⟨gc,97,Z⟩=D (E I c.beyond):=S1.out.core.cell 8 rfl 0 Eh;have zf:=tO S1.out.core 97;go_wp2_with fail;refine ET (U1 U _ _ _) U ?_;have S4:=S1.out.wU 0 (S1.out.core.ok.wU X);exact⟨U,⟨_,0,[],X,by rw[fc];exact S4.1,c.samples,0,c.T,.inl ⟨U,U⟩⟩,MM.out.trans S4.2⟩
 |true=>
  go_wp2_with fail;clear b1;generalize w.alloc (EJ #[Ec u,E I x0,E I x1,E I x2,E I x3,Ec gv] 46)=w1 at*;obtain⟨gb,hgb⟩:=En w.heap.size;rw[<-hgb] at KS⊢;clear hgb;clear c0;have WA:=O<|Ww S1.out.core.ok.ip;have sE:=S1.out.core.ok.ip;have y0: ∀y:Ext w1,(Ey w1 y).cell? ⟨gs,0,Z⟩=D (Y (D ⟨gc,0,Z⟩)):=fun y=>(S1.out.G (ED y)).IC;have y96: ∀y:Ext w1,(Ey w1 y).cell? ⟨gc,96,Z⟩=D (E I c.samples):=fun y=>(S1.out.G (ED y)).core.cell 7 rfl 0 Eh;refine J5 14 Ed Ed ?_;simp only[Ir,Im,IL,IG]
  repeat (first
   |go_big_quiet_skip
   |(go_big_quiet_want
     first
      |(go_big_quiet_op
        first
         |go_big_quiet_on
         |go_big_quiet_call (with_reducible refine X5 (uJ c.samples 4294967295 _ X X)))))
  refine IM ?_;intro _ hw';obtain⟨y9,rfl⟩:=hw';have Em:=ED y9;replace KS:=EQ KS Em;replace S1:=O<|S1.out.G Em;replace MM:=O<|MM.out.trans (Ex.Ew Em);clear y0 y96 Em sE;generalize Ey w1 y9=w2 at*;have zm:w2.cell? ⟨gc,96,Z⟩=D (E I c.samples):=S1.out.core.cell 7 rfl 0 Eh;have zf:=tO S1.out.core 96;obtain⟨sn,hsn⟩:=En (sat c.samples 4294967295);rw[<-hsn] at WA⊢;clear hsn;have SS:=S1.out.Lg sn (S1.out.core.ok.Lg WA.out);obtain⟨d0,d1,d2,hd,wN,-⟩:=S1.out.core.Ek;have dN:Ea (H (w2.setCell ⟨gc,96,Z⟩ (E I sn)) gb #[Ec u,E I x0,E I x1,E I x2,E I x3,Ec gv] 46):=O<|(J6 (g:=gc) (W:=w2) 96 (E I sn)).Ek KS.out (E5 KS.out wN Eb);have S2:Ea (E_ lo hi g gc gq gt gs {c with samples:=sn} ns rs (w2.setCell ⟨gc,96,Z⟩ (E I sn))):=O SS.1;have M2:Ea (Ex lo hi w (w2.setCell ⟨gc,96,Z⟩ (E I sn))):=O<|MM.out.trans SS.2;have z0:=S2.out.IC;have U7:(w2.setCell ⟨gc,96,Z⟩ (E I sn)).cell? ⟨gc,95,Z⟩=D (Y (D ⟨gt,0,Z⟩)):=S2.out.core.cell 6 rfl 0 Eh;clear SS wN KS S1 MM;go_wp2_with fail;clear zm zf;generalize w2.setCell ⟨gc,96,Z⟩ (E I sn)=w3 at*;refine(EUX gt c.T _ S2.out.core.tab S2.out.core.ok.T).mono ?_;rintro e4 w4 ⟨rfl,kt,ot⟩;have hok:({c.T with ZQ:=true,sa:=0,sm:=max c.T.E9 0}:EP).ok:=⟨S2.out.core.ok.T.s0,S2.out.core.ok.T.s1,S2.out.core.ok.T.s2⟩;have L_:({c.T with ZQ:=true,sa:=0,sm:=max c.T.E9 0}:EP).Xg:=⟨S2.out.core.ok.E9.E9,(TM.start S2.out.core.ok.E9:TM 0 (max c.T.E9 0)),fun i=>match i with|0=>S2.out.core.ok.E9.EY 0|1=>S2.out.core.ok.E9.EY 1|_+2=>S2.out.core.ok.E9.EY 2⟩;obtain⟨T1,hT1⟩:=En ({c.T with ZQ:=true,sa:=0,sm:=max c.T.E9 0}:EP);rw[<-hT1] at kt hok L_;have hS:=S2.out.wj ot T1 kt (S2.out.core.ok.wi hok L_);have KS:=O<|ot.Ek dN.out (E5 dN.out S2.out.core.tab Eb);have S1:=O hS.1;have MM:=O<|M2.out.trans hS.2;clear kt ot hok L_ hT1 hS z0 U7 dN S2 M2;go_wp2_with fail;obtain⟨d0,d1,d2,hd,KG,o0,o1,o2,-,-⟩:=S1.out.core.Ek;have Xm:=O<|Ox (c:={c with samples:=sn,T:=T1}) (gq:=gq) (gt:=gt) (hd:=hd) (JD g) o0 o1 o2 0 X;have KG:=O KG;have PL:=O<|JD g;have XO:Ea ((EK 56 g).toList.toArray=EK 56 g):=O Eh;clear o0 o1 o2;have y0: ∀y:Ext w4,(Ey w4 y).cell? ⟨gs,0,Z⟩=D (Y (D ⟨gc,0,Z⟩)):=fun y=>(S1.out.G (ED y)).IC;have y97: ∀y:Ext w4,(Ey w4 y).cell? ⟨gc,97,Z⟩=D (E I c.beyond):=fun y=>(S1.out.G (ED y)).core.cell 8 rfl 0 Eh;have tu:=O S1.out.core.ok.jy;refine Xs Ed Ed ?_
  repeat (first
   |go_big_quiet_skip
   |(go_big_quiet_want
     first
      |(refine Zj (T:=28) (g:=gc) (off:=0) XY _ rfl rfl KG 0 rfl Xm.out PL.out ?_;(try rw[XO.out]);go_simp;go_big_quiet_on)
      |(refine Ub (T:=46) (g:=gb) Cw _ rfl rfl KS ?_ ?_;(·rfl);go_simp;go_big_quiet_on)
      |(go_big_quiet_op
        first
         |go_big_quiet_on
         |go_big_quiet_call (with_reducible refine ag (CSE.out c.beyond tu.out _)))))
  refine IM ?_;intro _ hw';obtain⟨y9,rfl⟩:=hw';have Em:=ED y9;replace KS:=EQ KS Em;replace S1:=O<|S1.out.G Em;replace MM:=O<|MM.out.trans (Ex.Ew Em);clear y0 y97 Em KG Xm PL XO;generalize Ey w4 y9=w5 at*;have HR2:=O<|EfM (mb:=(mb:Int)) Wz.out tu.out u x0 x1 x2 x3;obtain⟨rn,hrn⟩:=En ((nV (ms:Int) mb c.beyond u x0 x1 x2 x3).1);obtain⟨ov,hov⟩:=En ((nV (ms:Int) mb c.beyond u x0 x1 x2 x3).2);rw[<-hrn] at HR2⊢;rw[<-hov];clear hrn hov CSE Wz tu;have zm:w5.cell? ⟨gc,97,Z⟩=D (E I c.beyond):=S1.out.core.cell 8 rfl 0 Eh;have zf:=tO S1.out.core 97;have z0:=S1.out.IC;have SS:=S1.out.wU rn (S1.out.core.ok.wU HR2.out);obtain⟨d0,d1,d2,hd,wN,-⟩:=S1.out.core.Ek;have dN:Ea (H (w5.setCell ⟨gc,97,Z⟩ (E I rn)) gb #[Ec u,E I x0,E I x1,E I x2,E I x3,Ec gv] 46):=O<|(J6 (g:=gc) (W:=w5) 97 (E I rn)).Ek KS.out (E5 KS.out wN Eb);have S2:Ea (E_ lo hi g gc gq gt gs {c with samples:=sn,T:=T1,beyond:=rn} ns rs (w5.setCell ⟨gc,97,Z⟩ (E I rn))):=O SS.1;have M2:Ea (Ex lo hi w (w5.setCell ⟨gc,97,Z⟩ (E I rn))):=O<|MM.out.trans SS.2;obtain⟨hh,jQ⟩:=En c.tok.h;have y0:=S2.out.IC;have Cu:(w5.setCell ⟨gc,97,Z⟩ (E I rn)).cell? ⟨gc,56,Z⟩=D (E I hh):=by rw[jQ];exact S2.out.core.cell 1 rfl 0 XV
  have y5:(w5.setCell ⟨gc,97,Z⟩ (E I rn)).cell? ⟨gb,5,Z⟩=D (Ec gv):=(H.cell dN.out 5).trans U;clear SS wN KS S1 MM jQ;by_cases h0:hh=0
  ·have t0:(hh==0)=u:=tx;clear h0;cases gv with
   |true=> go_wp2_with fail;generalize w5.setCell ⟨gc,97,Z⟩ (E I rn)=w6 at*;have MM:=M2;refine(EfT lo hi g gc gq gt gs _ ns rs _ S2.out HN.out HL.out).mono ?_;rintro e9 w9 ⟨rfl,⟨c',m,new,h1,s9,h9⟩,m9⟩;have S8:=O s9;replace MM:=O<|MM.out.trans m9;clear s9 m9;go_wp2_with fail;go_end0;exact⟨U,⟨c',m,new,h1,S8.out,_,_,_,.inr h9⟩,MM.out⟩
   |false=> go_wp2_with (with_reducible refine wL Cw dN ?_);generalize w5.setCell ⟨gc,97,Z⟩ (E I rn)=w6 at*;have MM:=M2;refine(Ef0 lo hi g gc gq gt gs _ ns rs u B x0 x1 x2 x3 _ S2.out HX.out HN.out HL.out).mono ?_;rintro e9 w9 ⟨rfl,⟨c',m,new,h1,s9,h9⟩,m9⟩;have S8:=O s9;replace MM:=O<|MM.out.trans m9;clear s9 m9;go_wp2_with fail;go_end0;exact⟨U,⟨c',m,new,h1,S8.out,_,_,_,.inr h9⟩,MM.out⟩
  ·have t0:(hh==0)=B:=tx;clear h0;cases ov with
   |true=> go_wp2_with fail;generalize w5.setCell ⟨gc,97,Z⟩ (E I rn)=w6 at*;have MM:=M2;refine(EfV lo hi g gc gq gt gs _ ns rs _ S2.out HN.out HL.out).mono ?_;rintro e9 w9 ⟨rfl,⟨c',m,new,h1,s9,h9⟩,m9⟩;have S8:=O s9;replace MM:=O<|MM.out.trans m9;clear s9 m9;go_wp2_with fail;go_end0;exact⟨U,⟨c',m,new,h1,S8.out,_,_,_,.inr h9⟩,MM.out⟩
   |false=> go_wp2_with fail;go_end0;exact⟨U,⟨_,0,[],X,by rw[fc];exact S2.out,_,_,_,.inl ⟨U,U⟩⟩,M2.out⟩
theorem ME:(⟨2,4,0⟩:XD).ok:=⟨nP,nP,nP⟩
theorem Ef4:(⟨3,4,0⟩:XD).ok:=⟨nP,nP,nP⟩
theorem MI(a b:Int):Tryz.prog.built 36 [(0,E I a),(1,E I b)]=D #[E I a,E I b,E I 0]:=Ed
def wP(c c':EB)(new:List Rec):Prop:=
 (∃L' a m,(c.tok.nG a m).ok/\c'={c with tok:=c.tok.nG a m,q:=L'}/\new=[])
 \/(∃L' t2 how md b,t2.ok/\t2.o= -1/\c.tok.e<=t2.e/\0<=md/\md<=4/\(b=⟨2,4,0⟩\/b=⟨3,4,0⟩)/\c'={c with tok:=t2,q:=L',mode:=md,Em:=b,pt:=c.pt.hold b}/\new=[⟨8,t2.h,0,t2.e,0,how⟩])
theorem WB(h:t.ok):t.bT.ok/\t.bT.o= -1/\t.e<=t.bT.e:=by
 have he:=h.e;unfold EG.bT;refine⟨Lj h ⟨Eb,Eb⟩ ?_,U,?_⟩
 ·split;·exact Ww he
  ·exact he
 ·show t.e<=(if t.h≠4 then sat t.e 65535 else t.e);split;·unfold sat;split<;>omega
  ·exact ZB _
theorem Ef5{how:Int}(ht:t.ok)(h:qj t t2 how):(how=0/\ ∃a m,t2=t.nG a m/\(t.nG a m).ok)\/((how=6\/how=5)/\t2.ok/\t2.o= -1/\t.e<=t2.e):=by
 rcases h with⟨rfl,a,m,h1,h2,h3,h4,rfl⟩|⟨rfl,-,-,rfl⟩|⟨rfl,-,h3,s,h4,h5,-,rfl⟩;·exact .inl ⟨U,a,m,U,⟨ht.h,ht.e,ht.o,ht.oa,ht.om,⟨h1,h2⟩,⟨h3,h4⟩,ht.off⟩⟩
 ·exact .inr ⟨.inl U,WB ht⟩
 ·exact .inr ⟨.inr U,Lj ht ⟨h4,X⟩ ⟨by have:=ht.e;omega,X⟩,U,by show t.e<=t.e+1;omega⟩
theorem wQ(w:M):Ef EU 44 #[] w fun e w'=>e=Eg (EZ #[E I 2,E I 4,E I 0])/\El w w':=by have BL:=O<|MI 2 4;have K0:=O<|H.new w #[E I 0,E I 0,E I 0] 36;have b2:=Ep w (EJ #[E I 0,E I 0,E I 0] 36);go_enter Tryz.func44,Tryz.ntmps44;go_wp2_with (first|((with_reducible refine Is 1 ?_);refine I3 rfl 36 _ rfl #[E I 2,E I 4,E I 0] BL.out ?_)|(with_reducible refine wA L7 ?_)|(with_reducible refine wS (cs:= #[E I 2,E I 4,E I 0]) fo K0 ?_ (h1:=Us)));refine ET (Jl fo U _ _ w.heap.size _ U (K0.out.setRow #[E I 2,E I 4,E I 0]) U) U ⟨U,E3 (g:=w.heap.size) b2 (E7 _) _⟩
theorem WC(lo hi:Nat)(g:Nat->V)(gc gq gt gs:Nat)(c:EB)(ns:Nat)(rs:List Rec)(w:M)(S:E_ lo hi g gc gq gt gs c ns rs w)(hn:ns<800000)(hl:rs.length<800000): Ef EU 106 #[Y (D ⟨gs,0,Z⟩)] w fun e w'=>e=Eg (Et #[])/\(∃c' m new,m<=3/\E_ lo hi g gc gq gt gs c' (ns+m) (rs++new) w'/\wP c c' new)/\Ex lo hi w w':=by
 obtain⟨pl,hpl,vS⟩:=S.core.ZJ.fit 43 X X;have WF:0<=(pl:Int)/\(pl:Int)<=1000:=by have h2:=vS.2.1;unfold U2 at h2;simp at h2;omega
 obtain⟨th,hth⟩:=En (c.T.Zu c.tok.h);have ZL:=fun W q=>Ec8 lo gq c.q (pn g 48) g pl hpl WF c.tok S.core.ok.tok th W S.core.lq q S.core.ok.q;obtain⟨md,hmd,Cx⟩:=S.core.ZJ.fit 40 X X;have wR:Ea (0<=(md:Int)/\(md:Int)<=4):=O WG;have tr:Ea (∀c ns rs W,E_ lo hi g gc gq gt gs c ns rs W->W.cell? ⟨gc,40,Z⟩=D (E I (md:Int))):=O (fun c ns rs W s=>by have h:W.cell? ⟨gc,40,Z⟩=(EK 56 g).toList[40]?:=s.core.cell 0 rfl 40 Eh;rw[h,show(EK 56 g).toList[40]?=D (g 40) from ky,hmd]);clear hmd Cx;obtain⟨ml,hml,WH⟩:=S.core.ZJ.fit 41 X X;have MJ:Ea (0<=(ml:Int)/\(ml:Int)<=4):=O (by have h2:=WH.2.1;unfold U2 at h2;simp at h2;omega);have dC:Ea (∀c ns rs W,E_ lo hi g gc gq gt gs c ns rs W->W.cell? ⟨gc,41,Z⟩=D (E I (ml:Int))):=O (fun c ns rs W s=>by have h:W.cell? ⟨gc,41,Z⟩=(EK 56 g).toList[41]?:=s.core.cell 0 rfl 41 Eh;rw[h,show(EK 56 g).toList[41]?=D (g 41) from ky,hml]);clear hml WH;obtain⟨Iq,Uw,Xk,Zb⟩: ∃Iq,c.tok.a=EZ Iq/\Ea (Iq.size=8)/\Ea (c.tok.v.toArray=Iq):=⟨_,U,O U,O U⟩;obtain⟨pv,hpv,wn,Lq⟩: ∃pv,EK 56 g=pv/\Ea (pv.size=56)/\Ea ((EK 56 g).toList.toArray=pv):=⟨_,U,O ky,O Eh⟩;have tz:=wR;have S1:=O S;have HN:=O hn;have HL:=O hl;have MM:=O<|Ex.refl lo hi w;have HTH:=O hth;clear S hn hl hpl vS WF hth wR;have CA:Ea (∀W,Jr W lo gq c.q (pn g 48)->Ef EU 151 #[EZ pv,EZ Iq,Y (D ⟨gq,0,Z⟩),Ec th] W _):=O (fun W q=>VD);obtain⟨PQ,hPQ⟩: ∃PQ:Array V->Int->Prop,PQ=fun rv how=> ∃t2:EG,t2.a=EZ rv/\rv.size=8/\rv.all (·.oneCell')=u/\qj c.tok t2 how:=⟨_,U⟩;have qt:Ea (∀(t2:EG) (rv:Array V) (how:Int),t2.a=EZ rv->rv.size=8->rv.all (·.oneCell')=u->qj c.tok t2 how->PQ rv how):=O (fun t2 rv how h1 h2 h3 h4=>Ca);have qu:Ea (∀rv how,PQ rv how->rv.size=8/\rv.all (·.oneCell')=u):=O (fun rv how h=>Cb);replace hPQ:=O hPQ;clear ZL Uw hpv;go_enter Tryz.func106,Tryz.ntmps106;go_wp2_with fail;have y0: ∀y:Ext w,(Ey w y).cell? ⟨gs,0,Z⟩=D (Y (D ⟨gc,0,Z⟩)):=fun y=>(S1.out.G (ED y)).IC;have y95: ∀y:Ext w,(Ey w y).cell? ⟨gc,95,Z⟩=D (Y (D ⟨gt,0,Z⟩)):=fun y=>(S1.out.G (ED y)).core.cell 6 rfl 0 Eh;have Cu: ∀y:Ext w,(Ey w y).cell? ⟨gc,56,Z⟩=D (E I c.tok.h):=fun y=>(S1.out.G (ED y)).core.cell 1 rfl 0 XV;have TB:=O S1.out.core.tab;have Cm:=O S1.out.core.ok.T;refine Xs Ed Ed ?_
 repeat (first
  |go_big_quiet_skip
  |(go_big_quiet_want
    first
     |(go_big_quiet_op
       first
        |go_big_quiet_on
        |go_big_quiet_call (with_reducible refine X5 (nI gt c.T c.tok.h _ (TB.out.G (ED _)) Cm.out)))))
 refine IM ?_;intro _ hw';obtain⟨y9,rfl⟩:=hw';have Em:=ED y9;replace S1:=O<|S1.out.G Em;replace MM:=O<|MM.out.trans (Ex.Ew Em);clear y0 y95 Cu Em TB Cm;generalize Ey w y9=w1 at*;rw[<-HTH.out];obtain⟨n0,hn0⟩:=En w1.heap.size;have X0:=O (show lo<=n0/\hi<=n0/\w.heap.size<=n0 from nM);go_wp2_with fail;refine iF (Ph:=fun p wq=>n0<=wq.heap.size/\(match p with|0=>(E_ lo hi g gc gq gt gs c ns rs wq/\Ex lo hi w wq)|_=>(∃L':List One,E_ lo hi g gc gq gt gs {c with q:=L'} ns rs wq/\Ex lo hi w wq))) (Rel:=Oa) (Ij:=lC) [kp gs 0,kp gs 0,kp gs 0,kp gc 0,kp gc 0,kp gc 0,kq (EZ pv),kp gs 0,kp gs 0,kp gs 0,kp gc 0,kp gc 0,kp gc 56,kq (EZ Iq),kp gs 0,kp gs 0,kp gs 0,kp gc 0,kp gc 0,kp gc 64,kp gq 0,kq (Ec th),.val (fun v=> ∃(rv:Array V) (how:Int),PQ rv how/\v=Et #[EZ rv,E I how]),.val (fun v=> ∃(rv:Array V) (how:Int),PQ rv how/\v=Et #[EZ rv,E I how]),.bC [23,24] (fun x=> ∃(rv:Array V) (how:Int),PQ rv how/\x 23=Et #[EZ rv,E I how]/\x 24=EZ rv) (fun x y hq h=>by simpa only[hq 23 Eh,hq 24 Eh] using h),.bC [23,25] (fun x=> ∃(rv:Array V) (how:Int),PQ rv how/\x 23=Et #[EZ rv,E I how]/\x 25=E I how) (fun x y hq h=>by simpa only[hq 23 Eh,hq 25 Eh] using h),.dep (aO n0) (fun v w w' h hr=>h.G hr) (fun v w w' h hr=>h.iG hr),.tie [26,24] (fun x w=> ∃(b:Nat) (rv:Array V),x 26=Y (D ⟨b,0,Z⟩)/\x 24=EZ rv/\n0<=b/\H w b rv 109) (fun x w w' h hr=>Cc) (fun x y w hq h=>by rw[hq 26 Eh,hq 24 Eh] at h;exact h),.bC [25,28] (fun x=>x 28=x 25) (fun x y hq h=>by simpa only[hq 25 Eh,hq 28 Eh] using h)] [B,B,B,B,B,B,B,B,B,B,B,B,B,B,B,B,B,B,B,B,B,B,B,B,B,B,B,u,B] U [[],[],[],[],[],[],[],[],[],[],[],[],[],[],[],[],[],[],[],[],[],[],[],[],[23,24],[23,25],[],[26,24],[25,28]] U [22,27] [(0,0),(0,0),(0,0),(0,0),(0,0),(0,0),(0,0),(0,0),(0,0),(0,0),(0,0),(0,0),(0,0),(0,0),(0,0),(0,0),(0,0),(0,0),(0,0),(0,0),(0,0),(0,0),(0,0),(1,1),(1,1),(1,2),(0,1),(1,1),(2,2)] Ed Ed Ed Ed Ed Ed U_ Ed ?hPh ?h0 ?hstep ?hend
 case hPh=>
  intro p w2 w3 h hr;match p,h with
  |0,h=>exact⟨EA h.1 (XJ hr),h.2.1.G hr,h.2.2.trans (Ex.Ew hr)⟩
  |_+1,h=> obtain⟨nn,L',s,m⟩:=h;exact⟨EA nn (XJ hr),L',s.G hr,m.trans (Ex.Ew hr)⟩
 case h0=> exact EoG
 case hstep=>
  refine⟨?_,?_,?_,?_,?_,?_,?_,?_,?_,?_,?_,?_,?_,?_,?_,?_,?_,?_,?_,?_,?_,?_,?_,?_,?_,?_,?_,?_,?_,trivial⟩;all_goals first|intro xv wq p hlo hhi hp hd|intro xv wq hp hd
  all_goals simp only[EL,In,Ip,Ig,Ih]
  ·exact Elu
  ·exact ElN
  ·exact ElM
  ·exact Elw
  ·exact ElL
  ·exact El8
  ·exact EmW
  ·exact Elu
  ·exact Emn
  ·exact Emm
  ·exact EmE
  ·exact Emi
  ·exact Emh
  ·exact EmH
  ·exact Elu
  ·exact EoA
  ·exact Eoz
  ·exact Enm
  ·exact Enh
  ·exact Eoy
  ·exact EnI
  ·exact Elu
  ·have d6:xv 6=EZ pv:=hd.at 6 rfl;have d13:xv 13=EZ Iq:=hd.at 13 rfl;have d20:xv 20=Y (D ⟨gq,0,Z⟩):=hd.at 20 rfl;have d21:xv 21=Ec th:=hd.at 21 rfl;refine JR (f:=151) (args:= #[xv 6,xv 13,xv 20,xv 21]) (Ei U) Ez ?_;rw[d6,d13,d20,d21];refine(CA.out wq hp.2.1.core.Z2).mono fun e w2 h=> ?_;obtain⟨⟨t2,how,L2,he,hf,sq,q2⟩,m2⟩:=h;obtain⟨rv,IH,hs,ho⟩:=ZH t2;exact⟨_,he,⟨m2.iG,EA hp.1 m2.bel.size,L2,hp.2.1.gH m2 L2 q2 (hp.2.1.core.ok.sub sq),hp.2.2.trans (m2.jB hi)⟩,rv,how,qt.out t2 rv how IH hs ho hf,congrArg (fun v=>Value.tuple #[v,E I how]) IH⟩
  ·obtain rfl:p=1:=X;obtain⟨rv,how,hpq,e22⟩: ∃(rv:Array V) (how:Int),PQ rv how/\xv 22=Et #[EZ rv,E I how]:=hd.at 22 rfl;exact Es (by simp[go_sem,e22]) ⟨rv,how,hpq,U⟩
  ·obtain rfl:p=1:=X;exact EnZ
  ·exact EnZ
  ·exact EmD
  ·obtain⟨b,d0,eA,lb,h8,kb⟩:aO n0 (xv 26) wq:=hd.at 26 rfl;have nh:=X0.out;obtain⟨rv,how,hpq,-,e24⟩: ∃(rv:Array V) (how:Int),PQ rv how/\xv 23=Et #[EZ rv,E I how]/\xv 24=EZ rv:=hd.at 24 rfl;have hsz:=qu.out _ _ hpq;obtain⟨nn,L',s,m⟩:=hp;refine db EV (Ei U) ⟨U,eA,e24⟩ kb h8 hsz.1 hsz.2 ⟨tX kb hsz.1,?_⟩ ⟨b,rv,eA,e24,lb,kb.setRow _⟩;exact Epg
  ·obtain rfl:p=2:=X;obtain⟨rv,how,hpq,-,e25⟩: ∃(rv:Array V) (how:Int),PQ rv how/\xv 23=Et #[EZ rv,E I how]/\xv 25=E I how:=hd.at 25 rfl;exact Es Ci (e25.symm)
 case hend=>
  intro xv W6 hp hd;clear S1 MM;simp only[EL,In,Ip,Ig,Ih];obtain⟨rv,how,hpq,eM,e24⟩: ∃(rv:Array V) (how:Int),PQ rv how/\xv 23=Et #[EZ rv,E I how]/\xv 24=EZ rv:=hd 24 Eb;obtain⟨b,iH,eA,eE,lb,kb⟩: ∃(b:Nat) (rv:Array V),xv 26=Y (D ⟨b,0,Z⟩)/\xv 24=EZ rv/\n0<=b/\H W6 b rv 109:=hd 27 Eb;have qx:iH=rv:=by rw[eE] at e24;injection e24
  subst qx;have a28:xv 28=E I how:=by have h1:xv 28=xv 25:=hd 28 Eb;obtain⟨Cg,Ekt,-,f1,f2⟩: ∃(rv:Array V) (how:Int),PQ rv how/\xv 23=Et #[EZ rv,E I how]/\xv 25=E I how:=hd 25 Eb;exact Eno
  obtain⟨-,L',s6,m6⟩:=hp;have S1:=O s6;have MM:=O m6;have KB:=O kb;rw[eA,a28];rw[hPQ.out] at hpq;obtain⟨t2,IH,hs,ho,hf⟩:=hpq;have Uv:=O IH;have RS:=O hs;have RO:=O ho;have aJ:Ea (iH.toList=t2.v):=O MO;have hcs:=Ef5 S1.out.core.ok.tok hf;clear s6 m6 kb hd eA a28 CA IH hs ho hf eM eE;rcases hcs with⟨rfl,a,m,ht2,hok2⟩|⟨Ef7,hok2⟩
  ·have HT2:=O ht2;have Ef8:Ea t2.ok:=O (by rw[ht2];exact hok2);have Ef9:=O hok2;clear ht2 hok2;go_wp2_with fail;have y0: ∀y:Ext W6,(Ey W6 y).cell? ⟨gs,0,Z⟩=D (Y (D ⟨gc,0,Z⟩)):=fun y=>(S1.out.G (ED y)).IC;refine J5 7 Ed Ed ?_;simp only[Ir,Im,IL,IG]
   repeat (first
    |go_big_quiet_skip
    |(go_big_quiet_want
      first
       |(refine Ub (T:=109) (g:=b) EV _ rfl rfl KB ?_ ?_;(·exact RS.out);go_simp;go_big_quiet_on)
       |(go_big_quiet_op
         first
          |go_big_quiet_on
          |go_big_quiet_call (fail))))
   refine IM ?_;intro _ hw';obtain⟨y9,rfl⟩:=hw';have Em:=ED y9;replace KB:=EQ KB Em;replace S1:=O<|S1.out.G Em;replace MM:=O<|MM.out.trans (Ex.Ew Em);clear y0 Em;generalize Ey W6 y9=w9 at*;have TH:=O<|cV S1.out.core 1 rfl 8 XV;go_wp2_with ((with_reducible refine JE 109 ?_);(with_reducible refine OH U 109 _ _ U gc 56 iH ?_ ?_ ?_ ?_ ?_ ?_);(·rfl);(·rfl);(·rw[RS.out];exact TH.out);(·rw[RS.out];exact EV.2);(·exact RO.out);refine Ev.mk ?_);apply Eo;rw[aJ.out];have S4:=S1.out.aA t2 (S1.out.core.ok.aA Ef8.out);obtain⟨d0,d1,d2,hd,KG,-⟩:=S1.out.core.Ek;replace KB:=O<|(Jq (g:=gc) t2.v 56 w9).Ek KB.out (E5 KB.out KG Eb);replace S1:=O S4.1;replace MM:=O<|MM.out.trans S4.2;clear S4 TH KG;generalize w9.setCells gc 56 t2.v=UD at*;go_wp2_with fail;refine ET (U1 U _ _ _) U ?_;refine⟨U,⟨_,0,X,[],tA,.inl ⟨L',a,m,Ef9.out,?_,U⟩⟩,MM.out⟩;rw[HT2.out]
  ·have HT2:=O hok2;clear hok2;rcases Ef7 with rfl|rfl
   ·go_wp2_with (with_reducible refine wL EV KB ?_ (hn:=RS.out));rw[<-Uv.out];refine(nK lo hi g gc gq gt gs _ ns rs t2 6 0 _ S1.out HT2.out.1 Ob JS).mono ?_;rintro e7 w7 ⟨rfl,⟨L2,m7,XS,sq,s7⟩,Xl⟩;replace S1:=O s7;replace MM:=O<|MM.out.trans Xl;have nN:=O XS;clear s7 Xl sq XS KB;go_wp2_with fail;have y0: ∀y:Ext w7,(Ey w7 y).cell? ⟨gs,0,Z⟩=D (Y (D ⟨gc,0,Z⟩)):=fun y=>(S1.out.G (ED y)).IC;have wT: ∀y:Ext w7,(Ey w7 y).cell? ⟨gc,40,Z⟩=D (E I (md:Int)):=fun y=>tr.out _ _ _ _ (S1.out.G (ED y));refine J5 10 Ed Ed ?_;simp only[Ir,Im,IL,IG]
    repeat (first
     |go_big_quiet_skip
     |(go_big_quiet_want
       first
        |(go_big_quiet_op
          first
           |go_big_quiet_on
           |go_big_quiet_call (with_reducible refine ag (wQ _)))))
    refine IM ?_;intro _ hw';obtain⟨y9,rfl⟩:=hw';have Em:=ED y9;replace S1:=O<|S1.out.G Em;replace MM:=O<|MM.out.trans (Ex.Ew Em);clear y0 wT Em;generalize Ey w7 y9=fu at*;go_wp2_with fail;refine(BY lo hi g gc gq gt gs _ _ _ md ⟨2,4,0⟩ _ S1.out tz.out ME).mono ?_;rintro e21 dP ⟨rfl,iR,m21⟩;have S8:=O iR;replace MM:=O<|MM.out.trans m21;clear iR m21;go_wp2_with fail;go_end0;exact⟨U,⟨_,m7,_,qp,S8.out,.inr ⟨L2,t2,6,md,_,HT2.out.1,HT2.out.2.1,HT2.out.2.2,tz.out.1,tz.out.2,.inl U,U,U⟩⟩,MM.out⟩
   ·go_wp2_with (with_reducible refine wL EV KB ?_ (hn:=RS.out));rw[<-Uv.out];refine(nK lo hi g gc gq gt gs _ ns rs t2 5 0 _ S1.out HT2.out.1 Ob JS).mono ?_;rintro e7 w7 ⟨rfl,⟨L2,m7,XS,sq,s7⟩,Xl⟩;replace S1:=O s7;replace MM:=O<|MM.out.trans Xl;have nN:=O XS;clear s7 Xl sq XS KB;have z0:=S1.out.IC;have z41:=dC.out _ _ _ _ S1.out;have BL:=O<|MI 3 4;go_wp2_with ((with_reducible refine Is 71 ?_);refine I3 U 36 _ U #[E I 3,E I 4,E I 0] BL.out ?_);refine(BY lo hi g gc gq gt gs _ _ _ ml ⟨3,4,0⟩ _ S1.out MJ.out Ef4).mono ?_;rintro e21 dP ⟨rfl,iR,m21⟩;have S8:=O iR;replace MM:=O<|MM.out.trans m21;clear iR m21;go_wp2_with fail;go_end0;exact⟨U,⟨_,m7,_,qp,S8.out,.inr ⟨L2,t2,5,ml,_,HT2.out.1,HT2.out.2.1,HT2.out.2.2,MJ.out.1,MJ.out.2,.inr U,U,U⟩⟩,MM.out⟩
def EG.v7(t:EG):List V:=[E I t.h,E I t.e,E I t.o,E I t.oa,E I t.om,E I t.la,E I t.lm]
theorem E_.Ef_{lo hi:Nat}{g:Nat->V}{gc gq gt gs:Nat}{ns:Nat}{rs:List Rec}(S:E_ lo hi g gc gq gt gs c ns rs W)(b:Bool):E_ lo hi g gc gq gt gs {c with tok:={c.tok with bad:=b}} ns rs (W.setCell ⟨gc,63,Z⟩ (Ec b))/\Ex lo hi W (W.setCell ⟨gc,63,Z⟩ (Ec b)):=
 S.set (J6 _ _) U U (S.core.ok.aA ⟨S.core.ok.tok.h,S.core.ok.tok.e,S.core.ok.tok.o,S.core.ok.tok.oa,S.core.ok.tok.om,S.core.ok.tok.la,S.core.ok.tok.lm,S.core.ok.tok.off⟩) fun d0 d1 d2 hd K o0 o1 o2=>by
  have hl: ∀x:Bool,(aw (EK 56 g).toList {c with tok:={c.tok with bad:=x}} gq gt d0 d1 d2 hd).flatten=((EK 56 g).toList++c.tok.v7)++([Ec x]++(aw (EK 56 g).toList c gq gt d0 d1 d2 hd).tail.tail.flatten):=fun x=>by simp[aw,EG.v,EG.v7]
  have K2:H W gc (((EK 56 g).toList++c.tok.v7)++([Ec c.tok.bad]++(aw (EK 56 g).toList c gq gt d0 d1 d2 hd).tail.tail.flatten)).toArray 120:=by rw[<-hl];exact K
  have K3:=Zp (post:=(aw (EK 56 g).toList c gq gt d0 d1 d2 hd).tail.tail.flatten) [Ec b] [Ec c.tok.bad] ((EK 56 g).toList++c.tok.v7) 63 W K2 U (by rw[I2,JD];rfl);rw[<-hl] at K3;exact K3
theorem wV{c:Nat}{L:List One}{x:One}(h:w.ownsRow base 133 4 (EI A n c) n (U5 L))(hx:L[i]?=D x)(hn:L.length=n): ∃(g:Nat) (cur:Array V),A=D ⟨g,0,Z⟩/\H w g cur 133/\cur.extract (i*4) (i*4+4)= #[E I x.s,E I x.r,E I x.a,E I x.m]:=by
 have hi:=(UG.1 hx).1;obtain⟨h1,⟨-,h2⟩|⟨g,cap,cur,hv,hg,hh,hnc,hcm,hcs,ht⟩⟩:=h;·omega
 ·injection hv with e1;refine⟨g,cur,e1,hh,?_⟩;have hs:cur.toList.take (n*4)=U5 L:=ht
  have hsp:U5 L=U5 (L.take i)++([E I x.s,E I x.r,E I x.a,E I x.m]++U5 (L.drop (i+1))):=by
   conv=>lhs;rw[<-hU i L,kJ hi]
   have ex:L[i]=x:=(UG.1 hx).2;simp[U5,ex]
  have EgE:cur.toList=U5 (L.take i)++([E I x.s,E I x.r,E I x.a,E I x.m]++(U5 (L.drop (i+1))++cur.toList.drop (n*4))):=by
   conv=>lhs;rw[<-hU (n*4) cur.toList,hs,hsp]
   simp
  have e:=Hg (U5 (L.take i)) [E I x.s,E I x.r,E I x.a,E I x.m] (U5 (L.drop (i+1))++cur.toList.drop (n*4)) (i*4) 4 (by rw[EcS,aj];omega) U;rw[<-EgE] at e;simpa using e
theorem jR:IW EU 133 4:=⟨⟨_,Tryz.underlying133,U⟩,Ed⟩
theorem wW:Od EU 133 #[E I 0,E I 0,E I 0,E I 0]:=by exact El7
def qN(b:Bool)(c c':EB)(new:List Rec):Prop:=
 (b=B/\c'={c with tok:={c.tok with bad:=false}}/\new=[])
 \/(b=u/\ ∃L' t2 md,t2.ok/\t2.o= -1/\c.tok.e<=t2.e/\c'={c with tok:=t2,q:=L',mode:=md,Em:=⟨2,4,0⟩,pt:=c.pt.hold ⟨2,4,0⟩}/\((new=[]/\c.tok.h=4)\/new=[⟨8,t2.h,0,t2.e,0,6⟩]))
theorem wP.len(h:wP c c' new):new.length<=1:=by rcases h with⟨_,_,_,_,_,rfl⟩|⟨_,_,_,_,_,_,_,_,_,_,_,_,rfl⟩<;>simp
theorem EgI(lo hi:Nat)(g:Nat->V)(gc gq gt gs:Nat)(c:EB)(ns:Nat)(rs:List Rec)(bad:Bool)(w:M)(S:E_ lo hi g gc gq gt gs c ns rs w)(hn:ns<800000)(hl:rs.length<800000): Ef EU 73 #[Y (D ⟨gs,0,Z⟩),Ec bad] w fun e w'=>e=Eg (Et #[])/\(∃c' m new,m<=9/\E_ lo hi g gc gq gt gs c' (ns+m) (rs++new) w'/\qN bad c c' new)/\Ex lo hi w w':=by
 obtain⟨md,hmd,Cx⟩:=S.core.ZJ.fit 40 X X;have wR:Ea (0<=(md:Int)/\(md:Int)<=4):=O WG;have tr:Ea (∀c ns rs W,E_ lo hi g gc gq gt gs c ns rs W->W.cell? ⟨gc,40,Z⟩=D (E I (md:Int))):=O (fun c ns rs W s=>by have h:W.cell? ⟨gc,40,Z⟩=(EK 56 g).toList[40]?:=s.core.cell 0 rfl 40 Eh;rw[h,show(EK 56 g).toList[40]?=D (g 40) from ky,hmd]);clear hmd Cx;have tz:=wR;have S1:=O S;have HN:=O hn;have HL:=O hl;have z0:=S1.out.IC;have z63:w.cell? ⟨gc,63,Z⟩=D (Ec c.tok.bad):=S1.out.core.cell 1 rfl 7 XV;have zf:=tO S1.out.core 63;have SB:=S1.out.Ef_ bad;replace S1:Ea (E_ lo hi g gc gq gt gs {c with tok:={c.tok with bad:=bad}} ns rs (w.setCell ⟨gc,63,Z⟩ (Ec bad))):=O SB.1;have MM:Ea (Ex lo hi w (w.setCell ⟨gc,63,Z⟩ (Ec bad))):=O SB.2;have zz0:=S1.out.IC;have EgO:(w.setCell ⟨gc,63,Z⟩ (Ec bad)).cell? ⟨gc,56,Z⟩=D (E I c.tok.h):=S1.out.core.cell 1 rfl 0 XV;obtain⟨tk,htk⟩:=En ({c.tok with bad:=bad}:EG);have HE:Ea (tk.e=c.tok.e/\tk.h=c.tok.h):=O (by rw[htk];exact⟨U,U⟩);rw[<-htk] at S1;have gu:=O htk;have CZ:=O<|fun W=>ur tk W (by have h:0<=tk.e/\tk.e<=65535:=S1.out.core.ok.tok.e;omega);obtain⟨Iq,Uw,Xk,Zb⟩: ∃Iq,tk.a=EZ Iq/\Ea (Iq.size=8)/\Ea (tk.v.toArray=Iq):=⟨_,U,O U,O U⟩;obtain⟨t2,ht2⟩:=En tk.bT;have HT2:Ea (t2.ok/\t2.o= -1/\tk.e<=t2.e):=O (by rw[ht2];exact WB S1.out.core.ok.tok);rw[<-ht2,Uw] at CZ;obtain⟨rv,IH,RS,RO⟩:=ZH t2;rw[IH] at CZ;have aJ:Ea (rv.toList=t2.v):=O MO;have RS:=O RS;have RO:=O RO;have Uv:=O IH;obtain⟨big,lT,UJ⟩:=bA S1.out.core;have lT:=O lT;have dH:Ea (big.extract 56 (56+8)=Iq):=O<|(UJ 1 tk.v U).trans Zb.out;clear S hn hl wR SB htk Uw ht2 IH UJ;go_enter Tryz.func73,Tryz.ntmps73;cases bad with
 |false=> go_wp2_with fail;refine ET (U1 U _ _ _) U ?_;rw[gu.out] at S1;first|exact⟨rfl,⟨_,0,[],X,tA,.inl ⟨rfl,rfl,rfl⟩⟩,MM.out⟩|exact⟨rfl,⟨_,0,X,[],tA,.inl ⟨rfl,rfl,rfl⟩⟩,MM.out⟩
 |true=>
  go_wp2_with (with_reducible refine wM (off:=56) (cs:=Iq) EV lT ?_ (hn:=Xk.out) (he:=dH.out));clear z0 z63 zf zz0 EgO lT dH;generalize w.setCell ⟨gc,63,Z⟩ (Ec u)=w5 at*;refine(CZ.out _).mono ?_;rintro e6 w6 ⟨rfl,b6⟩;replace S1:=O<|S1.out.G b6;replace MM:=O<|MM.out.trans (Ex.Ew b6);clear b6 CZ;have K0:=O<|H.new w6 #[E I 0,E I 0,E I 0,E I 0,E I 0,E I 0,E I 0,Ec B] 109;have b2:=Ep w6 (EJ #[E I 0,E I 0,E I 0,E I 0,E I 0,E I 0,E I 0,Ec B] 109);go_wp2_with (with_reducible first|refine wA lD ?_|refine wS (cs:=rv) EV K0 (Ev.mk ?_) (hn:=RS.out) (h1:=RO.out));apply Eo;obtain⟨b,hgm⟩:=En w6.heap.size;rw[<-hgm] at K0⊢;generalize w6.alloc (EJ #[E I 0,E I 0,E I 0,E I 0,E I 0,E I 0,E I 0,Ec B] 109)=w7 at*;have KB:=O<|K0.out.setRow rv;have b3:=E3 (g:=b) b2 (OQ hgm.symm) rv;generalize w7.setRow b rv=w8 at*;clear K0 b2 hgm;replace S1:=O<|S1.out.G b3;replace MM:=O<|MM.out.trans (Ex.Ew b3);clear b3;have z0:=S1.out.IC;have z56:w8.cell? ⟨gc,56,Z⟩=D (E I tk.h):=S1.out.core.cell 1 rfl 0 XV;obtain⟨hh,jQ⟩:=En tk.h;rw[<-jQ] at z56;have MX:=O jQ;clear jQ;by_cases h4:hh=4
  ·have H4:=O h4;have t4:(hh !=4)=B:=iI;clear h4;go_wp2_with fail;clear z0 z56;have y0: ∀y:Ext w8,(Ey w8 y).cell? ⟨gs,0,Z⟩=D (Y (D ⟨gc,0,Z⟩)):=fun y=>(S1.out.G (ED y)).IC;refine J5 7 Ed Ed ?_;simp only[Ir,Im,IL,IG]
   repeat (first
    |go_big_quiet_skip
    |(go_big_quiet_want
      first
       |(refine Ub (T:=109) (g:=b) EV _ rfl rfl KB ?_ ?_;(·exact RS.out);go_simp;go_big_quiet_on)
       |(go_big_quiet_op
         first
          |go_big_quiet_on
          |go_big_quiet_call (fail))))
   refine IM ?_;intro _ hw';obtain⟨y9,rfl⟩:=hw';have Em:=ED y9;replace KB:=EQ KB Em;replace S1:=O<|S1.out.G Em;replace MM:=O<|MM.out.trans (Ex.Ew Em);clear y0 Em;generalize Ey w8 y9=w9 at*;have TH:=O<|cV S1.out.core 1 rfl 8 XV;go_wp2_with ((with_reducible refine JE 109 ?_);(with_reducible refine OH U 109 _ _ U gc 56 rv ?_ ?_ ?_ ?_ ?_ ?_);(·rfl);(·rfl);(·rw[RS.out];exact TH.out);(·rw[RS.out];exact EV.2);(·exact RO.out);refine Ev.mk ?_);apply Eo;rw[aJ.out];have S4:=S1.out.aA t2 (S1.out.core.ok.aA HT2.out.1);obtain⟨d0,d1,d2,hd,KG,-⟩:=S1.out.core.Ek;replace KB:=O<|(Jq (g:=gc) t2.v 56 w9).Ek KB.out (E5 KB.out KG Eb);replace S1:=O S4.1;replace MM:=O<|MM.out.trans S4.2;clear S4 TH KG;generalize w9.setCells gc 56 t2.v=UD at*;obtain⟨L',hL'⟩:=En (c.q:List One);obtain⟨m,hm⟩:=En (0:Nat);obtain⟨new,hnew⟩:=En ([]:List Rec);have s10:E_ lo hi g gc gq gt gs {c with tok:=t2,q:=L'} (ns+m) (rs++new) UD:=by rw[hL',hm,hnew,fc];exact S1.out
   replace S1:=O s10;have HM:Ea (m<=3):=O X;have HO:=O<|show t2.o= -1/\c.tok.e<=t2.e from⟨HT2.out.2.1,WK⟩;have wY:Ea ((new=[]/\c.tok.h=4)\/new=[⟨8,t2.h,0,t2.e,0,6⟩]):=O (.inl ⟨hnew,by rw[<-HE.out.2,<-MX.out];exact H4.out⟩);clear s10 hL' hm hnew KB HT2 aJ Uv RS RO gu HE MX Xk Zb H4 t4;have z0:=S1.out.IC;have z64:jx _ ⟨gc,64,Z⟩=D (Y (D ⟨gq,0,Z⟩)):=S1.out.core.cell 2 rfl 0 Eh;go_wp2_with fail;refine(Ky lo gq _ (pn g 48) _ S1.out.core.Z2 S1.out.core.ok.q).mono ?_;rintro e8 w8 ⟨⟨v8,rfl,o8⟩,b8⟩;obtain⟨A,c8,rfl,-⟩:=Xy o8;have aI:=O<|h_ L';have tB:=O S1.out.core.ok.q;obtain⟨n,hn⟩:=En L'.length;obtain⟨SL,lV⟩:=En (Ju L');have qP:Ea (n<=3):=O MZ;rw[<-hn,<-lV] at o8 aI;rw[<-hn];have OA:=O o8;replace S1:=O<|S1.out.G b8;replace MM:=O<|MM.out.trans (Ex.Ew b8);generalize World.heap _=hz at o8;clear o8 b8 z0 z64 hn lV tB;go_wp2_with fail;go_loopw[53] (fun y wr=> ∃(i:Nat) (L2:List One) (m2:Nat),i<=n/\y=E I i/\m2<=i/\E_ lo hi g gc gq gt gs {c with tok:=t2,q:=L2} (ns+m+m2) (rs++new) wr/\Ex lo hi w wr/\ ∃base,wr.ownsRow base 133 4 (EI A n c8) n (U5 SL)) (fun y _=>n-(Iv y).toNat);case atStart=>exact⟨0,L',0,X,U,X,S1.out,MM.out,_,OA.out⟩
   case round=>
    obtain⟨i,L2,m2,w_,rfl,hm2,s9,m9,base,o9⟩:=hrel;replace S1:=O s9;replace MM:=O m9;replace OA:=O o9;have jL:=O hm2;clear s9 m9 o9 hm2;by_cases hlt:i<n
    ·have t1:decide ((i:Int)<(n:Int))=u:=Ib X;obtain⟨x,hx⟩: ∃x,SL[i]?=D x:=⟨SL[i]' Cy,Ok _⟩;obtain⟨gg,cur,rfl,ka,dQ⟩:=wV OA.out hx aI.out;have KA:=O ka;have dR:=O dQ;clear ka dQ hx;have K0:=O<|H.new wr #[E I 0,E I 0,E I 0,E I 0] 133;have b2:=Ep wr (EJ #[E I 0,E I 0,E I 0,E I 0] 133);go_wp2_with (with_reducible first|refine wM (off:=i*4) (cs:= #[E I x.s,E I x.r,E I x.a,E I x.m]) jR KA ?_ (he:=dR.out)|refine wA wW ?_|refine wS (cs:= #[E I x.s,E I x.r,E I x.a,E I x.m]) jR K0 (Ev.mk ?_) (h1:=Us));apply Eo;obtain⟨gx,hgx⟩:=En wr.heap.size;rw[<-hgx] at K0⊢;generalize wr.alloc (EJ #[E I 0,E I 0,E I 0,E I 0] 133)=Xz at*;have KX:=O<|K0.out.setRow #[E I x.s,E I x.r,E I x.a,E I x.m];have b3:=E3 (g:=gx) b2 (OQ hgx.symm) #[E I x.s,E I x.r,E I x.a,E I x.m];generalize Xz.setRow gx #[E I x.s,E I x.r,E I x.a,E I x.m]=Jx at*;clear K0 b2 hgx KA dR;replace S1:=O<|S1.out.G b3;replace MM:=O<|MM.out.trans (Ex.Ew b3);replace OA:=O<|ER OA.out fun _ _ h=>H.G h b3;clear b3;go_wp2_with fail;have y0: ∀y:Ext Jx,(Ey Jx y).cell? ⟨gs,0,Z⟩=D (Y (D ⟨gc,0,Z⟩)):=fun y=>(S1.out.G (ED y)).IC;have Ma: ∀y:Ext Jx,(Ey Jx y).cell? ⟨gc,64,Z⟩=D (Y (D ⟨gq,0,Z⟩)):=fun y=>(S1.out.G (ED y)).core.cell 2 rfl 0 Eh;have yx: ∀y:Ext Jx,(Ey Jx y).cell? ⟨gx,0,Z⟩=D (E I x.s):=fun y=>(H.cell (H.G KX.out (ED y)) 0).trans U;refine J5 9 Ed Ed ?_;simp only[Ir,Im,IL,IG]
     repeat (first
      |go_big_quiet_skip
      |(go_big_quiet_want
        first
         |(go_big_quiet_op
           first
            |go_big_quiet_on
            |go_big_quiet_call (fail))))
     refine IM ?_;exact Elo
    ·obtain rfl:i=n:=X;have t1:decide ((i:Int)<(i:Int))=B:=IJ X;go_wp2_with fail;have y0: ∀y:Ext wr,(Ey wr y).cell? ⟨gs,0,Z⟩=D (Y (D ⟨gc,0,Z⟩)):=fun y=>(S1.out.G (ED y)).IC;have wT: ∀y:Ext wr,(Ey wr y).cell? ⟨gc,40,Z⟩=D (E I (md:Int)):=fun y=>tr.out _ _ _ _ (S1.out.G (ED y));refine J5 10 Ed Ed ?_;simp only[Ir,Im,IL,IG]
     repeat (first
      |go_big_quiet_skip
      |(go_big_quiet_want
        first
         |(go_big_quiet_op
           first
            |go_big_quiet_on
            |go_big_quiet_call (with_reducible refine ag (wQ _)))))
     refine IM ?_;exact El2
  ·have t4:(hh !=4)=u:=iI;clear h4;go_wp2_with (with_reducible refine wL EV KB ?_ (hn:=RS.out));have hgo:=fun W s=>nK lo hi g gc gq gt gs {c with tok:=tk} ns rs t2 6 0 W s HT2.out.1 Ob JS;rw[Uv.out] at hgo;refine(hgo _ S1.out).mono ?_;rintro e7 UD ⟨rfl,⟨L',m,XS,sq,s7⟩,Xl⟩;replace S1:=O s7;replace MM:=O<|MM.out.trans Xl;have HM:Ea (m<=3):=O X;obtain⟨new,hnew⟩:=En ([⟨8,t2.h,0,t2.e,0,6⟩]:List Rec);rw[<-hnew] at S1;have HO:=O<|show t2.o= -1/\c.tok.e<=t2.e from⟨HT2.out.2.1,WK⟩;have wY:Ea ((new=[]/\c.tok.h=4)\/new=[⟨8,t2.h,0,t2.e,0,6⟩]):=O (.inr hnew);clear s7 Xl sq XS KB z0 z56 hgo hnew HT2 aJ Uv RS RO gu HE MX Xk Zb t4;have z0:=S1.out.IC;have z64:jx _ ⟨gc,64,Z⟩=D (Y (D ⟨gq,0,Z⟩)):=S1.out.core.cell 2 rfl 0 Eh;go_wp2_with fail;refine(Ky lo gq _ (pn g 48) _ S1.out.core.Z2 S1.out.core.ok.q).mono ?_;rintro e8 w8 ⟨⟨v8,rfl,o8⟩,b8⟩;obtain⟨A,c8,rfl,-⟩:=Xy o8;have aI:=O<|h_ L';have tB:=O S1.out.core.ok.q;obtain⟨n,hn⟩:=En L'.length;obtain⟨SL,lV⟩:=En (Ju L');have qP:Ea (n<=3):=O MZ;rw[<-hn,<-lV] at o8 aI;rw[<-hn];have OA:=O o8;replace S1:=O<|S1.out.G b8;replace MM:=O<|MM.out.trans (Ex.Ew b8);generalize World.heap _=hz at o8;clear o8 b8 z0 z64 hn lV tB;go_wp2_with fail;go_loopw[53] (fun y wr=> ∃(i:Nat) (L2:List One) (m2:Nat),i<=n/\y=E I i/\m2<=i/\E_ lo hi g gc gq gt gs {c with tok:=t2,q:=L2} (ns+m+m2) (rs++new) wr/\Ex lo hi w wr/\ ∃base,wr.ownsRow base 133 4 (EI A n c8) n (U5 SL)) (fun y _=>n-(Iv y).toNat);case atStart=>exact⟨0,L',0,X,U,X,S1.out,MM.out,_,OA.out⟩
   case round=>
    obtain⟨i,L2,m2,w_,rfl,hm2,s9,m9,base,o9⟩:=hrel;replace S1:=O s9;replace MM:=O m9;replace OA:=O o9;have jL:=O hm2;clear s9 m9 o9 hm2;by_cases hlt:i<n
    ·have t1:decide ((i:Int)<(n:Int))=u:=Ib X;obtain⟨x,hx⟩: ∃x,SL[i]?=D x:=⟨SL[i]' Cy,Ok _⟩;obtain⟨gg,cur,rfl,ka,dQ⟩:=wV OA.out hx aI.out;have KA:=O ka;have dR:=O dQ;clear ka dQ hx;have K0:=O<|H.new wr #[E I 0,E I 0,E I 0,E I 0] 133;have b2:=Ep wr (EJ #[E I 0,E I 0,E I 0,E I 0] 133);go_wp2_with (with_reducible first|refine wM (off:=i*4) (cs:= #[E I x.s,E I x.r,E I x.a,E I x.m]) jR KA ?_ (he:=dR.out)|refine wA wW ?_|refine wS (cs:= #[E I x.s,E I x.r,E I x.a,E I x.m]) jR K0 (Ev.mk ?_) (h1:=Us));apply Eo;obtain⟨gx,hgx⟩:=En wr.heap.size;rw[<-hgx] at K0⊢;generalize wr.alloc (EJ #[E I 0,E I 0,E I 0,E I 0] 133)=Xz at*;have KX:=O<|K0.out.setRow #[E I x.s,E I x.r,E I x.a,E I x.m];have b3:=E3 (g:=gx) b2 (OQ hgx.symm) #[E I x.s,E I x.r,E I x.a,E I x.m];generalize Xz.setRow gx #[E I x.s,E I x.r,E I x.a,E I x.m]=Jx at*;clear K0 b2 hgx KA dR;replace S1:=O<|S1.out.G b3;replace MM:=O<|MM.out.trans (Ex.Ew b3);replace OA:=O<|ER OA.out fun _ _ h=>H.G h b3;clear b3;go_wp2_with fail;have y0: ∀y:Ext Jx,(Ey Jx y).cell? ⟨gs,0,Z⟩=D (Y (D ⟨gc,0,Z⟩)):=fun y=>(S1.out.G (ED y)).IC;have Ma: ∀y:Ext Jx,(Ey Jx y).cell? ⟨gc,64,Z⟩=D (Y (D ⟨gq,0,Z⟩)):=fun y=>(S1.out.G (ED y)).core.cell 2 rfl 0 Eh;have yx: ∀y:Ext Jx,(Ey Jx y).cell? ⟨gx,0,Z⟩=D (E I x.s):=fun y=>(H.cell (H.G KX.out (ED y)) 0).trans U;refine J5 9 Ed Ed ?_;simp only[Ir,Im,IL,IG]
     repeat (first
      |go_big_quiet_skip
      |(go_big_quiet_want
        first
         |(go_big_quiet_op
           first
            |go_big_quiet_on
            |go_big_quiet_call (fail))))
     refine IM ?_;exact Elo
    ·obtain rfl:i=n:=X;have t1:decide ((i:Int)<(i:Int))=B:=IJ X;go_wp2_with fail;have y0: ∀y:Ext wr,(Ey wr y).cell? ⟨gs,0,Z⟩=D (Y (D ⟨gc,0,Z⟩)):=fun y=>(S1.out.G (ED y)).IC;have wT: ∀y:Ext wr,(Ey wr y).cell? ⟨gc,40,Z⟩=D (E I (md:Int)):=fun y=>tr.out _ _ _ _ (S1.out.G (ED y));refine J5 10 Ed Ed ?_;simp only[Ir,Im,IL,IG]
     repeat (first
      |go_big_quiet_skip
      |(go_big_quiet_want
        first
         |(go_big_quiet_op
           first
            |go_big_quiet_on
            |go_big_quiet_call (with_reducible refine ag (wQ _)))))
     refine IM ?_;exact El2
def Mb(t t':EG)(new:List Rec):Prop:=
 (0<=t.o->(t'.o=t.o/\t'.e=t.e/\t'.om=t.om/\t'.oa=sat t.oa t.om/\t'.oa<t.om)\/(t'.o<0/\ ∃x∈new,x.k=8\/(x.k=12/\x.s=t.o)))/\(t.o<0->t'.o<0)
def Cz(c c':EB)(new:List Rec):Prop:=
 Mb c.tok c'.tok new/\c.tok.e<=c'.tok.e/\(c'.Em=c.Em\/c'.Em=⟨2,4,0⟩\/c'.Em=⟨3,4,0⟩)/\ ∃b0:XD,(b0=c.pt.b\/b0=⟨2,4,0⟩\/b0=⟨3,4,0⟩)/\(c'.pt.b=b0\/c'.pt.b=⟨4,b0.s,b0.q⟩)
def jS(t t':EG)(new:List Rec):Prop:=t'=t\/(0<=t.o/\t'=t.end_/\ ∃x∈new,x.k=12/\x.s=t.o)
theorem jS.app(h:jS t t' new)(r:List Rec):jS t t' (new++r):=by
 rcases h with h|⟨h1,h2,x,hx,h3⟩;·exact .inl h
 ·exact .inr ⟨h1,h2,x,jF _ hx,h3⟩
theorem jS.drop(h:jS t t' new)(s e:Int):jS t (t'.drop s).1 (new++if(t'.drop s).2 then [⟨12,s,0,e,16,0⟩] else []):=by
 by_cases hc:t'.o<0\/t'.o≠s
 ·have e1:t'.drop s=(t',B):=by unfold EG.drop;rw[if_pos hc]
  rw[e1];exact h.app _
 ·have e1:t'.drop s=(t'.end_,u):=by unfold EG.drop;rw[if_neg hc]
  rw[e1];rcases h with h|⟨h1,h2,-⟩;·subst h;exact .inr ⟨X,U,_,List.mem_append_right _ (ft.2 rfl),U,by show s=t'.o;omega⟩
  ·exfalso;rw[h2] at hc;simp[EG.end_] at hc
theorem EgU(t:EG):(t.o<0/\t.UB=(t,-1))\/(0<=t.o/\sat t.oa t.om<t.om/\t.UB=({t with oa:=sat t.oa t.om},-1))\/(0<=t.o/\t.UB.1.o= -1/\t.UB.1.e=t.e/\t.UB.2=t.o):=by
 unfold EG.UB;split;·exact .inl ⟨X,U⟩
 ·split;·exact .inr (.inl ⟨X,X,U⟩)
  ·exact .inr (.inr ⟨X,U,U,U⟩)
theorem WQ(h:t.ok):t.UB.1.ok/\t.UB.1.e=t.e:=by
 have hs:0<=sat t.oa t.om/\sat t.oa t.om<=1000:=by have h1:=h.oa;have h2:=h.om;unfold sat;split<;>omega
 unfold EG.UB;split;·exact⟨h,U⟩
 ·split;·exact⟨⟨h.h,h.e,h.o,hs,h.om,h.la,h.lm,h.off⟩,U⟩
  ·exact⟨⟨h.h,h.e,fp,fp,fp,h.la,h.lm,fp⟩,U⟩
theorem EgX(h:jS t t' new)(ht:t.ok):t'.e=t.e:=by rcases h with rfl|⟨-,rfl,-⟩<;>rfl
theorem WR{t3:EG}{new1:List Rec}(h1:jS t t1 new1)(h2: ∀x∈new1,x∈new)(hw:0<=t1.UB.2-> ∃x∈new,x.k=12/\x.s=t1.UB.2)(h3:(∃a m,t3=t1.UB.1.nG a m)\/(t3.o= -1/\ ∃x∈new,x.k=8)):Mb t t3 new:=by
 rcases h3 with⟨a,m,rfl⟩|⟨ho,x,hx,hk⟩
 ·show Mb t (t1.UB.1.nG a m) new;rcases h1 with rfl|⟨g1,rfl,x,hx,hk,hs⟩
  ·rcases EgU t1 with⟨h5,e5⟩|⟨h5,h6,e5⟩|⟨h5,h6,h7,h8⟩;·rw[e5];exact⟨fun h=>absurd h X,fun _=>h5⟩
   ·rw[e5];exact⟨fun _=> .inl ⟨U,U,U,U,h6⟩,fun h=>absurd h5 X⟩
   ·refine⟨fun _=> .inr ⟨by show t1.UB.1.o<0;omega,?_⟩,fun h=>absurd h5 X⟩;obtain⟨x,hx,hk,hs⟩:=hw X;exact⟨x,hx,.inr ⟨hk,X⟩⟩
  ·have e5:t.end_.UB=(t.end_,-1):=by unfold EG.UB;rw[if_pos fp]
   rw[e5];exact⟨fun _=> .inr ⟨by simp[EG.nG,EG.end_],x,h2 x hx,.inr ⟨hk,hs⟩⟩,fun h=>absurd g1 X⟩
 ·exact⟨fun _=> .inr ⟨X,x,hx,.inl hk⟩,fun _=>X⟩
theorem EgZ{x:One}(h:x.ok):(gD x).ok:=by refine⟨h.s,h.r,?_,h.m,h.n⟩;have h1:=h.a;have h2:=h.m;show 0<=sat x.a x.m/\sat x.a x.m<=1000;unfold sat;split<;>omega
theorem EB.ok.kept(h:c.ok):({c with q:=ZZ (Ju c.q)}:EB).ok:=by
 have pm:=VX c.q;have hm: ∀x∈ZZ (Ju c.q),∃y∈c.q,x=gD y:=fun x hx=>by obtain⟨y,hy,e⟩:=da.1 (List.mem_filter.1 hx).1;exact⟨y,pm.mem_iff.1 hy,e.symm⟩
 refine⟨h.tok,h.T,?_,fun x hx=> ?_,fun x hx=> ?_,?_,h.ip,h.jy,h.mode,h.Em,h.pt,h.E9⟩;·show(ZZ (Ju c.q)).length<=3;have:=VZ (Ju c.q);rw[h_] at this;have:=h.q;omega
 ·obtain⟨y,hy,rfl⟩:=hm x hx;exact EgZ (h.ones y hy)
 ·obtain⟨y,hy,rfl⟩:=hm x hx;exact h.src y hy
 ·have h1:((Ju c.q).map One.s).Nodup:=(pm.map One.s).nodup_iff.2 h.nd;have h2:(((Ju c.q).map gD).map One.s)=(Ju c.q).map One.s:=by rw[List.map_map];rfl
  show((ZZ (Ju c.q)).map One.s).Nodup;refine List.Sublist.nodup (List.Sublist.map _ (List.filter_sublist (l:=(Ju c.q).map gD))) ?_;rw[h2];exact h1
theorem Ega{c:Nat}{L:List Int}(h:w.ownsRow base 3 1 (EI A n c) n (Zc L))(hx:L[i]?=D x)(hn:L.length=n): ∃(g:Nat),A=D ⟨g,0,Z⟩/\w.cell? ⟨g,i,Z⟩=D (E I x):=by
 have hi:=(UG.1 hx).1;obtain⟨h1,⟨-,h2⟩|⟨g,cap,cur,hv,hg,hh,hnc,hcm,hcs,ht⟩⟩:=h;·omega
 ·injection hv with e1;refine⟨g,e1,?_⟩;have hb:H w g cur 3:=hh;rw[H.cell hb,<-Array.getElem?_toList];have e:(cur.toList.take (n*1))[i]?=D (E I x):=by rw[ht];unfold Zc;rw[List.getElem?_map,hx];rfl
  rw[bN X] at e;exact e
def Pt.near(p:Pt)(r:Int)(b:Bool):Pt:=⟨p.c,p.a0,p.a1,p.a2,p.a3,Jz p.n0 p.a0 r,Jz p.n1 p.a1 r,Jz p.n2 p.a2 r,Jz p.n3 p.a3 r,⟨if b then p.b.r else 4,p.b.s,p.b.q⟩⟩
theorem WT(g:Nat->V)(r:Int)(hr:g 54=E I r)(ir:au r)(p:Pt)(hp:p.ok): ∃p':Pt,p'.ok/\(p'.b=p.b\/p'.b=⟨4,p.b.s,p.b.q⟩)/\ ∀W,Ef EU 107 #[EZ (EK 56 g),EZ p.v.toArray] W fun e w'=>e=Eg (EZ p'.v.toArray)/\El W w':=by
 refine⟨p.near r _,⟨hp.c,hp.a0,hp.a1,hp.a2,hp.a3,BU hp.n0 hp.a0 ir,BU hp.n1 hp.a1 ir,BU hp.n2 hp.a2 ir,BU hp.n3 hp.a3 ir⟩,?_,fun W=>EbG g p.c p.a0 p.a1 p.a2 p.a3 p.n0 p.n1 p.n2 p.n3 p.b.r p.b.s p.b.q r W hr ir hp.a0 hp.a1 hp.a2 hp.a3 hp.n0 hp.n1 hp.n2 hp.n3 _ U⟩;unfold Pt.near;split;·exact .inl U
 ·exact .inr U
theorem Egb(h:wP c c' new):new.length<=1:=h.len
theorem WV(h:c.ok):(bj (Ju c.q)).length<=3:=by have:=Va (Ju c.q);rw[h_] at this;have:=h.q;omega
theorem WW(hc:c.tok.ok){n1 n4:List Rec}{c4:EB}(h1:jS c.tok t1 n1)(h2: ∀x∈n1,x∈new)(hw:0<=t1.UB.2-> ∃x∈new,x.k=12/\x.s=t1.UB.2)(T1:EP)(KQ:List One)(ht2:t2=t1.UB.1)(h4: ∀x∈n4,x∈new)(hl:wP {c with T:=T1,tok:=t2,q:=KQ} c4 n4)(p':Pt)(hp:p'.b=c4.pt.b\/p'.b=⟨4,c4.pt.b.s,c4.pt.b.q⟩):Cz c {c4 with pt:=p'} new:=by
 subst ht2
 have ht1:t1.ok:=by
  rcases h1 with rfl|⟨-,rfl,-⟩;·exact hc
  ·exact VF hc
 have e1:=EgX h1 hc;have e2:=(WQ ht1).2;rcases hl with⟨L',a,m,-,rfl,rfl⟩|⟨L',t3,how,md,b,-,ho,he,-,-,hb,rfl,rfl⟩;·exact⟨WR h1 h2 hw (.inl ⟨a,m,U⟩),by show c.tok.e<=t1.UB.1.e;omega,.inl U,c.pt.b,.inl U,hp⟩
 ·refine⟨WR h1 h2 hw (.inr ⟨ho,_,h4 _ (ft.2 rfl),U⟩),by show c.tok.e<=t3.e;have:t1.UB.1.e<=t3.e:=he;omega,?_,b,?_,hp⟩
  ·rcases hb with rfl|rfl;·exact .inr (.inl U)
   ·exact .inr (.inr U)
  ·rcases hb with rfl|rfl;·exact .inr (.inl U)
   ·exact .inr (.inr U)
theorem Egc(lo hi:Nat)(g:Nat->V)(gc gq gt gs:Nat)(c:EB)(ns:Nat)(rs:List Rec)(w:M)(S:E_ lo hi g gc gq gt gs c ns rs w)(hn:ns<700000)(hl:rs.length<700000): Ef EU 74 #[Y (D ⟨gs,0,Z⟩)] w fun e w'=>e=Eg (Et #[])/\(∃c' m new,m<=15/\new.length<=13/\E_ lo hi g gc gq gt gs c' (ns+m) (rs++new) w'/\Cz c c' new)/\Ex lo hi w w':=by
 obtain⟨pr,hpr,WY⟩:=S.core.ZJ.fit 54 X X;have W_:Ea (au (pr:Int)):=O (by have h2:=WY.2.1;unfold U2 at h2;simp at h2;unfold au;omega);have YE:=O hpr;have HT:=O S.core.ok.tok;have S1:=O S;have HN:=O hn;have HL:=O hl;have MM:=O<|Ex.refl lo hi w;clear S hn hl hpr WY;have z0:=S1.out.IC;have U7:w.cell? ⟨gc,95,Z⟩=D (Y (D ⟨gt,0,Z⟩)):=S1.out.core.cell 6 rfl 0 Eh;go_enter Tryz.func74,Tryz.ntmps74;go_wp2_with fail;refine(EfH gt c.T _ S1.out.core.tab S1.out.core.ok.T S1.out.core.ok.E9).mono ?_;rintro e1 w1 ⟨⟨L,A,c0,T1,rfl,o1,hl4,hl3,kt,YI,YJ⟩,ot⟩;have hS:=S1.out.wj ot T1 kt (S1.out.core.ok.wi YI YJ);replace S1:=O hS.1;replace MM:=O<|MM.out.trans hS.2;have OI:=O o1;obtain⟨n,hn⟩:=En L.length;rw[<-hn] at OI hl4⊢;have aI:=O hn.symm;have YO:=O hl4;clear o1 hl4 hl3 kt YI YJ ot hS hn z0 U7;go_wp2_with fail;go_loopw[17] (fun y wr=> ∃(i:Nat) (t1:EG) (L1:List One) (m1:Nat) (n1:List Rec),i<=n/\y=E I i/\m1<=2*i/\n1.length<=2*i/\E_ lo hi g gc gq gt gs {c with T:=T1,tok:=t1,q:=L1} (ns+m1) (rs++n1) wr/\jS c.tok t1 n1/\Ex lo hi w wr/\ ∃base,wr.ownsRow base 3 1 (EI A n c0) n (Zc L)) (fun y _=>n-(Iv y).toNat);case atStart=>exact⟨0,c.tok,c.q,0,[],X,U,X,Eh,tA,.inl U,MM.out,_,OI.out⟩
 case round=>
  obtain⟨i,t1,L1,m1,n1,w_,rfl,hm1,hn1,s9,ht1,m9,base,o9⟩:=hrel;replace S1:=O s9;replace MM:=O m9;replace OI:=O o9;have jK:=O hm1;have nW:=O hn1;have HT1:=O ht1;clear s9 m9 o9 hm1 hn1 ht1;by_cases hlt:i<n
  ·have t1':decide ((i:Int)<(n:Int))=u:=Ib X;obtain⟨x,hx⟩: ∃x,L[i]?=D x:=⟨L[i]' Cy,Ok _⟩;obtain⟨gg,rfl,cx⟩:=Ega OI.out hx aI.out;have hn4:=YO.out;clear hx;go_wp2_with fail;refine(ZC lo hi g gc gq gt gs _ (ns+m1) _ 5 x 0 0 0 _ S1.out YU).mono ?_;rintro e3 w3 ⟨rfl,s3,qm⟩;replace S1:=O s3;replace MM:=O<|MM.out.trans qm;replace OI:=O<|ER OI.out fun _ _ h=>qm.Ek h Eb Eb;clear s3 qm cx;go_wp2_with fail;refine(Km x _).mono ?_;rintro e4 w4 ⟨rfl,rfl⟩;cases hlk:decide (1<=x/\x<=3) with
   |false=> clear hlk;go_wp2_with fail;refine⟨⟨i+1,t1,L1,m1,n1++[⟨5,x,0,t1.e,0,0⟩],X,Eh,tU,by rw[I2];have:=nW.out;simp;omega,by rw[<-U9];exact S1.out,HT1.out.app _,MM.out,base,OI.out⟩,Jv⟩
   |true=> clear hlk;go_wp2_with fail;refine(Vt lo hi g gc gq gt gs _ (ns+m1) _ x _ S1.out wg (by have:=HL.out;have:=nW.out;simp only[I2,List.length_singleton];omega)).mono ?_;rintro e5 w5 ⟨rfl,⟨L2,m5,tC,sq5,s5⟩,ZM⟩;have S8:=O s5;replace MM:=O<|MM.out.trans ZM;replace OI:=O<|ER OI.out fun _ _ h=>ZM.Ek h Eb Eb;have HM5:=O tC;clear s5 ZM tC sq5;obtain⟨N,hN⟩:=En (if(t1.drop x).2 then [⟨12,x,0,t1.e,16,0⟩] else []:List Rec);have Mc:Ea (N.length<=1):=O (by rw[hN];split<;>simp);have YX:=O<|(HT1.out.app [⟨5,x,0,t1.e,0,0⟩]).drop x t1.e;have h8:=S8.out;rw[<-hN] at YX h8;have S9:=O h8;clear h8 hN S8;go_wp2_with fail;refine⟨⟨i+1,(t1.drop x).1,L2,m1+m5,(n1++[⟨5,x,0,t1.e,0,0⟩])++N,X,Eh,by have:=jK.out;have:=HM5.out;omega,by simp only[I2,List.length_singleton];have:=nW.out;have:=Mc.out;omega,?_,YX.out,MM.out,base,OI.out⟩,Jv⟩;rw[<-js,<-U9,<-U9];exact S9.out
  ·obtain rfl:i=n:=X;have t1':decide ((i:Int)<(i:Int))=B:=IJ X;have z0:=S1.out.IC;obtain⟨big,lT,UJ⟩:=bA S1.out.core;have lT:=O lT;obtain⟨Iq,Uw,Xk,Zb⟩: ∃Iq,t1.a=EZ Iq/\Ea (Iq.size=8)/\Ea (t1.v.toArray=Iq):=⟨_,U,O U,O U⟩;have dH:Ea (big.extract 56 (56+8)=Iq):=O<|(UJ 1 t1.v U).trans Zb.out;have CY:=fun W=>EJN t1 W (by have h:0<=t1.oa/\t1.oa<=1000:=S1.out.core.ok.tok.oa;omega) (by have h:0<=t1.om/\t1.om<=1000:=S1.out.core.ok.tok.om;omega);have YZ:=WQ S1.out.core.ok.tok;obtain⟨t2,ht2⟩:=En t1.UB.1;obtain⟨who,hwho⟩:=En t1.UB.2;have HT2:Ea t2.ok:=O (by rw[ht2];exact YZ.1);obtain⟨rv,IH,RS,RO⟩:=ZH t2;have aJ:Ea (rv.toList=t2.v):=O MO;have CE:Ea (∀W g,H W g rv 109->W.cell? ⟨g,0,Z⟩=D (E I t2.h)):=O (fun W g K=>by have e:rv=Uj t2.h t2.e t2.o t2.oa t2.om t2.la t2.lm t2.bad:=VK;subst e;exact(H.cell K 0).trans U);have CO:Ea (∀W,Ef EU 104 #[EZ Iq] W fun x w'=>x=Eg (Et #[EZ rv,E I who])/\El W w'):=O (fun W=>by have h:=CY W;rw[<-ht2,<-hwho,IH,Uw] at h;exact h);have RS:=O RS;have RO:=O RO;have Ya:=O ht2;have C_:=O hwho;clear UJ CY YZ Uw ht2 hwho IH OI;go_wp2_with (with_reducible refine wM (off:=56) (cs:=Iq) EV lT ?_ (hn:=Xk.out) (he:=dH.out));refine(CO.out _).mono ?_;rintro e6 w6 ⟨rfl,b6⟩;replace S1:=O<|S1.out.G b6;replace MM:=O<|MM.out.trans (Ex.Ew b6);clear b6 z0 lT dH CO Xk Zb;have K0:=O<|H.new w6 #[E I 0,E I 0,E I 0,E I 0,E I 0,E I 0,E I 0,Ec B] 109;have b2:=Ep w6 (EJ #[E I 0,E I 0,E I 0,E I 0,E I 0,E I 0,E I 0,Ec B] 109);go_wp2_with (with_reducible first|refine wA lD ?_|refine wS (cs:=rv) EV K0 (Ev.mk ?_) (hn:=RS.out) (h1:=RO.out));apply Eo;obtain⟨b,hgm⟩:=En w6.heap.size;rw[<-hgm] at K0⊢;generalize w6.alloc (EJ #[E I 0,E I 0,E I 0,E I 0,E I 0,E I 0,E I 0,Ec B] 109)=w7 at*;have KB:=O<|K0.out.setRow rv;have b3:=E3 (g:=b) b2 (OQ hgm.symm) rv;generalize w7.setRow b rv=w8 at*;clear K0 b2 hgm;replace S1:=O<|S1.out.G b3;replace MM:=O<|MM.out.trans (Ex.Ew b3);clear b3;go_wp2_with fail;have y0: ∀y:Ext w8,(Ey w8 y).cell? ⟨gs,0,Z⟩=D (Y (D ⟨gc,0,Z⟩)):=fun y=>(S1.out.G (ED y)).IC;refine J5 7 Ed Ed ?_;simp only[Ir,Im,IL,IG]
   repeat (first
    |go_big_quiet_skip
    |(go_big_quiet_want
      first
       |(refine Ub (T:=109) (g:=b) EV _ rfl rfl KB ?_ ?_;(·exact RS.out);go_simp;go_big_quiet_on)
       |(go_big_quiet_op
         first
          |go_big_quiet_on
          |go_big_quiet_call (fail))))
   refine IM ?_;intro _ hw';obtain⟨y9,rfl⟩:=hw';have Em:=ED y9;replace KB:=EQ KB Em;replace S1:=O<|S1.out.G Em;replace MM:=O<|MM.out.trans (Ex.Ew Em);clear y0 Em;generalize Ey w8 y9=w9 at*;have TH:=O<|cV S1.out.core 1 rfl 8 XV;go_wp2_with ((with_reducible refine JE 109 ?_);(with_reducible refine OH U 109 _ _ U gc 56 rv ?_ ?_ ?_ ?_ ?_ ?_);(·rfl);(·rfl);(·rw[RS.out];exact TH.out);(·rw[RS.out];exact EV.2);(·exact RO.out);refine Ev.mk ?_);apply Eo;rw[aJ.out];have S4:=S1.out.aA t2 (S1.out.core.ok.aA HT2.out);obtain⟨d0,d1,d2,hd,KG,-⟩:=S1.out.core.Ek;replace KB:=O<|(Jq (g:=gc) t2.v 56 w9).Ek KB.out (E5 KB.out KG Eb);replace S1:=O S4.1;replace MM:=O<|MM.out.trans S4.2;clear S4 TH KG;generalize w9.setCells gc 56 t2.v=UD at*;clear RS RO aJ;have HNI:=YO.out;by_cases xU:0<=who
   ·have t0':decide (0<=who)=u:=Ib xU;have cb:=CE.out _ _ KB.out;go_wp2_with fail;refine(pY lo hi g gc gq gt gs _ (ns+m1) _ t2.h who 30 _ S1.out wg).mono ?_;rintro e11 am ⟨rfl,⟨m11,Egg,s11⟩,Yb⟩;replace S1:=O s11;replace MM:=O<|MM.out.trans Yb;clear s11 Yb cb KB;go_wp2_with fail;refine(ZC lo hi g gc gq gt gs _ _ _ 12 who 0 30 0 _ S1.out YU).mono ?_;rintro e12 Xz ⟨rfl,s12,Yc⟩;obtain⟨m2,hm2⟩:=En (m1+m11);obtain⟨n2,hn2⟩:=En (n1++[⟨12,who,0,t2.e,30,0⟩]:List Rec);rw[js,<-hm2,U9,<-hn2] at s12;replace S1:=O s12;replace MM:=O<|MM.out.trans Yc;have jL:Ea (m2<=9):=O tU;have Md:Ea (n2.length<=9):=O (by rw[hn2,I2];have:=nW.out;simp;omega);have Mf:Ea (∀x∈n1,x∈n2):=O (fun x hx=>by rw[hn2];exact jF _ hx);have Yd:Ea (0<=t1.UB.2-> ∃x∈n2,x.k=12/\x.s=t1.UB.2):=O<|fun _=>⟨_,by rw[hn2];exact List.mem_append_right _ (ft.2 rfl),U,C_.out⟩;clear s12 Yc hm2 hn2 Egg xU t0' jK nW C_ CE;have z0:=S1.out.IC;have z64:jx _ ⟨gc,64,Z⟩=D (Y (D ⟨gq,0,Z⟩)):=S1.out.core.cell 2 rfl 0 Eh;go_wp2_with fail;refine(Vb lo gq _ (pn g 48) _ S1.out.core.lq S1.out.core.Z2 S1.out.core.ok.q S1.out.core.ok.ones).mono ?_;rintro e8 w8 ⟨⟨v8,rfl,o8⟩,q8,m8⟩;obtain⟨A,c8,rfl,-⟩:=Xy o8;have lY:=O<|WV S1.out.core.ok;have xX:=S1.out.core.ok.kept;replace S1:=O<|S1.out.gH m8 _ q8 xX;replace MM:=O<|MM.out.trans (m8.jB hi);obtain⟨GQ,qQ⟩:=En (bj (Ju L1));obtain⟨KQ,xZ⟩:=En (ZZ (Ju L1));obtain⟨n,hn⟩:=En GQ.length;rw[<-qQ,<-hn] at lY o8;rw[<-xZ] at S1;rw[<-qQ,<-hn];have l_:=O hn.symm;have OA:=O o8;clear o8 q8 m8 xX z0 z64 qQ xZ hn;go_wp2_with fail;go_loopw[67] (fun y wr=> ∃(i m3:Nat) (n3:List Rec),i<=n/\y=E I i/\m3<=i/\n3.length<=i/\E_ lo hi g gc gq gt gs {c with T:=T1,tok:=t2,q:=KQ} (ns+m2+m3) (rs++(n2++n3)) wr/\Ex lo hi w wr/\ ∃base,wr.ownsRow base 133 4 (EI A n c8) n (U5 GQ)) (fun y _=>n-(Iv y).toNat);case atStart=>exact⟨0,0,[],X,U,X,Eh,tA,MM.out,_,OA.out⟩
    case round=>
     obtain⟨i,m3,n3,w_,rfl,nL,xa,s9,m9,base,o9⟩:=hrel;replace S1:=O s9;replace MM:=O m9;replace OA:=O o9;have qn:=O nL;have DE:=O xa;clear s9 m9 o9 nL xa;by_cases hlt:i<n;·exact Elj
     ·obtain rfl:i=n:=X;have t1':decide ((i:Int)<(i:Int))=B:=IJ X;go_wp2_with fail;refine(WC lo hi g gc gq gt gs _ (ns+m2+m3) _ _ S1.out DJ DO).mono ?_;rintro e20 fu ⟨rfl,⟨c4,m4,n4,xd,s20,iT⟩,xf⟩;replace S1:=O s20;replace MM:=O<|MM.out.trans xf;have Yh:=O xd;have mE:=O iT;clear s20 xf xd iT OA;obtain⟨p',hpo,hpb,hca⟩:=WT g pr YE.out W_.out c4.pt S1.out.core.ok.pt;have iD:=O hpo;have Z1:=O hpb;have CN:=O hca;clear hpo hpb hca;go_wp2_with fail;obtain⟨d0,d1,d2,hd,KG,o0,o1,o2,-,-⟩:=S1.out.core.Ek;have Xm:=O<|Ox (c:=c4) (gq:=gq) (gt:=gt) (hd:=hd) (JD g) o0 o1 o2 0 X;have iK:=O<|Ox (c:=c4) (gq:=gq) (gt:=gt) (hd:=hd) (JD g) o0 o1 o2 11 X;have KG:=O KG;have PL:=O<|JD g;have XO:Ea ((EK 56 g).toList.toArray=EK 56 g):=O Eh;clear o0 o1 o2;have y0: ∀y:Ext fu,(Ey fu y).cell? ⟨gs,0,Z⟩=D (Y (D ⟨gc,0,Z⟩)):=fun y=>(S1.out.G (ED y)).IC;refine J5 21 Ed Ed ?_;simp only[Ir,Im,IL,IG]
      repeat (first
       |go_big_quiet_skip
       |(go_big_quiet_want
         first
          |(refine Zj (T:=28) (g:=gc) (off:=0) XY _ rfl rfl KG 0 rfl Xm.out PL.out ?_;(try rw[XO.out]);go_simp;go_big_quiet_on)
          |(refine Zj (T:=50) (g:=gc) (off:=102) iC _ rfl rfl KG 11 rfl iK.out rfl ?_;(try rw[XO.out]);go_simp;go_big_quiet_on)
          |(go_big_quiet_op
            first
             |go_big_quiet_on
             |go_big_quiet_call (with_reducible refine ag (CN.out _)))))
      refine IM ?_;exact Elr
   ·have t0':decide (0<=who)=B:=IJ xU;obtain⟨m2,hm2⟩:=En m1;obtain⟨n2,hn2⟩:=En (n1:List Rec);have s12:=S1.out;rw[<-hm2,<-hn2] at s12;replace S1:=O s12;have jL:Ea (m2<=9):=O tU;have Md:Ea (n2.length<=9):=O (by rw[hn2];have:=nW.out;omega);have Mf:Ea (∀x∈n1,x∈n2):=O (fun x hx=>by rw[hn2];exact hx);have Yd:Ea (0<=t1.UB.2-> ∃x∈n2,x.k=12/\x.s=t1.UB.2):=O<|fun h=>absurd (by rw[C_.out];exact h) xU;clear s12 hm2 hn2 xU jK nW C_ CE KB;have z0:=S1.out.IC;have z64:jx _ ⟨gc,64,Z⟩=D (Y (D ⟨gq,0,Z⟩)):=S1.out.core.cell 2 rfl 0 Eh;go_wp2_with fail;refine(Vb lo gq _ (pn g 48) _ S1.out.core.lq S1.out.core.Z2 S1.out.core.ok.q S1.out.core.ok.ones).mono ?_;rintro e8 w8 ⟨⟨v8,rfl,o8⟩,q8,m8⟩;obtain⟨A,c8,rfl,-⟩:=Xy o8;have lY:=O<|WV S1.out.core.ok;have xX:=S1.out.core.ok.kept;replace S1:=O<|S1.out.gH m8 _ q8 xX;replace MM:=O<|MM.out.trans (m8.jB hi);obtain⟨GQ,qQ⟩:=En (bj (Ju L1));obtain⟨KQ,xZ⟩:=En (ZZ (Ju L1));obtain⟨n,hn⟩:=En GQ.length;rw[<-qQ,<-hn] at lY o8;rw[<-xZ] at S1;rw[<-qQ,<-hn];have l_:=O hn.symm;have OA:=O o8;clear o8 q8 m8 xX z0 z64 qQ xZ hn;go_wp2_with fail;go_loopw[67] (fun y wr=> ∃(i m3:Nat) (n3:List Rec),i<=n/\y=E I i/\m3<=i/\n3.length<=i/\E_ lo hi g gc gq gt gs {c with T:=T1,tok:=t2,q:=KQ} (ns+m2+m3) (rs++(n2++n3)) wr/\Ex lo hi w wr/\ ∃base,wr.ownsRow base 133 4 (EI A n c8) n (U5 GQ)) (fun y _=>n-(Iv y).toNat);case atStart=>exact⟨0,0,[],X,U,X,Eh,tA,MM.out,_,OA.out⟩
    case round=>
     obtain⟨i,m3,n3,w_,rfl,nL,xa,s9,m9,base,o9⟩:=hrel;replace S1:=O s9;replace MM:=O m9;replace OA:=O o9;have qn:=O nL;have DE:=O xa;clear s9 m9 o9 nL xa;by_cases hlt:i<n;·exact Elj
     ·obtain rfl:i=n:=X;have t1':decide ((i:Int)<(i:Int))=B:=IJ X;go_wp2_with fail;refine(WC lo hi g gc gq gt gs _ (ns+m2+m3) _ _ S1.out DJ DO).mono ?_;rintro e20 fu ⟨rfl,⟨c4,m4,n4,xd,s20,iT⟩,xf⟩;replace S1:=O s20;replace MM:=O<|MM.out.trans xf;have Yh:=O xd;have mE:=O iT;clear s20 xf xd iT OA;obtain⟨p',hpo,hpb,hca⟩:=WT g pr YE.out W_.out c4.pt S1.out.core.ok.pt;have iD:=O hpo;have Z1:=O hpb;have CN:=O hca;clear hpo hpb hca;go_wp2_with fail;obtain⟨d0,d1,d2,hd,KG,o0,o1,o2,-,-⟩:=S1.out.core.Ek;have Xm:=O<|Ox (c:=c4) (gq:=gq) (gt:=gt) (hd:=hd) (JD g) o0 o1 o2 0 X;have iK:=O<|Ox (c:=c4) (gq:=gq) (gt:=gt) (hd:=hd) (JD g) o0 o1 o2 11 X;have KG:=O KG;have PL:=O<|JD g;have XO:Ea ((EK 56 g).toList.toArray=EK 56 g):=O Eh;clear o0 o1 o2;have y0: ∀y:Ext fu,(Ey fu y).cell? ⟨gs,0,Z⟩=D (Y (D ⟨gc,0,Z⟩)):=fun y=>(S1.out.G (ED y)).IC;refine J5 21 Ed Ed ?_;simp only[Ir,Im,IL,IG]
      repeat (first
       |go_big_quiet_skip
       |(go_big_quiet_want
         first
          |(refine Zj (T:=28) (g:=gc) (off:=0) XY _ rfl rfl KG 0 rfl Xm.out PL.out ?_;(try rw[XO.out]);go_simp;go_big_quiet_on)
          |(refine Zj (T:=50) (g:=gc) (off:=102) iC _ rfl rfl KG 11 rfl iK.out rfl ?_;(try rw[XO.out]);go_simp;go_big_quiet_on)
          |(go_big_quiet_op
            first
             |go_big_quiet_on
             |go_big_quiet_call (with_reducible refine ag (CN.out _)))))
      refine IM ?_;exact Elr
end Go.Proofs.YtclmichaaiohjaaGreatDoor
