import Derived.Test.YtclmichaaiohjaaGreatDoorU06
set_option maxRecDepth 100000
set_option linter.unusedVariables false
set_option linter.unusedSimpArgs false
set_option maxHeartbeats 6400000
namespace Go.Proofs.YtclmichaaiohjaaGreatDoor
open RowKit
open _root_.Array renaming getElem?_eq_some_iff->J4
open Bool renaming true->EI,false->V
open Go renaming World->M,Calls->Eg,TypeId->Ez,Value->G,Addr->Ev,Program->Jd,bodyPost_ret->EV,binOp->XG,results->UW,Act->E2,Oper->EG,execOp->Ig,wpList->Ih,undef->Iv,Operand->JN,info_parts->bZ,below_setRow->E6,wpQuiet_nil->I2,callFunc->Ji,results_none->UC,Ending->Uv,wpList_store_mid->Um
open Act renaming put->Ic
open Ending renaming returned->Eh
open Instr renaming mapUpdate->iV,lookup->fu
open IntKind renaming i64->I,u8->IT
open Lib renaming hid->J
open Obj renaming cells->Ec
open Oper renaming quietAt->ik
open Go.Proofs.Tryz renaming prog->Ea
open Result renaming andThen_ok->On
open RowKit renaming Below->Ir,Hid->Ed,intOf->I5
open RowKit.Below renaming refl->E_,size->UQ
open Sem renaming run_bind->Om,run_pure->Oa,run->Ul
open Value renaming bool->EU,int->E,agg->EZ,slice->EJ,tuple->Es,pointer->Y,oneCell'->Ov
open World renaming alloc->XX,ownsRow_nil->bw,ownsRow->bM
open Int renaming le_refl->X6
open List renaming mem_of_mem_take->fC,getElem?_eq_getElem->JY,getElem?_eq_some_iff->Xr,take_succ_cons->Is,length_take->ZJ,getD_eq_getElem?_getD->Uj,getElem?_append_right->ay,take_zero->Io,getElem?_toArray->J0,setIfInBounds_toArray->Ii,length_append->I1,getElem_mem->dW,getElem?_map->ls,append_assoc->UY,set_cons_succ->IJ,set_cons_zero->IU,mem_append->Xt,map_append->jr,length_drop->ly,drop_succ_cons->IS,drop_zero->IM,append_nil->fX,mem_singleton->mw
open Nat renaming le_trans->EB,le_refl->E9,zero_add->J9,le_of_eq->Ud
open Option renaming some->X,none->Z
open KQ
variable{x y:JN}{W w w':M}{g gs n b n0 lo hi gc gq gt ns:Nat}{o:EG}{T T2:Ez}{cs c2:Array G}{v Y3 r:G}{rs:List Rec}{P:Jd}{F:JN->G}{a:E2}{K:E2->Prop}
theorem EbW(t:EM)(k:Int):(t.nz k=(t,28))\/(0<=t.o/\t.o=k/\t.nz k=(t.end_,0)):=by
 unfold EM.nz;split;·exact .inl U
 ·exact .inr ⟨D,D,U⟩
theorem So{t:EM}(h:t.ok):t.end_.ok:=⟨h.h,h.e,dF,dF,dF,h.la,h.lm,dF⟩
theorem EbY(lo hi:Nat)(g:Nat->G)(gc gq gt gs:Nat)(c:EF)(ns:Nat)(rs:List Rec)(l:List Int)(k:Int)(w:M)(S:E4 lo hi g gc gq gt gs c ns rs w)(hn:ns<800000)(hl:rs.length<800000): Eg Ea 133 #[Y (X ⟨gs,0,Z⟩),E I k,EZ (EH l)] w fun e w'=>e=Eh (Es #[])/\(∃c' m new,m<=3/\E4 lo hi g gc gq gt gs c' (ns+m) (rs++new) w'/\((∃cd,c'=c/\new=[⟨7,k,l.getD 1 0,c.tok.e,cd,0⟩])\/(0<=c.tok.o/\c.tok.o=k/\c'={c with tok:=c.tok.end_}/\new=[⟨11,k,l.getD 1 0,c.tok.e,0,0⟩])))/\Ex lo hi w w':=by
 have Sp:=fun W=>EId c.tok k W;obtain⟨Im,Ug,U8,XV⟩: ∃Im,c.tok.a=EZ Im/\Ed (Im.size=8)/\Ed (c.tok.v.toArray=Im):=⟨_,U,J U,J U⟩;have S0:=J S;have HN:=J hn;have HL:=J hl;have KM:=J<|H.new w (EH l) 183;have b1:=Er w (Ec (EH l) 183);have S1:=J<|S0.out.u b1;have MM:=J<|Ex.EC (lo:=lo) (hi:=hi) b1;obtain⟨v1,hv1⟩:=Eo (l.getD 1 0);have Od:Ed (∀W g,H W g (EH l) 183->W.cell? ⟨g,1,Z⟩=X (E I v1)):=J (fun W g K=>by rw[hv1];exact XT K 1 D D);try rw[<-hv1]
 replace hv1:=J hv1;clear S hn hl S0;obtain⟨mv,hmv⟩:=Eo (EH l);rw[<-hmv] at KM b1 S1 MM Od⊢;clear hmv;go_enter Tryz.func133,Tryz.ntmps133;go_wp2_with (with_reducible refine JU 12 ?_);apply Et;clear b1;generalize w.alloc (Ec mv 183)=w1 at*;obtain⟨gm,hgm⟩:=Eo w.heap.size;rw[<-hgm] at KM⊢;clear hgm;have z0:=S1.out.Iy;obtain⟨big,KB,OC⟩:=aT S1.out.core;have KB:=J KB;have c_:Ed (big.extract 56 (56+8)=Im):=J<|(OC 1 c.tok.v U).trans XV.out;have CD:=J Sp;rw[Ug] at CD;clear OC Sp Ug;go_wp2_with (with_reducible refine wM (off:=56) (cs:=Im) ER KB ?_ (hn:=U8.out) (he:=c_.out));refine(CD.out _).mono ?_;rintro e6 w6 ⟨rfl,b6⟩;replace KM:=EP KM b6;replace S1:=J<|S1.out.u b6;replace MM:=J<|MM.out.trans (Ex.EC b6);clear b6 z0 KB CD;cases hr:c.tok.nz k with|mk t cd=>
 have HR:=J hr;rw[show(t,cd).fst.a=t.a from rfl];clear hr;obtain⟨tv,Ik,TS,TO,ZR,fm⟩: ∃tv,t.a=EZ tv/\Ed (tv.size=8)/\Ed (tv.all (·.oneCell')=EI)/\Ed (tv.toList=t.v)/\Ed (∀W g,H W g tv 109->W.cell? ⟨g,0,Z⟩=X (E I t.h)/\W.cell? ⟨g,1,Z⟩=X (E I t.e)):=⟨_,U,J U,J (d_ _ _ _ _ _ _ _ _),J U,J fun W g K=>⟨(H.cell K 0).trans U,(H.cell K 1).trans U⟩⟩;rw[Ik];go_wp2_with (with_reducible refine dc 109 ?_);apply Et;generalize hW:XX _ _=w7 at*;have KT:Ed (H w7 (w6.heap.size) #[E I 0,E I 0,E I 0,E I 0,E I 0,E I 0,E I 0,EU V] 109):=J (by subst hW;repeat (first|exact H.new _ _ _|exact H.new' _ _ _ Ej|refine H.alloc ?_ _));have b7:Ed (Ek w6 w7):=J Sg;clear hW;obtain⟨gk,Zp⟩:=Eo w6.heap.size;rw[<-Zp] at KT⊢;have LK:=J (show w6.heap.size<=gk from D);clear Zp;go_wp2_with (with_reducible refine wS (cs:=tv) ER KT (Ey.mk ?_) (hn:=TS.out) (h1:=TO.out));apply Et;replace KT:=J<|KT.out.setRow tv;replace b7:=J<|E6 (g:=gk) b7.out LK.out tv;generalize w7.setRow gk tv=w8 at*;replace KM:=EP KM b7.out;replace S1:=J<|S1.out.u b7.out;replace MM:=J<|MM.out.trans (Ex.EC b7.out);clear b7 LK Ik;have c1:=Od.out _ _ KM.out;rcases EbW c.tok k with hc|⟨ho1,ho2,hc⟩;·have hcd:cd=28:=vX;subst hcd;clear hc;go_wp2_with fail;refine(gu lo hi g gc gq gt gs c ns rs k v1 28 _ S1.out J2 JK).mono ?_;rintro e7 w7 ⟨rfl,s7,m7⟩;have S8:=J s7;replace MM:=J<|MM.out.trans m7;clear s7 m7;go_wp2_with fail;refine EV (UC U _ _ _) U ?_;exact⟨U,⟨_,1,_,D,S8.out,.inl ⟨28,U,U⟩⟩,MM.out⟩
 ·have hcd:cd=0:=vX;have ht:t=c.tok.end_:=vX;have GS:=J ht;have HO:=J<|show 0<=c.tok.o/\c.tok.o=k from⟨ho1,ho2⟩;subst hcd;clear hc ho1 ho2 ht;go_wp2_with fail;have y0: ∀y:Ext w8,(EA w8 y).cell? ⟨gs,0,Z⟩=X (Y (X ⟨gc,0,Z⟩)):=fun y=>(S1.out.u (EL y)).Iy;refine J_ 7 Ef Ef ?_;simp only[Is,Io,IS,IM]
  repeat (first
   |go_big_quiet_skip
   |(go_big_quiet_want
     first
      |(refine Og (T:=109) (g:=gk) ER _ rfl rfl KT ?_ ?_;(·exact TS.out);go_simp;go_big_quiet_on)
      |(go_big_quiet_op
        first
         |go_big_quiet_on
         |go_big_quiet_call (fail))))
  refine I2 ?_;intro _ hw';obtain⟨y9,rfl⟩:=hw';have En:=EL y9;replace KT:=EP KT En;replace KM:=EP KM En;replace S1:=J<|S1.out.u En;replace MM:=J<|MM.out.trans (Ex.EC En);clear y0 En c1;generalize EA w8 y9=w9 at*;have TH:=J<|bS S1.out.core 1 rfl 8 Xx;go_wp2_with ((with_reducible refine Jr 109 ?_);(with_reducible refine Um U 109 _ _ U gc 56 tv ?_ ?_ ?_ ?_ ?_ ?_);(·rfl);(·rfl);(·rw[TS.out];exact TH.out);(·rw[TS.out];exact ER.2);(·exact TO.out);refine Ey.mk ?_);apply Et;rw[ZR.out];have S4:=S1.out.ac t (S1.out.core.ok.ac (by rw[GS.out];exact So S1.out.core.ok.tok));obtain⟨d0,d1,d2,hd,KG,-⟩:=S1.out.core.El;replace KT:=J<|(JG (g:=gc) t.v 56 w9).El KT.out (E7 KT.out KG Eb);replace KM:=J<|(JG (g:=gc) t.v 56 w9).El KM.out (E7 KM.out KG Eb);replace S1:=J S4.1;replace MM:=J<|MM.out.trans S4.2;clear S4 TH KG;generalize w9.setCells gc 56 t.v=U0 at*;have c0:=(fm.out _ _ KT.out).1;go_wp2_with fail;refine(oF lo hi g gc gq gt gs _ ns rs t.h k 0 _ S1.out J2).mono ?_;rintro e11 cg ⟨rfl,⟨m1,hm1,s11⟩,m11⟩;replace KM:=J<|m11.El KM.out Eb Eb;replace S1:=J s11;replace MM:=J<|MM.out.trans m11;have iQ:=J hm1;clear m11 s11 hm1 c0 KT;have c1:=Od.out _ _ KM.out;go_wp2_with fail;refine(Zl lo hi g gc gq gt gs _ (ns+m1) rs 11 k v1 0 0 _ S1.out JK).mono ?_;rintro e12 Xz ⟨rfl,s12,m12⟩;replace KM:=J<|m12.El KM.out Eb Eb;replace S1:=J s12;replace MM:=J<|MM.out.trans m12;clear m12 s12 c1;have c1:=Od.out _ _ KM.out;go_wp2_with fail;refine(iG lo hi g gc gq gt gs _ (ns+m1) _ k v1 _ S1.out u_).mono ?_;rintro e13 JQ ⟨rfl,s13,m13⟩;have S8:=J s13;replace MM:=J<|MM.out.trans m13;clear s13 m13;go_wp2;go_end0;refine⟨U,⟨_,m1+1,_,rA,S8.out,.inr ⟨HO.out.1,HO.out.2,?_,?_⟩⟩,MM.out⟩;·rw[GS.out]
  ·rw[GS.out];rfl
theorem Eb0(t:EM)(po s d:Int)(th:Bool):((t.make po s d th).2≠0)\/(s=t.h/\t.e<65535/\d≠s/\1<=d/\d<=3/\t.o<0/\t.make po s d th=({t with o:=d,oa:=0,om:=max po 0},0)):=by
 unfold EM.make;by_cases h1:s≠t.h;·rw[if_pos h1];exact .inl Ej
 ·rw[if_neg h1];by_cases h2:65535<=t.e;·rw[if_pos h2];exact .inl Ej
  ·rw[if_neg h2];by_cases h3:d=s;·rw[if_pos h3];exact .inl Ej
   ·rw[if_neg h3];by_cases h4:d<1\/3<d\/th=V;·rw[if_pos h4];exact .inl Ej
    ·rw[if_neg h4];by_cases h5:0<=t.o;·rw[if_pos h5];exact .inl Ej
     ·rw[if_neg h5];exact .inr ⟨D,D,h3,D,D,D,U⟩
theorem Eb1(lo hi:Nat)(g:Nat->G)(gc gq gt gs:Nat)(c:EF)(ns:Nat)(rs:List Rec)(l:List Int)(k:Int)(w:M)(S:E4 lo hi g gc gq gt gs c ns rs w)(hk:1<=k/\k<=3)(hn:ns<800000)(hl:rs.length<800000): Eg Ea 131 #[Y (X ⟨gs,0,Z⟩),E I k,EZ (EH l)] w fun e w'=>e=Eh (Es #[])/\(∃c' m new,m<=3/\E4 lo hi g gc gq gt gs c' (ns+m) (rs++new) w'/\((∃cd,c'=c/\new=[⟨7,k,l.getD 1 0,c.tok.e,cd,0⟩])\/(∃po:Int,g 44=E I po/\k=c.tok.h/\c.tok.o<0/\c'={c with tok:={c.tok with o:=l.getD 3 0,oa:=0,om:=max po 0}}/\new=[⟨9,k,l.getD 1 0,c.tok.e,0,l.getD 3 0⟩])))/\Ex lo hi w w':=by
 obtain⟨po,hpo,Sq⟩:=S.core.XQ.fit 44 D D;have gC:=J hpo;have Z_:Ed ((po:Int)<=1000):=J (by have:=Sq.2.1;unfold bz at this;simp at this;omega);have Zq:=fun d th W=>EJZ g c.tok k d po th W hpo;have HK:=J hk;clear hpo Sq hk;obtain⟨Im,Ug,U8,XV⟩: ∃Im,c.tok.a=EZ Im/\Ed (Im.size=8)/\Ed (c.tok.v.toArray=Im):=⟨_,U,J U,J U⟩;obtain⟨pv,hpv,vU,GG⟩: ∃pv,EN 56 g=pv/\Ed (pv.size=56)/\Ed ((EN 56 g).toList.toArray=pv):=⟨_,U,J ju,J Ej⟩;have S0:=J S;have HN:=J hn;have HL:=J hl;have KM:=J<|H.new w (EH l) 183;have b1:=Er w (Ec (EH l) 183);have S1:=J<|S0.out.u b1;have MM:=J<|Ex.EC (lo:=lo) (hi:=hi) b1;obtain⟨v1,hv1⟩:=Eo (l.getD 1 0);have Od:Ed (∀W g,H W g (EH l) 183->W.cell? ⟨g,1,Z⟩=X (E I v1)):=J (fun W g K=>by rw[hv1];exact XT K 1 D D);try rw[<-hv1]
 replace hv1:=J hv1;obtain⟨v3,hv3⟩:=Eo (l.getD 3 0);have vZ:Ed (∀W g,H W g (EH l) 183->W.cell? ⟨g,3,Z⟩=X (E I v3)):=J (fun W g K=>by rw[hv3];exact XT K 3 D D);try rw[<-hv3]
 replace hv3:=J hv3;clear S hn hl S0;obtain⟨mv,hmv⟩:=Eo (EH l);rw[<-hmv] at KM b1 S1 MM Od vZ⊢;clear hmv;cases hr:c.tok.make po k v3 (c.T.Zf v3) with|mk t2 cd=>
 obtain⟨rv,IG,RS,RO⟩:=Zo t2;have RS:=J RS;have RO:=J RO;have Uf:=J IG;have HR:=J hr;have CA:Ed (∀W,Eg Ea 178 #[EZ pv,EZ Im,E I k,E I v3,EU (c.T.Zf v3)] W fun x w'=>x=Eh (Es #[EZ rv,E I cd])/\Ek W w'):=J (fun W=>by have h:=Zq v3 (c.T.Zf v3) W;rw[hr,Ug,hpv] at h;rw[<-IG];exact h);clear hr Zq Ug hpv;obtain⟨e2,he2⟩:=Eo t2.e;have CE:Ed (∀W g,H W g rv 109->W.cell? ⟨g,1,Z⟩=X (E I e2)):=J (fun W g K=>by have e:rv=O4 t2.h t2.e t2.o t2.oa t2.om t2.la t2.lm t2.bad:=Sr;subst e;rw[he2];exact(H.cell K 1).trans U);have ZR:Ed (rv.toList=t2.v):=J (by have:=IG;unfold EM.a at this;injection this with this;rw[<-this];rfl);clear IG he2;have BR3:Tryz.prog.built 222 [(0,E I 135),(3,E I k),(4,E I e2)]=X (I7 [135,0,0,k,e2,0,0,0,0,0,0,0,0,0]):=Ef;go_enter Tryz.func131,Tryz.ntmps131;go_wp2_with fail;clear b1;generalize w.alloc (Ec mv 183)=w1 at*;obtain⟨gm,hgm⟩:=Eo w.heap.size;rw[<-hgm] at KM⊢;clear hgm;obtain⟨n0,hn0⟩:=Eo w1.heap.size;have XA:=J (show lo<=n0/\hi<=n0/\w.heap.size<=n0 from ma);refine gD (Ph:=fun _ wq=>(E4 lo hi g gc gq gt gs c ns rs wq/\Ex lo hi w wq/\H wq gm mv 183/\n0<=wq.heap.size)) (Rel:=Jn) (In:=j7) [.val (fun v=>v=Y (X ⟨gs,0,Z⟩)),.val (fun v=>v=Y (X ⟨gs,0,Z⟩)),.val (fun v=>v=Y (X ⟨gs,0,Z⟩)),.val (fun v=>v=Y (X ⟨gc,0,Z⟩)),.val (fun v=>v=Y (X ⟨gc,0,Z⟩)),.val (fun v=>v=Y (X ⟨gc,0,Z⟩)),.val (fun v=>v=EZ pv),.val (fun v=>v=Y (X ⟨gs,0,Z⟩)),.val (fun v=>v=Y (X ⟨gs,0,Z⟩)),.val (fun v=>v=Y (X ⟨gs,0,Z⟩)),.val (fun v=>v=Y (X ⟨gc,0,Z⟩)),.val (fun v=>v=Y (X ⟨gc,0,Z⟩)),.val (fun v=>v=Y (X ⟨gc,56,Z⟩)),.val (fun v=>v=EZ Im),.val (fun v=>v=E I k),.val (fun v=>v=Y (X ⟨gm,3,Z⟩)),.val (fun v=>v=E I v3),.val (fun v=>v=Y (X ⟨gs,0,Z⟩)),.val (fun v=>v=Y (X ⟨gs,0,Z⟩)),.val (fun v=>v=Y (X ⟨gs,0,Z⟩)),.val (fun v=>v=Y (X ⟨gc,0,Z⟩)),.val (fun v=>v=Y (X ⟨gc,0,Z⟩)),.val (fun v=>v=Y (X ⟨gc,95,Z⟩)),.val (fun v=>v=Y (X ⟨gt,0,Z⟩)),.val (fun v=>v=Y (X ⟨gm,3,Z⟩)),.val (fun v=>v=E I v3),.val (fun v=>v=EU (c.T.Zf v3)),.val (fun v=>v=Es #[EZ rv,E I cd]),.val (fun v=>v=Es #[EZ rv,E I cd]),.val (fun v=>v=EZ rv),.val (fun v=>v=E I cd),.dep (ZV n0) (fun v w w' h hr=>h.u hr) (fun v w w' h hr=>h.gF hr),.tie [31] (fun x w=> ∃b:Nat,x 31=Y (X ⟨b,0,Z⟩)/\n0<=b/\H w b rv 109) (fun x w w' h hr=>o_) (fun x y w hq h=>by rw[hq 31 Ej] at h;exact h),.val (fun v=>v=E I cd)] [V,V,V,V,V,V,V,V,V,V,V,V,V,V,V,V,V,V,V,V,V,V,V,V,V,V,V,V,V,V,V,V,EI,V] U [[],[],[],[],[],[],[],[],[],[],[],[],[],[],[],[],[],[],[],[],[],[],[],[],[],[],[],[],[],[],[],[],[31],[]] U [32] [(0,0),(0,0),(0,0),(0,0),(0,0),(0,0),(0,0),(0,0),(0,0),(0,0),(0,0),(0,0),(0,0),(0,0),(0,0),(0,0),(0,0),(0,0),(0,0),(0,0),(0,0),(0,0),(0,0),(0,0),(0,0),(0,0),(0,0),(0,0),(0,0),(0,0),(0,1),(0,0),(0,0),(1,1)] Ef Ef Ef Ef Ef Ef O0 Ef ?hPh ?h0 ?hstep ?hend;case hPh=> intro p w2 w3 h hr;exact⟨h.1.u hr,h.2.1.trans (Ex.EC hr),H.u h.2.2.1 hr,EB h.2.2.2 (UQ hr)⟩
 case h0=> exact Emz
 case hstep=>
  refine⟨?_,?_,?_,?_,?_,?_,?_,?_,?_,?_,?_,?_,?_,?_,?_,?_,?_,?_,?_,?_,?_,?_,?_,?_,?_,?_,?_,?_,?_,?_,?_,?_,?_,?_,trivial⟩;all_goals first|intro xv wq p hlo hhi hp hd|intro xv wq hp hd
  all_goals simp only[ED,Ic,Ii,IJ,IU]
  ·exact Ej_
  ·exact Eki
  ·exact Ekh
  ·exact ElT
  ·exact Ekg
  ·exact Ekw
  ·obtain rfl:p=0:=D;have d5:xv 5=Y (X ⟨gc,0,Z⟩):=hd.at 5 rfl;obtain⟨big,KB,OC⟩:=aT hp.1.core;exact ElC
  ·exact Ej_
  ·exact EkY
  ·exact EkW
  ·obtain rfl:p=0:=D;have d9:xv 9=Y (X ⟨gs,0,Z⟩):=hd.at 9 rfl;have cc:wq.cell? ⟨gs,0,Z⟩=X (Y (X ⟨gc,0,Z⟩)):=hp.1.Iy;exact Ep vO U
  ·exact EkR
  ·exact EkQ
  ·obtain rfl:p=0:=D;have d12:xv 12=Y (X ⟨gc,56,Z⟩):=hd.at 12 rfl;obtain⟨big,KB,OC⟩:=aT hp.1.core;exact Ela
  ·exact Ej_
  ·exact Ej_
  ·obtain rfl:p=0:=D;have d15:xv 15=Y (X ⟨gm,3,Z⟩):=hd.at 15 rfl;have cc:wq.cell? ⟨gm,3,Z⟩=X (E I v3):=vZ.out _ _ hp.2.2.1;exact Ep (by simp[go_sem,d15,cc]) U
  ·exact Ej_
  ·obtain rfl:p=0:=D;have d17:xv 17=Y (X ⟨gs,0,Z⟩):=hd.at 17 rfl;exact Ep mf U
  ·obtain rfl:p=0:=D;have d18:xv 18=Y (X ⟨gs,0,Z⟩):=hd.at 18 rfl;exact Ep GM U
  ·obtain rfl:p=0:=D;have d19:xv 19=Y (X ⟨gs,0,Z⟩):=hd.at 19 rfl;have cc:wq.cell? ⟨gs,0,Z⟩=X (Y (X ⟨gc,0,Z⟩)):=hp.1.Iy;exact Ep Aj U
  ·obtain rfl:p=0:=D;exact EnB
  ·obtain rfl:p=0:=D;have d21:xv 21=Y (X ⟨gc,0,Z⟩):=hd.at 21 rfl;exact Ep (by simp[go_sem,d21]) U
  ·obtain rfl:p=0:=D;have d22:xv 22=Y (X ⟨gc,95,Z⟩):=hd.at 22 rfl;have cc:wq.cell? ⟨gc,95,Z⟩=X (Y (X ⟨gt,0,Z⟩)):=hp.1.core.cell 6 rfl 0 Ej;exact Ep GP U
  ·exact Ej_
  ·obtain rfl:p=0:=D;have d24:xv 24=Y (X ⟨gm,3,Z⟩):=hd.at 24 rfl;have cc:wq.cell? ⟨gm,3,Z⟩=X (E I v3):=vZ.out _ _ hp.2.2.1;exact Ep (by simp[go_sem,d24,cc]) U
  ·obtain rfl:p=0:=D;have d23:xv 23=Y (X ⟨gt,0,Z⟩):=hd.at 23 rfl;have d25:xv 25=E I v3:=hd.at 25 rfl;refine JE (f:=55) (args:= #[xv 23,xv 25]) (Ei U) Ew ?_;rw[d23,d25];exact(lC gt c.T v3 wq hp.1.core.tab hp.1.core.ok.T).mono fun e w2 h=>⟨_,h.1,h.2▸E_ _ _,U⟩
  ·obtain rfl:p=0:=D;have d6:xv 6=EZ pv:=hd.at 6 rfl;have d13:xv 13=EZ Im:=hd.at 13 rfl;have d14:xv 14=E I k:=hd.at 14 rfl;have d16:xv 16=E I v3:=hd.at 16 rfl;have d26:xv 26=EU (c.T.Zf v3):=hd.at 26 rfl;refine JE (f:=178) (args:= #[xv 6,xv 13,xv 14,xv 16,xv 26]) (Ei U) Ew ?_;rw[d6,d13,d14,d16,d26];exact En1
  ·obtain rfl:p=0:=D;have d27:xv 27=Es #[EZ rv,E I cd]:=hd.at 27 rfl;exact Ep (by simp[go_sem,d27]) U
  ·obtain rfl:p=0:=D;exact EnA
  ·exact EnA
  ·exact Emt
  ·have d29:xv 29=EZ rv:=hd.at 29 rfl;obtain⟨b,d0,eA,lb,h8,kb⟩:ZV n0 (xv 31) wq:=hd.at 31 rfl;have nh:=XA.out;refine cO ER (Ei U) ⟨U,eA,d29⟩ kb h8 RS.out RO.out ⟨rB kb RS.out,?_⟩ ⟨b,eA,lb,kb.setRow _⟩;exact ElV
  ·obtain rfl:p=1:=D;have d30:xv 30=E I cd:=hd.at 30 rfl;exact Ep (by simp[go_sem,d30]) U
 case hend=>
  intro xv W6 hp hd;clear S1 MM KM;simp only[ED,Ic,Ii,IJ,IU];obtain⟨b,eA,lb,kb⟩: ∃b:Nat,xv 31=Y (X ⟨b,0,Z⟩)/\n0<=b/\H W6 b rv 109:=hd 32 Eb;have d33:xv 33=E I cd:=hd 33 Eb;obtain⟨s6,m6,dE,-⟩:=hp;have S1:=J s6;have MM:=J m6;have KM:=J dE;have KB:=J kb;rw[eA,d33];clear s6 m6 dE kb hd eA d33 CA;have c1:=Od.out _ _ KM.out;rcases Eb0 c.tok po k v3 (c.T.Zf v3) with hc|⟨q1,q2,q3,q4,q5,q6,hc⟩
  ·have hcd:cd≠0:=by rw[HR.out] at hc;exact hc
   have t9:(cd !=0)=EI:=cW;clear hc hcd;exact Ek0
  ·have hcd:cd=0:=vX;have ht:t2={c.tok with o:=v3,oa:=0,om:=max (po:Int) 0}:=vX;have HT:=J ht;have HTO:Ed (t2.ok):=J (by have hh:=S1.out.core.ok.tok;have hb:=Z_.out;have hk:=HK.out;rw[ht];exact⟨hh.h,hh.e,⟨by show(-1:Int)<=v3;omega,q5⟩,⟨X6 _,by show(0:Int)<=1000;omega⟩,⟨by show(0:Int)<=max (po:Int) 0;omega,by show max (po:Int) 0<=1000;omega⟩,hh.la,hh.lm,fun _=>⟨by show 1<=c.tok.h;omega,by show c.tok.h<=3;omega,by show v3≠c.tok.h;omega⟩⟩);have HQ1:=J q1;have HQ6:=J q6;subst hcd;clear hc q1 q2 q3 q4 q5 q6 ht;go_wp2_with fail;have y0: ∀y:Ext W6,(EA W6 y).cell? ⟨gs,0,Z⟩=X (Y (X ⟨gc,0,Z⟩)):=fun y=>(S1.out.u (EL y)).Iy;refine J_ 7 Ef Ef ?_;simp only[Is,Io,IS,IM]
   repeat (first
    |go_big_quiet_skip
    |(go_big_quiet_want
      first
       |(refine Og (T:=109) (g:=b) ER _ rfl rfl KB ?_ ?_;(·exact RS.out);go_simp;go_big_quiet_on)
       |(go_big_quiet_op
         first
          |go_big_quiet_on
          |go_big_quiet_call (fail))))
   refine I2 ?_;intro _ hw';obtain⟨y9,rfl⟩:=hw';have En:=EL y9;replace KB:=EP KB En;replace KM:=EP KM En;replace S1:=J<|S1.out.u En;replace MM:=J<|MM.out.trans (Ex.EC En);clear y0 En c1;generalize EA W6 y9=w9 at*;have TH:=J<|bS S1.out.core 1 rfl 8 Xx;go_wp2_with ((with_reducible refine Jr 109 ?_);(with_reducible refine Um U 109 _ _ U gc 56 rv ?_ ?_ ?_ ?_ ?_ ?_);(·rfl);(·rfl);(·rw[RS.out];exact TH.out);(·rw[RS.out];exact ER.2);(·exact RO.out);refine Ey.mk ?_);apply Et;rw[ZR.out];have S4:=S1.out.ac t2 (S1.out.core.ok.ac HTO.out);obtain⟨d0,d1,d2,hd,KG,-⟩:=S1.out.core.El;replace KB:=J<|(JG (g:=gc) t2.v 56 w9).El KB.out (E7 KB.out KG Eb);replace KM:=J<|(JG (g:=gc) t2.v 56 w9).El KM.out (E7 KM.out KG Eb);replace S1:=J S4.1;replace MM:=J<|MM.out.trans S4.2;clear S4 TH KG;generalize w9.setCells gc 56 t2.v=U0 at*;have c0:=CE.out _ _ KB.out;have c3:=vZ.out _ _ KM.out;go_wp2_with ((with_reducible refine It 60 ?_);refine JO U 222 _ U (I7 [135,0,0,k,e2,0,0,0,0,0,0,0,0,0]) BR3 ?_);refine(zM lo hi g gc gq gt gs _ ns rs [135,0,0,k,e2,0,0,0,0,0,0,0,0,0] v3 _ S1.out (oD _ _ _ _ _ _) J2).mono ?_;rintro e11 cg ⟨rfl,⟨m1,hm1,s11⟩,m11⟩;replace KM:=J<|m11.El KM.out Eb Eb;replace S1:=J s11;replace MM:=J<|MM.out.trans m11;have iQ:=J hm1;clear m11 s11 hm1 c0 c3 KB;have c1:=Od.out _ _ KM.out;have c3:=vZ.out _ _ KM.out;go_wp2_with fail;refine(Zl lo hi g gc gq gt gs _ (ns+m1) rs 9 k v1 0 v3 _ S1.out JK).mono ?_;rintro e12 Xz ⟨rfl,s12,m12⟩;replace KM:=J<|m12.El KM.out Eb Eb;replace S1:=J s12;replace MM:=J<|MM.out.trans m12;clear m12 s12 c1 c3;have c1:=Od.out _ _ KM.out;go_wp2_with fail;refine(iG lo hi g gc gq gt gs _ (ns+m1) _ k v1 _ S1.out u_).mono ?_;rintro e13 JQ ⟨rfl,s13,m13⟩;have S8:=J s13;replace MM:=J<|MM.out.trans m13;clear s13 m13;go_wp2;go_end0;refine⟨U,⟨_,m1+1,_,rA,S8.out,.inr ⟨po,gC.out,HQ1.out,HQ6.out,?_,?_⟩⟩,MM.out⟩;·rw[HT.out,hv3.out]
   ·rw[HT.out]
theorem Ss:IF Ea 183 12:=⟨⟨_,Tryz.underlying183,U⟩,Ef⟩
theorem vb:IF Ea 25 4:=⟨⟨_,Tryz.underlying25,U⟩,Ef⟩
theorem Am{x m:Int}(hx:I4 x)(h0:0<=m/\m<=32767):I4 (ak x (-m) m):=by
 obtain⟨h1,h2⟩:=hx;unfold ak I4;repeat' split
 all_goals omega
theorem Su(g:Nat->G)(p0:Pt)(hf: ∀i,9<=i->i<56-> ∃n:Nat,g i=E I n/\Nl i n)(hp:p0.ok)(k q cl x0 x1 x2 x3:Int)(hc:0<=cl/\cl<=3)(h0:I4 x0)(h1:I4 x1)(h2:I4 x2)(h3:I4 x3): ∃p:Pt,p.ok/\p.b=⟨1,k,q⟩/\ ∀W,Eg Ea 139 #[EZ (EN 56 g),EZ p0.v.toArray,E I cl,EZ #[E I x0,E I x1,E I x2,E I x3],EZ #[E I 1,E I k,E I q]] W fun e w'=>e=Eh (EZ p.v.toArray)/\Ek W w':=by
 have hb: ∀i,50<=i->i<54-> ∃n:Int,g i=E I n/\0<=n/\n<=32767:=fun i h4 h5=>by
  obtain⟨n,e,ho⟩:=hf i D D;refine⟨n,e,D,?_⟩;have:=ho.2.1
  have hh:bz i<=1000:=by
   unfold bz;repeat' split
   all_goals omega
  omega
 have mk: ∀(cl m:Int),0<=cl/\cl<=3->0<=m/\m<=32767->(⟨cl,ak x0 (-m) m,ak x1 (-m) m,ak x2 (-m) m,ak x3 (-m) m,p0.n0,p0.n1,p0.n2,p0.n3,⟨1,k,q⟩⟩:Pt).ok:=fun cl m h4 h5=>⟨⟨by show _<=cl;omega,by show cl<=_;omega⟩,Am h0 h5,Am h1 h5,Am h2 h5,Am h3 h5,hp.n0,hp.n1,hp.n2,hp.n3⟩;have h:cl=0\/cl=1\/cl=2\/cl=3:=D;rcases h with rfl|rfl|rfl|rfl;·obtain⟨m,e,hm⟩:=hb 50 D D;exact⟨_,mk 0 m D hm,U,fun W=>z_ g m 0 50 D e hm p0.c p0.a0 p0.a1 p0.a2 p0.a3 p0.n0 p0.n1 p0.n2 p0.n3 p0.b.r p0.b.s p0.b.q 1 k q x0 x1 x2 x3 W⟩
 ·obtain⟨m,e,hm⟩:=hb 51 D D;exact⟨_,mk 1 m D hm,U,fun W=>z_ g m 1 51 D e hm p0.c p0.a0 p0.a1 p0.a2 p0.a3 p0.n0 p0.n1 p0.n2 p0.n3 p0.b.r p0.b.s p0.b.q 1 k q x0 x1 x2 x3 W⟩
 ·obtain⟨m,e,hm⟩:=hb 52 D D;exact⟨_,mk 2 m D hm,U,fun W=>z_ g m 2 52 D e hm p0.c p0.a0 p0.a1 p0.a2 p0.a3 p0.n0 p0.n1 p0.n2 p0.n3 p0.b.r p0.b.s p0.b.q 1 k q x0 x1 x2 x3 W⟩
 ·obtain⟨m,e,hm⟩:=hb 53 D D;exact⟨_,mk 3 m D hm,U,fun W=>z_ g m 3 53 D e hm p0.c p0.a0 p0.a1 p0.a2 p0.a3 p0.n0 p0.n1 p0.n2 p0.n3 p0.b.r p0.b.s p0.b.q 1 k q x0 x1 x2 x3 W⟩
structure vc(l:List Int):Prop where
 q:0<=l.getD 1 0/\l.getD 1 0<=4294967295
 m:0<=l.getD 5 0/\l.getD 5 0<=4
 c:0<=l.getD 6 0/\l.getD 6 0<=3
 x0:I4 (l.getD 8 0)
 x1:I4 (l.getD 9 0)
 x2:I4 (l.getD 10 0)
 x3:I4 (l.getD 11 0)
theorem Eb6(lo hi:Nat)(g:Nat->G)(gc gq gt gs:Nat)(c:EF)(ns:Nat)(rs:List Rec)(l:List Int)(k:Int)(w:M)(S:E4 lo hi g gc gq gt gs c ns rs w)(hk:1<=k/\k<=3)(hm:vc l)(hn:ns<800000)(hl:rs.length<800000): Eg Ea 135 #[Y (X ⟨gs,0,Z⟩),E I k,EZ (EH l)] w fun e w'=>e=Eh (Es #[])/\(∃c' m new,m<=3/\E4 lo hi g gc gq gt gs c' (ns+m) (rs++new) w'/\((∃cd,c'=c/\new=[⟨7,k,l.getD 1 0,c.tok.e,cd,0⟩])\/(new=[⟨6,k,l.getD 1 0,c.tok.e,0,0⟩]/\(c'={c with mode:=l.getD 5 0,En:=⟨1,k,l.getD 1 0⟩}\/ ∃p:Pt,p.b=⟨1,k,l.getD 1 0⟩/\c'={c with pt:=p}))))/\Ex lo hi w w':=by
 have HK:=J hk;have iS:=J hm;obtain⟨jd,rF⟩: ∃jd:Int,∀W,X5 W->Eg Ea 138 #[EZ (EN 56 g),EZ c.tok.v.toArray,E I k,E I (c.T.fJ k),E I c.mode,EZ (EH l)] W fun e w'=>e=Eh (E I jd)/\Ek W w':=⟨_,fun W hc=>QQ g c.tok.h c.tok.e k (c.T.fJ k) c.mode (l.getD 0 0) (l.getD 4 0) (l.getD 5 0) (l.getD 6 0) (E I c.tok.o) (E I c.tok.oa) (E I c.tok.om) (E I c.tok.la) (E I c.tok.lm) (EU c.tok.bad) (E I (l.getD 1 0)) (E I (l.getD 2 0)) (E I (l.getD 3 0)) (EU (l.getD 7 0==1)) (E I (l.getD 8 0)) (E I (l.getD 9 0)) (E I (l.getD 10 0)) (E I (l.getD 11 0)) W (fun i h1 h2=>S.core.XQ.int i h2 (.inr D)) hc⟩;clear hk hm;have Sv:Ed ((EH l).size=12):=J<|JI l;have MG:Ed (∃A:List G,A.length=8/\ ∀W g,H W g (EH l) 183->Jh W g [A,[E I (l.getD 8 0),E I (l.getD 9 0),E I (l.getD 10 0),E I (l.getD 11 0)]] 183):=J ⟨[E I (l.getD 0 0),E I (l.getD 1 0),E I (l.getD 2 0),E I (l.getD 3 0),E I (l.getD 4 0),E I (l.getD 5 0),E I (l.getD 6 0),EU (l.getD 7 0==1)],U,fun W g K=>K⟩;obtain⟨p,hpo,hpb,j9⟩: ∃p:Pt,p.ok/\p.b=⟨1,k,l.getD 1 0⟩/\ ∀W,Eg Ea 139 #[EZ (EN 56 g),EZ c.pt.v.toArray,E I (l.getD 6 0),EZ #[E I (l.getD 8 0),E I (l.getD 9 0),E I (l.getD 10 0),E I (l.getD 11 0)],EZ #[E I 1,E I k,E I (l.getD 1 0)]] W fun e w'=>e=Eh (EZ p.v.toArray)/\Ek W w':=Su g c.pt S.core.XQ.fit S.core.ok.pt k (l.getD 1 0) (l.getD 6 0) (l.getD 8 0) (l.getD 9 0) (l.getD 10 0) (l.getD 11 0) iS.out.c iS.out.x0 iS.out.x1 iS.out.x2 iS.out.x3;have gC:=J hpo;have Z_:=J hpb;have CS:=J j9;clear hpo hpb j9;have S0:=J S;have HN:=J hn;have HL:=J hl;have KM:=J<|H.new w (EH l) 183;have b1:=Er w (Ec (EH l) 183);have S1:=J<|S0.out.u b1;have MM:=J<|Ex.EC (lo:=lo) (hi:=hi) b1;obtain⟨v0,hv0⟩:=Eo (l.getD 0 0);have An:Ed (∀W g,H W g (EH l) 183->W.cell? ⟨g,0,Z⟩=X (E I v0)):=J (fun W g K=>by rw[hv0];exact XT K 0 D D);try rw[<-hv0]
 replace hv0:=J hv0;obtain⟨v1,hv1⟩:=Eo (l.getD 1 0);have Od:Ed (∀W g,H W g (EH l) 183->W.cell? ⟨g,1,Z⟩=X (E I v1)):=J (fun W g K=>by rw[hv1];exact XT K 1 D D);try rw[<-hv1]
 replace hv1:=J hv1;obtain⟨v5,hv5⟩:=Eo (l.getD 5 0);have Sw:Ed (∀W g,H W g (EH l) 183->W.cell? ⟨g,5,Z⟩=X (E I v5)):=J (fun W g K=>by rw[hv5];exact XT K 5 D D);try rw[<-hv5]
 replace hv5:=J hv5;obtain⟨v6,hv6⟩:=Eo (l.getD 6 0);have Sx:Ed (∀W g,H W g (EH l) 183->W.cell? ⟨g,6,Z⟩=X (E I v6)):=J (fun W g K=>by rw[hv6];exact XT K 6 D D);try rw[<-hv6]
 replace hv6:=J hv6;obtain⟨v8,rG⟩:=Eo (l.getD 8 0);have MC8:Ed (∀W g,H W g (EH l) 183->W.cell? ⟨g,8,Z⟩=X (E I v8)):=J (fun W g K=>by rw[rG];exact XT K 8 D D);try rw[<-rG]
 replace rG:=J rG;obtain⟨v9,rH⟩:=Eo (l.getD 9 0);have MC9:Ed (∀W g,H W g (EH l) 183->W.cell? ⟨g,9,Z⟩=X (E I v9)):=J (fun W g K=>by rw[rH];exact XT K 9 D D);try rw[<-rH]
 replace rH:=J rH;obtain⟨v10,rK⟩:=Eo (l.getD 10 0);have Eb9:Ed (∀W g,H W g (EH l) 183->W.cell? ⟨g,10,Z⟩=X (E I v10)):=J (fun W g K=>by rw[rK];exact XT K 10 D D);try rw[<-rK]
 replace rK:=J rK;obtain⟨v11,rL⟩:=Eo (l.getD 11 0);have Eb_:Ed (∀W g,H W g (EH l) 183->W.cell? ⟨g,11,Z⟩=X (E I v11)):=J (fun W g K=>by rw[rL];exact XT K 11 D D);try rw[<-rL]
 replace rL:=J rL;clear S hn hl S0;obtain⟨mv,hmv⟩:=Eo (EH l);rw[<-hmv] at KM b1 S1 MM An Od Sw Sx MC8 MC9 Eb9 Eb_ rF Sv MG⊢;clear hmv;go_enter Tryz.func135,Tryz.ntmps135;go_wp2_with fail;clear b1;generalize w.alloc (Ec mv 183)=w1 at*;obtain⟨gm,hgm⟩:=Eo w.heap.size;rw[<-hgm] at KM⊢;clear hgm;obtain⟨d0,d1,d2,hd,KG,o0,o1,o2,-,-⟩:=S1.out.core.El;have U_:=J<|Oj (c:=c) (gq:=gq) (gt:=gt) (hd:=hd) (Jw g) o0 o1 o2 0 D;have vd:=J<|Oj (c:=c) (gq:=gq) (gt:=gt) (hd:=hd) (Jw g) o0 o1 o2 1 D;have KG:=J KG;have PL:=J<|Jw g;have CJ:=J rF;have TB:=J S1.out.core.tab;have Ap:=J S1.out.core.ok.T;have Aq:=J S1.out.core.cmds;clear o0 o1 o2 rF;have y0: ∀y:Ext w1,(EA w1 y).cell? ⟨gs,0,Z⟩=X (Y (X ⟨gc,0,Z⟩)):=fun y=>(S1.out.u (EL y)).Iy;have y95: ∀y:Ext w1,(EA w1 y).cell? ⟨gc,95,Z⟩=X (Y (X ⟨gt,0,Z⟩)):=fun y=>(S1.out.u (EL y)).core.cell 6 rfl 0 Ej;have y98: ∀y:Ext w1,(EA w1 y).cell? ⟨gc,98,Z⟩=X (E I c.mode):=fun y=>(S1.out.u (EL y)).core.cell 9 rfl 0 Ej;have UT:Ed ((EN 56 g).toList.toArray=EN 56 g):=J Ej;refine Zs Ef Ef ?_
 repeat (first
  |go_big_quiet_skip
  |(go_big_quiet_want
    first
     |(refine X7 (T:=28) (g:=gc) (off:=0) Up _ rfl rfl KG 0 rfl U_.out PL.out ?_;(try rw[UT.out]);go_simp;go_big_quiet_on)
     |(refine X7 (T:=109) (g:=gc) (off:=56) ER _ rfl rfl KG 1 rfl vd.out rfl ?_;go_simp;go_big_quiet_on)
     |(refine Og (T:=183) (g:=gm) Ss _ rfl rfl KM ?_ ?_;(·exact Sv.out);go_simp;go_big_quiet_on)
     |(go_big_quiet_op
       first
        |go_big_quiet_on
        |go_big_quiet_call (with_reducible first|refine Xp (qz gt c.T k _ (TB.out.u (EL _)) Ap.out)|refine IY (CJ.out _ (Aq.out.u (EL _)))))))
 refine I2 ?_;intro _ hw';obtain⟨y9,rfl⟩:=hw';have En:=EL y9;replace KM:=EP KM En;replace S1:=J<|S1.out.u En;replace MM:=J<|MM.out.trans (Ex.EC En);clear y0 y95 y98 En KG U_ vd PL UT;generalize EA w1 y9=w2 at*;have c1:=Od.out _ _ KM.out;by_cases hjd:jd=0
 ·subst hjd;have GV:Tryz.prog.built 36 [(0,E I 1),(1,E I k),(2,E I v1)]=X #[E I 1,E I k,E I v1]:=Ef;go_wp2_with (first|((with_reducible refine It 52 ?_);refine JO rfl {LT} _ rfl #[E I 1,E I k,E I v1] GV ?_)|(with_reducible refine JU 54 ?_));apply Et;generalize hW:XX _ _=w4 at*;have KL:Ed (H w4 (w2.heap.size) #[E I 1,E I k,E I v1] 36):=J (by subst hW;repeat (first|exact H.new _ _ _|exact H.new' _ _ _ Ej|refine H.alloc ?_ _));have b3:Ed (Ek w2 w4):=J Gm;clear hW;obtain⟨gl,hgl⟩:=Eo w2.heap.size;rw[<-hgl] at KL⊢;clear hgl;have w4e:True:=trivial;replace KM:=EP KM b3.out;replace S1:=J<|S1.out.u b3.out;replace MM:=J<|MM.out.trans (Ex.EC b3.out);clear b3 c1;have c0:=An.out _ _ KM.out;have ZF:Ed ((⟨1,k,v1⟩:Xh).ok):=J (by have h1:=HK.out;have h2:=iS.out.q;rw[<-hv1.out] at h2;exact⟨mg,⟨by show _<=k;omega,by show k<=_;omega⟩,⟨by show _<=v1;omega,by show v1<=_;omega⟩⟩);by_cases hk10:v0=10
  ·have t10:(v0==10)=EI:=by simp[hk10]
   clear hk10;go_wp2_with fail;have y0: ∀y:Ext w4,(EA w4 y).cell? ⟨gs,0,Z⟩=X (Y (X ⟨gc,0,Z⟩)):=fun y=>(S1.out.u (EL y)).Iy;have y5: ∀y:Ext w4,(EA w4 y).cell? ⟨gm,5,Z⟩=X (E I v5):=fun y=>Sw.out _ _ (H.u KM.out (EL y));refine J_ 8 Ef Ef ?_;simp only[Is,Io,IS,IM];repeat (go_big_quiet_step (fail))
   refine I2 ?_;intro _ hw';obtain⟨y9,rfl⟩:=hw';have En:=EL y9;replace KM:=EP KM En;replace KL:=EP KL En;replace S1:=J<|S1.out.u En;replace MM:=J<|MM.out.trans (Ex.EC En);clear y0 y5 En c0;generalize EA w4 y9=w5 at*;have zm:w5.cell? ⟨gc,98,Z⟩=X (E I c.mode):=S1.out.core.cell 9 rfl 0 Ej;have zf:=rz S1.out.core 98;go_wp2_with fail;have S4:=S1.out.uW v5 (S1.out.core.ok.uW (by rw[hv5.out];exact iS.out.m));obtain⟨d0,d1,d2,hd,KG,-⟩:=S1.out.core.El;replace KL:Ed (H (w5.setCell ⟨gc,98,Z⟩ (E I v5)) gl #[E I 1,E I k,E I v1] 36):=J<|(JS (g:=gc) (W:=w5) 98 (E I v5)).El KL.out (E7 KL.out KG Eb);replace KM:Ed (H (w5.setCell ⟨gc,98,Z⟩ (E I v5)) gm mv 183):=J<|(JS (g:=gc) (W:=w5) 98 (E I v5)).El KM.out (E7 KM.out KG Eb);replace S1:Ed (E4 lo hi g gc gq gt gs {c with mode:=v5} ns rs (w5.setCell ⟨gc,98,Z⟩ (E I v5))):=J S4.1;replace MM:Ed (Ex lo hi w (w5.setCell ⟨gc,98,Z⟩ (E I v5))):=J<|MM.out.trans S4.2;clear S4 zm zf KG;generalize w5.setCell ⟨gc,98,Z⟩ (E I v5)=w6 at*;have y0: ∀y:Ext w6,(EA w6 y).cell? ⟨gs,0,Z⟩=X (Y (X ⟨gc,0,Z⟩)):=fun y=>(S1.out.u (EL y)).Iy;refine J_ 7 Ef Ef ?_;simp only[Is,Io,IS,IM]
   repeat (first
    |go_big_quiet_skip
    |(go_big_quiet_want
      first
       |(refine Og (T:=36) (g:=gl) dD _ rfl rfl KL ?_ ?_;(·rfl);go_simp;go_big_quiet_on)
       |(go_big_quiet_op
         first
          |go_big_quiet_on
          |go_big_quiet_call (fail))))
   refine I2 ?_;intro _ hw';obtain⟨y9,rfl⟩:=hw';have En:=EL y9;replace KM:=EP KM En;replace KL:=EP KL En;replace S1:=J<|S1.out.u En;replace MM:=J<|MM.out.trans (Ex.EC En);clear y0 En;generalize EA w6 y9=w7 at*;have TH:=J<|bS S1.out.core 10 rfl 3 (by simp[Xh.v]);go_wp2_with ((with_reducible refine Jr 36 ?_);(with_reducible refine Um U 36 _ _ U gc 99 #[E I 1,E I k,E I v1] ?_ ?_ ?_ ?_ ?_ ?_);(·rfl);(·rfl);(·exact TH.out);(·exact dD.2);(·simp[Ov]);refine Ey.mk ?_);apply Et;have S4:=S1.out.uY ⟨1,k,v1⟩ (S1.out.core.ok.uY ZF.out);obtain⟨d0,d1,d2,hd,KG,-⟩:=S1.out.core.El;replace KM:Ed (H (w7.setCells gc 99 (⟨1,k,v1⟩:Xh).v) gm mv 183):=J<|(JG (g:=gc) (⟨1,k,v1⟩:Xh).v 99 w7).El KM.out (E7 KM.out KG Eb);replace S1:=J S4.1;replace MM:=J<|MM.out.trans S4.2;clear S4 TH KG KL;change Ih _ _ _ _ _ (w7.setCells gc 99 (⟨1,k,v1⟩:Xh).v);generalize w7.setCells gc 99 (⟨1,k,v1⟩:Xh).v=w8 at*;have c1:=Od.out _ _ KM.out;go_wp2_with fail;refine(Zl lo hi g gc gq gt gs _ ns rs 6 k v1 0 0 _ S1.out JK).mono ?_;rintro e12 Xz ⟨rfl,s12,m12⟩;replace KM:=J<|m12.El KM.out Eb Eb;replace S1:=J s12;replace MM:=J<|MM.out.trans m12;clear m12 s12 c1;have c1:=Od.out _ _ KM.out;go_wp2_with fail;refine(iG lo hi g gc gq gt gs _ ns _ k v1 _ S1.out J2).mono ?_;rintro e13 JQ ⟨rfl,s13,m13⟩;have S8:=J s13;replace MM:=J<|MM.out.trans m13;clear s13 m13;go_wp2;go_end0;refine⟨U,⟨_,1,_,D,S8.out,.inr ⟨U,.inl ?_⟩⟩,MM.out⟩;rw[hv5.out]
  ·have t10:(v0==10)=V:=by simp[hk10]
   go_wp2_with fail;obtain⟨d0,d1,d2,hd,KG,o0,o1,o2,-,-⟩:=S1.out.core.El;have U_:=J<|Oj (c:=c) (gq:=gq) (gt:=gt) (hd:=hd) (Jw g) o0 o1 o2 0 D;have gK:=J<|Oj (c:=c) (gq:=gq) (gt:=gt) (hd:=hd) (Jw g) o0 o1 o2 11 D;have KG:=J KG;have PL:=J<|Jw g;obtain⟨A8,Sy,Sz⟩:=MG.out;have KX:=J<|Sz _ _ KM.out;have OX:Ed (aB [A8,[E I v8,E I v9,E I v10,E I v11]] 1=8):=J (by simp[aB,Sy]);rw[<-rG.out,<-rH.out,<-rK.out,<-rL.out] at KX;rw[<-hv1.out,<-hv6.out,<-rG.out,<-rH.out,<-rK.out,<-rL.out] at CS;have y0: ∀y:Ext w4,(EA w4 y).cell? ⟨gs,0,Z⟩=X (Y (X ⟨gc,0,Z⟩)):=fun y=>(S1.out.u (EL y)).Iy;have y6: ∀y:Ext w4,(EA w4 y).cell? ⟨gm,6,Z⟩=X (E I v6):=fun y=>Sx.out _ _ (H.u KM.out (EL y));clear o0 o1 o2 Sy Sz;refine J_ 26 Ef Ef ?_;simp only[Is,Io,IS,IM]
   repeat (first
    |go_big_quiet_skip
    |(go_big_quiet_want
      first
       |(refine X7 (T:=28) (g:=gc) (off:=0) Up _ rfl rfl KG 0 rfl U_.out PL.out ?_;go_simp;go_big_quiet_on)
       |(refine X7 (T:=50) (g:=gc) (off:=102) gB _ rfl rfl KG 11 rfl gK.out rfl ?_;go_simp;go_big_quiet_on)
       |(refine X7 (T:=25) (g:=gm) (off:=8) vb _ rfl rfl KX 1 rfl OX.out rfl ?_;go_simp;go_big_quiet_on)
       |(refine Og (T:=36) (g:=gl) dD _ rfl rfl KL ?_ ?_;(·rfl);go_simp;go_big_quiet_on)
       |(go_big_quiet_op
         first
          |go_big_quiet_on
          |go_big_quiet_call (with_reducible refine IY (CS.out _)))))
   refine I2 ?_;intro _ hw';obtain⟨y9,rfl⟩:=hw';have En:=EL y9;replace KM:=EP KM En;replace S1:=J<|S1.out.u En;replace MM:=J<|MM.out.trans (Ex.EC En);clear y0 y6 En KG U_ gK KX OX;generalize EA w4 y9=w5 at*;have TH:=J<|bS S1.out.core 11 rfl 12 vE;go_wp2_with ((with_reducible refine Jr 50 ?_);(with_reducible refine Um U 50 _ _ U gc 102 p.v.toArray ?_ ?_ ?_ ?_ ?_ ?_);(·rfl);(·rfl);(·exact TH.out);(·exact gB.2);(·simp[Pt.v,Ov]);refine Ey.mk ?_);apply Et;have S4:=S1.out.gA p (S1.out.core.ok.gA gC.out);obtain⟨d0,d1,d2,hd,KG,-⟩:=S1.out.core.El;replace KM:Ed (H (w5.setCells gc 102 p.v) gm mv 183):=J<|(JG (g:=gc) p.v 102 w5).El KM.out (E7 KM.out KG Eb);replace S1:=J S4.1;replace MM:=J<|MM.out.trans S4.2;clear S4 TH KG;change Ih _ _ _ _ _ (w5.setCells gc 102 p.v);generalize w5.setCells gc 102 p.v=w8 at*;have c1:=Od.out _ _ KM.out;go_wp2_with fail;refine(Zl lo hi g gc gq gt gs _ ns rs 6 k v1 0 0 _ S1.out JK).mono ?_;rintro e12 Xz ⟨rfl,s12,m12⟩;replace KM:=J<|m12.El KM.out Eb Eb;replace S1:=J s12;replace MM:=J<|MM.out.trans m12;clear m12 s12 c1;have c1:=Od.out _ _ KM.out;go_wp2_with fail;refine(iG lo hi g gc gq gt gs _ ns _ k v1 _ S1.out J2).mono ?_;rintro e13 JQ ⟨rfl,s13,m13⟩;have S8:=J s13;replace MM:=J<|MM.out.trans m13;clear s13 m13;go_wp2;go_end0;exact⟨U,⟨_,1,_,D,S8.out,.inr ⟨U,.inr ⟨p,by rw[Z_.out,hv1.out],U⟩⟩⟩,MM.out⟩
 ·have t9:(jd !=0)=EI:=by simpa using hjd
  go_wp2_with fail;refine(gu lo hi g gc gq gt gs c ns rs k v1 jd _ S1.out J2 JK).mono ?_;rintro e7 w7 ⟨rfl,s7,m7⟩;have S8:=J s7;replace MM:=J<|MM.out.trans m7;clear s7 m7;go_wp2_with fail;refine EV (UC U _ _ _) U ?_;exact⟨U,⟨_,1,_,D,S8.out,.inl ⟨jd,U,U⟩⟩,MM.out⟩
def iT(xs:List Int)(k:Int):Bool:=match xs with
 |[]=>V
 |x::_=>x==k
theorem EcE(A:Option Ev)(xs:List Int)(n c:Nat)(k:Int)(w:M)(hn:xs.length=n)(hr:Row w A xs)(hm:n<=9223372036854775807): Eg Ea 85 #[EJ A n c,E IT k] w fun e w'=>e=Eh (EU (iT xs k))/\w=w':=by
 obtain⟨hr,hb⟩:=hr;cases xs with
 |nil=>
  obtain rfl:n=0:=by rw[<-hn];rfl
  go_enter Tryz.func85,Tryz.ntmps85;exact Ej7
 |cons x r=>
  obtain⟨m,rfl⟩: ∃m,n=m+1:=⟨r.length,by rw[<-hn];rfl⟩;rcases hr with e|⟨b,off,rfl,hc⟩;·cases e
  ·have h0:w.cell? ⟨b,off,Z⟩=X (E IT x):=by have:=hc 0 Ej;simpa using this
   have t1:decide (0<((m:Int)+1))=EI:=IE D;have er:iT (x::r) k=(x==k):=rfl;rw[er];clear hc hb hn er;go_enter Tryz.func85,Tryz.ntmps85;exact Ej7
theorem EcI{bs l:List Int}(hb: ∀x∈bs,0<=x/\x<=255)(h:du bs=X l):vc l:=by
 obtain⟨hp,hl,-⟩:=Fp hb h;match l,hl with
 |[a0,a1,a2,a3,a4,a5,a6,a7,a8,a9,Un,JP],_=>
  obtain⟨hf,-⟩:=P_ a0 a1 a2 a3 a4 a5 a6 a7 a8 a9 Un JP bs hp;have h2:=(Fr _ _ _ _ _ _ _ _ _ _ _).1 hf;obtain⟨x8,x9,gL,gM,k0,q,e4,r2,t3,m5,c6⟩:=h2;refine⟨q,m5,⟨?_,c6.2⟩,?_,?_,?_,?_⟩;·show 0<=a6;have:=c6.1;split at this<;>omega
  ·exact⟨by show _<=a8;omega,by show a8<=_;omega⟩
  ·exact⟨by show _<=a9;omega,by show a9<=_;omega⟩
  ·exact⟨by show _<=Un;omega,by show Un<=_;omega⟩
  ·exact⟨by show _<=JP;omega,by show JP<=_;omega⟩
def mh(w:M)(r:Nat)(o:Obj):M:={w with heap:=w.heap.setIfInBounds r o}
theorem j_{es:Array MapEntry}{clock:Nat}(h:W.heap[g]?=X (.map es clock))(k:Int)(v:G)(hf: ∀W,(Instr.findKey 3 (E I k) es.toList).run Ea W= .ok Z W): (iV 188 (.map (X g)) (E I k) v).run Ea W= .ok () (mh W g (.map (es.push {key:=E I k,val:=v,born:=clock}) (clock+1))):=by
 have hu: ∀W,Ul Ea (underlying 188) W= .ok (.map 3 186) W:=fun _=>Ef;have hck: ∀W,(Instr.checkKey V 10000 3 (E I k)).run Ea W= .ok () W:=fun _=>Ef;have hg:(Sem.getObj g Sem.pure).run Ea W= .ok (.map es clock) W:=by simp[Ul,h]
 have hs: ∀o,(setObj g o).run Ea W= .ok () (mh W g o):=fun o=>by simp[setObj,Ul,h,mh]
 unfold iV;simp only[Om,hu,On,getObj,hg,hck,hf,hs]
def JD(gs:Nat)(k:Int)(f:Nat)(n:Nat):MapEntry:={key:=E I k,val:= .func (.func f) #[Y (X ⟨gs,0,Z⟩)] #[],born:=n}
def XE(gs:Nat):Nat->Array MapEntry
 |0=> #[]
 |1=> #[JD gs 3 128 0]
 |2=> #[JD gs 3 128 0,JD gs 4 129 1]
 |3=> #[JD gs 3 128 0,JD gs 4 129 1,JD gs 5 130 2]
 |4=> #[JD gs 3 128 0,JD gs 4 129 1,JD gs 5 130 2,JD gs 6 131 3]
 |5=> #[JD gs 3 128 0,JD gs 4 129 1,JD gs 5 130 2,JD gs 6 131 3,JD gs 7 132 4]
 |6=> #[JD gs 3 128 0,JD gs 4 129 1,JD gs 5 130 2,JD gs 6 131 3,JD gs 7 132 4,JD gs 8 133 5]
 |7=> #[JD gs 3 128 0,JD gs 4 129 1,JD gs 5 130 2,JD gs 6 131 3,JD gs 7 132 4,JD gs 8 133 5,JD gs 9 134 6]
 |8=> #[JD gs 3 128 0,JD gs 4 129 1,JD gs 5 130 2,JD gs 6 131 3,JD gs 7 132 4,JD gs 8 133 5,JD gs 9 134 6,JD gs 10 135 7]
 |9=> #[JD gs 3 128 0,JD gs 4 129 1,JD gs 5 130 2,JD gs 6 131 3,JD gs 7 132 4,JD gs 8 133 5,JD gs 9 134 6,JD gs 10 135 7,JD gs 11 135 8]
 |_=> #[]
theorem kE{o o':Obj}(h:W.heap[g]?=X o):(mh W g o').heap[g]?=X o':=by have hl:g<W.heap.size:=(J4.1 h).1;simp[mh,hl]
theorem kI{W0:M}{o:Obj}(h:Ek W0 W)(hg:W0.heap.size<=g):Ek W0 (mh W g o):=
 ⟨h.os,h.tape,h.output,by simpa[mh] using h.size,fun k hk=>by have:=h.block k hk;simp only[mh];rw[Array.getElem?_setIfInBounds_ne D];exact this⟩
theorem EcJ(gs:Nat)(w:M): Eg Ea 89 #[Y (X ⟨gs,0,Z⟩)] w fun e w'=>e=Eh (.map (X w.heap.size))/\w'.heap[w.heap.size]?=X (.map (XE gs 9) 9)/\Ek w w':=by
 obtain⟨W0,hW0⟩: ∃W0,W0=w.alloc (.map #[] 0):=⟨_,U⟩;have hmm:(Instr.makeMap 188 Z).run Ea w= .ok (.map (X w.heap.size)) W0:=by rw[hW0];rfl
 have H0:W0.heap[w.heap.size]?=X (.map (XE gs 0) 0):=by rw[hW0];exact heap_alloc_new w _
 have B0:Ek w W0:=by rw[hW0];exact Er w _
 clear hW0;obtain⟨W1,f0,H1,B1⟩: ∃W',(iV 188 (.map (X w.heap.size)) (E I 3) (.func (.func 128) #[Y (X ⟨gs,0,Z⟩)] #[])).run Ea W0= .ok () W'/\W'.heap[w.heap.size]?=X (.map (XE gs 1) 1)/\Ek w W':=⟨_,j_ H0 3 _ (fun _=>Ef),kE H0,kI B0 (E9 _)⟩;clear H0 B0;obtain⟨W2,f1,H2,B2⟩: ∃W',(iV 188 (.map (X w.heap.size)) (E I 4) (.func (.func 129) #[Y (X ⟨gs,0,Z⟩)] #[])).run Ea W1= .ok () W'/\W'.heap[w.heap.size]?=X (.map (XE gs 2) 2)/\Ek w W':=⟨_,j_ H1 4 _ (fun _=>Ef),kE H1,kI B1 (E9 _)⟩;clear H1 B1;obtain⟨W3,f2,H3,B3⟩: ∃W',(iV 188 (.map (X w.heap.size)) (E I 5) (.func (.func 130) #[Y (X ⟨gs,0,Z⟩)] #[])).run Ea W2= .ok () W'/\W'.heap[w.heap.size]?=X (.map (XE gs 3) 3)/\Ek w W':=⟨_,j_ H2 5 _ (fun _=>Ef),kE H2,kI B2 (E9 _)⟩;clear H2 B2;obtain⟨W4,f3,H4,B4⟩: ∃W',(iV 188 (.map (X w.heap.size)) (E I 6) (.func (.func 131) #[Y (X ⟨gs,0,Z⟩)] #[])).run Ea W3= .ok () W'/\W'.heap[w.heap.size]?=X (.map (XE gs 4) 4)/\Ek w W':=⟨_,j_ H3 6 _ (fun _=>Ef),kE H3,kI B3 (E9 _)⟩;clear H3 B3;obtain⟨W5,f4,H5,B5⟩: ∃W',(iV 188 (.map (X w.heap.size)) (E I 7) (.func (.func 132) #[Y (X ⟨gs,0,Z⟩)] #[])).run Ea W4= .ok () W'/\W'.heap[w.heap.size]?=X (.map (XE gs 5) 5)/\Ek w W':=⟨_,j_ H4 7 _ (fun _=>Ef),kE H4,kI B4 (E9 _)⟩;clear H4 B4;obtain⟨W6,f5,H6,B6⟩: ∃W',(iV 188 (.map (X w.heap.size)) (E I 8) (.func (.func 133) #[Y (X ⟨gs,0,Z⟩)] #[])).run Ea W5= .ok () W'/\W'.heap[w.heap.size]?=X (.map (XE gs 6) 6)/\Ek w W':=⟨_,j_ H5 8 _ (fun _=>Ef),kE H5,kI B5 (E9 _)⟩;clear H5 B5;obtain⟨W7,f6,H7,B7⟩: ∃W',(iV 188 (.map (X w.heap.size)) (E I 9) (.func (.func 134) #[Y (X ⟨gs,0,Z⟩)] #[])).run Ea W6= .ok () W'/\W'.heap[w.heap.size]?=X (.map (XE gs 7) 7)/\Ek w W':=⟨_,j_ H6 9 _ (fun _=>Ef),kE H6,kI B6 (E9 _)⟩;clear H6 B6;obtain⟨W8,f7,H8,B8⟩: ∃W',(iV 188 (.map (X w.heap.size)) (E I 10) (.func (.func 135) #[Y (X ⟨gs,0,Z⟩)] #[])).run Ea W7= .ok () W'/\W'.heap[w.heap.size]?=X (.map (XE gs 8) 8)/\Ek w W':=⟨_,j_ H7 10 _ (fun _=>Ef),kE H7,kI B7 (E9 _)⟩;clear H7 B7;obtain⟨W9,f8,H9,B9⟩: ∃W',(iV 188 (.map (X w.heap.size)) (E I 11) (.func (.func 135) #[Y (X ⟨gs,0,Z⟩)] #[])).run Ea W8= .ok () W'/\W'.heap[w.heap.size]?=X (.map (XE gs 9) 9)/\Ek w W':=⟨_,j_ H8 11 _ (fun _=>Ef),kE H8,kI B8 (E9 _)⟩;clear H8 B8;have H9:=J H9;have B9:=J B9;go_enter Tryz.func89,Tryz.ntmps89;go_wp2;go_ret;exact⟨U,H9.out,B9.out⟩
theorem kJ(h:W.heap[g]?=X (.map (XE gs 9) 9))(k:Int)(f:Nat)(i:Nat)(hf: ∀W,(Instr.findKey 3 (E I k) (XE gs 9).toList).run Ea W= .ok (X (i,.func (.func f) #[Y (X ⟨gs,0,Z⟩)] #[])) W): (fu 188 (.map (X g)) (E I k) EI).run Ea W= .ok (Es #[.func (.func f) #[Y (X ⟨gs,0,Z⟩)] #[],EU EI]) W:=by
 have hu: ∀W,Ul Ea (underlying 188) W= .ok (.map 3 186) W:=fun _=>Ef;have hck: ∀b W,(Instr.checkKey b 10000 3 (E I k)).run Ea W= .ok () W:=fun _ _=>Ef;have hg:(Sem.getObj g Sem.pure).run Ea W= .ok (.map (XE gs 9) 9) W:=by simp[Ul,h]
 unfold fu;simp only[Om,hu,On,getObj,hg,hck,hf,Oa,if_true]
theorem EcO(h:W.heap[g]?=X (.map (XE gs 9) 9)):(fu 188 (.map (X g)) (E I 3) EI).run Ea W= .ok (Es #[.func (.func 128) #[Y (X ⟨gs,0,Z⟩)] #[],EU EI]) W:=kJ h 3 128 0 (fun _=>Ef)
theorem EcU(h:W.heap[g]?=X (.map (XE gs 9) 9)):(fu 188 (.map (X g)) (E I 4) EI).run Ea W= .ok (Es #[.func (.func 129) #[Y (X ⟨gs,0,Z⟩)] #[],EU EI]) W:=kJ h 4 129 1 (fun _=>Ef)
theorem EcX(h:W.heap[g]?=X (.map (XE gs 9) 9)):(fu 188 (.map (X g)) (E I 5) EI).run Ea W= .ok (Es #[.func (.func 130) #[Y (X ⟨gs,0,Z⟩)] #[],EU EI]) W:=kJ h 5 130 2 (fun _=>Ef)
theorem EcZ(h:W.heap[g]?=X (.map (XE gs 9) 9)):(fu 188 (.map (X g)) (E I 6) EI).run Ea W= .ok (Es #[.func (.func 131) #[Y (X ⟨gs,0,Z⟩)] #[],EU EI]) W:=kJ h 6 131 3 (fun _=>Ef)
theorem Eca(h:W.heap[g]?=X (.map (XE gs 9) 9)):(fu 188 (.map (X g)) (E I 7) EI).run Ea W= .ok (Es #[.func (.func 132) #[Y (X ⟨gs,0,Z⟩)] #[],EU EI]) W:=kJ h 7 132 4 (fun _=>Ef)
theorem Ecb(h:W.heap[g]?=X (.map (XE gs 9) 9)):(fu 188 (.map (X g)) (E I 8) EI).run Ea W= .ok (Es #[.func (.func 133) #[Y (X ⟨gs,0,Z⟩)] #[],EU EI]) W:=kJ h 8 133 5 (fun _=>Ef)
theorem Ecc(h:W.heap[g]?=X (.map (XE gs 9) 9)):(fu 188 (.map (X g)) (E I 9) EI).run Ea W= .ok (Es #[.func (.func 134) #[Y (X ⟨gs,0,Z⟩)] #[],EU EI]) W:=kJ h 9 134 6 (fun _=>Ef)
theorem Ecd(h:W.heap[g]?=X (.map (XE gs 9) 9)):(fu 188 (.map (X g)) (E I 10) EI).run Ea W= .ok (Es #[.func (.func 135) #[Y (X ⟨gs,0,Z⟩)] #[],EU EI]) W:=kJ h 10 135 7 (fun _=>Ef)
theorem Ecf(h:W.heap[g]?=X (.map (XE gs 9) 9)):(fu 188 (.map (X g)) (E I 11) EI).run Ea W= .ok (Es #[.func (.func 135) #[Y (X ⟨gs,0,Z⟩)] #[],EU EI]) W:=kJ h 11 135 8 (fun _=>Ef)
section
variable{P:Program}
theorem GW{fn:Func}{p p2 q:Tmp}{n2:Nat}(hT:IF P T n)(nQ:IF P T2 n2)(h:fn.results= #[.cell p T,.cell p2 T2,.tmp q])(tmps:Array G)(w:M)(g g2:Nat)(cs cs2:Array G)(v:G) (hp:tmps.getD p Iv=Y (X ⟨g,0,Z⟩)) (hp2:tmps.getD p2 Iv=Y (X ⟨g2,0,Z⟩)) (hq:tmps.getD q Iv=v) (hg:H w g cs T) (hn:cs.size=n) (hg2:H w g2 cs2 T2) (hn2:cs2.size=n2):(UW fn tmps).run P w= .ok (Es #[EZ cs,EZ cs2,v]) w:=by
 have hp':tmps[p]?.getD Iv=Y (X ⟨g,0,Z⟩):=jf;have Ecg:tmps[p2]?.getD Iv=Y (X ⟨g2,0,Z⟩):=by simpa using hp2
 have hq':tmps[q]?.getD Iv=v:=qn;simp[UW,h,hp',Ecg,hq',asAddr,yY hT hg hn,yY nQ hg2 hn2]
end
def IL(Iz:Int)(op:Bool)(nc:List Int):Array G:= #[E I Iz,EU op]++Em nc
theorem bT(Iz:Int)(op:Bool)(nc:List Int)(h:nc.length=8):(IL Iz op nc).size=10:=by simp[IL,Oc,h]
theorem rM(Iz:Int)(op:Bool)(nc:List Int):(IL Iz op nc).all (·.oneCell')=EI:=by
 rw[Array.all_eq_true];intro i hi;simp only[IL] at hi⊢;rw[Array.getElem_append];split
 ·rename_i h;have:i=0\/i=1:=by simp at h;omega
  rcases this with rfl|rfl<;>rfl
 ·simp[Em,Ov]
theorem GY(Iz:Int)(op:Bool)(nc:List Int):(IL Iz op nc)[0]?=X (E I Iz):=by unfold IL;rw[Array.getElem?_append_left Ej];rfl
theorem SA(Iz:Int)(op:Bool)(nc:List Int):(IL Iz op nc)[1]?=X (EU op):=by unfold IL;rw[Array.getElem?_append_left Ej];rfl
theorem SD(Iz:Int)(op:Bool)(nc:List Int)(h:nc.length=8):(IL Iz op nc).extract 2 (2+8)=Em nc:=by
 match nc,h with
 |[a,b,c,d,e,f,g,i],_=>rfl
theorem Ech(Iz:Int)(op:Bool)(nc:List Int)(h:nc.length=8):Tryz.prog.built 117 [(0,E I Iz),(1,EU op),(2,EZ (Em nc))]=X (IL Iz op nc):=by
 obtain⟨a,b,c,d,e,f,g,i,rfl⟩: ∃a b c d e f g i,nc=[a,b,c,d,e,f,g,i]:=by
  match nc,h with
  |[a,b,c,d,e,f,g,i],_=>exact⟨a,b,c,d,e,f,g,i,U⟩
 kernel_rfl
theorem Eci(Iz:Int):Tryz.prog.built 117 [(0,E I Iz)]=X (IL Iz V (Eu 8)):=Ef
theorem SG:Tryz.prog.built 41 []=X (Em (Eu 32)):=Ef
theorem XB:IF Ea 117 10:=⟨⟨_,Tryz.underlying117,U⟩,Ef⟩
theorem pU:Ow Ea 117 (IL 0 V (Eu 8)):=by intro ev o w ho;unfold Ig;simp only[ho];simp[go_sem];exact congrArg (fun c=>w.alloc (Ec c 117)) Ef
theorem pX:(Eu 8).length=8:=rfl
theorem Ecj(A:Option Ev)(n c:Nat)(s Iz:Int)(op:Bool)(nc:List Int)(w:M)(hc:nc.length=8)(hm:4294967295<=Iz): Eg Ea 121 #[EZ (IL Iz op nc),EJ A n c,E I s] w fun e w'=>e=Eh (Es #[EZ (IL Iz op nc),E I 24])/\Ek w w':=by have DS:=J<|bT Iz op nc hc;have D1:=J<|rM Iz op nc;have C0:=GY Iz op nc;generalize IL Iz op nc=dv at*;clear hc;go_enter Tryz.func121,Tryz.ntmps121;go_wp2_with (with_reducible refine wA pU (Ey.mk ?_));apply Et;have K3:=J<|(H.new w dv 117).alloc (Ec (IL 0 V (Eu 8)) 117);have K6:=J<|H.new' (w.alloc (Ec dv 117)) (IL 0 V (Eu 8)) 117 (g:=w.heap.size+1) Ej;have B:=J<|J3 w (Ec dv 117) (Ec (IL 0 V (Eu 8)) 117);generalize (w.alloc (Ec dv 117)).alloc (Ec (IL 0 V (Eu 8)) 117)=w1 at*;have c0:=K3.out.cell 0;rw[C0] at c0;clear C0;go_wp2_with (with_reducible first|refine wL XB K3 ?_ (hn:=DS.out)|refine wS (cs:=dv) XB K6 ?_ (ho:=bT _ _ _ pX) (hn:=DS.out) (h1:=D1.out));refine EV (v:=Es #[EZ dv,E I 24]) (cK XB U _ _ (w.heap.size+1) _ _ U U (K6.out.setRow _) DS.out) U ⟨U,E6 B.out D _⟩
theorem Eck(A:Option Ev)(k:List Int)(n c:Nat)(s Iz:Int)(op:Bool)(nc:List Int)(w:M)(hn:k.length=n)(hk:Row w A k)(hl:n<=10000000)(hc:nc.length=8)(hm: -9223372036854775808<=Iz/\Iz<4294967295)(hR:JH w): Eg Ea 121 #[EZ (IL Iz op nc),EJ A n c,E I s] w fun e w'=>e=Eh (Es #[EZ (IL (Iz+1) EI ((Oq k (co s (Iz+1))).take 8)),E I 0])/\Ek w w':=by have CN:=fun(W:M) (hb:Ek w W)=>EOA A k n c s (Iz+1) W hn (hk.u hb) hl (hR.u hb);have AL:((Oq k (co s (Iz+1))).take 8).length=8:=yu;generalize (Oq k (co s (Iz+1))).take 8=an at*;have BD:=J<|Ech (Iz+1) EI an AL;have DS:=J<|bT (Iz+1) EI an AL;have D1:=J<|rM (Iz+1) EI an;have C0:=GY Iz op nc;have i1:IntKind.i64.wrap (Iz+1)=Iz+1:=IntWalk.i64_in _ D;generalize IL Iz op nc=dv at*;generalize IL (Iz+1) EI an=dr at*;replace CN:=J CN;replace AL:=J AL;clear hc hn hk hR;obtain⟨hm0,hm1⟩:=hm;go_enter Tryz.func121,Tryz.ntmps121;go_wp2_with (with_reducible refine wA pU (Ey.mk ?_));apply Et;have K3:=J<|(H.new w dv 117).alloc (Ec (IL 0 V (Eu 8)) 117);have K6:=J<|H.new' (w.alloc (Ec dv 117)) (IL 0 V (Eu 8)) 117 (g:=w.heap.size+1) Ej;have B:=J<|J3 w (Ec dv 117) (Ec (IL 0 V (Eu 8)) 117);generalize (w.alloc (Ec dv 117)).alloc (Ec (IL 0 V (Eu 8)) 117)=w1 at*;have c0:=K3.out.cell 0;rw[C0] at c0;clear C0;go_wp2_with fail;clear c0;refine(CN.out _ B.out).mono ?_;rintro e w2 ⟨rfl,b2⟩;replace K6:=J<|K6.out.u b2;replace B:=EW B b2;clear b2 CN K3;go_wp2_with (first|((with_reducible refine It 21 ?_);refine JO rfl 117 _ rfl dr BD.out ?_)|(with_reducible refine wS (cs:=dr) XB K6 ?_ (ho:=bT _ _ _ pX) (hn:=DS.out) (h1:=D1.out)));refine EV (v:=Es #[EZ dr,E I 0]) (cK XB U _ _ (w.heap.size+1) _ _ U U (K6.out.setRow _) DS.out) U ⟨U,E6 B.out D _⟩
theorem Ecl(A:Option Ev)(n c:Nat)(s r Iz:Int)(nc pf:List Int)(w:M)(hc:nc.length=8): Eg Ea 123 #[EZ (IL Iz V nc),EJ A n c,E I s,E I r,EZ (Em pf)] w fun e w'=>e=Eh (Es #[EZ (IL Iz V nc),EZ (Em (Eu 32)),E I 17])/\Ek w w':=by have DS:=J<|bT Iz V nc hc;have D1:=J<|rM Iz V nc;have C1:=SA Iz V nc;have BZ:=J SG;generalize IL Iz V nc=dv at*;clear hc;go_enter Tryz.func123,Tryz.ntmps123;go_wp2_with (with_reducible first|refine wA pU ?_|refine wA dl (Ey.mk ?_));apply Et;have K5:=J<|(((H.new w dv 117).alloc (Ec (Em pf) 115)).alloc (Ec (IL 0 V (Eu 8)) 117)).alloc (Ec (Em (Eu 32)) 41);have K9:=J<|((H.new' (w.alloc (Ec dv 117)) (Em pf) 115 (g:=w.heap.size+1) Ej).alloc (Ec (IL 0 V (Eu 8)) 117)).alloc (Ec (Em (Eu 32)) 41);have OH:=J<|(H.new' ((w.alloc (Ec dv 117)).alloc (Ec (Em pf) 115)) (IL 0 V (Eu 8)) 117 (g:=w.heap.size+1+1) Ej).alloc (Ec (Em (Eu 32)) 41);have JX:=J<|H.new' (((w.alloc (Ec dv 117)).alloc (Ec (Em pf) 115)).alloc (Ec (IL 0 V (Eu 8)) 117)) (Em (Eu 32)) 41 (g:=w.heap.size+1+1+1) Ej;have B:=J<|bt (aq w (Ec dv 117) (Ec (Em pf) 115) (Ec (IL 0 V (Eu 8)) 117)) (Er (((w.alloc (Ec dv 117)).alloc (Ec (Em pf) 115)).alloc (Ec (IL 0 V (Eu 8)) 117)) (Ec (Em (Eu 32)) 41));generalize (((w.alloc (Ec dv 117)).alloc (Ec (Em pf) 115)).alloc (Ec (IL 0 V (Eu 8)) 117)).alloc (Ec (Em (Eu 32)) 41)=w1 at*;obtain⟨g9,pZ⟩:=OQ (w.heap.size+1);rw[pZ] at K9 OH JX;simp only[pZ];obtain⟨g10,pd⟩:=OQ (g9+1);rw[pd] at OH JX;simp only[pd];obtain⟨g11,pg⟩:=OQ (g10+1);rw[pg] at JX;simp only[pg];have n9:w.heap.size<g9:=D;have n10:g9<g10:=D;have n11:g10<g11:=D;clear pZ pd pg;have c1:=K5.out.cell 1;rw[C1] at c1;clear C1;go_wp2_with (first|(with_reducible refine wL XB K5 ?_ (hn:=DS.out))|((with_reducible refine It 19 ?_);refine JO rfl 41 _ rfl (Em (Eu 32)) BZ.out ?_)|(with_reducible refine wS (cs:=dv) XB OH (Ey.mk ?_) (ho:=bT _ _ _ pX) (hn:=DS.out) (h1:=D1.out)));apply Et;clear c1 K5 K9;replace JX:=J<|JX.out.setRow_other g10 dv D;replace OH:=J<|OH.out.setRow dv;replace B:=J<|E6 (g:=g10) B.out D dv;generalize w1.setRow g10 dv=w2 at*;go_wp2_with (with_reducible refine wS (cs:=Em (Eu 32)) OF JX ?_ (ho:=Xu) (hn:=Xu) (h1:=XK _));refine EV (v:=Es #[EZ dv,EZ (Em (Eu 32)),E I 17]) (GW XB OF U _ _ g10 g11 _ _ _ U U U (OH.out.setRow_other _ _ D) DS.out (JX.out.setRow _) FH) U ⟨U,E6 B.out D _⟩
def Ar(cl:Array G)(A:Option Ev)(n c:Nat)(s r:Int)(g5:Nat)(nc kv:List Int)(i:Nat)(v:G)(w:M):Prop:=match i with
 |0=>v=EZ cl
 |1=>v=EJ A n c
 |2=>v=E I s
 |3=>v=E I r
 |4=>v=Y (X ⟨g5,2,Z⟩)
 |5=>v=EZ (Em nc)
 |_=>v=EZ (Em kv)
theorem Ecm(cl:Array G)(A:Option Ev)(n c:Nat)(s r:Int)(g5:Nat)(nc kv:List Int): ∀i v w w',i<7->Ar cl A n c s r g5 nc kv i v w->Jn w w'->Ar cl A n c s r g5 nc kv i v w':=by intro i v w w' hi h hb;unfold Ar at*;split at h;all_goals exact h
theorem SK(pb:Bool)(A:Option Ev)(k:List Int)(n c:Nat)(s r Iz:Int)(nc pf:List Int)(w:M)(hn:k.length=n)(hk:Row w A k)(hl:n<=10000000)(hc:nc.length=8)(hb: ∀x∈nc,0<=x/\x<=255)(hR:JH w)(hpl:pf.length=8)(hpb: ∀x∈pf,0<=x/\x<=255)(hp:decide (pf=(Oq k (Ub 80 s r nc)).take 8)=pb): Eg Ea 123 #[EZ (IL Iz EI nc),EJ A n c,E I s,E I r,EZ (Em pf)] w fun e w'=>e=Eh (Es #[EZ (IL Iz V (Eu 8)),EZ (Em (bif pb then Oq k (Ub 75 s r nc) else Eu 32)),E I (bif pb then 0 else 14)])/\Ek w w':=by
 have CP:=fun(W:M) (hb':Ek w W)=>EOB A k nc n c s r W hn (hk.u hb') hl hc hb (hR.u hb');have CK:=fun(W:M) (hb':Ek w W)=>EOC A k nc n c s r W hn (hk.u hb') hl hc hb (hR.u hb');have RL:((Oq k (Ub 80 s r nc)).take 8).length=8:=yu;have RB: ∀x∈(Oq k (Ub 80 s r nc)).take 8,0<=x/\x<=255:=fun x hx=>yg _ _ x (fC hx);have KL:(Oq k (Ub 75 s r nc)).length=32:=nN _ _;have SM:decide (pf=(Oq k (Ub 80 s r nc)).take 8)=pb:=hp;generalize (Oq k (Ub 80 s r nc)).take 8=rt at*;generalize Oq k (Ub 75 s r nc)=kv at*;have DS:=J<|bT Iz EI nc hc;have C0:=GY Iz EI nc;have C1:=SA Iz EI nc;have CX:=J<|SD Iz EI nc hc;have BZ:=J SG;have BC:=J<|Eci Iz;have ES:=J<|bT Iz V (Eu 8) pX;have E1:=J<|rM Iz V (Eu 8);generalize IL Iz EI nc=dv at*;generalize IL Iz V (Eu 8)=cl at*;replace CP:=J CP;replace CK:=J CK;replace RL:=J RL;replace RB:=J RB;replace KL:=J KL;replace SM:=J SM;have jD:=J hpl;have Z_:=J hpb;have HC:=J hc;clear hc hn hk hR hb hpl hpb hp;go_enter Tryz.func123,Tryz.ntmps123;go_wp2_with (with_reducible first|refine wA pU ?_|refine wA dl (Ey.mk ?_));apply Et;have K5:=J<|(((H.new w dv 117).alloc (Ec (Em pf) 115)).alloc (Ec (IL 0 V (Eu 8)) 117)).alloc (Ec (Em (Eu 32)) 41);have K9:=J<|((H.new' (w.alloc (Ec dv 117)) (Em pf) 115 (g:=w.heap.size+1) Ej).alloc (Ec (IL 0 V (Eu 8)) 117)).alloc (Ec (Em (Eu 32)) 41);have OH:=J<|(H.new' ((w.alloc (Ec dv 117)).alloc (Ec (Em pf) 115)) (IL 0 V (Eu 8)) 117 (g:=w.heap.size+1+1) Ej).alloc (Ec (Em (Eu 32)) 41);have JX:=J<|H.new' (((w.alloc (Ec dv 117)).alloc (Ec (Em pf) 115)).alloc (Ec (IL 0 V (Eu 8)) 117)) (Em (Eu 32)) 41 (g:=w.heap.size+1+1+1) Ej;have B:=J<|bt (aq w (Ec dv 117) (Ec (Em pf) 115) (Ec (IL 0 V (Eu 8)) 117)) (Er (((w.alloc (Ec dv 117)).alloc (Ec (Em pf) 115)).alloc (Ec (IL 0 V (Eu 8)) 117)) (Ec (Em (Eu 32)) 41));generalize (((w.alloc (Ec dv 117)).alloc (Ec (Em pf) 115)).alloc (Ec (IL 0 V (Eu 8)) 117)).alloc (Ec (Em (Eu 32)) 41)=w1 at*;obtain⟨g9,pZ⟩:=OQ (w.heap.size+1);rw[pZ] at K9 OH JX;simp only[pZ];obtain⟨g10,pd⟩:=OQ (g9+1);rw[pd] at OH JX;simp only[pd];obtain⟨g11,pg⟩:=OQ (g10+1);rw[pg] at JX;simp only[pg];have n9:w.heap.size<g9:=D;have n10:g9<g10:=D;have n11:g10<g11:=D;clear pZ pd pg;have c0:=K5.out.cell 0;have c1:=K5.out.cell 1;rw[C0] at c0;rw[C1] at c1;clear C0 C1;have l11:=JX.out.lt;go_wp2_with (first|((with_reducible refine It 22 ?_);refine JO rfl 117 _ rfl cl BC.out ?_)|(with_reducible refine wA pU (Ey.mk ?_)));apply Et;clear c0 c1;have bel:=Er w1 (Ec (IL 0 V (Eu 8)) 117);replace K5:=J<|K5.out.u bel;replace K9:=J<|K9.out.u bel;replace OH:=J<|OH.out.u bel;replace JX:=J<|JX.out.u bel;replace B:=EW B bel;have Zi:=J<|H.new w1 (IL 0 V (Eu 8)) 117;clear bel;generalize w1.alloc (Ec (IL 0 V (Eu 8)) 117)=w2 at*;generalize w1.heap.size=g13 at*;go_wp2_with (with_reducible refine wS (cs:=cl) XB Zi (Ey.mk ?_) (ho:=bT _ _ _ pX) (hn:=ES.out) (h1:=E1.out));apply Et;replace K5:=J<|K5.out.setRow_other g13 cl D;replace K9:=J<|K9.out.setRow_other g13 cl D;replace OH:=J<|OH.out.setRow_other g13 cl D;replace JX:=J<|JX.out.setRow_other g13 cl D;replace Zi:=J<|Zi.out.setRow cl;replace B:=J<|E6 (g:=g13) B.out D cl;generalize w2.setRow g13 cl=w3 at*;go_wp2_with (with_reducible refine wM (off:=2) (cs:=Em nc) aD K5 ?_ (hn:=D5) (he:=CX.out));refine(CP.out _ B.out).mono ?_;rintro e w4 ⟨rfl,b4⟩;replace K5:=J<|K5.out.u b4;replace K9:=J<|K9.out.u b4;replace OH:=J<|OH.out.u b4;replace JX:=J<|JX.out.u b4;replace Zi:=J<|Zi.out.u b4;replace B:=EW B b4;clear b4 CP;have l13:=Zi.out.lt;go_wp2_with (with_reducible refine wA qK (Ey.mk ?_));apply Et;have bel:=Er w4 (Ec (Em (Eu 8)) 115);replace K5:=J<|K5.out.u bel;replace K9:=J<|K9.out.u bel;replace OH:=J<|OH.out.u bel;replace JX:=J<|JX.out.u bel;replace Zi:=J<|Zi.out.u bel;replace B:=EW B bel;have kO:=J<|H.new w4 (Em (Eu 8)) 115;clear bel;generalize w4.alloc (Ec (Em (Eu 8)) 115)=w5 at*;generalize w4.heap.size=g14 at*;go_wp2_with (with_reducible refine wS (cs:=Em rt) aD kO (Ey.mk ?_) (ho:=Xu) (hn:=Qm) (h1:=XK _));apply Et;replace K5:=J<|K5.out.setRow_other g14 (Em rt) D;replace K9:=J<|K9.out.setRow_other g14 (Em rt) D;replace OH:=J<|OH.out.setRow_other g14 (Em rt) D;replace JX:=J<|JX.out.setRow_other g14 (Em rt) D;replace Zi:=J<|Zi.out.setRow_other g14 (Em rt) D;replace kO:=J<|kO.out.setRow (Em rt);replace B:=J<|E6 (g:=g14) B.out (by have:=B.out.size;omega) (Em rt);generalize w5.setRow g14 (Em rt)=w6 at*;have CS:=J<|fun q=>PU (X ⟨g9,0,Z⟩) (X ⟨g14,0,Z⟩) pf rt 8 8 8 8 (w6.drewN q) jD.out RL.out (L_ (fH K9.out Z_.out) q) (L_ (fH kO.out RB.out) q) D D;rw[SM.out] at CS;go_wp2_with fail;go_quiet (((with_reducible refine(CS.out _).mono ?_);(rintro e w2 ⟨rfl,rfl⟩;exact⟨U,_,U⟩)));clear CS;replace K5:=J<|K5.out.drewN nq;replace K9:=J<|K9.out.drewN nq;replace OH:=J<|OH.out.drewN nq;replace JX:=J<|JX.out.drewN nq;replace Zi:=J<|Zi.out.drewN nq;replace kO:=J<|kO.out.drewN nq;replace B:=J<|iO B.out nq;generalize w6.drewN nq=w7 at*;cases pb;·skip;go_wp2_with (first|(with_reducible refine wL XB Zi ?_ (hn:=ES.out))|((with_reducible refine It 34 ?_);refine JO rfl 41 _ rfl (Em (Eu 32)) BZ.out ?_)|(with_reducible refine wS (cs:=cl) XB OH (Ey.mk ?_) (ho:=bT _ _ _ pX) (hn:=ES.out) (h1:=E1.out)));apply Et;replace K5:=J<|K5.out.setRow_other g10 cl D;replace K9:=J<|K9.out.setRow_other g10 cl D;replace JX:=J<|JX.out.setRow_other g10 cl D;replace Zi:=J<|Zi.out.setRow_other g10 cl D;replace kO:=J<|kO.out.setRow_other g10 cl D;replace OH:=J<|OH.out.setRow cl;replace B:=J<|E6 (g:=g10) B.out D cl;generalize w7.setRow g10 cl=w8 at*;go_wp2_with (with_reducible refine wS (cs:=Em (Eu 32)) OF JX ?_ (ho:=Xu) (hn:=Xu) (h1:=XK _));refine EV (v:=Es #[EZ cl,EZ (Em (Eu 32)),E I 14]) (GW XB OF U _ _ g10 g11 _ _ _ U U U (OH.out.setRow_other _ _ D) ES.out (JX.out.setRow _) FH) U ⟨U,E6 B.out D _⟩
 ·skip;go_wp2_with fail;refine aw EK Ef 7 Ef Ej Eb (Ar cl A n c s r w.heap.size nc kv) (Ecm _ _ _ _ _ _ _ _ _) ?_ ?_
  ·simp only[XH,Is,Io,ED,Ic,Ii,IJ,IU,and_true];refine⟨?_,?_,?_,?_,?_,?_,?_⟩;all_goals intro v w' hb hd
   ·exact Cz EK (g:=g13) XB (Ei U) ⟨U,Ew⟩ (Zi.out.u hb) ES.out U
   ·exact EkO
   ·exact EkO
   ·exact EkO
   ·exact EkO
   ·have d4:v 4=Y (X ⟨w.heap.size,2,Z⟩):=hd.at 4 rfl;exact EEG EK (g:=w.heap.size) (off:=2) (cs:=Em nc) aD (Ei U) ⟨U,U3⟩ (K5.out.u hb) (by rw[Oc,HC.out]) CX.out U
   ·have d1:v 1=EJ A n c:=hd.at 1 rfl;have d2:v 2=E I s:=hd.at 2 rfl;have d3:v 3=E I r:=hd.at 3 rfl;have d5:v 5=EZ (Em nc):=hd.at 5 rfl;refine Ob (f:=169) (args:= #[v 1,v 2,v 3,v 5]) (Ei U) Ew ?_;rw[d1,d2,d3,d5];exact(CK.out w' (bt B.out hb)).mono fun e w'' ⟨he,hb'⟩=>⟨_,he,hb',U⟩
  ·intro v w' hb hr;have d0:v 0=EZ cl:=hr 0 D;have d6:v 6=EZ (Em kv):=hr 6 D;simp only[Is,Io,IS,IM,ED,Ic,Ii,IJ,IU];rw[d0,d6];replace OH:=J<|OH.out.u hb;replace JX:=J<|JX.out.u hb;replace B:=EW B hb;clear hr hb d0 d6 K5 K9 Zi kO CK;go_wp2_with (with_reducible refine wS (cs:=cl) XB OH (Ey.mk ?_) (ho:=bT _ _ _ pX) (hn:=ES.out) (h1:=E1.out));apply Et;replace JX:=J<|JX.out.setRow_other g10 cl D;replace OH:=J<|OH.out.setRow cl;replace B:=J<|E6 (g:=g10) B.out D cl;generalize w'.setRow g10 cl=w8 at*;go_wp2_with (with_reducible refine wS (cs:=Em kv) OF JX ?_ (ho:=Xu) (hn:=Pb) (h1:=XK _));refine EV (v:=Es #[EZ cl,EZ (Em kv),E I 0]) (GW XB OF U _ _ g10 g11 _ _ _ U U U (OH.out.setRow_other _ _ D) ES.out (JX.out.setRow _) (by rw[Oc,KL.out])) U ⟨U,E6 B.out D _⟩
theorem Ecn(A:Option Ev)(k:List Int)(n c:Nat)(s r Iz:Int)(nc pf:List Int)(w:M)(hn:k.length=n)(hk:Row w A k)(hl:n<=10000000)(hc:nc.length=8)(hb: ∀x∈nc,0<=x/\x<=255)(hR:JH w)(hpl:pf.length=8)(hpb: ∀x∈pf,0<=x/\x<=255)(hp:pf≠(Oq k (Ub 80 s r nc)).take 8): Eg Ea 123 #[EZ (IL Iz EI nc),EJ A n c,E I s,E I r,EZ (Em pf)] w fun e w'=>e=Eh (Es #[EZ (IL Iz V (Eu 8)),EZ (Em (Eu 32)),E I 14])/\Ek w w':=
 SK V A k n c s r Iz nc pf w hn hk hl hc hb hR hpl hpb (Ia hp)
theorem Eco(A:Option Ev)(k:List Int)(n c:Nat)(s r Iz:Int)(nc pf:List Int)(w:M)(hn:k.length=n)(hk:Row w A k)(hl:n<=10000000)(hc:nc.length=8)(hb: ∀x∈nc,0<=x/\x<=255)(hR:JH w)(hpl:pf.length=8)(hpb: ∀x∈pf,0<=x/\x<=255)(hp:pf=(Oq k (Ub 80 s r nc)).take 8): Eg Ea 123 #[EZ (IL Iz EI nc),EJ A n c,E I s,E I r,EZ (Em pf)] w fun e w'=>e=Eh (Es #[EZ (IL Iz V (Eu 8)),EZ (Em (Oq k (Ub 75 s r nc))),E I 0])/\Ek w w':=
 SK EI A k n c s r Iz nc pf w hn hk hl hc hb hR hpl hpb (IE hp)
def kU(T:Ez)(n:Nat)(cs:Array G)(w w':M):Prop:= ∀b c,H w b c T->c.size=n-> ∃c':Array G,c'.size=n/\H w' b c' T/\(c=cs->c'=cs)
theorem vf(hs:cs.size=n):kU T n cs w (w.setRow b cs):=fun k d h h8=>by
 by_cases e:k=b;·subst e;exact⟨cs,hs,h.setRow cs,fun _=>rfl⟩
 ·exact⟨d,h8,H.setRow_other h b cs e,id⟩
theorem SN{c:Array G}(k:H w b c2 T2)(hT:T≠T2):kU T n cs w (w.setRow b c):=fun _ d h h8=>⟨d,h8,H.setRow_other h b c (E7 h k hT),id⟩
theorem Ecp(ho:E3 g w w')(k:H w g c2 T2)(hT:T≠T2):kU T n cs w w':=fun _ d h h8=>⟨d,h8,ho.El h (E7 h k hT),id⟩
def aY(T:Ez)(n n0:Nat)(v:G)(w:M):Prop:= ∃(b:Nat) (c:Array G),v=Y (X ⟨b,0,Z⟩)/\n0<=b/\c.size=n/\H w b c T
theorem aY.u(h:aY T n n0 v w)(hb:Ek w w'):aY T n n0 v w':=by exact Enw
theorem aY.sz(h:aY T n n0 v w)(hb:kU T n cs w w'):aY T n n0 v w':=by obtain⟨b,c,h1,h2,h3,h4⟩:=h;obtain⟨c',h5,h6,-⟩:=hb b c h4 h3;exact⟨b,c',h1,h2,h5,h6⟩
theorem E4.As{g:Nat->G}{c:EF}{W':M}(S:E4 lo hi g gc gq gt gs c ns rs W)(ho:E3 b W W'){d:Array G}(K:H W b d T)(hT:(124::264::58::zu).contains T=V)(h1:lo<=b):E4 lo hi g gc gq gt gs c ns rs W':=by obtain⟨sv,rv,sc,ks,r1,r2⟩:=S.dw;have kp: ∀k cs S,(124::264::58::zu).contains S=EI->H W k cs S->H W' k cs S:=fun k cs S hS hb=>ho.El hb (E7 hb K (by intro e;subst e;rw[hT] at hS;cases hS));exact⟨S.core.via (fun k cs T hT hb=>kp k cs T (by simp only[List.contains_cons,hT,Bool.or_true]) hb) (ho.bel lo h1 Gc),S.hc,S.hq,S.ht,S.bL,S.his,sv,rv,sc,kp _ _ _ Eb ks,EQ r1 fun _ _ hk=>kp _ _ _ Eb hk,EQ r2 fun _ _ hk=>kp _ _ _ Eb hk⟩
theorem Dr.vA(d:Dr):d.v.toArray=IL d.n d.op d.nc:=by simp[Dr.v,IL,Em]
theorem SP{g:Nat->G}{c:EF}(C:I9 lo g gc gq gt c w)(j:Nat)(hj:j<3): ∃(d:Dr) (big:Array G),d.ok/\H w gc big 120/\big.extract (65+j*10) (65+j*10+10)=IL d.n d.op d.nc:=by
 obtain⟨d0,d1,d2,hd,KG,o0,o1,o2,-,-⟩:=C.El;have Xg:j=0\/j=1\/j=2:=D;rcases Xg with rfl|rfl|rfl;·exact⟨d0,_,o0,KG,(Jh.extract 3 rfl (Oj (Jw g) o0 o1 o2 3 D) 10 (Dr.len' o0)).trans d0.vA⟩
 ·exact⟨d1,_,o1,KG,(Jh.extract 4 rfl (Oj (Jw g) o0 o1 o2 4 D) 10 (Dr.len' o1)).trans d1.vA⟩
 ·exact⟨d2,_,o2,KG,(Jh.extract 5 rfl (Oj (Jw g) o0 o1 o2 5 D) 10 (Dr.len' o2)).trans d2.vA⟩
theorem SY{g:Nat->G}{c:EF}(C:I9 lo g gc gq gt c w)(j:Nat)(hj:j<3):w.there gc (65+j*10) 10:=by
 obtain⟨d0,d1,d2,hd,KG,o0,o1,o2,-,-⟩:=C.El;have Xg:j=0\/j=1\/j=2:=D;rcases Xg with rfl|rfl|rfl;·exact KG.there 3 rfl (Oj (Jw g) o0 o1 o2 3 D) 10 (by rw[Dr.len' o0];exact E9 _)
 ·exact KG.there 4 rfl (Oj (Jw g) o0 o1 o2 4 D) 10 (by rw[Dr.len' o1];exact E9 _)
 ·exact KG.there 5 rfl (Oj (Jw g) o0 o1 o2 5 D) 10 (by rw[Dr.len' o2];exact E9 _)
theorem E4.S6{g:Nat->G}{c:EF}(S:E4 lo hi g gc gq gt gs c ns rs W)(j:Nat)(hj:j<3)(d:Dr)(od:d.ok):E4 lo hi g gc gq gt gs c ns rs (W.setCells gc (65+j*10) (IL d.n d.op d.nc).toList)/\Ex lo hi W (W.setCells gc (65+j*10) (IL d.n d.op d.nc).toList):=by
 rw[<-Dr.vA];change E4 lo hi g gc gq gt gs c ns rs (W.setCells gc (65+j*10) d.v)/\Ex lo hi W (W.setCells gc (65+j*10) d.v);obtain⟨d0,d1,d2,hd,k,o0,o1,o2,r⟩:=S.core.El;obtain⟨sv,rv,sc,ks,r1,r2⟩:=S.dw;have fin: ∀W',E3 gc W W'->(∃(d0 d1 d2:Dr) (hd:List Int),Jh W' gc (aX (EN 56 g).toList c gq gt d0 d1 d2 hd) 120/\d0.ok/\d1.ok/\d2.ok/\hd.length=32/\ ∀x∈hd,0<=x/\x<=255)->E4 lo hi g gc gq gt gs c ns rs W'/\Ex lo hi W W':=fun W' ho hb=>by obtain⟨e0,e1,e2,ehd,k',_⟩:=id hb;exact⟨⟨S.core.set ho U U S.core.ok hb,S.hc,S.hq,S.ht,S.bL,S.his,sv,rv,sc,ho.El ks (E7 ks k Eb),EQ r1 fun _ _ hk=>ho.El hk (E7 hk k Eb),EQ r2 fun _ _ hk=>ho.El hk (E7 hk k Eb)⟩,Ex.um ho k k' Eb S.core.lc⟩
 refine fin _ (JG _ _ _) ?_;have Xg:j=0\/j=1\/j=2:=D;rcases Xg with rfl|rfl|rfl;·exact⟨d,d1,d2,hd,k.set 3 rfl (Oj (Jw g) o0 o1 o2 3 D) d.v (by rw[Dr.len' od,Dr.len' o0]),od,o1,o2,r⟩
 ·exact⟨d0,d,d2,hd,k.set 4 rfl (Oj (Jw g) o0 o1 o2 4 D) d.v (by rw[Dr.len' od,Dr.len' o1]),o0,od,o2,r⟩
 ·exact⟨d0,d1,d,hd,k.set 5 rfl (Oj (Jw g) o0 o1 o2 5 D) d.v (by rw[Dr.len' od,Dr.len' o2]),o0,o1,od,r⟩
theorem S7(gc:Nat)(k:Int)(j:Nat)(hk:k=(j:Int)+1)(hj:j<3)(W:M):(Instr.indexAt 118 (Y (X ⟨gc,65,Z⟩)) (E I (k-1))).run Ea W= .ok (Y (X ⟨gc,65+j*10,Z⟩)) W:=by exact Enm
theorem sub_one(k:Int)(h1:1<=k)(h3:k<=3)(W:M):(XG .sub 3 (E I k) (E I 1)).run Ea W= .ok (E I (k-1)) W:=by have hk:k=1\/k=2\/k=3:=D;rcases hk with rfl|rfl|rfl<;>rfl
theorem Ecq(d:Dr)(hd:d.ok)(A:Option Ev)(ys:List Int)(n cap:Nat)(k:Int)(hn:ys.length=n)(hl:n<=10000000): ∃(d':Dr) (cd:Int),d'.ok/\ ∀W,Row W A ys->JH W->Eg Ea 121 #[EZ (IL d.n d.op d.nc),EJ A n cap,E I k] W fun e w'=>e=Eh (Es #[EZ (IL d'.n d'.op d'.nc),E I cd])/\Ek W w':=by
 obtain⟨⟨n1,n2⟩,mj,hb⟩:=hd;by_cases hm:d.n<4294967295;·refine⟨⟨d.n+1,EI,(Oq ys (co k (d.n+1))).take 8⟩,0,⟨⟨by show 0<=d.n+1;omega,by show d.n+1<=_;omega⟩,by show List.length (List.take 8 _)=8;rw[ZJ,nN];rfl,fun x hx=>yg _ _ x (fC hx)⟩,fun W hr hR=>Eck A ys n cap k d.n d.op d.nc W hn hr hl mj ⟨D,hm⟩ hR⟩
 ·exact⟨d,24,⟨⟨n1,n2⟩,mj,hb⟩,fun W _ _=>Ecj A n cap k d.n d.op d.nc W mj D⟩
theorem Ecr(d:Dr)(hd:d.ok)(A:Option Ev)(ys pf:List Int)(n cap:Nat)(k r:Int)(hn:ys.length=n)(hl:n<=10000000)(hpl:pf.length=8)(hpb: ∀x∈pf,0<=x/\x<=255): ∃(d':Dr) (kv:List Int) (cd:Int),d'.ok/\kv.length=32/\(∀x∈kv,0<=x/\x<=255)/\ ∀W,Row W A ys->JH W->Eg Ea 123 #[EZ (IL d.n d.op d.nc),EJ A n cap,E I k,E I r,EZ (Em pf)] W fun e w'=>e=Eh (Es #[EZ (IL d'.n d'.op d'.nc),EZ (Em kv),E I cd])/\Ek W w':=by
 have z32: ∀x∈Eu 32,0<=x/\x<=255:=fun x hx=>S_;have z8: ∀x∈Eu 8,0<=x/\x<=255:=fun x hx=>S_;obtain⟨nn,op,nc⟩:=d;obtain⟨⟨n1,n2⟩,mj,hb⟩:=hd;cases op with
 |false=>exact⟨⟨nn,V,nc⟩,Eu 32,17,⟨⟨n1,n2⟩,mj,hb⟩,U,z32,fun W _ _=>Ecl A n cap k r nn nc pf W mj⟩
 |true=>
  by_cases hp:pf=(Oq ys (Ub 80 k r nc)).take 8;·exact⟨⟨nn,V,Eu 8⟩,Oq ys (Ub 75 k r nc),0,⟨⟨n1,n2⟩,U,z8⟩,nN _ _,yg _ _,fun W hr hR=>Eco A ys n cap k r nn nc pf W hn hr hl mj hb hR hpl hpb hp⟩
  ·exact⟨⟨nn,V,Eu 8⟩,Eu 32,14,⟨⟨n1,n2⟩,U,z8⟩,U,z32,fun W hr hR=>Ecn A ys n cap k r nn nc pf W hn hr hl mj hb hR hpl hpb hp⟩
theorem ph(ho:o.op= .indexAddr T x y)(hx:F x=Y3)(hy:F y=v)(h: ∀W,(Instr.indexAt T Y3 v).run P W= .ok r W):(Ig F o).run P w= .ok (.value r) w:=by unfold Ig;simp only[ho,hx,hy,Om,h,On,Oa]
theorem rN{b:BinOp}(ho:o.op= .binOp b T x y T2)(hx:F x=Y3)(hy:F y=v)(h: ∀W,(XG b T Y3 v).run P W= .ok r W)(hb:T2=T:=by rfl)(hg: ∀W,(eqGuard b T x y Y3 v).run P W= .ok () W:=by intro;rfl):(Ig F o).run P w= .ok (.value r) w:=by subst hb;unfold Ig;simp only[ho,hx,hy,Om,hg,h,On,Oa]
theorem Au(h: ∀w,(Ig a.eval o).run P w= .ok (.value v) w)(hk:K (a.put o.dst v)):o.quiet P a (fun w'=> ∃x,w'=EA W x) K:=by refine⟨_,fun w hw=> ?_,hk⟩;unfold ik;rw[h];obtain⟨y,rfl⟩:=hw;first|exact⟨rfl,rfl⟩|exact⟨rfl,y,rfl⟩
theorem Ecs(a b c d e f g i:Int):Tryz.prog.built 222 [(0,E I 129),(6,EZ (Em [a,b,c,d,e,f,g,i]))]=X (I7 ([129,0,0,0,0,0]++[a,b,c,d,e,f,g,i])):=Ef
theorem Ect(nc:List Int)(h:nc.length=8):Tryz.prog.built 222 [(0,E I 129),(6,EZ (Em nc))]=X (I7 ([129,0,0,0,0,0]++nc)):=by
 match nc,h with
 |[a,b,c,d,e,f,g,i],_=>exact Ecs a b c d e f g i
theorem Ecu(a b c d e f:Int){nc:List Int}(h:nc.length=8)(hb: ∀x∈nc,0<=x/\x<=255):cL ([a,b,c,d,e,f]++nc):=by
 refine⟨by simp[h],fun i h6 jK=> ?_⟩;have e1:([a,b,c,d,e,f]++nc).getD i 0=nc.getD (i-6) 0:=by rw[Uj,Uj,ay (by simpa using h6)];rfl
 rw[e1,Uj,JY D];exact hb _ (dW _)
theorem Ecv(lo hi:Nat)(g:Nat->G)(gc gq gt gs:Nat)(c:EF)(ns:Nat)(rs:List Rec)(A:Option Ev)(n cap:Nat)(xs:List Int)(k:Int)(w:M)(S:E4 lo hi g gc gq gt gs c ns rs w)(hk:1<=k/\k<=3)(hx:xs.length=n)(hnc:n<=cap)(hcap:cap<=9223372036854775807)(hr:Row w A xs)(hn:ns<800000)(hl:rs.length<800000): Eg Ea 86 #[Y (X ⟨gs,0,Z⟩),E I k,EJ A n cap] w fun e w'=>e=Eh (Es #[])/\(∃m kd cd,m<=1/\E4 lo hi g gc gq gt gs c (ns+m) (rs++[⟨kd,k,0,c.tok.e,cd,0⟩]) w')/\Ex lo hi w w':=by
 obtain⟨j,hj,Xg⟩: ∃j:Nat,k=(j:Int)+1/\j<3:=⟨(k-1).toNat,D,D⟩;have IX:=J<|fun W=>S7 gc k j hj Xg W;have SB:=J<|fun W=>sub_one k hk.1 hk.2 W;have HJ:=J Xg;have HK:=J hk;have S1:=J S;have HN:=J hn;have HL:=J hl;have PI:=J<|fun i (h1:9<=i) (h2:i<56)=>S.core.XQ.int i h2 (.inr D);have CT:=J<|fun W (h:Row W A xs)=>Fo xs A n cap hx hnc hcap W h;have RW:=J hr;clear S hn hl hk hj Xg hx hnc hcap hr;go_enter Tryz.func86,Tryz.ntmps86;go_wp2_with fail;refine(CT.out _ RW.out).mono ?_;rintro e1 w1 h1
 obtain⟨l,kX,he,b1⟩: ∃(l:List Int) (kX:Int),e1=Eh (Es #[EZ (EH l),E I kX])/\Ek w w1:=by
  obtain⟨h1,b1⟩:=h1;cases h2:du xs with
  |none=>rw[h2] at h1;exact⟨_,_,h1,b1⟩
  |some l=>rw[h2] at h1;exact⟨_,_,h1,b1⟩
 subst he;replace S1:=J<|S1.out.u b1;have MM:=J<|Ex.EC (lo:=lo) (hi:=hi) b1;obtain⟨v2,hv2⟩:=Eo (l.getD 2 0);have rP:Ed (∀W g,H W g (EH l) 183->W.cell? ⟨g,2,Z⟩=X (E I v2)):=J (fun W g K=>by rw[hv2];exact XT K 2 D D);have gN:=J<|JI l;have mn:=J<|Zy l;clear h1 b1 CT RW hv2;generalize EH l=mv at*;have K0:=J<|H.new w1 (EH (IZ 0)) 183;have b2:=Er w1 (Ec (EH (IZ 0)) 183);go_wp2_with (with_reducible first|refine wA gO ?_|refine wS (cs:=mv) Oz K0 (Ey.mk ?_) (ho:=JI _) (hn:=gN.out) (h1:=mn.out));apply Et;obtain⟨gm,hgm⟩:=Eo w1.heap.size;rw[<-hgm] at K0⊢;generalize w1.alloc (Ec (EH (IZ 0)) 183)=w2 at*;have KM:=J<|K0.out.setRow mv;have b3:=E6 (g:=gm) b2 (Ud hgm.symm) mv;generalize w2.setRow gm mv=w3 at*;clear K0 b2 hgm;replace S1:=J<|S1.out.u b3;replace MM:=J<|MM.out.trans (Ex.EC b3);clear b3;by_cases vg:kX=0
 ·subst vg;go_wp2_with fail;obtain⟨d0,d1,d2,hd,KG,o0,o1,o2,-,-⟩:=S1.out.core.El;have U_:=J<|Oj (c:=c) (gq:=gq) (gt:=gt) (hd:=hd) (Jw g) o0 o1 o2 0 D;have KG:=J KG;have PL:=J<|Jw g;have UT:Ed ((EN 56 g).toList.toArray=EN 56 g):=J Ej;clear o0 o1 o2;have y0: ∀y:Ext w3,(EA w3 y).cell? ⟨gs,0,Z⟩=X (Y (X ⟨gc,0,Z⟩)):=fun y=>(S1.out.u (EL y)).Iy;have y2: ∀y:Ext w3,(EA w3 y).cell? ⟨gm,2,Z⟩=X (E I v2):=fun y=>rP.out _ _ (H.u KM.out (EL y));refine Zs Ef Ef ?_
  repeat (first
   |go_big_quiet_skip
   |(go_big_quiet_want
     first
      |(refine X7 (T:=28) (g:=gc) (off:=0) Up _ rfl rfl KG 0 rfl U_.out PL.out ?_;(try rw[UT.out]);go_simp;go_big_quiet_on)
      |(go_big_quiet_op
        first
         |go_big_quiet_on
         |go_big_quiet_call (with_reducible refine IY (QH g k v2 _ PI.out)))))
  refine I2 ?_;intro _ hw';obtain⟨y9,rfl⟩:=hw';have En:=EL y9;replace KM:=EP KM En;replace S1:=J<|S1.out.u En;replace MM:=J<|MM.out.trans (Ex.EC En);clear y0 y2 En KG U_ PL UT;generalize EA w3 y9=w4 at*;cases htk:jL g k v2 with
  |false=> go_wp2_with fail;refine(gu lo hi g gc gq gt gs c ns rs k 0 18 _ S1.out J2 JK).mono ?_;rintro e7 w7 ⟨rfl,s7,m7⟩;have S8:=J s7;replace MM:=J<|MM.out.trans m7;clear s7 m7;go_wp2_with fail;refine EV (UC U _ _ _) U ?_;exact⟨U,⟨1,7,_,D,S8.out⟩,MM.out⟩
  |true=>
   go_wp2_with fail;obtain⟨A5,n5,c5,ys,pi,hyl,hy1,G0,G1,hym,vi⟩:=(S1.out.core.keys 8 D D).row;obtain⟨dd,G2,od,bg,bx⟩:=SP S1.out.core j HJ.out;have BG:=J bg;have BX:=J bx;have RY:=J vi;obtain⟨d2,cd,pj,kZ⟩:=Ecq dd od A5 ys n5 c5 k hyl D;have DV:Ed ((IL dd.n dd.op dd.nc).size=10):=J<|bT _ _ _ od.len;have dI:Ed ((IL d2.n d2.op d2.nc).size=10):=J<|bT _ _ _ pj.len;have pk:Ed ((IL d2.n d2.op d2.nc).all (·.oneCell')=EI):=J<|rM _ _ _;have HD2:=J pj;obtain⟨dv,hdv⟩:=Eo (IL dd.n dd.op dd.nc);obtain⟨Uh,pp⟩:=Eo (IL d2.n d2.op d2.nc);rw[<-hdv] at kZ DV BX;rw[<-pp] at kZ dI pk;have CH:=J kZ;have Av:=DV;have vj:=J pp;obtain⟨key,hkey⟩:=Eo (EJ A5 n5 c5);rw[<-hkey] at CH pi;have Aw:Ed (∀W,E4 lo hi g gc gq gt gs c ns rs W->W.cell? ⟨gc,8,Z⟩=X key):=J (fun W s=>by have h:W.cell? ⟨gc,8,Z⟩=(EN 56 g).toList[8]?:=s.core.cell 0 rfl 8 Ej;rw[h,show(EN 56 g).toList[8]?=X (g 8) from ju,pi]);clear od bg bx vi kZ pj hdv pp hkey pi hyl hy1 G0 G1 hym DV htk;obtain⟨n0,hn0⟩:=Eo w4.heap.size;have XA:=J (show lo<=n0/\hi<=n0/\w.heap.size<=n0 from ma);refine gD (Ph:=fun p wq=>(n0<=wq.heap.size/\E4 lo hi g gc gq gt gs c ns rs wq/\Ex lo hi w wq/\(p=0->Row wq A5 ys/\JH wq/\ ∃big:Array G,H wq gc big 120/\big.extract (65+j*10) (65+j*10+10)=dv))) (Rel:=Jn) (In:=kU 117 10 Uh) [kp gs 0,kp gs 0,kp gs 0,kp gc 0,kq (E I k),kq (E I (k-1)),kp gc 0,kp gc 65,kq (Y (X ⟨gc,65+j*10,Z⟩)),kq (EZ dv),kp gs 0,kp gs 0,kp gs 0,kp gc 0,kp gc 0,kp gc 0,kp gc 8,kq key,kq (E I k),kq (Es #[EZ Uh,E I cd]),kq (Es #[EZ Uh,E I cd]),kq (EZ Uh),kq (E I cd),.dep (aY 117 10 n0) (fun v w w' h hr=>h.u hr) (fun v w w' h hr=>h.sz hr),.tie [23] (fun x w=> ∃b:Nat,x 23=Y (X ⟨b,0,Z⟩)/\n0<=b/\H w b Uh 117) (fun x w w' h hr=>o_) (fun x y w hq h=>by rw[hq 23 Ej] at h;exact h),kq (E I cd)] [V,V,V,V,V,V,V,V,V,V,V,V,V,V,V,V,V,V,V,V,V,V,V,V,EI,V] U [[],[],[],[],[],[],[],[],[],[],[],[],[],[],[],[],[],[],[],[],[],[],[],[],[23],[]] U [24] [(0,0),(0,0),(0,0),(0,0),(0,0),(0,0),(0,0),(0,0),(0,0),(0,0),(0,0),(0,0),(0,0),(0,0),(0,0),(0,0),(0,0),(0,0),(0,0),(0,0),(0,0),(0,0),(0,1),(0,0),(0,0),(1,1)] Ef Ef Ef Ef Ef Ef O0 Ef ?hPh ?h0 ?hstep ?hend;case hPh=> intro p w2 w3 h hr;exact⟨EB h.1 (UQ hr),h.2.1.u hr,h.2.2.1.trans (Ex.EC hr),fun hp=>by obtain⟨a1,a2,big,a3,a4⟩:=h.2.2.2 hp;exact⟨IH a1 hr,a2.u hr,big,H.u a3 hr,a4⟩⟩
   case h0=> have hb:=JZ w4;exact⟨EB (Ud hn0) (UQ hb),S1.out.u hb,MM.out.trans (Ex.EC hb),fun _=>⟨IH RY.out hb,S1.out.core.roots.u hb,G2,H.u BG.out hb,BX.out⟩⟩
   case hstep=>
    refine⟨?_,?_,?_,?_,?_,?_,?_,?_,?_,?_,?_,?_,?_,?_,?_,?_,?_,?_,?_,?_,?_,?_,?_,?_,?_,?_,trivial⟩;all_goals first|intro xv wq p hlo hhi hp hd|intro xv wq hp hd
    all_goals simp only[ED,Ic,Ii,IJ,IU]
    ·exact Ej_
    ·exact Eki
    ·exact Ekh
    ·exact EkI
    ·exact Ej_
    ·exact EmQ
    ·exact Ekg
    ·obtain rfl:p=0:=D;exact Emi
    ·exact ElS
    ·obtain rfl:p=0:=D;have d8:xv 8=Y (X ⟨gc,65+j*10,Z⟩):=hd.at 8 rfl;obtain⟨-,-,big,KB,EX⟩:=hp.2.2.2 rfl;exact aC EK XB (Ei U) ⟨U,d8⟩ KB Av.out EX U
    ·exact Ej_
    ·exact Em6
    ·exact Em5
    ·exact ElP
    ·exact Em4
    ·obtain rfl:p=0:=D;have d14:xv 14=Y (X ⟨gc,0,Z⟩):=hd.at 14 rfl;exact Ep GK U
    ·obtain rfl:p=0:=D;exact EnD
    ·obtain rfl:p=0:=D;have d16:xv 16=Y (X ⟨gc,8,Z⟩):=hd.at 16 rfl;have cc:wq.cell? ⟨gc,8,Z⟩=X (key):=Aw.out wq hp.2.1;exact Ep GL U
    ·exact Ej_
    ·obtain rfl:p=0:=D;have d9:xv 9=EZ dv:=hd.at 9 rfl;have d17:xv 17=key:=hd.at 17 rfl;have d18:xv 18=E I k:=hd.at 18 rfl;refine JE (f:=121) (args:= #[xv 9,xv 17,xv 18]) (Ei U) Ew ?_;rw[d9,d17,d18];exact(CH.out wq (hp.2.2.2 rfl).1 (hp.2.2.2 rfl).2.1).mono fun e w2 h=>⟨_,h.1,h.2,U⟩
    ·obtain rfl:p=0:=D;have d19:xv 19=Es #[EZ Uh,E I cd]:=hd.at 19 rfl;exact Ep (by simp[go_sem,d19]) U
    ·obtain rfl:p=0:=D;exact EnC
    ·exact EnC
    ·exact Emw
    ·have d21:xv 21=EZ Uh:=hd.at 21 rfl;obtain⟨b,c8,eA,lb,h8,kb⟩:aY 117 10 n0 (xv 23) wq:=hd.at 23 rfl;have nh:=XA.out;refine cO XB (Ei U) ⟨U,eA,d21⟩ kb h8 dI.out pk.out ⟨vf dI.out,?_⟩ ⟨b,eA,lb,kb.setRow _⟩;obtain⟨n1,s1,m1,-⟩:=hp;have ho:=O9 (g:=b) (W:=wq) Uh;exact⟨EB n1 ho.size,s1.As ho kb Eb D,m1.only ho D D kb.lt,fun h=>Uq⟩
    ·obtain rfl:p=1:=D;have d22:xv 22=E I cd:=hd.at 22 rfl;exact Ep (by simp[go_sem,d22]) U
   case hend=>
    intro xv W6 hp hd;simp only[ED,Ic,Ii,IJ,IU];obtain⟨b,eA,lb,kb⟩: ∃b:Nat,xv 23=Y (X ⟨b,0,Z⟩)/\n0<=b/\H W6 b Uh 117:=hd 24 Eb;have a25:xv 25=E I cd:=hd 25 Eb;obtain⟨-,s6,m6,-⟩:=hp;replace S1:=J s6;replace MM:=J m6;have KB:=J kb;rw[eA,a25];clear s6 m6 kb hd eA a25 KM;by_cases hcd:cd=0
    ·subst hcd;go_wp2_with fail;have y0: ∀y:Ext W6,(EA W6 y).cell? ⟨gs,0,Z⟩=X (Y (X ⟨gc,0,Z⟩)):=fun y=>(S1.out.u (EL y)).Iy;refine J_ 10 Ef Ef ?_;simp only[Is,Io,IS,IM]
     repeat (first
      |go_big_quiet_skip
      |(go_big_quiet_want
        first
         |(refine Og (T:=117) (g:=b) XB _ rfl rfl KB ?_ ?_;(·exact dI.out);go_simp;go_big_quiet_on)
         |(refine Au (v:=E I (k-1)) (fun _=>rN rfl rfl rfl SB.out) ?_;go_simp;go_big_quiet_on)
         |(refine Au (v:=Y (X ⟨gc,65+j*10,Z⟩)) (fun _=>ph rfl rfl rfl IX.out) ?_;go_simp;go_big_quiet_on)
         |(go_big_quiet_op
           first
            |go_big_quiet_on
            |go_big_quiet_call (fail))))
     refine I2 ?_;intro _ hw';obtain⟨y9,rfl⟩:=hw';have En:=EL y9;replace KB:=EP KB En;replace S1:=J<|S1.out.u En;replace MM:=J<|MM.out.trans (Ex.EC En);clear y0 En;generalize EA W6 y9=w9 at*;have TH:=J<|SY S1.out.core j HJ.out;go_wp2_with ((with_reducible refine Jr 117 ?_);(with_reducible refine Um U 117 _ _ U gc (65+j*10) Uh ?_ ?_ ?_ ?_ ?_ ?_);(·rfl);(·rfl);(·rw[dI.out];exact TH.out);(·rw[dI.out];exact XB.2);(·exact pk.out);refine Ey.mk ?_);apply Et;have S4:=S1.out.S6 j HJ.out d2 HD2.out;rw[<-vj.out] at S4;obtain⟨d0,d1,d2',hd,KG,-⟩:=S1.out.core.El;replace KB:=J<|(JG (g:=gc) Uh.toList (65+j*10) w9).El KB.out (E7 KB.out KG Eb);replace S1:=J S4.1;replace MM:=J<|MM.out.trans S4.2;clear S4 TH KG;generalize w9.setCells gc (65+j*10) Uh.toList=U0 at*;have NC:Ed (Uh.extract 2 (2+8)=Em d2.nc):=J (by rw[vj.out];exact SD _ _ _ HD2.out.len);have NS:Ed ((Em d2.nc).size=8):=J (by rw[Oc];exact HD2.out.len);have BN:=J<|Ect d2.nc HD2.out.len;have IR:=J<|Ecu 129 0 0 0 0 0 HD2.out.len HD2.out.bytes;generalize [129,0,0,0,0,0]++d2.nc=rl at*;generalize Em d2.nc=nv at*;go_wp2_with (first|(with_reducible refine wM (off:=2) (cs:=nv) aD KB ?_ (hn:=NS.out) (he:=NC.out))|((with_reducible refine It 77 ?_);refine JO rfl 222 _ rfl (I7 rl) BN.out ?_));refine(ur lo hi g gc gq gt gs c ns rs rl k _ S1.out IR.out J2).mono ?_;rintro e11 cg ⟨rfl,s11,m11⟩;replace S1:=J s11;replace MM:=J<|MM.out.trans m11;clear s11 m11;go_wp2_with fail;refine(Zl lo hi g gc gq gt gs c (ns+1) rs 2 k 0 0 0 _ S1.out JK).mono ?_;rintro e12 Xz ⟨rfl,s12,m12⟩;have S8:=J s12;replace MM:=J<|MM.out.trans m12;clear s12 m12;go_wp2;go_end0;exact⟨U,⟨1,2,_,D,S8.out⟩,MM.out⟩
    ·have t9:(cd !=0)=EI:=cW;go_wp2_with fail;refine(gu lo hi g gc gq gt gs c ns rs k 0 cd _ S1.out J2 JK).mono ?_;rintro e7 w7 ⟨rfl,s7,m7⟩;have S8:=J s7;replace MM:=J<|MM.out.trans m7;clear s7 m7;go_wp2_with fail;refine EV (UC U _ _ _) U ?_;exact⟨U,⟨1,7,_,D,S8.out⟩,MM.out⟩
 ·have t9:(kX !=0)=EI:=by simpa using vg
  go_wp2_with fail;refine(rZ lo hi g gc gq gt gs c ns rs k 13 _ S1.out JK).mono ?_;rintro e7 w7 ⟨rfl,s7,m7⟩;have S8:=J s7;replace MM:=J<|MM.out.trans m7;clear s7 m7;go_wp2_with fail;refine EV (UC U _ _ _) U ?_;exact⟨U,⟨0,1,_,D,S8.out⟩,MM.out⟩
theorem Ecx(gc:Nat)(k:Int)(j:Nat)(hk:k=(j:Int)+1)(hj:j<3)(W:M):(Instr.indexAt 24 (Y (X ⟨gc,5,Z⟩)) (E I (k-1))).run Ea W= .ok (Y (X ⟨gc,5+j,Z⟩)) W:=by exact Enm
theorem Ecy(T:Ez)(parts:Array (Nat×JN))(ho:o.op= .build T parts)(cs:Array G)(hb:P.built T (parts.toList.map fun(i,x)=>(i,a.eval x))=X cs) (hk:K (a.put o.dst (EZ cs))):o.quiet P a (fun w'=> ∃x,w'=EA W x) K:=by refine⟨_,fun w hw=> ?_,hk⟩;have hrun:=fun w=>run_build (P:=P) w T (parts.map fun(i,x)=>(i,a.eval x)) cs (by rw[Array.toList_map];exact hb);unfold ik Ig;simp only[ho,Om,hrun,On,Oa];obtain⟨y,rfl⟩:=hw;exact⟨U,U⟩
theorem Ecz{off:Nat}{xs:List Int}(h:Row w (X ⟨b,off,Z⟩) xs):w.rangeAt b off (xs.map (E .u8)):=fun j v hv=>by
 obtain⟨h1,-⟩:=h;rcases h1 with rfl|⟨b',o',e,h3⟩;·simp at hv
 ·injection e with e;injection e with e1 e2 e3;subst e1 e2;rw[ls] at hv;cases hx:xs[j]? with
  |none=>rw[hx] at hv;cases hv
  |some x=> rw[hx] at hv;obtain⟨hj,ej⟩:=Xr.1 hx;injection hv with hv;rw[h3 j hj,ej,<-hv]
theorem EcA{T:ET}{s r:Int}{key:List Int}{e:Uv}(h:qL T gt s r key w e w'): ∃cd T',e=Eh (E I cd)/\Ip w' gt T'/\E3 gt w w'/\((cd≠0/\T'=T)\/(cd=0/\(s=1\/s=2\/s=3)/\T'=T.put (s-1).toNat (Xk EI (max T.Iq 0) r key))):=by
 unfold qL at h;obtain⟨h1,h2⟩:=h;split at h1
 ·rename_i h3;split at h1;·exact⟨19,T,h1.1,h1.2,h2,.inl ⟨Eb,rfl⟩⟩
  ·exact⟨0,_,h1.1,h1.2,h2,.inr ⟨rfl,h3.1,rfl⟩⟩
 ·exact⟨1,T,h1.1,h1.2,h2,.inl ⟨Eb,rfl⟩⟩
theorem EcB(lo hi:Nat)(g:Nat->G)(gc gq gt gs:Nat)(c:EF)(ns:Nat)(rs:List Rec)(A:Option Ev)(n cap:Nat)(xs:List Int)(k:Int)(w:M)(S:E4 lo hi g gc gq gt gs c ns rs w)(hk:1<=k/\k<=3)(hx:xs.length=n)(hnc:n<=cap)(hcap:cap<=9223372036854775807)(hr:Row w A xs)(hn:ns<800000)(hl:rs.length<800000): Eg Ea 87 #[Y (X ⟨gs,0,Z⟩),E I k,EJ A n cap] w fun e w'=>e=Eh (Es #[])/\(∃c' m kd cd,m<=1/\E4 lo hi g gc gq gt gs c' (ns+m) (rs++[⟨kd,k,0,c.tok.e,cd,0⟩]) w'/\(c'=c\/(kd=3/\ ∃T':ET,c'={c with T:=T'})))/\Ex lo hi w w':=by
 obtain⟨j,hj,Xg⟩: ∃j:Nat,k=(j:Int)+1/\j<3:=⟨(k-1).toNat,D,D⟩;have IX:=J<|fun W=>S7 gc k j hj Xg W;have SB:=J<|fun W=>sub_one k hk.1 hk.2 W;have HJ:=J Xg;have HK:=J hk;have IK:=J<|fun W=>Ecx gc k j hj Xg W;have S1:=J S;have HN:=J hn;have HL:=J hl;have MM:=J<|Ex.refl lo hi w;have PI:=J<|fun i (h1:9<=i) (h2:i<56)=>S.core.XQ.int i h2 (.inr D);by_cases EcC:n=10
 ·subst EcC
  obtain⟨b0,G4,rfl⟩: ∃b off,A=X ⟨b,off,Z⟩:=by
   rcases hr.1 with h|⟨b,off,e,-⟩;·rw[h] at hx;cases hx
   ·exact⟨b,off,e⟩
  have CT:=J<|fun W (h:Row W (X ⟨b0,G4,Z⟩) (xs.take 2))=>Fo (xs.take 2) (X ⟨b0,G4,Z⟩) 2 cap (by rw[ZJ,hx];rfl) D hcap W h;have vk:=J hr;have TE:=J hx;have HNC:=J hnc;clear S hn hl hk hj Xg hx hr hcap;go_enter Tryz.func87,Tryz.ntmps87;go_wp2_with fail;refine(CT.out _ (qI vk.out 2)).mono ?_;rintro e1 w1 h1
  obtain⟨l,kX,he,b1⟩: ∃(l:List Int) (kX:Int),e1=Eh (Es #[EZ (EH l),E I kX])/\Ek w w1:=by
   obtain⟨h1,b1⟩:=h1;cases h2:du (xs.take 2) with
   |none=>rw[h2] at h1;exact⟨_,_,h1,b1⟩
   |some l=>rw[h2] at h1;exact⟨_,_,h1,b1⟩
  subst he;replace S1:=J<|S1.out.u b1;replace MM:=J<|Ex.EC (lo:=lo) (hi:=hi) b1;have RR:=J<|IH vk.out b1;obtain⟨v2,hv2⟩:=Eo (l.getD 2 0);have rP:Ed (∀W g,H W g (EH l) 183->W.cell? ⟨g,2,Z⟩=X (E I v2)):=J (fun W g K=>by rw[hv2];exact XT K 2 D D);have gN:=J<|JI l;have mn:=J<|Zy l;clear h1 b1 CT vk hv2;generalize EH l=mv at*;have K0:=J<|H.new w1 (EH (IZ 0)) 183;have b2:=Er w1 (Ec (EH (IZ 0)) 183);go_wp2_with (with_reducible first|refine wA gO ?_|refine wS (cs:=mv) Oz K0 (Ey.mk ?_) (ho:=JI _) (hn:=gN.out) (h1:=mn.out));apply Et;obtain⟨gm,hgm⟩:=Eo w1.heap.size;rw[<-hgm] at K0⊢;generalize w1.alloc (Ec (EH (IZ 0)) 183)=w2 at*;have KM:=J<|K0.out.setRow mv;have b3:=E6 (g:=gm) b2 (Ud hgm.symm) mv;generalize w2.setRow gm mv=w3 at*;clear K0 b2 hgm;replace S1:=J<|S1.out.u b3;replace MM:=J<|MM.out.trans (Ex.EC b3);replace RR:=J<|IH RR.out b3;clear b3;by_cases vg:kX=0
  ·subst vg;have Pm:=Pj;obtain⟨pf,hpf⟩:=Eo (xs.drop 2);have hpl:pf.length=8:=by rw[hpf,ly,TE.out]
   have RG:=J<|Ecz (lN RR.out 2);have hpb:=(lN RR.out 2).2;rw[<-hpf] at RG hpb;have TI:Ed ((Em pf).size=8):=J (by rw[Oc,hpl]);have EcF:Ed ((pf.map (E .u8)).toArray=Em pf):=J U;have jD:=J hpl;have Z_:=J hpb;clear hpf hpl hpb RR TE HNC;have K0:=J<|H.new w3 (Em (Eu 8)) 115;have b2:=Er w3 (Ec (Em (Eu 8)) 115);go_wp2_with (first|((with_reducible refine XU 115 ?_);(with_reducible refine wpList_load_mid rfl 115 _ rfl b0 (G4+2) ?_ (pf.map (E .u8)) _ ?_ Tryz.underlying115 ?_ ?_ ?_);(·rfl);(·exact RG.out);(·rfl);(·rw[List.length_map,jD.out];kernel_rfl);rw[EcF.out])|(with_reducible refine wA qK ?_)|(with_reducible refine wS (cs:=(Em pf)) aD K0 (Ey.mk ?_) (ho:=Xu) (hn:=TI.out) (h1:=XK _)));apply Et;obtain⟨gp,O8⟩:=Eo w3.heap.size;rw[<-O8] at K0⊢;clear Pm RG;generalize w3.alloc (Ec (Em (Eu 8)) 115)=zZ at*;have KP:=J<|K0.out.setRow (Em pf);have b3:=E6 (g:=gp) b2 (Ud O8.symm) (Em pf);generalize zZ.setRow gp (Em pf)=w4 at*;clear K0 b2 O8;replace KM:=EP KM b3;replace S1:=J<|S1.out.u b3;replace MM:=J<|MM.out.trans (Ex.EC b3);clear b3;obtain⟨A5,n5,c5,ys,pi,hyl,hy1,G0,G1,hym,vi⟩:=(S1.out.core.keys (5+j) D (by have:=HJ.out;omega)).row;obtain⟨dd,G2,od,bg,bx⟩:=SP S1.out.core j HJ.out;have BG:=J bg;have BX:=J bx;have RY:=J vi;obtain⟨d2,kv,cd,pj,hkl,hkb,kZ⟩:=Ecr dd od A5 ys pf n5 c5 k v2 hyl D jD.out Z_.out;have Av:Ed ((IL dd.n dd.op dd.nc).size=10):=J<|bT _ _ _ od.len;have dI:Ed ((IL d2.n d2.op d2.nc).size=10):=J<|bT _ _ _ pj.len;have pk:Ed ((IL d2.n d2.op d2.nc).all (·.oneCell')=EI):=J<|rM _ _ _;have G5:Ed ((Em kv).size=32):=J (by rw[Oc,hkl]);have KVO:=J<|XK kv;have dp:=J hkl;have nR:=J hkb;have HD2:=J pj;obtain⟨dv,hdv⟩:=Eo (IL dd.n dd.op dd.nc);obtain⟨Uh,pp⟩:=Eo (IL d2.n d2.op d2.nc);rw[<-hdv] at kZ Av BX;rw[<-pp] at kZ dI pk;have CH:=J kZ;have vj:=J pp;obtain⟨key,hkey⟩:=Eo (EJ A5 n5 c5);rw[<-hkey] at CH pi;have Aw:Ed (∀W,E4 lo hi g gc gq gt gs c ns rs W->W.cell? ⟨gc,5+j,Z⟩=X key):=J (fun W s=>by have hj:=HJ.out;have h:W.cell? ⟨gc,jP 0+(5+j),Z⟩=(EN 56 g).toList[5+j]?:=s.core.cell 0 rfl (5+j) Jm;rw[show jP 0+(5+j)=5+j from J9 _] at h;rw[h,show(EN 56 g).toList[5+j]?=X (g (5+j)) by simp[EN,show 5+j<56 from D],pi]);clear od bg bx vi kZ pj hdv pp hkey pi hyl hy1 G0 G1 hym hkl hkb;obtain⟨n0,hn0⟩:=Eo w4.heap.size;have XA:=J (show lo<=n0/\hi<=n0/\w.heap.size<=n0 from ma);go_wp2_with fail;refine gD (Ph:=fun p wq=>(n0<=wq.heap.size/\E4 lo hi g gc gq gt gs c ns rs wq/\Ex lo hi w wq/\H wq gm mv 183/\(p=0->Row wq A5 ys/\JH wq/\H wq gp (Em pf) 115/\ ∃big:Array G,H wq gc big 120/\big.extract (65+j*10) (65+j*10+10)=dv))) (Rel:=Jn) (In:=fun w w'=>kU 117 10 Uh w w'/\kU 41 32 (Em kv) w w') [.val (fun v=>v=Y (X ⟨gs,0,Z⟩)),.val (fun v=>v=Y (X ⟨gs,0,Z⟩)),.val (fun v=>v=Y (X ⟨gs,0,Z⟩)),.val (fun v=>v=Y (X ⟨gc,0,Z⟩)),.val (fun v=>v=E I k),.val (fun v=>v=E I (k-1)),.val (fun v=>v=Y (X ⟨gc,0,Z⟩)),.val (fun v=>v=Y (X ⟨gc,65,Z⟩)),.val (fun v=>v=Y (X ⟨gc,65+j*10,Z⟩)),.val (fun v=>v=EZ dv),.val (fun v=>v=Y (X ⟨gs,0,Z⟩)),.val (fun v=>v=Y (X ⟨gs,0,Z⟩)),.val (fun v=>v=Y (X ⟨gs,0,Z⟩)),.val (fun v=>v=Y (X ⟨gc,0,Z⟩)),.val (fun v=>v=E I k),.val (fun v=>v=E I (k-1)),.val (fun v=>v=Y (X ⟨gc,0,Z⟩)),.val (fun v=>v=Y (X ⟨gc,0,Z⟩)),.val (fun v=>v=Y (X ⟨gc,5,Z⟩)),.val (fun v=>v=Y (X ⟨gc,5+j,Z⟩)),.val (fun v=>v=key),.val (fun v=>v=E I k),.val (fun v=>v=Y (X ⟨gm,2,Z⟩)),.val (fun v=>v=E I v2),.val (fun v=>v=EZ (Em pf)),.val (fun v=>v=Es #[EZ Uh,EZ (Em kv),E I cd]),.val (fun v=>v=Es #[EZ Uh,EZ (Em kv),E I cd]),.val (fun v=>v=EZ Uh),.val (fun v=>v=EZ (Em kv)),.val (fun v=>v=E I cd),.dep (aY 117 10 n0) (fun v w w' h hr=>h.u hr) (fun v w w' h hr=>h.sz hr.1),.dep (aY 41 32 n0) (fun v w w' h hr=>h.u hr) (fun v w w' h hr=>h.sz hr.2),.tied [30] (fun x w=> ∃b:Nat,x 30=Y (X ⟨b,0,Z⟩)/\n0<=b/\H w b Uh 117) (fun x w w' h hr=>o_) (fun x w w' h hr=>by obtain⟨b,h1,h2,h3⟩:=h;obtain⟨c',-,h4,h5⟩:=hr.1 b _ h3 dI.out;exact⟨b,h1,h2,h5 U▸h4⟩) (fun x y w hq h=>by rw[hq 30 Ej] at h;exact h),.tie [31] (fun x w=> ∃b:Nat,x 31=Y (X ⟨b,0,Z⟩)/\n0<=b/\H w b (Em kv) 41) (fun x w w' h hr=>o_) (fun x y w hq h=>by rw[hq 31 Ej] at h;exact h),.val (fun v=>v=E I cd)] [V,V,V,V,V,V,V,V,V,V,V,V,V,V,V,V,V,V,V,V,V,V,V,V,V,V,V,V,V,V,V,V,V,EI,V] U [[],[],[],[],[],[],[],[],[],[],[],[],[],[],[],[],[],[],[],[],[],[],[],[],[],[],[],[],[],[],[],[],[30],[31],[]] U [32,33] [(0,0),(0,0),(0,0),(0,0),(0,0),(0,0),(0,0),(0,0),(0,0),(0,0),(0,0),(0,0),(0,0),(0,0),(0,0),(0,0),(0,0),(0,0),(0,0),(0,0),(0,0),(0,0),(0,0),(0,0),(0,0),(0,0),(0,0),(0,0),(0,1),(0,2),(0,0),(0,0),(0,0),(1,1),(2,2)] Ef Ef Ef Ef Ef Ef O0 Ef ?hPh ?h0 ?hstep ?hend;case hPh=> intro p w2 w3 h hr;exact⟨EB h.1 (UQ hr),h.2.1.u hr,h.2.2.1.trans (Ex.EC hr),H.u h.2.2.2.1 hr,fun hp=>by obtain⟨a1,a2,ap,big,a3,a4⟩:=h.2.2.2.2 hp;exact⟨IH a1 hr,a2.u hr,H.u ap hr,big,H.u a3 hr,a4⟩⟩
   case h0=> have hb:=JZ w4;exact⟨EB (Ud hn0) (UQ hb),S1.out.u hb,MM.out.trans (Ex.EC hb),H.u KM.out hb,fun _=>⟨IH RY.out hb,S1.out.core.roots.u hb,H.u KP.out hb,G2,H.u BG.out hb,BX.out⟩⟩
   case hstep=>
    refine⟨?_,?_,?_,?_,?_,?_,?_,?_,?_,?_,?_,?_,?_,?_,?_,?_,?_,?_,?_,?_,?_,?_,?_,?_,?_,?_,?_,?_,?_,?_,?_,?_,?_,?_,?_,trivial⟩;all_goals first|intro xv wq p hlo hhi hp hd|intro xv wq hp hd
    all_goals simp only[ED,Ic,Ii,IJ,IU]
    ·exact Ej_
    ·exact Eki
    ·exact Ekh
    ·exact EkI
    ·exact Ej_
    ·exact EmQ
    ·exact Ekg
    ·obtain rfl:p=0:=D;exact Emi
    ·exact ElS
    ·obtain rfl:p=0:=D;have d8:xv 8=Y (X ⟨gc,65+j*10,Z⟩):=hd.at 8 rfl;obtain⟨-,-,-,big,KB,EX⟩:=hp.2.2.2.2 rfl;exact aC EK XB (Ei U) ⟨U,d8⟩ KB Av.out EX U
    ·exact Ej_
    ·exact Em6
    ·exact Em5
    ·exact ElP
    ·exact Ej_
    ·obtain rfl:p=0:=D;have d14:xv 14=E I k:=hd.at 14 rfl;exact Iw EK (Ei U) (rN U d14 U SB.out) U
    ·exact Em4
    ·obtain rfl:p=0:=D;exact Em0
    ·exact ElH
    ·obtain rfl:p=0:=D;have d18:xv 18=Y (X ⟨gc,5,Z⟩):=hd.at 18 rfl;have d15:xv 15=E I (k-1):=hd.at 15 rfl;exact Iw EK (Ei U) (ph U d18 d15 IK.out) U
    ·obtain rfl:p=0:=D;have d19:xv 19=Y (X ⟨gc,5+j,Z⟩):=hd.at 19 rfl;have cc:wq.cell? ⟨gc,5+j,Z⟩=X (key):=Aw.out wq hp.2.1;exact Ep Aj U
    ·exact Ej_
    ·exact Ej_
    ·obtain rfl:p=0:=D;have d22:xv 22=Y (X ⟨gm,2,Z⟩):=hd.at 22 rfl;have cc:wq.cell? ⟨gm,2,Z⟩=X (E I v2):=rP.out _ _ hp.2.2.2.1;exact Ep GP U
    ·obtain rfl:p=0:=D;exact lX EK aD (Ei U) ⟨U,U⟩ ((hp.2.2.2.2 rfl).2.2.1) TI.out U
    ·obtain rfl:p=0:=D;have d9:xv 9=EZ dv:=hd.at 9 rfl;have d20:xv 20=key:=hd.at 20 rfl;have d21:xv 21=E I k:=hd.at 21 rfl;have d23:xv 23=E I v2:=hd.at 23 rfl;have d24:xv 24=EZ (Em pf):=hd.at 24 rfl;refine JE (f:=123) (args:= #[xv 9,xv 20,xv 21,xv 23,xv 24]) (Ei U) Ew ?_;rw[d9,d20,d21,d23,d24];exact(CH.out wq (hp.2.2.2.2 rfl).1 (hp.2.2.2.2 rfl).2.1).mono fun e w2 h=>⟨_,h.1,h.2,U⟩
    ·obtain rfl:p=0:=D;have d25:xv 25=Es #[EZ Uh,EZ (Em kv),E I cd]:=hd.at 25 rfl;exact Ep (by simp[go_sem,d25]) U
    ·obtain rfl:p=0:=D;exact El0
    ·exact El0
    ·exact El0
    ·exact Emw
    ·obtain rfl:p=0:=D;exact Za (Ei U) (dl _ _ _ U) (Er wq _) ⟨wq.heap.size,_,U,hp.1,U,H.new _ _ _⟩
    ·have d27:xv 27=EZ Uh:=hd.at 27 rfl;obtain⟨b,c8,eA,lb,h8,kb⟩:aY 117 10 n0 (xv 30) wq:=hd.at 30 rfl;have nh:=XA.out;refine cO XB (Ei U) ⟨U,eA,d27⟩ kb h8 dI.out pk.out ⟨⟨vf dI.out,SN kb Eb⟩,?_⟩ ⟨b,eA,lb,kb.setRow _⟩;obtain⟨n1,s1,m1,km,-⟩:=hp;have ho:=O9 (g:=b) (W:=wq) Uh;exact EmB
    ·have d28:xv 28=EZ (Em kv):=hd.at 28 rfl;obtain⟨b,c8,eA,lb,h8,kb⟩:aY 41 32 n0 (xv 31) wq:=hd.at 31 rfl;have nh:=XA.out;refine cO OF (Ei U) ⟨U,eA,d28⟩ kb h8 G5.out KVO.out ⟨⟨SN kb Eb,vf G5.out⟩,?_⟩ ⟨b,eA,lb,kb.setRow _⟩;obtain⟨n1,s1,m1,km,-⟩:=hp;have ho:=O9 (g:=b) (W:=wq) (Em kv);exact EmB
    ·obtain rfl:p=2:=D;have d29:xv 29=E I cd:=hd.at 29 rfl;exact Ep (by simp[go_sem,d29]) U
   case hend=>
    intro xv W6 hp hd;simp only[ED,Ic,Ii,IJ,IU];obtain⟨b,eA,lb,kb⟩: ∃b:Nat,xv 30=Y (X ⟨b,0,Z⟩)/\n0<=b/\H W6 b Uh 117:=hd 32 Eb;obtain⟨bk,eK,lk,kk⟩: ∃b:Nat,xv 31=Y (X ⟨b,0,Z⟩)/\n0<=b/\H W6 b (Em kv) 41:=hd 33 Eb;have a34:xv 34=E I cd:=hd 34 Eb;obtain⟨-,s6,m6,dE,-⟩:=hp;replace S1:=J s6;replace MM:=J m6;replace KM:=J dE;have KB:=J kb;have KK:=J kk;rw[eA,eK,a34];clear s6 m6 dE kb kk hd eA eK a34 KP BG BX RY CH Aw;go_wp2_with fail;have y0: ∀y:Ext W6,(EA W6 y).cell? ⟨gs,0,Z⟩=X (Y (X ⟨gc,0,Z⟩)):=fun y=>(S1.out.u (EL y)).Iy;refine J_ 10 Ef Ef ?_;simp only[Is,Io,IS,IM]
    repeat (first
     |go_big_quiet_skip
     |(go_big_quiet_want
       first
        |(refine Og (T:=117) (g:=b) XB _ rfl rfl KB ?_ ?_;(·exact dI.out);go_simp;go_big_quiet_on)
        |(refine Au (v:=E I (k-1)) (fun _=>rN rfl rfl rfl SB.out) ?_;go_simp;go_big_quiet_on)
        |(refine Au (v:=Y (X ⟨gc,65+j*10,Z⟩)) (fun _=>ph rfl rfl rfl IX.out) ?_;go_simp;go_big_quiet_on)
        |(go_big_quiet_op
          first
           |go_big_quiet_on
           |go_big_quiet_call (fail))))
    refine I2 ?_;intro _ hw';obtain⟨y9,rfl⟩:=hw';have En:=EL y9;replace KB:=EP KB En;replace KK:=EP KK En;replace KM:=EP KM En;replace S1:=J<|S1.out.u En;replace MM:=J<|MM.out.trans (Ex.EC En);clear y0 En;generalize EA W6 y9=w9 at*;have TH:=J<|SY S1.out.core j HJ.out;go_wp2_with ((with_reducible refine Jr 117 ?_);(with_reducible refine Um U 117 _ _ U gc (65+j*10) Uh ?_ ?_ ?_ ?_ ?_ ?_);(·rfl);(·rfl);(·rw[dI.out];exact TH.out);(·rw[dI.out];exact XB.2);(·exact pk.out);refine Ey.mk ?_);apply Et;have S4:=S1.out.S6 j HJ.out d2 HD2.out;rw[<-vj.out] at S4;obtain⟨d0,d1,d2',hd,KG,-⟩:=S1.out.core.El;have mo:=JG (g:=gc) Uh.toList (65+j*10) w9;replace KK:=J<|mo.El KK.out (E7 KK.out KG Eb);replace KM:=J<|mo.El KM.out (E7 KM.out KG Eb);replace S1:=J S4.1;replace MM:=J<|MM.out.trans S4.2;clear S4 TH KG KB mo;generalize w9.setCells gc (65+j*10) Uh.toList=U0 at*;by_cases mI:cd=17;·subst mI;go_wp2_with fail;refine(gu lo hi g gc gq gt gs c ns rs k 0 17 _ S1.out J2 JK).mono ?_;exact Elp
    ·have t17:(cd==17)=V:=by simpa using mI
     by_cases hcd:cd=0
     ·subst hcd;clear mI;go_wp2_with fail;obtain⟨d0,d1,d2,hd,KG,o0,o1,o2,-,-⟩:=S1.out.core.El;have U_:=J<|Oj (c:=c) (gq:=gq) (gt:=gt) (hd:=hd) (Jw g) o0 o1 o2 0 D;have KG:=J KG;have PL:=J<|Jw g;have UT:Ed ((EN 56 g).toList.toArray=EN 56 g):=J Ej;clear o0 o1 o2;have y0: ∀y:Ext U0,(EA U0 y).cell? ⟨gs,0,Z⟩=X (Y (X ⟨gc,0,Z⟩)):=fun y=>(S1.out.u (EL y)).Iy;have y2: ∀y:Ext U0,(EA U0 y).cell? ⟨gm,2,Z⟩=X (E I v2):=fun y=>rP.out _ _ (H.u KM.out (EL y));refine Zs Ef Ef ?_
      repeat (first
       |go_big_quiet_skip
       |(go_big_quiet_want
         first
          |(refine X7 (T:=28) (g:=gc) (off:=0) Up _ rfl rfl KG 0 rfl U_.out PL.out ?_;(try rw[UT.out]);go_simp;go_big_quiet_on)
          |(go_big_quiet_op
            first
             |go_big_quiet_on
             |go_big_quiet_call (with_reducible refine IY (QH g k v2 _ PI.out)))))
      refine I2 ?_;intro _ hw';obtain⟨y9,rfl⟩:=hw';have En:=EL y9;replace KM:=EP KM En;replace S1:=J<|S1.out.u En;replace MM:=J<|MM.out.trans (Ex.EC En);replace KK:=EP KK En;clear y0 y2 En KG U_ PL UT;generalize EA U0 y9=cg at*;cases htk:jL g k v2 with
      |false=> go_wp2_with fail;refine(gu lo hi g gc gq gt gs c ns rs k 0 18 _ S1.out J2 JK).mono ?_;rintro e7 w7 ⟨rfl,s7,m7⟩;have S8:=J s7;replace MM:=J<|MM.out.trans m7;clear s7 m7;go_wp2_with fail;refine EV (UC U _ _ _) U ?_;exact⟨U,⟨c,1,7,_,D,S8.out,.inl U⟩,MM.out⟩
      |true=>
       go_wp2_with fail;clear htk t17;have y0: ∀y:Ext cg,(EA cg y).cell? ⟨gs,0,Z⟩=X (Y (X ⟨gc,0,Z⟩)):=fun y=>(S1.out.u (EL y)).Iy;have y95: ∀y:Ext cg,(EA cg y).cell? ⟨gc,95,Z⟩=X (Y (X ⟨gt,0,Z⟩)):=fun y=>(S1.out.u (EL y)).core.cell 6 rfl 0 Ej;have y2: ∀y:Ext cg,(EA cg y).cell? ⟨gm,2,Z⟩=X (E I v2):=fun y=>rP.out _ _ (H.u KM.out (EL y));refine J_ 11 Ef Ef ?_;simp only[Is,Io,IS,IM]
       repeat (first
        |go_big_quiet_skip
        |(go_big_quiet_want
          first
           |(refine Og (T:=41) (g:=bk) OF _ rfl rfl KK ?_ ?_;(·exact G5.out);go_simp;go_big_quiet_on)
           |(go_big_quiet_op
             first
              |go_big_quiet_on
              |go_big_quiet_call (fail))))
       refine I2 ?_;intro _ hw';obtain⟨y9,rfl⟩:=hw';have En:=EL y9;replace KM:=EP KM En;replace S1:=J<|S1.out.u En;replace MM:=J<|MM.out.trans (Ex.EC En);clear y0 y95 y2 En KK;generalize EA cg y9=Xz at*;go_wp2_with fail;refine(EOr gt c.T k v2 kv _ S1.out.core.tab S1.out.core.ok.T dp.out).mono ?_;intro e13 JQ dy;obtain⟨G7,T',rfl,kt,ot,hT⟩:=EcA dy
       have hok:T'.ok/\T'.U4:=by
        rcases hT with⟨-,rfl⟩|⟨-,-,rfl⟩;·exact⟨S1.out.core.ok.T,S1.out.core.ok.Iq⟩
        ·exact⟨S1.out.core.ok.T.put _ (EOl _ _ _ _ dp.out nR.out),S1.out.core.ok.Iq.put _ (TM.start S1.out.core.ok.Iq)⟩
       have hS:=S1.out.vJ ot T' kt (S1.out.core.ok.vI hok.1 hok.2);replace KM:=J<|ot.El KM.out (E7 KM.out S1.out.core.tab Eb);replace S1:=J hS.1;replace MM:=J<|MM.out.trans hS.2;have HT:=J hT;clear dy kt ot hT hok hS;by_cases hc3:G7=0
       ·subst hc3;go_wp2_with fail;have y0: ∀y:Ext JQ,(EA JQ y).cell? ⟨gs,0,Z⟩=X (Y (X ⟨gc,0,Z⟩)):=fun y=>(S1.out.u (EL y)).Iy;have y2: ∀y:Ext JQ,(EA JQ y).cell? ⟨gm,2,Z⟩=X (E I v2):=fun y=>rP.out _ _ (H.u KM.out (EL y));obtain⟨hh,iW⟩:=Eo c.tok.h;obtain⟨ee,hee⟩:=Eo c.tok.e;have Ay: ∀y:Ext JQ,(EA JQ y).cell? ⟨gc,56,Z⟩=X (E I hh):=fun y=>by rw[iW];exact(S1.out.u (EL y)).core.cell 1 rfl 0 Xx
        have y57: ∀y:Ext JQ,(EA JQ y).cell? ⟨gc,57,Z⟩=X (E I ee):=fun y=>by rw[hee];exact(S1.out.u (EL y)).core.cell 1 rfl 1 Xx
        replace iW:=J iW;replace hee:=J hee;have BR:Tryz.prog.built 222 [(0,E I 130),(2,E I v2),(3,E I hh),(4,E I ee)]=X (I7 [130,0,v2,hh,ee,0,0,0,0,0,0,0,0,0]):=Ef;refine J_ 21 Ef Ef ?_;simp only[Is,Io,IS,IM]
        repeat (first
         |go_big_quiet_skip
         |(go_big_quiet_want
           first
            |(refine Ecy 222 _ rfl _ BR ?_;go_simp;go_big_quiet_on)
            |(go_big_quiet_op
              first
               |go_big_quiet_on
               |go_big_quiet_call (fail))))
        refine I2 ?_;intro _ hw';obtain⟨y9,rfl⟩:=hw';have En:=EL y9;replace S1:=J<|S1.out.u En;replace MM:=J<|MM.out.trans (Ex.EC En);clear y0 y2 Ay y57 En KM BR;generalize EA JQ y9=kf at*;go_wp2_with fail;refine(ur lo hi g gc gq gt gs _ ns rs [130,0,v2,hh,ee,0,0,0,0,0,0,0,0,0] k _ S1.out (oD _ _ _ _ _ _) J2).mono ?_;rintro e15 TJ ⟨rfl,s15,m15⟩;replace S1:=J s15;replace MM:=J<|MM.out.trans m15;clear s15 m15;go_wp2_with fail;refine(Zl lo hi g gc gq gt gs _ (ns+1) rs 3 k 0 0 0 _ S1.out JK).mono ?_;rintro e16 w16 ⟨rfl,s16,m16⟩;have S8:=J s16;replace MM:=J<|MM.out.trans m16;clear s16 m16;go_wp2;go_end0;exact⟨U,⟨_,1,3,_,D,S8.out,.inr ⟨U,T',U⟩⟩,MM.out⟩
       ·have t9:(G7 !=0)=EI:=by simpa using hc3
        have eT:T'=c.T:=by
         rcases HT.out with⟨-,h⟩|⟨h,-⟩;·exact h
         ·exact absurd h hc3
        subst eT;go_wp2_with fail;refine(gu lo hi g gc gq gt gs c ns rs k 0 G7 _ S1.out J2 JK).mono ?_;exact Elp
     ·have t9:(cd !=0)=EI:=cW;go_wp2_with fail;refine(rZ lo hi g gc gq gt gs c ns rs k cd _ S1.out JK).mono ?_;exact EkC
  ·have t9:(kX !=0)=EI:=by simpa using vg
   go_wp2_with fail;exact Eoo
 ·have t9:((n:Int) !=10)=EI:=Jm;clear S hk hj Xg hx hr hcap hnc hn hl;go_enter Tryz.func87,Tryz.ntmps87;go_wp2_with fail;exact Eoo
def rQ(g:Nat->G)(k:Int)(l:List Int)(c c':EF)(new:List Rec):Prop:=
 (c'=c/\new=[])
 \/(∃L',Ux L' c.q/\c'={c with T:=c.T.j5 k,tok:=(c.tok.drop k).1,q:=L'}/\new=(if(c.tok.drop k).2 then [⟨12,k,0,c.tok.e,16,0⟩] else [])++[⟨4,k,l.getD 1 0,(c.tok.drop k).1.e,0,0⟩])
 \/(∃L' t2 hw,t2.ok/\t2.e=c.tok.e+1/\t2.o= -1/\c'={c with tok:=t2,q:=L'}/\new=[⟨8,t2.h,l.getD 1 0,t2.e,0,hw⟩])
 \/(∃L' kd cd,(kd=7\/kd=10)/\c'={c with q:=L'}/\new=[⟨kd,k,l.getD 1 0,c.tok.e,cd,0⟩])
 \/(0<=c.tok.o/\c.tok.o=k/\c'={c with tok:=c.tok.end_}/\new=[⟨11,k,l.getD 1 0,c.tok.e,0,0⟩])
 \/(k=c.tok.h/\c.tok.o<0/\c'={c with tok:={c.tok with o:=l.getD 3 0,oa:=0,om:=max (pn g 44) 0}}/\new=[⟨9,k,l.getD 1 0,c.tok.e,0,l.getD 3 0⟩])
 \/(new=[⟨6,k,l.getD 1 0,c.tok.e,0,0⟩]/\(c'={c with mode:=l.getD 5 0,En:=⟨1,k,l.getD 1 0⟩}\/ ∃p:Pt,p.b=⟨1,k,l.getD 1 0⟩/\c'={c with pt:=p}))
def mq(g:Nat->G)(k code:Int)(xs:List Int)(c c':EF)(m:Nat)(new:List Rec):Prop:=
 (∃cd,c'=c/\m=0/\new=[⟨1,k,0,c.tok.e,cd,0⟩]/\(code≠0\/iT xs 1=EI\/iT xs 2=EI\/(c.T.take k xs).code≠0))
 \/(code=0/\(iT xs 1=EI\/iT xs 2=EI)/\ ∃kd cd,new=[⟨kd,k,0,c.tok.e,cd,0⟩]/\(c'=c\/(kd=3/\ ∃T':ET,c'={c with T:=T'})))
 \/(code=0/\iT xs 1=V/\iT xs 2=V/\(c.T.take k xs).code=0/\rQ g k (c.T.take k xs).msg {c with T:=(c.T.take k xs).tab} c' new)
def TU(lo hi:Nat)(g:Nat->G)(gc gq gt gs:Nat)(k:Int)(l:List Int)(f:FuncId):Prop:=
 ic f/\(∀(W:M) (gg:Nat),W.heap[gg]?=X (.map (XE gs 9) 9)->(fu 188 (.map (X gg)) (E I (l.getD 0 0)) EI).run Ea W= .ok (Es #[.func (.func f) #[Y (X ⟨gs,0,Z⟩)] #[],EU EI]) W)
 /\ ∀(c:EF) (ns:Nat) (rs:List Rec) (w:M),E4 lo hi g gc gq gt gs c ns rs w->ns<800000->rs.length<800000->
  Eg Ea f #[Y (X ⟨gs,0,Z⟩),E I k,EZ (EH l)] w fun e w'=>e=Eh (Es #[])/\(∃c' m new,m<=3/\E4 lo hi g gc gq gt gs c' (ns+m) (rs++new) w'/\rQ g k l c c' new)/\Ex lo hi w w'
theorem EcK(lo hi:Nat)(g:Nat->G)(gc gq gt gs:Nat)(k:Int)(hk:1<=k/\k<=3)(l:List Int)(hm:vc l)(h3:3<=l.getD 0 0)(h11:l.getD 0 0<=11): ∃f,TU lo hi g gc gq gt gs k l f:=by
 have hc:l.getD 0 0=3\/l.getD 0 0=4\/l.getD 0 0=5\/l.getD 0 0=6\/l.getD 0 0=7\/l.getD 0 0=8\/l.getD 0 0=9\/l.getD 0 0=10\/l.getD 0 0=11:=D
 have cmd: ∀(c:EF) (ns:Nat) (rs:List Rec) (w:M),E4 lo hi g gc gq gt gs c ns rs w->ns<800000->rs.length<800000->
  Eg Ea 135 #[Y (X ⟨gs,0,Z⟩),E I k,EZ (EH l)] w fun e w'=>e=Eh (Es #[])/\(∃c' m new,m<=3/\E4 lo hi g gc gq gt gs c' (ns+m) (rs++new) w'/\rQ g k l c c' new)/\Ex lo hi w w':=fun c ns rs w S hn hl=>by
  refine(Eb6 lo hi g gc gq gt gs c ns rs l k w S hk hm hn hl).mono ?_
  rintro e w' ⟨he,⟨c',m,new,h1,h2,h3⟩,mm⟩
  refine⟨he,⟨c',m,new,h1,h2,?_⟩,mm⟩
  rcases h3 with⟨cd,rfl,rfl⟩|⟨hn,h4⟩
  ·exact .inr (.inr (.inr (.inl ⟨_,7,cd,.inl U,U,U⟩)))
  ·exact .inr (.inr (.inr (.inr (.inr (.inr ⟨hn,h4⟩)))))
 rcases hc with h|h|h|h|h|h|h|h|h;·refine⟨128,fun _ _=>Ef,fun W gg hg=>by rw[h];exact EcO hg,fun c ns rs w S hn hl=> ?_⟩;refine(EbF lo hi g gc gq gt gs c ns rs l k w S hn hl).mono ?_;rintro e w' ⟨he,s,mm⟩;refine⟨he,⟨c,1,[],D,by rw[fX];exact s,.inl ⟨U,U⟩⟩,mm⟩
 ·refine⟨129,fun _ _=>Ef,fun W gg hg=>by rw[h];exact EcU hg,fun c ns rs w S hn hl=> ?_⟩;refine(EbG lo hi g gc gq gt gs c ns rs l k w S hn hl).mono ?_;rintro e w' ⟨he,⟨L',m,h1,h2,s⟩,mm⟩;refine⟨he,⟨_,m,_,h1,by rw[<-UY];exact s,.inr (.inl ⟨L',h2,U,U⟩)⟩,mm⟩
 ·refine⟨130,fun _ _=>Ef,fun W gg hg=>by rw[h];exact EcX hg,fun c ns rs w S hn hl=> ?_⟩;refine(EbR lo hi g gc gq gt gs c ns rs l k w S hk hn hl).mono ?_;rintro e w' ⟨he,⟨c',m,new,h1,s,L',h2⟩,mm⟩;refine⟨he,⟨c',m,new,h1,s,?_⟩,mm⟩;rcases h2 with⟨cd,rfl,rfl⟩|⟨t2,a1,a2,a3,rfl,rfl⟩|⟨rfl,rfl⟩;·exact .inr (.inr (.inr (.inl ⟨L',7,cd,.inl U,U,U⟩)))
  ·exact .inr (.inr (.inl ⟨L',t2,3,a1,a2,a3,U,U⟩))
  ·exact .inr (.inr (.inr (.inl ⟨L',10,0,.inr U,U,U⟩)))
 ·refine⟨131,fun _ _=>Ef,fun W gg hg=>by rw[h];exact EcZ hg,fun c ns rs w S hn hl=> ?_⟩;refine(Eb1 lo hi g gc gq gt gs c ns rs l k w S hk hn hl).mono ?_;rintro e w' ⟨he,⟨c',m,new,h1,s,h2⟩,mm⟩;refine⟨he,⟨c',m,new,h1,s,?_⟩,mm⟩;rcases h2 with⟨cd,rfl,rfl⟩|⟨po,a1,a2,a3,rfl,rfl⟩;·exact .inr (.inr (.inr (.inl ⟨_,7,cd,.inl U,U,U⟩)))
  ·refine .inr (.inr (.inr (.inr (.inr (.inl ⟨a2,a3,?_,U⟩)))));have e:pn g 44=po:=by unfold pn;rw[a1];rfl
   rw[e]
 ·refine⟨132,fun _ _=>Ef,fun W gg hg=>by rw[h];exact Eca hg,fun c ns rs w S hn hl=> ?_⟩;refine(EbM lo hi g gc gq gt gs c ns rs l k w S hn hl).mono ?_;rintro e w' ⟨he,⟨c',m,new,h1,s,h2⟩,mm⟩;refine⟨he,⟨c',m,new,h1,s,?_⟩,mm⟩;rcases h2 with⟨cd,rfl,rfl⟩|⟨t2,L',a1,-,rfl,rfl⟩;·exact .inr (.inr (.inr (.inl ⟨_,7,cd,.inl U,U,U⟩)))
  ·obtain⟨b1,b2,-,b3⟩:=ft S.core.ok.tok a1;exact .inr (.inr (.inl ⟨L',t2,1,b1,b2,b3,U,U⟩))
 ·refine⟨133,fun _ _=>Ef,fun W gg hg=>by rw[h];exact Ecb hg,fun c ns rs w S hn hl=> ?_⟩;refine(EbY lo hi g gc gq gt gs c ns rs l k w S hn hl).mono ?_;rintro e w' ⟨he,⟨c',m,new,h1,s,h2⟩,mm⟩;refine⟨he,⟨c',m,new,h1,s,?_⟩,mm⟩;rcases h2 with⟨cd,rfl,rfl⟩|⟨a1,a2,rfl,rfl⟩;·exact .inr (.inr (.inr (.inl ⟨_,7,cd,.inl U,U,U⟩)))
  ·exact .inr (.inr (.inr (.inr (.inl ⟨a1,a2,U,U⟩))))
 ·refine⟨134,fun _ _=>Ef,fun W gg hg=>by rw[h];exact Ecc hg,fun c ns rs w S hn hl=> ?_⟩;refine(EbN lo hi g gc gq gt gs c ns rs l k w S hn hl).mono ?_;rintro e w' ⟨he,⟨c',m,new,h1,s,L',h2⟩,mm⟩;refine⟨he,⟨c',m,new,h1,s,?_⟩,mm⟩;rcases h2 with⟨cd,rfl,rfl⟩|⟨t2,a1,a2,a3,rfl,rfl⟩;·exact .inr (.inr (.inr (.inl ⟨L',7,cd,.inl U,U,U⟩)))
  ·exact .inr (.inr (.inl ⟨L',t2,2,a1,a2,a3,U,U⟩))
 ·exact⟨135,fun _ _=>Ef,fun W gg hg=>by rw[h];exact Ecd hg,cmd⟩
 ·exact⟨135,fun _ _=>Ef,fun W gg hg=>by rw[h];exact Ecf hg,cmd⟩
theorem EcL(T:ET)(i:Nat)(bs:List Int)(h:(aH T i bs).code≠0):(aH T i bs).tab=T:=by
 unfold aH at*;split;·rfl
 ·rename_i l hl;rw[hl] at h;simp only at h;split;·rfl
  ·rename_i h2;rw[if_neg h2] at h;split;·rename_i h3;rw[if_pos h3] at h;exact absurd rfl h
   ·rfl
theorem EcM(T:ET)(k:Int)(xs:List Int)(h:(T.take k xs).code≠0):(T.take k xs).tab=T:=by
 unfold ET.take at*;split
 ·rename_i h1;rw[if_pos h1] at h;split;·rename_i h2;rw[if_pos h2] at h;exact EcL T _ _ h
  ·rfl
 ·rfl
theorem EcN{T:ET}(h:T.ok)(ht:T.U4)(i:Nat)(bs:List Int)(hb: ∀x∈bs,0<=x/\x<=255):(aH T i bs).tab.ok/\(aH T i bs).tab.U4/\((aH T i bs).code=0->vc (aH T i bs).msg/\3<=(aH T i bs).msg.getD 0 0/\(aH T i bs).msg.getD 0 0<=11):=by
 unfold aH;split;·exact EnL
 ·rename_i l hl;split;·exact⟨h,ht,fun h=>Uq⟩
  ·rename_i hk;split;·have hq:=QX hb hl;have hkk:=(EUF (Fp hb hl).1).2;refine⟨h.put i ⟨(h.E5 i).len,(h.E5 i).bytes,Qb (h.E5 i).win D⟩,ht.put i (TM.start ht),fun _=>⟨EcI hb hl,?_,hkk.2⟩⟩;show 3<=l.getD 0 0;omega
   ·exact EnL
theorem EcP{T:ET}(h:T.ok)(ht:T.U4)(k:Int)(xs:List Int)(hb: ∀x∈xs,0<=x/\x<=255):(T.take k xs).tab.ok/\(T.take k xs).tab.U4/\((T.take k xs).code=0->vc (T.take k xs).msg/\3<=(T.take k xs).msg.getD 0 0/\(T.take k xs).msg.getD 0 0<=11):=by
 unfold ET.take;split
 ·split;·exact EcN h ht _ _ (fun x hx=>hb x (fC hx))
  ·exact EnL
 ·exact EnL
theorem EcQ{b:Bool}(ho:o.op= .lookup T x y b)(hx:F x=Y3)(hy:F y=v)(h:(fu T Y3 v b).run P w= .ok r w):(Ig F o).run P w= .ok (.value r) w:=by unfold Ig;simp only[ho,hx,hy,Om,h,On,Oa]
theorem EcR{o:Obj}(h:w.heap[g]?=X o)(hb:Ek w w'):w'.heap[g]?=X o:=(hb.block g (J4.1 h).1).trans h
theorem EcS(lo hi:Nat)(g:Nat->G)(gc gq gt gs:Nat)(c:EF)(ns:Nat)(rs:List Rec)(code:Int)(A:Option Ev)(n cap:Nat)(xs:List Int)(k:Int)(w:M)(S:E4 lo hi g gc gq gt gs c ns rs w)(hk:1<=k/\k<=3)(hx:xs.length=n)(hnc:n<=cap)(hcap:cap<=9223372036854775807)(mr:n<=1000)(hr:Row w A xs)(hn:ns<800000)(hl:rs.length<800000): Eg Ea 71 #[Y (X ⟨gs,0,Z⟩),E I k,EZ #[E I code,EJ A n cap]] w fun e w'=>e=Eh (Es #[])/\(∃c' m new,m<=3/\E4 lo hi g gc gq gt gs c' (ns+m) (rs++new) w'/\mq g k code xs c c' m new)/\Ex lo hi w w':=by
 have HN:=J hn;have HL:=J hl;have TX:=J<|fun W (s:E4 lo hi g gc gq gt gs c ns rs W) (h:Row W A xs)=>Ecv lo hi g gc gq gt gs c ns rs A n cap xs k W s hk hx hnc hcap h hn hl;have TZ:=J<|fun W (s:E4 lo hi g gc gq gt gs c ns rs W) (h:Row W A xs)=>EcB lo hi g gc gq gt gs c ns rs A n cap xs k W s hk hx hnc hcap h hn hl;have CB:=J<|fun W (h:Row W A xs) b=>EcE A xs n cap b W hx h D;have Ta:=fun W K (h:Row W A xs) R=>EXE gt c.T k xs A n cap W K S.core.ok.T hx hnc hcap mr h R;have hti:=EcP S.core.ok.T S.core.ok.Iq k xs hr.2;obtain⟨T',hT'⟩:=Eo ((c.T.take k xs).tab);obtain⟨l,hl'⟩:=Eo ((c.T.take k xs).msg);obtain⟨cd,pq⟩:=Eo ((c.T.take k xs).code);obtain⟨mv,hmv⟩:=Eo (EH l);have rR:Ed (cd=0-> ∃f,TU lo hi g gc gq gt gs k l f):=J (fun h=>by rw[pq] at h;have h2:=hti.2.2 h;rw[hl'];exact EcK lo hi g gc gq gt gs k hk _ h2.1 h2.2.1 h2.2.2);have HT:Ed (T'.ok/\T'.U4):=J (by rw[hT'];exact⟨hti.1,hti.2.1⟩);have CT:Ed (∀W,Ip W gt c.T->Row W A xs->JH W->Eg Ea 88 #[Y (X ⟨gt,0,Z⟩),E I k,EJ A n cap] W fun e w'=>e=Eh (Es #[EZ mv,E I cd])/\Ip w' gt T'/\E3 gt W w'):=J (fun W K h R=>by rw[hmv,hl',pq,hT'];exact Ta W K h R);have gN:Ed (mv.size=12):=J (by rw[hmv];exact JI l);have mn:Ed (mv.all (·.oneCell')=EI):=J (by rw[hmv];exact Zy l);obtain⟨v0,hv0⟩:=Eo (l.getD 0 0);have An:Ed (∀W g,H W g mv 183->W.cell? ⟨g,0,Z⟩=X (E I v0)):=J (fun W g K=>by rw[hv0];rw[hmv] at K;exact XT K 0 D D);replace hT':=J hT';replace hl':=J hl';replace pq:=J pq;replace hmv:=J hmv;replace hv0:=J hv0;have S0:=J S;have R0:=J hr;have KI:=J<|H.new w #[E I code,EJ A n cap] 74;have b1:=Er w (Ec #[E I code,EJ A n cap] 74);have S1:=J<|S0.out.u b1;have MM:=J<|Ex.EC (lo:=lo) (hi:=hi) b1;have RW:=J<|IH R0.out b1;clear S hn hl hk hx hnc hcap mr hr Ta hti S0 R0;go_enter Tryz.func71,Tryz.ntmps71;go_wp2_with (with_reducible refine JU 46 ?_);apply Et;clear b1;generalize w.alloc (Ec #[E I code,EJ A n cap] 74)=w1 at*;obtain⟨gi,hgi⟩:=Eo w.heap.size;rw[<-hgi] at KI⊢;clear hgi;have i0:w1.cell? ⟨gi,0,Z⟩=X (E I code):=(H.cell KI.out 0).trans U;have i1:w1.cell? ⟨gi,1,Z⟩=X (EJ A n cap):=(H.cell KI.out 1).trans U;by_cases hcode:code=0
 ·subst hcode;go_wp2_with fail;refine(CB.out _ RW.out 1).mono ?_;rintro e2 w2 ⟨rfl,rfl⟩;cases hb1:iT xs 1 with
  |true=> have HB1:=J hb1;clear hb1;go_wp2_with fail;refine(TX.out _ S1.out RW.out).mono ?_;rintro e7 w7 ⟨rfl,⟨m,kd,G8,hm,s7⟩,m7⟩;have S8:=J s7;replace MM:=J<|MM.out.trans m7;clear s7 m7;go_wp2;go_end0;exact⟨U,⟨c,m,_,D,S8.out,.inr (.inl ⟨U,.inl HB1.out,kd,G8,U,.inl U⟩)⟩,MM.out⟩
  |false=>
   have HB1:=J hb1;clear hb1;go_wp2_with fail;refine(CB.out _ RW.out 2).mono ?_;rintro e2 w2 ⟨rfl,rfl⟩;cases hb2:iT xs 2 with
   |true=> have HB2:=J hb2;clear hb2;go_wp2_with fail;refine(TZ.out _ S1.out RW.out).mono ?_;rintro e7 w7 ⟨rfl,⟨c',m,kd,G8,hm,s7,hc7⟩,m7⟩;have S8:=J s7;replace MM:=J<|MM.out.trans m7;clear s7 m7;go_wp2;go_end0;exact⟨U,⟨c',m,_,D,S8.out,.inr (.inl ⟨U,.inr HB2.out,kd,G8,U,hc7⟩)⟩,MM.out⟩
   |false=>
    have HB2:=J hb2;clear hb2;obtain⟨n0,hn0⟩:=Eo w1.heap.size;have XA:=J (show lo<=n0/\hi<=n0/\w.heap.size<=n0 from ma);go_wp2_with fail;refine gD (Ph:=fun p wq=>(n0<=wq.heap.size/\(match p with|0=>E4 lo hi g gc gq gt gs c ns rs wq/\Ex lo hi w wq/\Row wq A xs/\H wq gi #[E I 0,EJ A n cap] 74|_=>E4 lo hi g gc gq gt gs {c with T:=T'} ns rs wq/\Ex lo hi w wq))) (Rel:=Jn) (In:=kU 183 12 mv) [kp gs 0,kp gs 0,kp gs 0,kp gc 0,kp gc 0,kp gc 95,kp gt 0,kq (E I k),kp gi 1,kq (EJ A n cap),kq (Es #[EZ mv,E I cd]),kq (Es #[EZ mv,E I cd]),kq (EZ mv),kq (E I cd),.dep (aY 183 12 n0) (fun v w w' h hr=>h.u hr) (fun v w w' h hr=>h.sz hr),.tie [14] (fun x w=> ∃b:Nat,x 14=Y (X ⟨b,0,Z⟩)/\n0<=b/\H w b mv 183) (fun x w w' h hr=>o_) (fun x y w hq h=>by rw[hq 14 Ej] at h;exact h),kq (E I cd)] [V,V,V,V,V,V,V,V,V,V,V,V,V,V,V,EI,V] U [[],[],[],[],[],[],[],[],[],[],[],[],[],[],[],[14],[]] U [10,15] [(0,0),(0,0),(0,0),(0,0),(0,0),(0,0),(0,0),(0,0),(0,0),(0,0),(0,0),(1,1),(1,1),(1,2),(0,1),(1,1),(2,2)] Ef Ef Ef Ef Ef Ef O0 Ef ?hPh ?h0 ?hstep ?hend
    case hPh=>
     intro p w2 w3 h hr;match p,h with
     |0,h=>exact⟨EB h.1 (UQ hr),h.2.1.u hr,h.2.2.1.trans (Ex.EC hr),IH h.2.2.2.1 hr,H.u h.2.2.2.2 hr⟩
     |_+1,h=>exact⟨EB h.1 (UQ hr),h.2.1.u hr,h.2.2.trans (Ex.EC hr)⟩
    case h0=> have hb:=JZ w1;exact⟨EB (Ud hn0) (UQ hb),S1.out.u hb,MM.out.trans (Ex.EC hb),IH RW.out hb,H.u KI.out hb⟩
    case hstep=>
     refine⟨?_,?_,?_,?_,?_,?_,?_,?_,?_,?_,?_,?_,?_,?_,?_,?_,?_,trivial⟩;all_goals first|intro xv wq p hlo hhi hp hd|intro xv wq hp hd
     all_goals simp only[ED,Ic,Ii,IJ,IU]
     ·exact Ej_
     ·exact Eki
     ·exact Ekh
     ·exact EkI
     ·exact Ekg
     ·exact Ekw
     ·obtain rfl:p=0:=D;have d5:xv 5=Y (X ⟨gc,95,Z⟩):=hd.at 5 rfl;have cc:wq.cell? ⟨gc,95,Z⟩=X (Y (X ⟨gt,0,Z⟩)):=hp.2.1.core.cell 6 rfl 0 Ej;exact Ep (by simp[go_sem,d5,cc]) U
     ·exact Ej_
     ·exact Ej_
     ·obtain rfl:p=0:=D;have d8:xv 8=Y (X ⟨gi,1,Z⟩):=hd.at 8 rfl;have cc:wq.cell? ⟨gi,1,Z⟩=X (EJ A n cap):=(H.cell hp.2.2.2.2 1).trans U;exact Ep Aa U
     ·have d6:xv 6=Y (X ⟨gt,0,Z⟩):=hd.at 6 rfl;have d7:xv 7=E I k:=hd.at 7 rfl;have d9:xv 9=EJ A n cap:=hd.at 9 rfl;refine JE (f:=88) (args:= #[xv 6,xv 7,xv 9]) (Ei U) Ew ?_;rw[d6,d7,d9];refine(CT.out wq hp.2.1.core.tab hp.2.2.2.1 hp.2.1.core.roots).mono fun e w2 h=> ?_;obtain⟨he,kt,ot⟩:=h;have hS:=hp.2.1.vJ ot T' kt (hp.2.1.core.ok.vI HT.out.1 HT.out.2);exact⟨_,he,⟨Ecp ot hp.2.1.core.tab Eb,EB hp.1 ot.size,hS.1,hp.2.2.1.trans hS.2⟩,U⟩
     ·obtain rfl:p=1:=D;have d10:xv 10=Es #[EZ mv,E I cd]:=hd.at 10 rfl;exact Enr
     ·obtain rfl:p=1:=D;exact Eos
     ·exact Eos
     ·exact Za (Ei U) (gO _ _ _ U) (Er wq _) ⟨wq.heap.size,_,U,hp.1,JI _,H.new _ _ _⟩
     ·have d12:xv 12=EZ mv:=hd.at 12 rfl;obtain⟨b,c8,eA,lb,h8,kb⟩:aY 183 12 n0 (xv 14) wq:=hd.at 14 rfl;have nh:=XA.out;refine cO Oz (Ei U) ⟨U,eA,d12⟩ kb h8 gN.out mn.out ⟨vf gN.out,?_⟩ ⟨b,eA,lb,kb.setRow _⟩;obtain⟨n1,s1,m1⟩:=hp;have ho:=O9 (g:=b) (W:=wq) mv;exact⟨EB n1 ho.size,s1.As ho kb Eb D,m1.only ho D D kb.lt⟩
     ·obtain rfl:p=2:=D;exact En5
    case hend=>
     intro xv W6 hp hd;simp only[ED,Ic,Ii,IJ,IU];obtain⟨gm,eA,lb,kb⟩: ∃b:Nat,xv 14=Y (X ⟨b,0,Z⟩)/\n0<=b/\H W6 b mv 183:=hd 15 Eb;have a16:xv 16=E I cd:=hd 16 Eb;obtain⟨-,s6,m6⟩:=hp;replace S1:=J s6;replace MM:=J m6;have KM:=J kb;rw[eA,a16];clear s6 m6 kb hd eA a16 KI RW CT TX TZ CB i0 i1;by_cases hcd:cd=0
     ·subst hcd;obtain⟨f,hf1,hf2,hf3⟩:=rR.out U;rw[<-hv0.out] at hf2;rw[<-hmv.out] at hf3;have FL:=J hf2;have FC:=J hf3;have hf1: ∀(args:Array G) (w:M),(Ji f args).run Ea w= .ok (.enter f args) w:=hf1;clear hf2 hf3;obtain⟨n1,hn1⟩:=Eo W6.heap.size;go_wp2_with fail;refine gD (Ph:=fun _ wq=>E4 lo hi g gc gq gt gs {c with T:=T'} ns rs wq/\Ex lo hi w wq/\H wq gm mv 183) (Rel:=Jn) (In:=fun w w'=>w=w') [kp gs 0,.dep (fun v w=> ∃gg,v= .map (X gg)/\w.heap[gg]?=X (.map (XE gs 9) 9)) (fun v w w' h hr=>by obtain⟨gg,h1,h2⟩:=h;exact⟨gg,h1,EcR h2 hr⟩) (fun v w w' h hr=>Xn),kp gm 0,kq (E I v0),kq (Es #[.func (.func f) #[Y (X ⟨gs,0,Z⟩)] #[],EU EI]),kq (Es #[.func (.func f) #[Y (X ⟨gs,0,Z⟩)] #[],EU EI]),kq (.func (.func f) #[Y (X ⟨gs,0,Z⟩)] #[]),kq (EU EI),kq (.func (.func f) #[Y (X ⟨gs,0,Z⟩)] #[]),kq (EU EI)] [V,V,V,V,V,V,V,V,V,V] U [[],[],[],[],[],[],[],[],[],[]] U [] [(0,0),(0,0),(0,0),(0,0),(0,0),(0,0),(0,0),(0,0),(0,0),(0,0)] Ef Ef Ef Ef Ef Ef O0 Ef ?hPh ?h0 ?hstep ?hend;case hPh=> intro p w2 w3 h hr;exact⟨h.1.u hr,h.2.1.trans (Ex.EC hr),H.u h.2.2 hr⟩
      case h0=> have hb:=JZ W6;exact⟨S1.out.u hb,MM.out.trans (Ex.EC hb),H.u KM.out hb⟩
      case hstep=>
       refine⟨?_,?_,?_,?_,?_,?_,?_,?_,?_,?_,trivial⟩;all_goals intro xv wq p hlo hhi hp hd
       all_goals simp only[ED,Ic,Ii,IJ,IU]
       ·exact EkN
       ·have d0:xv 0=Y (X ⟨gs,0,Z⟩):=hd.at 0 rfl;refine JE (f:=89) (args:= #[xv 0]) (Ei U) Ew ?_;rw[d0];exact(EcJ gs wq).mono fun e w2 h=>⟨_,h.1,h.2.2,wq.heap.size,U,h.2.1⟩
       ·exact EkN
       ·have d2:xv 2=Y (X ⟨gm,0,Z⟩):=hd.at 2 rfl;have cc:wq.cell? ⟨gm,0,Z⟩=X (E I v0):=An.out _ _ hp.2.2;exact EnK
       ·have d3:xv 3=E I v0:=hd.at 3 rfl;obtain⟨gg,eg,hg⟩: ∃gg,xv 1= .map (X gg)/\wq.heap[gg]?=X (.map (XE gs 9) 9):=hd.at 1 rfl;exact Iw EK (Ei U) (EcQ U eg d3 (FL.out wq gg hg)) U
       ·have d4:xv 4=Es #[.func (.func f) #[Y (X ⟨gs,0,Z⟩)] #[],EU EI]:=hd.at 4 rfl;exact Ens
       ·exact EmF
       ·exact EmF
       ·have d6:xv 6= .func (.func f) #[Y (X ⟨gs,0,Z⟩)] #[]:=hd.at 6 rfl;exact Ep nS U
       ·have d7:xv 7=EU EI:=hd.at 7 rfl;exact Ep f_ U
      case hend=> intro xv W7 hp hd;simp only[ED,Ic,Ii,IJ,IU];have a8:xv 8= .func (.func f) #[Y (X ⟨gs,0,Z⟩)] #[]:=hd 8 Eb;have a9:xv 9=EU EI:=hd 9 Eb;obtain⟨s7,m7,k7⟩:=hp;replace S1:=J s7;replace MM:=J m7;replace KM:=J k7;rw[a8,a9];clear s7 m7 k7 hd a8 a9 FL;go_wp2_with (with_reducible refine wL Oz KM ?_ (hn:=gN.out));refine(FC.out _ ns rs _ S1.out HN.out HL.out).mono ?_;rintro e8 w8 ⟨rfl,⟨c',m,new,hm,s8,h8⟩,m8⟩;have S8:=J s8;replace MM:=J<|MM.out.trans m8;clear s8 m8;go_wp2;go_end0;rw[hl'.out,hT'.out] at h8;exact⟨U,⟨c',m,new,hm,S8.out,.inr (.inr ⟨U,HB1.out,HB2.out,pq.out.symm,h8⟩)⟩,MM.out⟩
     ·have t9:(cd !=0)=EI:=cW;have eT:T'=c.T:=by rw[hT'.out];exact EcM _ _ _ (by rw[<-pq.out];exact hcd)
      subst eT;go_wp2_with fail;refine(rZ lo hi g gc gq gt gs c ns rs k cd _ S1.out JK).mono ?_;rintro e7 w7 ⟨rfl,s7,m7⟩;have S8:=J s7;replace MM:=J<|MM.out.trans m7;clear s7 m7;go_wp2_with fail;refine EV (UC U _ _ _) U ?_;exact⟨U,⟨c,0,_,D,S8.out,.inl ⟨_,U,U,U,.inr (.inr (.inr (by rw[<-pq.out];exact hcd)))⟩⟩,MM.out⟩
 ·have t9:(code !=0)=EI:=by simpa using hcode
  go_wp2_with fail;refine(rZ lo hi g gc gq gt gs c ns rs k code _ S1.out JK).mono ?_;rintro e7 w7 ⟨rfl,s7,m7⟩;have S8:=J s7;replace MM:=J<|MM.out.trans m7;clear s7 m7;go_wp2;go_end0;exact⟨U,⟨c,0,_,D,S8.out,.inl ⟨_,U,U,U,.inl hcode⟩⟩,MM.out⟩
theorem Tb{T:ET}(K:Ip W g T)(i:Nat):H W g (T.pre i++(Ox (T.E5 i).on (T.E5 i).a (T.E5 i).m++(([E .i64 (T.E5 i).r]++((T.E5 i).key.map (E .u8)++UX (T.E5 i).win))++T.post i))).toArray 163:=by unfold Ip at K;rw[T.qm i] at K;simpa[JC.v] using K
theorem EcV(g i:Nat)(T:ET)(w:M)(K:Ip w g T)(h:T.ok)(hoff:(T.E5 i).on=V): Eg Ea 145 #[Y (X ⟨g,so i,Z⟩)] w fun e w'=>e=Eh (EU V)/\w=w':=by have k:=Tb K i;rw[hoff] at k;exact Mu g (so i) _ _ _ _ _ w k (ET.nu h i)
theorem EcW(g:Nat)(T:ET)(w:M)(K:Ip w g T)(hoff:T.Zv=V): Eg Ea 145 #[Y (X ⟨g,0,Z⟩)] w fun e w'=>e=Eh (EU V)/\w=w':=by have k:H w g ([]++([EU T.Zv,E I T.sa,E I T.sm]++(T.s0.v++(T.s1.v++(T.s2.v++T.tl))))).toArray 163:=K;rw[hoff] at k;exact Mu g 0 _ _ _ _ _ w k U
theorem EcY(g i:Nat)(T:ET)(w:M)(K:Ip w g T)(h:T.ok)(hon:(T.E5 i).on=EI)(h1: -9223372036854775808<=(T.E5 i).a)(h3:(T.E5 i).m<=9223372036854775807): Eg Ea 145 #[Y (X ⟨g,so i,Z⟩)] w fun e w'=>e=Eh (EU (decide ((T.E5 i).m<=sat (T.E5 i).a (T.E5 i).m)))/\Ip w' g (T.put i {T.E5 i with a:=sat (T.E5 i).a (T.E5 i).m})/\E3 g w w':=by have k:=Tb K i;rw[hon] at k;refine(Mv g (so i) _ _ _ _ _ w k (ET.nu h i) h1 h3).mono ?_;rintro e w' ⟨he,hk,ho⟩;refine⟨he,?_,ho⟩;unfold Ip;rw[T.sY i];simpa[JC.v,hon] using hk
theorem E3.Tc{a b c:M}(h:E3 g a b)(k:Ir a.heap.size b c):E3 g a c:=
 ⟨EB h.size k.size,fun i hi hl=>(k.block i hl).trans (h.keep i hi hl),fun i hi hl=>(h.bel i hi hl).trans (k.mono hl)⟩
theorem TM.step{a m:Int}(h:TM a m):TM (sat a m) m:=by
 obtain⟨h1,h2,h3,h4⟩:=h;unfold sat;split;·exact⟨D,D,h3,h4⟩
 ·exact⟨D,D,h3,h4⟩
theorem Ec0(g i:Nat)(hi:i<3)(T:ET)(w:M)(K:Ip w g T)(h:T.ok)(ht:T.U4): Eg Ea 145 #[Y (X ⟨g,so i,Z⟩)] w fun e w'=>(∃b T',e=Eh (EU b)/\Ip w' g T'/\T'.ok/\T'.U4)/\E3 g w w':=by
 cases hon:(T.E5 i).on with
 |false=> refine(EcV g i T w K h hon).mono ?_;rintro e w' ⟨rfl,rfl⟩;exact⟨⟨_,T,U,K,h,ht⟩,E3.refl _ _⟩
 |true=> have hb:=ht.E5 i;refine(EcY g i T w K h hon (by have:=hb.1;omega) (by have:=hb.2.2.2;omega)).mono ?_;rintro e w' ⟨rfl,k,o⟩;exact⟨⟨_,_,U,k,h.put i ⟨(h.E5 i).len,(h.E5 i).bytes,(h.E5 i).win⟩,ht.put i (TM.step hb)⟩,o⟩
theorem Ec1(g:Nat)(T:ET)(w:M)(K:Ip w g T)(h:T.ok)(ht:T.U4): Eg Ea 145 #[Y (X ⟨g,0,Z⟩)] w fun e w'=>(∃b T',e=Eh (EU b)/\Ip w' g T'/\T'.ok/\T'.U4)/\E3 g w w':=by
 cases hon:T.Zv with
 |false=> refine(EcW g T w K hon).mono ?_;rintro e w' ⟨rfl,rfl⟩;exact⟨⟨_,T,U,K,h,ht⟩,E3.refl _ _⟩
 |true=>
  have hb:=ht.st;have k:H w g ([]++(Ox EI T.sa T.sm++(T.s0.v++(T.s1.v++(T.s2.v++T.tl))))).toArray 163:=by have K2:H w g (T.hd++(T.s0.v++(T.s1.v++(T.s2.v++T.tl)))).toArray 163:=K;unfold ET.hd at K2;rw[hon] at K2;exact K2
  refine(Mv g 0 _ _ _ _ _ w k U (by have:=hb.1;omega) (by have:=hb.2.2.2;omega)).mono ?_;rintro e w' ⟨rfl,k,o⟩;refine⟨⟨_,{T with sa:=sat T.sa T.sm},U,?_,⟨h.s0,h.s1,h.s2⟩,⟨ht.Iq,TM.step hb,fun i=> ?_⟩⟩,o⟩;·show H w' g ([EU T.Zv,E I (sat T.sa T.sm),E I T.sm]++(T.s0.v++(T.s1.v++(T.s2.v++T.tl)))).toArray 163;rw[hon];exact k
  ·exact match i with|0=>ht.E5 0|1=>ht.E5 1|_+2=>ht.E5 2
theorem Ec2{T:ET}(K:Ip W g T)(h:T.ok)(ht:T.U4):Ip (W.setCells g 0 [EU V,E I 0,E I 0]) g {T with Zv:=false,sa:=0,sm:=0}/\({T with Zv:=false,sa:=0,sm:=0}:ET).ok/\({T with Zv:=false,sa:=0,sm:=0}:ET).U4:=
 ⟨ZZ (post:=T.s0.v++(T.s1.v++(T.s2.v++T.tl))) [EU V,E I 0,E I 0] T.hd [] 0 W K U U,⟨h.s0,h.s1,h.s2⟩,⟨ht.Iq,(show TM 0 0 from⟨Eb,Eb,Eb,Eb⟩),fun i=>match i with|0=>ht.E5 0|1=>ht.E5 1|_+2=>ht.E5 2⟩⟩
theorem Td: ∃i,Tryz.prog.info? 3=X i/\i.zero=X (E I 0)/\i.size=1/\i.bytes=8:=by have h:(Tryz.prog.info? 3).map (fun i=>(i.zero,i.size,i.bytes))=X (X (E I 0),1,8):=Ef;exact Elh
theorem Ec3:IF Ea 156 3:=⟨⟨_,Tryz.underlying156,U⟩,Ef⟩
theorem Ec4:Tryz.prog.built 156 []=X #[EU V,E I 0,E I 0]:=Ef
theorem Ec5(g i:Nat)(hi:i<3)(W:M):(Instr.indexAt 161 (Y (X ⟨g,3,Z⟩)) (E I (i:Int))).run Ea W= .ok (Y (X ⟨g,so i,Z⟩)) W:=by have h:i=0\/i=1\/i=2:=D;rcases h with rfl|rfl|rfl<;>rfl
def UK(L:List Int):List G:=L.map (E .i64)
theorem Ec6(g:Nat)(T:ET)(w:M)(K:Ip w g T)(h:T.ok)(ht:T.U4): Eg Ea 101 #[Y (X ⟨g,0,Z⟩)] w fun e w'=>(∃(L:List Int) (A:Option Ev) (c:Nat) (T1:ET),e=Eh (EJ A L.length c)/\w'.ownsRow w.heap.size 3 1 (EJ A L.length c) L.length (UK L)/\L.length<=4/\(∀x∈L,0<=x/\x<=3)/\Ip w' g T1/\T1.ok/\T1.U4)/\E3 g w w':=by
 have KT:=J K;have OK:=J h;have OT:=J ht;have II:=J Td;have BP:=J Ec4;have BZ:=J Nq;have SZ:=J<|show UN.v.toArray.size=39 from JC.ZX U;have S1:=J<|qB UN;have SV:Ed (UN.v.toArray.toList=UN.v):=J U;have TP:=J<|fun(T:ET) W (k:Ip W g T) (h:T.ok) i=>yO k h i UN U;have TT:=J<|fun(T:ET) (h:T.U4) i=>h.put i (s:=UN) ⟨Eb,Eb,Eb,Eb⟩;have TK:=J<|fun(T:ET) (h:T.ok) i=>h.put i sW;have TH:=J<|fun(T:ET) W (k:Ip W g T) (h:T.ok) (i:Nat)=>aA (o:=so i) (n:=39) k (by rw[qy k h];have:=Dx i;omega);obtain⟨sv,hsv⟩:=Eo UN.v.toArray;rw[<-hsv] at BZ SZ S1 SV;clear hsv K h ht;generalize UN.v=sl at*;go_enter Tryz.func101,Tryz.ntmps101;go_wp2_with fail;refine(Ec1 g T _ KT.out OK.out OT.out).mono ?_;rintro e w1 ⟨⟨b,T1,rfl,k1,ok1,Tf⟩,o1⟩;replace KT:=J k1;replace OK:=J ok1;replace OT:=J Tf;have ON:=J o1;clear k1 ok1 Tf o1;go_upto_if 9 with(fail)
 go_cut[3] from 10 to 16 (fun v wx=> ∃(L:List Int) (A:Option Ev) (c:Nat) (T1:ET),v=EJ A L.length c/\wx.ownsRow w.heap.size 3 1 (EJ A L.length c) L.length (UK L)/\L.length<=1/\(∀x∈L,0<=x/\x<=3)/\Ip wx g T1/\T1.ok/\T1.U4/\E3 g w wx)
 case first=>
  cases b;·go_wp2;go_meet;exact⟨[],Z,0,T1,U,bw _ _ _ _,Ej,Ej,KT.out,OK.out,OT.out,ON.out⟩
  ·have Tg:=J<|aA (o:=0) (n:=3) KT.out (by rw[qy KT.out OK.out];omega);go_wp2_with (first|((with_reducible refine It 11 ?_);refine JO rfl 156 _ rfl #[EU false,E I 0,E I 0] BP.out ?_)|((with_reducible refine Jr 156 ?_);(with_reducible refine Um rfl 156 _ _ rfl g 0 #[EU false,E I 0,E I 0] ?_ ?_ ?_ ?_ ?_ ?_);(·rfl);(·rfl);(·exact Tg.out);(·exact Ec3.2);(·simp[Ov]);refine Ey.mk ?_));apply Et;have hz:=Ec2 KT.out OK.out OT.out;replace KT:=J hz.1;replace OK:=J hz.2.1;replace OT:=J hz.2.2;replace ON:=J<|ON.out.trans (JG (g:=g) [EU V,E I 0,E I 0] 0 w1);clear hz Tg;change Ih _ _ _ _ _ (w1.setCells g 0 [EU V,E I 0,E I 0]);generalize w1.setCells g 0 [EU V,E I 0,E I 0]=w2 at*;go_wp2_with (with_reducible refine JU 16 ?_);apply Et;have OG:Ed (bM w2 w.heap.size 3 1 (.slice Z ([]:List Int).length 0) ([]:List Int).length (UK [])):=J<|bw _ _ _ _;have KB:=J<|H.new w2 #[E I (0)] 3;have b4:=J<|Er w2 (Ec #[E I (0)] 3);replace OG:=J<|EQ OG.out fun _ _ h=>H.u h b4.out;replace KT:=J<|KT.out.u b4.out;replace ON:=J<|ON.out.trans (E3.EC b4.out);clear b4;generalize w2.alloc (Ec #[E I (0)] 3)=w7 at*;generalize w2.heap.size=gb at*;have lw:=ON.out.size;obtain⟨qA,qc,qw,UG,XR,OU,-,-⟩:=cU (P:=Ea) w7 w.heap.size w.heap.size 51 51 3 II.out.choose _ 1 8 Tryz.underlying51 II.out.choose_spec.1 II.out.choose_spec.2.1 II.out.choose_spec.2.2.1 II.out.choose_spec.2.2.2 rfl Z 0 0 (UK []) OG.out ⟨gb,0,Z⟩ 1 1 [E I (0)] U (fun j Y3 hu=>by rw[show(⟨gb,0,Z⟩:Ev).add j=⟨gb,j,Z⟩ from Xo];rw[H.cell KB.out,J0];exact hu) cR (fun _=>D) Oy D lw (E9 _);have gw:=uA (P:=Ea) w7 w.heap.size 51 51 3 II.out.choose _ 1 8 Tryz.underlying51 II.out.choose_spec.1 II.out.choose_spec.2.1 II.out.choose_spec.2.2.1 II.out.choose_spec.2.2.2 Z 0 0 (UK []) OG.out ⟨gb,0,Z⟩ 1 1 [E I (0)] U (fun j Y3 hu=>by rw[show(⟨gb,0,Z⟩:Ev).add j=⟨gb,j,Z⟩ from Xo];rw[H.cell KB.out,J0];exact hu) cR (fun _=>D) Oy D UG;go_wp2_with ((with_reducible refine It 16 ?_);(refine Jq (Ei U) (UU U U U UG) ?_);refine Ey.mk ?_);apply Et;have OL:Ed (bM qw w.heap.size 3 1 (EJ qA (0+1) qc) (0+1) (UK ([]++[0]))):=J Th;replace KT:=J<|XN OU KT.out Eb;replace ON:=J<|ON.out.Tc (OU.2.1 lw);clear XR OU UG OG KB gw lw;go_wp2;go_meet;exact⟨[0],qA,qc,_,U,OL.out,Ej,Ej,KT.out,OK.out,OT.out,ON.out⟩
 case rest=>
  obtain⟨L,A,c,T2,rfl,og,hl,hb,k2,Ti,Tj,o2⟩:=hcut;clear KT OK OT ON;replace o2:=J o2;go_wp2_with fail;go_loopw[3,17] (fun v y wr=> ∃(i:Nat) (L:List Int) (A:Option Ev) (c:Nat) (T1:ET),i<=3/\y=E I i/\v=EJ A L.length c/\wr.ownsRow w.heap.size 3 1 (EJ A L.length c) L.length (UK L)/\L.length<=i+1/\(∀x∈L,0<=x/\x<=3)/\Ip wr g T1/\T1.ok/\T1.U4/\E3 g w wr) (fun _ y _=>3-(I5 y).toNat);case atStart=>exact⟨0,L,A,c,T2,D,U,U,og,D,hb,k2,Ti,Tj,o2.out⟩
  case round=>
   obtain⟨i,L,A,c,T3,hi,rfl,rfl,Tk,hl3,hb3,k3,Tl,Tm,o3⟩:=hrel;clear og hb k2 Ti Tj o2 hl;have OG:=J Tk;have HL:=J hl3;have HB:=J hb3;have KT:=J k3;have OK:=J Tl;have OT:=J Tm;have ON:=J o3;clear Tk hl3 hb3 k3 Tl Tm o3;by_cases hlt:i<3
   ·have t1:decide ((i:Int)<3)=EI:=IE D;have ix:=fun W=>Ec5 g i hlt W;have HLT:=J hlt;go_wp2_with fail;refine(Ec0 g i HLT.out T3 _ KT.out OK.out OT.out).mono ?_;rintro e w4 ⟨⟨b,T4,rfl,k4,Tn,To⟩,o4⟩;replace OG:=J<|EQ OG.out fun _ _ h=>o4.El h (E7 h KT.out Eb);replace KT:=J k4;replace OK:=J Tn;replace OT:=J To;replace ON:=J<|ON.out.trans o4;clear k4 Tn To o4;cases b;·go_wp2_with fail;refine⟨⟨i+1,L,A,c,T4,D,Ej,U,OG.out,JK,HB.out,KT.out,OK.out,OT.out,ON.out⟩,J6⟩
    ·have Tp:=J<|TH.out T4 _ KT.out OK.out i;go_wp2_with (first|((with_reducible refine It 30 ?_);refine JO rfl 160 _ rfl sv BZ.out ?_)|((with_reducible refine Jr 160 ?_);(with_reducible refine Um rfl 160 _ _ rfl g (so i) sv ?_ ?_ ?_ ?_ ?_ ?_);(·rfl);(·rfl);(·rw[SZ.out];exact Tp.out);(·rw[SZ.out];exact tp.2);(·exact S1.out);refine Ey.mk ?_));apply Et;rw[SV.out];replace OG:=J<|EQ OG.out fun _ _ h=>(JG (g:=g) sl (so i) w4).El h (E7 h KT.out Eb);replace KT:=J<|TP.out T4 _ KT.out OK.out i;replace OK:=J<|TK.out T4 OK.out i;replace OT:=J<|TT.out T4 OT.out i;replace ON:=J<|ON.out.trans (JG (g:=g) sl (so i) w4);clear Tp;generalize w4.setCells g (so i) sl=w5 at*;have p4:L.length<=4:=JK;go_wp2_with (with_reducible refine JU 36 ?_);apply Et;have KB:=J<|H.new w5 #[E I ((i:Int)+1)] 3;have b4:=J<|Er w5 (Ec #[E I ((i:Int)+1)] 3);replace OG:=J<|EQ OG.out fun _ _ h=>H.u h b4.out;replace KT:=J<|KT.out.u b4.out;replace ON:=J<|ON.out.trans (E3.EC b4.out);clear b4;generalize w5.alloc (Ec #[E I ((i:Int)+1)] 3)=w7 at*;generalize w5.heap.size=gb at*;have lw:=ON.out.size;obtain⟨qA,qc,qw,UG,XR,OU,-,-⟩:=cU (P:=Ea) w7 w.heap.size w.heap.size 51 51 3 II.out.choose _ 1 8 Tryz.underlying51 II.out.choose_spec.1 II.out.choose_spec.2.1 II.out.choose_spec.2.2.1 II.out.choose_spec.2.2.2 rfl A c L.length (UK L) OG.out ⟨gb,0,Z⟩ 1 1 [E I ((i:Int)+1)] U (fun j Y3 hu=>by rw[show(⟨gb,0,Z⟩:Ev).add j=⟨gb,j,Z⟩ from Xo];rw[H.cell KB.out,J0];exact hu) cR (fun _=>D) Oy D lw (E9 _);have gw:=uA (P:=Ea) w7 w.heap.size 51 51 3 II.out.choose _ 1 8 Tryz.underlying51 II.out.choose_spec.1 II.out.choose_spec.2.1 II.out.choose_spec.2.2.1 II.out.choose_spec.2.2.2 A c L.length (UK L) OG.out ⟨gb,0,Z⟩ 1 1 [E I ((i:Int)+1)] U (fun j Y3 hu=>by rw[show(⟨gb,0,Z⟩:Ev).add j=⟨gb,j,Z⟩ from Xo];rw[H.cell KB.out,J0];exact hu) cR (fun _=>D) Oy D UG;go_wp2_with ((with_reducible refine It 36 ?_);(refine Jq (Ei U) (UU U U U UG) ?_);refine Ey.mk ?_);apply Et;have OL:Ed (bM qw w.heap.size 3 1 (EJ qA (L.length+1) qc) (L.length+1) (UK (L++[(i:Int)+1]))):=J Th;replace KT:=J<|XN OU KT.out Eb;replace ON:=J<|ON.out.Tc (OU.2.1 lw);clear XR OU UG OG KB gw lw;go_wp2_with fail;refine⟨⟨i+1,L++[(i:Int)+1],qA,qc,_,D,Ej,by rw[I1];rfl,by rw[I1];exact OL.out,by rw[I1,List.length_singleton];have:=HL.out;omega,?_,KT.out,OK.out,OT.out,ON.out⟩,J6⟩;intro x hx;rcases Xt.1 hx with hx|hx;·exact HB.out x hx
     ·rw[mw] at hx;omega
   ·obtain rfl:i=3:=D;have hl4:=HL.out;go_wp2;go_ret;exact⟨⟨L,A,c,T3,U,OG.out,D,HB.out,KT.out,OK.out,OT.out⟩,ON.out⟩
end Go.Proofs.YtclmichaaiohjaaGreatDoor
