import Derived.Test.YtclmichaaiohjaaGreatDoorS05
set_option maxRecDepth 100000
set_option linter.unusedVariables false
set_option linter.unusedSimpArgs false
set_option maxHeartbeats 6400000
namespace Go.Proofs.YtclmichaaiohjaaGreatDoor
open RowKit
open _root_.Array renaming getElem?_eq_some_iff->J3
open Bool renaming true->EJ,false->EI,or_eq_true->nJ
open Go renaming World->M,Calls->Eg,TypeId->EB,Value->Y,Addr->Ep,Program->Jq,heap_alloc_new->gI,bodyPost_ret->ET,binOp->X5,results->UA,Act->E_,Oper->EP,execOp->Ig,wpList->Ib,undef->I6,Operand->J5,below_setRow->EY,wpQuiet_nil->I5,results_none->UQ,Ending->Ud,wpList_store_mid->Ux
open Act renaming put->Ih
open Code renaming region->bU
open Ending renaming returned->Ei
open Instr renaming mapUpdate->jW,lookup->gY,indexAt->qY
open IntKind renaming i64->I,u8->Ix
open Lib renaming hid->J
open Obj renaming cells->Eb
open Go.Proofs.Tryz renaming prog->EZ
open Region renaming binds->UN
open Result renaming andThen_ok->OM
open RowKit renaming Hid->Ed
open RowKit.Below renaming refl->IU,size->XE
open Sem renaming run_bind->OH,run_pure->Oi,run->Uv
open Value renaming bool->Ec,int->E,agg->Ea,slice->G,tuple->Eu,pointer->V,oneCell'->Oc
open World renaming alloc->Xo
open Int renaming le_refl->Zz
open List renaming getElem?_eq_none->bJ,mem_of_mem_take->iI,getElem?_eq_getElem->JV,range->U4,mem_range->bX,all_eq_true->Xw,getElem?_eq_some_iff->Xx,take_succ_cons->Is,length_take->ar,getD_eq_getElem?_getD->OE,getElem?_append_right->aE,take_zero->Iq,setIfInBounds_toArray->Ik,length_append->IY,getElem_mem->gh,set_cons_succ->Ic,set_cons_zero->If,length_drop->il,drop_succ_cons->IT,drop_zero->IM,append_nil->dy
open Nat renaming le_trans->Ew,le_refl->E3,zero_add->Ox,zero_le->aO,add_assoc->jx,le_of_lt->aH,le_of_eq->OC
open Option renaming some->D,none->Z,map_some->kj
open KQ
variable{t t2:EN}{b gt lo hi g gc gq gs ns gm n0 n:Nat}{p:Pt}{T T2:EB}{s:Int}{w w' W W':M}{rs:List Rec}{l:List Int}{cs d c2:Array Y}{v Y3 r:Y}{x y:J5}{o:EP}{P:Jq}{F:J5->Y}{a:E_}{K:E_->Prop}
theorem fR:IL EZ 36 3:=⟨⟨_,Tryz.underlying36,O⟩,Ef⟩
theorem iP:IL EZ 50 12:=⟨⟨_,Tryz.underlying50,O⟩,Ef⟩
theorem Ey.ok.aN{c:Ey}(h:c.ok)(ht:t.ok):({c with tok:=t}:Ey).ok:=⟨ht,h.T,h.q,h.ones,h.src,h.nd,h.iG,h.jD,h.mode,h.En,h.pt,h.Iu⟩
theorem n_(lo hi:Nat)(g:Nat->Y)(gc gq gt gs:Nat)(c:Ey)(ns:Nat)(rs:List Rec)(t:EN)(how n:Int)(w:M)(S:E9 lo hi g gc gq gt gs c ns rs w)(ht:t.ok)(hn:ns<900000)(hl:rs.length<900000): Eg EZ 97 #[V (D ⟨gs,0,Z⟩),t.a,E I how,E I n] w fun e w'=>e=Ei (Eu #[])/\(∃L' m,m<=2/\UF L' c.q/\E9 lo hi g gc gq gt gs {c with tok:=t,q:=L'} (ns+m) (rs++[⟨8,t.h,n,t.e,0,how⟩]) w')/\EA lo hi w w':=by
 obtain⟨tv,E2,TS,TO,ag,gS⟩: ∃tv,t.a=Ea tv/\Ed (tv.size=8)/\Ed (tv.all (·.oneCell')=EJ)/\Ed (tv.toList=t.v)/\Ed (∀W g,H W g tv 109->W.cell? ⟨g,0,Z⟩=D (E I t.h)/\W.cell? ⟨g,1,Z⟩=D (E I t.e)):=⟨_,O,J O,J (gj _ _ _ _ _ _ _ _),J O,J fun W g K=>⟨(H.cell K 0).trans O,(H.cell K 1).trans O⟩⟩;rw[E2];have lD:=J S;have HT:=J ht;have HN:=J hn;have HL:=J hl;clear S ht hn hl E2;obtain⟨h2,Wg⟩:=Eo t.h;obtain⟨e2,he2⟩:=Eo t.e;rw[<-Wg,<-he2] at gS⊢;replace he2:=J he2;clear Wg;have BR1:Tryz.prog.built 222 [(0,E I 134),(3,E I h2),(4,E I e2)]=D (JJ [134,0,0,h2,e2,0,0,0,0,0,0,0,0,0]):=Ef;have BR2:Tryz.prog.built 222 [(0,E I 133),(4,E I e2)]=D (JJ [133,0,0,0,e2,0,0,0,0,0,0,0,0,0]):=Ef;go_enter Tryz.func97,Tryz.ntmps97;have KT:=J<|H.new w tv 109;have b1:=Er w (Eb tv 109);have S1:=J<|lD.out.B b1;have MM:=J<|EA.ED (lo:=lo) (hi:=hi) b1;go_wp2_with fail;clear b1;generalize w.alloc (Eb tv 109)=w1 at*;obtain⟨gk,ZK⟩:=Eo w.heap.size;rw[<-ZK] at KT⊢;clear ZK;have y0: ∀y:Ext w1,(EC w1 y).cell? ⟨gs,0,Z⟩=D (V (D ⟨gc,0,Z⟩)):=fun y=>(S1.out.B (EQ y)).IB;have y1: ∀y:Ext w1,(EC w1 y).cell? ⟨gc,56,Z⟩=D (E I c.tok.h):=fun y=>(S1.out.B (EQ y)).core.cell 1 rfl 0 XW;have y2: ∀y:Ext w1,(EC w1 y).cell? ⟨gk,0,Z⟩=D (E I h2):=fun y=>(gS.out _ _ (H.B KT.out (EQ y))).1;refine ZQ Ef Ef ?_;repeat (go_big_quiet_step (fail))
 refine I5 ?_;intro _ hw';obtain⟨y9,rfl⟩:=hw';have En:=EQ y9;replace KT:=EH KT En;replace S1:=J<|S1.out.B En;replace MM:=J<|MM.out.trans (EA.ED En);clear y0 y1 y2 En;generalize EC w1 y9=w2 at*;go_wp2_with fail;have y0: ∀y:Ext w2,(EC w2 y).cell? ⟨gs,0,Z⟩=D (V (D ⟨gc,0,Z⟩)):=fun y=>(S1.out.B (EQ y)).IB;refine Oa 7 Ef Ef ?_;simp only[Is,Iq,IT,IM]
 repeat (first
  |go_big_quiet_skip
  |(go_big_quiet_want
    first
     |(refine UV (T:=109) (g:=gk) EW _ rfl rfl KT ?_ ?_;(·exact TS.out);go_simp;go_big_quiet_on)
     |(go_big_quiet_op
       first
        |go_big_quiet_on
        |go_big_quiet_call (fail))))
 refine I5 ?_;intro _ hw';obtain⟨y9,rfl⟩:=hw';have En:=EQ y9;replace KT:=EH KT En;replace S1:=J<|S1.out.B En;replace MM:=J<|MM.out.trans (EA.ED En);clear y0 En;generalize EC w2 y9=w3 at*;have TH:=J<|db S1.out.core 1 rfl 8 XW;go_wp2_with ((with_reducible refine I3 109 ?_);(with_reducible refine Ux O 109 _ _ O gc 56 tv ?_ ?_ ?_ ?_ ?_ ?_);(·rfl);(·rfl);(·rw[TS.out];exact TH.out);(·rw[TS.out];exact EW.2);(·exact TO.out);refine Ex.mk ?_);apply Es;rw[ag.out];have S4:=S1.out.aN t (S1.out.core.ok.aN HT.out);obtain⟨d0,d1,d2,hd,KG,-⟩:=S1.out.core.Ek;replace KT:=J<|(JP (g:=gc) t.v 56 w3).Ek KT.out (E6 KT.out KG EU);replace S1:=J S4.1;replace MM:=J<|MM.out.trans S4.2;clear S4 TH KG;generalize w3.setCells gc 56 t.v=w4 at*;have z0:=S1.out.IB;have z64:w4.cell? ⟨gc,64,Z⟩=D (V (D ⟨gq,0,Z⟩)):=S1.out.core.cell 2 rfl 0 Ej;go_wp2_with fail;refine(qp lo gq c.q (pn g 48) h2 _ S1.out.core.lq S1.out.core.ZC S1.out.core.ok.q).mono ?_;rintro e5 w5 ⟨⟨b5,rfl⟩,⟨L',q5,sq⟩,m5⟩;replace KT:=J<|m5.Ek KT.out EU EU;replace S1:=J<|S1.out.gV m5 L' q5 (S1.out.core.ok.sub sq);replace MM:=J<|MM.out.trans (m5.jL hi);have SQ:=J sq;clear m5 q5 sq z0 z64;have c1:=(gS.out _ _ KT.out).2;go_wp2_with ((with_reducible refine Io 41 ?_);refine I4 O 222 _ O (JJ [134,0,0,h2,e2,0,0,0,0,0,0,0,0,0]) BR1 ?_);refine(DX lo hi g gc gq gt gs _ ns rs [134,0,0,h2,e2,0,0,0,0,0,0,0,0,0] c.tok.h _ S1.out (qj _ _ _ _ _ _) J_).mono ?_;rintro e6 w6 ⟨rfl,⟨m1,hm1,s6⟩,m6⟩;replace KT:=J<|m6.Ek KT.out EU EU;replace S1:=J s6;replace MM:=J<|MM.out.trans m6;have jS:=J hm1;clear m6 s6 hm1 c1;have c1:=(gS.out _ _ KT.out).2;go_wp2_with ((with_reducible refine Io 47 ?_);refine I4 O 222 _ O (JJ [133,0,0,0,e2,0,0,0,0,0,0,0,0,0]) BR2 ?_);refine(DX lo hi g gc gq gt gs _ (ns+m1) rs [133,0,0,0,e2,0,0,0,0,0,0,0,0,0] h2 _ S1.out (qj _ _ _ _ _ _) wR).mono ?_;rintro e7 w7 ⟨rfl,⟨m2,hm2,s7⟩,m7⟩;replace S1:=J s7;replace MM:=J<|MM.out.trans m7;have jT:=J hm2;clear m7 s7 hm2 c1 KT;go_wp2_with fail;refine(ZD lo hi g gc gq gt gs _ (ns+m1+m2) rs 8 h2 n 0 how _ S1.out JQ).mono ?_;rintro e8 w8 ⟨rfl,s8,m8⟩;have S8:=J s8;replace MM:=J<|MM.out.trans m8;clear m8 s8;go_wp2;go_end0;refine⟨O,⟨L',m1+m2,by have:=jS.out;have:=jT.out;omega,SQ.out,?_⟩,MM.out⟩;rw[he2.out,<-jx];exact S8.out
theorem Efp(h:t.ok)(s:Int):(t.drop s).1.ok:=by
 unfold EN.drop;split;·exact h
 ·exact⟨h.h,h.e,fS,fS,fS,h.la,h.lm,fS⟩
theorem Wh(lo hi:Nat)(g:Nat->Y)(gc gq gt gs:Nat)(c:Ey)(ns:Nat)(rs:List Rec)(s:Int)(w:M)(S:E9 lo hi g gc gq gt gs c ns rs w)(hn:ns<900000)(hl:rs.length<900000): Eg EZ 103 #[V (D ⟨gs,0,Z⟩),E I s] w fun e w'=>e=Ei (Eu #[])/\(∃L' m,m<=2/\UF L' c.q/\E9 lo hi g gc gq gt gs {c with tok:=(c.tok.drop s).1,q:=L'} (ns+m) (rs++if(c.tok.drop s).2 then [⟨12,s,0,c.tok.e,16,0⟩] else []) w')/\EA lo hi w w':=by
 have S1:=J S;have HN:=J hn;have HL:=J hl;have MM:=J<|EA.refl lo hi w;clear S hn hl;obtain⟨N,hN⟩:=Eo (if(c.tok.drop s).2 then [⟨12,s,0,c.tok.e,16,0⟩] else []:List Rec);rw[<-hN];replace hN:=J hN;have z0:=S1.out.IB;have z64:w.cell? ⟨gc,64,Z⟩=D (V (D ⟨gq,0,Z⟩)):=S1.out.core.cell 2 rfl 0 Ej;go_enter Tryz.func103,Tryz.ntmps103;go_wp2_with fail;refine(qp lo gq c.q (pn g 48) s _ S1.out.core.lq S1.out.core.ZC S1.out.core.ok.q).mono ?_;rintro e5 w5 ⟨⟨b5,rfl⟩,⟨L',q5,sq⟩,m5⟩;replace S1:=J<|S1.out.gV m5 L' q5 (S1.out.core.ok.sub sq);replace MM:=J<|MM.out.trans (m5.jL hi);have SQ:=J sq;clear m5 q5 sq z0 z64;have z0:=S1.out.IB;obtain⟨big,KB,O8⟩:=bK S1.out.core;have KB:=J KB;have EX:=J<|O8 1 c.tok.v O;have CD:=J<|fun W=>EO2 c.tok s W;obtain⟨Ip,Uq,Xf,TO0⟩:=ZH c.tok;have dR:Ed (big.extract 56 (56+8)=Ip):=J (by have e:=EX.out;have h:=Uq;unfold EN.a at h;injection h with h;rw[<-h];exact e);rw[Uq] at CD;have Xf:=J Xf;clear O8 EX Uq;go_wp2_with (with_reducible refine wM (off:=56) (cs:=Ip) EW KB ?_ (hn:=Xf.out) (he:=dR.out));refine(CD.out _).mono ?_;rintro e6 w6 ⟨rfl,b6⟩;replace S1:=J<|S1.out.B b6;replace MM:=J<|MM.out.trans (EA.ED b6);clear b6 z0 KB;have Wi:=J<|Efp S1.out.core.ok.tok s;have HD1:Ed ((c.tok.drop s).2=EI->(c.tok.drop s).1=c.tok):=J (by unfold EN.drop;split;exact fun _=>rfl;intro h;cases h);have Wj:Ed ((c.tok.drop s).1.e=c.tok.e):=J (by unfold EN.drop;split<;>rfl);obtain⟨t,ht⟩:=Eo ((c.tok.drop s).1);rw[<-ht] at Wi HD1 Wj⊢;have HT:=J ht;clear ht;obtain⟨tv,E2,TS,TO,ag,gS⟩: ∃tv,t.a=Ea tv/\Ed (tv.size=8)/\Ed (tv.all (·.oneCell')=EJ)/\Ed (tv.toList=t.v)/\Ed (∀W g,H W g tv 109->W.cell? ⟨g,0,Z⟩=D (E I t.h)/\W.cell? ⟨g,1,Z⟩=D (E I t.e)):=⟨_,O,J O,J (gj _ _ _ _ _ _ _ _),J O,J fun W g K=>⟨(H.cell K 0).trans O,(H.cell K 1).trans O⟩⟩;rw[E2];go_wp2_with (with_reducible refine fg 109 ?_);apply Es;generalize hW:Xo _ _=w7 at*;have KT:Ed (H w7 (w6.heap.size) #[E I 0,E I 0,E I 0,E I 0,E I 0,E I 0,E I 0,Ec EI] 109):=J (by subst hW;repeat (first|exact H.new _ _ _|exact H.new' _ _ _ Ej|refine H.alloc ?_ _));have b7:Ed (El w6 w7):=J Wl;clear hW;obtain⟨gk,ZK⟩:=Eo w6.heap.size;rw[<-ZK] at KT⊢;have LK:=J (show w6.heap.size<=gk from U);clear ZK;go_wp2_with (with_reducible refine wS (cs:=tv) EW KT (Ex.mk ?_) (hn:=TS.out) (h1:=TO.out));apply Es;replace KT:=J<|KT.out.setRow tv;replace b7:=J<|EY (g:=gk) b7.out LK.out tv;generalize w7.setRow gk tv=w8 at*;replace S1:=J<|S1.out.B b7.out;replace MM:=J<|MM.out.trans (EA.ED b7.out);clear b7 LK;cases hop:(c.tok.drop s).2 with
 |false=>
  have Dl:=J hop;clear hop;go_wp2_with fail;refine ET (UQ O _ _ _) O ?_;refine⟨O,⟨L',0,U,SQ.out,?_⟩,MM.out⟩;have e1:(c.tok.drop s).1=c.tok:=HT.out.symm.trans (HD1.out Dl.out);have eN:N=[]:=by rw[hN.out,Dl.out];rfl
  rw[e1,eN,dy];exact S1.out
 |true=>
  have Dl:=J hop;clear hop;go_wp2_with fail;have y0: ∀y:Ext w8,(EC w8 y).cell? ⟨gs,0,Z⟩=D (V (D ⟨gc,0,Z⟩)):=fun y=>(S1.out.B (EQ y)).IB;refine Oa 7 Ef Ef ?_;simp only[Is,Iq,IT,IM]
  repeat (first
   |go_big_quiet_skip
   |(go_big_quiet_want
     first
      |(refine UV (T:=109) (g:=gk) EW _ rfl rfl KT ?_ ?_;(·exact TS.out);go_simp;go_big_quiet_on)
      |(go_big_quiet_op
        first
         |go_big_quiet_on
         |go_big_quiet_call (fail))))
  refine I5 ?_;intro _ hw';obtain⟨y9,rfl⟩:=hw';have En:=EQ y9;replace KT:=EH KT En;replace S1:=J<|S1.out.B En;replace MM:=J<|MM.out.trans (EA.ED En);clear y0 En;generalize EC w8 y9=w9 at*;have TH:=J<|db S1.out.core 1 rfl 8 XW;go_wp2_with ((with_reducible refine I3 109 ?_);(with_reducible refine Ux O 109 _ _ O gc 56 tv ?_ ?_ ?_ ?_ ?_ ?_);(·rfl);(·rfl);(·rw[TS.out];exact TH.out);(·rw[TS.out];exact EW.2);(·exact TO.out);refine Ex.mk ?_);apply Es;rw[ag.out];have S4:=S1.out.aN t (S1.out.core.ok.aN Wi.out);obtain⟨d0,d1,d2,hd,KG,-⟩:=S1.out.core.Ek;replace KT:=J<|(JP (g:=gc) t.v 56 w9).Ek KT.out (E6 KT.out KG EU);replace S1:=J S4.1;replace MM:=J<|MM.out.trans S4.2;clear S4 TH KG;generalize w9.setCells gc 56 t.v=U8 at*;have c0:=(gS.out _ _ KT.out).1;go_wp2_with fail;refine(ql lo hi g gc gq gt gs _ ns rs t.h s 16 _ S1.out J_).mono ?_;rintro e11 fC ⟨rfl,⟨m1,hm1,s11⟩,m11⟩;replace S1:=J s11;replace MM:=J<|MM.out.trans m11;have jS:=J hm1;clear m11 s11 hm1 c0 KT;go_wp2_with fail;refine(ZD lo hi g gc gq gt gs _ (ns+m1) rs 12 s 0 16 0 _ S1.out JQ).mono ?_;rintro e12 UH ⟨rfl,s12,m12⟩;have S8:=J s12;replace MM:=J<|MM.out.trans m12;clear m12 s12;go_wp2;go_end0;refine⟨O,⟨L',m1,tF,SQ.out,?_⟩,MM.out⟩;have eN:N=[⟨12,s,0,t.e,16,0⟩]:=by rw[hN.out,Dl.out,Wj.out];rfl
  rw[<-HT.out,eN];exact S8.out
theorem Ey.ok.wP{c:Ey}(h:c.ok){m:Int}(hm:0<=m/\m<=4):({c with mode:=m}:Ey).ok:=⟨h.tok,h.T,h.q,h.ones,h.src,h.nd,h.iG,h.jD,hm,h.En,h.pt,h.Iu⟩
theorem Ey.ok.wQ{c:Ey}(h:c.ok){b:Xz}(hb:b.ok):({c with En:=b}:Ey).ok:=⟨h.tok,h.T,h.q,h.ones,h.src,h.nd,h.iG,h.jD,h.mode,hb,h.pt,h.Iu⟩
theorem Ey.ok.iN{c:Ey}(h:c.ok)(hp:p.ok):({c with pt:=p}:Ey).ok:=⟨h.tok,h.T,h.q,h.ones,h.src,h.nd,h.iG,h.jD,h.mode,h.En,hp,h.Iu⟩
def Pt.hold(p:Pt)(b:Xz):Pt:=⟨p.c,0,0,0,0,p.n0,p.n1,p.n2,p.n3,b⟩
theorem Pt.ok.hold(h:p.ok)(b:Xz):(p.hold b).ok:=⟨h.c,Dm,Dm,Dm,Dm,h.n0,h.n1,h.n2,h.n3⟩
theorem Dn(lo hi:Nat)(g:Nat->Y)(gc gq gt gs:Nat)(c:Ey)(ns:Nat)(rs:List Rec)(m:Int)(b:Xz)(w:M)(S:E9 lo hi g gc gq gt gs c ns rs w)(hm:0<=m/\m<=4)(hb:b.ok): Eg EZ 100 #[V (D ⟨gs,0,Z⟩),E I m,Ea #[E I b.r,E I b.s,E I b.q]] w fun e w'=>e=Ei (Eu #[])/\E9 lo hi g gc gq gt gs {c with mode:=m,En:=b,pt:=c.pt.hold b} ns rs w'/\EA lo hi w w':=by
 have lD:=J S;have HM:=J hm;have HB:=J hb;have KL:=J<|H.new w #[E I b.r,E I b.s,E I b.q] 36;have b1:=Er w (Eb #[E I b.r,E I b.s,E I b.q] 36);have S1:=J<|lD.out.B b1;have MM:=J<|EA.ED (lo:=lo) (hi:=hi) b1;have CH:Ed (∀W,Eg EZ 144 #[Ea c.pt.v.toArray,Ea #[E I b.r,E I b.s,E I b.q]] W fun e w'=>e=Ei (Ea (c.pt.hold b).v.toArray)/\El W w'):=J<|fun W=>Efm c.pt.c c.pt.a0 c.pt.a1 c.pt.a2 c.pt.a3 c.pt.n0 c.pt.n1 c.pt.n2 c.pt.n3 c.pt.b.r c.pt.b.s c.pt.b.q b.r b.s b.q W;clear S hm hb;go_enter Tryz.func100,Tryz.ntmps100;go_wp2_with (with_reducible refine JE 9 ?_);apply Es;clear b1;generalize w.alloc (Eb #[E I b.r,E I b.s,E I b.q] 36)=w1 at*;obtain⟨gl,hgl⟩:=Eo w.heap.size;rw[<-hgl] at KL⊢;clear hgl;have z0:=S1.out.IB;have zm:w1.cell? ⟨gc,98,Z⟩=D (E I c.mode):=S1.out.core.cell 9 rfl 0 Ej;have zf:=tD S1.out.core 98;go_wp2_with fail;have S4:=S1.out.wP m (S1.out.core.ok.wP HM.out);obtain⟨d0,d1,d2,hd,KG,-⟩:=S1.out.core.Ek;replace KL:Ed (H (w1.setCell ⟨gc,98,Z⟩ (E I m)) gl #[E I b.r,E I b.s,E I b.q] 36):=J<|(JS (g:=gc) (W:=w1) 98 (E I m)).Ek KL.out (E6 KL.out KG EU);replace S1:Ed (E9 lo hi g gc gq gt gs {c with mode:=m} ns rs (w1.setCell ⟨gc,98,Z⟩ (E I m))):=J S4.1;replace MM:Ed (EA lo hi w (w1.setCell ⟨gc,98,Z⟩ (E I m))):=J<|MM.out.trans S4.2;clear S4 z0 zm zf KG;generalize w1.setCell ⟨gc,98,Z⟩ (E I m)=w2 at*;have y0: ∀y:Ext w2,(EC w2 y).cell? ⟨gs,0,Z⟩=D (V (D ⟨gc,0,Z⟩)):=fun y=>(S1.out.B (EQ y)).IB;refine Oa 7 Ef Ef ?_;simp only[Is,Iq,IT,IM]
 repeat (first
  |go_big_quiet_skip
  |(go_big_quiet_want
    first
     |(refine UV (T:=36) (g:=gl) fR _ rfl rfl KL ?_ ?_;(·rfl);go_simp;go_big_quiet_on)
     |(go_big_quiet_op
       first
        |go_big_quiet_on
        |go_big_quiet_call (fail))))
 refine I5 ?_;intro _ hw';obtain⟨y9,rfl⟩:=hw';have En:=EQ y9;replace KL:=EH KL En;replace S1:=J<|S1.out.B En;replace MM:=J<|MM.out.trans (EA.ED En);clear y0 En;generalize EC w2 y9=w3 at*;have TH:=J<|db S1.out.core 10 rfl 3 (by simp[Xz.v]);go_wp2_with ((with_reducible refine I3 36 ?_);(with_reducible refine Ux O 36 _ _ O gc 99 #[E I b.r,E I b.s,E I b.q] ?_ ?_ ?_ ?_ ?_ ?_);(·rfl);(·rfl);(·exact TH.out);(·exact fR.2);(·simp[Oc]);refine Ex.mk ?_);apply Es;have S4:=S1.out.wQ b (S1.out.core.ok.wQ HB.out);obtain⟨d0,d1,d2,hd,KG,-⟩:=S1.out.core.Ek;replace KL:Ed (H (w3.setCells gc 99 b.v) gl #[E I b.r,E I b.s,E I b.q] 36):=J<|(JP (g:=gc) b.v 99 w3).Ek KL.out (E6 KL.out KG EU);replace S1:=J S4.1;replace MM:=J<|MM.out.trans S4.2;clear S4 TH KG;change Ib _ _ _ _ _ (w3.setCells gc 99 b.v);generalize w3.setCells gc 99 b.v=w4 at*;go_wp2_with fail;obtain⟨d0,d1,d2,hd,KG,o0,o1,o2,-,-⟩:=S1.out.core.Ek;have HF:=J<|Oo (c:={c with mode:=m,En:=b}) (gq:=gq) (gt:=gt) (hd:=hd) (JC g) o0 o1 o2 11 U;have KG:=J KG;clear o0 o1 o2;have y0: ∀y:Ext w4,(EC w4 y).cell? ⟨gs,0,Z⟩=D (V (D ⟨gc,0,Z⟩)):=fun y=>(S1.out.B (EQ y)).IB;refine Oa 15 Ef Ef ?_;simp only[Is,Iq,IT,IM]
 repeat (first
  |go_big_quiet_skip
  |(go_big_quiet_want
    first
     |(refine UV (T:=36) (g:=gl) fR _ rfl rfl KL ?_ ?_;(·rfl);go_simp;go_big_quiet_on)
     |(refine Zf (T:=50) (g:=gc) (off:=102) iP _ rfl rfl KG 11 rfl HF.out rfl ?_;go_simp;go_big_quiet_on)
     |(go_big_quiet_op
       first
        |go_big_quiet_on
        |go_big_quiet_call (with_reducible refine ao (CH.out _)))))
 refine I5 ?_;intro _ hw';obtain⟨y9,rfl⟩:=hw';have En:=EQ y9;replace KL:=EH KL En;replace S1:=J<|S1.out.B En;replace MM:=J<|MM.out.trans (EA.ED En);clear y0 En KG HF;generalize EC w4 y9=w5 at*;have TH:=J<|db S1.out.core 11 rfl 12 wT;have iQ:=J<|S1.out.core.ok.pt.hold b;go_wp2_with ((with_reducible refine I3 50 ?_);(with_reducible refine Ux O 50 _ _ O gc 102 (c.pt.hold b).v.toArray ?_ ?_ ?_ ?_ ?_ ?_);(·rfl);(·rfl);(·exact TH.out);(·exact iP.2);(·simp[Pt.v,Oc]);refine Ex.mk ?_);apply Es;have S4:=S1.out.iN (c.pt.hold b) (S1.out.core.ok.iN iQ.out);replace S1:=J S4.1;replace MM:=J<|MM.out.trans S4.2;clear S4 TH;change Ib _ _ _ _ _ (w5.setCells gc 102 (c.pt.hold b).v);generalize w5.setCells gc 102 (c.pt.hold b).v=w6 at*;go_wp2;go_end0;exact⟨O,S1.out,MM.out⟩
def EK.iR(T:EK)(s:Int):EK:=if s=1\/s=2\/s=3 then(if(T.E4 (s-1).toNat).on then T.put (s-1).toNat U6 else T) else T
theorem EK.Efq{T:EK}(h:T.ok)(s:Int):(T.iR s).ok:=by
 unfold EK.iR;split
 ·split;·exact h.put _ uK
  ·exact h
 ·exact h
theorem EK.Efr{T:EK}(h:T.Xb)(s:Int):(T.iR s).Xb:=by
 unfold EK.iR;split
 ·split;·exact h.put _ ⟨EU,EU,EU,EU⟩
  ·exact h
 ·exact h
theorem Efs{T:EK}{e:Ud}(h:vE T gt s w e w'):(∃b,e=Ei (Ec b))/\Iv w' gt (T.iR s)/\E7 gt w w':=by
 unfold vE at h;unfold EK.iR;obtain⟨h1,h2⟩:=h;split at h1
 ·rename_i h3;rw[if_pos h3];split at h1;·rename_i h4;rw[if_pos h4];exact⟨⟨_,h1.1⟩,h1.2,h2⟩
  ·rename_i h4;rw[if_neg h4];exact⟨⟨_,h1.1⟩,h1.2,h2⟩
 ·rename_i h3;rw[if_neg h3];exact⟨⟨_,h1.1⟩,h1.2,h2⟩
theorem Ey.ok.wV{c:Ey}(h:c.ok){T:EK}(hT:T.ok)(hb:T.Xb):({c with T:=T}:Ey).ok:=⟨h.tok,hT,h.q,h.ones,h.src,h.nd,h.iG,h.jD,h.mode,h.En,h.pt,hb⟩
theorem E9.wW{g:Nat->Y}{c:Ey}(S:E9 lo hi g gc gq gt gs c ns rs W)(ho:E7 gt W W')(T:EK)(k:Iv W' gt T)(hok:({c with T:=T}:Ey).ok):E9 lo hi g gc gq gt gs {c with T:=T} ns rs W'/\EA lo hi W W':=by
 obtain⟨d0,d1,d2,hd,kg,r⟩:=S.core.Ek;obtain⟨sv,rv,sc,ks,r1,r2⟩:=S.fH;obtain⟨v,came,k2,q2,q3⟩:=S.core.ZC;have kt:H W gt c.T.v.toArray 163:=S.core.tab;have hl:=ho.bel lo S.core.lt (Ew S.core.lt (aH kt.lt));refine⟨⟨⟨S.core.lo2,S.core.XV,hok,S.core.lc,S.core.lq,S.core.lt,⟨d0,d1,d2,hd,ho.Ek kg (E6 kg kt EU),r⟩,k,⟨v,came,ho.Ek k2 (E6 k2 kt EU),q2,EG q3 fun _ _ hk=>ho.Ek hk (E6 hk kt EU)⟩,fun i h1 h2=>(S.core.keys i h1 h2).Ek fun _ _ hk=>ho.Ek hk (E6 hk kt EU),fun i hi=> ?_,fun i hi=> ?_⟩,S.hc,S.hq,S.ht,S.dO,S.his,sv,rv,sc,ho.Ek ks (E6 ks kt EU),EG r1 fun _ _ hk=>ho.Ek hk (E6 hk kt EU),EG r2 fun _ _ hk=>ho.Ek hk (E6 hk kt EU)⟩,EA.vV ho kt k EU S.core.lt⟩;·rw[hl.cell (p:=⟨0,i,Z⟩) (by have:=S.core.lo2;simp;omega)];exact S.core.roots i hi
 ·rw[hl.cell (p:=⟨1,i,Z⟩) (by have:=S.core.lo2;simp;omega)];exact S.core.cmds i hi
theorem X_(K:H W gm (EF l) 183)(i:Nat)(h:i<12)(h7:i≠7):W.cell? ⟨gm,i,Z⟩=D (E I (l.getD i 0)):=by rw[H.cell K,Zq l i h,if_neg h7]
theorem Eft(lo hi:Nat)(g:Nat->Y)(gc gq gt gs:Nat)(c:Ey)(ns:Nat)(rs:List Rec)(l:List Int)(k:Int)(w:M)(S:E9 lo hi g gc gq gt gs c ns rs w)(hn:ns<800000)(hl:rs.length<800000): Eg EZ 128 #[V (D ⟨gs,0,Z⟩),E I k,Ea (EF l)] w fun e w'=>e=Ei (Eu #[])/\E9 lo hi g gc gq gt gs c (ns+1) rs w'/\EA lo hi w w':=by
 have S0:=J S;have HN:=J hn;have HL:=J hl;have KM:=J<|H.new w (EF l) 183;have b1:=Er w (Eb (EF l) 183);have S1:=J<|S0.out.B b1;have MM:=J<|EA.ED (lo:=lo) (hi:=hi) b1;obtain⟨v1,hv1⟩:=Eo (l.getD 1 0);have Of:Ed (∀W g,H W g (EF l) 183->W.cell? ⟨g,1,Z⟩=D (E I v1)):=J (fun W g K=>by rw[hv1];exact X_ K 1 U U);try rw[<-hv1]
 replace hv1:=J hv1;clear S hn hl S0;obtain⟨mv,hmv⟩:=Eo (EF l);rw[<-hmv] at KM b1 S1 MM Of⊢;clear hmv;go_enter Tryz.func128,Tryz.ntmps128;go_wp2_with (with_reducible refine JE 9 ?_);apply Es;clear b1;generalize w.alloc (Eb mv 183)=w1 at*;obtain⟨gm,hgm⟩:=Eo w.heap.size;rw[<-hgm] at KM⊢;clear hgm;have c1:=Of.out _ _ KM.out;go_wp2_with fail;refine(jH lo hi g gc gq gt gs c ns rs k v1 _ S1.out J_).mono ?_;rintro e2 w2 ⟨rfl,s2,m2⟩;go_wp2;go_end0;exact⟨O,s2,MM.out.trans m2⟩
theorem Efu(lo hi:Nat)(g:Nat->Y)(gc gq gt gs:Nat)(c:Ey)(ns:Nat)(rs:List Rec)(l:List Int)(k:Int)(w:M)(S:E9 lo hi g gc gq gt gs c ns rs w)(hn:ns<800000)(hl:rs.length<800000): Eg EZ 129 #[V (D ⟨gs,0,Z⟩),E I k,Ea (EF l)] w fun e w'=>e=Ei (Eu #[])/\(∃L' m,m<=3/\UF L' c.q/\E9 lo hi g gc gq gt gs {c with T:=c.T.iR k,tok:=(c.tok.drop k).1,q:=L'} (ns+m) ((rs++if(c.tok.drop k).2 then [⟨12,k,0,c.tok.e,16,0⟩] else [])++[⟨4,k,l.getD 1 0,(c.tok.drop k).1.e,0,0⟩]) w')/\EA lo hi w w':=by
 obtain⟨N,hN⟩:=Eo (if(c.tok.drop k).2 then [⟨12,k,0,c.tok.e,16,0⟩] else []:List Rec);rw[<-hN];replace hN:=J hN;have jF:=J (show N.length<=1 by rw[hN.out];split<;>simp);have S0:=J S;have HN:=J hn;have HL:=J hl;have KM:=J<|H.new w (EF l) 183;have b1:=Er w (Eb (EF l) 183);have S1:=J<|S0.out.B b1;have MM:=J<|EA.ED (lo:=lo) (hi:=hi) b1;obtain⟨v1,hv1⟩:=Eo (l.getD 1 0);have Of:Ed (∀W g,H W g (EF l) 183->W.cell? ⟨g,1,Z⟩=D (E I v1)):=J (fun W g K=>by rw[hv1];exact X_ K 1 U U);try rw[<-hv1]
 replace hv1:=J hv1;clear S hn hl S0;obtain⟨mv,hmv⟩:=Eo (EF l);rw[<-hmv] at KM b1 S1 MM Of⊢;clear hmv;go_enter Tryz.func129,Tryz.ntmps129;go_wp2_with (with_reducible refine JE 9 ?_);apply Es;clear b1;generalize w.alloc (Eb mv 183)=w1 at*;obtain⟨gm,hgm⟩:=Eo w.heap.size;rw[<-hgm] at KM⊢;clear hgm;have z0:=S1.out.IB;have U2:w1.cell? ⟨gc,95,Z⟩=D (V (D ⟨gt,0,Z⟩)):=S1.out.core.cell 6 rfl 0 Ej;go_wp2_with fail;refine(EXo gt c.T k _ S1.out.core.tab S1.out.core.ok.T).mono ?_;intro e2 w2 h2;obtain⟨⟨b2,rfl⟩,Wm,o2⟩:=Efs h2;have hS:=S1.out.wW o2 (c.T.iR k) Wm (S1.out.core.ok.wV (EK.Efq S1.out.core.ok.T k) (EK.Efr S1.out.core.ok.Iu _));replace KM:=J<|o2.Ek KM.out (E6 KM.out S1.out.core.tab EU);replace S1:=J hS.1;replace MM:=J<|MM.out.trans hS.2;clear h2 hS Wm o2 z0 U2;go_wp2_with fail;refine(Wh lo hi g gc gq gt gs _ ns rs k _ S1.out J_ JQ).mono ?_;rintro e3 w3 ⟨rfl,⟨L',m3,oE,sq,s3⟩,qG⟩;rw[show(if(c.tok.drop k).2=EJ then [(⟨12,k,0,c.tok.e,16,0⟩:Rec)] else [])=N from hN.out.symm] at s3;replace KM:=J<|qG.Ek KM.out EU EU;replace S1:=J s3;replace MM:=J<|MM.out.trans qG;have SQ:=J sq;have qH:=J oE;clear s3 qG sq oE;have c1:=Of.out _ _ KM.out;go_wp2_with fail;refine(ZD lo hi g gc gq gt gs _ (ns+m3) _ 4 k v1 0 0 _ S1.out (by have:=HL.out;have:=jF.out;rw[IY];omega)).mono ?_;rintro e4 w4 ⟨rfl,s4,m4⟩;replace KM:=J<|m4.Ek KM.out EU EU;replace S1:=J s4;replace MM:=J<|MM.out.trans m4;clear s4 m4 c1;have c1:=Of.out _ _ KM.out;go_wp2_with fail;refine(jH lo hi g gc gq gt gs _ (ns+m3) _ k v1 _ S1.out (by have:=HN.out;have:=qH.out;omega)).mono ?_;rintro e5 w5 ⟨rfl,s5,m5⟩;have S5:=J s5;replace MM:=J<|MM.out.trans m5;clear s5 m5;go_wp2;go_end0;exact⟨O,⟨L',m3+1,by have:=qH.out;omega,SQ.out,S5.out⟩,MM.out⟩
section
variable{P:Program}{Q:Exit->Act->World->Prop}
inductive bL(Rel Iw:M->M->Prop) where
 |val (p:Y->Prop)
 |dep (s:Y->M->Prop) (h1: ∀v w w',s v w->Rel w w'->s v w') (h2: ∀v w w',s v w->Iw w w'->s v w')
 |late (s:Y->M->Prop) (h1: ∀v w w',s v w->Rel w w'->s v w')
 |tie (ds:List Nat) (s:(Nat->Y)->M->Prop) (h1: ∀x w w',s x w->Rel w w'->s x w') (hx: ∀x y w,(∀k∈ds,x k=y k)->s x w->s y w)
 |tied (ds:List Nat) (s:(Nat->Y)->M->Prop) (h1: ∀x w w',s x w->Rel w w'->s x w') (h2: ∀x w w',s x w->Iw w w'->s x w') (hx: ∀x y w,(∀k∈ds,x k=y k)->s x w->s y w)
 |bM (ds:List Nat) (s:(Nat->Y)->Prop) (hx: ∀x y,(∀k∈ds,x k=y k)->s x->s y)
instance{Rel Iw}(x):CoeDep KQ (KQ.kq x) (bL Rel Iw):=⟨.val fun v=>v=x⟩
instance{Rel Iw}(g i):CoeDep KQ (KQ.kp g i) (bL Rel Iw):=⟨.val fun v=>v=V (D ⟨g,i,Z⟩)⟩
def bL.nj{Rel Iw:M->M->Prop}:bL Rel Iw->Bool
 | .late _ _=>EJ
 | .tie _ _ _ _=>EJ
 |_=>EI
def bL.ds{Rel Iw:M->M->Prop}:bL Rel Iw->List Nat
 | .tie ds _ _ _=>ds
 | .tied ds _ _ _ _=>ds
 | .bM ds _ _=>ds
 |_=>[]
def RT{Rel Iw:M->M->Prop}(K:Nat->bL Rel Iw)(i:Nat)(x:Nat->Y)(w:M):Prop:=match K i with
 | .val p=>p (x i)
 | .dep s _ _=>s (x i) w
 | .late s _=>s (x i) w
 | .tie _ s _ _=>s x w
 | .tied _ s _ _ _=>s x w
 | .bM _ s _=>s x
def kT{Rel Iw:M->M->Prop}(Ks:List (bL Rel Iw))(i:Nat):bL Rel Iw:=Ks.getD i (.val fun _=>True)
def Efv(ops:Array EP)(lP:List (List Nat)):Bool:=(U4 lP.length).all fun i=>(lP.getD i []).all fun k=>decide (k=i)||(match ops[i]? with|some o=>o.after.toList.any (fun e=>UN .any e&&e.on==k)|none=>false)
theorem Efw{Rel Iw:M->M->Prop}{Ks:List (bL Rel Iw)}{tags:List Bool}(h:Ks.map bL.nj=tags)(i:Nat)(hl:(kT Ks i).nj=EJ):i<tags.length/\tags.getD i EI=EJ:=by
 subst h;unfold kT at hl;by_cases hi:i<Ks.length;·exact Ep3
 ·rw[OE,bJ U] at hl;cases hl
theorem MZ{Rel Iw:M->M->Prop}{Ks:List (bL Rel Iw)}{lP:List (List Nat)}(h:Ks.map bL.ds=lP)(i:Nat)(k:Nat)(hk:k∈(kT Ks i).ds):i<lP.length/\k∈lP.getD i []:=by
 subst h;unfold kT at hk;by_cases hi:i<Ks.length;·refine⟨U5,?_⟩;simp only[OE,List.getElem?_map,JV hi,kj,Option.getD_some] at hk⊢;exact hk
 ·rw[OE,bJ U] at hk;cases hk
theorem iS{Ph:Nat->M->Prop}{Rel Iw:M->M->Prop}{id:Nat}{l:List EP}{a0:E_}{w0:M}(Ks:List (bL Rel Iw))(tags:List Bool)(htag:Ks.map bL.nj=tags)(lP:List (List Nat))(hds:Ks.map bL.ds=lP)(cs:List Nat)(ks:List (Nat×Nat))(hm:P.follows .mixedOrders=EJ)(hB:nZ l.toArray=EJ)(hK:kK l.toArray cs ks=EJ)(hlt:Qw l.toArray cs tags=EJ)(htie:Efv l.toArray lP=EJ)(hlk:(ks.all fun p=>decide (p.1<=cs.length))=EJ)(hnd:(Ub l).Nodup) (hcg:(cs.all fun c=>match l[c]? with|some o=>o.guard.isNone|none=>false)=EJ) (hPh: ∀b w w',Ph b w->Rel w w'->Ph b w') (h0:Ph 0 w0.drew) (hstep:ib Ph Rel Iw P l.toArray Q (fun x=>EM l 0 x a0) (RT (kT Ks)) cs 0 l ks) (hend: ∀x w,Ph cs.length w->(∀i,i<l.length->RT (kT Ks) i x w)->Ib P l.toArray Q [] (EM l 0 x a0) w):(bU id l.toArray EJ).wp P Q a0 w0:=by
 refine z4 cs ks hm hB hK hlk hnd (RT (kT Ks)) hcg hPh ?_ ?_ ?_ h0 hstep hend
 ·intro i x w w' _ h hr;unfold RT at*;split at h;·exact h
  ·rename_i s h1 h2 _;exact Eq1
  ·rename_i s h1 _;exact Eq1
  ·rename_i ds s h1 hx _;exact Eq1
  ·rename_i ds s h1 h2 hx _;exact Eq1
  ·exact h
 ·intro i x w w' c hi hc hne hrb h hr;have nl:(kT Ks i).nj=true->False:=fun he=>by obtain⟨h3,h4⟩:=Efw htag i he;have h5:=Xw.1 hlt i (bX.2 h3);rw[h4] at h5;simp only[Bool.not_true,Bool.false_or] at h5;have h6:=Xw.1 h5 c hc;rw[hrb] at h6;simp at h6;exact hne h6
  unfold RT at*;split at h;·exact h
  ·rename_i s h1 h2 _;exact h2 _ _ _ h hr
  ·rename_i s h1 he;exact(nl ng).elim
  ·rename_i ds s h1 hx he;exact(nl ng).elim
  ·rename_i ds s h1 h2 hx _;exact h2 _ _ _ h hr
  ·exact h
 ·intro i x y w _ hq h;unfold RT at*;split at h;·rw[hq i (.inl rfl)] at h;exact h
  ·exact Eq8
  ·exact Eq8
  ·rename_i ds s h1 hx he;refine hx x y w (fun k hk=>hq k ?_) h;obtain⟨h3,h4⟩:=MZ hds i k Ma;have h5:=Xw.1 htie i (bX.2 h3);have h6:=Xw.1 h5 k h4;simp only[nJ,decide_eq_true_eq] at h6;rcases h6 with h6|h6;·exact .inl h6
   ·exact .inr (uP h6)
  ·rename_i ds s h1 h2 hx he;refine hx x y w (fun k hk=>hq k ?_) h;obtain⟨h3,h4⟩:=MZ hds i k Ma;have h5:=Xw.1 htie i (bX.2 h3);have h6:=Xw.1 h5 k h4;simp only[nJ,decide_eq_true_eq] at h6;rcases h6 with h6|h6;·exact .inl h6
   ·exact .inr (uP h6)
  ·rename_i ds s hx he;refine hx x y (fun k hk=>hq k ?_) h;obtain⟨h3,h4⟩:=MZ hds i k Ma;have h5:=Xw.1 htie i (bX.2 h3);have h6:=Xw.1 h5 k h4;simp only[nJ,decide_eq_true_eq] at h6;rcases h6 with h6|h6;·exact .inl h6
   ·exact .inr (uP h6)
end
def lQ(w w':M):Prop:= ∀b c,H w b c 109->c.size=8-> ∃c':Array Y,c'.size=8/\H w' b c' 109
theorem tG{c:Array Y}(_:H w b c 109)(hs:cs.size=8):lQ w (w.setRow b cs):=fun k d h h8=>by
 by_cases e:k=b;·subst e;exact⟨cs,hs,h.setRow cs⟩
 ·exact⟨d,h8,H.setRow_other h b cs e⟩
def ah(n0:Nat)(v:Y)(w:M):Prop:= ∃(b:Nat) (c:Array Y),v=V (D ⟨b,0,Z⟩)/\n0<=b/\c.size=8/\H w b c 109
theorem ah.B(h:ah n0 v w)(hb:El w w'):ah n0 v w':=by exact EqK
theorem ah.iT(h:ah n0 v w)(hb:lQ w w'):ah n0 v w':=by obtain⟨b,c,h1,h2,h3,h4⟩:=h;obtain⟨c',h5,h6⟩:=hb b c h4 h3;exact⟨b,c',h1,h2,h5,h6⟩
theorem E9.only{g:Nat->Y}{c:Ey}(S:E9 lo hi g gc gq gt gs c ns rs W)(ho:E7 b W W')(K:H W b d 109)(h1:lo<=b):E9 lo hi g gc gq gt gs c ns rs W':=by obtain⟨sv,rv,sc,ks,r1,r2⟩:=S.fH;have kp: ∀k cs T,T≠109->H W k cs T->H W' k cs T:=fun k cs T hT hb=>ho.Ek hb (E6 hb K hT);exact⟨S.core.via (fun k cs T hT hb=>kp k cs T (by intro e;subst e;revert hT;decide) hb) (ho.bel lo h1 LH),S.hc,S.hq,S.ht,S.dO,S.his,sv,rv,sc,kp _ _ _ EU ks,EG r1 fun _ _ hk=>kp _ _ _ EU hk,EG r2 fun _ _ hk=>kp _ _ _ EU hk⟩
theorem EA.only(m:EA lo hi w W)(ho:E7 b W W')(h1:w.heap.size<=b)(h2:hi<=b)(h3:b<W.heap.size):EA lo hi w W':=by
 have bb:=ho.bel 0 (aO _) (aO _);refine⟨bb.os.trans m.os,bb.tape.trans m.tape,bb.output.trans m.output,Ew m.size ho.size,fun k hk hl hm=>(ho.keep k U U).trans (m.low k hk hl hm),fun k c T hb hm=> ?_,fun k c T hb=> ?_,fun k c T p hk hb=> ?_⟩;·exact ho.Ek (m.high k c T hb hm) Dc
 ·obtain⟨c',hc⟩:=m.stay k c T hb;exact⟨c',ho.Ek hc Dc⟩
 ·obtain⟨c',p',hc⟩:=m.Cw k c T p hk hb;exact⟨c',p',(ho.keep k U U).trans hc⟩
theorem lR:Od EZ 109 #[E I 0,E I 0,E I 0,E I 0,E I 0,E I 0,E I 0,Ec EI]:=by exact En5
theorem Efx(h:t.ok)(k e:Int)(hr:t.accept k e=(t2,0)):0<=t.o/\t.o=k/\t.Uj k=(t2,0):=by
 unfold EN.accept at hr;split at hr;·simp at hr
 ·split at hr;·simp at hr
  ·rename_i h1 h2;exact⟨U,U,hr⟩
theorem Mb(h:t.ok){e:Int}(hs:0<=s/\s<=4)(he:0<=e/\e<=65535):(t.pass s e).ok:=⟨hs,he,tH,tH,tH,tH,tH,tH⟩
theorem gW(h:t.ok)(hr:t.Uj s=(t2,0)):t2.ok/\t2.e=t.e+1/\t2.h=s/\t2.o= -1:=by obtain⟨h1,h2,h3,h4,rfl⟩:=L9 hr;exact⟨Mb h ⟨h1,U⟩ ⟨by have:=h.e;omega,U⟩,O,O,O⟩
theorem Efy(lo hi:Nat)(g:Nat->Y)(gc gq gt gs:Nat)(c:Ey)(ns:Nat)(rs:List Rec)(l:List Int)(k:Int)(w:M)(S:E9 lo hi g gc gq gt gs c ns rs w)(hn:ns<800000)(hl:rs.length<800000): Eg EZ 132 #[V (D ⟨gs,0,Z⟩),E I k,Ea (EF l)] w fun e w'=>e=Ei (Eu #[])/\(∃c' m new,m<=3/\E9 lo hi g gc gq gt gs c' (ns+m) (rs++new) w'/\((∃cd,c'=c/\new=[⟨7,k,l.getD 1 0,c.tok.e,cd,0⟩])\/(∃t2 L',c.tok.Uj k=(t2,0)/\UF L' c.q/\c'={c with tok:=t2,q:=L'}/\new=[⟨8,t2.h,l.getD 1 0,t2.e,0,1⟩])))/\EA lo hi w w':=by
 have ZL:=fun W e=>EUD c.tok k e W Do;obtain⟨Ip,Uq,Xf,ZE⟩: ∃Ip,c.tok.a=Ea Ip/\Ed (Ip.size=8)/\Ed (c.tok.v.toArray=Ip):=⟨_,O,J O,J O⟩;have S0:=J S;have HN:=J hn;have HL:=J hl;have KM:=J<|H.new w (EF l) 183;have b1:=Er w (Eb (EF l) 183);have S1:=J<|S0.out.B b1;have MM:=J<|EA.ED (lo:=lo) (hi:=hi) b1;obtain⟨v1,hv1⟩:=Eo (l.getD 1 0);have Of:Ed (∀W g,H W g (EF l) 183->W.cell? ⟨g,1,Z⟩=D (E I v1)):=J (fun W g K=>by rw[hv1];exact X_ K 1 U U);try rw[<-hv1]
 replace hv1:=J hv1;obtain⟨v4,hv4⟩:=Eo (l.getD 4 0);have Wn:Ed (∀W g,H W g (EF l) 183->W.cell? ⟨g,4,Z⟩=D (E I v4)):=J (fun W g K=>by rw[hv4];exact X_ K 4 U U);try rw[<-hv4]
 replace hv4:=J hv4;clear S hn hl S0;obtain⟨mv,hmv⟩:=Eo (EF l);rw[<-hmv] at KM b1 S1 MM Of Wn⊢;clear hmv;cases hr:c.tok.accept k v4 with|mk t2 cd=>
 obtain⟨rv,IH,RS,RO⟩:=ZH t2;have RS:=J RS;have RO:=J RO;have Up:=J IH;have HR:=J hr;have CA:Ed (∀W,Eg EZ 179 #[Ea Ip,E I k,E I v4] W fun x w'=>x=Ei (Eu #[Ea rv,E I cd])/\El W w'):=J (fun W=>by have h:=ZL W v4;rw[hr,Uq] at h;rw[<-IH];exact h);clear hr IH ZL Uq;go_enter Tryz.func132,Tryz.ntmps132;go_wp2_with fail;clear b1;generalize w.alloc (Eb mv 183)=w1 at*;obtain⟨gm,hgm⟩:=Eo w.heap.size;rw[<-hgm] at KM⊢;clear hgm;obtain⟨n0,hn0⟩:=Eo w1.heap.size;have Xt:=J (show lo<=n0/\hi<=n0/\w.heap.size<=n0 from oI);refine iS (Ph:=fun _ wq=>(E9 lo hi g gc gq gt gs c ns rs wq/\EA lo hi w wq/\H wq gm mv 183/\n0<=wq.heap.size)) (Rel:=J0) (Iw:=lQ) [kp gs 0,kp gs 0,kp gs 0,kp gc 0,kp gc 0,kp gc 56,kq (Ea Ip),kq (E I k),kp gm 4,kq (E I v4),kq (Eu #[Ea rv,E I cd]),kq (Eu #[Ea rv,E I cd]),kq (Ea rv),kq (E I cd),.dep (ah n0) (fun v w w' h hr=>h.B hr) (fun v w w' h hr=>h.iT hr),.tie [14] (fun x w=> ∃b:Nat,x 14=V (D ⟨b,0,Z⟩)/\n0<=b/\H w b rv 109) (fun x w w' h hr=>qK) (fun x y w hq h=>by rw[hq 14 Ej] at h;exact h),kq (E I cd)] [EI,EI,EI,EI,EI,EI,EI,EI,EI,EI,EI,EI,EI,EI,EI,EJ,EI] O [[],[],[],[],[],[],[],[],[],[],[],[],[],[],[],[14],[]] O [15] [(0,0),(0,0),(0,0),(0,0),(0,0),(0,0),(0,0),(0,0),(0,0),(0,0),(0,0),(0,0),(0,0),(0,1),(0,0),(0,0),(1,1)] Ef Ef Ef Ef Ef Ef UP Ef ?hPh ?h0 ?hstep ?hend;case hPh=> intro p w2 w3 h hr;exact⟨h.1.B hr,h.2.1.trans (EA.ED hr),H.B h.2.2.1 hr,Ew h.2.2.2 (XE hr)⟩
 case h0=> exact EpS
 case hstep=>
  refine⟨?_,?_,?_,?_,?_,?_,?_,?_,?_,?_,?_,?_,?_,?_,?_,?_,?_,trivial⟩;all_goals first|intro xv wq p hlo hhi hp hd|intro xv wq hp hd
  all_goals simp only[EM,Ih,Ik,Ic,If]
  ·exact Enx
  ·exact EnP
  ·exact EnN
  ·exact EpO
  ·exact EnM
  ·exact En6
  ·obtain rfl:p=0:=U;have d5:xv 5=V (D ⟨gc,56,Z⟩):=hd.at 5 rfl;obtain⟨big,KB,O8⟩:=bK hp.1.core;exact Eov
  ·exact Enx
  ·exact Enx
  ·obtain rfl:p=0:=U;have d8:xv 8=V (D ⟨gm,4,Z⟩):=hd.at 8 rfl;have cc:wq.cell? ⟨gm,4,Z⟩=D (E I v4):=Wn.out _ _ hp.2.2.1;exact Et Dp O
  ·obtain rfl:p=0:=U;have d6:xv 6=Ea Ip:=hd.at 6 rfl;have d7:xv 7=E I k:=hd.at 7 rfl;have d9:xv 9=E I v4:=hd.at 9 rfl;refine JL (f:=179) (args:= #[xv 6,xv 7,xv 9]) (Eh O) Ez ?_;rw[d6,d7,d9];exact Erf
  ·obtain rfl:p=0:=U;have d10:xv 10=Eu #[Ea rv,E I cd]:=hd.at 10 rfl;exact ErE
  ·obtain rfl:p=0:=U;exact ErN
  ·exact ErN
  ·exact EpM
  ·have d12:xv 12=Ea rv:=hd.at 12 rfl;obtain⟨b,d0,eA,lb,h8,kb⟩:ah n0 (xv 14) wq:=hd.at 14 rfl;have nh:=Xt.out;refine cX EW (Eh O) ⟨O,eA,d12⟩ kb h8 RS.out RO.out ⟨tG kb RS.out,?_⟩ ⟨b,eA,lb,kb.setRow _⟩;exact EpU
  ·obtain rfl:p=1:=U;exact Erj
 case hend=>
  intro xv W6 hp hd;clear S1 MM KM;simp only[EM,Ih,Ik,Ic,If];obtain⟨b,eA,lb,kb⟩: ∃b:Nat,xv 14=V (D ⟨b,0,Z⟩)/\n0<=b/\H W6 b rv 109:=hd 15 EU;have d16:xv 16=E I cd:=hd 16 EU;obtain⟨s6,m6,dT,-⟩:=hp;have S1:=J s6;have MM:=J m6;have KM:=J dT;have KB:=J kb;rw[eA,d16];clear s6 m6 dT kb hd eA d16 CA;have c1:=Of.out _ _ KM.out;by_cases hcd:cd=0;·subst hcd;obtain⟨ha1,ha2,Mc⟩:=Efx S1.out.core.ok.tok k v4 HR.out;have HT2:=J (gW S1.out.core.ok.tok Mc).1;have HG:=J Mc;clear ha1 ha2 Mc;go_wp2_with (with_reducible refine wL EW KB ?_ (hn:=RS.out));rw[<-Up.out];refine(n_ lo hi g gc gq gt gs c ns rs t2 1 v1 _ S1.out HT2.out J_ JQ).mono ?_;rintro e7 w7 ⟨rfl,⟨L',m7,XR,sq,s7⟩,Xg⟩;replace KM:=J<|Xg.Ek KM.out EU EU;replace S1:=J s7;replace MM:=J<|MM.out.trans Xg;have SQ:=J sq;have oJ:=J XR;clear s7 Xg sq XR c1;have c1:=Of.out _ _ KM.out;go_wp2_with fail;refine(jH lo hi g gc gq gt gs _ (ns+m7) _ k v1 _ S1.out Md).mono ?_;rintro e8 w8 ⟨rfl,s8,m8⟩;have S8:=J s8;replace MM:=J<|MM.out.trans m8;clear s8 m8;go_wp2;go_end0;exact⟨O,⟨_,m7+1,_,qL,S8.out,.inr ⟨t2,L',HG.out,SQ.out,O,O⟩⟩,MM.out⟩
  ·have t9:(cd !=0)=EJ:=dP;exact Eof
theorem Iz.iT(m:Iz lo W W'):lQ W W':=fun b c h h8=>⟨c,h8,m.Ek h EU EU⟩
theorem Efz(lo hi:Nat)(g:Nat->Y)(gc gq gt gs:Nat)(c:Ey)(ns:Nat)(rs:List Rec)(l:List Int)(k:Int)(w:M)(S:E9 lo hi g gc gq gt gs c ns rs w)(hn:ns<800000)(hl:rs.length<800000): Eg EZ 134 #[V (D ⟨gs,0,Z⟩),E I k,Ea (EF l)] w fun e w'=>e=Ei (Eu #[])/\(∃c' m new,m<=3/\E9 lo hi g gc gq gt gs c' (ns+m) (rs++new) w'/\ ∃L',((∃cd,c'={c with q:=L'}/\new=[⟨7,k,l.getD 1 0,c.tok.e,cd,0⟩])\/(∃t2,t2.ok/\t2.e=c.tok.e+1/\t2.o= -1/\c'={c with tok:=t2,q:=L'}/\new=[⟨8,t2.h,l.getD 1 0,t2.e,0,2⟩])))/\EA lo hi w w':=by
 have ZL:=fun W q=>WE lo gq c.q (pn g 48) k c.tok W S.core.lq q S.core.ok.q Do;obtain⟨Ip,Uq,Xf,ZE⟩: ∃Ip,c.tok.a=Ea Ip/\Ed (Ip.size=8)/\Ed (c.tok.v.toArray=Ip):=⟨_,O,J O,J O⟩;have S0:=J S;have HN:=J hn;have HL:=J hl;have KM:=J<|H.new w (EF l) 183;have b1:=Er w (Eb (EF l) 183);have S1:=J<|S0.out.B b1;have MM:=J<|EA.ED (lo:=lo) (hi:=hi) b1;obtain⟨v1,hv1⟩:=Eo (l.getD 1 0);have Of:Ed (∀W g,H W g (EF l) 183->W.cell? ⟨g,1,Z⟩=D (E I v1)):=J (fun W g K=>by rw[hv1];exact X_ K 1 U U);try rw[<-hv1]
 replace hv1:=J hv1;clear S hn hl S0;obtain⟨mv,hmv⟩:=Eo (EF l);rw[<-hmv] at KM b1 S1 MM Of⊢;clear hmv;have CA:Ed (∀W,Jr W lo gq c.q (pn g 48)->Eg EZ 137 #[Ea Ip,V (D ⟨gq,0,Z⟩),E I k] W _):=J (fun W q=>Wo);obtain⟨PQ,hPQ⟩: ∃PQ:Array Y->Int->Prop,PQ=fun rv cd=> ∃t2:EN,t2.a=Ea rv/\rv.size=8/\rv.all (·.oneCell')=EJ/\tz c.tok c.q k t2 cd:=⟨_,O⟩;have qM:Ed (∀(t2:EN) (rv:Array Y) (cd:Int),t2.a=Ea rv->rv.size=8->rv.all (·.oneCell')=EJ->tz c.tok c.q k t2 cd->PQ rv cd):=J (fun t2 rv cd h1 h2 h3 h4=>Dq);have qN:Ed (∀rv cd,PQ rv cd->rv.size=8/\rv.all (·.oneCell')=EJ):=J (fun rv cd h=>Ds);replace hPQ:=J hPQ;clear ZL Uq;go_enter Tryz.func134,Tryz.ntmps134;go_wp2_with fail;clear b1;generalize w.alloc (Eb mv 183)=w1 at*;obtain⟨gm,hgm⟩:=Eo w.heap.size;rw[<-hgm] at KM⊢;clear hgm;obtain⟨n0,hn0⟩:=Eo w1.heap.size;have Xt:=J (show lo<=n0/\hi<=n0/\w.heap.size<=n0 from oI);refine iS (Ph:=fun p wq=>n0<=wq.heap.size/\(match p with|0=>(E9 lo hi g gc gq gt gs c ns rs wq/\EA lo hi w wq/\H wq gm mv 183)|_=>(∃L':List One,E9 lo hi g gc gq gt gs {c with q:=L'} ns rs wq/\EA lo hi w wq/\H wq gm mv 183))) (Rel:=J0) (Iw:=lQ) [kp gs 0,kp gs 0,kp gs 0,kp gc 0,kp gc 0,kp gc 56,kq (Ea Ip),kp gs 0,kp gs 0,kp gs 0,kp gc 0,kp gc 0,kp gc 64,kp gq 0,kq (E I k),.val (fun v=> ∃(rv:Array Y) (cd:Int),PQ rv cd/\v=Eu #[Ea rv,E I cd]),.val (fun v=> ∃(rv:Array Y) (cd:Int),PQ rv cd/\v=Eu #[Ea rv,E I cd]),.bM [16,17] (fun x=> ∃(rv:Array Y) (cd:Int),PQ rv cd/\x 16=Eu #[Ea rv,E I cd]/\x 17=Ea rv) (fun x y hq h=>by simpa only[hq 16 Ej,hq 17 Ej] using h),.bM [16,18] (fun x=> ∃(rv:Array Y) (cd:Int),PQ rv cd/\x 16=Eu #[Ea rv,E I cd]/\x 18=E I cd) (fun x y hq h=>by simpa only[hq 16 Ej,hq 18 Ej] using h),.dep (ah n0) (fun v w w' h hr=>h.B hr) (fun v w w' h hr=>h.iT hr),.tie [19,17] (fun x w=> ∃(b:Nat) (rv:Array Y),x 19=V (D ⟨b,0,Z⟩)/\x 17=Ea rv/\n0<=b/\H w b rv 109) (fun x w w' h hr=>Dt) (fun x y w hq h=>by rw[hq 19 Ej,hq 17 Ej] at h;exact h),.bM [18,21] (fun x=>x 21=x 18) (fun x y hq h=>by simpa only[hq 18 Ej,hq 21 Ej] using h)] [EI,EI,EI,EI,EI,EI,EI,EI,EI,EI,EI,EI,EI,EI,EI,EI,EI,EI,EI,EI,EJ,EI] O [[],[],[],[],[],[],[],[],[],[],[],[],[],[],[],[],[],[16,17],[16,18],[],[19,17],[18,21]] O [15,20] [(0,0),(0,0),(0,0),(0,0),(0,0),(0,0),(0,0),(0,0),(0,0),(0,0),(0,0),(0,0),(0,0),(0,0),(0,0),(0,0),(1,1),(1,1),(1,2),(0,1),(1,1),(2,2)] Ef Ef Ef Ef Ef Ef UP Ef ?hPh ?h0 ?hstep ?hend
 case hPh=>
  intro p w2 w3 h hr;match p,h with
  |0,h=>exact⟨Ew h.1 (XE hr),h.2.1.B hr,h.2.2.1.trans (EA.ED hr),H.B h.2.2.2 hr⟩
  |_+1,h=> obtain⟨nn,L',s,m,km⟩:=h;exact⟨Ew nn (XE hr),L',s.B hr,m.trans (EA.ED hr),H.B km hr⟩
 case h0=> exact EpT
 case hstep=>
  refine⟨?_,?_,?_,?_,?_,?_,?_,?_,?_,?_,?_,?_,?_,?_,?_,?_,?_,?_,?_,?_,?_,?_,trivial⟩;all_goals first|intro xv wq p hlo hhi hp hd|intro xv wq hp hd
  all_goals simp only[EM,Ih,Ik,Ic,If]
  ·exact Enx
  ·exact EnP
  ·exact EnN
  ·exact Enz
  ·exact EnM
  ·exact En6
  ·exact Erx
  ·exact Enx
  ·exact Eod
  ·exact Eoc
  ·exact En7
  ·exact EoX
  ·exact EoU
  ·exact EoR
  ·exact Enx
  ·have d6:xv 6=Ea Ip:=hd.at 6 rfl;have d13:xv 13=V (D ⟨gq,0,Z⟩):=hd.at 13 rfl;have d14:xv 14=E I k:=hd.at 14 rfl;refine JL (f:=137) (args:= #[xv 6,xv 13,xv 14]) (Eh O) Ez ?_;rw[d6,d13,d14];refine(CA.out wq hp.2.1.core.ZC).mono fun e w2 h=> ?_;obtain⟨⟨t2,cd,L2,he,hf,sq,q2⟩,m2⟩:=h;obtain⟨rv,IH,hs,ho⟩:=ZH t2;exact⟨_,he,⟨m2.iT,Ew hp.1 m2.bel.size,L2,hp.2.1.gV m2 L2 q2 (hp.2.1.core.ok.sub sq),hp.2.2.1.trans (m2.jL hi),m2.Ek hp.2.2.2 EU EU⟩,rv,cd,qM.out t2 rv cd IH hs ho hf,congrArg (fun v=>Value.tuple #[v,E I cd]) IH⟩
  ·obtain rfl:p=1:=U;obtain⟨rv,cd,hpq,e15⟩: ∃(rv:Array Y) (cd:Int),PQ rv cd/\xv 15=Eu #[Ea rv,E I cd]:=hd.at 15 rfl;exact Et Mf ⟨rv,cd,hpq,O⟩
  ·obtain rfl:p=1:=U;exact Eo0
  ·exact Eo0
  ·exact Eon
  ·obtain⟨b,d0,eA,lb,h8,kb⟩:ah n0 (xv 19) wq:=hd.at 19 rfl;have nh:=Xt.out;obtain⟨rv,cd,hpq,-,e17⟩: ∃(rv:Array Y) (cd:Int),PQ rv cd/\xv 16=Eu #[Ea rv,E I cd]/\xv 17=Ea rv:=hd.at 17 rfl;have hsz:=qN.out _ _ hpq;obtain⟨nn,L',s,m,km⟩:=hp;refine cX EW (Eh O) ⟨O,eA,e17⟩ kb h8 hsz.1 hsz.2 ⟨tG kb hsz.1,?_⟩ ⟨b,rv,eA,e17,lb,kb.setRow _⟩;exact EpR
  ·obtain rfl:p=2:=U;obtain⟨rv,cd,hpq,-,e18⟩: ∃(rv:Array Y) (cd:Int),PQ rv cd/\xv 16=Eu #[Ea rv,E I cd]/\xv 18=E I cd:=hd.at 18 rfl;exact Et (by simp[go_sem,e18]) (e18.symm)
 case hend=>
  intro xv W6 hp hd;clear S1 MM KM;simp only[EM,Ih,Ik,Ic,If];obtain⟨rv,cd,hpq,eM,e17⟩: ∃(rv:Array Y) (cd:Int),PQ rv cd/\xv 16=Eu #[Ea rv,E I cd]/\xv 17=Ea rv:=hd 17 EU;obtain⟨b,iV,eA,eE,lb,kb⟩: ∃(b:Nat) (rv:Array Y),xv 19=V (D ⟨b,0,Z⟩)/\xv 17=Ea rv/\n0<=b/\H W6 b rv 109:=hd 20 EU;have qP:iV=rv:=by rw[eE] at e17;injection e17
  subst qP;have a21:xv 21=E I cd:=by have h1:xv 21=xv 18:=hd 21 EU;obtain⟨Dw,Mg,-,f1,f2⟩: ∃(rv:Array Y) (cd:Int),PQ rv cd/\xv 16=Eu #[Ea rv,E I cd]/\xv 18=E I cd:=hd 18 EU;exact Eo9
  obtain⟨-,L',s6,m6,dT⟩:=hp;have S1:=J s6;have MM:=J m6;have KM:=J dT;have KB:=J kb;rw[eA,a21];rw[hPQ.out] at hpq;obtain⟨t2,IH,hs,ho,hf⟩:=hpq;have Up:=J IH;have RS:=J hs;have HF:=J hf;clear s6 m6 dT kb hd eA a21 CA IH hs ho hf eM eE;have c1:=Of.out _ _ KM.out;by_cases hcd:cd=0
  ·subst hcd
   have HT2:Ed (t2.ok/\t2.e=c.tok.e+1/\t2.o= -1):=J (by
    rcases HF.out with⟨a1,-⟩|⟨-,-,-,x,-,a2⟩;·exact absurd O a1
    ·exact⟨(gW S1.out.core.ok.tok a2).1,(gW S1.out.core.ok.tok a2).2.1,(gW S1.out.core.ok.tok a2).2.2.2⟩)
   go_wp2_with (with_reducible refine wL EW KB ?_ (hn:=RS.out));rw[<-Up.out];refine(n_ lo hi g gc gq gt gs _ ns rs t2 2 v1 _ S1.out HT2.out.1 J_ JQ).mono ?_;rintro e7 w7 ⟨rfl,⟨L2,m7,XR,sq,s7⟩,Xg⟩;replace KM:=J<|Xg.Ek KM.out EU EU;replace S1:=J s7;replace MM:=J<|MM.out.trans Xg;have oJ:=J XR;clear s7 Xg sq XR c1;have c1:=Of.out _ _ KM.out;go_wp2_with fail;refine(jH lo hi g gc gq gt gs _ (ns+m7) _ k v1 _ S1.out Md).mono ?_;rintro e8 w8 ⟨rfl,s8,m8⟩;have S8:=J s8;replace MM:=J<|MM.out.trans m8;clear s8 m8;go_wp2;go_end0;exact⟨O,⟨_,m7+1,_,qL,S8.out,L2,.inr ⟨t2,HT2.out.1,HT2.out.2.1,HT2.out.2.2,O,O⟩⟩,MM.out⟩
  ·exact EoJ
theorem EfA(a b c d e s:Int): -1<=place a b c d e s/\place a b c d e s<=4:=by
 unfold place;repeat' split
 all_goals omega
def Mh(t:EN)(k:Int)(t2:EN)(hw cd:Int):Prop:=cd≠0\/(cd=0/\hw=3/\t.Uj k=(t2,0))\/(cd=0/\hw=0/\t2=t)
theorem EfB(K:H W gm (EF l) 183):W.cell? ⟨gm,7,Z⟩=D (Ec (l.getD 7 0==1)):=by rw[H.cell K,Zq l 7 U,if_pos O]
theorem EfC(lo hi:Nat)(g:Nat->Y)(gc gq gt gs:Nat)(c:Ey)(ns:Nat)(rs:List Rec)(l:List Int)(k:Int)(w:M)(S:E9 lo hi g gc gq gt gs c ns rs w)(hk:1<=k/\k<=3)(hn:ns<800000)(hl:rs.length<800000): Eg EZ 130 #[V (D ⟨gs,0,Z⟩),E I k,Ea (EF l)] w fun e w'=>e=Ei (Eu #[])/\(∃c' m new,m<=3/\E9 lo hi g gc gq gt gs c' (ns+m) (rs++new) w'/\ ∃L',((∃cd,c'={c with q:=L'}/\new=[⟨7,k,l.getD 1 0,c.tok.e,cd,0⟩])\/(∃t2,t2.ok/\t2.e=c.tok.e+1/\t2.o= -1/\c'={c with tok:=t2,q:=L'}/\new=[⟨8,t2.h,l.getD 1 0,t2.e,0,3⟩])\/(c'={c with q:=L'}/\new=[⟨10,k,l.getD 1 0,c.tok.e,0,0⟩])))/\EA lo hi w w':=by
 obtain⟨pa,hpa,Wp⟩:=S.core.XV.fit 45 U U;have EfD:(pa:Int)<=1000:=by have:=Wp.2.1;unfold U_ at this;simp at this;omega
 have ZL:=fun W q b=>Efl lo gq c.q (pn g 48) g pa hpa (fun i hi=>S.core.XV.int i U (.inl hi)) c.tok S.core.ok.tok k b W S.core.lq q S.core.ok.q (fun h=>S.core.ok.room hk h)
 have Wq:Ed (∀(wq:M) (t2:EN) (hw cd:Int) (w2:M),c.ok->Wc lo gq c.q (pn g 48) c.tok k (bA g k) (max pa 0) t2 hw cd w2-> ∃L2,Jr w2 lo gq L2 (pn g 48)/\({c with q:=L2}:Ey).ok/\Mh c.tok k t2 hw cd):=J (fun wq t2 hw cd w2 ok h=>by
  rcases h with⟨h1,h2,h3,h4⟩|⟨h1,h2,h3,L',h4,h5⟩|⟨h1,h2,h3,h4,L',came,h5,h6,h7⟩;·exact⟨c.q,h4,ok,.inl h1⟩
  ·exact⟨L',h5,ok.sub h4,.inr (.inl ⟨h1,h2,h3⟩)⟩
  ·refine⟨L',h7,ok.push h6 ⟨⟨by show _<=k;omega,by show k<=_;omega⟩,?_,⟨Zz _,by show(0:Int)<=1000;omega⟩,⟨by show(0:Int)<=max (pa:Int) 0;omega,by show max (pa:Int) 0<=1000;omega⟩,h5⟩ hk h4,.inr (.inr ⟨h1,h2,h3⟩)⟩;have:=EfA (pn g 0) (pn g 1) (pn g 2) (pn g 3) (pn g 4) k;exact⟨by show _<=bA g k;unfold bA;omega,by show bA g k<=_;unfold bA;omega⟩)
 obtain⟨b7,qQ⟩:=Eo ((l.getD 7 0==1));have Wr:Ed (∀W g,H W g (EF l) 183->W.cell? ⟨g,7,Z⟩=D (Ec b7)):=J (fun W g K=>by rw[qQ];exact EfB K);replace ZL:=fun W q=>ZL W q b7;clear qQ hpa Wp EfD;obtain⟨Ip,Uq,Xf,ZE⟩: ∃Ip,c.tok.a=Ea Ip/\Ed (Ip.size=8)/\Ed (c.tok.v.toArray=Ip):=⟨_,O,J O,J O⟩;obtain⟨pv,hpv,w_,Mi⟩: ∃pv,EL 56 g=pv/\Ed (pv.size=56)/\Ed ((EL 56 g).toList.toArray=pv):=⟨_,O,J kW,J Ej⟩;have S0:=J S;have HN:=J hn;have HL:=J hl;have KM:=J<|H.new w (EF l) 183;have b1:=Er w (Eb (EF l) 183);have S1:=J<|S0.out.B b1;have MM:=J<|EA.ED (lo:=lo) (hi:=hi) b1;obtain⟨v1,hv1⟩:=Eo (l.getD 1 0);have Of:Ed (∀W g,H W g (EF l) 183->W.cell? ⟨g,1,Z⟩=D (E I v1)):=J (fun W g K=>by rw[hv1];exact X_ K 1 U U);try rw[<-hv1]
 replace hv1:=J hv1;clear S hn hl S0;obtain⟨mv,hmv⟩:=Eo (EF l);rw[<-hmv] at KM b1 S1 MM Of Wr⊢;clear hmv;have CA:Ed (∀W,Jr W lo gq c.q (pn g 48)->Eg EZ 177 #[Ea pv,Ea Ip,V (D ⟨gq,0,Z⟩),E I k,Ec b7] W _):=J (fun W q=>Ws);obtain⟨PQ,hPQ⟩: ∃PQ:Array Y->Int->Int->Prop,PQ=fun rv hw cd=> ∃t2:EN,t2.a=Ea rv/\rv.size=8/\rv.all (·.oneCell')=EJ/\Mh c.tok k t2 hw cd:=⟨_,O⟩;have qM:Ed (∀(t2:EN) (rv:Array Y) (hw cd:Int),t2.a=Ea rv->rv.size=8->rv.all (·.oneCell')=EJ->Mh c.tok k t2 hw cd->PQ rv hw cd):=J (fun t2 rv hw cd h1 h2 h3 h4=>Dq);have qN:Ed (∀rv hw cd,PQ rv hw cd->rv.size=8/\rv.all (·.oneCell')=EJ):=J (fun rv hw cd h=>Ds);replace hPQ:=J hPQ;clear ZL Uq hpv;go_enter Tryz.func130,Tryz.ntmps130;go_wp2_with fail;clear b1;generalize w.alloc (Eb mv 183)=w1 at*;obtain⟨gm,hgm⟩:=Eo w.heap.size;rw[<-hgm] at KM⊢;clear hgm;obtain⟨n0,hn0⟩:=Eo w1.heap.size;have Xt:=J (show lo<=n0/\hi<=n0/\w.heap.size<=n0 from oI);refine iS (Ph:=fun p wq=>n0<=wq.heap.size/\(match p with|0=>(E9 lo hi g gc gq gt gs c ns rs wq/\EA lo hi w wq/\H wq gm mv 183)|_=>(∃L':List One,E9 lo hi g gc gq gt gs {c with q:=L'} ns rs wq/\EA lo hi w wq/\H wq gm mv 183))) (Rel:=J0) (Iw:=lQ) [.val (fun v=>v=V (D ⟨gs,0,Z⟩)),.val (fun v=>v=V (D ⟨gs,0,Z⟩)),.val (fun v=>v=V (D ⟨gs,0,Z⟩)),.val (fun v=>v=V (D ⟨gc,0,Z⟩)),.val (fun v=>v=V (D ⟨gc,0,Z⟩)),.val (fun v=>v=V (D ⟨gc,0,Z⟩)),.val (fun v=>v=Ea pv),.val (fun v=>v=V (D ⟨gs,0,Z⟩)),.val (fun v=>v=V (D ⟨gs,0,Z⟩)),.val (fun v=>v=V (D ⟨gs,0,Z⟩)),.val (fun v=>v=V (D ⟨gc,0,Z⟩)),.val (fun v=>v=V (D ⟨gc,0,Z⟩)),.val (fun v=>v=V (D ⟨gc,56,Z⟩)),.val (fun v=>v=Ea Ip),.val (fun v=>v=V (D ⟨gs,0,Z⟩)),.val (fun v=>v=V (D ⟨gs,0,Z⟩)),.val (fun v=>v=V (D ⟨gs,0,Z⟩)),.val (fun v=>v=V (D ⟨gc,0,Z⟩)),.val (fun v=>v=V (D ⟨gc,0,Z⟩)),.val (fun v=>v=V (D ⟨gc,64,Z⟩)),.val (fun v=>v=V (D ⟨gq,0,Z⟩)),.val (fun v=>v=E I k),.val (fun v=>v=V (D ⟨gm,7,Z⟩)),.val (fun v=>v=Ec b7),.val (fun v=> ∃(rv:Array Y) (hw:Int) (cd:Int),PQ rv hw cd/\v=Eu #[Ea rv,E I hw,E I cd]),.val (fun v=> ∃(rv:Array Y) (hw:Int) (cd:Int),PQ rv hw cd/\v=Eu #[Ea rv,E I hw,E I cd]),.bM [25,26] (fun x=> ∃(rv:Array Y) (hw:Int) (cd:Int),PQ rv hw cd/\x 25=Eu #[Ea rv,E I hw,E I cd]/\x 26=Ea rv) (fun x y hq h=>by simpa only[hq 25 Ej,hq 26 Ej] using h),.bM [25,27] (fun x=> ∃(rv:Array Y) (hw:Int) (cd:Int),PQ rv hw cd/\x 25=Eu #[Ea rv,E I hw,E I cd]/\x 27=E I hw) (fun x y hq h=>by simpa only[hq 25 Ej,hq 27 Ej] using h),.bM [25,28] (fun x=> ∃(rv:Array Y) (hw:Int) (cd:Int),PQ rv hw cd/\x 25=Eu #[Ea rv,E I hw,E I cd]/\x 28=E I cd) (fun x y hq h=>by simpa only[hq 25 Ej,hq 28 Ej] using h),.dep (ah n0) (fun v w w' h hr=>h.B hr) (fun v w w' h hr=>h.iT hr),.tie [29,26] (fun x w=> ∃(b:Nat) (rv:Array Y),x 29=V (D ⟨b,0,Z⟩)/\x 26=Ea rv/\n0<=b/\H w b rv 109) (fun x w w' h hr=>Dt) (fun x y w hq h=>by rw[hq 29 Ej,hq 26 Ej] at h;exact h),.bM [27,31] (fun x=>x 31=x 27) (fun x y hq h=>by simpa only[hq 27 Ej,hq 31 Ej] using h),.bM [28,32] (fun x=>x 32=x 28) (fun x y hq h=>by simpa only[hq 28 Ej,hq 32 Ej] using h)] [EI,EI,EI,EI,EI,EI,EI,EI,EI,EI,EI,EI,EI,EI,EI,EI,EI,EI,EI,EI,EI,EI,EI,EI,EI,EI,EI,EI,EI,EI,EJ,EI,EI] O [[],[],[],[],[],[],[],[],[],[],[],[],[],[],[],[],[],[],[],[],[],[],[],[],[],[],[25,26],[25,27],[25,28],[],[29,26],[27,31],[28,32]] O [24,30] [(0,0),(0,0),(0,0),(0,0),(0,0),(0,0),(0,0),(0,0),(0,0),(0,0),(0,0),(0,0),(0,0),(0,0),(0,0),(0,0),(0,0),(0,0),(0,0),(0,0),(0,0),(0,0),(0,0),(0,0),(0,0),(1,1),(1,1),(1,2),(1,2),(0,1),(1,1),(2,2),(2,2)] Ef Ef Ef Ef Ef Ef UP Ef ?hPh ?h0 ?hstep ?hend
 case hPh=>
  intro p w2 w3 h hr;match p,h with
  |0,h=>exact⟨Ew h.1 (XE hr),h.2.1.B hr,h.2.2.1.trans (EA.ED hr),H.B h.2.2.2 hr⟩
  |_+1,h=> obtain⟨nn,L',s,m,km⟩:=h;exact⟨Ew nn (XE hr),L',s.B hr,m.trans (EA.ED hr),H.B km hr⟩
 case h0=> exact EpT
 case hstep=>
  refine⟨?_,?_,?_,?_,?_,?_,?_,?_,?_,?_,?_,?_,?_,?_,?_,?_,?_,?_,?_,?_,?_,?_,?_,?_,?_,?_,?_,?_,?_,?_,?_,?_,?_,trivial⟩;all_goals first|intro xv wq p hlo hhi hp hd|intro xv wq hp hd
  all_goals simp only[EM,Ih,Ik,Ic,If]
  ·exact Enx
  ·exact EnP
  ·exact EnN
  ·exact Enz
  ·exact EnM
  ·exact En6
  ·exact EoG
  ·exact Enx
  ·exact Eod
  ·exact Eoc
  ·exact En7
  ·exact EoX
  ·exact EoU
  ·exact Eor
  ·exact Enx
  ·exact Eqd
  ·exact Eqc
  ·exact Eo7
  ·exact Eo3
  ·exact Eqb
  ·exact EoQ
  ·exact Enx
  ·exact Enx
  ·obtain rfl:p=0:=U;have d22:xv 22=V (D ⟨gm,7,Z⟩):=hd.at 22 rfl;have cc:wq.cell? ⟨gm,7,Z⟩=D (Ec b7):=Wr.out _ _ hp.2.2.2;exact Et Mn O
  ·have d6:xv 6=Ea pv:=hd.at 6 rfl;have d13:xv 13=Ea Ip:=hd.at 13 rfl;have d20:xv 20=V (D ⟨gq,0,Z⟩):=hd.at 20 rfl;have d21:xv 21=E I k:=hd.at 21 rfl;have d23:xv 23=Ec b7:=hd.at 23 rfl;refine JL (f:=177) (args:= #[xv 6,xv 13,xv 20,xv 21,xv 23]) (Eh O) Ez ?_;rw[d6,d13,d20,d21,d23];refine(CA.out wq hp.2.1.core.ZC).mono fun e w2 h=> ?_;obtain⟨⟨t2,hw,cd,he,hf⟩,m2⟩:=h;obtain⟨rv,IH,hs,ho⟩:=ZH t2;obtain⟨L2,q2,okq,hpq⟩:=Wq.out wq t2 hw cd w2 hp.2.1.core.ok hf;exact⟨_,he,⟨m2.iT,Ew hp.1 m2.bel.size,L2,hp.2.1.gV m2 L2 q2 okq,hp.2.2.1.trans (m2.jL hi),m2.Ek hp.2.2.2 EU EU⟩,rv,hw,cd,qM.out t2 rv hw cd IH hs ho hpq,congrArg (fun v=>Value.tuple #[v,E I hw,E I cd]) IH⟩
  ·obtain rfl:p=1:=U;obtain⟨rv,hw,cd,hpq,e24⟩: ∃(rv:Array Y) (hw:Int) (cd:Int),PQ rv hw cd/\xv 24=Eu #[Ea rv,E I hw,E I cd]:=hd.at 24 rfl;exact Et (by simp[go_sem,e24]) ⟨rv,hw,cd,hpq,O⟩
  ·obtain rfl:p=1:=U;exact EoE
  ·exact EoE
  ·exact EoE
  ·exact Eon
  ·obtain⟨b,d0,eA,lb,h8,kb⟩:ah n0 (xv 29) wq:=hd.at 29 rfl;have nh:=Xt.out;obtain⟨rv,hw,cd,hpq,-,e26⟩: ∃(rv:Array Y) (hw:Int) (cd:Int),PQ rv hw cd/\xv 25=Eu #[Ea rv,E I hw,E I cd]/\xv 26=Ea rv:=hd.at 26 rfl;have hsz:=qN.out _ _ _ hpq;obtain⟨nn,L',s,m,km⟩:=hp;refine cX EW (Eh O) ⟨O,eA,e26⟩ kb h8 hsz.1 hsz.2 ⟨tG kb hsz.1,?_⟩ ⟨b,rv,eA,e26,lb,kb.setRow _⟩;exact EpR
  ·obtain rfl:p=2:=U;obtain⟨rv,hw,cd,hpq,-,e27⟩: ∃(rv:Array Y) (hw:Int) (cd:Int),PQ rv hw cd/\xv 25=Eu #[Ea rv,E I hw,E I cd]/\xv 27=E I hw:=hd.at 27 rfl;exact Et (by simp[go_sem,e27]) (e27.symm)
  ·obtain rfl:p=2:=U;obtain⟨rv,hw,cd,hpq,-,e28⟩: ∃(rv:Array Y) (hw:Int) (cd:Int),PQ rv hw cd/\xv 25=Eu #[Ea rv,E I hw,E I cd]/\xv 28=E I cd:=hd.at 28 rfl;exact Et (by simp[go_sem,e28]) (e28.symm)
 case hend=>
  intro xv W6 hp hd;clear S1 MM KM;simp only[EM,Ih,Ik,Ic,If];obtain⟨rv,hw,cd,hpq,eM,e26⟩: ∃(rv:Array Y) (hw:Int) (cd:Int),PQ rv hw cd/\xv 25=Eu #[Ea rv,E I hw,E I cd]/\xv 26=Ea rv:=hd 26 EU;obtain⟨b,iV,eA,eE,lb,kb⟩: ∃(b:Nat) (rv:Array Y),xv 29=V (D ⟨b,0,Z⟩)/\xv 26=Ea rv/\n0<=b/\H W6 b rv 109:=hd 30 EU;have qP:iV=rv:=by rw[eE] at e26;injection e26
  subst qP;have a31:xv 31=E I hw:=by have h1:xv 31=xv 27:=hd 31 EU;obtain⟨Dw,hw9,Mg,-,f1,f2⟩: ∃(rv:Array Y) (hw:Int) (cd:Int),PQ rv hw cd/\xv 25=Eu #[Ea rv,E I hw,E I cd]/\xv 27=E I hw:=hd 27 EU;exact Eo9
  have a32:xv 32=E I cd:=by have h1:xv 32=xv 28:=hd 32 EU;obtain⟨Dw,hw9,Mg,-,f1,f2⟩: ∃(rv:Array Y) (hw:Int) (cd:Int),PQ rv hw cd/\xv 25=Eu #[Ea rv,E I hw,E I cd]/\xv 28=E I cd:=hd 28 EU;exact Eo9
  obtain⟨-,L',s6,m6,dT⟩:=hp;have S1:=J s6;have MM:=J m6;have KM:=J dT;have KB:=J kb;rw[eA,a31,a32];rw[hPQ.out] at hpq;obtain⟨t2,IH,hs,ho,hf⟩:=hpq;have Up:=J IH;have RS:=J hs;have RO:=J ho;clear s6 m6 dT kb hd eA a31 a32 CA IH hs ho eM eE Wq;have c1:=Of.out _ _ KM.out;by_cases hcd:cd=0
  ·subst hcd;rcases hf with hf|⟨-,rfl,hf⟩|⟨-,rfl,hf⟩;·exact absurd O hf
   ·have HT2:Ed (t2.ok/\t2.e=c.tok.e+1/\t2.o= -1):=J ⟨(gW S1.out.core.ok.tok hf).1,(gW S1.out.core.ok.tok hf).2.1,(gW S1.out.core.ok.tok hf).2.2.2⟩;clear hf;go_wp2_with (with_reducible refine wL EW KB ?_ (hn:=RS.out));rw[<-Up.out];refine(n_ lo hi g gc gq gt gs _ ns rs t2 3 v1 _ S1.out HT2.out.1 J_ JQ).mono ?_;rintro e7 w7 ⟨rfl,⟨L2,m7,XR,sq,s7⟩,Xg⟩;replace KM:=J<|Xg.Ek KM.out EU EU;replace S1:=J s7;replace MM:=J<|MM.out.trans Xg;have oJ:=J XR;clear s7 Xg sq XR c1;have c1:=Of.out _ _ KM.out;go_wp2_with fail;refine(jH lo hi g gc gq gt gs _ (ns+m7) _ k v1 _ S1.out Md).mono ?_;rintro e8 w8 ⟨rfl,s8,m8⟩;have S8:=J s8;replace MM:=J<|MM.out.trans m8;clear s8 m8;go_wp2;go_end0;exact⟨O,⟨_,m7+1,_,qL,S8.out,L2,.inr (.inl ⟨t2,HT2.out.1,HT2.out.2.1,HT2.out.2.2,O,O⟩)⟩,MM.out⟩
   ·subst hf;have ag:Ed (iV.toList=c.tok.v):=J (by have h:=Up.out;unfold EN.a at h;injection h with h;rw[<-h];rfl);go_wp2_with fail;have y0: ∀y:Ext W6,(EC W6 y).cell? ⟨gs,0,Z⟩=D (V (D ⟨gc,0,Z⟩)):=fun y=>(S1.out.B (EQ y)).IB;refine Oa 7 Ef Ef ?_;simp only[Is,Iq,IT,IM]
    repeat (first
     |go_big_quiet_skip
     |(go_big_quiet_want
       first
        |(refine UV (T:=109) (g:=b) EW _ rfl rfl KB ?_ ?_;(·exact RS.out);go_simp;go_big_quiet_on)
        |(go_big_quiet_op
          first
           |go_big_quiet_on
           |go_big_quiet_call (fail))))
    refine I5 ?_;intro _ hw';obtain⟨y9,rfl⟩:=hw';have En:=EQ y9;replace KM:=EH KM En;replace S1:=J<|S1.out.B En;replace MM:=J<|MM.out.trans (EA.ED En);clear y0 En c1;generalize EC W6 y9=w7 at*;have TH:=J<|db S1.out.core 1 rfl 8 XW;go_wp2_with ((with_reducible refine I3 109 ?_);(with_reducible refine Ux O 109 _ _ O gc 56 iV ?_ ?_ ?_ ?_ ?_ ?_);(·rfl);(·rfl);(·rw[RS.out];exact TH.out);(·rw[RS.out];exact EW.2);(·exact RO.out);refine Ex.mk ?_);apply Es;rw[ag.out];have S4:=S1.out.aN c.tok S1.out.core.ok;obtain⟨d0,d1,d2,hd,KG,-⟩:=S1.out.core.Ek;replace KM:=J<|(JP (g:=gc) c.tok.v 56 w7).Ek KM.out (E6 KM.out KG EU);replace S1:=J S4.1;replace MM:=J<|MM.out.trans S4.2;clear S4 TH KG;generalize w7.setCells gc 56 c.tok.v=w8 at*;have c1:=Of.out _ _ KM.out;go_wp2_with fail;refine(ZD lo hi g gc gq gt gs _ ns rs 10 k v1 0 0 _ S1.out JQ).mono ?_;rintro e9 w9 ⟨rfl,s9,m9⟩;replace KM:=J<|m9.Ek KM.out EU EU;replace S1:=J s9;replace MM:=J<|MM.out.trans m9;clear s9 m9 c1;have c1:=Of.out _ _ KM.out;go_wp2_with fail;refine(jH lo hi g gc gq gt gs _ ns _ k v1 _ S1.out J_).mono ?_;rintro e8 w8 ⟨rfl,s8,m8⟩;have S8:=J s8;replace MM:=J<|MM.out.trans m8;clear s8 m8;go_wp2;go_end0;exact⟨O,⟨_,1,_,U,S8.out,L',.inr (.inr ⟨O,O⟩)⟩,MM.out⟩
  ·exact EoJ
theorem EfH(t:EN)(k:Int):(t.pk k=(t,28))\/(0<=t.o/\t.o=k/\t.pk k=(t.end_,0)):=by
 unfold EN.pk;split;·exact .inl O
 ·exact .inr ⟨U,U,O⟩
theorem Wt(h:t.ok):t.end_.ok:=⟨h.h,h.e,fS,fS,fS,h.la,h.lm,fS⟩
theorem EfK(lo hi:Nat)(g:Nat->Y)(gc gq gt gs:Nat)(c:Ey)(ns:Nat)(rs:List Rec)(l:List Int)(k:Int)(w:M)(S:E9 lo hi g gc gq gt gs c ns rs w)(hn:ns<800000)(hl:rs.length<800000): Eg EZ 133 #[V (D ⟨gs,0,Z⟩),E I k,Ea (EF l)] w fun e w'=>e=Ei (Eu #[])/\(∃c' m new,m<=3/\E9 lo hi g gc gq gt gs c' (ns+m) (rs++new) w'/\((∃cd,c'=c/\new=[⟨7,k,l.getD 1 0,c.tok.e,cd,0⟩])\/(0<=c.tok.o/\c.tok.o=k/\c'={c with tok:=c.tok.end_}/\new=[⟨11,k,l.getD 1 0,c.tok.e,0,0⟩])))/\EA lo hi w w':=by
 have Wu:=fun W=>EO3 c.tok k W;obtain⟨Ip,Uq,Xf,ZE⟩: ∃Ip,c.tok.a=Ea Ip/\Ed (Ip.size=8)/\Ed (c.tok.v.toArray=Ip):=⟨_,O,J O,J O⟩;have S0:=J S;have HN:=J hn;have HL:=J hl;have KM:=J<|H.new w (EF l) 183;have b1:=Er w (Eb (EF l) 183);have S1:=J<|S0.out.B b1;have MM:=J<|EA.ED (lo:=lo) (hi:=hi) b1;obtain⟨v1,hv1⟩:=Eo (l.getD 1 0);have Of:Ed (∀W g,H W g (EF l) 183->W.cell? ⟨g,1,Z⟩=D (E I v1)):=J (fun W g K=>by rw[hv1];exact X_ K 1 U U);try rw[<-hv1]
 replace hv1:=J hv1;clear S hn hl S0;obtain⟨mv,hmv⟩:=Eo (EF l);rw[<-hmv] at KM b1 S1 MM Of⊢;clear hmv;go_enter Tryz.func133,Tryz.ntmps133;go_wp2_with (with_reducible refine JE 12 ?_);apply Es;clear b1;generalize w.alloc (Eb mv 183)=w1 at*;obtain⟨gm,hgm⟩:=Eo w.heap.size;rw[<-hgm] at KM⊢;clear hgm;have z0:=S1.out.IB;obtain⟨big,KB,O8⟩:=bK S1.out.core;have KB:=J KB;have dR:Ed (big.extract 56 (56+8)=Ip):=J<|(O8 1 c.tok.v O).trans ZE.out;have CD:=J Wu;rw[Uq] at CD;clear O8 Wu Uq;go_wp2_with (with_reducible refine wM (off:=56) (cs:=Ip) EW KB ?_ (hn:=Xf.out) (he:=dR.out));refine(CD.out _).mono ?_;rintro e6 w6 ⟨rfl,b6⟩;replace KM:=EH KM b6;replace S1:=J<|S1.out.B b6;replace MM:=J<|MM.out.trans (EA.ED b6);clear b6 z0 KB CD;cases hr:c.tok.pk k with|mk t cd=>
 have HR:=J hr;rw[show(t,cd).fst.a=t.a from rfl];clear hr;obtain⟨tv,E2,TS,TO,ag,gS⟩: ∃tv,t.a=Ea tv/\Ed (tv.size=8)/\Ed (tv.all (·.oneCell')=EJ)/\Ed (tv.toList=t.v)/\Ed (∀W g,H W g tv 109->W.cell? ⟨g,0,Z⟩=D (E I t.h)/\W.cell? ⟨g,1,Z⟩=D (E I t.e)):=⟨_,O,J O,J (gj _ _ _ _ _ _ _ _),J O,J fun W g K=>⟨(H.cell K 0).trans O,(H.cell K 1).trans O⟩⟩;rw[E2];go_wp2_with (with_reducible refine fg 109 ?_);apply Es;generalize hW:Xo _ _=w7 at*;have KT:Ed (H w7 (w6.heap.size) #[E I 0,E I 0,E I 0,E I 0,E I 0,E I 0,E I 0,Ec EI] 109):=J (by subst hW;repeat (first|exact H.new _ _ _|exact H.new' _ _ _ Ej|refine H.alloc ?_ _));have b7:Ed (El w6 w7):=J Wl;clear hW;obtain⟨gk,ZK⟩:=Eo w6.heap.size;rw[<-ZK] at KT⊢;have LK:=J (show w6.heap.size<=gk from U);clear ZK;go_wp2_with (with_reducible refine wS (cs:=tv) EW KT (Ex.mk ?_) (hn:=TS.out) (h1:=TO.out));apply Es;replace KT:=J<|KT.out.setRow tv;replace b7:=J<|EY (g:=gk) b7.out LK.out tv;generalize w7.setRow gk tv=w8 at*;replace KM:=EH KM b7.out;replace S1:=J<|S1.out.B b7.out;replace MM:=J<|MM.out.trans (EA.ED b7.out);clear b7 LK E2;have c1:=Of.out _ _ KM.out;rcases EfH c.tok k with hc|⟨ho1,ho2,hc⟩;·have hcd:cd=28:=xJ;subst hcd;clear hc;go_wp2_with fail;refine(iL lo hi g gc gq gt gs c ns rs k v1 28 _ S1.out J_ JQ).mono ?_;rintro e7 w7 ⟨rfl,s7,m7⟩;have S8:=J s7;replace MM:=J<|MM.out.trans m7;clear s7 m7;go_wp2_with fail;refine ET (UQ O _ _ _) O ?_;exact⟨O,⟨_,1,_,U,S8.out,.inl ⟨28,O,O⟩⟩,MM.out⟩
 ·have hcd:cd=0:=xJ;have ht:t=c.tok.end_:=xJ;have Mo:=J ht;have HO:=J<|show 0<=c.tok.o/\c.tok.o=k from⟨ho1,ho2⟩;subst hcd;clear hc ho1 ho2 ht;go_wp2_with fail;have y0: ∀y:Ext w8,(EC w8 y).cell? ⟨gs,0,Z⟩=D (V (D ⟨gc,0,Z⟩)):=fun y=>(S1.out.B (EQ y)).IB;refine Oa 7 Ef Ef ?_;simp only[Is,Iq,IT,IM]
  repeat (first
   |go_big_quiet_skip
   |(go_big_quiet_want
     first
      |(refine UV (T:=109) (g:=gk) EW _ rfl rfl KT ?_ ?_;(·exact TS.out);go_simp;go_big_quiet_on)
      |(go_big_quiet_op
        first
         |go_big_quiet_on
         |go_big_quiet_call (fail))))
  refine I5 ?_;intro _ hw';obtain⟨y9,rfl⟩:=hw';have En:=EQ y9;replace KT:=EH KT En;replace KM:=EH KM En;replace S1:=J<|S1.out.B En;replace MM:=J<|MM.out.trans (EA.ED En);clear y0 En c1;generalize EC w8 y9=w9 at*;have TH:=J<|db S1.out.core 1 rfl 8 XW;go_wp2_with ((with_reducible refine I3 109 ?_);(with_reducible refine Ux O 109 _ _ O gc 56 tv ?_ ?_ ?_ ?_ ?_ ?_);(·rfl);(·rfl);(·rw[TS.out];exact TH.out);(·rw[TS.out];exact EW.2);(·exact TO.out);refine Ex.mk ?_);apply Es;rw[ag.out];have S4:=S1.out.aN t (S1.out.core.ok.aN (by rw[Mo.out];exact Wt S1.out.core.ok.tok));obtain⟨d0,d1,d2,hd,KG,-⟩:=S1.out.core.Ek;replace KT:=J<|(JP (g:=gc) t.v 56 w9).Ek KT.out (E6 KT.out KG EU);replace KM:=J<|(JP (g:=gc) t.v 56 w9).Ek KM.out (E6 KM.out KG EU);replace S1:=J S4.1;replace MM:=J<|MM.out.trans S4.2;clear S4 TH KG;generalize w9.setCells gc 56 t.v=U8 at*;have c0:=(gS.out _ _ KT.out).1;go_wp2_with fail;refine(ql lo hi g gc gq gt gs _ ns rs t.h k 0 _ S1.out J_).mono ?_;rintro e11 fC ⟨rfl,⟨m1,hm1,s11⟩,m11⟩;replace KM:=J<|m11.Ek KM.out EU EU;replace S1:=J s11;replace MM:=J<|MM.out.trans m11;have jS:=J hm1;clear m11 s11 hm1 c0 KT;have c1:=Of.out _ _ KM.out;go_wp2_with fail;refine(ZD lo hi g gc gq gt gs _ (ns+m1) rs 11 k v1 0 0 _ S1.out JQ).mono ?_;rintro e12 UH ⟨rfl,s12,m12⟩;replace KM:=J<|m12.Ek KM.out EU EU;replace S1:=J s12;replace MM:=J<|MM.out.trans m12;clear m12 s12 c1;have c1:=Of.out _ _ KM.out;go_wp2_with fail;refine(jH lo hi g gc gq gt gs _ (ns+m1) _ k v1 _ S1.out wR).mono ?_;rintro e13 JM ⟨rfl,s13,m13⟩;have S8:=J s13;replace MM:=J<|MM.out.trans m13;clear s13 m13;go_wp2;go_end0;refine⟨O,⟨_,m1+1,_,tF,S8.out,.inr ⟨HO.out.1,HO.out.2,?_,?_⟩⟩,MM.out⟩;·rw[Mo.out]
  ·rw[Mo.out];rfl
theorem EfL(t:EN)(po s d:Int)(th:Bool):((t.make po s d th).2≠0)\/(s=t.h/\t.e<65535/\d≠s/\1<=d/\d<=3/\t.o<0/\t.make po s d th=({t with o:=d,oa:=0,om:=max po 0},0)):=by
 unfold EN.make;by_cases h1:s≠t.h;·rw[if_pos h1];exact .inl Ej
 ·rw[if_neg h1];by_cases h2:65535<=t.e;·rw[if_pos h2];exact .inl Ej
  ·rw[if_neg h2];by_cases h3:d=s;·rw[if_pos h3];exact .inl Ej
   ·rw[if_neg h3];by_cases h4:d<1\/3<d\/th=EI;·rw[if_pos h4];exact .inl Ej
    ·rw[if_neg h4];by_cases h5:0<=t.o;·rw[if_pos h5];exact .inl Ej
     ·rw[if_neg h5];exact .inr ⟨U,U,h3,U,U,U,O⟩
theorem EfM(lo hi:Nat)(g:Nat->Y)(gc gq gt gs:Nat)(c:Ey)(ns:Nat)(rs:List Rec)(l:List Int)(k:Int)(w:M)(S:E9 lo hi g gc gq gt gs c ns rs w)(hk:1<=k/\k<=3)(hn:ns<800000)(hl:rs.length<800000): Eg EZ 131 #[V (D ⟨gs,0,Z⟩),E I k,Ea (EF l)] w fun e w'=>e=Ei (Eu #[])/\(∃c' m new,m<=3/\E9 lo hi g gc gq gt gs c' (ns+m) (rs++new) w'/\((∃cd,c'=c/\new=[⟨7,k,l.getD 1 0,c.tok.e,cd,0⟩])\/(∃po:Int,g 44=E I po/\k=c.tok.h/\c.tok.o<0/\c'={c with tok:={c.tok with o:=l.getD 3 0,oa:=0,om:=max po 0}}/\new=[⟨9,k,l.getD 1 0,c.tok.e,0,l.getD 3 0⟩])))/\EA lo hi w w':=by
 obtain⟨po,hpo,Wv⟩:=S.core.XV.fit 44 U U;have iQ:=J hpo;have ay:Ed ((po:Int)<=1000):=J (by have:=Wv.2.1;unfold U_ at this;simp at this;omega);have ZL:=fun d th W=>EXO g c.tok k d po th W hpo;have HK:=J hk;clear hpo Wv hk;obtain⟨Ip,Uq,Xf,ZE⟩: ∃Ip,c.tok.a=Ea Ip/\Ed (Ip.size=8)/\Ed (c.tok.v.toArray=Ip):=⟨_,O,J O,J O⟩;obtain⟨pv,hpv,w_,Mi⟩: ∃pv,EL 56 g=pv/\Ed (pv.size=56)/\Ed ((EL 56 g).toList.toArray=pv):=⟨_,O,J kW,J Ej⟩;have S0:=J S;have HN:=J hn;have HL:=J hl;have KM:=J<|H.new w (EF l) 183;have b1:=Er w (Eb (EF l) 183);have S1:=J<|S0.out.B b1;have MM:=J<|EA.ED (lo:=lo) (hi:=hi) b1;obtain⟨v1,hv1⟩:=Eo (l.getD 1 0);have Of:Ed (∀W g,H W g (EF l) 183->W.cell? ⟨g,1,Z⟩=D (E I v1)):=J (fun W g K=>by rw[hv1];exact X_ K 1 U U);try rw[<-hv1]
 replace hv1:=J hv1;obtain⟨v3,hv3⟩:=Eo (l.getD 3 0);have xO:Ed (∀W g,H W g (EF l) 183->W.cell? ⟨g,3,Z⟩=D (E I v3)):=J (fun W g K=>by rw[hv3];exact X_ K 3 U U);try rw[<-hv3]
 replace hv3:=J hv3;clear S hn hl S0;obtain⟨mv,hmv⟩:=Eo (EF l);rw[<-hmv] at KM b1 S1 MM Of xO⊢;clear hmv;cases hr:c.tok.make po k v3 (c.T.XN v3) with|mk t2 cd=>
 obtain⟨rv,IH,RS,RO⟩:=ZH t2;have RS:=J RS;have RO:=J RO;have Up:=J IH;have HR:=J hr;have CA:Ed (∀W,Eg EZ 178 #[Ea pv,Ea Ip,E I k,E I v3,Ec (c.T.XN v3)] W fun x w'=>x=Ei (Eu #[Ea rv,E I cd])/\El W w'):=J (fun W=>by have h:=ZL v3 (c.T.XN v3) W;rw[hr,Uq,hpv] at h;rw[<-IH];exact h);clear hr ZL Uq hpv;obtain⟨e2,he2⟩:=Eo t2.e;have CE:Ed (∀W g,H W g rv 109->W.cell? ⟨g,1,Z⟩=D (E I e2)):=J (fun W g K=>by have e:rv=Uc t2.h t2.e t2.o t2.oa t2.om t2.la t2.lm t2.bad:=Ww;subst e;rw[he2];exact(H.cell K 1).trans O);have ag:Ed (rv.toList=t2.v):=J (by have:=IH;unfold EN.a at this;injection this with this;rw[<-this];rfl);clear IH he2;have BR3:Tryz.prog.built 222 [(0,E I 135),(3,E I k),(4,E I e2)]=D (JJ [135,0,0,k,e2,0,0,0,0,0,0,0,0,0]):=Ef;go_enter Tryz.func131,Tryz.ntmps131;go_wp2_with fail;clear b1;generalize w.alloc (Eb mv 183)=w1 at*;obtain⟨gm,hgm⟩:=Eo w.heap.size;rw[<-hgm] at KM⊢;clear hgm;obtain⟨n0,hn0⟩:=Eo w1.heap.size;have Xt:=J (show lo<=n0/\hi<=n0/\w.heap.size<=n0 from oI);refine iS (Ph:=fun _ wq=>(E9 lo hi g gc gq gt gs c ns rs wq/\EA lo hi w wq/\H wq gm mv 183/\n0<=wq.heap.size)) (Rel:=J0) (Iw:=lQ) [.val (fun v=>v=V (D ⟨gs,0,Z⟩)),.val (fun v=>v=V (D ⟨gs,0,Z⟩)),.val (fun v=>v=V (D ⟨gs,0,Z⟩)),.val (fun v=>v=V (D ⟨gc,0,Z⟩)),.val (fun v=>v=V (D ⟨gc,0,Z⟩)),.val (fun v=>v=V (D ⟨gc,0,Z⟩)),.val (fun v=>v=Ea pv),.val (fun v=>v=V (D ⟨gs,0,Z⟩)),.val (fun v=>v=V (D ⟨gs,0,Z⟩)),.val (fun v=>v=V (D ⟨gs,0,Z⟩)),.val (fun v=>v=V (D ⟨gc,0,Z⟩)),.val (fun v=>v=V (D ⟨gc,0,Z⟩)),.val (fun v=>v=V (D ⟨gc,56,Z⟩)),.val (fun v=>v=Ea Ip),.val (fun v=>v=E I k),.val (fun v=>v=V (D ⟨gm,3,Z⟩)),.val (fun v=>v=E I v3),.val (fun v=>v=V (D ⟨gs,0,Z⟩)),.val (fun v=>v=V (D ⟨gs,0,Z⟩)),.val (fun v=>v=V (D ⟨gs,0,Z⟩)),.val (fun v=>v=V (D ⟨gc,0,Z⟩)),.val (fun v=>v=V (D ⟨gc,0,Z⟩)),.val (fun v=>v=V (D ⟨gc,95,Z⟩)),.val (fun v=>v=V (D ⟨gt,0,Z⟩)),.val (fun v=>v=V (D ⟨gm,3,Z⟩)),.val (fun v=>v=E I v3),.val (fun v=>v=Ec (c.T.XN v3)),.val (fun v=>v=Eu #[Ea rv,E I cd]),.val (fun v=>v=Eu #[Ea rv,E I cd]),.val (fun v=>v=Ea rv),.val (fun v=>v=E I cd),.dep (ah n0) (fun v w w' h hr=>h.B hr) (fun v w w' h hr=>h.iT hr),.tie [31] (fun x w=> ∃b:Nat,x 31=V (D ⟨b,0,Z⟩)/\n0<=b/\H w b rv 109) (fun x w w' h hr=>qK) (fun x y w hq h=>by rw[hq 31 Ej] at h;exact h),.val (fun v=>v=E I cd)] [EI,EI,EI,EI,EI,EI,EI,EI,EI,EI,EI,EI,EI,EI,EI,EI,EI,EI,EI,EI,EI,EI,EI,EI,EI,EI,EI,EI,EI,EI,EI,EI,EJ,EI] O [[],[],[],[],[],[],[],[],[],[],[],[],[],[],[],[],[],[],[],[],[],[],[],[],[],[],[],[],[],[],[],[],[31],[]] O [32] [(0,0),(0,0),(0,0),(0,0),(0,0),(0,0),(0,0),(0,0),(0,0),(0,0),(0,0),(0,0),(0,0),(0,0),(0,0),(0,0),(0,0),(0,0),(0,0),(0,0),(0,0),(0,0),(0,0),(0,0),(0,0),(0,0),(0,0),(0,0),(0,0),(0,0),(0,1),(0,0),(0,0),(1,1)] Ef Ef Ef Ef Ef Ef UP Ef ?hPh ?h0 ?hstep ?hend;case hPh=> intro p w2 w3 h hr;exact⟨h.1.B hr,h.2.1.trans (EA.ED hr),H.B h.2.2.1 hr,Ew h.2.2.2 (XE hr)⟩
 case h0=> exact EpS
 case hstep=>
  refine⟨?_,?_,?_,?_,?_,?_,?_,?_,?_,?_,?_,?_,?_,?_,?_,?_,?_,?_,?_,?_,?_,?_,?_,?_,?_,?_,?_,?_,?_,?_,?_,?_,?_,?_,trivial⟩;all_goals first|intro xv wq p hlo hhi hp hd|intro xv wq hp hd
  all_goals simp only[EM,Ih,Ik,Ic,If]
  ·exact Enx
  ·exact EnP
  ·exact EnN
  ·exact EpO
  ·exact EnM
  ·exact En6
  ·obtain rfl:p=0:=U;have d5:xv 5=V (D ⟨gc,0,Z⟩):=hd.at 5 rfl;obtain⟨big,KB,O8⟩:=bK hp.1.core;exact EoY
  ·exact Enx
  ·exact Eod
  ·exact Eoc
  ·obtain rfl:p=0:=U;have d9:xv 9=V (D ⟨gs,0,Z⟩):=hd.at 9 rfl;have cc:wq.cell? ⟨gs,0,Z⟩=D (V (D ⟨gc,0,Z⟩)):=hp.1.IB;exact Et wY O
  ·exact EoX
  ·exact EoU
  ·obtain rfl:p=0:=U;have d12:xv 12=V (D ⟨gc,56,Z⟩):=hd.at 12 rfl;obtain⟨big,KB,O8⟩:=bK hp.1.core;exact Eos
  ·exact Enx
  ·exact Enx
  ·obtain rfl:p=0:=U;have d15:xv 15=V (D ⟨gm,3,Z⟩):=hd.at 15 rfl;have cc:wq.cell? ⟨gm,3,Z⟩=D (E I v3):=xO.out _ _ hp.2.2.1;exact Et (by simp[go_sem,d15,cc]) O
  ·exact Enx
  ·obtain rfl:p=0:=U;have d17:xv 17=V (D ⟨gs,0,Z⟩):=hd.at 17 rfl;exact Et xI O
  ·obtain rfl:p=0:=U;have d18:xv 18=V (D ⟨gs,0,Z⟩):=hd.at 18 rfl;exact Et Mm O
  ·obtain rfl:p=0:=U;have d19:xv 19=V (D ⟨gs,0,Z⟩):=hd.at 19 rfl;have cc:wq.cell? ⟨gs,0,Z⟩=D (V (D ⟨gc,0,Z⟩)):=hp.1.IB;exact Et Dx O
  ·obtain rfl:p=0:=U;exact EqT
  ·obtain rfl:p=0:=U;have d21:xv 21=V (D ⟨gc,0,Z⟩):=hd.at 21 rfl;exact Et (by simp[go_sem,d21]) O
  ·obtain rfl:p=0:=U;have d22:xv 22=V (D ⟨gc,95,Z⟩):=hd.at 22 rfl;have cc:wq.cell? ⟨gc,95,Z⟩=D (V (D ⟨gt,0,Z⟩)):=hp.1.core.cell 6 rfl 0 Ej;exact Et Mn O
  ·exact Enx
  ·obtain rfl:p=0:=U;have d24:xv 24=V (D ⟨gm,3,Z⟩):=hd.at 24 rfl;have cc:wq.cell? ⟨gm,3,Z⟩=D (E I v3):=xO.out _ _ hp.2.2.1;exact Et (by simp[go_sem,d24,cc]) O
  ·obtain rfl:p=0:=U;have d23:xv 23=V (D ⟨gt,0,Z⟩):=hd.at 23 rfl;have d25:xv 25=E I v3:=hd.at 25 rfl;refine JL (f:=55) (args:= #[xv 23,xv 25]) (Eh O) Ez ?_;rw[d23,d25];exact(ny gt c.T v3 wq hp.1.core.tab hp.1.core.ok.T).mono fun e w2 h=>⟨_,h.1,h.2▸IU _ _,O⟩
  ·obtain rfl:p=0:=U;have d6:xv 6=Ea pv:=hd.at 6 rfl;have d13:xv 13=Ea Ip:=hd.at 13 rfl;have d14:xv 14=E I k:=hd.at 14 rfl;have d16:xv 16=E I v3:=hd.at 16 rfl;have d26:xv 26=Ec (c.T.XN v3):=hd.at 26 rfl;refine JL (f:=178) (args:= #[xv 6,xv 13,xv 14,xv 16,xv 26]) (Eh O) Ez ?_;rw[d6,d13,d14,d16,d26];exact Erf
  ·obtain rfl:p=0:=U;have d27:xv 27=Eu #[Ea rv,E I cd]:=hd.at 27 rfl;exact Et (by simp[go_sem,d27]) O
  ·obtain rfl:p=0:=U;exact EqS
  ·exact EqS
  ·exact EpM
  ·have d29:xv 29=Ea rv:=hd.at 29 rfl;obtain⟨b,d0,eA,lb,h8,kb⟩:ah n0 (xv 31) wq:=hd.at 31 rfl;have nh:=Xt.out;refine cX EW (Eh O) ⟨O,eA,d29⟩ kb h8 RS.out RO.out ⟨tG kb RS.out,?_⟩ ⟨b,eA,lb,kb.setRow _⟩;exact EpU
  ·obtain rfl:p=1:=U;have d30:xv 30=E I cd:=hd.at 30 rfl;exact Et (by simp[go_sem,d30]) O
 case hend=>
  intro xv W6 hp hd;clear S1 MM KM;simp only[EM,Ih,Ik,Ic,If];obtain⟨b,eA,lb,kb⟩: ∃b:Nat,xv 31=V (D ⟨b,0,Z⟩)/\n0<=b/\H W6 b rv 109:=hd 32 EU;have d33:xv 33=E I cd:=hd 33 EU;obtain⟨s6,m6,dT,-⟩:=hp;have S1:=J s6;have MM:=J m6;have KM:=J dT;have KB:=J kb;rw[eA,d33];clear s6 m6 dT kb hd eA d33 CA;have c1:=Of.out _ _ KM.out;rcases EfL c.tok po k v3 (c.T.XN v3) with hc|⟨q1,q2,q3,q4,q5,q6,hc⟩
  ·have hcd:cd≠0:=by rw[HR.out] at hc;exact hc
   have t9:(cd !=0)=EJ:=dP;clear hc hcd;exact Eof
  ·have hcd:cd=0:=xJ;have ht:t2={c.tok with o:=v3,oa:=0,om:=max (po:Int) 0}:=xJ;have HT:=J ht;have HTO:Ed (t2.ok):=J (by have hh:=S1.out.core.ok.tok;have hb:=ay.out;have hk:=HK.out;rw[ht];exact⟨hh.h,hh.e,⟨by show(-1:Int)<=v3;omega,q5⟩,⟨Zz _,by show(0:Int)<=1000;omega⟩,⟨by show(0:Int)<=max (po:Int) 0;omega,by show max (po:Int) 0<=1000;omega⟩,hh.la,hh.lm,fun _=>⟨by show 1<=c.tok.h;omega,by show c.tok.h<=3;omega,by show v3≠c.tok.h;omega⟩⟩);have HQ1:=J q1;have HQ6:=J q6;subst hcd;clear hc q1 q2 q3 q4 q5 q6 ht;go_wp2_with fail;have y0: ∀y:Ext W6,(EC W6 y).cell? ⟨gs,0,Z⟩=D (V (D ⟨gc,0,Z⟩)):=fun y=>(S1.out.B (EQ y)).IB;refine Oa 7 Ef Ef ?_;simp only[Is,Iq,IT,IM]
   repeat (first
    |go_big_quiet_skip
    |(go_big_quiet_want
      first
       |(refine UV (T:=109) (g:=b) EW _ rfl rfl KB ?_ ?_;(·exact RS.out);go_simp;go_big_quiet_on)
       |(go_big_quiet_op
         first
          |go_big_quiet_on
          |go_big_quiet_call (fail))))
   refine I5 ?_;intro _ hw';obtain⟨y9,rfl⟩:=hw';have En:=EQ y9;replace KB:=EH KB En;replace KM:=EH KM En;replace S1:=J<|S1.out.B En;replace MM:=J<|MM.out.trans (EA.ED En);clear y0 En c1;generalize EC W6 y9=w9 at*;have TH:=J<|db S1.out.core 1 rfl 8 XW;go_wp2_with ((with_reducible refine I3 109 ?_);(with_reducible refine Ux O 109 _ _ O gc 56 rv ?_ ?_ ?_ ?_ ?_ ?_);(·rfl);(·rfl);(·rw[RS.out];exact TH.out);(·rw[RS.out];exact EW.2);(·exact RO.out);refine Ex.mk ?_);apply Es;rw[ag.out];have S4:=S1.out.aN t2 (S1.out.core.ok.aN HTO.out);obtain⟨d0,d1,d2,hd,KG,-⟩:=S1.out.core.Ek;replace KB:=J<|(JP (g:=gc) t2.v 56 w9).Ek KB.out (E6 KB.out KG EU);replace KM:=J<|(JP (g:=gc) t2.v 56 w9).Ek KM.out (E6 KM.out KG EU);replace S1:=J S4.1;replace MM:=J<|MM.out.trans S4.2;clear S4 TH KG;generalize w9.setCells gc 56 t2.v=U8 at*;have c0:=CE.out _ _ KB.out;have c3:=xO.out _ _ KM.out;go_wp2_with ((with_reducible refine Io 60 ?_);refine I4 O 222 _ O (JJ [135,0,0,k,e2,0,0,0,0,0,0,0,0,0]) BR3 ?_);refine(DX lo hi g gc gq gt gs _ ns rs [135,0,0,k,e2,0,0,0,0,0,0,0,0,0] v3 _ S1.out (qj _ _ _ _ _ _) J_).mono ?_;rintro e11 fC ⟨rfl,⟨m1,hm1,s11⟩,m11⟩;replace KM:=J<|m11.Ek KM.out EU EU;replace S1:=J s11;replace MM:=J<|MM.out.trans m11;have jS:=J hm1;clear m11 s11 hm1 c0 c3 KB;have c1:=Of.out _ _ KM.out;have c3:=xO.out _ _ KM.out;go_wp2_with fail;refine(ZD lo hi g gc gq gt gs _ (ns+m1) rs 9 k v1 0 v3 _ S1.out JQ).mono ?_;rintro e12 UH ⟨rfl,s12,m12⟩;replace KM:=J<|m12.Ek KM.out EU EU;replace S1:=J s12;replace MM:=J<|MM.out.trans m12;clear m12 s12 c1 c3;have c1:=Of.out _ _ KM.out;go_wp2_with fail;refine(jH lo hi g gc gq gt gs _ (ns+m1) _ k v1 _ S1.out wR).mono ?_;rintro e13 JM ⟨rfl,s13,m13⟩;have S8:=J s13;replace MM:=J<|MM.out.trans m13;clear s13 m13;go_wp2;go_end0;refine⟨O,⟨_,m1+1,_,tF,S8.out,.inr ⟨po,iQ.out,HQ1.out,HQ6.out,?_,?_⟩⟩,MM.out⟩;·rw[HT.out,hv3.out]
   ·rw[HT.out]
theorem Wx:IL EZ 183 12:=⟨⟨_,Tryz.underlying183,O⟩,Ef⟩
theorem xU:IL EZ 25 4:=⟨⟨_,Tryz.underlying25,O⟩,Ef⟩
theorem DA{x m:Int}(hx:I_ x)(h0:0<=m/\m<=32767):I_ (bE x (-m) m):=by
 obtain⟨h1,h2⟩:=hx;unfold bE I_;repeat' split
 all_goals omega
theorem Wy(g:Nat->Y)(p0:Pt)(hf: ∀i,9<=i->i<56-> ∃n:Nat,g i=E I n/\cF i n)(hp:p0.ok)(k q cl x0 x1 x2 x3:Int)(hc:0<=cl/\cl<=3)(h0:I_ x0)(h1:I_ x1)(h2:I_ x2)(h3:I_ x3): ∃p:Pt,p.ok/\p.b=⟨1,k,q⟩/\ ∀W,Eg EZ 139 #[Ea (EL 56 g),Ea p0.v.toArray,E I cl,Ea #[E I x0,E I x1,E I x2,E I x3],Ea #[E I 1,E I k,E I q]] W fun e w'=>e=Ei (Ea p.v.toArray)/\El W w':=by
 have hb: ∀i,50<=i->i<54-> ∃n:Int,g i=E I n/\0<=n/\n<=32767:=fun i h4 h5=>by
  obtain⟨n,e,ho⟩:=hf i U U;refine⟨n,e,U,?_⟩;have:=ho.2.1
  have hh:U_ i<=1000:=by
   unfold U_;repeat' split
   all_goals omega
  omega
 have mk: ∀(cl m:Int),0<=cl/\cl<=3->0<=m/\m<=32767->(⟨cl,bE x0 (-m) m,bE x1 (-m) m,bE x2 (-m) m,bE x3 (-m) m,p0.n0,p0.n1,p0.n2,p0.n3,⟨1,k,q⟩⟩:Pt).ok:=fun cl m h4 h5=>⟨⟨by show _<=cl;omega,by show cl<=_;omega⟩,DA h0 h5,DA h1 h5,DA h2 h5,DA h3 h5,hp.n0,hp.n1,hp.n2,hp.n3⟩;have h:cl=0\/cl=1\/cl=2\/cl=3:=U;rcases h with rfl|rfl|rfl|rfl;·obtain⟨m,e,hm⟩:=hb 50 U U;exact⟨_,mk 0 m U hm,O,fun W=>Dk g m 0 50 U e hm p0.c p0.a0 p0.a1 p0.a2 p0.a3 p0.n0 p0.n1 p0.n2 p0.n3 p0.b.r p0.b.s p0.b.q 1 k q x0 x1 x2 x3 W⟩
 ·obtain⟨m,e,hm⟩:=hb 51 U U;exact⟨_,mk 1 m U hm,O,fun W=>Dk g m 1 51 U e hm p0.c p0.a0 p0.a1 p0.a2 p0.a3 p0.n0 p0.n1 p0.n2 p0.n3 p0.b.r p0.b.s p0.b.q 1 k q x0 x1 x2 x3 W⟩
 ·obtain⟨m,e,hm⟩:=hb 52 U U;exact⟨_,mk 2 m U hm,O,fun W=>Dk g m 2 52 U e hm p0.c p0.a0 p0.a1 p0.a2 p0.a3 p0.n0 p0.n1 p0.n2 p0.n3 p0.b.r p0.b.s p0.b.q 1 k q x0 x1 x2 x3 W⟩
 ·obtain⟨m,e,hm⟩:=hb 53 U U;exact⟨_,mk 3 m U hm,O,fun W=>Dk g m 3 53 U e hm p0.c p0.a0 p0.a1 p0.a2 p0.a3 p0.n0 p0.n1 p0.n2 p0.n3 p0.b.r p0.b.s p0.b.q 1 k q x0 x1 x2 x3 W⟩
structure xX(l:List Int):Prop where
 q:0<=l.getD 1 0/\l.getD 1 0<=4294967295
 m:0<=l.getD 5 0/\l.getD 5 0<=4
 c:0<=l.getD 6 0/\l.getD 6 0<=3
 x0:I_ (l.getD 8 0)
 x1:I_ (l.getD 9 0)
 x2:I_ (l.getD 10 0)
 x3:I_ (l.getD 11 0)
theorem EfS(lo hi:Nat)(g:Nat->Y)(gc gq gt gs:Nat)(c:Ey)(ns:Nat)(rs:List Rec)(l:List Int)(k:Int)(w:M)(S:E9 lo hi g gc gq gt gs c ns rs w)(hk:1<=k/\k<=3)(hm:xX l)(hn:ns<800000)(hl:rs.length<800000): Eg EZ 135 #[V (D ⟨gs,0,Z⟩),E I k,Ea (EF l)] w fun e w'=>e=Ei (Eu #[])/\(∃c' m new,m<=3/\E9 lo hi g gc gq gt gs c' (ns+m) (rs++new) w'/\((∃cd,c'=c/\new=[⟨7,k,l.getD 1 0,c.tok.e,cd,0⟩])\/(new=[⟨6,k,l.getD 1 0,c.tok.e,0,0⟩]/\(c'={c with mode:=l.getD 5 0,En:=⟨1,k,l.getD 1 0⟩}\/ ∃p:Pt,p.b=⟨1,k,l.getD 1 0⟩/\c'={c with pt:=p}))))/\EA lo hi w w':=by
 have HK:=J hk;have jV:=J hm;obtain⟨jd,tK⟩: ∃jd:Int,∀W,Xs W->Eg EZ 138 #[Ea (EL 56 g),Ea c.tok.v.toArray,E I k,E I (c.T.cL k),E I c.mode,Ea (EF l)] W fun e w'=>e=Ei (E I jd)/\El W w':=⟨_,fun W hc=>Vd g c.tok.h c.tok.e k (c.T.cL k) c.mode (l.getD 0 0) (l.getD 4 0) (l.getD 5 0) (l.getD 6 0) (E I c.tok.o) (E I c.tok.oa) (E I c.tok.om) (E I c.tok.la) (E I c.tok.lm) (Ec c.tok.bad) (E I (l.getD 1 0)) (E I (l.getD 2 0)) (E I (l.getD 3 0)) (Ec (l.getD 7 0==1)) (E I (l.getD 8 0)) (E I (l.getD 9 0)) (E I (l.getD 10 0)) (E I (l.getD 11 0)) W (fun i h1 h2=>S.core.XV.int i h2 (.inr U)) hc⟩;clear hk hm;have Wz:Ed ((EF l).size=12):=J<|Ja l;have MG:Ed (∃A:List Y,A.length=8/\ ∀W g,H W g (EF l) 183->Jl W g [A,[E I (l.getD 8 0),E I (l.getD 9 0),E I (l.getD 10 0),E I (l.getD 11 0)]] 183):=J ⟨[E I (l.getD 0 0),E I (l.getD 1 0),E I (l.getD 2 0),E I (l.getD 3 0),E I (l.getD 4 0),E I (l.getD 5 0),E I (l.getD 6 0),Ec (l.getD 7 0==1)],O,fun W g K=>K⟩;obtain⟨p,hpo,hpb,lS⟩: ∃p:Pt,p.ok/\p.b=⟨1,k,l.getD 1 0⟩/\ ∀W,Eg EZ 139 #[Ea (EL 56 g),Ea c.pt.v.toArray,E I (l.getD 6 0),Ea #[E I (l.getD 8 0),E I (l.getD 9 0),E I (l.getD 10 0),E I (l.getD 11 0)],Ea #[E I 1,E I k,E I (l.getD 1 0)]] W fun e w'=>e=Ei (Ea p.v.toArray)/\El W w':=Wy g c.pt S.core.XV.fit S.core.ok.pt k (l.getD 1 0) (l.getD 6 0) (l.getD 8 0) (l.getD 9 0) (l.getD 10 0) (l.getD 11 0) jV.out.c jV.out.x0 jV.out.x1 jV.out.x2 jV.out.x3;have iQ:=J hpo;have ay:=J hpb;have CS:=J lS;clear hpo hpb lS;have S0:=J S;have HN:=J hn;have HL:=J hl;have KM:=J<|H.new w (EF l) 183;have b1:=Er w (Eb (EF l) 183);have S1:=J<|S0.out.B b1;have MM:=J<|EA.ED (lo:=lo) (hi:=hi) b1;obtain⟨v0,hv0⟩:=Eo (l.getD 0 0);have DB:Ed (∀W g,H W g (EF l) 183->W.cell? ⟨g,0,Z⟩=D (E I v0)):=J (fun W g K=>by rw[hv0];exact X_ K 0 U U);try rw[<-hv0]
 replace hv0:=J hv0;obtain⟨v1,hv1⟩:=Eo (l.getD 1 0);have Of:Ed (∀W g,H W g (EF l) 183->W.cell? ⟨g,1,Z⟩=D (E I v1)):=J (fun W g K=>by rw[hv1];exact X_ K 1 U U);try rw[<-hv1]
 replace hv1:=J hv1;obtain⟨v5,hv5⟩:=Eo (l.getD 5 0);have WA:Ed (∀W g,H W g (EF l) 183->W.cell? ⟨g,5,Z⟩=D (E I v5)):=J (fun W g K=>by rw[hv5];exact X_ K 5 U U);try rw[<-hv5]
 replace hv5:=J hv5;obtain⟨v6,hv6⟩:=Eo (l.getD 6 0);have WB:Ed (∀W g,H W g (EF l) 183->W.cell? ⟨g,6,Z⟩=D (E I v6)):=J (fun W g K=>by rw[hv6];exact X_ K 6 U U);try rw[<-hv6]
 replace hv6:=J hv6;obtain⟨v8,tL⟩:=Eo (l.getD 8 0);have MC8:Ed (∀W g,H W g (EF l) 183->W.cell? ⟨g,8,Z⟩=D (E I v8)):=J (fun W g K=>by rw[tL];exact X_ K 8 U U);try rw[<-tL]
 replace tL:=J tL;obtain⟨v9,tM⟩:=Eo (l.getD 9 0);have MC9:Ed (∀W g,H W g (EF l) 183->W.cell? ⟨g,9,Z⟩=D (E I v9)):=J (fun W g K=>by rw[tM];exact X_ K 9 U U);try rw[<-tM]
 replace tM:=J tM;obtain⟨v10,tN⟩:=Eo (l.getD 10 0);have EfW:Ed (∀W g,H W g (EF l) 183->W.cell? ⟨g,10,Z⟩=D (E I v10)):=J (fun W g K=>by rw[tN];exact X_ K 10 U U);try rw[<-tN]
 replace tN:=J tN;obtain⟨v11,tP⟩:=Eo (l.getD 11 0);have EfY:Ed (∀W g,H W g (EF l) 183->W.cell? ⟨g,11,Z⟩=D (E I v11)):=J (fun W g K=>by rw[tP];exact X_ K 11 U U);try rw[<-tP]
 replace tP:=J tP;clear S hn hl S0;obtain⟨mv,hmv⟩:=Eo (EF l);rw[<-hmv] at KM b1 S1 MM DB Of WA WB MC8 MC9 EfW EfY tK Wz MG⊢;clear hmv;go_enter Tryz.func135,Tryz.ntmps135;go_wp2_with fail;clear b1;generalize w.alloc (Eb mv 183)=w1 at*;obtain⟨gm,hgm⟩:=Eo w.heap.size;rw[<-hgm] at KM⊢;clear hgm;obtain⟨d0,d1,d2,hd,KG,o0,o1,o2,-,-⟩:=S1.out.core.Ek;have Xh:=J<|Oo (c:=c) (gq:=gq) (gt:=gt) (hd:=hd) (JC g) o0 o1 o2 0 U;have xZ:=J<|Oo (c:=c) (gq:=gq) (gt:=gt) (hd:=hd) (JC g) o0 o1 o2 1 U;have KG:=J KG;have PL:=J<|JC g;have CJ:=J tK;have TB:=J S1.out.core.tab;have DC:=J S1.out.core.ok.T;have DD:=J S1.out.core.cmds;clear o0 o1 o2 tK;have y0: ∀y:Ext w1,(EC w1 y).cell? ⟨gs,0,Z⟩=D (V (D ⟨gc,0,Z⟩)):=fun y=>(S1.out.B (EQ y)).IB;have y95: ∀y:Ext w1,(EC w1 y).cell? ⟨gc,95,Z⟩=D (V (D ⟨gt,0,Z⟩)):=fun y=>(S1.out.B (EQ y)).core.cell 6 rfl 0 Ej;have y98: ∀y:Ext w1,(EC w1 y).cell? ⟨gc,98,Z⟩=D (E I c.mode):=fun y=>(S1.out.B (EQ y)).core.cell 9 rfl 0 Ej;have XJ:Ed ((EL 56 g).toList.toArray=EL 56 g):=J Ej;refine ZQ Ef Ef ?_
 repeat (first
  |go_big_quiet_skip
  |(go_big_quiet_want
    first
     |(refine Zf (T:=28) (g:=gc) (off:=0) U1 _ rfl rfl KG 0 rfl Xh.out PL.out ?_;(try rw[XJ.out]);go_simp;go_big_quiet_on)
     |(refine Zf (T:=109) (g:=gc) (off:=56) EW _ rfl rfl KG 1 rfl xZ.out rfl ?_;go_simp;go_big_quiet_on)
     |(refine UV (T:=183) (g:=gm) Wx _ rfl rfl KM ?_ ?_;(·exact Wz.out);go_simp;go_big_quiet_on)
     |(go_big_quiet_op
       first
        |go_big_quiet_on
        |go_big_quiet_call (with_reducible first|refine mW (sF gt c.T k _ (TB.out.B (EQ _)) DC.out)|refine ao (CJ.out _ (DD.out.B (EQ _)))))))
 refine I5 ?_;intro _ hw';obtain⟨y9,rfl⟩:=hw';have En:=EQ y9;replace KM:=EH KM En;replace S1:=J<|S1.out.B En;replace MM:=J<|MM.out.trans (EA.ED En);clear y0 y95 y98 En KG Xh xZ PL XJ;generalize EC w1 y9=w2 at*;have c1:=Of.out _ _ KM.out;by_cases hjd:jd=0
 ·subst hjd;have Mq:Tryz.prog.built 36 [(0,E I 1),(1,E I k),(2,E I v1)]=D #[E I 1,E I k,E I v1]:=Ef;go_wp2_with (first|((with_reducible refine Io 52 ?_);refine I4 rfl {LT} _ rfl #[E I 1,E I k,E I v1] Mq ?_)|(with_reducible refine JE 54 ?_));apply Es;generalize hW:Xo _ _=w4 at*;have KL:Ed (H w4 (w2.heap.size) #[E I 1,E I k,E I v1] 36):=J (by subst hW;repeat (first|exact H.new _ _ _|exact H.new' _ _ _ Ej|refine H.alloc ?_ _));have b3:Ed (El w2 w4):=J L7;clear hW;obtain⟨gl,hgl⟩:=Eo w2.heap.size;rw[<-hgl] at KL⊢;clear hgl;have w4e:True:=trivial;replace KM:=EH KM b3.out;replace S1:=J<|S1.out.B b3.out;replace MM:=J<|MM.out.trans (EA.ED b3.out);clear b3 c1;have c0:=DB.out _ _ KM.out;have Z5:Ed ((⟨1,k,v1⟩:Xz).ok):=J (by have h1:=HK.out;have h2:=jV.out.q;rw[<-hv1.out] at h2;exact⟨oO,⟨by show _<=k;omega,by show k<=_;omega⟩,⟨by show _<=v1;omega,by show v1<=_;omega⟩⟩);by_cases hk10:v0=10
  ·have t10:(v0==10)=EJ:=by simp[hk10]
   clear hk10;go_wp2_with fail;have y0: ∀y:Ext w4,(EC w4 y).cell? ⟨gs,0,Z⟩=D (V (D ⟨gc,0,Z⟩)):=fun y=>(S1.out.B (EQ y)).IB;have y5: ∀y:Ext w4,(EC w4 y).cell? ⟨gm,5,Z⟩=D (E I v5):=fun y=>WA.out _ _ (H.B KM.out (EQ y));refine Oa 8 Ef Ef ?_;simp only[Is,Iq,IT,IM];repeat (go_big_quiet_step (fail))
   refine I5 ?_;intro _ hw';obtain⟨y9,rfl⟩:=hw';have En:=EQ y9;replace KM:=EH KM En;replace KL:=EH KL En;replace S1:=J<|S1.out.B En;replace MM:=J<|MM.out.trans (EA.ED En);clear y0 y5 En c0;generalize EC w4 y9=w5 at*;have zm:w5.cell? ⟨gc,98,Z⟩=D (E I c.mode):=S1.out.core.cell 9 rfl 0 Ej;have zf:=tD S1.out.core 98;go_wp2_with fail;have S4:=S1.out.wP v5 (S1.out.core.ok.wP (by rw[hv5.out];exact jV.out.m));obtain⟨d0,d1,d2,hd,KG,-⟩:=S1.out.core.Ek;replace KL:Ed (H (w5.setCell ⟨gc,98,Z⟩ (E I v5)) gl #[E I 1,E I k,E I v1] 36):=J<|(JS (g:=gc) (W:=w5) 98 (E I v5)).Ek KL.out (E6 KL.out KG EU);replace KM:Ed (H (w5.setCell ⟨gc,98,Z⟩ (E I v5)) gm mv 183):=J<|(JS (g:=gc) (W:=w5) 98 (E I v5)).Ek KM.out (E6 KM.out KG EU);replace S1:Ed (E9 lo hi g gc gq gt gs {c with mode:=v5} ns rs (w5.setCell ⟨gc,98,Z⟩ (E I v5))):=J S4.1;replace MM:Ed (EA lo hi w (w5.setCell ⟨gc,98,Z⟩ (E I v5))):=J<|MM.out.trans S4.2;clear S4 zm zf KG;generalize w5.setCell ⟨gc,98,Z⟩ (E I v5)=w6 at*;have y0: ∀y:Ext w6,(EC w6 y).cell? ⟨gs,0,Z⟩=D (V (D ⟨gc,0,Z⟩)):=fun y=>(S1.out.B (EQ y)).IB;refine Oa 7 Ef Ef ?_;simp only[Is,Iq,IT,IM]
   repeat (first
    |go_big_quiet_skip
    |(go_big_quiet_want
      first
       |(refine UV (T:=36) (g:=gl) fR _ rfl rfl KL ?_ ?_;(·rfl);go_simp;go_big_quiet_on)
       |(go_big_quiet_op
         first
          |go_big_quiet_on
          |go_big_quiet_call (fail))))
   refine I5 ?_;intro _ hw';obtain⟨y9,rfl⟩:=hw';have En:=EQ y9;replace KM:=EH KM En;replace KL:=EH KL En;replace S1:=J<|S1.out.B En;replace MM:=J<|MM.out.trans (EA.ED En);clear y0 En;generalize EC w6 y9=w7 at*;have TH:=J<|db S1.out.core 10 rfl 3 (by simp[Xz.v]);go_wp2_with ((with_reducible refine I3 36 ?_);(with_reducible refine Ux O 36 _ _ O gc 99 #[E I 1,E I k,E I v1] ?_ ?_ ?_ ?_ ?_ ?_);(·rfl);(·rfl);(·exact TH.out);(·exact fR.2);(·simp[Oc]);refine Ex.mk ?_);apply Es;have S4:=S1.out.wQ ⟨1,k,v1⟩ (S1.out.core.ok.wQ Z5.out);obtain⟨d0,d1,d2,hd,KG,-⟩:=S1.out.core.Ek;replace KM:Ed (H (w7.setCells gc 99 (⟨1,k,v1⟩:Xz).v) gm mv 183):=J<|(JP (g:=gc) (⟨1,k,v1⟩:Xz).v 99 w7).Ek KM.out (E6 KM.out KG EU);replace S1:=J S4.1;replace MM:=J<|MM.out.trans S4.2;clear S4 TH KG KL;change Ib _ _ _ _ _ (w7.setCells gc 99 (⟨1,k,v1⟩:Xz).v);generalize w7.setCells gc 99 (⟨1,k,v1⟩:Xz).v=w8 at*;have c1:=Of.out _ _ KM.out;go_wp2_with fail;refine(ZD lo hi g gc gq gt gs _ ns rs 6 k v1 0 0 _ S1.out JQ).mono ?_;rintro e12 UH ⟨rfl,s12,m12⟩;replace KM:=J<|m12.Ek KM.out EU EU;replace S1:=J s12;replace MM:=J<|MM.out.trans m12;clear m12 s12 c1;have c1:=Of.out _ _ KM.out;go_wp2_with fail;refine(jH lo hi g gc gq gt gs _ ns _ k v1 _ S1.out J_).mono ?_;rintro e13 JM ⟨rfl,s13,m13⟩;have S8:=J s13;replace MM:=J<|MM.out.trans m13;clear s13 m13;go_wp2;go_end0;refine⟨O,⟨_,1,_,U,S8.out,.inr ⟨O,.inl ?_⟩⟩,MM.out⟩;rw[hv5.out]
  ·have t10:(v0==10)=EI:=by simp[hk10]
   go_wp2_with fail;obtain⟨d0,d1,d2,hd,KG,o0,o1,o2,-,-⟩:=S1.out.core.Ek;have Xh:=J<|Oo (c:=c) (gq:=gq) (gt:=gt) (hd:=hd) (JC g) o0 o1 o2 0 U;have iW:=J<|Oo (c:=c) (gq:=gq) (gt:=gt) (hd:=hd) (JC g) o0 o1 o2 11 U;have KG:=J KG;have PL:=J<|JC g;obtain⟨A8,WC,WF⟩:=MG.out;have KX:=J<|WF _ _ KM.out;have OX:Ed (bh [A8,[E I v8,E I v9,E I v10,E I v11]] 1=8):=J (by simp[bh,WC]);rw[<-tL.out,<-tM.out,<-tN.out,<-tP.out] at KX;rw[<-hv1.out,<-hv6.out,<-tL.out,<-tM.out,<-tN.out,<-tP.out] at CS;have y0: ∀y:Ext w4,(EC w4 y).cell? ⟨gs,0,Z⟩=D (V (D ⟨gc,0,Z⟩)):=fun y=>(S1.out.B (EQ y)).IB;have y6: ∀y:Ext w4,(EC w4 y).cell? ⟨gm,6,Z⟩=D (E I v6):=fun y=>WB.out _ _ (H.B KM.out (EQ y));clear o0 o1 o2 WC WF;refine Oa 26 Ef Ef ?_;simp only[Is,Iq,IT,IM]
   repeat (first
    |go_big_quiet_skip
    |(go_big_quiet_want
      first
       |(refine Zf (T:=28) (g:=gc) (off:=0) U1 _ rfl rfl KG 0 rfl Xh.out PL.out ?_;go_simp;go_big_quiet_on)
       |(refine Zf (T:=50) (g:=gc) (off:=102) iP _ rfl rfl KG 11 rfl iW.out rfl ?_;go_simp;go_big_quiet_on)
       |(refine Zf (T:=25) (g:=gm) (off:=8) xU _ rfl rfl KX 1 rfl OX.out rfl ?_;go_simp;go_big_quiet_on)
       |(refine UV (T:=36) (g:=gl) fR _ rfl rfl KL ?_ ?_;(·rfl);go_simp;go_big_quiet_on)
       |(go_big_quiet_op
         first
          |go_big_quiet_on
          |go_big_quiet_call (with_reducible refine ao (CS.out _)))))
   refine I5 ?_;intro _ hw';obtain⟨y9,rfl⟩:=hw';have En:=EQ y9;replace KM:=EH KM En;replace S1:=J<|S1.out.B En;replace MM:=J<|MM.out.trans (EA.ED En);clear y0 y6 En KG Xh iW KX OX;generalize EC w4 y9=w5 at*;have TH:=J<|db S1.out.core 11 rfl 12 wT;go_wp2_with ((with_reducible refine I3 50 ?_);(with_reducible refine Ux O 50 _ _ O gc 102 p.v.toArray ?_ ?_ ?_ ?_ ?_ ?_);(·rfl);(·rfl);(·exact TH.out);(·exact iP.2);(·simp[Pt.v,Oc]);refine Ex.mk ?_);apply Es;have S4:=S1.out.iN p (S1.out.core.ok.iN iQ.out);obtain⟨d0,d1,d2,hd,KG,-⟩:=S1.out.core.Ek;replace KM:Ed (H (w5.setCells gc 102 p.v) gm mv 183):=J<|(JP (g:=gc) p.v 102 w5).Ek KM.out (E6 KM.out KG EU);replace S1:=J S4.1;replace MM:=J<|MM.out.trans S4.2;clear S4 TH KG;change Ib _ _ _ _ _ (w5.setCells gc 102 p.v);generalize w5.setCells gc 102 p.v=w8 at*;have c1:=Of.out _ _ KM.out;go_wp2_with fail;refine(ZD lo hi g gc gq gt gs _ ns rs 6 k v1 0 0 _ S1.out JQ).mono ?_;rintro e12 UH ⟨rfl,s12,m12⟩;replace KM:=J<|m12.Ek KM.out EU EU;replace S1:=J s12;replace MM:=J<|MM.out.trans m12;clear m12 s12 c1;have c1:=Of.out _ _ KM.out;go_wp2_with fail;refine(jH lo hi g gc gq gt gs _ ns _ k v1 _ S1.out J_).mono ?_;rintro e13 JM ⟨rfl,s13,m13⟩;have S8:=J s13;replace MM:=J<|MM.out.trans m13;clear s13 m13;go_wp2;go_end0;exact⟨O,⟨_,1,_,U,S8.out,.inr ⟨O,.inr ⟨p,by rw[ay.out,hv1.out],O⟩⟩⟩,MM.out⟩
 ·have t9:(jd !=0)=EJ:=by simpa using hjd
  go_wp2_with fail;refine(iL lo hi g gc gq gt gs c ns rs k v1 jd _ S1.out J_ JQ).mono ?_;rintro e7 w7 ⟨rfl,s7,m7⟩;have S8:=J s7;replace MM:=J<|MM.out.trans m7;clear s7 m7;go_wp2_with fail;refine ET (UQ O _ _ _) O ?_;exact⟨O,⟨_,1,_,U,S8.out,.inl ⟨jd,O,O⟩⟩,MM.out⟩
def fT(xs:List Int)(k:Int):Bool:=match xs with
 |[]=>EI
 |x::_=>x==k
theorem Ef0(A:Option Ep)(xs:List Int)(n c:Nat)(k:Int)(w:M)(hn:xs.length=n)(hr:Row w A xs)(hm:n<=9223372036854775807): Eg EZ 85 #[G A n c,E Ix k] w fun e w'=>e=Ei (Ec (fT xs k))/\w=w':=by
 obtain⟨hr,hb⟩:=hr;cases xs with
 |nil=>
  obtain rfl:n=0:=by rw[<-hn];rfl
  go_enter Tryz.func85,Tryz.ntmps85;exact Enu
 |cons x r=>
  obtain⟨m,rfl⟩: ∃m,n=m+1:=⟨r.length,by rw[<-hn];rfl⟩;rcases hr with e|⟨b,off,rfl,hc⟩;·cases e
  ·have h0:w.cell? ⟨b,off,Z⟩=D (E Ix x):=by have:=hc 0 Ej;simpa using this
   have t1:decide (0<((m:Int)+1))=EJ:=IJ U;have er:fT (x::r) k=(x==k):=rfl;rw[er];clear hc hb hn er;go_enter Tryz.func85,Tryz.ntmps85;exact Enu
theorem Ef1{bs:List Int}(hb: ∀x∈bs,0<=x/\x<=255)(h:fG bs=D l):xX l:=by
 obtain⟨hp,hl,-⟩:=Kv hb h;match l,hl with
 |[a0,a1,a2,a3,a4,a5,a6,a7,a8,a9,Uf,OU],_=>
  obtain⟨hf,-⟩:=Ta a0 a1 a2 a3 a4 a5 a6 a7 a8 a9 Uf OU bs hp;have h2:=(Kx _ _ _ _ _ _ _ _ _ _ _).1 hf;obtain⟨x8,x9,gA,iY,k0,q,e4,r2,t3,m5,c6⟩:=h2;refine⟨q,m5,⟨?_,c6.2⟩,?_,?_,?_,?_⟩;·show 0<=a6;have:=c6.1;split at this<;>omega
  ·exact⟨by show _<=a8;omega,by show a8<=_;omega⟩
  ·exact⟨by show _<=a9;omega,by show a9<=_;omega⟩
  ·exact⟨by show _<=Uf;omega,by show Uf<=_;omega⟩
  ·exact⟨by show _<=OU;omega,by show OU<=_;omega⟩
def oU(w:M)(r:Nat)(o:Obj):M:={w with heap:=w.heap.setIfInBounds r o}
theorem lT{es:Array MapEntry}{clock:Nat}(h:W.heap[g]?=D (.map es clock))(k:Int)(v:Y)(hf: ∀W,(Instr.findKey 3 (E I k) es.toList).run EZ W= .ok Z W): (jW 188 (.map (D g)) (E I k) v).run EZ W= .ok () (oU W g (.map (es.push {key:=E I k,val:=v,born:=clock}) (clock+1))):=by
 have hu: ∀W,Uv EZ (underlying 188) W= .ok (.map 3 186) W:=fun _=>Ef;have hck: ∀W,(Instr.checkKey EI 10000 3 (E I k)).run EZ W= .ok () W:=fun _=>Ef;have hg:(Sem.getObj g Sem.pure).run EZ W= .ok (.map es clock) W:=by simp[Uv,h]
 have hs: ∀o,(setObj g o).run EZ W= .ok () (oU W g o):=fun o=>by simp[setObj,Uv,h,oU]
 unfold jW;simp only[OH,hu,OM,getObj,hg,hck,hf,hs]
def JN(gs:Nat)(k:Int)(f:Nat)(n:Nat):MapEntry:={key:=E I k,val:= .func (.func f) #[V (D ⟨gs,0,Z⟩)] #[],born:=n}
def Xi(gs:Nat):Nat->Array MapEntry
 |0=> #[]
 |1=> #[JN gs 3 128 0]
 |2=> #[JN gs 3 128 0,JN gs 4 129 1]
 |3=> #[JN gs 3 128 0,JN gs 4 129 1,JN gs 5 130 2]
 |4=> #[JN gs 3 128 0,JN gs 4 129 1,JN gs 5 130 2,JN gs 6 131 3]
 |5=> #[JN gs 3 128 0,JN gs 4 129 1,JN gs 5 130 2,JN gs 6 131 3,JN gs 7 132 4]
 |6=> #[JN gs 3 128 0,JN gs 4 129 1,JN gs 5 130 2,JN gs 6 131 3,JN gs 7 132 4,JN gs 8 133 5]
 |7=> #[JN gs 3 128 0,JN gs 4 129 1,JN gs 5 130 2,JN gs 6 131 3,JN gs 7 132 4,JN gs 8 133 5,JN gs 9 134 6]
 |8=> #[JN gs 3 128 0,JN gs 4 129 1,JN gs 5 130 2,JN gs 6 131 3,JN gs 7 132 4,JN gs 8 133 5,JN gs 9 134 6,JN gs 10 135 7]
 |9=> #[JN gs 3 128 0,JN gs 4 129 1,JN gs 5 130 2,JN gs 6 131 3,JN gs 7 132 4,JN gs 8 133 5,JN gs 9 134 6,JN gs 10 135 7,JN gs 11 135 8]
 |_=> #[]
theorem lV{o o':Obj}(h:W.heap[g]?=D o):(oU W g o').heap[g]?=D o':=by have hl:g<W.heap.size:=(J3.1 h).1;simp[oU,hl]
theorem lY{W0:M}{o:Obj}(h:El W0 W)(hg:W0.heap.size<=g):El W0 (oU W g o):=
 ⟨h.os,h.tape,h.output,by simpa[oU] using h.size,fun k hk=>by have:=h.block k hk;simp only[oU];rw[Array.getElem?_setIfInBounds_ne U];exact this⟩
theorem Ef2(gs:Nat)(w:M): Eg EZ 89 #[V (D ⟨gs,0,Z⟩)] w fun e w'=>e=Ei (.map (D w.heap.size))/\w'.heap[w.heap.size]?=D (.map (Xi gs 9) 9)/\El w w':=by
 obtain⟨W0,hW0⟩: ∃W0,W0=w.alloc (.map #[] 0):=⟨_,O⟩;have hmm:(Instr.makeMap 188 Z).run EZ w= .ok (.map (D w.heap.size)) W0:=by rw[hW0];rfl
 have H0:W0.heap[w.heap.size]?=D (.map (Xi gs 0) 0):=by rw[hW0];exact gI w _
 have B0:El w W0:=by rw[hW0];exact Er w _
 clear hW0;obtain⟨W1,f0,H1,B1⟩: ∃W',(jW 188 (.map (D w.heap.size)) (E I 3) (.func (.func 128) #[V (D ⟨gs,0,Z⟩)] #[])).run EZ W0= .ok () W'/\W'.heap[w.heap.size]?=D (.map (Xi gs 1) 1)/\El w W':=⟨_,lT H0 3 _ (fun _=>Ef),lV H0,lY B0 (E3 _)⟩;clear H0 B0;obtain⟨W2,f1,H2,B2⟩: ∃W',(jW 188 (.map (D w.heap.size)) (E I 4) (.func (.func 129) #[V (D ⟨gs,0,Z⟩)] #[])).run EZ W1= .ok () W'/\W'.heap[w.heap.size]?=D (.map (Xi gs 2) 2)/\El w W':=⟨_,lT H1 4 _ (fun _=>Ef),lV H1,lY B1 (E3 _)⟩;clear H1 B1;obtain⟨W3,f2,H3,B3⟩: ∃W',(jW 188 (.map (D w.heap.size)) (E I 5) (.func (.func 130) #[V (D ⟨gs,0,Z⟩)] #[])).run EZ W2= .ok () W'/\W'.heap[w.heap.size]?=D (.map (Xi gs 3) 3)/\El w W':=⟨_,lT H2 5 _ (fun _=>Ef),lV H2,lY B2 (E3 _)⟩;clear H2 B2;obtain⟨W4,f3,H4,B4⟩: ∃W',(jW 188 (.map (D w.heap.size)) (E I 6) (.func (.func 131) #[V (D ⟨gs,0,Z⟩)] #[])).run EZ W3= .ok () W'/\W'.heap[w.heap.size]?=D (.map (Xi gs 4) 4)/\El w W':=⟨_,lT H3 6 _ (fun _=>Ef),lV H3,lY B3 (E3 _)⟩;clear H3 B3;obtain⟨W5,f4,H5,B5⟩: ∃W',(jW 188 (.map (D w.heap.size)) (E I 7) (.func (.func 132) #[V (D ⟨gs,0,Z⟩)] #[])).run EZ W4= .ok () W'/\W'.heap[w.heap.size]?=D (.map (Xi gs 5) 5)/\El w W':=⟨_,lT H4 7 _ (fun _=>Ef),lV H4,lY B4 (E3 _)⟩;clear H4 B4;obtain⟨W6,f5,H6,B6⟩: ∃W',(jW 188 (.map (D w.heap.size)) (E I 8) (.func (.func 133) #[V (D ⟨gs,0,Z⟩)] #[])).run EZ W5= .ok () W'/\W'.heap[w.heap.size]?=D (.map (Xi gs 6) 6)/\El w W':=⟨_,lT H5 8 _ (fun _=>Ef),lV H5,lY B5 (E3 _)⟩;clear H5 B5;obtain⟨W7,f6,H7,B7⟩: ∃W',(jW 188 (.map (D w.heap.size)) (E I 9) (.func (.func 134) #[V (D ⟨gs,0,Z⟩)] #[])).run EZ W6= .ok () W'/\W'.heap[w.heap.size]?=D (.map (Xi gs 7) 7)/\El w W':=⟨_,lT H6 9 _ (fun _=>Ef),lV H6,lY B6 (E3 _)⟩;clear H6 B6;obtain⟨W8,f7,H8,B8⟩: ∃W',(jW 188 (.map (D w.heap.size)) (E I 10) (.func (.func 135) #[V (D ⟨gs,0,Z⟩)] #[])).run EZ W7= .ok () W'/\W'.heap[w.heap.size]?=D (.map (Xi gs 8) 8)/\El w W':=⟨_,lT H7 10 _ (fun _=>Ef),lV H7,lY B7 (E3 _)⟩;clear H7 B7;obtain⟨W9,f8,H9,B9⟩: ∃W',(jW 188 (.map (D w.heap.size)) (E I 11) (.func (.func 135) #[V (D ⟨gs,0,Z⟩)] #[])).run EZ W8= .ok () W'/\W'.heap[w.heap.size]?=D (.map (Xi gs 9) 9)/\El w W':=⟨_,lT H8 11 _ (fun _=>Ef),lV H8,lY B8 (E3 _)⟩;clear H8 B8;have H9:=J H9;have B9:=J B9;go_enter Tryz.func89,Tryz.ntmps89;go_wp2;go_ret;exact⟨O,H9.out,B9.out⟩
theorem l_(h:W.heap[g]?=D (.map (Xi gs 9) 9))(k:Int)(f:Nat)(i:Nat)(hf: ∀W,(Instr.findKey 3 (E I k) (Xi gs 9).toList).run EZ W= .ok (D (i,.func (.func f) #[V (D ⟨gs,0,Z⟩)] #[])) W): (gY 188 (.map (D g)) (E I k) EJ).run EZ W= .ok (Eu #[.func (.func f) #[V (D ⟨gs,0,Z⟩)] #[],Ec EJ]) W:=by
 have hu: ∀W,Uv EZ (underlying 188) W= .ok (.map 3 186) W:=fun _=>Ef;have hck: ∀b W,(Instr.checkKey b 10000 3 (E I k)).run EZ W= .ok () W:=fun _ _=>Ef;have hg:(Sem.getObj g Sem.pure).run EZ W= .ok (.map (Xi gs 9) 9) W:=by simp[Uv,h]
 unfold gY;simp only[OH,hu,OM,getObj,hg,hck,hf,Oi,if_true]
theorem Ef3(h:W.heap[g]?=D (.map (Xi gs 9) 9)):(gY 188 (.map (D g)) (E I 3) EJ).run EZ W= .ok (Eu #[.func (.func 128) #[V (D ⟨gs,0,Z⟩)] #[],Ec EJ]) W:=l_ h 3 128 0 (fun _=>Ef)
theorem Ef4(h:W.heap[g]?=D (.map (Xi gs 9) 9)):(gY 188 (.map (D g)) (E I 4) EJ).run EZ W= .ok (Eu #[.func (.func 129) #[V (D ⟨gs,0,Z⟩)] #[],Ec EJ]) W:=l_ h 4 129 1 (fun _=>Ef)
theorem Ef5(h:W.heap[g]?=D (.map (Xi gs 9) 9)):(gY 188 (.map (D g)) (E I 5) EJ).run EZ W= .ok (Eu #[.func (.func 130) #[V (D ⟨gs,0,Z⟩)] #[],Ec EJ]) W:=l_ h 5 130 2 (fun _=>Ef)
theorem Ef6(h:W.heap[g]?=D (.map (Xi gs 9) 9)):(gY 188 (.map (D g)) (E I 6) EJ).run EZ W= .ok (Eu #[.func (.func 131) #[V (D ⟨gs,0,Z⟩)] #[],Ec EJ]) W:=l_ h 6 131 3 (fun _=>Ef)
theorem Ef7(h:W.heap[g]?=D (.map (Xi gs 9) 9)):(gY 188 (.map (D g)) (E I 7) EJ).run EZ W= .ok (Eu #[.func (.func 132) #[V (D ⟨gs,0,Z⟩)] #[],Ec EJ]) W:=l_ h 7 132 4 (fun _=>Ef)
theorem Ef8(h:W.heap[g]?=D (.map (Xi gs 9) 9)):(gY 188 (.map (D g)) (E I 8) EJ).run EZ W= .ok (Eu #[.func (.func 133) #[V (D ⟨gs,0,Z⟩)] #[],Ec EJ]) W:=l_ h 8 133 5 (fun _=>Ef)
theorem Ef9(h:W.heap[g]?=D (.map (Xi gs 9) 9)):(gY 188 (.map (D g)) (E I 9) EJ).run EZ W= .ok (Eu #[.func (.func 134) #[V (D ⟨gs,0,Z⟩)] #[],Ec EJ]) W:=l_ h 9 134 6 (fun _=>Ef)
theorem Ef_(h:W.heap[g]?=D (.map (Xi gs 9) 9)):(gY 188 (.map (D g)) (E I 10) EJ).run EZ W= .ok (Eu #[.func (.func 135) #[V (D ⟨gs,0,Z⟩)] #[],Ec EJ]) W:=l_ h 10 135 7 (fun _=>Ef)
theorem EgE(h:W.heap[g]?=D (.map (Xi gs 9) 9)):(gY 188 (.map (D g)) (E I 11) EJ).run EZ W= .ok (Eu #[.func (.func 135) #[V (D ⟨gs,0,Z⟩)] #[],Ec EJ]) W:=l_ h 11 135 8 (fun _=>Ef)
section
variable{P:Program}
theorem Mr{fn:Func}{p p2 q:Tmp}{n2:Nat}(hT:IL P T n)(pM:IL P T2 n2)(h:fn.results= #[.cell p T,.cell p2 T2,.tmp q])(tmps:Array Y)(w:M)(g g2:Nat)(cs cs2:Array Y)(v:Y) (hp:tmps.getD p I6=V (D ⟨g,0,Z⟩)) (hp2:tmps.getD p2 I6=V (D ⟨g2,0,Z⟩)) (hq:tmps.getD q I6=v) (hg:H w g cs T) (hn:cs.size=n) (hg2:H w g2 cs2 T2) (hn2:cs2.size=n2):(UA fn tmps).run P w= .ok (Eu #[Ea cs,Ea cs2,v]) w:=by
 have hp':tmps[p]?.getD I6=V (D ⟨g,0,Z⟩):=kw;have EgI:tmps[p2]?.getD I6=V (D ⟨g2,0,Z⟩):=by simpa using hp2
 have hq':tmps[q]?.getD I6=v:=kH;simp[UA,h,hp',EgI,hq',asAddr,vp hT hg hn,vp pM hg2 hn2]
end
def IP(IC:Int)(op:Bool)(nc:List Int):Array Y:= #[E I IC,Ec op]++Em nc
theorem dc(IC:Int)(op:Bool)(nc:List Int)(h:nc.length=8):(IP IC op nc).size=10:=by simp[IP,Ob,h]
theorem tQ(IC:Int)(op:Bool)(nc:List Int):(IP IC op nc).all (·.oneCell')=EJ:=by
 rw[Array.all_eq_true];intro i hi;simp only[IP] at hi⊢;rw[Array.getElem_append];split
 ·rename_i h;have:i=0\/i=1:=by simp at h;omega
  rcases this with rfl|rfl<;>rfl
 ·simp[Em,Oc]
theorem Ms(IC:Int)(op:Bool)(nc:List Int):(IP IC op nc)[0]?=D (E I IC):=by unfold IP;rw[Array.getElem?_append_left Ej];rfl
theorem WG(IC:Int)(op:Bool)(nc:List Int):(IP IC op nc)[1]?=D (Ec op):=by unfold IP;rw[Array.getElem?_append_left Ej];rfl
theorem WH(IC:Int)(op:Bool)(nc:List Int)(h:nc.length=8):(IP IC op nc).extract 2 (2+8)=Em nc:=by
 match nc,h with
 |[a,b,c,d,e,f,g,i],_=>rfl
theorem EgJ(IC:Int)(op:Bool)(nc:List Int)(h:nc.length=8):Tryz.prog.built 117 [(0,E I IC),(1,Ec op),(2,Ea (Em nc))]=D (IP IC op nc):=by
 obtain⟨a,b,c,d,e,f,g,i,rfl⟩: ∃a b c d e f g i,nc=[a,b,c,d,e,f,g,i]:=by
  match nc,h with
  |[a,b,c,d,e,f,g,i],_=>exact⟨a,b,c,d,e,f,g,i,O⟩
 kernel_rfl
theorem EgO(IC:Int):Tryz.prog.built 117 [(0,E I IC)]=D (IP IC EI (Ev 8)):=Ef
theorem WK:Tryz.prog.built 41 []=D (Em (Ev 32)):=Ef
theorem XY:IL EZ 117 10:=⟨⟨_,Tryz.underlying117,O⟩,Ef⟩
theorem qR:Od EZ 117 (IP 0 EI (Ev 8)):=by intro ev o w ho;unfold Ig;simp only[ho];simp[go_sem];exact congrArg (fun c=>w.alloc (Eb c 117)) Ef
theorem qS:(Ev 8).length=8:=rfl
theorem EgU(A:Option Ep)(n c:Nat)(s IC:Int)(op:Bool)(nc:List Int)(w:M)(hc:nc.length=8)(hm:4294967295<=IC): Eg EZ 121 #[Ea (IP IC op nc),G A n c,E I s] w fun e w'=>e=Ei (Eu #[Ea (IP IC op nc),E I 24])/\El w w':=by have DS:=J<|dc IC op nc hc;have D1:=J<|tQ IC op nc;have C0:=Ms IC op nc;generalize IP IC op nc=dv at*;clear hc;go_enter Tryz.func121,Tryz.ntmps121;go_wp2_with (with_reducible refine wA qR (Ex.mk ?_));apply Es;have K3:=J<|(H.new w dv 117).alloc (Eb (IP 0 EI (Ev 8)) 117);have K6:=J<|H.new' (w.alloc (Eb dv 117)) (IP 0 EI (Ev 8)) 117 (g:=w.heap.size+1) Ej;have u:=J<|JY w (Eb dv 117) (Eb (IP 0 EI (Ev 8)) 117);generalize (w.alloc (Eb dv 117)).alloc (Eb (IP 0 EI (Ev 8)) 117)=w1 at*;have c0:=K3.out.cell 0;rw[C0] at c0;clear C0;go_wp2_with (with_reducible first|refine wL XY K3 ?_ (hn:=DS.out)|refine wS (cs:=dv) XY K6 ?_ (ho:=dc _ _ _ qS) (hn:=DS.out) (h1:=D1.out));refine ET (v:=Eu #[Ea dv,E I 24]) (dH XY O _ _ (w.heap.size+1) _ _ O O (K6.out.setRow _) DS.out) O ⟨O,EY u.out U _⟩
theorem EgX(A:Option Ep)(k:List Int)(n c:Nat)(s IC:Int)(op:Bool)(nc:List Int)(w:M)(hn:k.length=n)(hk:Row w A k)(hl:n<=10000000)(hc:nc.length=8)(hm: -9223372036854775808<=IC/\IC<4294967295)(hR:Ju w): Eg EZ 121 #[Ea (IP IC op nc),G A n c,E I s] w fun e w'=>e=Ei (Eu #[Ea (IP (IC+1) EJ ((Oz k (dA s (IC+1))).take 8)),E I 0])/\El w w':=by have CN:=fun(W:M) (hb:El w W)=>EZB A k n c s (IC+1) W hn (hk.B hb) hl (hR.B hb);have AL:((Oz k (dA s (IC+1))).take 8).length=8:=Bi;generalize (Oz k (dA s (IC+1))).take 8=an at*;have BD:=J<|EgJ (IC+1) EJ an AL;have DS:=J<|dc (IC+1) EJ an AL;have D1:=J<|tQ (IC+1) EJ an;have C0:=Ms IC op nc;have i1:IntKind.i64.wrap (IC+1)=IC+1:=IntWalk.i64_in _ U;generalize IP IC op nc=dv at*;generalize IP (IC+1) EJ an=dr at*;replace CN:=J CN;replace AL:=J AL;clear hc hn hk hR;obtain⟨hm0,hm1⟩:=hm;go_enter Tryz.func121,Tryz.ntmps121;go_wp2_with (with_reducible refine wA qR (Ex.mk ?_));apply Es;have K3:=J<|(H.new w dv 117).alloc (Eb (IP 0 EI (Ev 8)) 117);have K6:=J<|H.new' (w.alloc (Eb dv 117)) (IP 0 EI (Ev 8)) 117 (g:=w.heap.size+1) Ej;have u:=J<|JY w (Eb dv 117) (Eb (IP 0 EI (Ev 8)) 117);generalize (w.alloc (Eb dv 117)).alloc (Eb (IP 0 EI (Ev 8)) 117)=w1 at*;have c0:=K3.out.cell 0;rw[C0] at c0;clear C0;go_wp2_with fail;clear c0;refine(CN.out _ u.out).mono ?_;rintro e w2 ⟨rfl,b2⟩;replace K6:=J<|K6.out.B b2;replace u:=EV u b2;clear b2 CN K3;go_wp2_with (first|((with_reducible refine Io 21 ?_);refine I4 rfl 117 _ rfl dr BD.out ?_)|(with_reducible refine wS (cs:=dr) XY K6 ?_ (ho:=dc _ _ _ qS) (hn:=DS.out) (h1:=D1.out)));refine ET (v:=Eu #[Ea dr,E I 0]) (dH XY O _ _ (w.heap.size+1) _ _ O O (K6.out.setRow _) DS.out) O ⟨O,EY u.out U _⟩
theorem EgZ(A:Option Ep)(n c:Nat)(s r IC:Int)(nc pf:List Int)(w:M)(hc:nc.length=8): Eg EZ 123 #[Ea (IP IC EI nc),G A n c,E I s,E I r,Ea (Em pf)] w fun e w'=>e=Ei (Eu #[Ea (IP IC EI nc),Ea (Em (Ev 32)),E I 17])/\El w w':=by have DS:=J<|dc IC EI nc hc;have D1:=J<|tQ IC EI nc;have C1:=WG IC EI nc;have BZ:=J WK;generalize IP IC EI nc=dv at*;clear hc;go_enter Tryz.func123,Tryz.ntmps123;go_wp2_with (with_reducible first|refine wA qR ?_|refine wA fy (Ex.mk ?_));apply Es;have K5:=J<|(((H.new w dv 117).alloc (Eb (Em pf) 115)).alloc (Eb (IP 0 EI (Ev 8)) 117)).alloc (Eb (Em (Ev 32)) 41);have K9:=J<|((H.new' (w.alloc (Eb dv 117)) (Em pf) 115 (g:=w.heap.size+1) Ej).alloc (Eb (IP 0 EI (Ev 8)) 117)).alloc (Eb (Em (Ev 32)) 41);have UZ:=J<|(H.new' ((w.alloc (Eb dv 117)).alloc (Eb (Em pf) 115)) (IP 0 EI (Ev 8)) 117 (g:=w.heap.size+1+1) Ej).alloc (Eb (Em (Ev 32)) 41);have Jp:=J<|H.new' (((w.alloc (Eb dv 117)).alloc (Eb (Em pf) 115)).alloc (Eb (IP 0 EI (Ev 8)) 117)) (Em (Ev 32)) 41 (g:=w.heap.size+1+1+1) Ej;have u:=J<|bt (bO w (Eb dv 117) (Eb (Em pf) 115) (Eb (IP 0 EI (Ev 8)) 117)) (Er (((w.alloc (Eb dv 117)).alloc (Eb (Em pf) 115)).alloc (Eb (IP 0 EI (Ev 8)) 117)) (Eb (Em (Ev 32)) 41));generalize (((w.alloc (Eb dv 117)).alloc (Eb (Em pf) 115)).alloc (Eb (IP 0 EI (Ev 8)) 117)).alloc (Eb (Em (Ev 32)) 41)=w1 at*;obtain⟨g9,qT⟩:=JK (w.heap.size+1);rw[qT] at K9 UZ Jp;simp only[qT];obtain⟨g10,qV⟩:=JK (g9+1);rw[qV] at UZ Jp;simp only[qV];obtain⟨g11,qW⟩:=JK (g10+1);rw[qW] at Jp;simp only[qW];have n9:w.heap.size<g9:=U;have n10:g9<g10:=U;have n11:g10<g11:=U;clear qT qV qW;have c1:=K5.out.cell 1;rw[C1] at c1;clear C1;go_wp2_with (first|(with_reducible refine wL XY K5 ?_ (hn:=DS.out))|((with_reducible refine Io 19 ?_);refine I4 rfl 41 _ rfl (Em (Ev 32)) BZ.out ?_)|(with_reducible refine wS (cs:=dv) XY UZ (Ex.mk ?_) (ho:=dc _ _ _ qS) (hn:=DS.out) (h1:=D1.out)));apply Es;clear c1 K5 K9;replace Jp:=J<|Jp.out.setRow_other g10 dv U;replace UZ:=J<|UZ.out.setRow dv;replace u:=J<|EY (g:=g10) u.out U dv;generalize w1.setRow g10 dv=w2 at*;go_wp2_with (with_reducible refine wS (cs:=Em (Ev 32)) UX Jp ?_ (ho:=XP) (hn:=XP) (h1:=X6 _));refine ET (v:=Eu #[Ea dv,Ea (Em (Ev 32)),E I 17]) (Mr XY UX O _ _ g10 g11 _ _ _ O O O (UZ.out.setRow_other _ _ U) DS.out (Jp.out.setRow _) Lc) O ⟨O,EY u.out U _⟩
def DH(cl:Array Y)(A:Option Ep)(n c:Nat)(s r:Int)(g5:Nat)(nc kv:List Int)(i:Nat)(v:Y)(w:M):Prop:=match i with
 |0=>v=Ea cl
 |1=>v=G A n c
 |2=>v=E I s
 |3=>v=E I r
 |4=>v=V (D ⟨g5,2,Z⟩)
 |5=>v=Ea (Em nc)
 |_=>v=Ea (Em kv)
theorem Ega(cl:Array Y)(A:Option Ep)(n c:Nat)(s r:Int)(g5:Nat)(nc kv:List Int): ∀i v w w',i<7->DH cl A n c s r g5 nc kv i v w->J0 w w'->DH cl A n c s r g5 nc kv i v w':=by intro i v w w' hi h hb;unfold DH at*;split at h;all_goals exact h
theorem WL(pb:Bool)(A:Option Ep)(k:List Int)(n c:Nat)(s r IC:Int)(nc pf:List Int)(w:M)(hn:k.length=n)(hk:Row w A k)(hl:n<=10000000)(hc:nc.length=8)(hb: ∀x∈nc,0<=x/\x<=255)(hR:Ju w)(hpl:pf.length=8)(hpb: ∀x∈pf,0<=x/\x<=255)(hp:decide (pf=(Oz k (Uo 80 s r nc)).take 8)=pb): Eg EZ 123 #[Ea (IP IC EJ nc),G A n c,E I s,E I r,Ea (Em pf)] w fun e w'=>e=Ei (Eu #[Ea (IP IC EI (Ev 8)),Ea (Em (bif pb then Oz k (Uo 75 s r nc) else Ev 32)),E I (bif pb then 0 else 14)])/\El w w':=by
 have CP:=fun(W:M) (hb':El w W)=>EZC A k nc n c s r W hn (hk.B hb') hl hc hb (hR.B hb');have CK:=fun(W:M) (hb':El w W)=>EZD A k nc n c s r W hn (hk.B hb') hl hc hb (hR.B hb');have RL:((Oz k (Uo 80 s r nc)).take 8).length=8:=Bi;have RB: ∀x∈(Oz k (Uo 80 s r nc)).take 8,0<=x/\x<=255:=fun x hx=>BJ _ _ x (iI hx);have KL:(Oz k (Uo 75 s r nc)).length=32:=pK _ _;have SM:decide (pf=(Oz k (Uo 80 s r nc)).take 8)=pb:=hp;generalize (Oz k (Uo 80 s r nc)).take 8=rt at*;generalize Oz k (Uo 75 s r nc)=kv at*;have DS:=J<|dc IC EJ nc hc;have C0:=Ms IC EJ nc;have C1:=WG IC EJ nc;have CX:=J<|WH IC EJ nc hc;have BZ:=J WK;have BC:=J<|EgO IC;have ES:=J<|dc IC EI (Ev 8) qS;have E1:=J<|tQ IC EI (Ev 8);generalize IP IC EJ nc=dv at*;generalize IP IC EI (Ev 8)=cl at*;replace CP:=J CP;replace CK:=J CK;replace RL:=J RL;replace RB:=J RB;replace KL:=J KL;replace SM:=J SM;have ld:=J hpl;have ay:=J hpb;have HC:=J hc;clear hc hn hk hR hb hpl hpb hp;go_enter Tryz.func123,Tryz.ntmps123;go_wp2_with (with_reducible first|refine wA qR ?_|refine wA fy (Ex.mk ?_));apply Es;have K5:=J<|(((H.new w dv 117).alloc (Eb (Em pf) 115)).alloc (Eb (IP 0 EI (Ev 8)) 117)).alloc (Eb (Em (Ev 32)) 41);have K9:=J<|((H.new' (w.alloc (Eb dv 117)) (Em pf) 115 (g:=w.heap.size+1) Ej).alloc (Eb (IP 0 EI (Ev 8)) 117)).alloc (Eb (Em (Ev 32)) 41);have UZ:=J<|(H.new' ((w.alloc (Eb dv 117)).alloc (Eb (Em pf) 115)) (IP 0 EI (Ev 8)) 117 (g:=w.heap.size+1+1) Ej).alloc (Eb (Em (Ev 32)) 41);have Jp:=J<|H.new' (((w.alloc (Eb dv 117)).alloc (Eb (Em pf) 115)).alloc (Eb (IP 0 EI (Ev 8)) 117)) (Em (Ev 32)) 41 (g:=w.heap.size+1+1+1) Ej;have u:=J<|bt (bO w (Eb dv 117) (Eb (Em pf) 115) (Eb (IP 0 EI (Ev 8)) 117)) (Er (((w.alloc (Eb dv 117)).alloc (Eb (Em pf) 115)).alloc (Eb (IP 0 EI (Ev 8)) 117)) (Eb (Em (Ev 32)) 41));generalize (((w.alloc (Eb dv 117)).alloc (Eb (Em pf) 115)).alloc (Eb (IP 0 EI (Ev 8)) 117)).alloc (Eb (Em (Ev 32)) 41)=w1 at*;obtain⟨g9,qT⟩:=JK (w.heap.size+1);rw[qT] at K9 UZ Jp;simp only[qT];obtain⟨g10,qV⟩:=JK (g9+1);rw[qV] at UZ Jp;simp only[qV];obtain⟨g11,qW⟩:=JK (g10+1);rw[qW] at Jp;simp only[qW];have n9:w.heap.size<g9:=U;have n10:g9<g10:=U;have n11:g10<g11:=U;clear qT qV qW;have c0:=K5.out.cell 0;have c1:=K5.out.cell 1;rw[C0] at c0;rw[C1] at c1;clear C0 C1;have l11:=Jp.out.lt;go_wp2_with (first|((with_reducible refine Io 22 ?_);refine I4 rfl 117 _ rfl cl BC.out ?_)|(with_reducible refine wA qR (Ex.mk ?_)));apply Es;clear c0 c1;have bel:=Er w1 (Eb (IP 0 EI (Ev 8)) 117);replace K5:=J<|K5.out.B bel;replace K9:=J<|K9.out.B bel;replace UZ:=J<|UZ.out.B bel;replace Jp:=J<|Jp.out.B bel;replace u:=EV u bel;have Zv:=J<|H.new w1 (IP 0 EI (Ev 8)) 117;clear bel;generalize w1.alloc (Eb (IP 0 EI (Ev 8)) 117)=w2 at*;generalize w1.heap.size=g13 at*;go_wp2_with (with_reducible refine wS (cs:=cl) XY Zv (Ex.mk ?_) (ho:=dc _ _ _ qS) (hn:=ES.out) (h1:=E1.out));apply Es;replace K5:=J<|K5.out.setRow_other g13 cl U;replace K9:=J<|K9.out.setRow_other g13 cl U;replace UZ:=J<|UZ.out.setRow_other g13 cl U;replace Jp:=J<|Jp.out.setRow_other g13 cl U;replace Zv:=J<|Zv.out.setRow cl;replace u:=J<|EY (g:=g13) u.out U cl;generalize w2.setRow g13 cl=w3 at*;go_wp2_with (with_reducible refine wM (off:=2) (cs:=Em nc) bu K5 ?_ (hn:=Hw) (he:=CX.out));refine(CP.out _ u.out).mono ?_;rintro e w4 ⟨rfl,b4⟩;replace K5:=J<|K5.out.B b4;replace K9:=J<|K9.out.B b4;replace UZ:=J<|UZ.out.B b4;replace Jp:=J<|Jp.out.B b4;replace Zv:=J<|Zv.out.B b4;replace u:=EV u b4;clear b4 CP;have l13:=Zv.out.lt;go_wp2_with (with_reducible refine wA sP (Ex.mk ?_));apply Es;have bel:=Er w4 (Eb (Em (Ev 8)) 115);replace K5:=J<|K5.out.B bel;replace K9:=J<|K9.out.B bel;replace UZ:=J<|UZ.out.B bel;replace Jp:=J<|Jp.out.B bel;replace Zv:=J<|Zv.out.B bel;replace u:=EV u bel;have mE:=J<|H.new w4 (Em (Ev 8)) 115;clear bel;generalize w4.alloc (Eb (Em (Ev 8)) 115)=w5 at*;generalize w4.heap.size=g14 at*;go_wp2_with (with_reducible refine wS (cs:=Em rt) bu mE (Ex.mk ?_) (ho:=XP) (hn:=Tu) (h1:=X6 _));apply Es;replace K5:=J<|K5.out.setRow_other g14 (Em rt) U;replace K9:=J<|K9.out.setRow_other g14 (Em rt) U;replace UZ:=J<|UZ.out.setRow_other g14 (Em rt) U;replace Jp:=J<|Jp.out.setRow_other g14 (Em rt) U;replace Zv:=J<|Zv.out.setRow_other g14 (Em rt) U;replace mE:=J<|mE.out.setRow (Em rt);replace u:=J<|EY (g:=g14) u.out (by have:=u.out.size;omega) (Em rt);generalize w5.setRow g14 (Em rt)=w6 at*;have CS:=J<|fun q=>R_ (D ⟨g9,0,Z⟩) (D ⟨g14,0,Z⟩) pf rt 8 8 8 8 (w6.drewN q) ld.out RL.out (PK (iZ K9.out ay.out) q) (PK (iZ mE.out RB.out) q) U U;rw[SM.out] at CS;go_wp2_with fail;go_quiet (((with_reducible refine(CS.out _).mono ?_);(rintro e w2 ⟨rfl,rfl⟩;exact⟨O,_,O⟩)));clear CS;replace K5:=J<|K5.out.drewN nq;replace K9:=J<|K9.out.drewN nq;replace UZ:=J<|UZ.out.drewN nq;replace Jp:=J<|Jp.out.drewN nq;replace Zv:=J<|Zv.out.drewN nq;replace mE:=J<|mE.out.drewN nq;replace u:=J<|jk u.out nq;generalize w6.drewN nq=w7 at*;cases pb;·skip;go_wp2_with (first|(with_reducible refine wL XY Zv ?_ (hn:=ES.out))|((with_reducible refine Io 34 ?_);refine I4 rfl 41 _ rfl (Em (Ev 32)) BZ.out ?_)|(with_reducible refine wS (cs:=cl) XY UZ (Ex.mk ?_) (ho:=dc _ _ _ qS) (hn:=ES.out) (h1:=E1.out)));apply Es;replace K5:=J<|K5.out.setRow_other g10 cl U;replace K9:=J<|K9.out.setRow_other g10 cl U;replace Jp:=J<|Jp.out.setRow_other g10 cl U;replace Zv:=J<|Zv.out.setRow_other g10 cl U;replace mE:=J<|mE.out.setRow_other g10 cl U;replace UZ:=J<|UZ.out.setRow cl;replace u:=J<|EY (g:=g10) u.out U cl;generalize w7.setRow g10 cl=w8 at*;go_wp2_with (with_reducible refine wS (cs:=Em (Ev 32)) UX Jp ?_ (ho:=XP) (hn:=XP) (h1:=X6 _));refine ET (v:=Eu #[Ea cl,Ea (Em (Ev 32)),E I 14]) (Mr XY UX O _ _ g10 g11 _ _ _ O O O (UZ.out.setRow_other _ _ U) ES.out (Jp.out.setRow _) Lc) O ⟨O,EY u.out U _⟩
 ·skip;go_wp2_with fail;refine ZV ER Ef 7 Ef Ej EU (DH cl A n c s r w.heap.size nc kv) (Ega _ _ _ _ _ _ _ _ _) ?_ ?_
  ·simp only[Xl,Is,Iq,EM,Ih,Ik,Ic,If,and_true];refine⟨?_,?_,?_,?_,?_,?_,?_⟩;all_goals intro v w' hb hd
   ·exact zM ER (g:=g13) XY (Eh O) ⟨O,Ez⟩ (Zv.out.B hb) ES.out O
   ·exact EnB
   ·exact EnB
   ·exact EnB
   ·exact EnB
   ·have d4:v 4=V (D ⟨w.heap.size,2,Z⟩):=hd.at 4 rfl;exact EOs ER (g:=w.heap.size) (off:=2) (cs:=Em nc) bu (Eh O) ⟨O,XQ⟩ (K5.out.B hb) (by rw[Ob,HC.out]) CX.out O
   ·have d1:v 1=G A n c:=hd.at 1 rfl;have d2:v 2=E I s:=hd.at 2 rfl;have d3:v 3=E I r:=hd.at 3 rfl;have d5:v 5=Ea (Em nc):=hd.at 5 rfl;refine J4 (f:=169) (args:= #[v 1,v 2,v 3,v 5]) (Eh O) Ez ?_;rw[d1,d2,d3,d5];exact(CK.out w' (bt u.out hb)).mono fun e w'' ⟨he,hb'⟩=>⟨_,he,hb',O⟩
  ·intro v w' hb hr;have d0:v 0=Ea cl:=hr 0 U;have d6:v 6=Ea (Em kv):=hr 6 U;simp only[Is,Iq,IT,IM,EM,Ih,Ik,Ic,If];rw[d0,d6];replace UZ:=J<|UZ.out.B hb;replace Jp:=J<|Jp.out.B hb;replace u:=EV u hb;clear hr hb d0 d6 K5 K9 Zv mE CK;go_wp2_with (with_reducible refine wS (cs:=cl) XY UZ (Ex.mk ?_) (ho:=dc _ _ _ qS) (hn:=ES.out) (h1:=E1.out));apply Es;replace Jp:=J<|Jp.out.setRow_other g10 cl U;replace UZ:=J<|UZ.out.setRow cl;replace u:=J<|EY (g:=g10) u.out U cl;generalize w'.setRow g10 cl=w8 at*;go_wp2_with (with_reducible refine wS (cs:=Em kv) UX Jp ?_ (ho:=XP) (hn:=SU) (h1:=X6 _));refine ET (v:=Eu #[Ea cl,Ea (Em kv),E I 0]) (Mr XY UX O _ _ g10 g11 _ _ _ O O O (UZ.out.setRow_other _ _ U) ES.out (Jp.out.setRow _) (by rw[Ob,KL.out])) O ⟨O,EY u.out U _⟩
theorem Egb(A:Option Ep)(k:List Int)(n c:Nat)(s r IC:Int)(nc pf:List Int)(w:M)(hn:k.length=n)(hk:Row w A k)(hl:n<=10000000)(hc:nc.length=8)(hb: ∀x∈nc,0<=x/\x<=255)(hR:Ju w)(hpl:pf.length=8)(hpb: ∀x∈pf,0<=x/\x<=255)(hp:pf≠(Oz k (Uo 80 s r nc)).take 8): Eg EZ 123 #[Ea (IP IC EJ nc),G A n c,E I s,E I r,Ea (Em pf)] w fun e w'=>e=Ei (Eu #[Ea (IP IC EI (Ev 8)),Ea (Em (Ev 32)),E I 14])/\El w w':=
 WL EI A k n c s r IC nc pf w hn hk hl hc hb hR hpl hpb (IZ hp)
theorem Egc(A:Option Ep)(k:List Int)(n c:Nat)(s r IC:Int)(nc pf:List Int)(w:M)(hn:k.length=n)(hk:Row w A k)(hl:n<=10000000)(hc:nc.length=8)(hb: ∀x∈nc,0<=x/\x<=255)(hR:Ju w)(hpl:pf.length=8)(hpb: ∀x∈pf,0<=x/\x<=255)(hp:pf=(Oz k (Uo 80 s r nc)).take 8): Eg EZ 123 #[Ea (IP IC EJ nc),G A n c,E I s,E I r,Ea (Em pf)] w fun e w'=>e=Ei (Eu #[Ea (IP IC EI (Ev 8)),Ea (Em (Oz k (Uo 75 s r nc))),E I 0])/\El w w':=
 WL EJ A k n c s r IC nc pf w hn hk hl hc hb hR hpl hpb (IJ hp)
def mI(T:EB)(n:Nat)(cs:Array Y)(w w':M):Prop:= ∀b c,H w b c T->c.size=n-> ∃c':Array Y,c'.size=n/\H w' b c' T/\(c=cs->c'=cs)
theorem xa(hs:cs.size=n):mI T n cs w (w.setRow b cs):=fun k d h h8=>by
 by_cases e:k=b;·subst e;exact⟨cs,hs,h.setRow cs,fun _=>rfl⟩
 ·exact⟨d,h8,H.setRow_other h b cs e,id⟩
theorem WM{c:Array Y}(k:H w b c2 T2)(hT:T≠T2):mI T n cs w (w.setRow b c):=fun _ d h h8=>⟨d,h8,H.setRow_other h b c (E6 h k hT),id⟩
theorem Egd(ho:E7 g w w')(k:H w g c2 T2)(hT:T≠T2):mI T n cs w w':=fun _ d h h8=>⟨d,h8,ho.Ek h (E6 h k hT),id⟩
def bN(T:EB)(n n0:Nat)(v:Y)(w:M):Prop:= ∃(b:Nat) (c:Array Y),v=V (D ⟨b,0,Z⟩)/\n0<=b/\c.size=n/\H w b c T
theorem bN.B(h:bN T n n0 v w)(hb:El w w'):bN T n n0 v w':=by exact EqK
theorem bN.sz(h:bN T n n0 v w)(hb:mI T n cs w w'):bN T n n0 v w':=by obtain⟨b,c,h1,h2,h3,h4⟩:=h;obtain⟨c',h5,h6,-⟩:=hb b c h4 h3;exact⟨b,c',h1,h2,h5,h6⟩
theorem E9.DK{g:Nat->Y}{c:Ey}(S:E9 lo hi g gc gq gt gs c ns rs W)(ho:E7 b W W')(K:H W b d T)(hT:(124::264::58::Cx).contains T=EI)(h1:lo<=b):E9 lo hi g gc gq gt gs c ns rs W':=by obtain⟨sv,rv,sc,ks,r1,r2⟩:=S.fH;have kp: ∀k cs S,(124::264::58::Cx).contains S=EJ->H W k cs S->H W' k cs S:=fun k cs S hS hb=>ho.Ek hb (E6 hb K (by intro e;subst e;rw[hT] at hS;cases hS));exact⟨S.core.via (fun k cs T hT hb=>kp k cs T (by simp only[List.contains_cons,hT,Bool.or_true]) hb) (ho.bel lo h1 LH),S.hc,S.hq,S.ht,S.dO,S.his,sv,rv,sc,kp _ _ _ EU ks,EG r1 fun _ _ hk=>kp _ _ _ EU hk,EG r2 fun _ _ hk=>kp _ _ _ EU hk⟩
theorem Dr.vA(d:Dr):d.v.toArray=IP d.n d.op d.nc:=by simp[Dr.v,IP,Em]
theorem WN{g:Nat->Y}{c:Ey}(C:JU lo g gc gq gt c w)(j:Nat)(hj:j<3): ∃(d:Dr) (big:Array Y),d.ok/\H w gc big 120/\big.extract (65+j*10) (65+j*10+10)=IP d.n d.op d.nc:=by
 obtain⟨d0,d1,d2,hd,KG,o0,o1,o2,-,-⟩:=C.Ek;have Xy:j=0\/j=1\/j=2:=U;rcases Xy with rfl|rfl|rfl;·exact⟨d0,_,o0,KG,(Jl.extract 3 rfl (Oo (JC g) o0 o1 o2 3 U) 10 (Dr.len' o0)).trans d0.vA⟩
 ·exact⟨d1,_,o1,KG,(Jl.extract 4 rfl (Oo (JC g) o0 o1 o2 4 U) 10 (Dr.len' o1)).trans d1.vA⟩
 ·exact⟨d2,_,o2,KG,(Jl.extract 5 rfl (Oo (JC g) o0 o1 o2 5 U) 10 (Dr.len' o2)).trans d2.vA⟩
theorem WP{g:Nat->Y}{c:Ey}(C:JU lo g gc gq gt c w)(j:Nat)(hj:j<3):w.there gc (65+j*10) 10:=by
 obtain⟨d0,d1,d2,hd,KG,o0,o1,o2,-,-⟩:=C.Ek;have Xy:j=0\/j=1\/j=2:=U;rcases Xy with rfl|rfl|rfl;·exact KG.there 3 rfl (Oo (JC g) o0 o1 o2 3 U) 10 (by rw[Dr.len' o0];exact E3 _)
 ·exact KG.there 4 rfl (Oo (JC g) o0 o1 o2 4 U) 10 (by rw[Dr.len' o1];exact E3 _)
 ·exact KG.there 5 rfl (Oo (JC g) o0 o1 o2 5 U) 10 (by rw[Dr.len' o2];exact E3 _)
theorem E9.WQ{g:Nat->Y}{c:Ey}(S:E9 lo hi g gc gq gt gs c ns rs W)(j:Nat)(hj:j<3)(d:Dr)(od:d.ok):E9 lo hi g gc gq gt gs c ns rs (W.setCells gc (65+j*10) (IP d.n d.op d.nc).toList)/\EA lo hi W (W.setCells gc (65+j*10) (IP d.n d.op d.nc).toList):=by
 rw[<-Dr.vA];change E9 lo hi g gc gq gt gs c ns rs (W.setCells gc (65+j*10) d.v)/\EA lo hi W (W.setCells gc (65+j*10) d.v);obtain⟨d0,d1,d2,hd,k,o0,o1,o2,r⟩:=S.core.Ek;obtain⟨sv,rv,sc,ks,r1,r2⟩:=S.fH;have fin: ∀W',E7 gc W W'->(∃(d0 d1 d2:Dr) (hd:List Int),Jl W' gc (aG (EL 56 g).toList c gq gt d0 d1 d2 hd) 120/\d0.ok/\d1.ok/\d2.ok/\hd.length=32/\ ∀x∈hd,0<=x/\x<=255)->E9 lo hi g gc gq gt gs c ns rs W'/\EA lo hi W W':=fun W' ho hb=>by obtain⟨e0,e1,e2,ehd,k',_⟩:=id hb;exact⟨⟨S.core.set ho O O S.core.ok hb,S.hc,S.hq,S.ht,S.dO,S.his,sv,rv,sc,ho.Ek ks (E6 ks k EU),EG r1 fun _ _ hk=>ho.Ek hk (E6 hk k EU),EG r2 fun _ _ hk=>ho.Ek hk (E6 hk k EU)⟩,EA.vV ho k k' EU S.core.lc⟩
 refine fin _ (JP _ _ _) ?_;have Xy:j=0\/j=1\/j=2:=U;rcases Xy with rfl|rfl|rfl;·exact⟨d,d1,d2,hd,k.set 3 rfl (Oo (JC g) o0 o1 o2 3 U) d.v (by rw[Dr.len' od,Dr.len' o0]),od,o1,o2,r⟩
 ·exact⟨d0,d,d2,hd,k.set 4 rfl (Oo (JC g) o0 o1 o2 4 U) d.v (by rw[Dr.len' od,Dr.len' o1]),o0,od,o2,r⟩
 ·exact⟨d0,d1,d,hd,k.set 5 rfl (Oo (JC g) o0 o1 o2 5 U) d.v (by rw[Dr.len' od,Dr.len' o2]),o0,o1,od,r⟩
theorem WR(gc:Nat)(k:Int)(j:Nat)(hk:k=(j:Int)+1)(hj:j<3)(W:M):(qY 118 (V (D ⟨gc,65,Z⟩)) (E I (k-1))).run EZ W= .ok (V (D ⟨gc,65+j*10,Z⟩)) W:=by exact EqA
theorem sub_one(k:Int)(h1:1<=k)(h3:k<=3)(W:M):(X5 .sub 3 (E I k) (E I 1)).run EZ W= .ok (E I (k-1)) W:=by have hk:k=1\/k=2\/k=3:=U;rcases hk with rfl|rfl|rfl<;>rfl
theorem Egf(d:Dr)(hd:d.ok)(A:Option Ep)(ys:List Int)(n cap:Nat)(k:Int)(hn:ys.length=n)(hl:n<=10000000): ∃(d':Dr) (cd:Int),d'.ok/\ ∀W,Row W A ys->Ju W->Eg EZ 121 #[Ea (IP d.n d.op d.nc),G A n cap,E I k] W fun e w'=>e=Ei (Eu #[Ea (IP d'.n d'.op d'.nc),E I cd])/\El W w':=by
 obtain⟨⟨n1,n2⟩,jr,hb⟩:=hd;by_cases hm:d.n<4294967295;·refine⟨⟨d.n+1,EJ,(Oz ys (dA k (d.n+1))).take 8⟩,0,⟨⟨by show 0<=d.n+1;omega,by show d.n+1<=_;omega⟩,by show List.length (List.take 8 _)=8;rw[ar,pK];rfl,fun x hx=>BJ _ _ x (iI hx)⟩,fun W hr hR=>EgX A ys n cap k d.n d.op d.nc W hn hr hl jr ⟨U,hm⟩ hR⟩
 ·exact⟨d,24,⟨⟨n1,n2⟩,jr,hb⟩,fun W _ _=>EgU A n cap k d.n d.op d.nc W jr U⟩
theorem Egg(d:Dr)(hd:d.ok)(A:Option Ep)(ys pf:List Int)(n cap:Nat)(k r:Int)(hn:ys.length=n)(hl:n<=10000000)(hpl:pf.length=8)(hpb: ∀x∈pf,0<=x/\x<=255): ∃(d':Dr) (kv:List Int) (cd:Int),d'.ok/\kv.length=32/\(∀x∈kv,0<=x/\x<=255)/\ ∀W,Row W A ys->Ju W->Eg EZ 123 #[Ea (IP d.n d.op d.nc),G A n cap,E I k,E I r,Ea (Em pf)] W fun e w'=>e=Ei (Eu #[Ea (IP d'.n d'.op d'.nc),Ea (Em kv),E I cd])/\El W w':=by
 have z32: ∀x∈Ev 32,0<=x/\x<=255:=fun x hx=>WT;have z8: ∀x∈Ev 8,0<=x/\x<=255:=fun x hx=>WT;obtain⟨nn,op,nc⟩:=d;obtain⟨⟨n1,n2⟩,jr,hb⟩:=hd;cases op with
 |false=>exact⟨⟨nn,EI,nc⟩,Ev 32,17,⟨⟨n1,n2⟩,jr,hb⟩,O,z32,fun W _ _=>EgZ A n cap k r nn nc pf W jr⟩
 |true=>
  by_cases hp:pf=(Oz ys (Uo 80 k r nc)).take 8;·exact⟨⟨nn,EI,Ev 8⟩,Oz ys (Uo 75 k r nc),0,⟨⟨n1,n2⟩,O,z8⟩,pK _ _,BJ _ _,fun W hr hR=>Egc A ys n cap k r nn nc pf W hn hr hl jr hb hR hpl hpb hp⟩
  ·exact⟨⟨nn,EI,Ev 8⟩,Ev 32,14,⟨⟨n1,n2⟩,O,z8⟩,O,z32,fun W hr hR=>Egb A ys n cap k r nn nc pf W hn hr hl jr hb hR hpl hpb hp⟩
theorem fV(ho:o.op= .indexAddr T x y)(hx:F x=Y3)(hy:F y=v)(h: ∀W,(qY T Y3 v).run P W= .ok r W):(Ig F o).run P w= .ok (.value r) w:=by unfold Ig;simp only[ho,hx,hy,OH,h,OM,Oi]
theorem tR{b:BinOp}(ho:o.op= .binOp b T x y T2)(hx:F x=Y3)(hy:F y=v)(h: ∀W,(X5 b T Y3 v).run P W= .ok r W)(hb:T2=T:=by rfl)(hg: ∀W,(eqGuard b T x y Y3 v).run P W= .ok () W:=by intro;rfl):(Ig F o).run P w= .ok (.value r) w:=by subst hb;unfold Ig;simp only[ho,hx,hy,OH,hg,h,OM,Oi]
theorem DL(h: ∀w,(Ig a.eval o).run P w= .ok (.value v) w)(hk:K (a.put o.dst v)):o.quiet P a (fun w'=> ∃x,w'=EC W x) K:=by refine⟨_,fun w hw=> ?_,hk⟩;unfold Oper.quietAt;rw[h];obtain⟨y,rfl⟩:=hw;first|exact⟨rfl,rfl⟩|exact⟨rfl,y,rfl⟩
theorem Egh(a b c d e f g i:Int):Tryz.prog.built 222 [(0,E I 129),(6,Ea (Em [a,b,c,d,e,f,g,i]))]=D (JJ ([129,0,0,0,0,0]++[a,b,c,d,e,f,g,i])):=Ef
theorem Egi(nc:List Int)(h:nc.length=8):Tryz.prog.built 222 [(0,E I 129),(6,Ea (Em nc))]=D (JJ ([129,0,0,0,0,0]++nc)):=by
 match nc,h with
 |[a,b,c,d,e,f,g,i],_=>exact Egh a b c d e f g i
theorem Egj(a b c d e f:Int){nc:List Int}(h:nc.length=8)(hb: ∀x∈nc,0<=x/\x<=255):dK ([a,b,c,d,e,f]++nc):=by
 refine⟨xc,fun i h6 lv=> ?_⟩;have e1:([a,b,c,d,e,f]++nc).getD i 0=nc.getD (i-6) 0:=by rw[OE,OE,aE (by simpa using h6)];rfl
 rw[e1,OE,JV U];exact hb _ (gh _)
theorem Egk(lo hi:Nat)(g:Nat->Y)(gc gq gt gs:Nat)(c:Ey)(ns:Nat)(rs:List Rec)(A:Option Ep)(n cap:Nat)(xs:List Int)(k:Int)(w:M)(S:E9 lo hi g gc gq gt gs c ns rs w)(hk:1<=k/\k<=3)(hx:xs.length=n)(hnc:n<=cap)(hcap:cap<=9223372036854775807)(hr:Row w A xs)(hn:ns<800000)(hl:rs.length<800000): Eg EZ 86 #[V (D ⟨gs,0,Z⟩),E I k,G A n cap] w fun e w'=>e=Ei (Eu #[])/\(∃m kd cd,m<=1/\E9 lo hi g gc gq gt gs c (ns+m) (rs++[⟨kd,k,0,c.tok.e,cd,0⟩]) w')/\EA lo hi w w':=by
 obtain⟨j,hj,Xy⟩: ∃j:Nat,k=(j:Int)+1/\j<3:=⟨(k-1).toNat,U,U⟩;have IX:=J<|fun W=>WR gc k j hj Xy W;have SB:=J<|fun W=>sub_one k hk.1 hk.2 W;have HJ:=J Xy;have HK:=J hk;have S1:=J S;have HN:=J hn;have HL:=J hl;have PI:=J<|fun i (h1:9<=i) (h2:i<56)=>S.core.XV.int i h2 (.inr U);have CT:=J<|fun W (h:Row W A xs)=>Ku xs A n cap hx hnc hcap W h;have RW:=J hr;clear S hn hl hk hj Xy hx hnc hcap hr;go_enter Tryz.func86,Tryz.ntmps86;go_wp2_with fail;refine(CT.out _ RW.out).mono ?_;rintro e1 w1 h1
 obtain⟨l,mJ,he,b1⟩: ∃(l:List Int) (mJ:Int),e1=Ei (Eu #[Ea (EF l),E I mJ])/\El w w1:=by
  obtain⟨h1,b1⟩:=h1;cases h2:fG xs with
  |none=>rw[h2] at h1;exact⟨_,_,h1,b1⟩
  |some l=>rw[h2] at h1;exact⟨_,_,h1,b1⟩
 subst he;replace S1:=J<|S1.out.B b1;have MM:=J<|EA.ED (lo:=lo) (hi:=hi) b1;obtain⟨v2,hv2⟩:=Eo (l.getD 2 0);have tS:Ed (∀W g,H W g (EF l) 183->W.cell? ⟨g,2,Z⟩=D (E I v2)):=J (fun W g K=>by rw[hv2];exact X_ K 2 U U);have i6:=J<|Ja l;have oX:=J<|ZY l;clear h1 b1 CT RW hv2;generalize EF l=mv at*;have K0:=J<|H.new w1 (EF (Ia 0)) 183;have b2:=Er w1 (Eb (EF (Ia 0)) 183);go_wp2_with (with_reducible first|refine wA iB ?_|refine wS (cs:=mv) OY K0 (Ex.mk ?_) (ho:=Ja _) (hn:=i6.out) (h1:=oX.out));apply Es;obtain⟨gm,hgm⟩:=Eo w1.heap.size;rw[<-hgm] at K0⊢;generalize w1.alloc (Eb (EF (Ia 0)) 183)=w2 at*;have KM:=J<|K0.out.setRow mv;have b3:=EY (g:=gm) b2 (OC hgm.symm) mv;generalize w2.setRow gm mv=w3 at*;clear K0 b2 hgm;replace S1:=J<|S1.out.B b3;replace MM:=J<|MM.out.trans (EA.ED b3);clear b3;by_cases xd:mJ=0
 ·subst xd;go_wp2_with fail;obtain⟨d0,d1,d2,hd,KG,o0,o1,o2,-,-⟩:=S1.out.core.Ek;have Xh:=J<|Oo (c:=c) (gq:=gq) (gt:=gt) (hd:=hd) (JC g) o0 o1 o2 0 U;have KG:=J KG;have PL:=J<|JC g;have XJ:Ed ((EL 56 g).toList.toArray=EL 56 g):=J Ej;clear o0 o1 o2;have y0: ∀y:Ext w3,(EC w3 y).cell? ⟨gs,0,Z⟩=D (V (D ⟨gc,0,Z⟩)):=fun y=>(S1.out.B (EQ y)).IB;have y2: ∀y:Ext w3,(EC w3 y).cell? ⟨gm,2,Z⟩=D (E I v2):=fun y=>tS.out _ _ (H.B KM.out (EQ y));refine ZQ Ef Ef ?_
  repeat (first
   |go_big_quiet_skip
   |(go_big_quiet_want
     first
      |(refine Zf (T:=28) (g:=gc) (off:=0) U1 _ rfl rfl KG 0 rfl Xh.out PL.out ?_;(try rw[XJ.out]);go_simp;go_big_quiet_on)
      |(go_big_quiet_op
        first
         |go_big_quiet_on
         |go_big_quiet_call (with_reducible refine ao (VX g k v2 _ PI.out)))))
  refine I5 ?_;intro _ hw';obtain⟨y9,rfl⟩:=hw';have En:=EQ y9;replace KM:=EH KM En;replace S1:=J<|S1.out.B En;replace MM:=J<|MM.out.trans (EA.ED En);clear y0 y2 En KG Xh PL XJ;generalize EC w3 y9=w4 at*;cases htk:lx g k v2 with
  |false=> go_wp2_with fail;refine(iL lo hi g gc gq gt gs c ns rs k 0 18 _ S1.out J_ JQ).mono ?_;rintro e7 w7 ⟨rfl,s7,m7⟩;have S8:=J s7;replace MM:=J<|MM.out.trans m7;clear s7 m7;go_wp2_with fail;refine ET (UQ O _ _ _) O ?_;exact⟨O,⟨1,7,_,U,S8.out⟩,MM.out⟩
  |true=>
   go_wp2_with fail;obtain⟨A5,n5,c5,ys,q_,hyl,hy1,Mt,Mu,hym,xf⟩:=(S1.out.core.keys 8 U U).row;obtain⟨dd,Mv,od,bg,bx⟩:=WN S1.out.core j HJ.out;have BG:=J bg;have BX:=J bx;have RY:=J xf;obtain⟨d2,cd,rE,mO⟩:=Egf dd od A5 ys n5 c5 k hyl U;have DV:Ed ((IP dd.n dd.op dd.nc).size=10):=J<|dc _ _ _ od.len;have dV:Ed ((IP d2.n d2.op d2.nc).size=10):=J<|dc _ _ _ rE.len;have rI:Ed ((IP d2.n d2.op d2.nc).all (·.oneCell')=EJ):=J<|tQ _ _ _;have HD2:=J rE;obtain⟨dv,hdv⟩:=Eo (IP dd.n dd.op dd.nc);obtain⟨Ur,rJ⟩:=Eo (IP d2.n d2.op d2.nc);rw[<-hdv] at mO DV BX;rw[<-rJ] at mO dV rI;have CH:=J mO;have DM:=DV;have xg:=J rJ;obtain⟨key,hkey⟩:=Eo (G A5 n5 c5);rw[<-hkey] at CH q_;have DN:Ed (∀W,E9 lo hi g gc gq gt gs c ns rs W->W.cell? ⟨gc,8,Z⟩=D key):=J (fun W s=>by have h:W.cell? ⟨gc,8,Z⟩=(EL 56 g).toList[8]?:=s.core.cell 0 rfl 8 Ej;rw[h,show(EL 56 g).toList[8]?=D (g 8) from kW,q_]);clear od bg bx xf mO rE hdv rJ hkey q_ hyl hy1 Mt Mu hym DV htk;obtain⟨n0,hn0⟩:=Eo w4.heap.size;have Xt:=J (show lo<=n0/\hi<=n0/\w.heap.size<=n0 from oI);refine iS (Ph:=fun p wq=>(n0<=wq.heap.size/\E9 lo hi g gc gq gt gs c ns rs wq/\EA lo hi w wq/\(p=0->Row wq A5 ys/\Ju wq/\ ∃big:Array Y,H wq gc big 120/\big.extract (65+j*10) (65+j*10+10)=dv))) (Rel:=J0) (Iw:=mI 117 10 Ur) [kp gs 0,kp gs 0,kp gs 0,kp gc 0,kq (E I k),kq (E I (k-1)),kp gc 0,kp gc 65,kq (V (D ⟨gc,65+j*10,Z⟩)),kq (Ea dv),kp gs 0,kp gs 0,kp gs 0,kp gc 0,kp gc 0,kp gc 0,kp gc 8,kq key,kq (E I k),kq (Eu #[Ea Ur,E I cd]),kq (Eu #[Ea Ur,E I cd]),kq (Ea Ur),kq (E I cd),.dep (bN 117 10 n0) (fun v w w' h hr=>h.B hr) (fun v w w' h hr=>h.sz hr),.tie [23] (fun x w=> ∃b:Nat,x 23=V (D ⟨b,0,Z⟩)/\n0<=b/\H w b Ur 117) (fun x w w' h hr=>qK) (fun x y w hq h=>by rw[hq 23 Ej] at h;exact h),kq (E I cd)] [EI,EI,EI,EI,EI,EI,EI,EI,EI,EI,EI,EI,EI,EI,EI,EI,EI,EI,EI,EI,EI,EI,EI,EI,EJ,EI] O [[],[],[],[],[],[],[],[],[],[],[],[],[],[],[],[],[],[],[],[],[],[],[],[],[23],[]] O [24] [(0,0),(0,0),(0,0),(0,0),(0,0),(0,0),(0,0),(0,0),(0,0),(0,0),(0,0),(0,0),(0,0),(0,0),(0,0),(0,0),(0,0),(0,0),(0,0),(0,0),(0,0),(0,0),(0,1),(0,0),(0,0),(1,1)] Ef Ef Ef Ef Ef Ef UP Ef ?hPh ?h0 ?hstep ?hend;case hPh=> intro p w2 w3 h hr;exact⟨Ew h.1 (XE hr),h.2.1.B hr,h.2.2.1.trans (EA.ED hr),fun hp=>by obtain⟨a1,a2,big,a3,a4⟩:=h.2.2.2 hp;exact⟨It a1 hr,a2.B hr,big,H.B a3 hr,a4⟩⟩
   case h0=> have hb:=Jn w4;exact⟨Ew (OC hn0) (XE hb),S1.out.B hb,MM.out.trans (EA.ED hb),fun _=>⟨It RY.out hb,S1.out.core.roots.B hb,Mv,H.B BG.out hb,BX.out⟩⟩
   case hstep=>
    refine⟨?_,?_,?_,?_,?_,?_,?_,?_,?_,?_,?_,?_,?_,?_,?_,?_,?_,?_,?_,?_,?_,?_,?_,?_,?_,?_,trivial⟩;all_goals first|intro xv wq p hlo hhi hp hd|intro xv wq hp hd
    all_goals simp only[EM,Ih,Ik,Ic,If]
    ·exact Enx
    ·exact EnP
    ·exact EnN
    ·exact Enz
    ·exact Enx
    ·exact Ep_
    ·exact EnM
    ·obtain rfl:p=0:=U;exact Epz
    ·exact EpJ
    ·obtain rfl:p=0:=U;have d8:xv 8=V (D ⟨gc,65+j*10,Z⟩):=hd.at 8 rfl;obtain⟨-,-,big,KB,EX⟩:=hp.2.2.2 rfl;exact bi ER XY (Eh O) ⟨O,d8⟩ KB DM.out EX O
    ·exact Enx
    ·exact Eqh
    ·exact Eqg
    ·exact Eo8
    ·exact Eqf
    ·obtain rfl:p=0:=U;have d14:xv 14=V (D ⟨gc,0,Z⟩):=hd.at 14 rfl;exact Et Mk O
    ·obtain rfl:p=0:=U;exact EqW
    ·obtain rfl:p=0:=U;have d16:xv 16=V (D ⟨gc,8,Z⟩):=hd.at 16 rfl;have cc:wq.cell? ⟨gc,8,Z⟩=D (key):=DN.out wq hp.2.1;exact Et Ml O
    ·exact Enx
    ·obtain rfl:p=0:=U;have d9:xv 9=Ea dv:=hd.at 9 rfl;have d17:xv 17=key:=hd.at 17 rfl;have d18:xv 18=E I k:=hd.at 18 rfl;refine JL (f:=121) (args:= #[xv 9,xv 17,xv 18]) (Eh O) Ez ?_;rw[d9,d17,d18];exact(CH.out wq (hp.2.2.2 rfl).1 (hp.2.2.2 rfl).2.1).mono fun e w2 h=>⟨_,h.1,h.2,O⟩
    ·obtain rfl:p=0:=U;have d19:xv 19=Eu #[Ea Ur,E I cd]:=hd.at 19 rfl;exact Et (by simp[go_sem,d19]) O
    ·obtain rfl:p=0:=U;exact EqV
    ·exact EqV
    ·exact EpQ
    ·have d21:xv 21=Ea Ur:=hd.at 21 rfl;obtain⟨b,c8,eA,lb,h8,kb⟩:bN 117 10 n0 (xv 23) wq:=hd.at 23 rfl;have nh:=Xt.out;refine cX XY (Eh O) ⟨O,eA,d21⟩ kb h8 dV.out rI.out ⟨xa dV.out,?_⟩ ⟨b,eA,lb,kb.setRow _⟩;obtain⟨n1,s1,m1,-⟩:=hp;have ho:=J9 (g:=b) (W:=wq) Ur;exact⟨Ew n1 ho.size,s1.DK ho kb EU U,m1.only ho U U kb.lt,fun h=>UL⟩
    ·obtain rfl:p=1:=U;have d22:xv 22=E I cd:=hd.at 22 rfl;exact Et (by simp[go_sem,d22]) O
   case hend=>
    intro xv W6 hp hd;simp only[EM,Ih,Ik,Ic,If];obtain⟨b,eA,lb,kb⟩: ∃b:Nat,xv 23=V (D ⟨b,0,Z⟩)/\n0<=b/\H W6 b Ur 117:=hd 24 EU;have a25:xv 25=E I cd:=hd 25 EU;obtain⟨-,s6,m6,-⟩:=hp;replace S1:=J s6;replace MM:=J m6;have KB:=J kb;rw[eA,a25];clear s6 m6 kb hd eA a25 KM;by_cases hcd:cd=0
    ·subst hcd;go_wp2_with fail;have y0: ∀y:Ext W6,(EC W6 y).cell? ⟨gs,0,Z⟩=D (V (D ⟨gc,0,Z⟩)):=fun y=>(S1.out.B (EQ y)).IB;refine Oa 10 Ef Ef ?_;simp only[Is,Iq,IT,IM]
     repeat (first
      |go_big_quiet_skip
      |(go_big_quiet_want
        first
         |(refine UV (T:=117) (g:=b) XY _ rfl rfl KB ?_ ?_;(·exact dV.out);go_simp;go_big_quiet_on)
         |(refine DL (v:=E I (k-1)) (fun _=>tR rfl rfl rfl SB.out) ?_;go_simp;go_big_quiet_on)
         |(refine DL (v:=V (D ⟨gc,65+j*10,Z⟩)) (fun _=>fV rfl rfl rfl IX.out) ?_;go_simp;go_big_quiet_on)
         |(go_big_quiet_op
           first
            |go_big_quiet_on
            |go_big_quiet_call (fail))))
     refine I5 ?_;intro _ hw';obtain⟨y9,rfl⟩:=hw';have En:=EQ y9;replace KB:=EH KB En;replace S1:=J<|S1.out.B En;replace MM:=J<|MM.out.trans (EA.ED En);clear y0 En;generalize EC W6 y9=w9 at*;have TH:=J<|WP S1.out.core j HJ.out;go_wp2_with ((with_reducible refine I3 117 ?_);(with_reducible refine Ux O 117 _ _ O gc (65+j*10) Ur ?_ ?_ ?_ ?_ ?_ ?_);(·rfl);(·rfl);(·rw[dV.out];exact TH.out);(·rw[dV.out];exact XY.2);(·exact rI.out);refine Ex.mk ?_);apply Es;have S4:=S1.out.WQ j HJ.out d2 HD2.out;rw[<-xg.out] at S4;obtain⟨d0,d1,d2',hd,KG,-⟩:=S1.out.core.Ek;replace KB:=J<|(JP (g:=gc) Ur.toList (65+j*10) w9).Ek KB.out (E6 KB.out KG EU);replace S1:=J S4.1;replace MM:=J<|MM.out.trans S4.2;clear S4 TH KG;generalize w9.setCells gc (65+j*10) Ur.toList=U8 at*;have NC:Ed (Ur.extract 2 (2+8)=Em d2.nc):=J (by rw[xg.out];exact WH _ _ _ HD2.out.len);have NS:Ed ((Em d2.nc).size=8):=J (by rw[Ob];exact HD2.out.len);have BN:=J<|Egi d2.nc HD2.out.len;have IR:=J<|Egj 129 0 0 0 0 0 HD2.out.len HD2.out.bytes;generalize [129,0,0,0,0,0]++d2.nc=rl at*;generalize Em d2.nc=nv at*;go_wp2_with (first|(with_reducible refine wM (off:=2) (cs:=nv) bu KB ?_ (hn:=NS.out) (he:=NC.out))|((with_reducible refine Io 77 ?_);refine I4 rfl 222 _ rfl (JJ rl) BN.out ?_));refine(wE lo hi g gc gq gt gs c ns rs rl k _ S1.out IR.out J_).mono ?_;rintro e11 fC ⟨rfl,s11,m11⟩;replace S1:=J s11;replace MM:=J<|MM.out.trans m11;clear s11 m11;go_wp2_with fail;refine(ZD lo hi g gc gq gt gs c (ns+1) rs 2 k 0 0 0 _ S1.out JQ).mono ?_;rintro e12 UH ⟨rfl,s12,m12⟩;have S8:=J s12;replace MM:=J<|MM.out.trans m12;clear s12 m12;go_wp2;go_end0;exact⟨O,⟨1,2,_,U,S8.out⟩,MM.out⟩
    ·have t9:(cd !=0)=EJ:=dP;go_wp2_with fail;refine(iL lo hi g gc gq gt gs c ns rs k 0 cd _ S1.out J_ JQ).mono ?_;rintro e7 w7 ⟨rfl,s7,m7⟩;have S8:=J s7;replace MM:=J<|MM.out.trans m7;clear s7 m7;go_wp2_with fail;refine ET (UQ O _ _ _) O ?_;exact⟨O,⟨1,7,_,U,S8.out⟩,MM.out⟩
 ·have t9:(mJ !=0)=EJ:=by simpa using xd
  go_wp2_with fail;refine(tf lo hi g gc gq gt gs c ns rs k 13 _ S1.out JQ).mono ?_;rintro e7 w7 ⟨rfl,s7,m7⟩;have S8:=J s7;replace MM:=J<|MM.out.trans m7;clear s7 m7;go_wp2_with fail;refine ET (UQ O _ _ _) O ?_;exact⟨O,⟨0,1,_,U,S8.out⟩,MM.out⟩
theorem Egm(gc:Nat)(k:Int)(j:Nat)(hk:k=(j:Int)+1)(hj:j<3)(W:M):(qY 24 (V (D ⟨gc,5,Z⟩)) (E I (k-1))).run EZ W= .ok (V (D ⟨gc,5+j,Z⟩)) W:=by exact EqA
theorem Egn(T:EB)(parts:Array (Nat×J5))(ho:o.op= .build T parts)(cs:Array Y)(hb:P.built T (parts.toList.map fun(i,x)=>(i,a.eval x))=D cs) (hk:K (a.put o.dst (Ea cs))):o.quiet P a (fun w'=> ∃x,w'=EC W x) K:=by refine⟨_,fun w hw=> ?_,hk⟩;have hrun:=fun w=>run_build (P:=P) w T (parts.map fun(i,x)=>(i,a.eval x)) cs (by rw[Array.toList_map];exact hb);unfold Oper.quietAt Ig;simp only[ho,OH,hrun,OM,Oi];obtain⟨y,rfl⟩:=hw;exact⟨O,O⟩
theorem Ego{off:Nat}{xs:List Int}(h:Row w (D ⟨b,off,Z⟩) xs):w.rangeAt b off (xs.map (E .u8)):=fun j v hv=>by
 obtain⟨h1,-⟩:=h;rcases h1 with rfl|⟨b',o',e,h3⟩;·simp at hv
 ·injection e with e;injection e with e1 e2 e3;subst e1 e2;rw[List.getElem?_map] at hv;cases hx:xs[j]? with
  |none=>rw[hx] at hv;cases hv
  |some x=> rw[hx] at hv;obtain⟨hj,ej⟩:=Xx.1 hx;injection hv with hv;rw[h3 j hj,ej,<-hv]
theorem Egp{T:EK}{r:Int}{key:List Int}{e:Ud}(h:sQ T gt s r key w e w'): ∃cd T',e=Ei (E I cd)/\Iv w' gt T'/\E7 gt w w'/\((cd≠0/\T'=T)\/(cd=0/\(s=1\/s=2\/s=3)/\T'=T.put (s-1).toNat (XD EJ (max T.Iu 0) r key))):=by
 unfold sQ at h;obtain⟨h1,h2⟩:=h;split at h1
 ·rename_i h3;split at h1;·exact⟨19,T,h1.1,h1.2,h2,.inl ⟨EU,rfl⟩⟩
  ·exact⟨0,_,h1.1,h1.2,h2,.inr ⟨rfl,h3.1,rfl⟩⟩
 ·exact⟨1,T,h1.1,h1.2,h2,.inl ⟨EU,rfl⟩⟩
theorem Egq(lo hi:Nat)(g:Nat->Y)(gc gq gt gs:Nat)(c:Ey)(ns:Nat)(rs:List Rec)(A:Option Ep)(n cap:Nat)(xs:List Int)(k:Int)(w:M)(S:E9 lo hi g gc gq gt gs c ns rs w)(hk:1<=k/\k<=3)(hx:xs.length=n)(hnc:n<=cap)(hcap:cap<=9223372036854775807)(hr:Row w A xs)(hn:ns<800000)(hl:rs.length<800000): Eg EZ 87 #[V (D ⟨gs,0,Z⟩),E I k,G A n cap] w fun e w'=>e=Ei (Eu #[])/\(∃c' m kd cd,m<=1/\E9 lo hi g gc gq gt gs c' (ns+m) (rs++[⟨kd,k,0,c.tok.e,cd,0⟩]) w'/\(c'=c\/(kd=3/\ ∃T':EK,c'={c with T:=T'})))/\EA lo hi w w':=by
 obtain⟨j,hj,Xy⟩: ∃j:Nat,k=(j:Int)+1/\j<3:=⟨(k-1).toNat,U,U⟩;have IX:=J<|fun W=>WR gc k j hj Xy W;have SB:=J<|fun W=>sub_one k hk.1 hk.2 W;have HJ:=J Xy;have HK:=J hk;have IK:=J<|fun W=>Egm gc k j hj Xy W;have S1:=J S;have HN:=J hn;have HL:=J hl;have MM:=J<|EA.refl lo hi w;have PI:=J<|fun i (h1:9<=i) (h2:i<56)=>S.core.XV.int i h2 (.inr U);by_cases Egr:n=10
 ·subst Egr
  obtain⟨b0,Mw,rfl⟩: ∃b off,A=D ⟨b,off,Z⟩:=by
   rcases hr.1 with h|⟨b,off,e,-⟩;·rw[h] at hx;cases hx
   ·exact⟨b,off,e⟩
  have CT:=J<|fun W (h:Row W (D ⟨b0,Mw,Z⟩) (xs.take 2))=>Ku (xs.take 2) (D ⟨b0,Mw,Z⟩) 2 cap (by rw[ar,hx];rfl) U hcap W h;have xh:=J hr;have WV:=J hx;have HNC:=J hnc;clear S hn hl hk hj Xy hx hr hcap;go_enter Tryz.func87,Tryz.ntmps87;go_wp2_with fail;refine(CT.out _ (r_ xh.out 2)).mono ?_;rintro e1 w1 h1
  obtain⟨l,mJ,he,b1⟩: ∃(l:List Int) (mJ:Int),e1=Ei (Eu #[Ea (EF l),E I mJ])/\El w w1:=by
   obtain⟨h1,b1⟩:=h1;cases h2:fG (xs.take 2) with
   |none=>rw[h2] at h1;exact⟨_,_,h1,b1⟩
   |some l=>rw[h2] at h1;exact⟨_,_,h1,b1⟩
  subst he;replace S1:=J<|S1.out.B b1;replace MM:=J<|EA.ED (lo:=lo) (hi:=hi) b1;have RR:=J<|It xh.out b1;obtain⟨v2,hv2⟩:=Eo (l.getD 2 0);have tS:Ed (∀W g,H W g (EF l) 183->W.cell? ⟨g,2,Z⟩=D (E I v2)):=J (fun W g K=>by rw[hv2];exact X_ K 2 U U);have i6:=J<|Ja l;have oX:=J<|ZY l;clear h1 b1 CT xh hv2;generalize EF l=mv at*;have K0:=J<|H.new w1 (EF (Ia 0)) 183;have b2:=Er w1 (Eb (EF (Ia 0)) 183);go_wp2_with (with_reducible first|refine wA iB ?_|refine wS (cs:=mv) OY K0 (Ex.mk ?_) (ho:=Ja _) (hn:=i6.out) (h1:=oX.out));apply Es;obtain⟨gm,hgm⟩:=Eo w1.heap.size;rw[<-hgm] at K0⊢;generalize w1.alloc (Eb (EF (Ia 0)) 183)=w2 at*;have KM:=J<|K0.out.setRow mv;have b3:=EY (g:=gm) b2 (OC hgm.symm) mv;generalize w2.setRow gm mv=w3 at*;clear K0 b2 hgm;replace S1:=J<|S1.out.B b3;replace MM:=J<|MM.out.trans (EA.ED b3);replace RR:=J<|It RR.out b3;clear b3;by_cases xd:mJ=0
  ·subst xd;have Sg:=Sf;obtain⟨pf,hpf⟩:=Eo (xs.drop 2);have hpl:pf.length=8:=by rw[hpf,il,WV.out]
   have RG:=J<|Ego (lf RR.out 2);have hpb:=(lf RR.out 2).2;rw[<-hpf] at RG hpb;have WW:Ed ((Em pf).size=8):=J (by rw[Ob,hpl]);have Egt:Ed ((pf.map (E .u8)).toArray=Em pf):=J O;have ld:=J hpl;have ay:=J hpb;clear hpf hpl hpb RR WV HNC;have K0:=J<|H.new w3 (Em (Ev 8)) 115;have b2:=Er w3 (Eb (Em (Ev 8)) 115);go_wp2_with (first|((with_reducible refine Xm 115 ?_);(with_reducible refine wpList_load_mid rfl 115 _ rfl b0 (Mw+2) ?_ (pf.map (E .u8)) _ ?_ Tryz.underlying115 ?_ ?_ ?_);(·rfl);(·exact RG.out);(·rfl);(·rw[List.length_map,ld.out];kernel_rfl);rw[Egt.out])|(with_reducible refine wA sP ?_)|(with_reducible refine wS (cs:=(Em pf)) bu K0 (Ex.mk ?_) (ho:=XP) (hn:=WW.out) (h1:=X6 _)));apply Es;obtain⟨gp,UG⟩:=Eo w3.heap.size;rw[<-UG] at K0⊢;clear Sg RG;generalize w3.alloc (Eb (Em (Ev 8)) 115)=Cj at*;have KP:=J<|K0.out.setRow (Em pf);have b3:=EY (g:=gp) b2 (OC UG.symm) (Em pf);generalize Cj.setRow gp (Em pf)=w4 at*;clear K0 b2 UG;replace KM:=EH KM b3;replace S1:=J<|S1.out.B b3;replace MM:=J<|MM.out.trans (EA.ED b3);clear b3;obtain⟨A5,n5,c5,ys,q_,hyl,hy1,Mt,Mu,hym,xf⟩:=(S1.out.core.keys (5+j) U (by have:=HJ.out;omega)).row;obtain⟨dd,Mv,od,bg,bx⟩:=WN S1.out.core j HJ.out;have BG:=J bg;have BX:=J bx;have RY:=J xf;obtain⟨d2,kv,cd,rE,hkl,hkb,mO⟩:=Egg dd od A5 ys pf n5 c5 k v2 hyl U ld.out ay.out;have DM:Ed ((IP dd.n dd.op dd.nc).size=10):=J<|dc _ _ _ od.len;have dV:Ed ((IP d2.n d2.op d2.nc).size=10):=J<|dc _ _ _ rE.len;have rI:Ed ((IP d2.n d2.op d2.nc).all (·.oneCell')=EJ):=J<|tQ _ _ _;have Mx:Ed ((Em kv).size=32):=J (by rw[Ob,hkl]);have KVO:=J<|X6 kv;have fB:=J hkl;have pN:=J hkb;have HD2:=J rE;obtain⟨dv,hdv⟩:=Eo (IP dd.n dd.op dd.nc);obtain⟨Ur,rJ⟩:=Eo (IP d2.n d2.op d2.nc);rw[<-hdv] at mO DM BX;rw[<-rJ] at mO dV rI;have CH:=J mO;have xg:=J rJ;obtain⟨key,hkey⟩:=Eo (G A5 n5 c5);rw[<-hkey] at CH q_;have DN:Ed (∀W,E9 lo hi g gc gq gt gs c ns rs W->W.cell? ⟨gc,5+j,Z⟩=D key):=J (fun W s=>by have hj:=HJ.out;have h:W.cell? ⟨gc,lB 0+(5+j),Z⟩=(EL 56 g).toList[5+j]?:=s.core.cell 0 rfl (5+j) I8;rw[show lB 0+(5+j)=5+j from Ox _] at h;rw[h,show(EL 56 g).toList[5+j]?=D (g (5+j)) by simp[EL,show 5+j<56 from U],q_]);clear od bg bx xf mO rE hdv rJ hkey q_ hyl hy1 Mt Mu hym hkl hkb;obtain⟨n0,hn0⟩:=Eo w4.heap.size;have Xt:=J (show lo<=n0/\hi<=n0/\w.heap.size<=n0 from oI);go_wp2_with fail;refine iS (Ph:=fun p wq=>(n0<=wq.heap.size/\E9 lo hi g gc gq gt gs c ns rs wq/\EA lo hi w wq/\H wq gm mv 183/\(p=0->Row wq A5 ys/\Ju wq/\H wq gp (Em pf) 115/\ ∃big:Array Y,H wq gc big 120/\big.extract (65+j*10) (65+j*10+10)=dv))) (Rel:=J0) (Iw:=fun w w'=>mI 117 10 Ur w w'/\mI 41 32 (Em kv) w w') [.val (fun v=>v=V (D ⟨gs,0,Z⟩)),.val (fun v=>v=V (D ⟨gs,0,Z⟩)),.val (fun v=>v=V (D ⟨gs,0,Z⟩)),.val (fun v=>v=V (D ⟨gc,0,Z⟩)),.val (fun v=>v=E I k),.val (fun v=>v=E I (k-1)),.val (fun v=>v=V (D ⟨gc,0,Z⟩)),.val (fun v=>v=V (D ⟨gc,65,Z⟩)),.val (fun v=>v=V (D ⟨gc,65+j*10,Z⟩)),.val (fun v=>v=Ea dv),.val (fun v=>v=V (D ⟨gs,0,Z⟩)),.val (fun v=>v=V (D ⟨gs,0,Z⟩)),.val (fun v=>v=V (D ⟨gs,0,Z⟩)),.val (fun v=>v=V (D ⟨gc,0,Z⟩)),.val (fun v=>v=E I k),.val (fun v=>v=E I (k-1)),.val (fun v=>v=V (D ⟨gc,0,Z⟩)),.val (fun v=>v=V (D ⟨gc,0,Z⟩)),.val (fun v=>v=V (D ⟨gc,5,Z⟩)),.val (fun v=>v=V (D ⟨gc,5+j,Z⟩)),.val (fun v=>v=key),.val (fun v=>v=E I k),.val (fun v=>v=V (D ⟨gm,2,Z⟩)),.val (fun v=>v=E I v2),.val (fun v=>v=Ea (Em pf)),.val (fun v=>v=Eu #[Ea Ur,Ea (Em kv),E I cd]),.val (fun v=>v=Eu #[Ea Ur,Ea (Em kv),E I cd]),.val (fun v=>v=Ea Ur),.val (fun v=>v=Ea (Em kv)),.val (fun v=>v=E I cd),.dep (bN 117 10 n0) (fun v w w' h hr=>h.B hr) (fun v w w' h hr=>h.sz hr.1),.dep (bN 41 32 n0) (fun v w w' h hr=>h.B hr) (fun v w w' h hr=>h.sz hr.2),.tied [30] (fun x w=> ∃b:Nat,x 30=V (D ⟨b,0,Z⟩)/\n0<=b/\H w b Ur 117) (fun x w w' h hr=>qK) (fun x w w' h hr=>by obtain⟨b,h1,h2,h3⟩:=h;obtain⟨c',-,h4,h5⟩:=hr.1 b _ h3 dV.out;exact⟨b,h1,h2,h5 O▸h4⟩) (fun x y w hq h=>by rw[hq 30 Ej] at h;exact h),.tie [31] (fun x w=> ∃b:Nat,x 31=V (D ⟨b,0,Z⟩)/\n0<=b/\H w b (Em kv) 41) (fun x w w' h hr=>qK) (fun x y w hq h=>by rw[hq 31 Ej] at h;exact h),.val (fun v=>v=E I cd)] [EI,EI,EI,EI,EI,EI,EI,EI,EI,EI,EI,EI,EI,EI,EI,EI,EI,EI,EI,EI,EI,EI,EI,EI,EI,EI,EI,EI,EI,EI,EI,EI,EI,EJ,EI] O [[],[],[],[],[],[],[],[],[],[],[],[],[],[],[],[],[],[],[],[],[],[],[],[],[],[],[],[],[],[],[],[],[30],[31],[]] O [32,33] [(0,0),(0,0),(0,0),(0,0),(0,0),(0,0),(0,0),(0,0),(0,0),(0,0),(0,0),(0,0),(0,0),(0,0),(0,0),(0,0),(0,0),(0,0),(0,0),(0,0),(0,0),(0,0),(0,0),(0,0),(0,0),(0,0),(0,0),(0,0),(0,1),(0,2),(0,0),(0,0),(0,0),(1,1),(2,2)] Ef Ef Ef Ef Ef Ef UP Ef ?hPh ?h0 ?hstep ?hend;case hPh=> intro p w2 w3 h hr;exact⟨Ew h.1 (XE hr),h.2.1.B hr,h.2.2.1.trans (EA.ED hr),H.B h.2.2.2.1 hr,fun hp=>by obtain⟨a1,a2,ap,big,a3,a4⟩:=h.2.2.2.2 hp;exact⟨It a1 hr,a2.B hr,H.B ap hr,big,H.B a3 hr,a4⟩⟩
   case h0=> have hb:=Jn w4;exact⟨Ew (OC hn0) (XE hb),S1.out.B hb,MM.out.trans (EA.ED hb),H.B KM.out hb,fun _=>⟨It RY.out hb,S1.out.core.roots.B hb,H.B KP.out hb,Mv,H.B BG.out hb,BX.out⟩⟩
   case hstep=>
    refine⟨?_,?_,?_,?_,?_,?_,?_,?_,?_,?_,?_,?_,?_,?_,?_,?_,?_,?_,?_,?_,?_,?_,?_,?_,?_,?_,?_,?_,?_,?_,?_,?_,?_,?_,?_,trivial⟩;all_goals first|intro xv wq p hlo hhi hp hd|intro xv wq hp hd
    all_goals simp only[EM,Ih,Ik,Ic,If]
    ·exact Enx
    ·exact EnP
    ·exact EnN
    ·exact Enz
    ·exact Enx
    ·exact Ep_
    ·exact EnM
    ·obtain rfl:p=0:=U;exact Epz
    ·exact EpJ
    ·obtain rfl:p=0:=U;have d8:xv 8=V (D ⟨gc,65+j*10,Z⟩):=hd.at 8 rfl;obtain⟨-,-,-,big,KB,EX⟩:=hp.2.2.2.2 rfl;exact bi ER XY (Eh O) ⟨O,d8⟩ KB DM.out EX O
    ·exact Enx
    ·exact Eqh
    ·exact Eqg
    ·exact Eo8
    ·exact Enx
    ·obtain rfl:p=0:=U;have d14:xv 14=E I k:=hd.at 14 rfl;exact IQ ER (Eh O) (tR O d14 O SB.out) O
    ·exact Eqf
    ·obtain rfl:p=0:=U;exact Eqa
    ·exact Eo3
    ·obtain rfl:p=0:=U;have d18:xv 18=V (D ⟨gc,5,Z⟩):=hd.at 18 rfl;have d15:xv 15=E I (k-1):=hd.at 15 rfl;exact IQ ER (Eh O) (fV O d18 d15 IK.out) O
    ·obtain rfl:p=0:=U;have d19:xv 19=V (D ⟨gc,5+j,Z⟩):=hd.at 19 rfl;have cc:wq.cell? ⟨gc,5+j,Z⟩=D (key):=DN.out wq hp.2.1;exact Et Dx O
    ·exact Enx
    ·exact Enx
    ·obtain rfl:p=0:=U;have d22:xv 22=V (D ⟨gm,2,Z⟩):=hd.at 22 rfl;have cc:wq.cell? ⟨gm,2,Z⟩=D (E I v2):=tS.out _ _ hp.2.2.2.1;exact Et Mn O
    ·obtain rfl:p=0:=U;exact jn ER bu (Eh O) ⟨O,O⟩ ((hp.2.2.2.2 rfl).2.2.1) WW.out O
    ·obtain rfl:p=0:=U;have d9:xv 9=Ea dv:=hd.at 9 rfl;have d20:xv 20=key:=hd.at 20 rfl;have d21:xv 21=E I k:=hd.at 21 rfl;have d23:xv 23=E I v2:=hd.at 23 rfl;have d24:xv 24=Ea (Em pf):=hd.at 24 rfl;refine JL (f:=123) (args:= #[xv 9,xv 20,xv 21,xv 23,xv 24]) (Eh O) Ez ?_;rw[d9,d20,d21,d23,d24];exact(CH.out wq (hp.2.2.2.2 rfl).1 (hp.2.2.2.2 rfl).2.1).mono fun e w2 h=>⟨_,h.1,h.2,O⟩
    ·obtain rfl:p=0:=U;have d25:xv 25=Eu #[Ea Ur,Ea (Em kv),E I cd]:=hd.at 25 rfl;exact Et (by simp[go_sem,d25]) O
    ·obtain rfl:p=0:=U;exact EpX
    ·exact EpX
    ·exact EpX
    ·exact EpQ
    ·obtain rfl:p=0:=U;exact Zp (Eh O) (fy _ _ _ O) (Er wq _) ⟨wq.heap.size,_,O,hp.1,O,H.new _ _ _⟩
    ·have d27:xv 27=Ea Ur:=hd.at 27 rfl;obtain⟨b,c8,eA,lb,h8,kb⟩:bN 117 10 n0 (xv 30) wq:=hd.at 30 rfl;have nh:=Xt.out;refine cX XY (Eh O) ⟨O,eA,d27⟩ kb h8 dV.out rI.out ⟨⟨xa dV.out,WM kb EU⟩,?_⟩ ⟨b,eA,lb,kb.setRow _⟩;obtain⟨n1,s1,m1,km,-⟩:=hp;have ho:=J9 (g:=b) (W:=wq) Ur;exact EpV
    ·have d28:xv 28=Ea (Em kv):=hd.at 28 rfl;obtain⟨b,c8,eA,lb,h8,kb⟩:bN 41 32 n0 (xv 31) wq:=hd.at 31 rfl;have nh:=Xt.out;refine cX UX (Eh O) ⟨O,eA,d28⟩ kb h8 Mx.out KVO.out ⟨⟨WM kb EU,xa Mx.out⟩,?_⟩ ⟨b,eA,lb,kb.setRow _⟩;obtain⟨n1,s1,m1,km,-⟩:=hp;have ho:=J9 (g:=b) (W:=wq) (Em kv);exact EpV
    ·obtain rfl:p=2:=U;have d29:xv 29=E I cd:=hd.at 29 rfl;exact Et (by simp[go_sem,d29]) O
   case hend=>
    intro xv W6 hp hd;simp only[EM,Ih,Ik,Ic,If];obtain⟨b,eA,lb,kb⟩: ∃b:Nat,xv 30=V (D ⟨b,0,Z⟩)/\n0<=b/\H W6 b Ur 117:=hd 32 EU;obtain⟨bk,eK,lk,kk⟩: ∃b:Nat,xv 31=V (D ⟨b,0,Z⟩)/\n0<=b/\H W6 b (Em kv) 41:=hd 33 EU;have a34:xv 34=E I cd:=hd 34 EU;obtain⟨-,s6,m6,dT,-⟩:=hp;replace S1:=J s6;replace MM:=J m6;replace KM:=J dT;have KB:=J kb;have KK:=J kk;rw[eA,eK,a34];clear s6 m6 dT kb kk hd eA eK a34 KP BG BX RY CH DN;go_wp2_with fail;have y0: ∀y:Ext W6,(EC W6 y).cell? ⟨gs,0,Z⟩=D (V (D ⟨gc,0,Z⟩)):=fun y=>(S1.out.B (EQ y)).IB;refine Oa 10 Ef Ef ?_;simp only[Is,Iq,IT,IM]
    repeat (first
     |go_big_quiet_skip
     |(go_big_quiet_want
       first
        |(refine UV (T:=117) (g:=b) XY _ rfl rfl KB ?_ ?_;(·exact dV.out);go_simp;go_big_quiet_on)
        |(refine DL (v:=E I (k-1)) (fun _=>tR rfl rfl rfl SB.out) ?_;go_simp;go_big_quiet_on)
        |(refine DL (v:=V (D ⟨gc,65+j*10,Z⟩)) (fun _=>fV rfl rfl rfl IX.out) ?_;go_simp;go_big_quiet_on)
        |(go_big_quiet_op
          first
           |go_big_quiet_on
           |go_big_quiet_call (fail))))
    refine I5 ?_;intro _ hw';obtain⟨y9,rfl⟩:=hw';have En:=EQ y9;replace KB:=EH KB En;replace KK:=EH KK En;replace KM:=EH KM En;replace S1:=J<|S1.out.B En;replace MM:=J<|MM.out.trans (EA.ED En);clear y0 En;generalize EC W6 y9=w9 at*;have TH:=J<|WP S1.out.core j HJ.out;go_wp2_with ((with_reducible refine I3 117 ?_);(with_reducible refine Ux O 117 _ _ O gc (65+j*10) Ur ?_ ?_ ?_ ?_ ?_ ?_);(·rfl);(·rfl);(·rw[dV.out];exact TH.out);(·rw[dV.out];exact XY.2);(·exact rI.out);refine Ex.mk ?_);apply Es;have S4:=S1.out.WQ j HJ.out d2 HD2.out;rw[<-xg.out] at S4;obtain⟨d0,d1,d2',hd,KG,-⟩:=S1.out.core.Ek;have oZ:=JP (g:=gc) Ur.toList (65+j*10) w9;replace KK:=J<|oZ.Ek KK.out (E6 KK.out KG EU);replace KM:=J<|oZ.Ek KM.out (E6 KM.out KG EU);replace S1:=J S4.1;replace MM:=J<|MM.out.trans S4.2;clear S4 TH KG KB oZ;generalize w9.setCells gc (65+j*10) Ur.toList=U8 at*;by_cases nT:cd=17;·subst nT;go_wp2_with fail;refine(iL lo hi g gc gq gt gs c ns rs k 0 17 _ S1.out J_ JQ).mono ?_;exact EoH
    ·have t17:(cd==17)=EI:=by simpa using nT
     by_cases hcd:cd=0
     ·subst hcd;clear nT;go_wp2_with fail;obtain⟨d0,d1,d2,hd,KG,o0,o1,o2,-,-⟩:=S1.out.core.Ek;have Xh:=J<|Oo (c:=c) (gq:=gq) (gt:=gt) (hd:=hd) (JC g) o0 o1 o2 0 U;have KG:=J KG;have PL:=J<|JC g;have XJ:Ed ((EL 56 g).toList.toArray=EL 56 g):=J Ej;clear o0 o1 o2;have y0: ∀y:Ext U8,(EC U8 y).cell? ⟨gs,0,Z⟩=D (V (D ⟨gc,0,Z⟩)):=fun y=>(S1.out.B (EQ y)).IB;have y2: ∀y:Ext U8,(EC U8 y).cell? ⟨gm,2,Z⟩=D (E I v2):=fun y=>tS.out _ _ (H.B KM.out (EQ y));refine ZQ Ef Ef ?_
      repeat (first
       |go_big_quiet_skip
       |(go_big_quiet_want
         first
          |(refine Zf (T:=28) (g:=gc) (off:=0) U1 _ rfl rfl KG 0 rfl Xh.out PL.out ?_;(try rw[XJ.out]);go_simp;go_big_quiet_on)
          |(go_big_quiet_op
            first
             |go_big_quiet_on
             |go_big_quiet_call (with_reducible refine ao (VX g k v2 _ PI.out)))))
      refine I5 ?_;intro _ hw';obtain⟨y9,rfl⟩:=hw';have En:=EQ y9;replace KM:=EH KM En;replace S1:=J<|S1.out.B En;replace MM:=J<|MM.out.trans (EA.ED En);replace KK:=EH KK En;clear y0 y2 En KG Xh PL XJ;generalize EC U8 y9=fC at*;cases htk:lx g k v2 with
      |false=> go_wp2_with fail;refine(iL lo hi g gc gq gt gs c ns rs k 0 18 _ S1.out J_ JQ).mono ?_;rintro e7 w7 ⟨rfl,s7,m7⟩;have S8:=J s7;replace MM:=J<|MM.out.trans m7;clear s7 m7;go_wp2_with fail;refine ET (UQ O _ _ _) O ?_;exact⟨O,⟨c,1,7,_,U,S8.out,.inl O⟩,MM.out⟩
      |true=>
       go_wp2_with fail;clear htk t17;have y0: ∀y:Ext fC,(EC fC y).cell? ⟨gs,0,Z⟩=D (V (D ⟨gc,0,Z⟩)):=fun y=>(S1.out.B (EQ y)).IB;have y95: ∀y:Ext fC,(EC fC y).cell? ⟨gc,95,Z⟩=D (V (D ⟨gt,0,Z⟩)):=fun y=>(S1.out.B (EQ y)).core.cell 6 rfl 0 Ej;have y2: ∀y:Ext fC,(EC fC y).cell? ⟨gm,2,Z⟩=D (E I v2):=fun y=>tS.out _ _ (H.B KM.out (EQ y));refine Oa 11 Ef Ef ?_;simp only[Is,Iq,IT,IM]
       repeat (first
        |go_big_quiet_skip
        |(go_big_quiet_want
          first
           |(refine UV (T:=41) (g:=bk) UX _ rfl rfl KK ?_ ?_;(·exact Mx.out);go_simp;go_big_quiet_on)
           |(go_big_quiet_op
             first
              |go_big_quiet_on
              |go_big_quiet_call (fail))))
       refine I5 ?_;intro _ hw';obtain⟨y9,rfl⟩:=hw';have En:=EQ y9;replace KM:=EH KM En;replace S1:=J<|S1.out.B En;replace MM:=J<|MM.out.trans (EA.ED En);clear y0 y95 y2 En KK;generalize EC fC y9=UH at*;go_wp2_with fail;refine(EZs gt c.T k v2 kv _ S1.out.core.tab S1.out.core.ok.T fB.out).mono ?_;intro e13 JM iK;obtain⟨Mz,T',rfl,kt,ot,hT⟩:=Egp iK
       have hok:T'.ok/\T'.Xb:=by
        rcases hT with⟨-,rfl⟩|⟨-,-,rfl⟩;·exact⟨S1.out.core.ok.T,S1.out.core.ok.Iu⟩
        ·exact⟨S1.out.core.ok.T.put _ (EZm _ _ _ _ fB.out pN.out),S1.out.core.ok.Iu.put _ (TM.start S1.out.core.ok.Iu)⟩
       have hS:=S1.out.wW ot T' kt (S1.out.core.ok.wV hok.1 hok.2);replace KM:=J<|ot.Ek KM.out (E6 KM.out S1.out.core.tab EU);replace S1:=J hS.1;replace MM:=J<|MM.out.trans hS.2;have HT:=J hT;clear iK kt ot hT hok hS;by_cases hc3:Mz=0
       ·subst hc3;go_wp2_with fail;have y0: ∀y:Ext JM,(EC JM y).cell? ⟨gs,0,Z⟩=D (V (D ⟨gc,0,Z⟩)):=fun y=>(S1.out.B (EQ y)).IB;have y2: ∀y:Ext JM,(EC JM y).cell? ⟨gm,2,Z⟩=D (E I v2):=fun y=>tS.out _ _ (H.B KM.out (EQ y));obtain⟨hh,jY⟩:=Eo c.tok.h;obtain⟨ee,hee⟩:=Eo c.tok.e;have DP: ∀y:Ext JM,(EC JM y).cell? ⟨gc,56,Z⟩=D (E I hh):=fun y=>by rw[jY];exact(S1.out.B (EQ y)).core.cell 1 rfl 0 XW
        have y57: ∀y:Ext JM,(EC JM y).cell? ⟨gc,57,Z⟩=D (E I ee):=fun y=>by rw[hee];exact(S1.out.B (EQ y)).core.cell 1 rfl 1 XW
        replace jY:=J jY;replace hee:=J hee;have BR:Tryz.prog.built 222 [(0,E I 130),(2,E I v2),(3,E I hh),(4,E I ee)]=D (JJ [130,0,v2,hh,ee,0,0,0,0,0,0,0,0,0]):=Ef;refine Oa 21 Ef Ef ?_;simp only[Is,Iq,IT,IM]
        repeat (first
         |go_big_quiet_skip
         |(go_big_quiet_want
           first
            |(refine Egn 222 _ rfl _ BR ?_;go_simp;go_big_quiet_on)
            |(go_big_quiet_op
              first
               |go_big_quiet_on
               |go_big_quiet_call (fail))))
        refine I5 ?_;intro _ hw';obtain⟨y9,rfl⟩:=hw';have En:=EQ y9;replace S1:=J<|S1.out.B En;replace MM:=J<|MM.out.trans (EA.ED En);clear y0 y2 DP y57 En KM BR;generalize EC JM y9=aP at*;go_wp2_with fail;refine(wE lo hi g gc gq gt gs _ ns rs [130,0,v2,hh,ee,0,0,0,0,0,0,0,0,0] k _ S1.out (qj _ _ _ _ _ _) J_).mono ?_;rintro e15 WY ⟨rfl,s15,m15⟩;replace S1:=J s15;replace MM:=J<|MM.out.trans m15;clear s15 m15;go_wp2_with fail;refine(ZD lo hi g gc gq gt gs _ (ns+1) rs 3 k 0 0 0 _ S1.out JQ).mono ?_;rintro e16 w16 ⟨rfl,s16,m16⟩;have S8:=J s16;replace MM:=J<|MM.out.trans m16;clear s16 m16;go_wp2;go_end0;exact⟨O,⟨_,1,3,_,U,S8.out,.inr ⟨O,T',O⟩⟩,MM.out⟩
       ·have t9:(Mz !=0)=EJ:=by simpa using hc3
        have eT:T'=c.T:=by
         rcases HT.out with⟨-,h⟩|⟨h,-⟩;·exact h
         ·exact absurd h hc3
        subst eT;go_wp2_with fail;refine(iL lo hi g gc gq gt gs c ns rs k 0 Mz _ S1.out J_ JQ).mono ?_;exact EoH
     ·have t9:(cd !=0)=EJ:=dP;go_wp2_with fail;refine(tf lo hi g gc gq gt gs c ns rs k cd _ S1.out JQ).mono ?_;exact En9
  ·have t9:(mJ !=0)=EJ:=by simpa using xd
   go_wp2_with fail;exact ErH
 ·have t9:((n:Int) !=10)=EJ:=I8;clear S hk hj Xy hx hr hcap hnc hn hl;go_enter Tryz.func87,Tryz.ntmps87;go_wp2_with fail;exact ErH
end Go.Proofs.YtclmichaaiohjaaGreatDoor
