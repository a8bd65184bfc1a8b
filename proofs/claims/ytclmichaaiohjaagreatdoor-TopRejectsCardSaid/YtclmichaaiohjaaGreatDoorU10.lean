import Derived.Test.YtclmichaaiohjaaGreatDoorU09
import Derived.Deep.Slices
set_option maxRecDepth 100000
set_option linter.unusedVariables false
set_option linter.unusedSimpArgs false
set_option maxHeartbeats 6400000
namespace Go.Proofs.YtclmichaaiohjaaGreatDoor
open RowKit
open And renaming intro->Jp
open _root_.Array renaming getElem?_eq_none->gQ
open Bool renaming true->EI,false->B
open Go renaming World->H,Calls->Ef,TypeId->EB,Value->Y,Addr->Eu,Program->Jh,bodyPost_ret->EV,execOp->If,wpList->Ic,below_setRow->E2,wpQuiet_nil->I1,results_none->UQ,Ending->Uh,wpList_store_mid->Ui
open Act renaming put->Ig
open DataW renaming trod->Zx
open Ending renaming returned->Eg
open IntKind renaming bits->jV,signed->jW,i64->I
open Lib renaming hid->J
open Obj renaming cells->EJ
open Go.Proofs.Tryz renaming prog->Eb,underlying23->bA
open RowKit renaming Hid->Ec,intOf->Ir
open RowKit.Below renaming refl->E9,alloc->JQ,setCell->JR,size->U8
open Value renaming bool->EU,int->E,agg->EZ,slice->G,tuple->Et,pointer->M,oneCell'->OF
open World renaming alloc->Uz,ownsRow_nil->bN,cell?->jo
open Int renaming le_refl->Zo
open List renaming mem_of_mem_take->fy,eq_nil_of_length_eq_zero->aF,getElem?_eq_getElem->J5,getElem?_eq_some_iff->Xx,take_append_drop->gT,take_succ_cons->Iq,drop_eq_getElem_cons->mg,length_take->aO,take_of_length_le->OY,getElem?_take_of_lt->bj,map_cons->Uv,map_nil->Xn,take_zero->Io,mem_map->dU,setIfInBounds_toArray->Ii,length_append->IY,length_cons->ZC,mem_cons->UJ,append_assoc->XI,set_cons_succ->Ia,set_cons_zero->Ib,mem_append->XM,nil_append->ZV,length_drop->mB,not_mem_nil->UA,drop_succ_cons->IP,drop_zero->IH,append_nil->fS,mem_append_left->k_,mem_singleton->cF
open List.cons renaming injEq->co
open Nat renaming lt_or_ge->JY,le_trans->Ez,le_refl->E7,zero_add->OD,zero_le->bG,add_assoc->jj,le_of_lt->am,le_of_eq->Om
open Option renaming some->Z,none->X
open KQ
variable{c c' c1:Ey}{n m lo gc gq gt gs base:Nat}{t t2 t' t1:EK}{g:Nat->Y}{rs rs':Int->List Int}{W w:H}{A:Option Eu}{new a:List Rec}{k code:Int}{l:List Int}{Y9:Type}{P:Jh}{cs:List Y}
theorem LF:Oq Eb 36 #[E I 0,E I 0,E I 0]:=by exact ElR
theorem Efx(ep:Int):Tryz.prog.built 183 [(0,E I 11),(4,E I ep),(6,E I 1)]=Z (ED [11,0,0,0,ep,0,1,0,0,0,0,0]):=Ed
theorem Efy(a b c:Int):Tryz.prog.built 36 [(0,E I a),(1,E I b),(2,E I c)]=Z #[E I a,E I b,E I c]:=Ed
theorem Efz(lo hi:Nat)(g:Nat->Y)(gc gq gt gs:Nat)(c:Ey)(ns:Nat)(rs:List Rec)(va gv:Bool)(x0 x1 x2 x3:Int)(w:H)(S:E5 lo hi g gc gq gt gs c ns rs w)(hx:I9 x0/\I9 x1/\I9 x2/\I9 x3)(hn:ns<800000)(hl:rs.length<800000): Ef Eb 94 #[M (Z ⟨gs,0,X⟩),EZ #[EU va,E I x0,E I x1,E I x2,E I x3,EU gv]] w fun e w'=>e=Eg (Et #[])/\(∃c' m new,m<=3/\E5 lo hi g gc gq gt gs c' (ns+m) (rs++new) w'/\Co c c' new)/\Ew lo hi w w':=by
 obtain⟨ep,Wd⟩:=En c.tok.e;obtain⟨jd,sH⟩: ∃jd:Int,∀W,Xr W->Ef Eb 138 #[EZ (EG 56 g),EZ c.tok.v.toArray,E I 0,E I 0,E I c.mode,EZ (ED [11,0,0,0,ep,0,1,0,0,0,0,0])] W fun e w'=>e=Eg (E I jd)/\El W w':=⟨_,fun W hc=>SP g c.tok.h c.tok.e 0 0 c.mode 11 ep 0 1 (E I c.tok.o) (E I c.tok.oa) (E I c.tok.om) (E I c.tok.la) (E I c.tok.lm) (EU c.tok.bad) (E I 0) (E I 0) (E I 0) (EU B) (E I 0) (E I 0) (E I 0) (E I 0) W (fun i h1 h2=>S.core.X2.int i h2 (.inr U)) hc⟩;obtain⟨p,hpo,hpb,ld⟩: ∃p:Pt,p.ok/\p.b=⟨1,0,c.samples⟩/\ ∀W,Ef Eb 139 #[EZ (EG 56 g),EZ c.pt.v.toArray,E I 1,EZ #[E I x0,E I x1,E I x2,E I x3],EZ #[E I 1,E I 0,E I c.samples]] W fun e w'=>e=Eg (EZ p.v.toArray)/\El W w':=Vu g c.pt S.core.X2.fit S.core.ok.pt 0 c.samples 1 x0 x1 x2 x3 U hx.1 hx.2.1 hx.2.2.1 hx.2.2.2;have S0:=J S;have HN:=J hn;have HL:=J hl;have CJ:=J sH;have io:=J hpo;have ZH:=J hpb;have Wf:=J<|Efx ep;have HEP:=J Wd;obtain⟨sm,hsm⟩:=En c.samples;replace hsm:=J hsm;have CS:=J ld;rw[<-hsm.out] at CS;have Lp:=J<|Efy 1 0 sm;have KS:=J<|D.new w #[EU va,E I x0,E I x1,E I x2,E I x3,EU gv] 46;have b1:=Er w (EJ #[EU va,E I x0,E I x1,E I x2,E I x3,EU gv] 46);have S1:=J<|S0.out.V b1;have MM:=J<|Ew.EA (lo:=lo) (hi:=hi) b1;have iC:=J<|I_ [11,0,0,0,ep,0,1,0,0,0,0,0];have nA:=J<|ZF [11,0,0,0,ep,0,1,0,0,0,0,0];obtain⟨mv,hmv⟩:=En (ED [11,0,0,0,ep,0,1,0,0,0,0,0]);rw[<-hmv] at CJ Wf iC nA;clear S hn hl sH hpo hpb ld Wd hmv hx S0;have z0:=S1.out.IB;have z57:(w.alloc (EJ #[EU va,E I x0,E I x1,E I x2,E I x3,EU gv] 46)).cell? ⟨gc,57,X⟩=Z (E I ep):=by rw[HEP.out];exact S1.out.core.cell 1 rfl 1 XR
 go_enter Tryz.func94,Tryz.ntmps94;go_wp2_with (with_reducible refine I7 15 ?_);apply Eo;clear b1 z0 z57;generalize w.alloc (EJ #[EU va,E I x0,E I x1,E I x2,E I x3,EU gv] 46)=w1 at*;obtain⟨gb,hgb⟩:=En w.heap.size;rw[<-hgb] at KS⊢;clear hgb;have K0:=J<|D.new w1 (ED (IZ 0)) 183;have b2:=Er w1 (EJ (ED (IZ 0)) 183);go_wp2_with (first|((with_reducible refine It 15 ?_);refine I3 rfl 183 _ rfl mv Wf.out ?_)|(with_reducible refine wA iX ?_)|(with_reducible refine wS (cs:=mv) OM K0 (Ev.mk ?_) (ho:=I_ _) (hn:=iC.out) (h1:=nA.out)));apply Eo;obtain⟨gm,hgm⟩:=En w1.heap.size;rw[<-hgm] at K0⊢;generalize w1.alloc (EJ (ED (IZ 0)) 183)=w2 at*;have KM:=J<|K0.out.setRow mv;have b3:=E2 (g:=gm) b2 (Om hgm.symm) mv;generalize w2.setRow gm mv=w3 at*;clear K0 b2 hgm;replace KS:=EM KS b3;replace S1:=J<|S1.out.V b3;replace MM:=J<|MM.out.trans (Ew.EA b3);clear b3;go_wp2_with fail;obtain⟨d0,d1,d2,hd,KG,o0,o1,o2,-,-⟩:=S1.out.core.Ek;have Xf:=J<|Ok (c:=c) (gq:=gq) (gt:=gt) (hd:=hd) (Jz g) o0 o1 o2 0 U;have wI:=J<|Ok (c:=c) (gq:=gq) (gt:=gt) (hd:=hd) (Jz g) o0 o1 o2 1 U;have KG:=J KG;have PL:=J<|Jz g;have U9:Ec ((EG 56 g).toList.toArray=EG 56 g):=J Eh;clear o0 o1 o2;have Cf:=J S1.out.core.cmds;have y0: ∀y:Ext w3,(EC w3 y).cell? ⟨gs,0,X⟩=Z (M (Z ⟨gc,0,X⟩)):=fun y=>(S1.out.V (EN y)).IB;have y98: ∀y:Ext w3,(EC w3 y).cell? ⟨gc,98,X⟩=Z (E I c.mode):=fun y=>(S1.out.V (EN y)).core.cell 9 rfl 0 Eh;refine Zy Ed Ed ?_
 repeat (first
  |go_big_quiet_skip
  |(go_big_quiet_want
    first
     |(refine ZZ (T:=28) (g:=gc) (off:=0) U1 _ rfl rfl KG 0 rfl Xf.out PL.out ?_;(try rw[U9.out]);go_simp;go_big_quiet_on)
     |(refine ZZ (T:=109) (g:=gc) (off:=56) ER _ rfl rfl KG 1 rfl wI.out rfl ?_;(try rw[U9.out]);go_simp;go_big_quiet_on)
     |(refine UB (T:=183) (g:=gm) Vt _ rfl rfl KM ?_ ?_;(·exact iC.out);go_simp;go_big_quiet_on)
     |(go_big_quiet_op
       first
        |go_big_quiet_on
        |go_big_quiet_call (with_reducible refine aE (CJ.out _ (Cf.out.V (EN _)))))))
 refine I1 ?_;intro _ hw';obtain⟨y9,rfl⟩:=hw';have Em:=EN y9;replace KS:=EM KS Em;replace S1:=J<|S1.out.V Em;replace MM:=J<|MM.out.trans (Ew.EA Em);clear y0 y98 Em KG Xf wI PL U9 Cf KM CJ;generalize EC w3 y9=w4 at*;by_cases hjd:jd=0
 ·subst hjd;have z0:=S1.out.IB;have lC:w4.cell? ⟨gc,96,X⟩=Z (E I sm):=by rw[hsm.out];exact S1.out.core.cell 7 rfl 0 Eh
  have K0:=J<|D.new w4 #[E I 0,E I 0,E I 0] 36;have b2:=Er w4 (EJ #[E I 0,E I 0,E I 0] 36);go_wp2_with (first|((with_reducible refine It 58 ?_);refine I3 rfl 36 _ rfl #[E I 1,E I 0,E I sm] Lp.out ?_)|(with_reducible refine wA LF ?_)|(with_reducible refine wS (cs:= #[E I 1,E I 0,E I sm]) fc K0 (Ev.mk ?_) (h1:=Ug)));apply Eo;obtain⟨gl,hgl⟩:=En w4.heap.size;rw[<-hgl] at K0⊢;generalize w4.alloc (EJ #[E I 0,E I 0,E I 0] 36)=w5 at*;have KL:=J<|K0.out.setRow #[E I 1,E I 0,E I sm];have b3:=E2 (g:=gl) b2 (Om hgl.symm) #[E I 1,E I 0,E I sm];generalize w5.setRow gl #[E I 1,E I 0,E I sm]=w6 at*;clear K0 b2 hgl z0 lC;replace KS:=EM KS b3;replace S1:=J<|S1.out.V b3;replace MM:=J<|MM.out.trans (Ew.EA b3);clear b3;go_wp2_with fail;obtain⟨d0,d1,d2,hd,KG,o0,o1,o2,-,-⟩:=S1.out.core.Ek;have Xf:=J<|Ok (c:=c) (gq:=gq) (gt:=gt) (hd:=hd) (Jz g) o0 o1 o2 0 U;have iw:=J<|Ok (c:=c) (gq:=gq) (gt:=gt) (hd:=hd) (Jz g) o0 o1 o2 11 U;have KG:=J KG;have PL:=J<|Jz g;have U9:Ec ((EG 56 g).toList.toArray=EG 56 g):=J Eh;clear o0 o1 o2;have KX:Ec (Jc w6 gb [[EU va],[E I x0,E I x1,E I x2,E I x3],[EU gv]] 46):=J KS.out;have OX:Ec (aM [[EU va],[E I x0,E I x1,E I x2,E I x3],[EU gv]] 1=1):=J O;have y0: ∀y:Ext w6,(EC w6 y).cell? ⟨gs,0,X⟩=Z (M (Z ⟨gc,0,X⟩)):=fun y=>(S1.out.V (EN y)).IB;refine J_ 24 Ed Ed ?_;simp only[Iq,Io,IP,IH]
  repeat (first
   |go_big_quiet_skip
   |(go_big_quiet_want
     first
      |(refine ZZ (T:=28) (g:=gc) (off:=0) U1 _ rfl rfl KG 0 rfl Xf.out PL.out ?_;(try rw[U9.out]);go_simp;go_big_quiet_on)
      |(refine ZZ (T:=50) (g:=gc) (off:=102) im _ rfl rfl KG 11 rfl iw.out rfl ?_;(try rw[U9.out]);go_simp;go_big_quiet_on)
      |(refine ZZ (T:=25) (g:=gb) (off:=1) v_ _ rfl rfl KX 1 rfl OX.out rfl ?_;go_simp;go_big_quiet_on)
      |(refine UB (T:=36) (g:=gl) fc _ rfl rfl KL ?_ ?_;(·rfl);go_simp;go_big_quiet_on)
      |(go_big_quiet_op
        first
         |go_big_quiet_on
         |go_big_quiet_call (with_reducible refine aE (CS.out _)))))
  refine I1 ?_;intro _ hw';obtain⟨y9,rfl⟩:=hw';have Em:=EN y9;replace S1:=J<|S1.out.V Em;replace MM:=J<|MM.out.trans (Ew.EA Em);clear y0 Em KG Xf iw KX OX KL PL U9;generalize EC w6 y9=w7 at*;have TH:=J<|cD S1.out.core 11 rfl 12 vN;go_wp2_with ((with_reducible refine JB 50 ?_);(with_reducible refine Ui O 50 _ _ O gc 102 p.v.toArray ?_ ?_ ?_ ?_ ?_ ?_);(·rfl);(·rfl);(·exact TH.out);(·exact im.2);(·simp[Pt.v,OF]);refine Ev.mk ?_);apply Eo;have S4:=S1.out.il p (S1.out.core.ok.il io.out);replace S1:=J S4.1;replace MM:=J<|MM.out.trans S4.2;clear S4 TH KS;change Ic _ _ _ _ _ (w7.setCells gc 102 p.v);generalize w7.setCells gc 102 p.v=w8 at*;have z0:=S1.out.IB;have lC:w8.cell? ⟨gc,96,X⟩=Z (E I sm):=by rw[hsm.out];exact S1.out.core.cell 7 rfl 0 Eh
  go_wp2_with fail;refine(Zp lo hi g gc gq gt gs _ ns rs 6 0 sm 0 0 _ S1.out JN).mono ?_;rintro e12 Xc ⟨rfl,s12,m12⟩;have S8:=J s12;replace MM:=J<|MM.out.trans m12;clear m12 s12 z0 lC;go_wp2_with fail;go_end0;refine⟨O,⟨_,0,_,U,S8.out,.inr (.inr ⟨?_,p,ZH.out,O⟩)⟩,MM.out⟩;rw[hsm.out]
 ·have t9:(jd !=0)=EI:=by simpa using hjd
  have z0:=S1.out.IB;have lC:w4.cell? ⟨gc,96,X⟩=Z (E I sm):=by rw[hsm.out];exact S1.out.core.cell 7 rfl 0 Eh
  go_wp2_with fail;refine(Zp lo hi g gc gq gt gs _ ns rs 7 0 sm jd 0 _ S1.out JN).mono ?_;rintro e7 w7 ⟨rfl,s7,m7⟩;have S8:=J s7;replace MM:=J<|MM.out.trans m7;clear s7 m7 z0 lC;go_wp2_with fail;refine EV (UQ O _ _ _) O ?_;refine⟨O,⟨_,0,_,U,S8.out,.inl ⟨c.q,jd,O,?_⟩⟩,MM.out⟩;rw[hsm.out]
def qn(c c':Ey)(new:List Rec):Prop:= ∃(a b:Int) (T1:EQ),(c'={c with samples:=a,beyond:=b,T:=T1}/\new=[])\/Co {c with samples:=a,beyond:=b,T:=T1} c' new
theorem Ey.ok.K_(h:c.ok){x:Int}(hx:0<=x/\x<=4294967295):({c with samples:=x}:Ey).ok:=⟨h.tok,h.T,h.q,h.ones,h.src,h.nd,hx,h.jp,h.mode,h.Em,h.pt,h.In⟩
theorem Ey.ok.vH(h:c.ok){x:Int}(hx:0<=x/\x<=1000):({c with beyond:=x}:Ey).ok:=⟨h.tok,h.T,h.q,h.ones,h.src,h.nd,h.ic,hx,h.mode,h.Em,h.pt,h.In⟩
theorem Cp:IG Eb 46 6:=⟨⟨_,Tryz.underlying46,O⟩,Ed⟩
theorem Wg{n m:Int}(h0:0<=n/\n<=m):0<=sat n m/\sat n m<=m:=by unfold sat;split<;>omega
theorem EfB(lo hi:Nat)(g:Nat->Y)(gc gq gt gs:Nat)(c:Ey)(ns:Nat)(rs:List Rec)(va gv:Bool)(x0 x1 x2 x3:Int)(w:H)(S:E5 lo hi g gc gq gt gs c ns rs w)(hx:I9 x0/\I9 x1/\I9 x2/\I9 x3)(hn:ns<800000)(hl:rs.length<800000): Ef Eb 72 #[M (Z ⟨gs,0,X⟩),EZ #[EU va,E I x0,E I x1,E I x2,E I x3,EU gv]] w fun e w'=>e=Eg (Et #[])/\(∃c' m new,m<=3/\E5 lo hi g gc gq gt gs c' (ns+m) (rs++new) w'/\qn c c' new)/\Ew lo hi w w':=by
 obtain⟨ms,hms,LH⟩:=S.core.X2.fit 46 U U;obtain⟨mb,hmb,Wh⟩:=S.core.X2.fit 47 U U;have LL:1<=(ms:Int)/\(ms:Int)<=1000:=by have h1:=LH.1;have h2:=LH.2.1;unfold Zi at h1;unfold U6 at h2;simp at h1 h2;omega
 have Wi:0<=(mb:Int)/\(mb:Int)<=32767:=by have h2:=Wh.2.1;unfold U6 at h2;simp at h2;omega
 have CSE:=J<|fun(r:Int) (hr:0<=r/\r<=1000) W=>Efr g ms mb hms hmb LL Wi r hr va gv x0 x1 x2 x3 W;have Wj:=J LL;have S0:=J S;have HN:=J hn;have HL:=J hl;have HX:=J hx;have KS:=J<|D.new w #[EU va,E I x0,E I x1,E I x2,E I x3,EU gv] 46;have b1:=Er w (EJ #[EU va,E I x0,E I x1,E I x2,E I x3,EU gv] 46);have S1:=J<|S0.out.V b1;have MM:=J<|Ew.EA (lo:=lo) (hi:=hi) b1;clear S hn hl hx S0 hms hmb LH Wh LL Wi;have c0:(w.alloc (EJ #[EU va,E I x0,E I x1,E I x2,E I x3,EU gv] 46)).cell? ⟨w.heap.size,0,X⟩=Z (EU va):=(D.cell KS.out 0).trans O;go_enter Tryz.func72,Tryz.ntmps72;cases va with
 |false=> have z0:=S1.out.IB;have zm:(w.alloc (EJ #[EU B,E I x0,E I x1,E I x2,E I x3,EU gv] 46)).cell? ⟨gc,97,X⟩=Z (E I c.beyond):=S1.out.core.cell 8 rfl 0 Eh;have zf:=sC S1.out.core 97;go_wp2_with fail;refine EV (UQ O _ _ _) O ?_;have S4:=S1.out.vH 0 (S1.out.core.ok.vH U);exact⟨O,⟨_,0,[],U,by rw[fS];exact S4.1,c.samples,0,c.T,.inl ⟨O,O⟩⟩,MM.out.trans S4.2⟩
 |true=>
  go_wp2_with fail;clear b1;generalize w.alloc (EJ #[EU EI,E I x0,E I x1,E I x2,E I x3,EU gv] 46)=w1 at*;obtain⟨gb,hgb⟩:=En w.heap.size;rw[<-hgb] at KS⊢;clear hgb;clear c0;have Wl:=J<|Wg S1.out.core.ok.ic;have rB:=S1.out.core.ok.ic;have y0: ∀y:Ext w1,(EC w1 y).cell? ⟨gs,0,X⟩=Z (M (Z ⟨gc,0,X⟩)):=fun y=>(S1.out.V (EN y)).IB;have y96: ∀y:Ext w1,(EC w1 y).cell? ⟨gc,96,X⟩=Z (E I c.samples):=fun y=>(S1.out.V (EN y)).core.cell 7 rfl 0 Eh;refine J_ 14 Ed Ed ?_;simp only[Iq,Io,IP,IH]
  repeat (first
   |go_big_quiet_skip
   |(go_big_quiet_want
     first
      |(go_big_quiet_op
        first
         |go_big_quiet_on
         |go_big_quiet_call (with_reducible refine i_ (tK c.samples 4294967295 _ U U)))))
  refine I1 ?_;intro _ hw';obtain⟨y9,rfl⟩:=hw';have Em:=EN y9;replace KS:=EM KS Em;replace S1:=J<|S1.out.V Em;replace MM:=J<|MM.out.trans (Ew.EA Em);clear y0 y96 Em rB;generalize EC w1 y9=w2 at*;have zm:w2.cell? ⟨gc,96,X⟩=Z (E I c.samples):=S1.out.core.cell 7 rfl 0 Eh;have zf:=sC S1.out.core 96;obtain⟨sn,hsn⟩:=En (sat c.samples 4294967295);rw[<-hsn] at Wl⊢;clear hsn;have SS:=S1.out.K_ sn (S1.out.core.ok.K_ Wl.out);obtain⟨d0,d1,d2,hd,wh,-⟩:=S1.out.core.Ek;have sT:Ec (D (w2.setCell ⟨gc,96,X⟩ (E I sn)) gb #[EU EI,E I x0,E I x1,E I x2,E I x3,EU gv] 46):=J<|(J1 (g:=gc) (W:=w2) 96 (E I sn)).Ek KS.out (EW KS.out wh Ea);have S2:Ec (E5 lo hi g gc gq gt gs {c with samples:=sn} ns rs (w2.setCell ⟨gc,96,X⟩ (E I sn))):=J SS.1;have M2:Ec (Ew lo hi w (w2.setCell ⟨gc,96,X⟩ (E I sn))):=J<|MM.out.trans SS.2;have z0:=S2.out.IB;have U2:(w2.setCell ⟨gc,96,X⟩ (E I sn)).cell? ⟨gc,95,X⟩=Z (M (Z ⟨gt,0,X⟩)):=S2.out.core.cell 6 rfl 0 Eh;clear SS wh KS S1 MM;go_wp2_with fail;clear zm zf;generalize w2.setCell ⟨gc,96,X⟩ (E I sn)=w3 at*;refine(EO7 gt c.T _ S2.out.core.tab S2.out.core.ok.T).mono ?_;rintro e4 w4 ⟨rfl,kt,ot⟩;have hok:({c.T with X_:=true,sa:=0,sm:=max c.T.In 0}:EQ).ok:=⟨S2.out.core.ok.T.s0,S2.out.core.ok.T.s1,S2.out.core.ok.T.s2⟩;have LM:({c.T with X_:=true,sa:=0,sm:=max c.T.In 0}:EQ).XX:=⟨S2.out.core.ok.In.In,(TM.start S2.out.core.ok.In:TM 0 (max c.T.In 0)),fun i=>match i with|0=>S2.out.core.ok.In.E4 0|1=>S2.out.core.ok.In.E4 1|_+2=>S2.out.core.ok.In.E4 2⟩;obtain⟨T1,hT1⟩:=En ({c.T with X_:=true,sa:=0,sm:=max c.T.In 0}:EQ);rw[<-hT1] at kt hok LM;have hS:=S2.out.vQ ot T1 kt (S2.out.core.ok.vP hok LM);have KS:=J<|ot.Ek sT.out (EW sT.out S2.out.core.tab Ea);have S1:=J hS.1;have MM:=J<|M2.out.trans hS.2;clear kt ot hok LM hT1 hS z0 U2 sT S2 M2;go_wp2_with fail;obtain⟨d0,d1,d2,hd,KG,o0,o1,o2,-,-⟩:=S1.out.core.Ek;have Xf:=J<|Ok (c:={c with samples:=sn,T:=T1}) (gq:=gq) (gt:=gt) (hd:=hd) (Jz g) o0 o1 o2 0 U;have KG:=J KG;have PL:=J<|Jz g;have U9:Ec ((EG 56 g).toList.toArray=EG 56 g):=J Eh;clear o0 o1 o2;have y0: ∀y:Ext w4,(EC w4 y).cell? ⟨gs,0,X⟩=Z (M (Z ⟨gc,0,X⟩)):=fun y=>(S1.out.V (EN y)).IB;have y97: ∀y:Ext w4,(EC w4 y).cell? ⟨gc,97,X⟩=Z (E I c.beyond):=fun y=>(S1.out.V (EN y)).core.cell 8 rfl 0 Eh;have sV:=J S1.out.core.ok.jp;refine Zy Ed Ed ?_
  repeat (first
   |go_big_quiet_skip
   |(go_big_quiet_want
     first
      |(refine ZZ (T:=28) (g:=gc) (off:=0) U1 _ rfl rfl KG 0 rfl Xf.out PL.out ?_;(try rw[U9.out]);go_simp;go_big_quiet_on)
      |(refine UB (T:=46) (g:=gb) Cp _ rfl rfl KS ?_ ?_;(·rfl);go_simp;go_big_quiet_on)
      |(go_big_quiet_op
        first
         |go_big_quiet_on
         |go_big_quiet_call (with_reducible refine aE (CSE.out c.beyond sV.out _)))))
  refine I1 ?_;intro _ hw';obtain⟨y9,rfl⟩:=hw';have Em:=EN y9;replace KS:=EM KS Em;replace S1:=J<|S1.out.V Em;replace MM:=J<|MM.out.trans (Ew.EA Em);clear y0 y97 Em KG Xf PL U9;generalize EC w4 y9=w5 at*;have HR2:=J<|Efp (mb:=(mb:Int)) Wj.out sV.out EI x0 x1 x2 x3;obtain⟨rn,hrn⟩:=En ((nD (ms:Int) mb c.beyond EI x0 x1 x2 x3).1);obtain⟨ov,hov⟩:=En ((nD (ms:Int) mb c.beyond EI x0 x1 x2 x3).2);rw[<-hrn] at HR2⊢;rw[<-hov];clear hrn hov CSE Wj sV;have zm:w5.cell? ⟨gc,97,X⟩=Z (E I c.beyond):=S1.out.core.cell 8 rfl 0 Eh;have zf:=sC S1.out.core 97;have z0:=S1.out.IB;have SS:=S1.out.vH rn (S1.out.core.ok.vH HR2.out);obtain⟨d0,d1,d2,hd,wh,-⟩:=S1.out.core.Ek;have sT:Ec (D (w5.setCell ⟨gc,97,X⟩ (E I rn)) gb #[EU EI,E I x0,E I x1,E I x2,E I x3,EU gv] 46):=J<|(J1 (g:=gc) (W:=w5) 97 (E I rn)).Ek KS.out (EW KS.out wh Ea);have S2:Ec (E5 lo hi g gc gq gt gs {c with samples:=sn,T:=T1,beyond:=rn} ns rs (w5.setCell ⟨gc,97,X⟩ (E I rn))):=J SS.1;have M2:Ec (Ew lo hi w (w5.setCell ⟨gc,97,X⟩ (E I rn))):=J<|MM.out.trans SS.2;obtain⟨hh,jC⟩:=En c.tok.h;have y0:=S2.out.IB;have Cm:(w5.setCell ⟨gc,97,X⟩ (E I rn)).cell? ⟨gc,56,X⟩=Z (E I hh):=by rw[jC];exact S2.out.core.cell 1 rfl 0 XR
  have y5:(w5.setCell ⟨gc,97,X⟩ (E I rn)).cell? ⟨gb,5,X⟩=Z (EU gv):=(D.cell sT.out 5).trans O;clear SS wh KS S1 MM jC;by_cases h0:hh=0
  ·have t0:(hh==0)=EI:=sW;clear h0;cases gv with
   |true=> go_wp2_with fail;generalize w5.setCell ⟨gc,97,X⟩ (E I rn)=w6 at*;have MM:=M2;refine(Efv lo hi g gc gq gt gs _ ns rs _ S2.out HN.out HL.out).mono ?_;rintro e9 w9 ⟨rfl,⟨c',m,new,h1,s9,h9⟩,m9⟩;have S8:=J s9;replace MM:=J<|MM.out.trans m9;clear s9 m9;go_wp2_with fail;go_end0;exact⟨O,⟨c',m,new,h1,S8.out,_,_,_,.inr h9⟩,MM.out⟩
   |false=> go_wp2_with (with_reducible refine wL Cp sT ?_);generalize w5.setCell ⟨gc,97,X⟩ (E I rn)=w6 at*;have MM:=M2;refine(Efz lo hi g gc gq gt gs _ ns rs EI B x0 x1 x2 x3 _ S2.out HX.out HN.out HL.out).mono ?_;rintro e9 w9 ⟨rfl,⟨c',m,new,h1,s9,h9⟩,m9⟩;have S8:=J s9;replace MM:=J<|MM.out.trans m9;clear s9 m9;go_wp2_with fail;go_end0;exact⟨O,⟨c',m,new,h1,S8.out,_,_,_,.inr h9⟩,MM.out⟩
  ·have t0:(hh==0)=B:=sW;clear h0;cases ov with
   |true=> go_wp2_with fail;generalize w5.setCell ⟨gc,97,X⟩ (E I rn)=w6 at*;have MM:=M2;refine(Efw lo hi g gc gq gt gs _ ns rs _ S2.out HN.out HL.out).mono ?_;rintro e9 w9 ⟨rfl,⟨c',m,new,h1,s9,h9⟩,m9⟩;have S8:=J s9;replace MM:=J<|MM.out.trans m9;clear s9 m9;go_wp2_with fail;go_end0;exact⟨O,⟨c',m,new,h1,S8.out,_,_,_,.inr h9⟩,MM.out⟩
   |false=> go_wp2_with fail;go_end0;exact⟨O,⟨_,0,[],U,by rw[fS];exact S2.out,_,_,_,.inl ⟨O,O⟩⟩,M2.out⟩
theorem LS:(⟨2,4,0⟩:Xz).ok:=⟨go,go,go⟩
theorem EfD:(⟨3,4,0⟩:Xz).ok:=⟨go,go,go⟩
theorem LV(a b:Int):Tryz.prog.built 36 [(0,E I a),(1,E I b)]=Z #[E I a,E I b,E I 0]:=Ed
def wi(c c':Ey)(new:List Rec):Prop:=
 (∃L' a m,(c.tok.np a m).ok/\c'={c with tok:=c.tok.np a m,q:=L'}/\new=[])
 \/(∃L' t2 how md b,t2.ok/\t2.o= -1/\c.tok.e<=t2.e/\0<=md/\md<=4/\(b=⟨2,4,0⟩\/b=⟨3,4,0⟩)/\c'={c with tok:=t2,q:=L',mode:=md,Em:=b,pt:=c.pt.hold b}/\new=[⟨8,t2.h,0,t2.e,0,how⟩])
theorem Wm(h:t.ok):t.bC.ok/\t.bC.o= -1/\t.e<=t.bC.e:=by
 have he:=h.e;unfold EK.bC;refine⟨LZ h ⟨Ea,Ea⟩ ?_,O,?_⟩
 ·split;·exact Wg he
  ·exact he
 ·show t.e<=(if t.h≠4 then sat t.e 65535 else t.e);split;·unfold sat;split<;>omega
  ·exact Zo _
theorem EfF{how:Int}(ht:t.ok)(h:pT t t2 how):(how=0/\ ∃a m,t2=t.np a m/\(t.np a m).ok)\/((how=6\/how=5)/\t2.ok/\t2.o= -1/\t.e<=t2.e):=by
 rcases h with⟨rfl,a,m,h1,h2,h3,h4,rfl⟩|⟨rfl,-,-,rfl⟩|⟨rfl,-,h3,s,h4,h5,-,rfl⟩;·exact .inl ⟨O,a,m,O,⟨ht.h,ht.e,ht.o,ht.oa,ht.om,⟨h1,h2⟩,⟨h3,h4⟩,ht.off⟩⟩
 ·exact .inr ⟨.inl O,Wm ht⟩
 ·exact .inr ⟨.inr O,LZ ht ⟨h4,U⟩ ⟨by have:=ht.e;omega,U⟩,O,by show t.e<=t.e+1;omega⟩
theorem wj(w:H):Ef Eb 44 #[] w fun e w'=>e=Eg (EZ #[E I 2,E I 4,E I 0])/\El w w':=by have BL:=J<|LV 2 4;have K0:=J<|D.new w #[E I 0,E I 0,E I 0] 36;have b2:=Er w (EJ #[E I 0,E I 0,E I 0] 36);go_enter Tryz.func44,Tryz.ntmps44;go_wp2_with (first|((with_reducible refine It 1 ?_);refine I3 rfl 36 _ rfl #[E I 2,E I 4,E I 0] BL.out ?_)|(with_reducible refine wA LF ?_)|(with_reducible refine wS (cs:= #[E I 2,E I 4,E I 0]) fc K0 ?_ (h1:=Ug)));refine EV (Jj fc O _ _ w.heap.size _ O (K0.out.setRow #[E I 2,E I 4,E I 0]) O) O ⟨O,E2 (g:=w.heap.size) b2 (E7 _) _⟩
theorem Wn(lo hi:Nat)(g:Nat->Y)(gc gq gt gs:Nat)(c:Ey)(ns:Nat)(rs:List Rec)(w:H)(S:E5 lo hi g gc gq gt gs c ns rs w)(hn:ns<800000)(hl:rs.length<800000): Ef Eb 106 #[M (Z ⟨gs,0,X⟩)] w fun e w'=>e=Eg (Et #[])/\(∃c' m new,m<=3/\E5 lo hi g gc gq gt gs c' (ns+m) (rs++new) w'/\wi c c' new)/\Ew lo hi w w':=by
 obtain⟨pl,hpl,vu⟩:=S.core.X2.fit 43 U U;have Wo:0<=(pl:Int)/\(pl:Int)<=1000:=by have h2:=vu.2.1;unfold U6 at h2;simp at h2;omega
 obtain⟨th,hth⟩:=En (c.T.UV c.tok.h);have Zv:=fun W q=>EcR lo gq c.q (pn g 48) g pl hpl Wo c.tok S.core.ok.tok th W S.core.lq q S.core.ok.q;obtain⟨md,hmd,Cq⟩:=S.core.X2.fit 40 U U;have wl:Ec (0<=(md:Int)/\(md:Int)<=4):=J Wp;have sS:Ec (∀c ns rs W,E5 lo hi g gc gq gt gs c ns rs W->W.cell? ⟨gc,40,X⟩=Z (E I (md:Int))):=J (fun c ns rs W s=>by have h:W.cell? ⟨gc,40,X⟩=(EG 56 g).toList[40]?:=s.core.cell 0 rfl 40 Eh;rw[h,show(EG 56 g).toList[40]?=Z (g 40) from kf,hmd]);clear hmd Cq;obtain⟨ml,hml,Wq⟩:=S.core.X2.fit 41 U U;have LY:Ec (0<=(ml:Int)/\(ml:Int)<=4):=J (by have h2:=Wq.2.1;unfold U6 at h2;simp at h2;omega);have dy:Ec (∀c ns rs W,E5 lo hi g gc gq gt gs c ns rs W->W.cell? ⟨gc,41,X⟩=Z (E I (ml:Int))):=J (fun c ns rs W s=>by have h:W.cell? ⟨gc,41,X⟩=(EG 56 g).toList[41]?:=s.core.cell 0 rfl 41 Eh;rw[h,show(EG 56 g).toList[41]?=Z (g 41) from kf,hml]);clear hml Wq;obtain⟨Ip,Ul,Xb,X7⟩: ∃Ip,c.tok.a=EZ Ip/\Ec (Ip.size=8)/\Ec (c.tok.v.toArray=Ip):=⟨_,O,J O,J O⟩;obtain⟨pv,hpv,vS,Lg⟩: ∃pv,EG 56 g=pv/\Ec (pv.size=56)/\Ec ((EG 56 g).toList.toArray=pv):=⟨_,O,J kf,J Eh⟩;have sY:=wl;have S1:=J S;have HN:=J hn;have HL:=J hl;have MM:=J<|Ew.refl lo hi w;have HTH:=J hth;clear S hn hl hpl vu Wo hth wl;have CA:Ec (∀W,Jn W lo gq c.q (pn g 48)->Ef Eb 151 #[EZ pv,EZ Ip,M (Z ⟨gq,0,X⟩),EU th] W _):=J (fun W q=>Vo);obtain⟨PQ,hPQ⟩: ∃PQ:Array Y->Int->Prop,PQ=fun rv how=> ∃t2:EK,t2.a=EZ rv/\rv.size=8/\rv.all (·.oneCell')=EI/\pT c.tok t2 how:=⟨_,O⟩;have qI:Ec (∀(t2:EK) (rv:Array Y) (how:Int),t2.a=EZ rv->rv.size=8->rv.all (·.oneCell')=EI->pT c.tok t2 how->PQ rv how):=J (fun t2 rv how h1 h2 h3 h4=>By);have qJ:Ec (∀rv how,PQ rv how->rv.size=8/\rv.all (·.oneCell')=EI):=J (fun rv how h=>Bz);replace hPQ:=J hPQ;clear Zv Ul hpv;go_enter Tryz.func106,Tryz.ntmps106;go_wp2_with fail;have y0: ∀y:Ext w,(EC w y).cell? ⟨gs,0,X⟩=Z (M (Z ⟨gc,0,X⟩)):=fun y=>(S1.out.V (EN y)).IB;have y95: ∀y:Ext w,(EC w y).cell? ⟨gc,95,X⟩=Z (M (Z ⟨gt,0,X⟩)):=fun y=>(S1.out.V (EN y)).core.cell 6 rfl 0 Eh;have Cm: ∀y:Ext w,(EC w y).cell? ⟨gc,56,X⟩=Z (E I c.tok.h):=fun y=>(S1.out.V (EN y)).core.cell 1 rfl 0 XR;have TB:=J S1.out.core.tab;have Cd:=J S1.out.core.ok.T;refine Zy Ed Ed ?_
 repeat (first
  |go_big_quiet_skip
  |(go_big_quiet_want
    first
     |(go_big_quiet_op
       first
        |go_big_quiet_on
        |go_big_quiet_call (with_reducible refine i_ (mG gt c.T c.tok.h _ (TB.out.V (EN _)) Cd.out)))))
 refine I1 ?_;intro _ hw';obtain⟨y9,rfl⟩:=hw';have Em:=EN y9;replace S1:=J<|S1.out.V Em;replace MM:=J<|MM.out.trans (Ew.EA Em);clear y0 y95 Cm Em TB Cd;generalize EC w y9=w1 at*;rw[<-HTH.out];obtain⟨n0,hn0⟩:=En w1.heap.size;have Xt:=J (show lo<=n0/\hi<=n0/\w.heap.size<=n0 from nu);go_wp2_with fail;refine ip (Ph:=fun p wq=>n0<=wq.heap.size/\(match p with|0=>(E5 lo hi g gc gq gt gs c ns rs wq/\Ew lo hi w wq)|_=>(∃L':List One,E5 lo hi g gc gq gt gs {c with q:=L'} ns rs wq/\Ew lo hi w wq))) (Rel:=J0) (Is:=lX) [kp gs 0,kp gs 0,kp gs 0,kp gc 0,kp gc 0,kp gc 0,kq (EZ pv),kp gs 0,kp gs 0,kp gs 0,kp gc 0,kp gc 0,kp gc 56,kq (EZ Ip),kp gs 0,kp gs 0,kp gs 0,kp gc 0,kp gc 0,kp gc 64,kp gq 0,kq (EU th),.val (fun v=> ∃(rv:Array Y) (how:Int),PQ rv how/\v=Et #[EZ rv,E I how]),.val (fun v=> ∃(rv:Array Y) (how:Int),PQ rv how/\v=Et #[EZ rv,E I how]),.bO [23,24] (fun x=> ∃(rv:Array Y) (how:Int),PQ rv how/\x 23=Et #[EZ rv,E I how]/\x 24=EZ rv) (fun x y hq h=>by simpa only[hq 23 Eh,hq 24 Eh] using h),.bO [23,25] (fun x=> ∃(rv:Array Y) (how:Int),PQ rv how/\x 23=Et #[EZ rv,E I how]/\x 25=E I how) (fun x y hq h=>by simpa only[hq 23 Eh,hq 25 Eh] using h),.dep (Z5 n0) (fun v w w' h hr=>h.V hr) (fun v w w' h hr=>h.iq hr),.tie [26,24] (fun x w=> ∃(b:Nat) (rv:Array Y),x 26=M (Z ⟨b,0,X⟩)/\x 24=EZ rv/\n0<=b/\D w b rv 109) (fun x w w' h hr=>BH) (fun x y w hq h=>by rw[hq 26 Eh,hq 24 Eh] at h;exact h),.bO [25,28] (fun x=>x 28=x 25) (fun x y hq h=>by simpa only[hq 25 Eh,hq 28 Eh] using h)] [B,B,B,B,B,B,B,B,B,B,B,B,B,B,B,B,B,B,B,B,B,B,B,B,B,B,B,EI,B] O [[],[],[],[],[],[],[],[],[],[],[],[],[],[],[],[],[],[],[],[],[],[],[],[],[23,24],[23,25],[],[26,24],[25,28]] O [22,27] [(0,0),(0,0),(0,0),(0,0),(0,0),(0,0),(0,0),(0,0),(0,0),(0,0),(0,0),(0,0),(0,0),(0,0),(0,0),(0,0),(0,0),(0,0),(0,0),(0,0),(0,0),(0,0),(0,0),(1,1),(1,1),(1,2),(0,1),(1,1),(2,2)] Ed Ed Ed Ed Ed Ed UP Ed ?hPh ?h0 ?hstep ?hend
 case hPh=>
  intro p w2 w3 h hr;match p,h with
  |0,h=>exact⟨Ez h.1 (U8 hr),h.2.1.V hr,h.2.2.trans (Ew.EA hr)⟩
  |_+1,h=> obtain⟨nn,L',s,m⟩:=h;exact⟨Ez nn (U8 hr),L',s.V hr,m.trans (Ew.EA hr)⟩
 case h0=> exact Eog
 case hstep=>
  refine⟨?_,?_,?_,?_,?_,?_,?_,?_,?_,?_,?_,?_,?_,?_,?_,?_,?_,?_,?_,?_,?_,?_,?_,?_,?_,?_,?_,?_,?_,trivial⟩;all_goals first|intro xv wq p hlo hhi hp hd|intro xv wq hp hd
  all_goals simp only[EH,Ig,Ii,Ia,Ib]
  ·exact Elk
  ·exact ElA
  ·exact Elz
  ·exact Elm
  ·exact Ely
  ·exact ElS
  ·exact Emy
  ·exact Elk
  ·exact EmU
  ·exact EmO
  ·exact ElV
  ·exact EmE
  ·exact El_
  ·exact Emo
  ·exact Elk
  ·exact Eob
  ·exact Eoa
  ·exact Em3
  ·exact EmV
  ·exact EoZ
  ·exact EmH
  ·exact Elk
  ·have d6:xv 6=EZ pv:=hd.at 6 rfl;have d13:xv 13=EZ Ip:=hd.at 13 rfl;have d20:xv 20=M (Z ⟨gq,0,X⟩):=hd.at 20 rfl;have d21:xv 21=EU th:=hd.at 21 rfl;refine JH (f:=151) (args:= #[xv 6,xv 13,xv 20,xv 21]) (Ei O) Ex ?_;rw[d6,d13,d20,d21];refine(CA.out wq hp.2.1.core.ZL).mono fun e w2 h=> ?_;obtain⟨⟨t2,how,L2,he,hf,sq,q2⟩,m2⟩:=h;obtain⟨rv,IF,hs,ho⟩:=Zt t2;exact⟨_,he,⟨m2.iq,Ez hp.1 m2.bel.size,L2,hp.2.1.gh m2 L2 q2 (hp.2.1.core.ok.sub sq),hp.2.2.trans (m2.js hi)⟩,rv,how,qI.out t2 rv how IF hs ho hf,congrArg (fun v=>Value.tuple #[v,E I how]) IF⟩
  ·obtain rfl:p=1:=U;obtain⟨rv,how,hpq,e22⟩: ∃(rv:Array Y) (how:Int),PQ rv how/\xv 22=Et #[EZ rv,E I how]:=hd.at 22 rfl;exact Es (by simp[go_sem,e22]) ⟨rv,how,hpq,O⟩
  ·obtain rfl:p=1:=U;exact EmQ
  ·exact EmQ
  ·exact Emk
  ·obtain⟨b,d0,eA,lb,h8,kb⟩:Z5 n0 (xv 26) wq:=hd.at 26 rfl;have nh:=Xt.out;obtain⟨rv,how,hpq,-,e24⟩: ∃(rv:Array Y) (how:Int),PQ rv how/\xv 23=Et #[EZ rv,E I how]/\xv 24=EZ rv:=hd.at 24 rfl;have hsz:=qJ.out _ _ hpq;obtain⟨nn,L',s,m⟩:=hp;refine bF ER (Ei O) ⟨O,eA,e24⟩ kb h8 hsz.1 hsz.2 ⟨sF kb hsz.1,?_⟩ ⟨b,rv,eA,e24,lb,kb.setRow _⟩;exact EoQ
  ·obtain rfl:p=2:=U;obtain⟨rv,how,hpq,-,e25⟩: ∃(rv:Array Y) (how:Int),PQ rv how/\xv 23=Et #[EZ rv,E I how]/\xv 25=E I how:=hd.at 25 rfl;exact Es CU (e25.symm)
 case hend=>
  intro xv W6 hp hd;clear S1 MM;simp only[EH,Ig,Ii,Ia,Ib];obtain⟨rv,how,hpq,eM,e24⟩: ∃(rv:Array Y) (how:Int),PQ rv how/\xv 23=Et #[EZ rv,E I how]/\xv 24=EZ rv:=hd 24 Ea;obtain⟨b,iu,eA,eE,lb,kb⟩: ∃(b:Nat) (rv:Array Y),xv 26=M (Z ⟨b,0,X⟩)/\xv 24=EZ rv/\n0<=b/\D W6 b rv 109:=hd 27 Ea;have qO:iu=rv:=by rw[eE] at e24;injection e24
  subst qO;have a28:xv 28=E I how:=by have h1:xv 28=xv 25:=hd 28 Ea;obtain⟨BY,Ekm,-,f1,f2⟩: ∃(rv:Array Y) (how:Int),PQ rv how/\xv 23=Et #[EZ rv,E I how]/\xv 25=E I how:=hd 25 Ea;exact Em5
  obtain⟨-,L',s6,m6⟩:=hp;have S1:=J s6;have MM:=J m6;have KB:=J kb;rw[eA,a28];rw[hPQ.out] at hpq;obtain⟨t2,IF,hs,ho,hf⟩:=hpq;have Uk:=J IF;have RS:=J hs;have RO:=J ho;have Z4:Ec (iu.toList=t2.v):=J L0;have hcs:=EfF S1.out.core.ok.tok hf;clear s6 m6 kb hd eA a28 CA IF hs ho hf eM eE;rcases hcs with⟨rfl,a,m,ht2,hok2⟩|⟨EfH,hok2⟩
  ·have HT2:=J ht2;have EfK:Ec t2.ok:=J (by rw[ht2];exact hok2);have EfL:=J hok2;clear ht2 hok2;go_wp2_with fail;have y0: ∀y:Ext W6,(EC W6 y).cell? ⟨gs,0,X⟩=Z (M (Z ⟨gc,0,X⟩)):=fun y=>(S1.out.V (EN y)).IB;refine J_ 7 Ed Ed ?_;simp only[Iq,Io,IP,IH]
   repeat (first
    |go_big_quiet_skip
    |(go_big_quiet_want
      first
       |(refine UB (T:=109) (g:=b) ER _ rfl rfl KB ?_ ?_;(·exact RS.out);go_simp;go_big_quiet_on)
       |(go_big_quiet_op
         first
          |go_big_quiet_on
          |go_big_quiet_call (fail))))
   refine I1 ?_;intro _ hw';obtain⟨y9,rfl⟩:=hw';have Em:=EN y9;replace KB:=EM KB Em;replace S1:=J<|S1.out.V Em;replace MM:=J<|MM.out.trans (Ew.EA Em);clear y0 Em;generalize EC W6 y9=w9 at*;have TH:=J<|cD S1.out.core 1 rfl 8 XR;go_wp2_with ((with_reducible refine JB 109 ?_);(with_reducible refine Ui O 109 _ _ O gc 56 iu ?_ ?_ ?_ ?_ ?_ ?_);(·rfl);(·rfl);(·rw[RS.out];exact TH.out);(·rw[RS.out];exact ER.2);(·exact RO.out);refine Ev.mk ?_);apply Eo;rw[Z4.out];have S4:=S1.out.ar t2 (S1.out.core.ok.ar EfK.out);obtain⟨d0,d1,d2,hd,KG,-⟩:=S1.out.core.Ek;replace KB:=J<|(JG (g:=gc) t2.v 56 w9).Ek KB.out (EW KB.out KG Ea);replace S1:=J S4.1;replace MM:=J<|MM.out.trans S4.2;clear S4 TH KG;generalize w9.setCells gc 56 t2.v=Uy at*;go_wp2_with fail;refine EV (UQ O _ _ _) O ?_;refine⟨O,⟨_,0,U,[],s_,.inl ⟨L',a,m,EfL.out,?_,O⟩⟩,MM.out⟩;rw[HT2.out]
  ·have HT2:=J hok2;clear hok2;rcases EfH with rfl|rfl
   ·go_wp2_with (with_reducible refine wL ER KB ?_ (hn:=RS.out));rw[<-Uk.out];refine(nr lo hi g gc gq gt gs _ ns rs t2 6 0 _ S1.out HT2.out.1 J9 JN).mono ?_;rintro e7 w7 ⟨rfl,⟨L2,m7,XP,sq,s7⟩,Xd⟩;replace S1:=J s7;replace MM:=J<|MM.out.trans Xd;have ny:=J XP;clear s7 Xd sq XP KB;go_wp2_with fail;have y0: ∀y:Ext w7,(EC w7 y).cell? ⟨gs,0,X⟩=Z (M (Z ⟨gc,0,X⟩)):=fun y=>(S1.out.V (EN y)).IB;have wn: ∀y:Ext w7,(EC w7 y).cell? ⟨gc,40,X⟩=Z (E I (md:Int)):=fun y=>sS.out _ _ _ _ (S1.out.V (EN y));refine J_ 10 Ed Ed ?_;simp only[Iq,Io,IP,IH]
    repeat (first
     |go_big_quiet_skip
     |(go_big_quiet_want
       first
        |(go_big_quiet_op
          first
           |go_big_quiet_on
           |go_big_quiet_call (with_reducible refine aE (wj _)))))
    refine I1 ?_;intro _ hw';obtain⟨y9,rfl⟩:=hw';have Em:=EN y9;replace S1:=J<|S1.out.V Em;replace MM:=J<|MM.out.trans (Ew.EA Em);clear y0 wn Em;generalize EC w7 y9=iF at*;go_wp2_with fail;refine(Bu lo hi g gc gq gt gs _ _ _ md ⟨2,4,0⟩ _ S1.out sY.out LS).mono ?_;rintro e21 jD ⟨rfl,iG,m21⟩;have S8:=J iG;replace MM:=J<|MM.out.trans m21;clear iG m21;go_wp2_with fail;go_end0;exact⟨O,⟨_,m7,_,qE,S8.out,.inr ⟨L2,t2,6,md,_,HT2.out.1,HT2.out.2.1,HT2.out.2.2,sY.out.1,sY.out.2,.inl O,O,O⟩⟩,MM.out⟩
   ·go_wp2_with (with_reducible refine wL ER KB ?_ (hn:=RS.out));rw[<-Uk.out];refine(nr lo hi g gc gq gt gs _ ns rs t2 5 0 _ S1.out HT2.out.1 J9 JN).mono ?_;rintro e7 w7 ⟨rfl,⟨L2,m7,XP,sq,s7⟩,Xd⟩;replace S1:=J s7;replace MM:=J<|MM.out.trans Xd;have ny:=J XP;clear s7 Xd sq XP KB;have z0:=S1.out.IB;have z41:=dy.out _ _ _ _ S1.out;have BL:=J<|LV 3 4;go_wp2_with ((with_reducible refine It 71 ?_);refine I3 O 36 _ O #[E I 3,E I 4,E I 0] BL.out ?_);refine(Bu lo hi g gc gq gt gs _ _ _ ml ⟨3,4,0⟩ _ S1.out LY.out EfD).mono ?_;rintro e21 jD ⟨rfl,iG,m21⟩;have S8:=J iG;replace MM:=J<|MM.out.trans m21;clear iG m21;go_wp2_with fail;go_end0;exact⟨O,⟨_,m7,_,qE,S8.out,.inr ⟨L2,t2,5,ml,_,HT2.out.1,HT2.out.2.1,HT2.out.2.2,LY.out.1,LY.out.2,.inr O,O,O⟩⟩,MM.out⟩
def EK.v7(t:EK):List Y:=[E I t.h,E I t.e,E I t.o,E I t.oa,E I t.om,E I t.la,E I t.lm]
theorem E5.EfM{hi:Nat}{ns:Nat}{rs:List Rec}(S:E5 lo hi g gc gq gt gs c ns rs W)(b:Bool):E5 lo hi g gc gq gt gs {c with tok:={c.tok with bad:=b}} ns rs (W.setCell ⟨gc,63,X⟩ (EU b))/\Ew lo hi W (W.setCell ⟨gc,63,X⟩ (EU b)):=
 S.set (J1 _ _) O O (S.core.ok.ar ⟨S.core.ok.tok.h,S.core.ok.tok.e,S.core.ok.tok.o,S.core.ok.tok.oa,S.core.ok.tok.om,S.core.ok.tok.la,S.core.ok.tok.lm,S.core.ok.tok.off⟩) fun d0 d1 d2 hd K o0 o1 o2=>by
  have hl: ∀x:Bool,(ak (EG 56 g).toList {c with tok:={c.tok with bad:=x}} gq gt d0 d1 d2 hd).flatten=((EG 56 g).toList++c.tok.v7)++([EU x]++(ak (EG 56 g).toList c gq gt d0 d1 d2 hd).tail.tail.flatten):=fun x=>by simp[ak,EK.v,EK.v7]
  have K2:D W gc (((EG 56 g).toList++c.tok.v7)++([EU c.tok.bad]++(ak (EG 56 g).toList c gq gt d0 d1 d2 hd).tail.tail.flatten)).toArray 120:=by rw[<-hl];exact K
  have K3:=Zd (post:=(ak (EG 56 g).toList c gq gt d0 d1 d2 hd).tail.tail.flatten) [EU b] [EU c.tok.bad] ((EG 56 g).toList++c.tok.v7) 63 W K2 O (by rw[IY,Jz];rfl);rw[<-hl] at K3;exact K3
theorem wt{c i:Nat}{L:List One}{x:One}(h:w.ownsRow base 133 4 (G A n c) n (UY L))(hx:L[i]?=Z x)(hn:L.length=n): ∃(g:Nat) (cur:Array Y),A=Z ⟨g,0,X⟩/\D w g cur 133/\cur.extract (i*4) (i*4+4)= #[E I x.s,E I x.r,E I x.a,E I x.m]:=by
 have hi:=(Xx.1 hx).1;obtain⟨h1,⟨-,h2⟩|⟨g,cap,cur,hv,hg,hh,hnc,hcm,hcs,ht⟩⟩:=h;·omega
 ·injection hv with e1;refine⟨g,cur,e1,hh,?_⟩;have hs:cur.toList.take (n*4)=UY L:=ht
  have hsp:UY L=UY (L.take i)++([E I x.s,E I x.r,E I x.a,E I x.m]++UY (L.drop (i+1))):=by
   conv=>lhs;rw[<-gT i L,mg hi]
   have ex:L[i]=x:=(Xx.1 hx).2;simp[UY,ex]
  have EfN:cur.toList=UY (L.take i)++([E I x.s,E I x.r,E I x.a,E I x.m]++(UY (L.drop (i+1))++cur.toList.drop (n*4))):=by
   conv=>lhs;rw[<-gT (n*4) cur.toList,hs,hsp]
   simp
  have e:=G_ (UY (L.take i)) [E I x.s,E I x.r,E I x.a,E I x.m] (UY (L.drop (i+1))++cur.toList.drop (n*4)) (i*4) 4 (by rw[EcA,aO];omega) O;rw[<-EfN] at e;simpa using e
theorem jF:IG Eb 133 4:=⟨⟨_,Tryz.underlying133,O⟩,Ed⟩
theorem wu:Oq Eb 133 #[E I 0,E I 0,E I 0,E I 0]:=by exact ElR
def qo(b:Bool)(c c':Ey)(new:List Rec):Prop:=
 (b=B/\c'={c with tok:={c.tok with bad:=false}}/\new=[])
 \/(b=EI/\ ∃L' t2 md,t2.ok/\t2.o= -1/\c.tok.e<=t2.e/\c'={c with tok:=t2,q:=L',mode:=md,Em:=⟨2,4,0⟩,pt:=c.pt.hold ⟨2,4,0⟩}/\((new=[]/\c.tok.h=4)\/new=[⟨8,t2.h,0,t2.e,0,6⟩]))
theorem wi.len(h:wi c c' new):new.length<=1:=by rcases h with⟨_,_,_,_,_,rfl⟩|⟨_,_,_,_,_,_,_,_,_,_,_,_,rfl⟩<;>simp
theorem EfP(lo hi:Nat)(g:Nat->Y)(gc gq gt gs:Nat)(c:Ey)(ns:Nat)(rs:List Rec)(bad:Bool)(w:H)(S:E5 lo hi g gc gq gt gs c ns rs w)(hn:ns<800000)(hl:rs.length<800000): Ef Eb 73 #[M (Z ⟨gs,0,X⟩),EU bad] w fun e w'=>e=Eg (Et #[])/\(∃c' m new,m<=9/\E5 lo hi g gc gq gt gs c' (ns+m) (rs++new) w'/\qo bad c c' new)/\Ew lo hi w w':=by
 obtain⟨md,hmd,Cq⟩:=S.core.X2.fit 40 U U;have wl:Ec (0<=(md:Int)/\(md:Int)<=4):=J Wp;have sS:Ec (∀c ns rs W,E5 lo hi g gc gq gt gs c ns rs W->W.cell? ⟨gc,40,X⟩=Z (E I (md:Int))):=J (fun c ns rs W s=>by have h:W.cell? ⟨gc,40,X⟩=(EG 56 g).toList[40]?:=s.core.cell 0 rfl 40 Eh;rw[h,show(EG 56 g).toList[40]?=Z (g 40) from kf,hmd]);clear hmd Cq;have sY:=wl;have S1:=J S;have HN:=J hn;have HL:=J hl;have z0:=S1.out.IB;have z63:w.cell? ⟨gc,63,X⟩=Z (EU c.tok.bad):=S1.out.core.cell 1 rfl 7 XR;have zf:=sC S1.out.core 63;have SB:=S1.out.EfM bad;replace S1:Ec (E5 lo hi g gc gq gt gs {c with tok:={c.tok with bad:=bad}} ns rs (w.setCell ⟨gc,63,X⟩ (EU bad))):=J SB.1;have MM:Ec (Ew lo hi w (w.setCell ⟨gc,63,X⟩ (EU bad))):=J SB.2;have zz0:=S1.out.IB;have EfR:(w.setCell ⟨gc,63,X⟩ (EU bad)).cell? ⟨gc,56,X⟩=Z (E I c.tok.h):=S1.out.core.cell 1 rfl 0 XR;obtain⟨tk,htk⟩:=En ({c.tok with bad:=bad}:EK);have HE:Ec (tk.e=c.tok.e/\tk.h=c.tok.h):=J (by rw[htk];exact⟨O,O⟩);rw[<-htk] at S1;have f_:=J htk;have CZ:=J<|fun W=>uU tk W (by have h:0<=tk.e/\tk.e<=65535:=S1.out.core.ok.tok.e;omega);obtain⟨Ip,Ul,Xb,X7⟩: ∃Ip,tk.a=EZ Ip/\Ec (Ip.size=8)/\Ec (tk.v.toArray=Ip):=⟨_,O,J O,J O⟩;obtain⟨t2,ht2⟩:=En tk.bC;have HT2:Ec (t2.ok/\t2.o= -1/\tk.e<=t2.e):=J (by rw[ht2];exact Wm S1.out.core.ok.tok);rw[<-ht2,Ul] at CZ;obtain⟨rv,IF,RS,RO⟩:=Zt t2;rw[IF] at CZ;have Z4:Ec (rv.toList=t2.v):=J L0;have RS:=J RS;have RO:=J RO;have Uk:=J IF;obtain⟨big,lD,OV⟩:=bI S1.out.core;have lD:=J lD;have dC:Ec (big.extract 56 (56+8)=Ip):=J<|(OV 1 tk.v O).trans X7.out;clear S hn hl wl SB htk Ul ht2 IF OV;go_enter Tryz.func73,Tryz.ntmps73;cases bad with
 |false=> go_wp2_with fail;refine EV (UQ O _ _ _) O ?_;rw[f_.out] at S1;first|exact⟨rfl,⟨_,0,[],U,s_,.inl ⟨rfl,rfl,rfl⟩⟩,MM.out⟩|exact⟨rfl,⟨_,0,U,[],s_,.inl ⟨rfl,rfl,rfl⟩⟩,MM.out⟩
 |true=>
  go_wp2_with (with_reducible refine wM (off:=56) (cs:=Ip) ER lD ?_ (hn:=Xb.out) (he:=dC.out));clear z0 z63 zf zz0 EfR lD dC;generalize w.setCell ⟨gc,63,X⟩ (EU EI)=w5 at*;refine(CZ.out _).mono ?_;rintro e6 w6 ⟨rfl,b6⟩;replace S1:=J<|S1.out.V b6;replace MM:=J<|MM.out.trans (Ew.EA b6);clear b6 CZ;have K0:=J<|D.new w6 #[E I 0,E I 0,E I 0,E I 0,E I 0,E I 0,E I 0,EU B] 109;have b2:=Er w6 (EJ #[E I 0,E I 0,E I 0,E I 0,E I 0,E I 0,E I 0,EU B] 109);go_wp2_with (with_reducible first|refine wA lZ ?_|refine wS (cs:=rv) ER K0 (Ev.mk ?_) (hn:=RS.out) (h1:=RO.out));apply Eo;obtain⟨b,hgm⟩:=En w6.heap.size;rw[<-hgm] at K0⊢;generalize w6.alloc (EJ #[E I 0,E I 0,E I 0,E I 0,E I 0,E I 0,E I 0,EU B] 109)=w7 at*;have KB:=J<|K0.out.setRow rv;have b3:=E2 (g:=b) b2 (Om hgm.symm) rv;generalize w7.setRow b rv=w8 at*;clear K0 b2 hgm;replace S1:=J<|S1.out.V b3;replace MM:=J<|MM.out.trans (Ew.EA b3);clear b3;have z0:=S1.out.IB;have z56:w8.cell? ⟨gc,56,X⟩=Z (E I tk.h):=S1.out.core.cell 1 rfl 0 XR;obtain⟨hh,jC⟩:=En tk.h;rw[<-jC] at z56;have L5:=J jC;clear jC;by_cases h4:hh=4
  ·have H4:=J h4;have t4:(hh !=4)=B:=hU;clear h4;go_wp2_with fail;clear z0 z56;have y0: ∀y:Ext w8,(EC w8 y).cell? ⟨gs,0,X⟩=Z (M (Z ⟨gc,0,X⟩)):=fun y=>(S1.out.V (EN y)).IB;refine J_ 7 Ed Ed ?_;simp only[Iq,Io,IP,IH]
   repeat (first
    |go_big_quiet_skip
    |(go_big_quiet_want
      first
       |(refine UB (T:=109) (g:=b) ER _ rfl rfl KB ?_ ?_;(·exact RS.out);go_simp;go_big_quiet_on)
       |(go_big_quiet_op
         first
          |go_big_quiet_on
          |go_big_quiet_call (fail))))
   refine I1 ?_;intro _ hw';obtain⟨y9,rfl⟩:=hw';have Em:=EN y9;replace KB:=EM KB Em;replace S1:=J<|S1.out.V Em;replace MM:=J<|MM.out.trans (Ew.EA Em);clear y0 Em;generalize EC w8 y9=w9 at*;have TH:=J<|cD S1.out.core 1 rfl 8 XR;go_wp2_with ((with_reducible refine JB 109 ?_);(with_reducible refine Ui O 109 _ _ O gc 56 rv ?_ ?_ ?_ ?_ ?_ ?_);(·rfl);(·rfl);(·rw[RS.out];exact TH.out);(·rw[RS.out];exact ER.2);(·exact RO.out);refine Ev.mk ?_);apply Eo;rw[Z4.out];have S4:=S1.out.ar t2 (S1.out.core.ok.ar HT2.out.1);obtain⟨d0,d1,d2,hd,KG,-⟩:=S1.out.core.Ek;replace KB:=J<|(JG (g:=gc) t2.v 56 w9).Ek KB.out (EW KB.out KG Ea);replace S1:=J S4.1;replace MM:=J<|MM.out.trans S4.2;clear S4 TH KG;generalize w9.setCells gc 56 t2.v=Uy at*;obtain⟨L',hL'⟩:=En (c.q:List One);obtain⟨m,hm⟩:=En (0:Nat);obtain⟨new,hnew⟩:=En ([]:List Rec);have s10:E5 lo hi g gc gq gt gs {c with tok:=t2,q:=L'} (ns+m) (rs++new) Uy:=by rw[hL',hm,hnew,fS];exact S1.out
   replace S1:=J s10;have HM:Ec (m<=3):=J U;have HO:=J<|show t2.o= -1/\c.tok.e<=t2.e from⟨HT2.out.2.1,Wr⟩;have wv:Ec ((new=[]/\c.tok.h=4)\/new=[⟨8,t2.h,0,t2.e,0,6⟩]):=J (.inl ⟨hnew,by rw[<-HE.out.2,<-L5.out];exact H4.out⟩);clear s10 hL' hm hnew KB HT2 Z4 Uk RS RO f_ HE L5 Xb X7 H4 t4;have z0:=S1.out.IB;have z64:jo _ ⟨gc,64,X⟩=Z (M (Z ⟨gq,0,X⟩)):=S1.out.core.cell 2 rfl 0 Eh;go_wp2_with fail;refine(Kp lo gq _ (pn g 48) _ S1.out.core.ZL S1.out.core.ok.q).mono ?_;rintro e8 w8 ⟨⟨v8,rfl,o8⟩,b8⟩;obtain⟨A,c8,rfl,-⟩:=Xs o8;have Z3:=J<|hO L';have nF:=J S1.out.core.ok.q;obtain⟨n,hn⟩:=En L'.length;obtain⟨SL,lF⟩:=En (Js L');have qp:Ec (n<=3):=J L7;rw[<-hn,<-lF] at o8 Z3;rw[<-hn];have OA:=J o8;replace S1:=J<|S1.out.V b8;replace MM:=J<|MM.out.trans (Ew.EA b8);generalize World.heap _=hz at o8;clear o8 b8 z0 z64 hn lF nF;go_wp2_with fail;go_loopw[53] (fun y wr=> ∃(i:Nat) (L2:List One) (m2:Nat),i<=n/\y=E I i/\m2<=i/\E5 lo hi g gc gq gt gs {c with tok:=t2,q:=L2} (ns+m+m2) (rs++new) wr/\Ew lo hi w wr/\ ∃base,wr.ownsRow base 133 4 (G A n c8) n (UY SL)) (fun y _=>n-(Ir y).toNat);case atStart=>exact⟨0,L',0,U,O,U,S1.out,MM.out,_,OA.out⟩
   case round=>
    obtain⟨i,L2,m2,ww,rfl,hm2,s9,m9,base,o9⟩:=hrel;replace S1:=J s9;replace MM:=J m9;replace OA:=J o9;have jy:=J hm2;clear s9 m9 o9 hm2;by_cases hlt:i<n
    ·have t1:decide ((i:Int)<(n:Int))=EI:=IU U;obtain⟨x,hx⟩: ∃x,SL[i]?=Z x:=⟨SL[i]' Cr,J5 _⟩;obtain⟨gg,cur,rfl,ka,dH⟩:=wt OA.out hx Z3.out;have KA:=J ka;have dK:=J dH;clear ka dH hx;have K0:=J<|D.new wr #[E I 0,E I 0,E I 0,E I 0] 133;have b2:=Er wr (EJ #[E I 0,E I 0,E I 0,E I 0] 133);go_wp2_with (with_reducible first|refine wM (off:=i*4) (cs:= #[E I x.s,E I x.r,E I x.a,E I x.m]) jF KA ?_ (he:=dK.out)|refine wA wu ?_|refine wS (cs:= #[E I x.s,E I x.r,E I x.a,E I x.m]) jF K0 (Ev.mk ?_) (h1:=Ug));apply Eo;obtain⟨gx,hgx⟩:=En wr.heap.size;rw[<-hgx] at K0⊢;generalize wr.alloc (EJ #[E I 0,E I 0,E I 0,E I 0] 133)=Xc at*;have KX:=J<|K0.out.setRow #[E I x.s,E I x.r,E I x.a,E I x.m];have b3:=E2 (g:=gx) b2 (Om hgx.symm) #[E I x.s,E I x.r,E I x.a,E I x.m];generalize Xc.setRow gx #[E I x.s,E I x.r,E I x.a,E I x.m]=JW at*;clear K0 b2 hgx KA dK;replace S1:=J<|S1.out.V b3;replace MM:=J<|MM.out.trans (Ew.EA b3);replace OA:=J<|EP OA.out fun _ _ h=>D.V h b3;clear b3;go_wp2_with fail;have y0: ∀y:Ext JW,(EC JW y).cell? ⟨gs,0,X⟩=Z (M (Z ⟨gc,0,X⟩)):=fun y=>(S1.out.V (EN y)).IB;have L8: ∀y:Ext JW,(EC JW y).cell? ⟨gc,64,X⟩=Z (M (Z ⟨gq,0,X⟩)):=fun y=>(S1.out.V (EN y)).core.cell 2 rfl 0 Eh;have yx: ∀y:Ext JW,(EC JW y).cell? ⟨gx,0,X⟩=Z (E I x.s):=fun y=>(D.cell (D.V KX.out (EN y)) 0).trans O;refine J_ 9 Ed Ed ?_;simp only[Iq,Io,IP,IH]
     repeat (first
      |go_big_quiet_skip
      |(go_big_quiet_want
        first
         |(go_big_quiet_op
           first
            |go_big_quiet_on
            |go_big_quiet_call (fail))))
     refine I1 ?_;exact Eld
    ·obtain rfl:i=n:=U;have t1:decide ((i:Int)<(i:Int))=B:=IJ U;go_wp2_with fail;have y0: ∀y:Ext wr,(EC wr y).cell? ⟨gs,0,X⟩=Z (M (Z ⟨gc,0,X⟩)):=fun y=>(S1.out.V (EN y)).IB;have wn: ∀y:Ext wr,(EC wr y).cell? ⟨gc,40,X⟩=Z (E I (md:Int)):=fun y=>sS.out _ _ _ _ (S1.out.V (EN y));refine J_ 10 Ed Ed ?_;simp only[Iq,Io,IP,IH]
     repeat (first
      |go_big_quiet_skip
      |(go_big_quiet_want
        first
         |(go_big_quiet_op
           first
            |go_big_quiet_on
            |go_big_quiet_call (with_reducible refine aE (wj _)))))
     refine I1 ?_;exact ElM
  ·have t4:(hh !=4)=EI:=hU;clear h4;go_wp2_with (with_reducible refine wL ER KB ?_ (hn:=RS.out));have hgo:=fun W s=>nr lo hi g gc gq gt gs {c with tok:=tk} ns rs t2 6 0 W s HT2.out.1 J9 JN;rw[Uk.out] at hgo;refine(hgo _ S1.out).mono ?_;rintro e7 Uy ⟨rfl,⟨L',m,XP,sq,s7⟩,Xd⟩;replace S1:=J s7;replace MM:=J<|MM.out.trans Xd;have HM:Ec (m<=3):=J U;obtain⟨new,hnew⟩:=En ([⟨8,t2.h,0,t2.e,0,6⟩]:List Rec);rw[<-hnew] at S1;have HO:=J<|show t2.o= -1/\c.tok.e<=t2.e from⟨HT2.out.2.1,Wr⟩;have wv:Ec ((new=[]/\c.tok.h=4)\/new=[⟨8,t2.h,0,t2.e,0,6⟩]):=J (.inr hnew);clear s7 Xd sq XP KB z0 z56 hgo hnew HT2 Z4 Uk RS RO f_ HE L5 Xb X7 t4;have z0:=S1.out.IB;have z64:jo _ ⟨gc,64,X⟩=Z (M (Z ⟨gq,0,X⟩)):=S1.out.core.cell 2 rfl 0 Eh;go_wp2_with fail;refine(Kp lo gq _ (pn g 48) _ S1.out.core.ZL S1.out.core.ok.q).mono ?_;rintro e8 w8 ⟨⟨v8,rfl,o8⟩,b8⟩;obtain⟨A,c8,rfl,-⟩:=Xs o8;have Z3:=J<|hO L';have nF:=J S1.out.core.ok.q;obtain⟨n,hn⟩:=En L'.length;obtain⟨SL,lF⟩:=En (Js L');have qp:Ec (n<=3):=J L7;rw[<-hn,<-lF] at o8 Z3;rw[<-hn];have OA:=J o8;replace S1:=J<|S1.out.V b8;replace MM:=J<|MM.out.trans (Ew.EA b8);generalize World.heap _=hz at o8;clear o8 b8 z0 z64 hn lF nF;go_wp2_with fail;go_loopw[53] (fun y wr=> ∃(i:Nat) (L2:List One) (m2:Nat),i<=n/\y=E I i/\m2<=i/\E5 lo hi g gc gq gt gs {c with tok:=t2,q:=L2} (ns+m+m2) (rs++new) wr/\Ew lo hi w wr/\ ∃base,wr.ownsRow base 133 4 (G A n c8) n (UY SL)) (fun y _=>n-(Ir y).toNat);case atStart=>exact⟨0,L',0,U,O,U,S1.out,MM.out,_,OA.out⟩
   case round=>
    obtain⟨i,L2,m2,ww,rfl,hm2,s9,m9,base,o9⟩:=hrel;replace S1:=J s9;replace MM:=J m9;replace OA:=J o9;have jy:=J hm2;clear s9 m9 o9 hm2;by_cases hlt:i<n
    ·have t1:decide ((i:Int)<(n:Int))=EI:=IU U;obtain⟨x,hx⟩: ∃x,SL[i]?=Z x:=⟨SL[i]' Cr,J5 _⟩;obtain⟨gg,cur,rfl,ka,dH⟩:=wt OA.out hx Z3.out;have KA:=J ka;have dK:=J dH;clear ka dH hx;have K0:=J<|D.new wr #[E I 0,E I 0,E I 0,E I 0] 133;have b2:=Er wr (EJ #[E I 0,E I 0,E I 0,E I 0] 133);go_wp2_with (with_reducible first|refine wM (off:=i*4) (cs:= #[E I x.s,E I x.r,E I x.a,E I x.m]) jF KA ?_ (he:=dK.out)|refine wA wu ?_|refine wS (cs:= #[E I x.s,E I x.r,E I x.a,E I x.m]) jF K0 (Ev.mk ?_) (h1:=Ug));apply Eo;obtain⟨gx,hgx⟩:=En wr.heap.size;rw[<-hgx] at K0⊢;generalize wr.alloc (EJ #[E I 0,E I 0,E I 0,E I 0] 133)=Xc at*;have KX:=J<|K0.out.setRow #[E I x.s,E I x.r,E I x.a,E I x.m];have b3:=E2 (g:=gx) b2 (Om hgx.symm) #[E I x.s,E I x.r,E I x.a,E I x.m];generalize Xc.setRow gx #[E I x.s,E I x.r,E I x.a,E I x.m]=JW at*;clear K0 b2 hgx KA dK;replace S1:=J<|S1.out.V b3;replace MM:=J<|MM.out.trans (Ew.EA b3);replace OA:=J<|EP OA.out fun _ _ h=>D.V h b3;clear b3;go_wp2_with fail;have y0: ∀y:Ext JW,(EC JW y).cell? ⟨gs,0,X⟩=Z (M (Z ⟨gc,0,X⟩)):=fun y=>(S1.out.V (EN y)).IB;have L8: ∀y:Ext JW,(EC JW y).cell? ⟨gc,64,X⟩=Z (M (Z ⟨gq,0,X⟩)):=fun y=>(S1.out.V (EN y)).core.cell 2 rfl 0 Eh;have yx: ∀y:Ext JW,(EC JW y).cell? ⟨gx,0,X⟩=Z (E I x.s):=fun y=>(D.cell (D.V KX.out (EN y)) 0).trans O;refine J_ 9 Ed Ed ?_;simp only[Iq,Io,IP,IH]
     repeat (first
      |go_big_quiet_skip
      |(go_big_quiet_want
        first
         |(go_big_quiet_op
           first
            |go_big_quiet_on
            |go_big_quiet_call (fail))))
     refine I1 ?_;exact Eld
    ·obtain rfl:i=n:=U;have t1:decide ((i:Int)<(i:Int))=B:=IJ U;go_wp2_with fail;have y0: ∀y:Ext wr,(EC wr y).cell? ⟨gs,0,X⟩=Z (M (Z ⟨gc,0,X⟩)):=fun y=>(S1.out.V (EN y)).IB;have wn: ∀y:Ext wr,(EC wr y).cell? ⟨gc,40,X⟩=Z (E I (md:Int)):=fun y=>sS.out _ _ _ _ (S1.out.V (EN y));refine J_ 10 Ed Ed ?_;simp only[Iq,Io,IP,IH]
     repeat (first
      |go_big_quiet_skip
      |(go_big_quiet_want
        first
         |(go_big_quiet_op
           first
            |go_big_quiet_on
            |go_big_quiet_call (with_reducible refine aE (wj _)))))
     refine I1 ?_;exact ElM
def L9(t t':EK)(new:List Rec):Prop:=
 (0<=t.o->(t'.o=t.o/\t'.e=t.e/\t'.om=t.om/\t'.oa=sat t.oa t.om/\t'.oa<t.om)\/(t'.o<0/\ ∃x∈new,x.k=8\/(x.k=12/\x.s=t.o)))/\(t.o<0->t'.o<0)
def Cs(c c':Ey)(new:List Rec):Prop:=
 L9 c.tok c'.tok new/\c.tok.e<=c'.tok.e/\(c'.Em=c.Em\/c'.Em=⟨2,4,0⟩\/c'.Em=⟨3,4,0⟩)/\ ∃b0:Xz,(b0=c.pt.b\/b0=⟨2,4,0⟩\/b0=⟨3,4,0⟩)/\(c'.pt.b=b0\/c'.pt.b=⟨4,b0.s,b0.q⟩)
def jG(t t':EK)(new:List Rec):Prop:=t'=t\/(0<=t.o/\t'=t.end_/\ ∃x∈new,x.k=12/\x.s=t.o)
theorem jG.app(h:jG t t' new)(r:List Rec):jG t t' (new++r):=by
 rcases h with h|⟨h1,h2,x,hx,h3⟩;·exact .inl h
 ·exact .inr ⟨h1,h2,x,k_ _ hx,h3⟩
theorem jG.drop(h:jG t t' new)(s e:Int):jG t (t'.drop s).1 (new++if(t'.drop s).2 then [⟨12,s,0,e,16,0⟩] else []):=by
 by_cases hc:t'.o<0\/t'.o≠s
 ·have e1:t'.drop s=(t',B):=by unfold EK.drop;rw[if_pos hc]
  rw[e1];exact h.app _
 ·have e1:t'.drop s=(t'.end_,EI):=by unfold EK.drop;rw[if_neg hc]
  rw[e1];rcases h with h|⟨h1,h2,-⟩;·subst h;exact .inr ⟨U,O,_,List.mem_append_right _ (cF.2 rfl),O,by show s=t'.o;omega⟩
  ·exfalso;rw[h2] at hc;simp[EK.end_] at hc
theorem EfS(t:EK):(t.o<0/\t.Ur=(t,-1))\/(0<=t.o/\sat t.oa t.om<t.om/\t.Ur=({t with oa:=sat t.oa t.om},-1))\/(0<=t.o/\t.Ur.1.o= -1/\t.Ur.1.e=t.e/\t.Ur.2=t.o):=by
 unfold EK.Ur;split;·exact .inl ⟨U,O⟩
 ·split;·exact .inr (.inl ⟨U,U,O⟩)
  ·exact .inr (.inr ⟨U,O,O,O⟩)
theorem Ww(h:t.ok):t.Ur.1.ok/\t.Ur.1.e=t.e:=by
 have hs:0<=sat t.oa t.om/\sat t.oa t.om<=1000:=by have h1:=h.oa;have h2:=h.om;unfold sat;split<;>omega
 unfold EK.Ur;split;·exact⟨h,O⟩
 ·split;·exact⟨⟨h.h,h.e,h.o,hs,h.om,h.la,h.lm,h.off⟩,O⟩
  ·exact⟨⟨h.h,h.e,fd,fd,fd,h.la,h.lm,fd⟩,O⟩
theorem EfT(h:jG t t' new)(ht:t.ok):t'.e=t.e:=by rcases h with rfl|⟨-,rfl,-⟩<;>rfl
theorem Wx{t3:EK}{new1:List Rec}(h1:jG t t1 new1)(h2: ∀x∈new1,x∈new)(hw:0<=t1.Ur.2-> ∃x∈new,x.k=12/\x.s=t1.Ur.2)(h3:(∃a m,t3=t1.Ur.1.np a m)\/(t3.o= -1/\ ∃x∈new,x.k=8)):L9 t t3 new:=by
 rcases h3 with⟨a,m,rfl⟩|⟨ho,x,hx,hk⟩
 ·show L9 t (t1.Ur.1.np a m) new;rcases h1 with rfl|⟨g1,rfl,x,hx,hk,hs⟩
  ·rcases EfS t1 with⟨h5,e5⟩|⟨h5,h6,e5⟩|⟨h5,h6,h7,h8⟩;·rw[e5];exact⟨fun h=>absurd h U,fun _=>h5⟩
   ·rw[e5];exact⟨fun _=> .inl ⟨O,O,O,O,h6⟩,fun h=>absurd h5 U⟩
   ·refine⟨fun _=> .inr ⟨by show t1.Ur.1.o<0;omega,?_⟩,fun h=>absurd h5 U⟩;obtain⟨x,hx,hk,hs⟩:=hw U;exact⟨x,hx,.inr ⟨hk,U⟩⟩
  ·have e5:t.end_.Ur=(t.end_,-1):=by unfold EK.Ur;rw[if_pos fd]
   rw[e5];exact⟨fun _=> .inr ⟨by simp[EK.np,EK.end_],x,h2 x hx,.inr ⟨hk,hs⟩⟩,fun h=>absurd g1 U⟩
 ·exact⟨fun _=> .inr ⟨U,x,hx,.inl hk⟩,fun _=>U⟩
theorem EfV{x:One}(h:x.ok):(gX x).ok:=by refine⟨h.s,h.r,?_,h.m,h.n⟩;have h1:=h.a;have h2:=h.m;show 0<=sat x.a x.m/\sat x.a x.m<=1000;unfold sat;split<;>omega
theorem Ey.ok.kept(h:c.ok):({c with q:=X5 (Js c.q)}:Ey).ok:=by
 have pm:=Ty c.q;have hm: ∀x∈X5 (Js c.q),∃y∈c.q,x=gX y:=fun x hx=>by obtain⟨y,hy,e⟩:=dU.1 (List.mem_filter.1 hx).1;exact⟨y,pm.mem_iff.1 hy,e.symm⟩
 refine⟨h.tok,h.T,?_,fun x hx=> ?_,fun x hx=> ?_,?_,h.ic,h.jp,h.mode,h.Em,h.pt,h.In⟩;·show(X5 (Js c.q)).length<=3;have:=Tz (Js c.q);rw[hO] at this;have:=h.q;omega
 ·obtain⟨y,hy,rfl⟩:=hm x hx;exact EfV (h.ones y hy)
 ·obtain⟨y,hy,rfl⟩:=hm x hx;exact h.src y hy
 ·have h1:((Js c.q).map One.s).Nodup:=(pm.map One.s).nodup_iff.2 h.nd;have h2:(((Js c.q).map gX).map One.s)=(Js c.q).map One.s:=by rw[List.map_map];rfl
  show((X5 (Js c.q)).map One.s).Nodup;refine List.Sublist.nodup (List.Sublist.map _ (List.filter_sublist (l:=(Js c.q).map gX))) ?_;rw[h2];exact h1
theorem EfW{c i:Nat}{L:List Int}{x:Int}(h:w.ownsRow base 3 1 (G A n c) n (Uu L))(hx:L[i]?=Z x)(hn:L.length=n): ∃(g:Nat),A=Z ⟨g,0,X⟩/\w.cell? ⟨g,i,X⟩=Z (E I x):=by
 have hi:=(Xx.1 hx).1;obtain⟨h1,⟨-,h2⟩|⟨g,cap,cur,hv,hg,hh,hnc,hcm,hcs,ht⟩⟩:=h;·omega
 ·injection hv with e1;refine⟨g,e1,?_⟩;have hb:D w g cur 3:=hh;rw[D.cell hb,<-Array.getElem?_toList];have e:(cur.toList.take (n*1))[i]?=Z (E I x):=by rw[ht];unfold Uu;rw[List.getElem?_map,hx];rfl
  rw[bj U] at e;exact e
def Pt.near(p:Pt)(r:Int)(b:Bool):Pt:=⟨p.c,p.a0,p.a1,p.a2,p.a3,Jv p.n0 p.a0 r,Jv p.n1 p.a1 r,Jv p.n2 p.a2 r,Jv p.n3 p.a3 r,⟨if b then p.b.r else 4,p.b.s,p.b.q⟩⟩
theorem Wy(g:Nat->Y)(r:Int)(hr:g 54=E I r)(ir:aj r)(p:Pt)(hp:p.ok): ∃p':Pt,p'.ok/\(p'.b=p.b\/p'.b=⟨4,p.b.s,p.b.q⟩)/\ ∀W,Ef Eb 107 #[EZ (EG 56 g),EZ p.v.toArray] W fun e w'=>e=Eg (EZ p'.v.toArray)/\El W w':=by
 refine⟨p.near r _,⟨hp.c,hp.a0,hp.a1,hp.a2,hp.a3,AR hp.n0 hp.a0 ir,AR hp.n1 hp.a1 ir,AR hp.n2 hp.a2 ir,AR hp.n3 hp.a3 ir⟩,?_,fun W=>Ebr g p.c p.a0 p.a1 p.a2 p.a3 p.n0 p.n1 p.n2 p.n3 p.b.r p.b.s p.b.q r W hr ir hp.a0 hp.a1 hp.a2 hp.a3 hp.n0 hp.n1 hp.n2 hp.n3 _ O⟩;unfold Pt.near;split;·exact .inl O
 ·exact .inr O
theorem EfY(h:wi c c' new):new.length<=1:=h.len
theorem Wz(h:c.ok):(aW (Js c.q)).length<=3:=by have:=TA (Js c.q);rw[hO] at this;have:=h.q;omega
theorem WA(hc:c.tok.ok){n1 n4:List Rec}{c4:Ey}(h1:jG c.tok t1 n1)(h2: ∀x∈n1,x∈new)(hw:0<=t1.Ur.2-> ∃x∈new,x.k=12/\x.s=t1.Ur.2)(T1:EQ)(KQ:List One)(ht2:t2=t1.Ur.1)(h4: ∀x∈n4,x∈new)(hl:wi {c with T:=T1,tok:=t2,q:=KQ} c4 n4)(p':Pt)(hp:p'.b=c4.pt.b\/p'.b=⟨4,c4.pt.b.s,c4.pt.b.q⟩):Cs c {c4 with pt:=p'} new:=by
 subst ht2
 have ht1:t1.ok:=by
  rcases h1 with rfl|⟨-,rfl,-⟩;·exact hc
  ·exact Vp hc
 have e1:=EfT h1 hc;have e2:=(Ww ht1).2;rcases hl with⟨L',a,m,-,rfl,rfl⟩|⟨L',t3,how,md,b,-,ho,he,-,-,hb,rfl,rfl⟩;·exact⟨Wx h1 h2 hw (.inl ⟨a,m,O⟩),by show c.tok.e<=t1.Ur.1.e;omega,.inl O,c.pt.b,.inl O,hp⟩
 ·refine⟨Wx h1 h2 hw (.inr ⟨ho,_,h4 _ (cF.2 rfl),O⟩),by show c.tok.e<=t3.e;have:t1.Ur.1.e<=t3.e:=he;omega,?_,b,?_,hp⟩
  ·rcases hb with rfl|rfl;·exact .inr (.inl O)
   ·exact .inr (.inr O)
  ·rcases hb with rfl|rfl;·exact .inr (.inl O)
   ·exact .inr (.inr O)
theorem Ef0(lo hi:Nat)(g:Nat->Y)(gc gq gt gs:Nat)(c:Ey)(ns:Nat)(rs:List Rec)(w:H)(S:E5 lo hi g gc gq gt gs c ns rs w)(hn:ns<700000)(hl:rs.length<700000): Ef Eb 74 #[M (Z ⟨gs,0,X⟩)] w fun e w'=>e=Eg (Et #[])/\(∃c' m new,m<=15/\new.length<=13/\E5 lo hi g gc gq gt gs c' (ns+m) (rs++new) w'/\Cs c c' new)/\Ew lo hi w w':=by
 obtain⟨pr,hpr,WB⟩:=S.core.X2.fit 54 U U;have WC:Ec (aj (pr:Int)):=J (by have h2:=WB.2.1;unfold U6 at h2;simp at h2;unfold aj;omega);have WF:=J hpr;have HT:=J S.core.ok.tok;have S1:=J S;have HN:=J hn;have HL:=J hl;have MM:=J<|Ew.refl lo hi w;clear S hn hl hpr WB;have z0:=S1.out.IB;have U2:w.cell? ⟨gc,95,X⟩=Z (M (Z ⟨gt,0,X⟩)):=S1.out.core.cell 6 rfl 0 Eh;go_enter Tryz.func74,Tryz.ntmps74;go_wp2_with fail;refine(Efm gt c.T _ S1.out.core.tab S1.out.core.ok.T S1.out.core.ok.In).mono ?_;rintro e1 w1 ⟨⟨L,A,c0,T1,rfl,o1,hl4,hl3,kt,WG,WH⟩,ot⟩;have hS:=S1.out.vQ ot T1 kt (S1.out.core.ok.vP WG WH);replace S1:=J hS.1;replace MM:=J<|MM.out.trans hS.2;have OI:=J o1;obtain⟨n,hn⟩:=En L.length;rw[<-hn] at OI hl4⊢;have Z3:=J hn.symm;have WK:=J hl4;clear o1 hl4 hl3 kt WG WH ot hS hn z0 U2;go_wp2_with fail;go_loopw[17] (fun y wr=> ∃(i:Nat) (t1:EK) (L1:List One) (m1:Nat) (n1:List Rec),i<=n/\y=E I i/\m1<=2*i/\n1.length<=2*i/\E5 lo hi g gc gq gt gs {c with T:=T1,tok:=t1,q:=L1} (ns+m1) (rs++n1) wr/\jG c.tok t1 n1/\Ew lo hi w wr/\ ∃base,wr.ownsRow base 3 1 (G A n c0) n (Uu L)) (fun y _=>n-(Ir y).toNat);case atStart=>exact⟨0,c.tok,c.q,0,[],U,O,U,Eh,s_,.inl O,MM.out,_,OI.out⟩
 case round=>
  obtain⟨i,t1,L1,m1,n1,ww,rfl,hm1,hn1,s9,ht1,m9,base,o9⟩:=hrel;replace S1:=J s9;replace MM:=J m9;replace OI:=J o9;have jx:=J hm1;have nG:=J hn1;have HT1:=J ht1;clear s9 m9 o9 hm1 hn1 ht1;by_cases hlt:i<n
  ·have t1':decide ((i:Int)<(n:Int))=EI:=IU U;obtain⟨x,hx⟩: ∃x,L[i]?=Z x:=⟨L[i]' Cr,J5 _⟩;obtain⟨gg,rfl,cx⟩:=EfW OI.out hx Z3.out;have hn4:=WK.out;clear hx;go_wp2_with fail;refine(Zp lo hi g gc gq gt gs _ (ns+m1) _ 5 x 0 0 0 _ S1.out WL).mono ?_;rintro e3 w3 ⟨rfl,s3,pY⟩;replace S1:=J s3;replace MM:=J<|MM.out.trans pY;replace OI:=J<|EP OI.out fun _ _ h=>pY.Ek h Ea Ea;clear s3 pY cx;go_wp2_with fail;refine(Kd x _).mono ?_;rintro e4 w4 ⟨rfl,rfl⟩;cases hlk:decide (1<=x/\x<=3) with
   |false=> clear hlk;go_wp2_with fail;refine⟨⟨i+1,t1,L1,m1,n1++[⟨5,x,0,t1.e,0,0⟩],U,Eh,sD,by rw[IY];have:=nG.out;simp;omega,by rw[<-XI];exact S1.out,HT1.out.app _,MM.out,base,OI.out⟩,JM⟩
   |true=> clear hlk;go_wp2_with fail;refine(Vd lo hi g gc gq gt gs _ (ns+m1) _ x _ S1.out vM (by have:=HL.out;have:=nG.out;simp only[IY,List.length_singleton];omega)).mono ?_;rintro e5 w5 ⟨rfl,⟨L2,m5,tE,sq5,s5⟩,Zw⟩;have S8:=J s5;replace MM:=J<|MM.out.trans Zw;replace OI:=J<|EP OI.out fun _ _ h=>Zw.Ek h Ea Ea;have HM5:=J tE;clear s5 Zw tE sq5;obtain⟨N,hN⟩:=En (if(t1.drop x).2 then [⟨12,x,0,t1.e,16,0⟩] else []:List Rec);have L_:Ec (N.length<=1):=J (by rw[hN];split<;>simp);have WM:=J<|(HT1.out.app [⟨5,x,0,t1.e,0,0⟩]).drop x t1.e;have h8:=S8.out;rw[<-hN] at WM h8;have S9:=J h8;clear h8 hN S8;go_wp2_with fail;refine⟨⟨i+1,(t1.drop x).1,L2,m1+m5,(n1++[⟨5,x,0,t1.e,0,0⟩])++N,U,Eh,by have:=jx.out;have:=HM5.out;omega,by simp only[IY,List.length_singleton];have:=nG.out;have:=L_.out;omega,?_,WM.out,MM.out,base,OI.out⟩,JM⟩;rw[<-jj,<-XI,<-XI];exact S9.out
  ·obtain rfl:i=n:=U;have t1':decide ((i:Int)<(i:Int))=B:=IJ U;have z0:=S1.out.IB;obtain⟨big,lD,OV⟩:=bI S1.out.core;have lD:=J lD;obtain⟨Ip,Ul,Xb,X7⟩: ∃Ip,t1.a=EZ Ip/\Ec (Ip.size=8)/\Ec (t1.v.toArray=Ip):=⟨_,O,J O,J O⟩;have dC:Ec (big.extract 56 (56+8)=Ip):=J<|(OV 1 t1.v O).trans X7.out;have Ct:=fun W=>EJB t1 W (by have h:0<=t1.oa/\t1.oa<=1000:=S1.out.core.ok.tok.oa;omega) (by have h:0<=t1.om/\t1.om<=1000:=S1.out.core.ok.tok.om;omega);have WN:=Ww S1.out.core.ok.tok;obtain⟨t2,ht2⟩:=En t1.Ur.1;obtain⟨who,hwho⟩:=En t1.Ur.2;have HT2:Ec t2.ok:=J (by rw[ht2];exact WN.1);obtain⟨rv,IF,RS,RO⟩:=Zt t2;have Z4:Ec (rv.toList=t2.v):=J L0;have CE:Ec (∀W g,D W g rv 109->W.cell? ⟨g,0,X⟩=Z (E I t2.h)):=J (fun W g K=>by have e:rv=UU t2.h t2.e t2.o t2.oa t2.om t2.la t2.lm t2.bad:=Vs;subst e;exact(D.cell K 0).trans O);have CO:Ec (∀W,Ef Eb 104 #[EZ Ip] W fun x w'=>x=Eg (Et #[EZ rv,E I who])/\El W w'):=J (fun W=>by have h:=Ct W;rw[<-ht2,<-hwho,IF,Ul] at h;exact h);have RS:=J RS;have RO:=J RO;have WP:=J ht2;have Cu:=J hwho;clear OV Ct WN Ul ht2 hwho IF OI;go_wp2_with (with_reducible refine wM (off:=56) (cs:=Ip) ER lD ?_ (hn:=Xb.out) (he:=dC.out));refine(CO.out _).mono ?_;rintro e6 w6 ⟨rfl,b6⟩;replace S1:=J<|S1.out.V b6;replace MM:=J<|MM.out.trans (Ew.EA b6);clear b6 z0 lD dC CO Xb X7;have K0:=J<|D.new w6 #[E I 0,E I 0,E I 0,E I 0,E I 0,E I 0,E I 0,EU B] 109;have b2:=Er w6 (EJ #[E I 0,E I 0,E I 0,E I 0,E I 0,E I 0,E I 0,EU B] 109);go_wp2_with (with_reducible first|refine wA lZ ?_|refine wS (cs:=rv) ER K0 (Ev.mk ?_) (hn:=RS.out) (h1:=RO.out));apply Eo;obtain⟨b,hgm⟩:=En w6.heap.size;rw[<-hgm] at K0⊢;generalize w6.alloc (EJ #[E I 0,E I 0,E I 0,E I 0,E I 0,E I 0,E I 0,EU B] 109)=w7 at*;have KB:=J<|K0.out.setRow rv;have b3:=E2 (g:=b) b2 (Om hgm.symm) rv;generalize w7.setRow b rv=w8 at*;clear K0 b2 hgm;replace S1:=J<|S1.out.V b3;replace MM:=J<|MM.out.trans (Ew.EA b3);clear b3;go_wp2_with fail;have y0: ∀y:Ext w8,(EC w8 y).cell? ⟨gs,0,X⟩=Z (M (Z ⟨gc,0,X⟩)):=fun y=>(S1.out.V (EN y)).IB;refine J_ 7 Ed Ed ?_;simp only[Iq,Io,IP,IH]
   repeat (first
    |go_big_quiet_skip
    |(go_big_quiet_want
      first
       |(refine UB (T:=109) (g:=b) ER _ rfl rfl KB ?_ ?_;(·exact RS.out);go_simp;go_big_quiet_on)
       |(go_big_quiet_op
         first
          |go_big_quiet_on
          |go_big_quiet_call (fail))))
   refine I1 ?_;intro _ hw';obtain⟨y9,rfl⟩:=hw';have Em:=EN y9;replace KB:=EM KB Em;replace S1:=J<|S1.out.V Em;replace MM:=J<|MM.out.trans (Ew.EA Em);clear y0 Em;generalize EC w8 y9=w9 at*;have TH:=J<|cD S1.out.core 1 rfl 8 XR;go_wp2_with ((with_reducible refine JB 109 ?_);(with_reducible refine Ui O 109 _ _ O gc 56 rv ?_ ?_ ?_ ?_ ?_ ?_);(·rfl);(·rfl);(·rw[RS.out];exact TH.out);(·rw[RS.out];exact ER.2);(·exact RO.out);refine Ev.mk ?_);apply Eo;rw[Z4.out];have S4:=S1.out.ar t2 (S1.out.core.ok.ar HT2.out);obtain⟨d0,d1,d2,hd,KG,-⟩:=S1.out.core.Ek;replace KB:=J<|(JG (g:=gc) t2.v 56 w9).Ek KB.out (EW KB.out KG Ea);replace S1:=J S4.1;replace MM:=J<|MM.out.trans S4.2;clear S4 TH KG;generalize w9.setCells gc 56 t2.v=Uy at*;clear RS RO Z4;have HNI:=WK.out;by_cases wD:0<=who
   ·have t0':decide (0<=who)=EI:=IU wD;have cb:=CE.out _ _ KB.out;go_wp2_with fail;refine(pF lo hi g gc gq gt gs _ (ns+m1) _ t2.h who 30 _ S1.out vM).mono ?_;rintro e11 bY ⟨rfl,⟨m11,Ef3,s11⟩,WQ⟩;replace S1:=J s11;replace MM:=J<|MM.out.trans WQ;clear s11 WQ cb KB;go_wp2_with fail;refine(Zp lo hi g gc gq gt gs _ _ _ 12 who 0 30 0 _ S1.out WL).mono ?_;rintro e12 Xc ⟨rfl,s12,WR⟩;obtain⟨m2,hm2⟩:=En (m1+m11);obtain⟨n2,hn2⟩:=En (n1++[⟨12,who,0,t2.e,30,0⟩]:List Rec);rw[jj,<-hm2,XI,<-hn2] at s12;replace S1:=J s12;replace MM:=J<|MM.out.trans WR;have jy:Ec (m2<=9):=J sD;have ME:Ec (n2.length<=9):=J (by rw[hn2,IY];have:=nG.out;simp;omega);have MI:Ec (∀x∈n1,x∈n2):=J (fun x hx=>by rw[hn2];exact k_ _ hx);have WT:Ec (0<=t1.Ur.2-> ∃x∈n2,x.k=12/\x.s=t1.Ur.2):=J<|fun _=>⟨_,by rw[hn2];exact List.mem_append_right _ (cF.2 rfl),O,Cu.out⟩;clear s12 WR hm2 hn2 Ef3 wD t0' jx nG Cu CE;have z0:=S1.out.IB;have z64:jo _ ⟨gc,64,X⟩=Z (M (Z ⟨gq,0,X⟩)):=S1.out.core.cell 2 rfl 0 Eh;go_wp2_with fail;refine(TF lo gq _ (pn g 48) _ S1.out.core.lq S1.out.core.ZL S1.out.core.ok.q S1.out.core.ok.ones).mono ?_;rintro e8 w8 ⟨⟨v8,rfl,o8⟩,q8,m8⟩;obtain⟨A,c8,rfl,-⟩:=Xs o8;have lG:=J<|Wz S1.out.core.ok;have wF:=S1.out.core.ok.kept;replace S1:=J<|S1.out.gh m8 _ q8 wF;replace MM:=J<|MM.out.trans (m8.js hi);obtain⟨GQ,qt⟩:=En (aW (Js L1));obtain⟨KQ,wG⟩:=En (X5 (Js L1));obtain⟨n,hn⟩:=En GQ.length;rw[<-qt,<-hn] at lG o8;rw[<-wG] at S1;rw[<-qt,<-hn];have lH:=J hn.symm;have OA:=J o8;clear o8 q8 m8 wF z0 z64 qt wG hn;go_wp2_with fail;go_loopw[67] (fun y wr=> ∃(i m3:Nat) (n3:List Rec),i<=n/\y=E I i/\m3<=i/\n3.length<=i/\E5 lo hi g gc gq gt gs {c with T:=T1,tok:=t2,q:=KQ} (ns+m2+m3) (rs++(n2++n3)) wr/\Ew lo hi w wr/\ ∃base,wr.ownsRow base 133 4 (G A n c8) n (UY GQ)) (fun y _=>n-(Ir y).toNat);case atStart=>exact⟨0,0,[],U,O,U,Eh,s_,MM.out,_,OA.out⟩
    case round=>
     obtain⟨i,m3,n3,ww,rfl,nt,wH,s9,m9,base,o9⟩:=hrel;replace S1:=J s9;replace MM:=J m9;replace OA:=J o9;have p6:=J nt;have Cv:=J wH;clear s9 m9 o9 nt wH;by_cases hlt:i<n;·exact ElU
     ·obtain rfl:i=n:=U;have t1':decide ((i:Int)<(i:Int))=B:=IJ U;go_wp2_with fail;refine(Wn lo hi g gc gq gt gs _ (ns+m2+m3) _ _ S1.out Cw Cx).mono ?_;rintro e20 iF ⟨rfl,⟨c4,m4,n4,wN,s20,iK⟩,wP⟩;replace S1:=J s20;replace MM:=J<|MM.out.trans wP;have WY:=J wN;have lK:=J iK;clear s20 wP wN iK OA;obtain⟨p',hpo,hpb,hca⟩:=Wy g pr WF.out WC.out c4.pt S1.out.core.ok.pt;have io:=J hpo;have ZH:=J hpb;have CN:=J hca;clear hpo hpb hca;go_wp2_with fail;obtain⟨d0,d1,d2,hd,KG,o0,o1,o2,-,-⟩:=S1.out.core.Ek;have Xf:=J<|Ok (c:=c4) (gq:=gq) (gt:=gt) (hd:=hd) (Jz g) o0 o1 o2 0 U;have iw:=J<|Ok (c:=c4) (gq:=gq) (gt:=gt) (hd:=hd) (Jz g) o0 o1 o2 11 U;have KG:=J KG;have PL:=J<|Jz g;have U9:Ec ((EG 56 g).toList.toArray=EG 56 g):=J Eh;clear o0 o1 o2;have y0: ∀y:Ext iF,(EC iF y).cell? ⟨gs,0,X⟩=Z (M (Z ⟨gc,0,X⟩)):=fun y=>(S1.out.V (EN y)).IB;refine J_ 21 Ed Ed ?_;simp only[Iq,Io,IP,IH]
      repeat (first
       |go_big_quiet_skip
       |(go_big_quiet_want
         first
          |(refine ZZ (T:=28) (g:=gc) (off:=0) U1 _ rfl rfl KG 0 rfl Xf.out PL.out ?_;(try rw[U9.out]);go_simp;go_big_quiet_on)
          |(refine ZZ (T:=50) (g:=gc) (off:=102) im _ rfl rfl KG 11 rfl iw.out rfl ?_;(try rw[U9.out]);go_simp;go_big_quiet_on)
          |(go_big_quiet_op
            first
             |go_big_quiet_on
             |go_big_quiet_call (with_reducible refine aE (CN.out _)))))
      refine I1 ?_;exact Elh
   ·have t0':decide (0<=who)=B:=IJ wD;obtain⟨m2,hm2⟩:=En m1;obtain⟨n2,hn2⟩:=En (n1:List Rec);have s12:=S1.out;rw[<-hm2,<-hn2] at s12;replace S1:=J s12;have jy:Ec (m2<=9):=J sD;have ME:Ec (n2.length<=9):=J (by rw[hn2];have:=nG.out;omega);have MI:Ec (∀x∈n1,x∈n2):=J (fun x hx=>by rw[hn2];exact hx);have WT:Ec (0<=t1.Ur.2-> ∃x∈n2,x.k=12/\x.s=t1.Ur.2):=J<|fun h=>absurd (by rw[Cu.out];exact h) wD;clear s12 hm2 hn2 wD jx nG Cu CE KB;have z0:=S1.out.IB;have z64:jo _ ⟨gc,64,X⟩=Z (M (Z ⟨gq,0,X⟩)):=S1.out.core.cell 2 rfl 0 Eh;go_wp2_with fail;refine(TF lo gq _ (pn g 48) _ S1.out.core.lq S1.out.core.ZL S1.out.core.ok.q S1.out.core.ok.ones).mono ?_;rintro e8 w8 ⟨⟨v8,rfl,o8⟩,q8,m8⟩;obtain⟨A,c8,rfl,-⟩:=Xs o8;have lG:=J<|Wz S1.out.core.ok;have wF:=S1.out.core.ok.kept;replace S1:=J<|S1.out.gh m8 _ q8 wF;replace MM:=J<|MM.out.trans (m8.js hi);obtain⟨GQ,qt⟩:=En (aW (Js L1));obtain⟨KQ,wG⟩:=En (X5 (Js L1));obtain⟨n,hn⟩:=En GQ.length;rw[<-qt,<-hn] at lG o8;rw[<-wG] at S1;rw[<-qt,<-hn];have lH:=J hn.symm;have OA:=J o8;clear o8 q8 m8 wF z0 z64 qt wG hn;go_wp2_with fail;go_loopw[67] (fun y wr=> ∃(i m3:Nat) (n3:List Rec),i<=n/\y=E I i/\m3<=i/\n3.length<=i/\E5 lo hi g gc gq gt gs {c with T:=T1,tok:=t2,q:=KQ} (ns+m2+m3) (rs++(n2++n3)) wr/\Ew lo hi w wr/\ ∃base,wr.ownsRow base 133 4 (G A n c8) n (UY GQ)) (fun y _=>n-(Ir y).toNat);case atStart=>exact⟨0,0,[],U,O,U,Eh,s_,MM.out,_,OA.out⟩
    case round=>
     obtain⟨i,m3,n3,ww,rfl,nt,wH,s9,m9,base,o9⟩:=hrel;replace S1:=J s9;replace MM:=J m9;replace OA:=J o9;have p6:=J nt;have Cv:=J wH;clear s9 m9 o9 nt wH;by_cases hlt:i<n;·exact ElU
     ·obtain rfl:i=n:=U;have t1':decide ((i:Int)<(i:Int))=B:=IJ U;go_wp2_with fail;refine(Wn lo hi g gc gq gt gs _ (ns+m2+m3) _ _ S1.out Cw Cx).mono ?_;rintro e20 iF ⟨rfl,⟨c4,m4,n4,wN,s20,iK⟩,wP⟩;replace S1:=J s20;replace MM:=J<|MM.out.trans wP;have WY:=J wN;have lK:=J iK;clear s20 wP wN iK OA;obtain⟨p',hpo,hpb,hca⟩:=Wy g pr WF.out WC.out c4.pt S1.out.core.ok.pt;have io:=J hpo;have ZH:=J hpb;have CN:=J hca;clear hpo hpb hca;go_wp2_with fail;obtain⟨d0,d1,d2,hd,KG,o0,o1,o2,-,-⟩:=S1.out.core.Ek;have Xf:=J<|Ok (c:=c4) (gq:=gq) (gt:=gt) (hd:=hd) (Jz g) o0 o1 o2 0 U;have iw:=J<|Ok (c:=c4) (gq:=gq) (gt:=gt) (hd:=hd) (Jz g) o0 o1 o2 11 U;have KG:=J KG;have PL:=J<|Jz g;have U9:Ec ((EG 56 g).toList.toArray=EG 56 g):=J Eh;clear o0 o1 o2;have y0: ∀y:Ext iF,(EC iF y).cell? ⟨gs,0,X⟩=Z (M (Z ⟨gc,0,X⟩)):=fun y=>(S1.out.V (EN y)).IB;refine J_ 21 Ed Ed ?_;simp only[Iq,Io,IP,IH]
      repeat (first
       |go_big_quiet_skip
       |(go_big_quiet_want
         first
          |(refine ZZ (T:=28) (g:=gc) (off:=0) U1 _ rfl rfl KG 0 rfl Xf.out PL.out ?_;(try rw[U9.out]);go_simp;go_big_quiet_on)
          |(refine ZZ (T:=50) (g:=gc) (off:=102) im _ rfl rfl KG 11 rfl iw.out rfl ?_;(try rw[U9.out]);go_simp;go_big_quiet_on)
          |(go_big_quiet_op
            first
             |go_big_quiet_on
             |go_big_quiet_call (with_reducible refine aE (CN.out _)))))
      refine I1 ?_;exact Elh
theorem wQ:Oq Eb 124 #[M X,G X 0 0,G X 0 0]:=by exact ElR
theorem wR(gc:Nat):Tryz.prog.built 124 [(0,M (Z ⟨gc,0,X⟩))]=Z #[M (Z ⟨gc,0,X⟩),G X 0 0,G X 0 0]:=Ed
theorem MJ:IG Eb 74 2:=⟨⟨_,Tryz.underlying74,O⟩,Ed⟩
theorem wT{hi:Nat}(C:JE lo g gc gq gt c W)(K:D W gs #[M (Z ⟨gc,0,X⟩),G X 0 0,G X 0 0] 124)(hc:gc<hi)(hq:gq<hi)(ht:gt<hi)(hl:lo<=hi)(hs:hi<=gs):E5 lo hi g gc gq gt gs c 0 [] W:=
 ⟨C,hc,hq,ht,hl,hs,_,_,⟨[],fun _ h=>absurd h UA⟩,K,bN _ _ _ _,bN _ _ _ _⟩
theorem JE.lE(C:JE lo g gc gq gt c W):gc<W.heap.size/\gq<W.heap.size/\gt<W.heap.size/\lo<=W.heap.size:=by obtain⟨_,_,_,_,k,_⟩:=C.Ek;obtain⟨_,_,k2,_⟩:=C.ZL;have kt:D W gt c.T.v.toArray 163:=C.tab;exact⟨k.lt,k2.lt,kt.lt,Ez C.lc (am k.lt)⟩
def wV(lo hi:Nat)(g:Nat->Y)(gc gq gt:Nat)(R:Ey->Nat->List Rec->Prop)(w:H)(e:Uh)(w':H):Prop:=
 ∃(c':Ey) (ns:Nat) (new:List Rec) (sv rv:Y) (sc:sU) (hd:List Int),e=Eg (EZ (I8 (Jo c') sv rv hd).toArray)/\hd.length=32/\(∀x∈hd,0<=x/\x<=255)/\w'.ownsRow hi 264 2 sv ns sc.l/\w'.ownsRow hi 58 6 rv new.length (Uw new)/\JE lo g gc gq gt c' w'/\R c' ns new/\Ew lo hi w w'
theorem iL(act:List Y)(sv rv:Y)(hd:List Int)(h1:act.length=12)(h:hd.length=32):(I8 act sv rv hd).toArray.size=46:=by simp[I8,h1,h]
theorem lL(c:Ey)(A Y4:Option Eu)(n m d f:Nat)(hd:List Int):(I8 (Jo c) (G A n d) (G Y4 m f) hd).toArray.all (·.oneCell')=EI:=by
 refine all_oneCell_toArray ?_;intro v hv;simp only[I8,Jo,XM,UJ,UA,or_false,dU] at hv;rcases hv with hv|(rfl|rfl)|⟨x,-,rfl⟩;·exact Eor
 ·rfl
 ·rfl
 ·rfl
theorem wW(lo:Nat)(g:Nat->Y)(gc gq gt:Nat)(c:Ey)(w:H)(C:JE lo g gc gq gt c w): Ef Eb 53 #[M (Z ⟨gc,0,X⟩)] w fun e w'=>e=Eg (EU EI)/\w=w':=by have U2:w.cell? ⟨gc,95,X⟩=Z (M (Z ⟨gt,0,X⟩)):=C.cell 6 rfl 0 Eh;go_enter Tryz.func53,Tryz.ntmps53;exact Eli
theorem Ef6(lo:Nat)(g:Nat->Y)(gc gq gt:Nat)(c:Ey)(w:H)(C:JE lo g gc gq gt c w): Ef Eb 25 #[M (Z ⟨gc,0,X⟩)] w (wV lo w.heap.size g gc gq gt (fun c2 ns new=>c2=c/\ns=0/\new=[]) w):=by
 have C0:=J C;have LT:=J C.lE;have BS:=J<|wR gc;clear C;go_enter Tryz.func25,Tryz.ntmps25;go_wp2_with (with_reducible refine I7 5 ?_);apply Eo;generalize hW:Uz _ _=w1 at*;have cG:Ec (∃z:Array Y,z.size=46/\D w1 (w.heap.size) z 43):=J (by subst hW;exact⟨_,O,by first|exact D.new _ _ _|exact D.new' _ _ _ Eh⟩);have b1:Ec (El w w1):=J (by subst hW;(repeat (first|exact E9 _ _|(refine JQ ?_ Iv _)|(refine JR ?_ Iv _))));clear hW;obtain⟨gz,hgz⟩:=En w.heap.size;obtain⟨hi,hhi⟩:=En w.heap.size;rw[<-hhi] at LT⊢;rw[<-hgz] at cG;rw[show(M (Z ⟨hi,0,X⟩))=M (Z ⟨gz,0,X⟩) by rw[hgz,hhi]];have HZ:=J (show hi<=gz/\w.heap.size<=gz/\hi=w.heap.size from U);have C1:=J<|C0.out.V b1.out;have LW:=J (show hi<=w1.heap.size from wY);have MM:=J<|Ew.EA (lo:=lo) (hi:=hi) b1.out;clear b1 hgz hhi C0;have K0:=J<|D.new w1 #[M X,G X 0 0,G X 0 0] 124;have b2:=Er w1 (EJ #[M X,G X 0 0,G X 0 0] 124);go_wp2_with (first|((with_reducible refine It 5 ?_);refine I3 rfl 124 _ rfl #[M (Z ⟨gc,0,X⟩),G X 0 0,G X 0 0] BS.out ?_)|(with_reducible refine wA wQ ?_)|(with_reducible refine wS (cs:= #[M (Z ⟨gc,0,X⟩),G X 0 0,G X 0 0]) vX K0 (Ev.mk ?_) (h1:=Ug)));apply Eo;obtain⟨gs,hgs⟩:=En w1.heap.size;rw[<-hgs] at K0⊢;generalize w1.alloc (EJ #[M X,G X 0 0,G X 0 0] 124)=w2 at*;have KS:=J<|K0.out.setRow #[M (Z ⟨gc,0,X⟩),G X 0 0,G X 0 0];have b3:=E2 (g:=gs) b2 (Om hgs.symm) #[M (Z ⟨gc,0,X⟩),G X 0 0,G X 0 0];generalize w2.setRow gs #[M (Z ⟨gc,0,X⟩),G X 0 0,G X 0 0]=w3 at*;replace C1:=J<|C1.out.V b3;replace MM:=J<|MM.out.trans (Ew.EA b3);have KZ:Ec (∃z:Array Y,z.size=46/\D w3 gz z 43):=J w_;have SS:=J<|wT C1.out KS.out LT.out.1 LT.out.2.1 LT.out.2.2.1 LT.out.2.2.2 tI;clear K0 b2 hgs b3 cG KS LW;clear C1;go_wp2_with fail;refine(vb lo hi g gc gq gt gs c _ _ _ SS.out).mono ?_;rintro e6 w6 ⟨sv,rv,sc,hd,rfl,JT,Ol,os,Ob,b6⟩;obtain⟨z,hz,kz⟩:=KZ.out;have Ox:=J<|D.V kz b6;have lM:=J hz;replace SS:=J<|SS.out.core.V b6;replace MM:=J<|MM.out.trans (Ew.EA b6);have OS:=J os;have OR:=J Ob;have HD:=J<|Jp JT Ol;obtain⟨A1,e1,rfl,-⟩:=Xs os;obtain⟨A2,e2,rfl,-⟩:=Xs Ob;have TS:=J<|iL (Jo c) (G A1 0 e1) (.slice A2 ([]:List Rec).length e2) hd O JT;have TO:=J<|lL c A1 A2 0 ([]:List Rec).length e1 e2 hd;obtain⟨tv,IE⟩: ∃tv,tv=(I8 (Jo c) (G A1 0 e1) (.slice A2 ([]:List Rec).length e2) hd).toArray:=⟨_,O⟩;rw[<-IE] at TS TO⊢;have J4:=J IE;clear os Ob JT Ol IE b6 kz hz KZ;go_wp2_with (with_reducible refine wS (cs:=tv) Zq Ox ?_ (ho:=lM.out) (hn:=TS.out) (h1:=TO.out));refine EV (Jj Zq O _ _ gz tv O (Ox.out.setRow tv) TS.out) O ?_;have ho:=J8 (g:=gz) (W:=w6) tv;have hz2:=HZ.out;obtain⟨hz3,gI,gJ⟩:=hz2;subst gJ;have hb:=ho.bel lo tJ xE;refine⟨c,_,_,_,_,sc,hd,aY,HD.out.1,HD.out.2,EP OS.out fun _ _ h=>ho.Ek h (EW h Ox.out Ea),EP OR.out fun _ _ h=>ho.Ek h (EW h Ox.out Ea),?_,⟨O,O,O⟩,?_⟩;·exact Emi
 ·exact Enk
theorem Ef7(lo:Nat)(g:Nat->Y)(gc gq gt:Nat)(c:Ey)(w:H)(C:JE lo g gc gq gt c w): Ef Eb 52 #[M (Z ⟨gc,0,X⟩)] w (wV lo w.heap.size g gc gq gt (fun c2 ns new=>ns<=15/\new.length<=13/\Cs c c2 new) w):=by
 have C0:=J C;have LT:=J C.lE;have BS:=J<|wR gc;clear C;go_enter Tryz.func52,Tryz.ntmps52;go_wp2_with (with_reducible refine I7 5 ?_);apply Eo;generalize hW:Uz _ _=w1 at*;have cG:Ec (∃z:Array Y,z.size=46/\D w1 (w.heap.size) z 43):=J (by subst hW;exact⟨_,O,by first|exact D.new _ _ _|exact D.new' _ _ _ Eh⟩);have b1:Ec (El w w1):=J (by subst hW;(repeat (first|exact E9 _ _|(refine JQ ?_ Iv _)|(refine JR ?_ Iv _))));clear hW;obtain⟨gz,hgz⟩:=En w.heap.size;obtain⟨hi,hhi⟩:=En w.heap.size;rw[<-hhi] at LT⊢;rw[<-hgz] at cG;rw[show(M (Z ⟨hi,0,X⟩))=M (Z ⟨gz,0,X⟩) by rw[hgz,hhi]];have HZ:=J (show hi<=gz/\w.heap.size<=gz/\hi=w.heap.size from U);have C1:=J<|C0.out.V b1.out;have LW:=J (show hi<=w1.heap.size from wY);have MM:=J<|Ew.EA (lo:=lo) (hi:=hi) b1.out;clear b1 hgz hhi C0;have K0:=J<|D.new w1 #[M X,G X 0 0,G X 0 0] 124;have b2:=Er w1 (EJ #[M X,G X 0 0,G X 0 0] 124);go_wp2_with (first|((with_reducible refine It 5 ?_);refine I3 rfl 124 _ rfl #[M (Z ⟨gc,0,X⟩),G X 0 0,G X 0 0] BS.out ?_)|(with_reducible refine wA wQ ?_)|(with_reducible refine wS (cs:= #[M (Z ⟨gc,0,X⟩),G X 0 0,G X 0 0]) vX K0 (Ev.mk ?_) (h1:=Ug)));apply Eo;obtain⟨gs,hgs⟩:=En w1.heap.size;rw[<-hgs] at K0⊢;generalize w1.alloc (EJ #[M X,G X 0 0,G X 0 0] 124)=w2 at*;have KS:=J<|K0.out.setRow #[M (Z ⟨gc,0,X⟩),G X 0 0,G X 0 0];have b3:=E2 (g:=gs) b2 (Om hgs.symm) #[M (Z ⟨gc,0,X⟩),G X 0 0,G X 0 0];generalize w2.setRow gs #[M (Z ⟨gc,0,X⟩),G X 0 0,G X 0 0]=w3 at*;replace C1:=J<|C1.out.V b3;replace MM:=J<|MM.out.trans (Ew.EA b3);have KZ:Ec (∃z:Array Y,z.size=46/\D w3 gz z 43):=J w_;have SS:=J<|wT C1.out KS.out LT.out.1 LT.out.2.1 LT.out.2.2.1 LT.out.2.2.2 tI;clear K0 b2 hgs b3 cG KS LW;go_wp2_with fail;refine(wW lo g gc gq gt c _ C1.out).mono ?_;rintro e4 w4 ⟨rfl,rfl⟩;clear C1;go_wp2_with fail;refine(Ef0 lo hi g gc gq gt gs c 0 [] _ SS.out U Eh).mono ?_;rintro e5 w5 ⟨rfl,⟨c',m,new,hm,hnl,s5,h5⟩,Zw⟩;rw[ZV] at s5;replace SS:=J s5;replace MM:=J<|MM.out.trans Zw;replace KZ:Ec (∃z:Array Y,z.size=46/\D w5 gz z 43):=J (by obtain⟨z,h1,h2⟩:=KZ.out;exact⟨z,h1,Zw.Ek h2 Ea Ea⟩);clear s5 Zw;go_wp2_with fail;refine(vb lo hi g gc gq gt gs c' _ _ _ SS.out).mono ?_;rintro e6 w6 ⟨sv,rv,sc,hd,rfl,JT,Ol,os,Ob,b6⟩;obtain⟨z,hz,kz⟩:=KZ.out;have Ox:=J<|D.V kz b6;have lM:=J hz;replace SS:=J<|SS.out.core.V b6;replace MM:=J<|MM.out.trans (Ew.EA b6);have OS:=J os;have OR:=J Ob;have HD:=J<|Jp JT Ol;obtain⟨A1,e1,rfl,-⟩:=Xs os;obtain⟨A2,e2,rfl,-⟩:=Xs Ob;have TS:=J<|iL (Jo c') (G A1 (0+m) e1) (G A2 new.length e2) hd O JT;have TO:=J<|lL c' A1 A2 (0+m) new.length e1 e2 hd;obtain⟨tv,IE⟩: ∃tv,tv=(I8 (Jo c') (G A1 (0+m) e1) (G A2 new.length e2) hd).toArray:=⟨_,O⟩;rw[<-IE] at TS TO⊢;have J4:=J IE;clear os Ob JT Ol IE b6 kz hz KZ;go_wp2_with (with_reducible refine wS (cs:=tv) Zq Ox ?_ (ho:=lM.out) (hn:=TS.out) (h1:=TO.out));refine EV (Jj Zq O _ _ gz tv O (Ox.out.setRow tv) TS.out) O ?_;have ho:=J8 (g:=gz) (W:=w6) tv;have hz2:=HZ.out;obtain⟨hz3,gI,gJ⟩:=hz2;subst gJ;have hb:=ho.bel lo tJ xE;refine⟨c',_,_,_,_,sc,hd,aY,HD.out.1,HD.out.2,EP OS.out fun _ _ h=>ho.Ek h (EW h Ox.out Ea),EP OR.out fun _ _ h=>ho.Ek h (EW h Ox.out Ea),?_,⟨U,hnl,h5⟩,?_⟩;·exact Emi
 ·exact Enk
theorem Ef8(lo:Nat)(g:Nat->Y)(gc gq gt:Nat)(c:Ey)(bad:Bool)(w:H)(C:JE lo g gc gq gt c w): Ef Eb 51 #[M (Z ⟨gc,0,X⟩),EU bad] w (wV lo w.heap.size g gc gq gt (fun c2 ns new=>ns<=9/\qo bad c c2 new) w):=by
 have C0:=J C;have LT:=J C.lE;have BS:=J<|wR gc;clear C;go_enter Tryz.func51,Tryz.ntmps51;go_wp2_with (with_reducible refine I7 7 ?_);apply Eo;generalize hW:Uz _ _=w1 at*;have cG:Ec (∃z:Array Y,z.size=46/\D w1 (w.heap.size) z 43):=J (by subst hW;exact⟨_,O,by first|exact D.new _ _ _|exact D.new' _ _ _ Eh⟩);have b1:Ec (El w w1):=J (by subst hW;(repeat (first|exact E9 _ _|(refine JQ ?_ Iv _)|(refine JR ?_ Iv _))));clear hW;obtain⟨gz,hgz⟩:=En w.heap.size;obtain⟨hi,hhi⟩:=En w.heap.size;rw[<-hhi] at LT⊢;rw[<-hgz] at cG;rw[show(M (Z ⟨hi,0,X⟩))=M (Z ⟨gz,0,X⟩) by rw[hgz,hhi]];have HZ:=J (show hi<=gz/\w.heap.size<=gz/\hi=w.heap.size from U);have C1:=J<|C0.out.V b1.out;have LW:=J (show hi<=w1.heap.size from wY);have MM:=J<|Ew.EA (lo:=lo) (hi:=hi) b1.out;clear b1 hgz hhi C0;have K0:=J<|D.new w1 #[M X,G X 0 0,G X 0 0] 124;have b2:=Er w1 (EJ #[M X,G X 0 0,G X 0 0] 124);go_wp2_with (first|((with_reducible refine It 7 ?_);refine I3 rfl 124 _ rfl #[M (Z ⟨gc,0,X⟩),G X 0 0,G X 0 0] BS.out ?_)|(with_reducible refine wA wQ ?_)|(with_reducible refine wS (cs:= #[M (Z ⟨gc,0,X⟩),G X 0 0,G X 0 0]) vX K0 (Ev.mk ?_) (h1:=Ug)));apply Eo;obtain⟨gs,hgs⟩:=En w1.heap.size;rw[<-hgs] at K0⊢;generalize w1.alloc (EJ #[M X,G X 0 0,G X 0 0] 124)=w2 at*;have KS:=J<|K0.out.setRow #[M (Z ⟨gc,0,X⟩),G X 0 0,G X 0 0];have b3:=E2 (g:=gs) b2 (Om hgs.symm) #[M (Z ⟨gc,0,X⟩),G X 0 0,G X 0 0];generalize w2.setRow gs #[M (Z ⟨gc,0,X⟩),G X 0 0,G X 0 0]=w3 at*;replace C1:=J<|C1.out.V b3;replace MM:=J<|MM.out.trans (Ew.EA b3);have KZ:Ec (∃z:Array Y,z.size=46/\D w3 gz z 43):=J w_;have SS:=J<|wT C1.out KS.out LT.out.1 LT.out.2.1 LT.out.2.2.1 LT.out.2.2.2 tI;clear K0 b2 hgs b3 cG KS LW;go_wp2_with fail;refine(wW lo g gc gq gt c _ C1.out).mono ?_;rintro e4 w4 ⟨rfl,rfl⟩;clear C1;go_wp2_with fail;refine(EfP lo hi g gc gq gt gs c 0 [] bad _ SS.out U Eh).mono ?_;rintro e5 w5 ⟨rfl,⟨c',m,new,hm,s5,h5⟩,Zw⟩;rw[ZV] at s5;replace SS:=J s5;replace MM:=J<|MM.out.trans Zw;replace KZ:Ec (∃z:Array Y,z.size=46/\D w5 gz z 43):=J (by obtain⟨z,h1,h2⟩:=KZ.out;exact⟨z,h1,Zw.Ek h2 Ea Ea⟩);clear s5 Zw;go_wp2_with fail;refine(vb lo hi g gc gq gt gs c' _ _ _ SS.out).mono ?_;rintro e6 w6 ⟨sv,rv,sc,hd,rfl,JT,Ol,os,Ob,b6⟩;obtain⟨z,hz,kz⟩:=KZ.out;have Ox:=J<|D.V kz b6;have lM:=J hz;replace SS:=J<|SS.out.core.V b6;replace MM:=J<|MM.out.trans (Ew.EA b6);have OS:=J os;have OR:=J Ob;have HD:=J<|Jp JT Ol;obtain⟨A1,e1,rfl,-⟩:=Xs os;obtain⟨A2,e2,rfl,-⟩:=Xs Ob;have TS:=J<|iL (Jo c') (G A1 (0+m) e1) (G A2 new.length e2) hd O JT;have TO:=J<|lL c' A1 A2 (0+m) new.length e1 e2 hd;obtain⟨tv,IE⟩: ∃tv,tv=(I8 (Jo c') (G A1 (0+m) e1) (G A2 new.length e2) hd).toArray:=⟨_,O⟩;rw[<-IE] at TS TO⊢;have J4:=J IE;clear os Ob JT Ol IE b6 kz hz KZ;go_wp2_with (with_reducible refine wS (cs:=tv) Zq Ox ?_ (ho:=lM.out) (hn:=TS.out) (h1:=TO.out));refine EV (Jj Zq O _ _ gz tv O (Ox.out.setRow tv) TS.out) O ?_;have ho:=J8 (g:=gz) (W:=w6) tv;have hz2:=HZ.out;obtain⟨hz3,gI,gJ⟩:=hz2;subst gJ;have hb:=ho.bel lo tJ xE;refine⟨c',_,_,_,_,sc,hd,aY,HD.out.1,HD.out.2,EP OS.out fun _ _ h=>ho.Ek h (EW h Ox.out Ea),EP OR.out fun _ _ h=>ho.Ek h (EW h Ox.out Ea),?_,⟨U,h5⟩,?_⟩;·exact Emi
 ·exact Enk
theorem Ef9(lo:Nat)(g:Nat->Y)(gc gq gt:Nat)(c:Ey)(va gv:Bool)(x0 x1 x2 x3:Int)(w:H)(C:JE lo g gc gq gt c w)(hx:I9 x0/\I9 x1/\I9 x2/\I9 x3): Ef Eb 50 #[M (Z ⟨gc,0,X⟩),EZ #[EU va,E I x0,E I x1,E I x2,E I x3,EU gv]] w (wV lo w.heap.size g gc gq gt (fun c2 ns new=>ns<=3/\qn c c2 new) w):=by
 have C0:=J C;have LT:=J C.lE;have BS:=J<|wR gc;have HX:=J hx;clear hx;clear C;go_enter Tryz.func50,Tryz.ntmps50;go_wp2_with (with_reducible refine I7 7 ?_);apply Eo;generalize hW:Uz _ _=w1 at*;have cG:Ec (∃z:Array Y,z.size=46/\D w1 (w.heap.size+1) z 43):=J (by subst hW;exact⟨_,O,by first|exact D.new _ _ _|exact D.new' _ _ _ Eh⟩);have KI:Ec (D w1 (w.heap.size) #[EU va,E I x0,E I x1,E I x2,E I x3,EU gv] 46):=J (by subst hW;repeat (first|exact D.new _ _ _|exact D.new' _ _ _ Eh|refine D.alloc ?_ _));have b1:Ec (El w w1):=J (by subst hW;(repeat (first|exact E9 _ _|(refine JQ ?_ Iv _)|(refine JR ?_ Iv _))));clear hW;obtain⟨gz,hgz⟩:=En (w.heap.size+1);obtain⟨hi,hhi⟩:=En w.heap.size;rw[<-hgz] at cG⊢;rw[<-hhi] at KI LT⊢;obtain⟨gi,hgi⟩:=En hi;rw[show(M (Z ⟨hi,0,X⟩))=M (Z ⟨gi,0,X⟩) by rw[hgi]];rw[<-hgi] at KI;have HZ:=J (show hi<=gz/\w.heap.size<=gz/\hi=w.heap.size from U);have C1:=J<|C0.out.V b1.out;have LW:=J (show hi<=w1.heap.size from wY);have MM:=J<|Ew.EA (lo:=lo) (hi:=hi) b1.out;clear b1 hgz hhi hgi C0;have K0:=J<|D.new w1 #[M X,G X 0 0,G X 0 0] 124;have b2:=Er w1 (EJ #[M X,G X 0 0,G X 0 0] 124);go_wp2_with (first|((with_reducible refine It 7 ?_);refine I3 rfl 124 _ rfl #[M (Z ⟨gc,0,X⟩),G X 0 0,G X 0 0] BS.out ?_)|(with_reducible refine wA wQ ?_)|(with_reducible refine wS (cs:= #[M (Z ⟨gc,0,X⟩),G X 0 0,G X 0 0]) vX K0 (Ev.mk ?_) (h1:=Ug)));apply Eo;obtain⟨gs,hgs⟩:=En w1.heap.size;rw[<-hgs] at K0⊢;generalize w1.alloc (EJ #[M X,G X 0 0,G X 0 0] 124)=w2 at*;have KS:=J<|K0.out.setRow #[M (Z ⟨gc,0,X⟩),G X 0 0,G X 0 0];have b3:=E2 (g:=gs) b2 (Om hgs.symm) #[M (Z ⟨gc,0,X⟩),G X 0 0,G X 0 0];generalize w2.setRow gs #[M (Z ⟨gc,0,X⟩),G X 0 0,G X 0 0]=w3 at*;replace C1:=J<|C1.out.V b3;replace MM:=J<|MM.out.trans (Ew.EA b3);replace KI:=EM KI b3;have KZ:Ec (∃z:Array Y,z.size=46/\D w3 gz z 43):=J w_;have SS:=J<|wT C1.out KS.out LT.out.1 LT.out.2.1 LT.out.2.2.1 LT.out.2.2.2 tI;clear K0 b2 hgs b3 cG KS LW;go_wp2_with fail;refine(wW lo g gc gq gt c _ C1.out).mono ?_;rintro e4 w4 ⟨rfl,rfl⟩;clear C1;go_wp2_with (with_reducible refine wL Cp KI ?_);refine(EfB lo hi g gc gq gt gs c 0 [] va gv x0 x1 x2 x3 _ SS.out HX.out U Eh).mono ?_;rintro e5 w5 ⟨rfl,⟨c',m,new,hm,s5,h5⟩,Zw⟩;rw[ZV] at s5;replace SS:=J s5;replace MM:=J<|MM.out.trans Zw;replace KZ:Ec (∃z:Array Y,z.size=46/\D w5 gz z 43):=J (by obtain⟨z,h1,h2⟩:=KZ.out;exact⟨z,h1,Zw.Ek h2 Ea Ea⟩);clear s5 Zw;go_wp2_with fail;refine(vb lo hi g gc gq gt gs c' _ _ _ SS.out).mono ?_;rintro e6 w6 ⟨sv,rv,sc,hd,rfl,JT,Ol,os,Ob,b6⟩;obtain⟨z,hz,kz⟩:=KZ.out;have Ox:=J<|D.V kz b6;have lM:=J hz;replace SS:=J<|SS.out.core.V b6;replace MM:=J<|MM.out.trans (Ew.EA b6);have OS:=J os;have OR:=J Ob;have HD:=J<|Jp JT Ol;obtain⟨A1,e1,rfl,-⟩:=Xs os;obtain⟨A2,e2,rfl,-⟩:=Xs Ob;have TS:=J<|iL (Jo c') (G A1 (0+m) e1) (G A2 new.length e2) hd O JT;have TO:=J<|lL c' A1 A2 (0+m) new.length e1 e2 hd;obtain⟨tv,IE⟩: ∃tv,tv=(I8 (Jo c') (G A1 (0+m) e1) (G A2 new.length e2) hd).toArray:=⟨_,O⟩;rw[<-IE] at TS TO⊢;have J4:=J IE;clear os Ob JT Ol IE b6 kz hz KZ;go_wp2_with (with_reducible refine wS (cs:=tv) Zq Ox ?_ (ho:=lM.out) (hn:=TS.out) (h1:=TO.out));refine EV (Jj Zq O _ _ gz tv O (Ox.out.setRow tv) TS.out) O ?_;have ho:=J8 (g:=gz) (W:=w6) tv;have hz2:=HZ.out;obtain⟨hz3,gI,gJ⟩:=hz2;subst gJ;have hb:=ho.bel lo tJ xE;refine⟨c',_,_,_,_,sc,hd,aY,HD.out.1,HD.out.2,EP OS.out fun _ _ h=>ho.Ek h (EW h Ox.out Ea),EP OR.out fun _ _ h=>ho.Ek h (EW h Ox.out Ea),?_,⟨U,h5⟩,?_⟩;·exact Emi
 ·exact Enk
theorem Ef_(lo:Nat)(g:Nat->Y)(gc gq gt:Nat)(c:Ey)(code:Int)(A:Option Eu)(n cap:Nat)(xs:List Int)(k:Int)(w:H)(C:JE lo g gc gq gt c w)(hk:1<=k/\k<=3)(hx:xs.length=n)(hnc:n<=cap)(hcap:cap<=9223372036854775807)(wg:n<=1000)(hr:Row w A xs): Ef Eb 49 #[M (Z ⟨gc,0,X⟩),E I k,EZ #[E I code,G A n cap]] w (wV lo w.heap.size g gc gq gt (fun c2 ns new=>ns<=3/\nC g k code xs c c2 ns new) w):=by
 have C0:=J C;have LT:=J C.lE;have BS:=J<|wR gc;have HX:=J<|Jp hk (Jp hx (Jp hnc (Jp hcap wg)));have wZ:=J hr;have HLK:Ec (decide (1<=k/\k<=3)=EI):=J<|IU hk;clear hk hx hnc hcap wg hr;clear C;go_enter Tryz.func49,Tryz.ntmps49;go_wp2_with (with_reducible refine I7 9 ?_);apply Eo;generalize hW:Uz _ _=w1 at*;have cG:Ec (∃z:Array Y,z.size=46/\D w1 (w.heap.size+1) z 43):=J (by subst hW;exact⟨_,O,by first|exact D.new _ _ _|exact D.new' _ _ _ Eh⟩);have KI:Ec (D w1 (w.heap.size) #[E I code,G A n cap] 74):=J (by subst hW;repeat (first|exact D.new _ _ _|exact D.new' _ _ _ Eh|refine D.alloc ?_ _));have b1:Ec (El w w1):=J (by subst hW;(repeat (first|exact E9 _ _|(refine JQ ?_ Iv _)|(refine JR ?_ Iv _))));clear hW;obtain⟨gz,hgz⟩:=En (w.heap.size+1);obtain⟨hi,hhi⟩:=En w.heap.size;rw[<-hgz] at cG⊢;rw[<-hhi] at KI LT⊢;obtain⟨gi,hgi⟩:=En hi;rw[show(M (Z ⟨hi,0,X⟩))=M (Z ⟨gi,0,X⟩) by rw[hgi]];rw[<-hgi] at KI;have HZ:=J (show hi<=gz/\w.heap.size<=gz/\hi=w.heap.size from U);have C1:=J<|C0.out.V b1.out;have RW:=J<|Ix wZ.out b1.out;have LW:=J (show hi<=w1.heap.size from wY);have MM:=J<|Ew.EA (lo:=lo) (hi:=hi) b1.out;clear b1 hgz hhi hgi C0;have K0:=J<|D.new w1 #[M X,G X 0 0,G X 0 0] 124;have b2:=Er w1 (EJ #[M X,G X 0 0,G X 0 0] 124);go_wp2_with (first|((with_reducible refine It 9 ?_);refine I3 rfl 124 _ rfl #[M (Z ⟨gc,0,X⟩),G X 0 0,G X 0 0] BS.out ?_)|(with_reducible refine wA wQ ?_)|(with_reducible refine wS (cs:= #[M (Z ⟨gc,0,X⟩),G X 0 0,G X 0 0]) vX K0 (Ev.mk ?_) (h1:=Ug)));apply Eo;obtain⟨gs,hgs⟩:=En w1.heap.size;rw[<-hgs] at K0⊢;generalize w1.alloc (EJ #[M X,G X 0 0,G X 0 0] 124)=w2 at*;have KS:=J<|K0.out.setRow #[M (Z ⟨gc,0,X⟩),G X 0 0,G X 0 0];have b3:=E2 (g:=gs) b2 (Om hgs.symm) #[M (Z ⟨gc,0,X⟩),G X 0 0,G X 0 0];generalize w2.setRow gs #[M (Z ⟨gc,0,X⟩),G X 0 0,G X 0 0]=w3 at*;replace C1:=J<|C1.out.V b3;replace RW:=J<|Ix RW.out b3;replace MM:=J<|MM.out.trans (Ew.EA b3);replace KI:=EM KI b3;have KZ:Ec (∃z:Array Y,z.size=46/\D w3 gz z 43):=J w_;have SS:=J<|wT C1.out KS.out LT.out.1 LT.out.2.1 LT.out.2.2.1 LT.out.2.2.2 tI;clear K0 b2 hgs b3 cG KS LW;go_wp2_with fail;refine(Kd k _).mono ?_;rintro e4 w4 ⟨rfl,rfl⟩;rw[HLK.out];go_wp2_with fail;refine(wW lo g gc gq gt c _ C1.out).mono ?_;rintro e4 w4 ⟨rfl,rfl⟩;clear C1;go_wp2_with (with_reducible refine wL MJ KI ?_);refine(Efa lo hi g gc gq gt gs c 0 [] code A n cap xs k _ SS.out HX.out.1 HX.out.2.1 HX.out.2.2.1 HX.out.2.2.2.1 HX.out.2.2.2.2 RW.out U Eh).mono ?_;rintro e5 w5 ⟨rfl,⟨c',m,new,hm,s5,h5⟩,Zw⟩;rw[ZV] at s5;replace SS:=J s5;replace MM:=J<|MM.out.trans Zw;replace KZ:Ec (∃z:Array Y,z.size=46/\D w5 gz z 43):=J (by obtain⟨z,h1,h2⟩:=KZ.out;exact⟨z,h1,Zw.Ek h2 Ea Ea⟩);clear s5 Zw;go_wp2_with fail;refine(vb lo hi g gc gq gt gs c' _ _ _ SS.out).mono ?_;rintro e6 w6 ⟨sv,rv,sc,hd,rfl,JT,Ol,os,Ob,b6⟩;obtain⟨z,hz,kz⟩:=KZ.out;have Ox:=J<|D.V kz b6;have lM:=J hz;replace SS:=J<|SS.out.core.V b6;replace MM:=J<|MM.out.trans (Ew.EA b6);have OS:=J os;have OR:=J Ob;have HD:=J<|Jp JT Ol;obtain⟨A1,e1,rfl,-⟩:=Xs os;obtain⟨A2,e2,rfl,-⟩:=Xs Ob;have TS:=J<|iL (Jo c') (G A1 (0+m) e1) (G A2 new.length e2) hd O JT;have TO:=J<|lL c' A1 A2 (0+m) new.length e1 e2 hd;obtain⟨tv,IE⟩: ∃tv,tv=(I8 (Jo c') (G A1 (0+m) e1) (G A2 new.length e2) hd).toArray:=⟨_,O⟩;rw[<-IE] at TS TO⊢;have J4:=J IE;clear os Ob JT Ol IE b6 kz hz KZ;go_wp2_with (with_reducible refine wS (cs:=tv) Zq Ox ?_ (ho:=lM.out) (hn:=TS.out) (h1:=TO.out));refine EV (Jj Zq O _ _ gz tv O (Ox.out.setRow tv) TS.out) O ?_;have ho:=J8 (g:=gz) (W:=w6) tv;have hz2:=HZ.out;obtain⟨hz3,gI,gJ⟩:=hz2;subst gJ;have hb:=ho.bel lo tJ xE;refine⟨c',_,_,_,_,sc,hd,aY,HD.out.1,HD.out.2,EP OS.out fun _ _ h=>ho.Ek h (EW h Ox.out Ea),EP OR.out fun _ _ h=>ho.Ek h (EW h Ox.out Ea),?_,⟨U,by first|exact h5|(rw[OD];exact h5)⟩,?_⟩;·exact Emi
 ·exact Enk
def UF:List Int->Nat
 |[]=>0
 |x::r=>if x=165 then 0 else UF r+1
theorem MO: ∀xs,UF xs<=xs.length
 |[]=>E7 _
 |x::r=>by
  unfold UF;split;·exact bG _
  ·have:=MO r;simp;exact this
structure cH where
 kd:Int
 sz:Nat
 cd:Int
 b:List Int
def cL:cH:=⟨0,0,0,[]⟩
def jH(c:Int):cH:=⟨3,1,c,[]⟩
def jK(n:Nat):cH:=⟨1,n,0,[]⟩
def qx(xs:List Int):cH:=⟨2,xs.length+5,0,xs⟩
def fg(v n:Int)(r:List Int):cH:=
 if 32<n then jH 11 else if(r.length:Int)<n+2 then cL else if XS (v::n::r.take n.toNat)≠256*r.getD n.toNat 0+r.getD (n.toNat+1) 0 then jH 12 else qx (r.take n.toNat)
def Cy:List Int->cH
 |[]=>cL
 |n::r=>fg 1 n r
def nH:List Int->cH
 |[]=>cL
 |v::r=>if v≠1 then jH 10 else Cy r
def nx:List Int->cH
 |[]=>cL
 |a::r=>if a≠165 then jK (UF (a::r)) else nH r
theorem jL(a:Int)(r:List Int):nx (a::r)=if a≠165 then jK (UF (a::r)) else nH r:=rfl
theorem qy(v:Int)(r:List Int):nH (v::r)=if v≠1 then jH 10 else Cy r:=rfl
def cH.item(f:cH):List (Int×List Int):=if f.kd=2 then [(0,f.b)] else if f.kd=3 then [(f.cd,[])] else []
def U3(xs:List Int):Prop:= ∀x∈xs,0<=x/\x<=255
theorem U3.dr{xs:List Int}(h:U3 xs)(k:Nat):U3 (xs.drop k):=fun y hy=>h y (List.mem_of_mem_drop hy)
theorem U3.tk{xs:List Int}(h:U3 xs)(k:Nat):U3 (xs.take k):=fun y hy=>h y (fy hy)
theorem U3.app{xs ys:List Int}(h:U3 xs)(k:U3 ys):U3 (xs++ys):=fun y hy=>by
 rcases XM.1 hy with h1|h1;·exact h y h1
 ·exact k y h1
inductive YO(xs:List Int)(f:cH):Prop
 |wait (h:f=cL)
 |qz (c:Int) (h:f=jH c) (hc:c=10\/c=11\/c=12) (hl:1<=xs.length)
 |skip (h:f=jK (UF xs)) (h1:1<=UF xs)
 |frame (n:Nat) (h:f=qx ((xs.drop 3).take n)) (hl:n+5<=xs.length) (hn:n<=32)
theorem Cz(xs:List Int)(hb:U3 xs):YO xs (nx xs):=by
 match xs,hb with
 |[],_=>exact .wait O
 |a::r,hb=>
  by_cases h1:a≠165;·refine .skip (by rw[jL,if_pos h1]) ?_;unfold UF;rw[if_neg h1];omega
  ·have e1:nx (a::r)=nH r:=by rw[jL,if_neg h1]
   rw[e1];match r,hb with
   |[],_=>exact .wait O
   |v::r2,hb=>
    by_cases h2:v≠1;·exact .qz 10 (by rw[qy,if_pos h2]) (.inl O) Eh
    ·have e2:nH (v::r2)=Cy r2:=by rw[qy,if_neg h2]
     rw[e2];match r2,hb with
     |[],_=>exact .wait O
     |n::r3,hb=>
      show YO _ (fg 1 n r3);have hn:=hb n Eh;unfold fg;split;·exact .qz 11 rfl (.inr (.inl O)) Eh
      ·split;·exact .wait O
       ·split;·exact .qz 12 rfl (.inr (.inr O)) Eh
        ·exact .frame n.toNat Eh Ji U
theorem EgI(ys:List Int)(n:Nat)(h:n<=ys.length):(qx (ys.take n)).sz=n+5:=by simp[qx];omega
theorem MX{xs:List Int}(hb:U3 xs)(h:(nx xs).kd≠0):1<=(nx xs).sz/\(nx xs).sz<=xs.length:=by
 cases Cz xs hb with
 |wait e=>rw[e] at h;exact absurd O h
 |qz c e _ hl=>rw[e];exact⟨E7 _,hl⟩
 |skip e h1=>rw[e];exact⟨h1,MO _⟩
 |frame n e hl hn=>rw[e,EgI _ _ Ji];omega
theorem EgJ{xs:List Int}(hb:U3 xs):(nx xs).b.length<=32/\U3 (nx xs).b:=by
 cases Cz xs hb with
 |wait e=>rw[e];exact⟨by simp[cL],by intro y hy;simp[cL] at hy⟩
 |qz c e _ hl=>rw[e];exact⟨by simp[jH],by intro y hy;simp[jH] at hy⟩
 |skip e h1=>rw[e];exact⟨by simp[jK],by intro y hy;simp[jK] at hy⟩
 |frame n e hl hn=>rw[e];exact⟨by simp[qx];omega,(hb.dr 3).tk n⟩
inductive Xh:List Int->List (Int×List Int)->List Int->Prop
 |wait {xs} (h:(nx xs).kd=0):Xh xs [] xs
 |step {xs its r} (h:(nx xs).kd≠0) (t:Xh (xs.drop (nx xs).sz) its r):Xh xs ((nx xs).item++its) r
theorem Xh.det{xs i r}(h:Xh xs i r): ∀{i' r'},Xh xs i' r'->i=i'/\r=r':=by
 induction h with
 |wait h=>
  intro i' r' k;cases k with
  |wait=>exact⟨O,O⟩
  |step h' _=>exact absurd h h'
 |step h t ih=>
  intro i' r' k;cases k with
  |wait h'=>exact absurd h' h
  |step _ t'=>obtain⟨rfl,rfl⟩:=ih t';exact⟨O,O⟩
theorem Xh.ex: ∀(n:Nat) (xs:List Int),xs.length<=n->U3 xs-> ∃i r,Xh xs i r
 |0,xs,h,_=>⟨[],xs,.wait (by have:xs=[]:=aF U;subst this;rfl)⟩
 |n+1,xs,h,hb=>by
  by_cases h0:(nx xs).kd=0;·exact⟨_,_,.wait h0⟩
  ·have hs:=MX hb h0;obtain⟨i,r,t⟩:=Xh.ex n (xs.drop (nx xs).sz) (by rw[mB];omega) (hb.dr _);exact⟨_,_,.step h0 t⟩
theorem Xh.left{xs i r}(h:Xh xs i r): ∃k,r=xs.drop k:=by
 induction h with
 |wait h=>exact⟨0,O⟩
 |step h t ih=>obtain⟨k,e⟩:=ih;exact⟨_,by rw[e,List.drop_drop]⟩
def YU(i:Int×List Int):Prop:=U3 i.2/\i.2.length<=32/\(i.1=0\/i.1=10\/i.1=11\/i.1=12)
theorem EgU{xs:List Int}(hb:U3 xs): ∀i∈(nx xs).item,YU i:=by
 intro i hi;have hbd:=EgJ hb;unfold cH.item at hi;split at hi;·simp at hi;subst hi;exact⟨hbd.2,hbd.1,.inl O⟩
 ·split at hi
  ·rename_i h3;simp at hi;subst hi;refine⟨by intro y hy;simp at hy,Eh,?_⟩;cases Cz xs hb with
   |wait e=>rw[e] at h3;cases h3
   |qz c e hc hl=>rw[e];exact .inr hc
   |skip e h1=>rw[e] at h3;cases h3
   |frame n e hl hn=>rw[e] at h3;cases h3
  ·simp at hi
theorem Xh.ok{xs i r}(h:Xh xs i r):U3 xs->(∀x∈i,YU x)/\U3 r:=by
 induction h with
 |wait h=>exact fun hb=>⟨Eh,hb⟩
 |step h t ih=>
  intro hb;obtain⟨h1,h2⟩:=ih (hb.dr _);refine⟨fun x hx=> ?_,h2⟩;rcases XM.1 hx with h3|h3;·exact EgU hb x h3
  ·exact h1 x h3
theorem Xh.len{xs i r}(h:Xh xs i r):U3 xs->i.length+r.length<=xs.length:=by
 induction h with
 |wait h=>exact fun hb=>Eh
 | @step xs its r h t ih=>
   intro hb;have h1:=ih (hb.dr _);have h2:=MX hb h;have h3:(nx xs).item.length<=1:=by unfold cH.item;split<;>(try split)<;>simp
   rw[IY];rw[mB] at h1;omega
inductive cM(g:Nat->Y)(k:Int):List (Int×List Int)->Ey->Ey->Nat->List Rec->Prop
 |nil (c:Ey):cM g k [] c c 0 []
 |cons {i:Int×List Int} {r:List (Int×List Int)} {c c1 c2:Ey} {m n:Nat} {a b:List Rec}:nC g k i.1 i.2 c c1 m a->cM g k r c1 c2 n b->cM g k (i::r) c c2 (m+n) (a++b)
theorem cM.snoc{its:List (Int×List Int)}(h:cM g k its c c1 m a){i:Int×List Int}{c2:Ey}{b:List Rec}(h2:nC g k i.1 i.2 c1 c2 n b):cM g k (its++[i]) c c2 (m+n) (a++b):=by
 induction h with
 |nil c=>simpa using cM.cons h2 (.nil _)
 |cons h1 t ih=>rw[List.cons_append,jj,XI];exact .cons h1 (ih h2)
theorem sR.len(h:sR g k l c c' new):new.length<=2:=by
 rcases h with⟨_,rfl⟩|⟨_,_,_,rfl⟩|⟨_,_,_,_,_,_,_,rfl⟩|⟨_,_,_,_,_,rfl⟩|⟨_,_,_,rfl⟩|⟨_,_,_,rfl⟩|⟨rfl,_⟩;·simp
 ·split<;>simp
 all_goals simp
theorem nC.len{xs:List Int}(h:nC g k code xs c c' m new):new.length<=2:=by
 rcases h with⟨_,_,_,rfl,_⟩|⟨_,_,_,_,rfl,_⟩|⟨_,_,_,_,h⟩;·simp
 ·simp
 ·exact h.len
theorem cM.len{its:List (Int×List Int)}(h:cM g k its c c1 m a):a.length<=its.length*2:=by
 induction h with
 |nil=>simp
 |cons h1 t ih=>have:=h1.len;simp only[IY,ZC];omega
structure JI where
 (kind src:Int)
 b:List Int
 valid:Bool
 (x0 x1 x2 x3:Int)
 give:Bool
 bad:Bool
def CY(g:Nat->Y)(e:JI)(c:Ey)(rs:Int->List Int)(c':Ey)(rs':Int->List Int)(m:Nat)(new:List Rec):Prop:=
 (e.kind=0/\1<=e.src/\e.src<=3/\ ∃its r,Xh (rs e.src++e.b) its r/\rs'=(fun s=>if s=e.src then r else rs s)/\cM g e.src its c c' m new)
 \/(e.kind=1/\rs'=rs/\qn c c' new)
 \/(e.kind=2/\rs'=rs/\qo e.bad c c' new)
 \/(e.kind=3/\rs'=rs/\Cs c c' new)
 \/((e.kind≠1/\e.kind≠2/\e.kind≠3/\(e.kind=0-> ¬(1<=e.src/\e.src<=3)))/\rs'=rs/\c'=c/\m=0/\new=[])
theorem EQ.EgX{T:EQ}(i:Nat){s:Jm}(ho:s.on=(T.E4 i).on)(hr:s.r=(T.E4 i).r)(x:Int):(T.put i s).UV x=T.UV x/\(T.put i s).Zk x=T.Zk x:=by
 have hs: ∀j,((T.put i s).E4 j).on=(T.E4 j).on/\((T.put i s).E4 j).r=(T.E4 j).r:=by
  intro j;match i,j,ho,hr with
  |0,0,ho,hr=>exact⟨ho,hr⟩
  |0,1,_,_=>exact⟨O,O⟩
  |0,_+2,_,_=>exact⟨O,O⟩
  |1,0,_,_=>exact⟨O,O⟩
  |1,1,ho,hr=>exact⟨ho,hr⟩
  |1,_+2,_,_=>exact⟨O,O⟩
  |_+2,0,_,_=>exact⟨O,O⟩
  |_+2,1,_,_=>exact⟨O,O⟩
  |_+2,_+2,ho,hr=>exact⟨ho,hr⟩
 have hn:(T.put i s).X_=T.X_:=by match i with|0=>rfl|1=>rfl|_+2=>rfl
 unfold EQ.UV EQ.Zk;rw[hn,(hs _).1,(hs _).2];exact⟨O,O⟩
theorem YX(T:EQ)(k:Int)(xs:List Int)(x:Int):(T.take k xs).tab.UV x=T.UV x/\(T.take k xs).tab.Zk x=T.Zk x:=by
 unfold EQ.take;split
 ·rename_i hc;split
  ·unfold ai;split;·exact⟨rfl,rfl⟩
   ·split;·exact⟨rfl,rfl⟩
    ·split;·exact EQ.EgX (T:=T) (k-1).toNat (s:=⟨true,_,_,_,_,_⟩) hc.2.symm rfl x
     ·exact⟨rfl,rfl⟩
  ·exact⟨rfl,rfl⟩
 ·exact⟨rfl,rfl⟩
structure aw(c c':Ey):Prop where
 tok:c'.tok=c.tok
 q:c'.q=c.q
 mode:c'.mode=c.mode
 Em:c'.Em=c.Em
 pt:c'.pt=c.pt
 on: ∀i,c'.T.UV i=c.T.UV i
 role: ∀i,c'.T.Zk i=c.T.Zk i
theorem aw.refl(c:Ey):aw c c:=⟨O,O,O,O,O,fun _=>rfl,fun _=>rfl⟩
theorem aw.trans{a b:Ey}(h:aw a b)(k:aw b c):aw a c:=
 ⟨k.tok.trans h.tok,k.q.trans h.q,k.mode.trans h.mode,k.Em.trans h.Em,k.pt.trans h.pt,fun i=>(k.on i).trans (h.on i),fun i=>(k.role i).trans (h.role i)⟩
theorem aw.act(h:aw c c'):Jo c'=Jo c:=by unfold Jo;rw[h.mode,h.Em,h.pt]
def C_(new:List Rec):Prop:= ∀x∈new,x.k=1
theorem EgZ{xs:List Int}(w:nC g k code xs c c' m new)(h:C_ new):aw c c':=by
 rcases w with⟨_,rfl,_,_,_⟩|⟨_,_,kd,_,rfl,rfl|⟨rfl,T',rfl⟩⟩|⟨_,_,_,_,w⟩;·exact .refl _
 ·exact .refl _
 ·exact EnG
 ·have s1:aw c {c with T:=(c.T.take k xs).tab}:=⟨O,O,O,O,O,fun i=>(YX c.T k xs i).1,fun i=>(YX c.T k xs i).2⟩;rcases w with⟨rfl,rfl⟩|⟨_,_,rfl,rfl⟩|⟨_,_,_,_,_,_,rfl,rfl⟩|⟨_,kd,_,hkd,rfl,rfl⟩|⟨_,_,rfl,rfl⟩|⟨_,_,rfl,rfl⟩|⟨rfl,_⟩;·exact s1
  ·exact absurd (h _ (List.mem_append_right _ (cF.2 rfl))) Eh
  ·exact EnG
  ·have:=h _ (cF.2 rfl);simp only at this;omega
  ·exact EnG
  ·exact EnG
  ·exact EnG
theorem Ega{its:List (Int×List Int)}(w:cM g k its c c' m new):C_ new->aw c c':=by
 induction w with
 |nil=>exact fun _=> .refl _
 |cons h1 t ih=>exact fun h=>(EgZ h1 fun x hx=>h x (k_ _ hx)).trans (ih fun x hx=>h x (List.mem_append_right _ hx))
theorem Egb{e:JI}(w:CY g e c rs c' rs' m new)(hk:e.kind=0)(h:C_ new):aw c c':=by
 rcases w with⟨_,h1,h2,its,r,_,_,w⟩|⟨h1,_⟩|⟨h1,_⟩|⟨h1,_⟩|⟨_,_,rfl,_,rfl⟩;·exact Ega w h
 ·omega
 ·omega
 ·omega
 ·exact .refl _
def cV(g:Nat->Y)(t:EK):Prop:=0<=t.o->t.om=max (pn g 44) 0
theorem cV.say(h:cV g c.tok)(w:sR g k l c c' new):cV g c'.tok/\c.tok.e<=c'.tok.e:=by
 rcases w with⟨rfl,rfl⟩|⟨_,_,rfl,rfl⟩|⟨L',t2,hw,Ekp,te,hto,rfl,rfl⟩|⟨_,_,_,_,rfl,rfl⟩|⟨h1,h2,rfl,rfl⟩|⟨h1,h2,rfl,rfl⟩|⟨rfl,rfl|⟨p,hp,rfl⟩⟩;·exact Eol
 ·show cV g (c.tok.drop k).1/\c.tok.e<=(c.tok.drop k).1.e;unfold EK.drop;split;·exact⟨h,Zo _⟩
  ·exact⟨fun h=>by simp[EK.end_] at h,Zo _⟩
 ·exact Eoh
 ·exact Eol
 ·exact⟨fun h=>by simp[EK.end_] at h,Zo _⟩
 ·exact⟨fun _=>rfl,Zo _⟩
 ·exact Eol
 ·exact Eol
theorem cV.item{xs:List Int}(h:cV g c.tok)(w:nC g k code xs c c' m new):cV g c'.tok/\c.tok.e<=c'.tok.e:=by
 rcases w with⟨_,rfl,_,_,_⟩|⟨_,_,_,_,_,rfl|⟨_,_,rfl⟩⟩|⟨_,_,_,_,w⟩;·exact Eol
 ·exact Eol
 ·exact Eol
 ·exact cV.say (c:={c with T:=(c.T.take k xs).tab}) h w
theorem cV.items{its:List (Int×List Int)}(w:cM g k its c c' m new):cV g c.tok->cV g c'.tok/\c.tok.e<=c'.tok.e:=by
 induction w with
 |nil=>exact fun h=>⟨h,Zo _⟩
 |cons h1 _ ih=>exact fun h=>⟨(ih (h.item h1).1).1,Int.le_trans (h.item h1).2 (ih (h.item h1).1).2⟩
theorem cV.step{e:JI}(h:cV g c.tok)(w:CY g e c rs c' rs' m new):cV g c'.tok/\c.tok.e<=c'.tok.e:=by
 rcases w with⟨_,h1,h2,its,r,_,_,w⟩|⟨_,_,w⟩|⟨_,_,w⟩|⟨_,_,w⟩|⟨_,_,rfl,_,rfl⟩;·exact cV.items w h
 ·obtain⟨a,b,T1,⟨rfl,rfl⟩|w⟩:=w;·exact⟨h,Zo _⟩
  ·rcases w with⟨_,_,rfl,_⟩|⟨_,t2,_,_,te,hto,rfl,rfl⟩|⟨rfl,p,hp,rfl⟩;·exact⟨h,Zo _⟩
   ·have te2:t2.e=c.tok.e+1:=te;exact Eoh
   ·exact Eol
 ·rcases w with⟨_,rfl,rfl⟩|⟨_,L',t2,md,_,hto,te,rfl,_⟩;·exact⟨h,Zo _⟩
  ·refine⟨fun h=> ?_,te⟩;have h2:0<=t2.o:=h;omega
 ·obtain⟨⟨w1,w2⟩,we,_⟩:=w;refine⟨fun h3=> ?_,we⟩;by_cases ho:0<=c.tok.o
  ·rcases w1 ho with⟨a1,a2,a3,a4,a5⟩|⟨a1,_⟩;·rw[a3];exact h ho
   ·omega
  ·have:=w2 U;omega
 ·exact Eol
section
open Go.ChangeShapes Go.Deep Go.WideShapes
theorem YZ{enc:EB×Y->Y9}{t:EB}{fs:Array Field}{x:DataW Y9×List MemPlace}(ht:P.underlying t=Z (.struct fs))(h:Zx enc P w 0 (fun _=>EI) EI n t cs=Z x): ∃m,cs.length=P.cellsOf t/\ ∀(i:Nat) (f:Field),fs[i]?=Z f-> ∃y,Zx enc P w 0 (fun _=>EI) EI m f.type ((cs.drop f.offset).take (P.cellsOf f.type))=Z y:=by
 obtain⟨xs,m,-,-,hl,hxl,hf⟩:=DataW.trod_struct ht h;refine⟨m,hl,fun i f hif=> ?_⟩
 have hi:i<fs.size:=by
  rcases JY i fs.size with h|h;·exact h
  ·rw[gQ h] at hif;cases hif
 exact⟨_,(hf i f hif).trans (J5 U)⟩
theorem Egd{enc:EB×Y->Y9}{t e:EB}{k:Nat}{x:DataW Y9×List MemPlace}(ht:P.underlying t=Z (.array k e))(h:Zx enc P w 0 (fun _=>EI) EI n t cs=Z x): ∃m,cs.length=P.cellsOf t/\ ∀(i:Nat),i<k-> ∃y,Zx enc P w 0 (fun _=>EI) EI m e ((cs.drop (i*P.cellsOf e)).take (P.cellsOf e))=Z y:=by obtain⟨xs,m,-,-,hl,hxl,hf⟩:=DataW.trod_array ht h;exact⟨m,hl,fun i hi=>⟨_,(hf i hi).trans (J5 U)⟩⟩
theorem Egf{enc:EB×Y->Y9}{t e:EB}{k:Nat}{kd:IntKind}{x:DataW Y9×List MemPlace}(ht:P.underlying t=Z (.array k e))(he:P.underlying e=Z (.int kd))(hc:P.cellsOf e=1)(hk:P.cellsOf t=k) (h:Zx enc P w 0 (fun _=>EI) EI n t cs=Z x): ∃l:List Int,l.length=k/\cs=l.map (E kd)/\ ∀z∈l,(Lit.int kd z).wf=EI:=by
 obtain⟨m,hl,hf⟩:=Egd ht h;rw[hk] at hl;rw[hc] at hf;have key: ∀i (hi:i<cs.length),∃z,cs[i]= .int kd z/\(Lit.int kd z).wf=EI:=by intro i hi;obtain⟨y,hy⟩:=hf i U;rw[Nat.mul_one,mg hi] at hy;obtain⟨z,e1,-,e3⟩:=DataW.trod_int he hy;simp only[Iq,Io,co,and_true] at e1;exact⟨z,e1,e3⟩
 refine⟨cs.map fun v=>match v with| .int _ z=>z|_=>0,by simp[hl],?_,?_⟩;·rw[List.map_map];refine List.ext_getElem Eh fun i h1 h2=> ?_;obtain⟨z,e1,-⟩:=key i h1;simp[e1]
 ·intro z hz;obtain⟨v,hv,rfl⟩:=dU.1 hz;obtain⟨i,hi,rfl⟩:=List.getElem_of_mem hv;obtain⟨z,e1,e3⟩:=key i hi;rw[e1];exact e3
theorem Ya{enc:EB×Y->Y9}{t:EB}{kd:IntKind}{x:DataW Y9×List MemPlace}(he:P.underlying t=Z (.int kd))(h:Zx enc P w 0 (fun _=>EI) EI n t cs=Z x): ∃z,cs=[.int kd z]/\(Lit.int kd z).wf=EI:=by obtain⟨z,e1,-,e3⟩:=DataW.trod_int he h;exact⟨z,e1,e3⟩
end
section
open Go.ChangeShapes Go.Deep Go.WideShapes
theorem Yb(b o i:Nat):(⟨b,o,X⟩:Eu).add i=⟨b,o+i,X⟩:=Xw
theorem DE{x:Int}(h:(Lit.int .i64 x).wf=EI):I9 x:=by unfold I9;exact Eo7
def JI.Y5(e:JI)(a:Option Eu)(c:Nat):List (List Y):=[[E I e.kind],[E I e.src],[G a e.b.length c],[EU e.valid,E I e.x0,E I e.x1,E I e.x2,E I e.x3,EU e.give],[EU e.bad]]
def JI.cells(e:JI)(a:Option Eu)(c:Nat):List Y:=(e.Y5 a c).flatten
structure JI.ok(e:JI):Prop where
 x0:I9 e.x0
 x1:I9 e.x1
 x2:I9 e.x2
 x3:I9 e.x3
structure tO(w:H)(e:JI)(a:Option Eu)(c:Nat):Prop where
 ok:e.ok
 row:Row w a e.b
 le:e.b.length<=c
 max:c<=9223372036854775807
theorem tO.V{w':H}{e:JI}{a:Option Eu}{c:Nat}(h:tO w e a c)(hb:El w w'):tO w' e a c:=
 ⟨h.ok,Ix h.row hb,h.le,h.max⟩
theorem Egg{enc:EB×Y->Y9}{x:DataW Y9×List MemPlace}(h:Zx enc Eb w 0 (fun _=>EI) EI n 46 cs=Z x): ∃(va gv:Bool) (x0 x1 x2 x3:Int),I9 x0/\I9 x1/\I9 x2/\I9 x3/\cs=[EU va,E I x0,E I x1,E I x2,E I x3,EU gv]:=by
 obtain⟨m,hl,hf⟩:=YZ Tryz.underlying46 h;rw[show Tryz.prog.cellsOf 46=6 from Ed] at hl;match cs,hl with
 |[c0,c1,c2,c3,c4,c5],_=>
  obtain⟨y0,h0⟩:=hf 0 _ O;have g0:Zx enc Eb w 0 (fun _=>EI) EI m 4 (([c0,c1,c2,c3,c4,c5].drop 0).take (Tryz.prog.cellsOf 4))=Z y0:=h0;rw[show Tryz.prog.cellsOf 4=1 from Ed] at g0;obtain⟨va,e0,-⟩:=DataW.trod_bool Tryz.underlying4 g0;simp only[IP,IH,Iq,Io,co,and_true] at e0;obtain⟨y1,h1⟩:=hf 1 _ O;have g1:Zx enc Eb w 0 (fun _=>EI) EI m 25 (([c0,c1,c2,c3,c4,c5].drop 1).take (Tryz.prog.cellsOf 25))=Z y1:=h1;rw[show Tryz.prog.cellsOf 25=4 from Ed] at g1;obtain⟨xl,hxl,ex,hw⟩:=Egf Tryz.underlying25 Tryz.underlying3 Ed Ed g1;obtain⟨y2,h2⟩:=hf 2 _ O;have g2:Zx enc Eb w 0 (fun _=>EI) EI m 4 (([c0,c1,c2,c3,c4,c5].drop 5).take (Tryz.prog.cellsOf 4))=Z y2:=h2;rw[show Tryz.prog.cellsOf 4=1 from Ed] at g2;obtain⟨gv,e2,-⟩:=DataW.trod_bool Tryz.underlying4 g2;simp only[IP,IH,Iq,Io,co,and_true] at e2;match xl,hxl with
  |[b0,b1,b2,b3],_=> simp only[IP,IH,Iq,Io,Uv,Xn,co,and_true] at ex;obtain⟨f0,f1,f2,f3⟩:=ex;exact⟨va,gv,b0,b1,b2,b3,DE (hw _ Eh),DE (hw _ Eh),DE (hw _ Eh),DE (hw _ Eh),by rw[e0,e2,f0,f1,f2,f3]⟩
theorem Egh(cs:List Y)(h:cs.length=10):cs=(cs.drop 0).take 1++((cs.drop 1).take 1++((cs.drop 2).take 1++((cs.drop 3).take 6++(cs.drop 9).take 1))):=by
 have st: ∀a n:Nat,cs.drop a=(cs.drop a).take n++cs.drop (a+n):=fun a n=>by rw[<-List.drop_drop,gT]
 have e7:cs.drop 9=(cs.drop 9).take 1:=by rw[OY (by rw[mB];omega)]
 rw[<-e7,<-st 3 6,<-st 2 1,<-st 1 1,<-st 0 1,IH]
theorem Egi{enc:EB×Y->Y9}{x:DataW Y9×List MemPlace}(h:Zx enc Eb w 0 (fun _=>EI) EI n 48 cs=Z x): ∃(e:JI) (a:Option Eu) (c:Nat),tO w e a c/\cs=e.cells a c:=by
 obtain⟨m,hl,hf⟩:=YZ Tryz.underlying48 h;rw[show Tryz.prog.cellsOf 48=10 from Ed] at hl;have sp:=Egh cs hl;obtain⟨y0,h0⟩:=hf 0 _ O;have g0:Zx enc Eb w 0 (fun _=>EI) EI m 3 ((cs.drop 0).take (Tryz.prog.cellsOf 3))=Z y0:=h0;rw[show Tryz.prog.cellsOf 3=1 from Ed] at g0;obtain⟨y1,h1⟩:=hf 1 _ O;have g1:Zx enc Eb w 0 (fun _=>EI) EI m 3 ((cs.drop 1).take (Tryz.prog.cellsOf 3))=Z y1:=h1;rw[show Tryz.prog.cellsOf 3=1 from Ed] at g1;obtain⟨y2,h2⟩:=hf 2 _ O;have g2:Zx enc Eb w 0 (fun _=>EI) EI m 23 ((cs.drop 2).take (Tryz.prog.cellsOf 23))=Z y2:=h2;rw[show Tryz.prog.cellsOf 23=1 from Ed] at g2;obtain⟨y3,h3⟩:=hf 3 _ O;have g3:Zx enc Eb w 0 (fun _=>EI) EI m 46 ((cs.drop 3).take (Tryz.prog.cellsOf 46))=Z y3:=h3;rw[show Tryz.prog.cellsOf 46=6 from Ed] at g3;obtain⟨y4,h4⟩:=hf 4 _ O;have g4:Zx enc Eb w 0 (fun _=>EI) EI m 4 ((cs.drop 9).take (Tryz.prog.cellsOf 4))=Z y4:=h4;rw[show Tryz.prog.cellsOf 4=1 from Ed] at g4;obtain⟨b0,e0,-⟩:=Ya Tryz.underlying3 g0;obtain⟨b1,e1,-⟩:=Ya Tryz.underlying3 g1;obtain⟨va,gv,x0,x1,x2,x3,i0,i1,i2,i3,e3⟩:=Egg g3;obtain⟨b4,e4,-⟩:=DataW.trod_bool Tryz.underlying4 g4
 obtain⟨a,l,c,e2⟩: ∃a l c,(cs.drop 2).take 1=[G a l c]:=by
  rcases open_slice bA g2 with⟨hcs,_⟩|⟨a,l,c,m,n,Y_,Pl,hcs,_⟩;·exact⟨_,_,_,hcs⟩
  ·exact⟨_,_,_,hcs⟩
 rw[e2] at g2;obtain⟨A,xs,cap,ev,r1,r2,r3,-⟩:=EUP (Ebt g2);obtain⟨rfl,rfl,rfl⟩:a=A/\l=xs.length/\c=cap:=by injection ev with a b c;exact⟨a,b,c⟩
 refine⟨⟨b0,b1,xs,va,x0,x1,x2,x3,gv,b4⟩,a,c,⟨⟨i0,i1,i2,i3⟩,r3,r1,r2⟩,?_⟩;rw[sp,e0,e1,e2,e3,e4];rfl
def tU(w:H)(v:Y):Prop:= ∃(A:Option Eu) (l c:Nat),v=G A l c/\(l=0\/ ∃b off,A=Z ⟨b,off,X⟩/\ ∀i,i<l-> ∃(e:JI) (a:Option Eu) (d:Nat),tO w e a d/\ ∀j,j<10->w.cell? ⟨b,off+i*10+j,X⟩=(e.cells a d)[j]?)
theorem mk_sl_api_Event{enc:EB×Y->Y9}{r:Reach}{v:Y}{d:DataW Y9}{p:List MemPlace} (h:Value.okWide Eb w r base 29 v) (hd:DataW.Trod enc Eb w 0 (fun _=>EI) EI 29 v d p):tU w v:=by
 obtain⟨a,len,cap,rfl⟩:=okWide_slice Tryz.underlying29 h;obtain⟨fuel,hf⟩:=hd;rcases open_slice Tryz.underlying29 hf with⟨hcs,-⟩|⟨x,l,c,m,n,Y_,Pl,hcs,-,hl,hm,hmm,-,hi⟩;·simp[Value.cells] at hcs;obtain⟨rfl,rfl,rfl⟩:=hcs;exact⟨X,0,0,O,.inl O⟩
 ·simp[Value.cells] at hcs;obtain⟨rfl,rfl,rfl⟩:=hcs;simp only[if_true] at hmm;subst hmm;rw[show Tryz.prog.cellsOf 48=10 from Ed] at hi;refine⟨Z x,len,m,O,?_⟩;have hc: ∀i,i<len-> ∃(e:JI) (a:Option Eu) (d:Nat),tO w e a d/\ ∀j,j<10->w.cell? ((x.add (i*10)).add j)=(e.cells a d)[j]?:=by intro i hil;obtain⟨cs',h1,h2⟩:=hi i U;obtain⟨e,a,d,ho,hcs⟩:=Egi h2;obtain⟨-,-,h3⟩:=World.cells?_some h1;exact⟨e,a,d,ho,fun j hj=>by rw[h3 j hj,hcs]⟩
  by_cases h0:len=0;·exact .inl h0
  ·have hx:x=⟨x.block,x.off,X⟩:=by
    obtain⟨e,a,d,-,hj⟩:=hc 0 U;have c0:=hj 0 U;have e1:(x.add (0*10)).add 0=x:=by simp[Addr.add]
    rw[e1] at c0;have:=World.cell?_spot (c0.trans (show(e.cells a d)[0]?=Z _ from rfl));cases x;simp_all
   refine .inr ⟨x.block,x.off,by rw[<-hx],fun i hil=> ?_⟩;obtain⟨e,a,d,ho,hj⟩:=hc i hil;refine⟨e,a,d,ho,fun j hjl=> ?_⟩;have h1:=hj j hjl;rw[hx,Yb,Yb] at h1;exact h1
end
end Go.Proofs.YtclmichaaiohjaaGreatDoor
