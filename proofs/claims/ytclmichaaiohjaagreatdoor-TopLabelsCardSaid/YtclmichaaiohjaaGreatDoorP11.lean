import Derived.Test.YtclmichaaiohjaaGreatDoorP10
import Derived.Deep.Slices
import Derived.Lib.BytesEntry
import Derived.OrdersIn
import Derived.RangeFuncLeaves
import Derived.RangeFuncNested
set_option maxRecDepth 100000
set_option linter.unusedVariables false
set_option linter.unusedSimpArgs false
set_option maxHeartbeats 6400000
namespace Go.Proofs.YtclmichaaiohjaaGreatDoor
open RowKit
open _root_.Array renaming getElem?_eq_some_iff->Ja
open Bool renaming true->G,false->Y
open Go renaming World->H,Calls->Ef,TypeId->Ez,Value->M,Addr->Et,bodyPost_ret->EQ,Oper->EK,below_setRow->E2
open Ending renaming returned->Eg
open IntKind renaming i64->I,u8->IB
open Lib renaming hid->J
open Obj renaming cells->EI
open Go.Proofs.Tryz renaming prog->EJ
open Region renaming wanted->IQ
open RowKit renaming Hid->Ea
open RowKit.Below renaming refl->E6
open Value renaming bool->Eb,int->E,agg->EU,slice->u,tuple->Es,pointer->V
open List renaming take_succ_cons->Il,take_zero->Ij,length_append->IL,drop_succ_cons->Iz,drop_zero->Ix
open Nat renaming le_trans->Ey,le_refl->E5
open Option renaming some->X,none->Z
variable{lo gc gq gt gs base n m id:Nat}{g:Nat->M}{c c' c1:EA}{rs rs':Int->List Int}{W w0:H}{A:Option Et}{new all:List Rec}{t t' t1:EL}{k code:Int}{a a0:Act}{l:List EK}{Y9:Type}{P:Program}{cs:List M}{o o0:EK}{F:Fence}{K:Act->H->Prop}
def EL.v7(t:EL):List M:=[E I t.h,E I t.e,E I t.o,E I t.oa,E I t.om,E I t.la,E I t.lm]
theorem E4.Eb3{hi:Nat}{ns:Nat}{rs:List Rec}(S:E4 lo hi g gc gq gt gs c ns rs W)(b:Bool):E4 lo hi g gc gq gt gs {c with tok:={c.tok with bad:=b}} ns rs (W.setCell ⟨gc,63,Z⟩ (Eb b))/\Ev lo hi W (W.setCell ⟨gc,63,Z⟩ (Eb b)):=
 S.set (OH _ _) O O (S.core.ok.ZZ ⟨S.core.ok.tok.h,S.core.ok.tok.e,S.core.ok.tok.o,S.core.ok.tok.oa,S.core.ok.tok.om,S.core.ok.tok.la,S.core.ok.tok.lm,S.core.ok.tok.off⟩) fun d0 d1 d2 hd K o0 o1 o2=>by
  have hl: ∀x:Bool,(ZJ (EH 56 g).toList {c with tok:={c.tok with bad:=x}} gq gt d0 d1 d2 hd).flatten=((EH 56 g).toList++c.tok.v7)++([Value.bool x]++(ZJ (EH 56 g).toList c gq gt d0 d1 d2 hd).tail.tail.flatten):=fun x=>by simp[ZJ,EL.v,EL.v7]
  have K2:D W gc (((EH 56 g).toList++c.tok.v7)++([Value.bool c.tok.bad]++(ZJ (EH 56 g).toList c gq gt d0 d1 d2 hd).tail.tail.flatten)).toArray 120:=by rw[<-hl];exact K
  have K3:=Xg (post:=(ZJ (EH 56 g).toList c gq gt d0 d1 d2 hd).tail.tail.flatten) [Eb b] [Eb c.tok.bad] ((EH 56 g).toList++c.tok.v7) 63 W K2 O (by rw[IL,Jj];rfl);rw[<-hl] at K3;exact K3
theorem yI{w:H}{c i:Nat}{L:List One}{x:One}(h:w.ownsRow base 133 4 (u A n c) n (Uc L))(hx:L[i]?=X x)(hn:L.length=n): ∃(g:Nat) (cur:Array M),A=X ⟨g,0,Z⟩/\D w g cur 133/\cur.extract (i*4) (i*4+4)= #[E I x.s,E I x.r,E I x.a,E I x.m]:=by
 have hi:=(List.getElem?_eq_some_iff.1 hx).1;obtain⟨h1,⟨-,h2⟩|⟨g,cap,cur,hv,hg,hh,hnc,hcm,hcs,ht⟩⟩:=h;·omega
 ·injection hv with e1;refine⟨g,cur,e1,hh,?_⟩;have hs:cur.toList.take (n*4)=Uc L:=ht
  have hsp:Uc L=Uc (L.take i)++([E I x.s,E I x.r,E I x.a,E I x.m]++Uc (L.drop (i+1))):=by
   conv=>lhs;rw[<-List.take_append_drop i L,List.drop_eq_getElem_cons hi]
   have ex:L[i]=x:=(List.getElem?_eq_some_iff.1 hx).2;simp[Uc,ex]
  have Eb4:cur.toList=Uc (L.take i)++([E I x.s,E I x.r,E I x.a,E I x.m]++(Uc (L.drop (i+1))++cur.toList.drop (n*4))):=by
   conv=>lhs;rw[<-List.take_append_drop (n*4) cur.toList,hs,hsp]
   simp
  have e:=Ci (Uc (L.take i)) [E I x.s,E I x.r,E I x.a,E I x.m] (Uc (L.drop (i+1))++cur.toList.drop (n*4)) (i*4) 4 (by rw[EZG,List.length_take];omega) O;rw[<-Eb4] at e;simpa using e
theorem jK:ID EJ 133 4:=⟨⟨_,Tryz.underlying133,O⟩,Ec⟩
theorem yJ:Og EJ 133 #[E I 0,E I 0,E I 0,E I 0]:=by exact Eiz
def jL(b:Bool)(c c':EA)(new:List Rec):Prop:=
 (b=Y/\c'={c with tok:={c.tok with bad:=false}}/\new=[])
 \/(b=G/\ ∃L' t2 md,t2.ok/\t2.o= -1/\c.tok.e<=t2.e/\c'={c with tok:=t2,q:=L',mode:=md,El:=⟨2,4,0⟩,pt:=c.pt.hold ⟨2,4,0⟩}/\((new=[]/\c.tok.h=4)\/new=[⟨8,t2.h,0,t2.e,0,6⟩]))
theorem sP.len(h:sP c c' new):new.length<=1:=by rcases h with⟨_,_,_,_,_,rfl⟩|⟨_,_,_,_,_,_,_,_,_,_,_,_,rfl⟩<;>simp
theorem Eb5(lo hi:Nat)(g:Nat->M)(gc gq gt gs:Nat)(c:EA)(ns:Nat)(rs:List Rec)(bad:Bool)(w:H)(S:E4 lo hi g gc gq gt gs c ns rs w)(hn:ns<800000)(hl:rs.length<800000): Ef EJ 73 #[V (X ⟨gs,0,Z⟩),Eb bad] w fun e w'=>e=Eg (Es #[])/\(∃c' m new,m<=9/\E4 lo hi g gc gq gt gs c' (ns+m) (rs++new) w'/\jL bad c c' new)/\Ev lo hi w w':=by
 obtain⟨md,hmd,yE⟩:=S.core.U8.fit 40 U U;have sR:Ea (0<=(md:Int)/\(md:Int)<=4):=J Rx;have oY:Ea (∀c ns rs W,E4 lo hi g gc gq gt gs c ns rs W->W.cell? ⟨gc,40,Z⟩=X (E I (md:Int))):=J (fun c ns rs W s=>by have h:W.cell? ⟨gc,40,Z⟩=(EH 56 g).toList[40]?:=s.core.cell 0 rfl 40 Ek;rw[h,show(EH 56 g).toList[40]?=X (g 40) from gK,hmd]);clear hmd yE;have pJ:=sR;have S1:=J S;have HN:=J hn;have HL:=J hl;have z0:=S1.out.Iu;have z63:w.cell? ⟨gc,63,Z⟩=X (Eb c.tok.bad):=S1.out.core.cell 1 rfl 7 XW;have zf:=oD S1.out.core 63;have SB:=S1.out.Eb3 bad;replace S1:Ea (E4 lo hi g gc gq gt gs {c with tok:={c.tok with bad:=bad}} ns rs (w.setCell ⟨gc,63,Z⟩ (Eb bad))):=J SB.1;have MM:Ea (Ev lo hi w (w.setCell ⟨gc,63,Z⟩ (Eb bad))):=J SB.2;have zz0:=S1.out.Iu;have Eb7:(w.setCell ⟨gc,63,Z⟩ (Eb bad)).cell? ⟨gc,56,Z⟩=X (E I c.tok.h):=S1.out.core.cell 1 rfl 0 XW;obtain⟨tk,htk⟩:=En ({c.tok with bad:=bad}:EL);have HE:Ea (tk.e=c.tok.e/\tk.h=c.tok.h):=J (by rw[htk];exact⟨O,O⟩);rw[<-htk] at S1;have fF:=J htk;have CZ:=J<|fun W=>qO tk W (by have h:0<=tk.e/\tk.e<=65535:=S1.out.core.ok.tok.e;omega);obtain⟨Ik,OD,Un,XE⟩: ∃Ik,tk.a=EU Ik/\Ea (Ik.size=8)/\Ea (tk.v.toArray=Ik):=⟨_,O,J O,J O⟩;obtain⟨t2,ht2⟩:=En tk.ZK;have HT2:Ea (t2.ok/\t2.o= -1/\tk.e<=t2.e):=J (by rw[ht2];exact Ru S1.out.core.ok.tok);rw[<-ht2,OD] at CZ;obtain⟨rv,Iy,RS,RO⟩:=Xw t2;rw[Iy] at CZ;have X0:Ea (rv.toList=t2.v):=J Fl;have RS:=J RS;have RO:=J RO;have OC:=J Iy;obtain⟨big,iz,OY⟩:=aD S1.out.core;have iz:=J iz;have aF:Ea (big.extract 56 (56+8)=Ik):=J<|(OY 1 tk.v O).trans XE.out;clear S hn hl sR SB htk OD ht2 Iy OY;go_enter Tryz.func73,Tryz.ntmps73;cases bad with
 |false=> go_wp2_with fail;refine EQ (results_none O _ _ _) O ?_;rw[fF.out] at S1;first|exact⟨rfl,⟨_,0,[],U,pO,.inl ⟨rfl,rfl,rfl⟩⟩,MM.out⟩|exact⟨rfl,⟨_,0,U,[],pO,.inl ⟨rfl,rfl,rfl⟩⟩,MM.out⟩
 |true=>
  go_wp2_with (with_reducible refine wM (off:=56) (cs:=Ik) EP iz ?_ (hn:=Un.out) (he:=aF.out));clear z0 z63 zf zz0 Eb7 iz aF;generalize w.setCell ⟨gc,63,Z⟩ (Eb G)=w5 at*;(with_reducible refine(CZ.out _).mono ?_);rintro e6 w6 ⟨rfl,b6⟩;replace S1:=J<|S1.out.B b6;replace MM:=J<|MM.out.trans (Ev.Eu b6);clear b6 CZ;have K0:=J<|D.new w6 #[E I 0,E I 0,E I 0,E I 0,E I 0,E I 0,E I 0,Eb Y] 109;have b2:=Eo w6 (EI #[E I 0,E I 0,E I 0,E I 0,E I 0,E I 0,E I 0,Eb Y] 109);go_wp2_with (with_reducible first|refine wA ig ?_|refine wS (cs:=rv) EP K0 (Ed.mk ?_) (hn:=RS.out) (h1:=RO.out));refine Ed.in ?_;obtain⟨b,hgm⟩:=En w6.heap.size;rw[<-hgm] at K0⊢;generalize w6.alloc (EI #[E I 0,E I 0,E I 0,E I 0,E I 0,E I 0,E I 0,Eb Y] 109)=w7 at*;have KB:=J<|K0.out.setRow rv;have b3:=E2 (g:=b) b2 (Nat.le_of_eq hgm.symm) rv;generalize w7.setRow b rv=w8 at*;clear K0 b2 hgm;replace S1:=J<|S1.out.B b3;replace MM:=J<|MM.out.trans (Ev.Eu b3);clear b3;have z0:=S1.out.Iu;have z56:w8.cell? ⟨gc,56,Z⟩=X (E I tk.h):=S1.out.core.cell 1 rfl 0 XW;obtain⟨hh,f_⟩:=En tk.h;rw[<-f_] at z56;have Fm:=J f_;clear f_;by_cases h4:hh=4
  ·have H4:=J h4;have t4:(hh !=4)=Y:=dX;clear h4;go_wp2_with fail;clear z0 z56;have y0: ∀y:Ext w8,(Ex w8 y).cell? ⟨gs,0,Z⟩=X (V (X ⟨gc,0,Z⟩)):=fun y=>(S1.out.B (EC y)).Iu;refine JB 7 Ec Ec ?_;simp only[Il,Ij,Iz,Ix]
   repeat (first
    |go_big_quiet_skip
    |(go_big_quiet_want
      first
       |(refine Oj (T:=109) (g:=b) EP _ rfl rfl KB ?_ ?_;(·exact RS.out);go_simp;go_big_quiet_on)
       |(go_big_quiet_op
         first
          |go_big_quiet_on
          |go_big_quiet_call (fail))))
   refine wpQuiet_nil ?_;intro _ hw';obtain⟨y9,rfl⟩:=hw';have El:=EC y9;replace KB:=EN KB El;replace S1:=J<|S1.out.B El;replace MM:=J<|MM.out.trans (Ev.Eu El);clear y0 El;generalize Ex w8 y9=w9 at*;have TH:=J<|aE S1.out.core 1 rfl 8 XW;go_wp2_with ((with_reducible refine JI 109 ?_);(with_reducible refine wpList_store_mid O 109 _ _ O gc 56 rv ?_ ?_ ?_ ?_ ?_ ?_);(·rfl);(·rfl);(·rw[RS.out];exact TH.out);(·rw[RS.out];exact EP.2);(·exact RO.out);refine Ed.mk ?_);refine Ed.in ?_;rw[X0.out];have S4:=S1.out.ZZ t2 (S1.out.core.ok.ZZ HT2.out.1);obtain⟨d0,d1,d2,hd,KG,-⟩:=S1.out.core.Em;replace KB:=J<|(JX (g:=gc) t2.v 56 w9).Em KB.out (E7 KB.out KG EZ);replace S1:=J S4.1;replace MM:=J<|MM.out.trans S4.2;clear S4 TH KG;generalize w9.setCells gc 56 t2.v=UD at*;obtain⟨L',hL'⟩:=En (c.q:List One);obtain⟨m,hm⟩:=En (0:Nat);obtain⟨new,hnew⟩:=En ([]:List Rec);have s10:E4 lo hi g gc gq gt gs {c with tok:=t2,q:=L'} (ns+m) (rs++new) UD:=by rw[hL',hm,hnew,List.append_nil];exact S1.out
   replace S1:=J s10;have HM:Ea (m<=3):=J U;have HO:=J<|show t2.o= -1/\c.tok.e<=t2.e from⟨HT2.out.2.1,Rz⟩;have mx:Ea ((new=[]/\c.tok.h=4)\/new=[⟨8,t2.h,0,t2.e,0,6⟩]):=J (.inl ⟨hnew,by rw[<-HE.out.2,<-Fm.out];exact H4.out⟩);clear s10 hL' hm hnew KB HT2 X0 OC RS RO fF HE Fm Un XE H4 t4;have z0:=S1.out.Iu;have z64:World.cell? _ ⟨gc,64,Z⟩=X (V (X ⟨gq,0,Z⟩)):=S1.out.core.cell 2 rfl 0 Ek;go_wp2_with fail;(with_reducible refine(P1 lo gq _ (pn g 48) _ S1.out.core.XV S1.out.core.ok.q).mono ?_);rintro e8 w8 ⟨⟨v8,rfl,o8⟩,b8⟩;obtain⟨A,c8,rfl,-⟩:=UL o8;have aA:=J<|fl L';have sT:=J S1.out.core.ok.q;obtain⟨n,hn⟩:=En L'.length;obtain⟨SL,sV⟩:=En (Js L');have sW:Ea (n<=3):=J (by rw[hn];exact sT.out);rw[<-hn,<-sV] at o8 aA;rw[<-hn];have OA:=J o8;replace S1:=J<|S1.out.B b8;replace MM:=J<|MM.out.trans (Ev.Eu b8);generalize World.heap _=hz at o8;clear o8 b8 z0 z64 hn sV sT;go_wp2_with fail;go_loopw[53] (fun y wr=> ∃(i:Nat) (L2:List One) (m2:Nat),i<=n/\y=E I i/\m2<=i/\E4 lo hi g gc gq gt gs {c with tok:=t2,q:=L2} (ns+m+m2) (rs++new) wr/\Ev lo hi w wr/\ ∃base,wr.ownsRow base 133 4 (u A n c8) n (Uc SL)) (fun y _=>n-(intOf y).toNat);case atStart=>exact⟨0,L',0,U,O,U,S1.out,MM.out,_,OA.out⟩
   case round=>
    obtain⟨i,L2,m2,yO,rfl,hm2,s9,m9,base,o9⟩:=hrel;replace S1:=J s9;replace MM:=J m9;replace OA:=J o9;have fV:=J hm2;clear s9 m9 o9 hm2;by_cases hlt:i<n
    ·have t1:decide ((i:Int)<(n:Int))=G:=Ia U;obtain⟨x,hx⟩: ∃x,SL[i]?=X x:=⟨SL[i]' Fo,List.getElem?_eq_getElem _⟩;obtain⟨gg,cur,rfl,ka,dP⟩:=yI OA.out hx aA.out;have KA:=J ka;have dQ:=J dP;clear ka dP hx;have K0:=J<|D.new wr #[E I 0,E I 0,E I 0,E I 0] 133;have b2:=Eo wr (EI #[E I 0,E I 0,E I 0,E I 0] 133);go_wp2_with (with_reducible first|refine wM (off:=i*4) (cs:= #[E I x.s,E I x.r,E I x.a,E I x.m]) jK KA ?_ (he:=dQ.out)|refine wA yJ ?_|refine wS (cs:= #[E I x.s,E I x.r,E I x.a,E I x.m]) jK K0 (Ed.mk ?_) (h1:=OP));refine Ed.in ?_;obtain⟨gx,hgx⟩:=En wr.heap.size;rw[<-hgx] at K0⊢;generalize wr.alloc (EI #[E I 0,E I 0,E I 0,E I 0] 133)=Xz at*;have KX:=J<|K0.out.setRow #[E I x.s,E I x.r,E I x.a,E I x.m];have b3:=E2 (g:=gx) b2 (Nat.le_of_eq hgx.symm) #[E I x.s,E I x.r,E I x.a,E I x.m];generalize Xz.setRow gx #[E I x.s,E I x.r,E I x.a,E I x.m]=J_ at*;clear K0 b2 hgx KA dQ;replace S1:=J<|S1.out.B b3;replace MM:=J<|MM.out.trans (Ev.Eu b3);replace OA:=J<|EW OA.out fun _ _ h=>D.B h b3;clear b3;go_wp2_with fail;have y0: ∀y:Ext J_,(Ex J_ y).cell? ⟨gs,0,Z⟩=X (V (X ⟨gc,0,Z⟩)):=fun y=>(S1.out.B (EC y)).Iu;have Fp: ∀y:Ext J_,(Ex J_ y).cell? ⟨gc,64,Z⟩=X (V (X ⟨gq,0,Z⟩)):=fun y=>(S1.out.B (EC y)).core.cell 2 rfl 0 Ek;have yx: ∀y:Ext J_,(Ex J_ y).cell? ⟨gx,0,Z⟩=X (E I x.s):=fun y=>(D.cell (D.B KX.out (EC y)) 0).trans O;refine JB 9 Ec Ec ?_;simp only[Il,Ij,Iz,Ix]
     repeat (first
      |go_big_quiet_skip
      |(go_big_quiet_want
        first
         |(go_big_quiet_op
           first
            |go_big_quiet_on
            |go_big_quiet_call (fail))))
     refine wpQuiet_nil ?_;exact Eh5
    ·obtain rfl:i=n:=U;have t1:decide ((i:Int)<(i:Int))=Y:=E9 U;go_wp2_with fail;have y0: ∀y:Ext wr,(Ex wr y).cell? ⟨gs,0,Z⟩=X (V (X ⟨gc,0,Z⟩)):=fun y=>(S1.out.B (EC y)).Iu;have sS: ∀y:Ext wr,(Ex wr y).cell? ⟨gc,40,Z⟩=X (E I (md:Int)):=fun y=>oY.out _ _ _ _ (S1.out.B (EC y));refine JB 10 Ec Ec ?_;simp only[Il,Ij,Iz,Ix]
     repeat (first
      |go_big_quiet_skip
      |(go_big_quiet_want
        first
         |(go_big_quiet_op
           first
            |go_big_quiet_on
            |go_big_quiet_call (with_reducible refine X6 (sQ _)))))
     refine wpQuiet_nil ?_;exact Eiw
  ·have t4:(hh !=4)=G:=dX;clear h4;go_wp2_with (with_reducible refine wL EP KB ?_ (hn:=RS.out));have hgo:=fun W s=>ju lo hi g gc gq gt gs {c with tok:=tk} ns rs t2 6 0 W s HT2.out.1 JP Ju;rw[OC.out] at hgo;(with_reducible refine(hgo _ S1.out).mono ?_);rintro e7 UD ⟨rfl,⟨L',m,UV,sq,s7⟩,Uo⟩;replace S1:=J s7;replace MM:=J<|MM.out.trans Uo;have HM:Ea (m<=3):=J U;obtain⟨new,hnew⟩:=En ([⟨8,t2.h,0,t2.e,0,6⟩]:List Rec);rw[<-hnew] at S1;have HO:=J<|show t2.o= -1/\c.tok.e<=t2.e from⟨HT2.out.2.1,Rz⟩;have mx:Ea ((new=[]/\c.tok.h=4)\/new=[⟨8,t2.h,0,t2.e,0,6⟩]):=J (.inr hnew);clear s7 Uo sq UV KB z0 z56 hgo hnew HT2 X0 OC RS RO fF HE Fm Un XE t4;have z0:=S1.out.Iu;have z64:World.cell? _ ⟨gc,64,Z⟩=X (V (X ⟨gq,0,Z⟩)):=S1.out.core.cell 2 rfl 0 Ek;go_wp2_with fail;(with_reducible refine(P1 lo gq _ (pn g 48) _ S1.out.core.XV S1.out.core.ok.q).mono ?_);rintro e8 w8 ⟨⟨v8,rfl,o8⟩,b8⟩;obtain⟨A,c8,rfl,-⟩:=UL o8;have aA:=J<|fl L';have sT:=J S1.out.core.ok.q;obtain⟨n,hn⟩:=En L'.length;obtain⟨SL,sV⟩:=En (Js L');have sW:Ea (n<=3):=J (by rw[hn];exact sT.out);rw[<-hn,<-sV] at o8 aA;rw[<-hn];have OA:=J o8;replace S1:=J<|S1.out.B b8;replace MM:=J<|MM.out.trans (Ev.Eu b8);generalize World.heap _=hz at o8;clear o8 b8 z0 z64 hn sV sT;go_wp2_with fail;go_loopw[53] (fun y wr=> ∃(i:Nat) (L2:List One) (m2:Nat),i<=n/\y=E I i/\m2<=i/\E4 lo hi g gc gq gt gs {c with tok:=t2,q:=L2} (ns+m+m2) (rs++new) wr/\Ev lo hi w wr/\ ∃base,wr.ownsRow base 133 4 (u A n c8) n (Uc SL)) (fun y _=>n-(intOf y).toNat);case atStart=>exact⟨0,L',0,U,O,U,S1.out,MM.out,_,OA.out⟩
   case round=>
    obtain⟨i,L2,m2,yO,rfl,hm2,s9,m9,base,o9⟩:=hrel;replace S1:=J s9;replace MM:=J m9;replace OA:=J o9;have fV:=J hm2;clear s9 m9 o9 hm2;by_cases hlt:i<n
    ·have t1:decide ((i:Int)<(n:Int))=G:=Ia U;obtain⟨x,hx⟩: ∃x,SL[i]?=X x:=⟨SL[i]' Fo,List.getElem?_eq_getElem _⟩;obtain⟨gg,cur,rfl,ka,dP⟩:=yI OA.out hx aA.out;have KA:=J ka;have dQ:=J dP;clear ka dP hx;have K0:=J<|D.new wr #[E I 0,E I 0,E I 0,E I 0] 133;have b2:=Eo wr (EI #[E I 0,E I 0,E I 0,E I 0] 133);go_wp2_with (with_reducible first|refine wM (off:=i*4) (cs:= #[E I x.s,E I x.r,E I x.a,E I x.m]) jK KA ?_ (he:=dQ.out)|refine wA yJ ?_|refine wS (cs:= #[E I x.s,E I x.r,E I x.a,E I x.m]) jK K0 (Ed.mk ?_) (h1:=OP));refine Ed.in ?_;obtain⟨gx,hgx⟩:=En wr.heap.size;rw[<-hgx] at K0⊢;generalize wr.alloc (EI #[E I 0,E I 0,E I 0,E I 0] 133)=Xz at*;have KX:=J<|K0.out.setRow #[E I x.s,E I x.r,E I x.a,E I x.m];have b3:=E2 (g:=gx) b2 (Nat.le_of_eq hgx.symm) #[E I x.s,E I x.r,E I x.a,E I x.m];generalize Xz.setRow gx #[E I x.s,E I x.r,E I x.a,E I x.m]=J_ at*;clear K0 b2 hgx KA dQ;replace S1:=J<|S1.out.B b3;replace MM:=J<|MM.out.trans (Ev.Eu b3);replace OA:=J<|EW OA.out fun _ _ h=>D.B h b3;clear b3;go_wp2_with fail;have y0: ∀y:Ext J_,(Ex J_ y).cell? ⟨gs,0,Z⟩=X (V (X ⟨gc,0,Z⟩)):=fun y=>(S1.out.B (EC y)).Iu;have Fp: ∀y:Ext J_,(Ex J_ y).cell? ⟨gc,64,Z⟩=X (V (X ⟨gq,0,Z⟩)):=fun y=>(S1.out.B (EC y)).core.cell 2 rfl 0 Ek;have yx: ∀y:Ext J_,(Ex J_ y).cell? ⟨gx,0,Z⟩=X (E I x.s):=fun y=>(D.cell (D.B KX.out (EC y)) 0).trans O;refine JB 9 Ec Ec ?_;simp only[Il,Ij,Iz,Ix]
     repeat (first
      |go_big_quiet_skip
      |(go_big_quiet_want
        first
         |(go_big_quiet_op
           first
            |go_big_quiet_on
            |go_big_quiet_call (fail))))
     refine wpQuiet_nil ?_;exact Eh5
    ·obtain rfl:i=n:=U;have t1:decide ((i:Int)<(i:Int))=Y:=E9 U;go_wp2_with fail;have y0: ∀y:Ext wr,(Ex wr y).cell? ⟨gs,0,Z⟩=X (V (X ⟨gc,0,Z⟩)):=fun y=>(S1.out.B (EC y)).Iu;have sS: ∀y:Ext wr,(Ex wr y).cell? ⟨gc,40,Z⟩=X (E I (md:Int)):=fun y=>oY.out _ _ _ _ (S1.out.B (EC y));refine JB 10 Ec Ec ?_;simp only[Il,Ij,Iz,Ix]
     repeat (first
      |go_big_quiet_skip
      |(go_big_quiet_want
        first
         |(go_big_quiet_op
           first
            |go_big_quiet_on
            |go_big_quiet_call (with_reducible refine X6 (sQ _)))))
     refine wpQuiet_nil ?_;exact Eiw
def Fq(t t':EL)(new:List Rec):Prop:=
 (0<=t.o->(t'.o=t.o/\t'.e=t.e/\t'.om=t.om/\t'.oa=sat t.oa t.om/\t'.oa<t.om)\/(t'.o<0/\ ∃x∈new,x.k=8\/(x.k=12/\x.s=t.o)))/\(t.o<0->t'.o<0)
def tJ(c c':EA)(new:List Rec):Prop:=
 Fq c.tok c'.tok new/\c.tok.e<=c'.tok.e/\(c'.El=c.El\/c'.El=⟨2,4,0⟩\/c'.El=⟨3,4,0⟩)/\ ∃b0:Oa,(b0=c.pt.b\/b0=⟨2,4,0⟩\/b0=⟨3,4,0⟩)/\(c'.pt.b=b0\/c'.pt.b=⟨4,b0.s,b0.q⟩)
def gI(t t':EL)(new:List Rec):Prop:=t'=t\/(0<=t.o/\t'=t.end_/\ ∃x∈new,x.k=12/\x.s=t.o)
theorem gI.app(h:gI t t' new)(r:List Rec):gI t t' (new++r):=by
 rcases h with h|⟨h1,h2,x,hx,h3⟩;·exact .inl h
 ·exact .inr ⟨h1,h2,x,List.mem_append_left _ hx,h3⟩
theorem gI.drop(h:gI t t' new)(s e:Int):gI t (t'.drop s).1 (new++if(t'.drop s).2 then [⟨12,s,0,e,16,0⟩] else []):=by
 by_cases hc:t'.o<0\/t'.o≠s
 ·have e1:t'.drop s=(t',Y):=by unfold EL.drop;rw[if_pos hc]
  rw[e1];exact h.app _
 ·have e1:t'.drop s=(t'.end_,G):=by unfold EL.drop;rw[if_neg hc]
  rw[e1];rcases h with h|⟨h1,h2,-⟩;·subst h;exact .inr ⟨U,O,_,List.mem_append_right _ (List.mem_singleton.2 rfl),O,by show s=t'.o;omega⟩
  ·exfalso;rw[h2] at hc;simp[EL.end_] at hc
theorem Eb8(t:EL):(t.o<0/\t.OM=(t,-1))\/(0<=t.o/\sat t.oa t.om<t.om/\t.OM=({t with oa:=sat t.oa t.om},-1))\/(0<=t.o/\t.OM.1.o= -1/\t.OM.1.e=t.e/\t.OM.2=t.o):=by
 unfold EL.OM;split;·exact .inl ⟨U,O⟩
 ·split;·exact .inr (.inl ⟨U,U,O⟩)
  ·exact .inr (.inr ⟨U,O,O,O⟩)
theorem R4(h:t.ok):t.OM.1.ok/\t.OM.1.e=t.e:=by
 have hs:0<=sat t.oa t.om/\sat t.oa t.om<=1000:=by have h1:=h.oa;have h2:=h.om;unfold sat;split<;>omega
 unfold EL.OM;split;·exact⟨h,O⟩
 ·split;·exact⟨⟨h.h,h.e,h.o,hs,h.om,h.la,h.lm,h.off⟩,O⟩
  ·exact⟨⟨h.h,h.e,br,br,br,h.la,h.lm,br⟩,O⟩
theorem Eb9(h:gI t t' new)(ht:t.ok):t'.e=t.e:=by rcases h with rfl|⟨-,rfl,-⟩<;>rfl
theorem R9{t3:EL}{new1:List Rec}(h1:gI t t1 new1)(h2: ∀x∈new1,x∈new)(hw:0<=t1.OM.2-> ∃x∈new,x.k=12/\x.s=t1.OM.2)(h3:(∃a m,t3=t1.OM.1.js a m)\/(t3.o= -1/\ ∃x∈new,x.k=8)):Fq t t3 new:=by
 rcases h3 with⟨a,m,rfl⟩|⟨ho,x,hx,hk⟩
 ·show Fq t (t1.OM.1.js a m) new;rcases h1 with rfl|⟨g1,rfl,x,hx,hk,hs⟩
  ·rcases Eb8 t1 with⟨h5,e5⟩|⟨h5,h6,e5⟩|⟨h5,h6,h7,h8⟩;·rw[e5];exact⟨fun h=>absurd h U,fun _=>h5⟩
   ·rw[e5];exact⟨fun _=> .inl ⟨O,O,O,O,h6⟩,fun h=>absurd h5 U⟩
   ·refine⟨fun _=> .inr ⟨by show t1.OM.1.o<0;omega,?_⟩,fun h=>absurd h5 U⟩;obtain⟨x,hx,hk,hs⟩:=hw U;exact⟨x,hx,.inr ⟨hk,U⟩⟩
  ·have e5:t.end_.OM=(t.end_,-1):=by unfold EL.OM;rw[if_pos br]
   rw[e5];exact⟨fun _=> .inr ⟨by simp[EL.js,EL.end_],x,h2 x hx,.inr ⟨hk,hs⟩⟩,fun h=>absurd g1 U⟩
 ·exact⟨fun _=> .inr ⟨U,x,hx,.inl hk⟩,fun _=>U⟩
theorem Eb_{x:One}(h:x.ok):(cy x).ok:=by refine⟨h.s,h.r,?_,h.m,h.n⟩;have h1:=h.a;have h2:=h.m;show 0<=sat x.a x.m/\sat x.a x.m<=1000;unfold sat;split<;>omega
theorem EA.ok.kept(h:c.ok):({c with q:=U9 (Js c.q)}:EA).ok:=by
 have pm:=P6 c.q;have hm: ∀x∈U9 (Js c.q),∃y∈c.q,x=cy y:=fun x hx=>by obtain⟨y,hy,e⟩:=List.mem_map.1 (List.mem_filter.1 hx).1;exact⟨y,pm.mem_iff.1 hy,e.symm⟩
 refine⟨h.tok,h.T,?_,fun x hx=> ?_,fun x hx=> ?_,?_,h.bU,h.fK,h.mode,h.El,h.pt,h.E3⟩;·show(U9 (Js c.q)).length<=3;have:=P7 (Js c.q);rw[fl] at this;have:=h.q;omega
 ·obtain⟨y,hy,rfl⟩:=hm x hx;exact Eb_ (h.ones y hy)
 ·obtain⟨y,hy,rfl⟩:=hm x hx;exact h.src y hy
 ·have h1:((Js c.q).map One.s).Nodup:=(pm.map One.s).nodup_iff.2 h.nd;have h2:(((Js c.q).map cy).map One.s)=(Js c.q).map One.s:=by rw[List.map_map];rfl
  show((U9 (Js c.q)).map One.s).Nodup;refine List.Sublist.nodup (List.Sublist.map _ (List.filter_sublist (l:=(Js c.q).map cy))) ?_;rw[h2];exact h1
theorem EcE{w:H}{c i:Nat}{L:List Int}{x:Int}(h:w.ownsRow base 3 1 (u A n c) n (aL L))(hx:L[i]?=X x)(hn:L.length=n): ∃(g:Nat),A=X ⟨g,0,Z⟩/\w.cell? ⟨g,i,Z⟩=X (E I x):=by
 have hi:=(List.getElem?_eq_some_iff.1 hx).1;obtain⟨h1,⟨-,h2⟩|⟨g,cap,cur,hv,hg,hh,hnc,hcm,hcs,ht⟩⟩:=h;·omega
 ·injection hv with e1;refine⟨g,e1,?_⟩;have hb:D w g cur 3:=hh;rw[D.cell hb,<-Array.getElem?_toList];have e:(cur.toList.take (n*1))[i]?=X (E I x):=by rw[ht];unfold aL;rw[List.getElem?_map,hx];rfl
  rw[List.getElem?_take_of_lt U] at e;exact e
def Pt.near(p:Pt)(r:Int)(b:Bool):Pt:=⟨p.c,p.a0,p.a1,p.a2,p.a3,Jf p.n0 p.a0 r,Jf p.n1 p.a1 r,Jf p.n2 p.a2 r,Jf p.n3 p.a3 r,⟨if b then p.b.r else 4,p.b.s,p.b.q⟩⟩
theorem R_(g:Nat->M)(r:Int)(hr:g 54=E I r)(ir:ZI r)(p:Pt)(hp:p.ok): ∃p':Pt,p'.ok/\(p'.b=p.b\/p'.b=⟨4,p.b.s,p.b.q⟩)/\ ∀W,Ef EJ 107 #[EU (EH 56 g),EU p.v.toArray] W fun e w'=>e=Eg (EU p'.v.toArray)/\Eh W w':=by
 refine⟨p.near r _,⟨hp.c,hp.a0,hp.a1,hp.a2,hp.a3,wQ hp.n0 hp.a0 ir,wQ hp.n1 hp.a1 ir,wQ hp.n2 hp.a2 ir,wQ hp.n3 hp.a3 ir⟩,?_,fun W=>EXs g p.c p.a0 p.a1 p.a2 p.a3 p.n0 p.n1 p.n2 p.n3 p.b.r p.b.s p.b.q r W hr ir hp.a0 hp.a1 hp.a2 hp.a3 hp.n0 hp.n1 hp.n2 hp.n3 _ O⟩;unfold Pt.near;split;·exact .inl O
 ·exact .inr O
theorem EcI(h:sP c c' new):new.length<=1:=h.len
theorem SE(h:c.ok):(Zu (Js c.q)).length<=3:=by have:=P8 (Js c.q);rw[fl] at this;have:=h.q;omega
theorem SI(hc:c.tok.ok){n1 n4:List Rec}{c4:EA}(h1:gI c.tok t1 n1)(h2: ∀x∈n1,x∈new)(hw:0<=t1.OM.2-> ∃x∈new,x.k=12/\x.s=t1.OM.2)(T1:EM)(KQ:List One){t2:EL}(ht2:t2=t1.OM.1)(h4: ∀x∈n4,x∈new)(hl:sP {c with T:=T1,tok:=t2,q:=KQ} c4 n4)(p':Pt)(hp:p'.b=c4.pt.b\/p'.b=⟨4,c4.pt.b.s,c4.pt.b.q⟩):tJ c {c4 with pt:=p'} new:=by
 subst ht2
 have ht1:t1.ok:=by
  rcases h1 with rfl|⟨-,rfl,-⟩;·exact hc
  ·exact Qx hc
 have e1:=Eb9 h1 hc;have e2:=(R4 ht1).2;rcases hl with⟨L',a,m,-,rfl,rfl⟩|⟨L',t3,how,md,b,-,ho,he,-,-,hb,rfl,rfl⟩;·exact⟨R9 h1 h2 hw (.inl ⟨a,m,O⟩),by show c.tok.e<=t1.OM.1.e;omega,.inl O,c.pt.b,.inl O,hp⟩
 ·refine⟨R9 h1 h2 hw (.inr ⟨ho,_,h4 _ (List.mem_singleton.2 rfl),O⟩),by show c.tok.e<=t3.e;have:t1.OM.1.e<=t3.e:=he;omega,?_,b,?_,hp⟩
  ·rcases hb with rfl|rfl;·exact .inr (.inl O)
   ·exact .inr (.inr O)
  ·rcases hb with rfl|rfl;·exact .inr (.inl O)
   ·exact .inr (.inr O)
theorem EcJ(lo hi:Nat)(g:Nat->M)(gc gq gt gs:Nat)(c:EA)(ns:Nat)(rs:List Rec)(w:H)(S:E4 lo hi g gc gq gt gs c ns rs w)(hn:ns<700000)(hl:rs.length<700000): Ef EJ 74 #[V (X ⟨gs,0,Z⟩)] w fun e w'=>e=Eg (Es #[])/\(∃c' m new,m<=15/\new.length<=13/\E4 lo hi g gc gq gt gs c' (ns+m) (rs++new) w'/\tJ c c' new)/\Ev lo hi w w':=by
 obtain⟨pr,hpr,SJ⟩:=S.core.U8.fit 54 U U;have SU:Ea (ZI (pr:Int)):=J (by have h2:=SJ.2.1;unfold Ub at h2;simp at h2;unfold ZI;omega);have SX:=J hpr;have HT:=J S.core.ok.tok;have S1:=J S;have HN:=J hn;have HL:=J hl;have MM:=J<|Ev.refl lo hi w;clear S hn hl hpr SJ;have z0:=S1.out.Iu;have oG:w.cell? ⟨gc,95,Z⟩=X (V (X ⟨gt,0,Z⟩)):=S1.out.core.cell 6 rfl 0 Ek;go_enter Tryz.func74,Tryz.ntmps74;go_wp2_with fail;(with_reducible refine(Ebz gt c.T _ S1.out.core.tab S1.out.core.ok.T S1.out.core.ok.E3).mono ?_);rintro e1 w1 ⟨⟨L,A,c0,T1,rfl,o1,hl4,hl3,kt,Sa,Sb⟩,ot⟩;have hS:=S1.out.su ot T1 kt (S1.out.core.ok.sr Sa Sb);replace S1:=J hS.1;replace MM:=J<|MM.out.trans hS.2;have OI:=J o1;obtain⟨n,hn⟩:=En L.length;rw[<-hn] at OI hl4⊢;have aA:=J hn.symm;have Sc:=J hl4;clear o1 hl4 hl3 kt Sa Sb ot hS hn z0 oG;go_wp2_with fail;go_loopw[17] (fun y wr=> ∃(i:Nat) (t1:EL) (L1:List One) (m1:Nat) (n1:List Rec),i<=n/\y=E I i/\m1<=2*i/\n1.length<=2*i/\E4 lo hi g gc gq gt gs {c with T:=T1,tok:=t1,q:=L1} (ns+m1) (rs++n1) wr/\gI c.tok t1 n1/\Ev lo hi w wr/\ ∃base,wr.ownsRow base 3 1 (u A n c0) n (aL L)) (fun y _=>n-(intOf y).toNat);case atStart=>exact⟨0,c.tok,c.q,0,[],U,O,U,Ek,pO,.inl O,MM.out,_,OI.out⟩
 case round=>
  obtain⟨i,t1,L1,m1,n1,yO,rfl,hm1,hn1,s9,ht1,m9,base,o9⟩:=hrel;replace S1:=J s9;replace MM:=J m9;replace OI:=J o9;have fT:=J hm1;have jM:=J hn1;have HT1:=J ht1;clear s9 m9 o9 hm1 hn1 ht1;by_cases hlt:i<n
  ·have t1':decide ((i:Int)<(n:Int))=G:=Ia U;obtain⟨x,hx⟩: ∃x,L[i]?=X x:=⟨L[i]' Fo,List.getElem?_eq_getElem _⟩;obtain⟨gg,rfl,cx⟩:=EcE OI.out hx aA.out;have hn4:=Sc.out;clear hx;go_wp2_with fail;(with_reducible refine(Xs lo hi g gc gq gt gs _ (ns+m1) _ 5 x 0 0 0 _ S1.out Sd).mono ?_);rintro e3 w3 ⟨rfl,s3,mO⟩;replace S1:=J s3;replace MM:=J<|MM.out.trans mO;replace OI:=J<|EW OI.out fun _ _ h=>mO.Em h EZ EZ;clear s3 mO cx;go_wp2_with fail;(with_reducible refine(Df x _).mono ?_);rintro e4 w4 ⟨rfl,rfl⟩;cases hlk:decide (1<=x/\x<=3) with
   |false=> clear hlk;go_wp2_with fail;refine⟨⟨i+1,t1,L1,m1,n1++[⟨5,x,0,t1.e,0,0⟩],U,Ek,oF,by rw[IL];have:=jM.out;simp;omega,by rw[<-List.append_assoc];exact S1.out,HT1.out.app _,MM.out,base,OI.out⟩,JN⟩
   |true=> clear hlk;go_wp2_with fail;(with_reducible refine(Qk lo hi g gc gq gt gs _ (ns+m1) _ x _ S1.out sh (by have:=HL.out;have:=jM.out;simp only[IL,List.length_singleton];omega)).mono ?_);rintro e5 w5 ⟨rfl,⟨L2,m5,pU,sq5,s5⟩,XB⟩;have S8:=J s5;replace MM:=J<|MM.out.trans XB;replace OI:=J<|EW OI.out fun _ _ h=>XB.Em h EZ EZ;have HM5:=J pU;clear s5 XB pU sq5;obtain⟨N,hN⟩:=En (if(t1.drop x).2 then [⟨12,x,0,t1.e,16,0⟩] else []:List Rec);have HNN:Ea (N.length<=1):=J (by rw[hN];split<;>simp);have Sf:=J<|(HT1.out.app [⟨5,x,0,t1.e,0,0⟩]).drop x t1.e;have h8:=S8.out;rw[<-hN] at Sf h8;have S9:=J h8;clear h8 hN S8;go_wp2_with fail;refine⟨⟨i+1,(t1.drop x).1,L2,m1+m5,(n1++[⟨5,x,0,t1.e,0,0⟩])++N,U,Ek,by have:=fT.out;have:=HM5.out;omega,by simp only[IL,List.length_singleton];have:=jM.out;have:=HNN.out;omega,?_,Sf.out,MM.out,base,OI.out⟩,JN⟩;rw[<-Nat.add_assoc,<-List.append_assoc,<-List.append_assoc];exact S9.out
  ·obtain rfl:i=n:=U;have t1':decide ((i:Int)<(i:Int))=Y:=E9 U;have z0:=S1.out.Iu;obtain⟨big,iz,OY⟩:=aD S1.out.core;have iz:=J iz;obtain⟨Ik,OD,Un,XE⟩: ∃Ik,t1.a=EU Ik/\Ea (Ik.size=8)/\Ea (t1.v.toArray=Ik):=⟨_,O,J O,J O⟩;have aF:Ea (big.extract 56 (56+8)=Ik):=J<|(OY 1 t1.v O).trans XE.out;have Sg:=fun W=>Yl t1 W (by have h:0<=t1.oa/\t1.oa<=1000:=S1.out.core.ok.tok.oa;omega) (by have h:0<=t1.om/\t1.om<=1000:=S1.out.core.ok.tok.om;omega);have Sh:=R4 S1.out.core.ok.tok;obtain⟨t2,ht2⟩:=En t1.OM.1;obtain⟨who,hwho⟩:=En t1.OM.2;have HT2:Ea t2.ok:=J (by rw[ht2];exact Sh.1);obtain⟨rv,Iy,RS,RO⟩:=Xw t2;have X0:Ea (rv.toList=t2.v):=J Fl;have CE:Ea (∀W g,D W g rv 109->W.cell? ⟨g,0,Z⟩=X (E I t2.h)):=J (fun W g K=>by have e:rv=Oo t2.h t2.e t2.o t2.oa t2.om t2.la t2.lm t2.bad:=QA;subst e;exact(D.cell K 0).trans O);have CO:Ea (∀W,Ef EJ 104 #[EU Ik] W fun x w'=>x=Eg (Es #[EU rv,E I who])/\Eh W w'):=J (fun W=>by have h:=Sg W;rw[<-ht2,<-hwho,Iy,OD] at h;exact h);have RS:=J RS;have RO:=J RO;have Si:=J ht2;have yU:=J hwho;clear OY Sg Sh OD ht2 hwho Iy OI;go_wp2_with (with_reducible refine wM (off:=56) (cs:=Ik) EP iz ?_ (hn:=Un.out) (he:=aF.out));(with_reducible refine(CO.out _).mono ?_);rintro e6 w6 ⟨rfl,b6⟩;replace S1:=J<|S1.out.B b6;replace MM:=J<|MM.out.trans (Ev.Eu b6);clear b6 z0 iz aF CO Un XE;have K0:=J<|D.new w6 #[E I 0,E I 0,E I 0,E I 0,E I 0,E I 0,E I 0,Eb Y] 109;have b2:=Eo w6 (EI #[E I 0,E I 0,E I 0,E I 0,E I 0,E I 0,E I 0,Eb Y] 109);go_wp2_with (with_reducible first|refine wA ig ?_|refine wS (cs:=rv) EP K0 (Ed.mk ?_) (hn:=RS.out) (h1:=RO.out));refine Ed.in ?_;obtain⟨b,hgm⟩:=En w6.heap.size;rw[<-hgm] at K0⊢;generalize w6.alloc (EI #[E I 0,E I 0,E I 0,E I 0,E I 0,E I 0,E I 0,Eb Y] 109)=w7 at*;have KB:=J<|K0.out.setRow rv;have b3:=E2 (g:=b) b2 (Nat.le_of_eq hgm.symm) rv;generalize w7.setRow b rv=w8 at*;clear K0 b2 hgm;replace S1:=J<|S1.out.B b3;replace MM:=J<|MM.out.trans (Ev.Eu b3);clear b3;go_wp2_with fail;have y0: ∀y:Ext w8,(Ex w8 y).cell? ⟨gs,0,Z⟩=X (V (X ⟨gc,0,Z⟩)):=fun y=>(S1.out.B (EC y)).Iu;refine JB 7 Ec Ec ?_;simp only[Il,Ij,Iz,Ix]
   repeat (first
    |go_big_quiet_skip
    |(go_big_quiet_want
      first
       |(refine Oj (T:=109) (g:=b) EP _ rfl rfl KB ?_ ?_;(·exact RS.out);go_simp;go_big_quiet_on)
       |(go_big_quiet_op
         first
          |go_big_quiet_on
          |go_big_quiet_call (fail))))
   refine wpQuiet_nil ?_;intro _ hw';obtain⟨y9,rfl⟩:=hw';have El:=EC y9;replace KB:=EN KB El;replace S1:=J<|S1.out.B El;replace MM:=J<|MM.out.trans (Ev.Eu El);clear y0 El;generalize Ex w8 y9=w9 at*;have TH:=J<|aE S1.out.core 1 rfl 8 XW;go_wp2_with ((with_reducible refine JI 109 ?_);(with_reducible refine wpList_store_mid O 109 _ _ O gc 56 rv ?_ ?_ ?_ ?_ ?_ ?_);(·rfl);(·rfl);(·rw[RS.out];exact TH.out);(·rw[RS.out];exact EP.2);(·exact RO.out);refine Ed.mk ?_);refine Ed.in ?_;rw[X0.out];have S4:=S1.out.ZZ t2 (S1.out.core.ok.ZZ HT2.out);obtain⟨d0,d1,d2,hd,KG,-⟩:=S1.out.core.Em;replace KB:=J<|(JX (g:=gc) t2.v 56 w9).Em KB.out (E7 KB.out KG EZ);replace S1:=J S4.1;replace MM:=J<|MM.out.trans S4.2;clear S4 TH KG;generalize w9.setCells gc 56 t2.v=UD at*;clear RS RO X0;have HNI:=Sc.out;by_cases tO:0<=who
   ·have t0':decide (0<=who)=G:=Ia tO;have cb:=CE.out _ _ KB.out;go_wp2_with fail;(with_reducible refine(lL lo hi g gc gq gt gs _ (ns+m1) _ t2.h who 30 _ S1.out sh).mono ?_);rintro e11 Zn ⟨rfl,⟨m11,EcZ,s11⟩,Sj⟩;replace S1:=J s11;replace MM:=J<|MM.out.trans Sj;clear s11 Sj cb KB;go_wp2_with fail;(with_reducible refine(Xs lo hi g gc gq gt gs _ _ _ 12 who 0 30 0 _ S1.out Sd).mono ?_);rintro e12 Xz ⟨rfl,s12,Sk⟩;obtain⟨m2,hm2⟩:=En (m1+m11);obtain⟨n2,hn2⟩:=En (n1++[⟨12,who,0,t2.e,30,0⟩]:List Rec);rw[Nat.add_assoc,<-hm2,List.append_assoc,<-hn2] at s12;replace S1:=J s12;replace MM:=J<|MM.out.trans Sk;have fV:Ea (m2<=9):=J oF;have Fr:Ea (n2.length<=9):=J (by rw[hn2,IL];have:=jM.out;simp;omega);have Fs:Ea (∀x∈n1,x∈n2):=J (fun x hx=>by rw[hn2];exact List.mem_append_left _ hx);have Sl:Ea (0<=t1.OM.2-> ∃x∈n2,x.k=12/\x.s=t1.OM.2):=J<|fun _=>⟨_,by rw[hn2];exact List.mem_append_right _ (List.mem_singleton.2 rfl),O,yU.out⟩;clear s12 Sk hm2 hn2 EcZ tO t0' fT jM yU CE;have z0:=S1.out.Iu;have z64:World.cell? _ ⟨gc,64,Z⟩=X (V (X ⟨gq,0,Z⟩)):=S1.out.core.cell 2 rfl 0 Ek;go_wp2_with fail;(with_reducible refine(P_ lo gq _ (pn g 48) _ S1.out.core.lq S1.out.core.XV S1.out.core.ok.q S1.out.core.ok.ones).mono ?_);rintro e8 w8 ⟨⟨v8,rfl,o8⟩,q8,m8⟩;obtain⟨A,c8,rfl,-⟩:=UL o8;have iA:=J<|SE S1.out.core.ok;have tU:=S1.out.core.ok.kept;replace S1:=J<|S1.out.cD m8 _ q8 tU;replace MM:=J<|MM.out.trans (m8.fM hi);obtain⟨GQ,my⟩:=En (Zu (Js L1));obtain⟨KQ,tX⟩:=En (U9 (Js L1));obtain⟨n,hn⟩:=En GQ.length;rw[<-my,<-hn] at iA o8;rw[<-tX] at S1;rw[<-my,<-hn];have iB:=J hn.symm;have OA:=J o8;clear o8 q8 m8 tU z0 z64 my tX hn;go_wp2_with fail;go_loopw[67] (fun y wr=> ∃(i m3:Nat) (n3:List Rec),i<=n/\y=E I i/\m3<=i/\n3.length<=i/\E4 lo hi g gc gq gt gs {c with T:=T1,tok:=t2,q:=KQ} (ns+m2+m3) (rs++(n2++n3)) wr/\Ev lo hi w wr/\ ∃base,wr.ownsRow base 133 4 (u A n c8) n (Uc GQ)) (fun y _=>n-(intOf y).toNat);case atStart=>exact⟨0,0,[],U,O,U,Ek,pO,MM.out,_,OA.out⟩
    case round=>
     obtain⟨i,m3,n3,yO,rfl,jv,tZ,s9,m9,base,o9⟩:=hrel;replace S1:=J s9;replace MM:=J m9;replace OA:=J o9;have mU:=J jv;have yX:=J tZ;clear s9 m9 o9 jv tZ;by_cases hlt:i<n;·exact EhW
     ·obtain rfl:i=n:=U;have t1':decide ((i:Int)<(i:Int))=Y:=E9 U;go_wp2_with fail;(with_reducible refine(Rv lo hi g gc gq gt gs _ (ns+m2+m3) _ _ S1.out yZ ya).mono ?_);rintro e20 gE ⟨rfl,⟨c4,m4,n4,tc,s20,dS⟩,td⟩;replace S1:=J s20;replace MM:=J<|MM.out.trans td;have So:=J tc;have iC:=J dS;clear s20 td tc dS OA;obtain⟨p',hpo,hpb,hca⟩:=R_ g pr SX.out SU.out c4.pt S1.out.core.ok.pt;have dB:=J hpo;have XK:=J hpb;have CN:=J hca;clear hpo hpb hca;go_wp2_with fail;obtain⟨d0,d1,d2,hd,KG,o0,o1,o2,-,-⟩:=S1.out.core.Em;have Up:=J<|J4 (c:=c4) (gq:=gq) (gt:=gt) (hd:=hd) (Jj g) o0 o1 o2 0 U;have dF:=J<|J4 (c:=c4) (gq:=gq) (gt:=gt) (hd:=hd) (Jj g) o0 o1 o2 11 U;have KG:=J KG;have PL:=J<|Jj g;have Ud:Ea ((EH 56 g).toList.toArray=EH 56 g):=J Ek;clear o0 o1 o2;have y0: ∀y:Ext gE,(Ex gE y).cell? ⟨gs,0,Z⟩=X (V (X ⟨gc,0,Z⟩)):=fun y=>(S1.out.B (EC y)).Iu;refine JB 21 Ec Ec ?_;simp only[Il,Ij,Iz,Ix]
      repeat (first
       |go_big_quiet_skip
       |(go_big_quiet_want
         first
          |(refine Xa (T:=28) (g:=gc) (off:=0) UZ _ rfl rfl KG 0 rfl Up.out PL.out ?_;(try rw[Ud.out]);go_simp;go_big_quiet_on)
          |(refine Xa (T:=50) (g:=gc) (off:=102) fS _ rfl rfl KG 11 rfl dF.out rfl ?_;(try rw[Ud.out]);go_simp;go_big_quiet_on)
          |(go_big_quiet_op
            first
             |go_big_quiet_on
             |go_big_quiet_call (with_reducible refine X6 (CN.out _)))))
      refine wpQuiet_nil ?_;exact Eh8
   ·have t0':decide (0<=who)=Y:=E9 tO;obtain⟨m2,hm2⟩:=En m1;obtain⟨n2,hn2⟩:=En (n1:List Rec);have s12:=S1.out;rw[<-hm2,<-hn2] at s12;replace S1:=J s12;have fV:Ea (m2<=9):=J oF;have Fr:Ea (n2.length<=9):=J (by rw[hn2];have:=jM.out;omega);have Fs:Ea (∀x∈n1,x∈n2):=J (fun x hx=>by rw[hn2];exact hx);have Sl:Ea (0<=t1.OM.2-> ∃x∈n2,x.k=12/\x.s=t1.OM.2):=J<|fun h=>absurd (by rw[yU.out];exact h) tO;clear s12 hm2 hn2 tO fT jM yU CE KB;have z0:=S1.out.Iu;have z64:World.cell? _ ⟨gc,64,Z⟩=X (V (X ⟨gq,0,Z⟩)):=S1.out.core.cell 2 rfl 0 Ek;go_wp2_with fail;(with_reducible refine(P_ lo gq _ (pn g 48) _ S1.out.core.lq S1.out.core.XV S1.out.core.ok.q S1.out.core.ok.ones).mono ?_);rintro e8 w8 ⟨⟨v8,rfl,o8⟩,q8,m8⟩;obtain⟨A,c8,rfl,-⟩:=UL o8;have iA:=J<|SE S1.out.core.ok;have tU:=S1.out.core.ok.kept;replace S1:=J<|S1.out.cD m8 _ q8 tU;replace MM:=J<|MM.out.trans (m8.fM hi);obtain⟨GQ,my⟩:=En (Zu (Js L1));obtain⟨KQ,tX⟩:=En (U9 (Js L1));obtain⟨n,hn⟩:=En GQ.length;rw[<-my,<-hn] at iA o8;rw[<-tX] at S1;rw[<-my,<-hn];have iB:=J hn.symm;have OA:=J o8;clear o8 q8 m8 tU z0 z64 my tX hn;go_wp2_with fail;go_loopw[67] (fun y wr=> ∃(i m3:Nat) (n3:List Rec),i<=n/\y=E I i/\m3<=i/\n3.length<=i/\E4 lo hi g gc gq gt gs {c with T:=T1,tok:=t2,q:=KQ} (ns+m2+m3) (rs++(n2++n3)) wr/\Ev lo hi w wr/\ ∃base,wr.ownsRow base 133 4 (u A n c8) n (Uc GQ)) (fun y _=>n-(intOf y).toNat);case atStart=>exact⟨0,0,[],U,O,U,Ek,pO,MM.out,_,OA.out⟩
    case round=>
     obtain⟨i,m3,n3,yO,rfl,jv,tZ,s9,m9,base,o9⟩:=hrel;replace S1:=J s9;replace MM:=J m9;replace OA:=J o9;have mU:=J jv;have yX:=J tZ;clear s9 m9 o9 jv tZ;by_cases hlt:i<n;·exact EhW
     ·obtain rfl:i=n:=U;have t1':decide ((i:Int)<(i:Int))=Y:=E9 U;go_wp2_with fail;(with_reducible refine(Rv lo hi g gc gq gt gs _ (ns+m2+m3) _ _ S1.out yZ ya).mono ?_);rintro e20 gE ⟨rfl,⟨c4,m4,n4,tc,s20,dS⟩,td⟩;replace S1:=J s20;replace MM:=J<|MM.out.trans td;have So:=J tc;have iC:=J dS;clear s20 td tc dS OA;obtain⟨p',hpo,hpb,hca⟩:=R_ g pr SX.out SU.out c4.pt S1.out.core.ok.pt;have dB:=J hpo;have XK:=J hpb;have CN:=J hca;clear hpo hpb hca;go_wp2_with fail;obtain⟨d0,d1,d2,hd,KG,o0,o1,o2,-,-⟩:=S1.out.core.Em;have Up:=J<|J4 (c:=c4) (gq:=gq) (gt:=gt) (hd:=hd) (Jj g) o0 o1 o2 0 U;have dF:=J<|J4 (c:=c4) (gq:=gq) (gt:=gt) (hd:=hd) (Jj g) o0 o1 o2 11 U;have KG:=J KG;have PL:=J<|Jj g;have Ud:Ea ((EH 56 g).toList.toArray=EH 56 g):=J Ek;clear o0 o1 o2;have y0: ∀y:Ext gE,(Ex gE y).cell? ⟨gs,0,Z⟩=X (V (X ⟨gc,0,Z⟩)):=fun y=>(S1.out.B (EC y)).Iu;refine JB 21 Ec Ec ?_;simp only[Il,Ij,Iz,Ix]
      repeat (first
       |go_big_quiet_skip
       |(go_big_quiet_want
         first
          |(refine Xa (T:=28) (g:=gc) (off:=0) UZ _ rfl rfl KG 0 rfl Up.out PL.out ?_;(try rw[Ud.out]);go_simp;go_big_quiet_on)
          |(refine Xa (T:=50) (g:=gc) (off:=102) fS _ rfl rfl KG 11 rfl dF.out rfl ?_;(try rw[Ud.out]);go_simp;go_big_quiet_on)
          |(go_big_quiet_op
            first
             |go_big_quiet_on
             |go_big_quiet_call (with_reducible refine X6 (CN.out _)))))
      refine wpQuiet_nil ?_;exact Eh8
theorem tf:Og EJ 124 #[V Z,u Z 0 0,u Z 0 0]:=by exact Eiz
theorem ti(gc:Nat):Tryz.prog.built 124 [(0,V (X ⟨gc,0,Z⟩))]=X #[V (X ⟨gc,0,Z⟩),u Z 0 0,u Z 0 0]:=Ec
theorem Ft:ID EJ 74 2:=⟨⟨_,Tryz.underlying74,O⟩,Ec⟩
theorem tj{hi:Nat}(C:Jz lo g gc gq gt c W)(K:D W gs #[V (X ⟨gc,0,Z⟩),u Z 0 0,u Z 0 0] 124)(hc:gc<hi)(hq:gq<hi)(ht:gt<hi)(hl:lo<=hi)(hs:hi<=gs):E4 lo hi g gc gq gt gs c 0 [] W:=
 ⟨C,hc,hq,ht,hl,hs,_,_,⟨[],fun _ h=>absurd h List.not_mem_nil⟩,K,World.ownsRow_nil _ _ _ _,World.ownsRow_nil _ _ _ _⟩
theorem Jz.jr(C:Jz lo g gc gq gt c W):gc<W.heap.size/\gq<W.heap.size/\gt<W.heap.size/\lo<=W.heap.size:=by obtain⟨_,_,_,_,k,_⟩:=C.Em;obtain⟨_,_,k2,_⟩:=C.XV;have kt:D W gt c.T.v.toArray 163:=C.tab;exact⟨k.lt,k2.lt,kt.lt,Ey C.lc (Nat.le_of_lt k.lt)⟩
def tp(lo hi:Nat)(g:Nat->M)(gc gq gt:Nat)(R:EA->Nat->List Rec->Prop)(w:H)(e:Ending)(w':H):Prop:=
 ∃(c':EA) (ns:Nat) (new:List Rec) (sv rv:M) (sc:oU) (hd:List Int),e=Eg (EU (I7 (JD c') sv rv hd).toArray)/\hd.length=32/\(∀x∈hd,0<=x/\x<=255)/\w'.ownsRow hi 264 2 sv ns sc.l/\w'.ownsRow hi 58 6 rv new.length (J1 new)/\Jz lo g gc gq gt c' w'/\R c' ns new/\Ev lo hi w w'
theorem dT(act:List M)(sv rv:M)(hd:List Int)(h1:act.length=12)(h:hd.length=32):(I7 act sv rv hd).toArray.size=46:=by simp[I7,h1,h]
theorem iD(c:EA)(A Y4:Option Et)(n m d f:Nat)(hd:List Int):(I7 (JD c) (u A n d) (u Y4 m f) hd).toArray.all (·.oneCell')=G:=by
 refine all_oneCell_toArray ?_;intro v hv;simp only[I7,JD,List.mem_append,List.mem_cons,List.not_mem_nil,or_false,List.mem_map] at hv;rcases hv with hv|(rfl|rfl)|⟨x,-,rfl⟩;·exact EmE
 ·rfl
 ·rfl
 ·rfl
theorem yd(lo:Nat)(g:Nat->M)(gc gq gt:Nat)(c:EA)(w:H)(C:Jz lo g gc gq gt c w): Ef EJ 53 #[V (X ⟨gc,0,Z⟩)] w fun e w'=>e=Eg (Eb G)/\w=w':=by have oG:w.cell? ⟨gc,95,Z⟩=X (V (X ⟨gt,0,Z⟩)):=C.cell 6 rfl 0 Ek;go_enter Tryz.func53,Tryz.ntmps53;exact Eh9
theorem Ecd(lo:Nat)(g:Nat->M)(gc gq gt:Nat)(c:EA)(w:H)(C:Jz lo g gc gq gt c w): Ef EJ 25 #[V (X ⟨gc,0,Z⟩)] w (tp lo w.heap.size g gc gq gt (fun c2 ns new=>c2=c/\ns=0/\new=[]) w):=by
 have C0:=J C;have LT:=J C.jr;have BS:=J<|ti gc;clear C;go_enter Tryz.func25,Tryz.ntmps25;go_wp2_with (with_reducible refine I2 5 ?_);refine Ed.in ?_;generalize hW:World.alloc _ _=w1 at*;have aI:Ea (∃z:Array M,z.size=46/\D w1 (w.heap.size) z 43):=J (by subst hW;exact⟨_,O,by first|exact D.new _ _ _|exact D.new' _ _ _ Ek⟩);have b1:Ea (Eh w w1):=J (by subst hW;(repeat (first|exact E6 _ _|(refine Below.alloc ?_ Io _)|(refine Below.setCell ?_ Io _))));clear hW;obtain⟨gz,hgz⟩:=En w.heap.size;obtain⟨hi,hhi⟩:=En w.heap.size;rw[<-hhi] at LT⊢;rw[<-hgz] at aI;rw[show(V (X ⟨hi,0,Z⟩))=V (X ⟨gz,0,Z⟩) by rw[hgz,hhi]];have HZ:=J (show hi<=gz/\w.heap.size<=gz/\hi=w.heap.size from U);have C1:=J<|C0.out.B b1.out;have LW:=J (show hi<=w1.heap.size from tr);have MM:=J<|Ev.Eu (lo:=lo) (hi:=hi) b1.out;clear b1 hgz hhi C0;have K0:=J<|D.new w1 #[V Z,u Z 0 0,u Z 0 0] 124;have b2:=Eo w1 (EI #[V Z,u Z 0 0,u Z 0 0] 124);go_wp2_with (first|((with_reducible refine In 5 ?_);refine IP rfl 124 _ rfl #[V (X ⟨gc,0,Z⟩),u Z 0 0,u Z 0 0] BS.out ?_)|(with_reducible refine wA tf ?_)|(with_reducible refine wS (cs:= #[V (X ⟨gc,0,Z⟩),u Z 0 0,u Z 0 0]) rD K0 (Ed.mk ?_) (h1:=OP)));refine Ed.in ?_;obtain⟨gs,hgs⟩:=En w1.heap.size;rw[<-hgs] at K0⊢;generalize w1.alloc (EI #[V Z,u Z 0 0,u Z 0 0] 124)=w2 at*;have KS:=J<|K0.out.setRow #[V (X ⟨gc,0,Z⟩),u Z 0 0,u Z 0 0];have b3:=E2 (g:=gs) b2 (Nat.le_of_eq hgs.symm) #[V (X ⟨gc,0,Z⟩),u Z 0 0,u Z 0 0];generalize w2.setRow gs #[V (X ⟨gc,0,Z⟩),u Z 0 0,u Z 0 0]=w3 at*;replace C1:=J<|C1.out.B b3;replace MM:=J<|MM.out.trans (Ev.Eu b3);have KZ:Ea (∃z:Array M,z.size=46/\D w3 gz z 43):=J tu;have SS:=J<|tj C1.out KS.out LT.out.1 LT.out.2.1 LT.out.2.2.1 LT.out.2.2.2 pX;clear K0 b2 hgs b3 aI KS LW;clear C1;go_wp2_with fail;(with_reducible refine(rG lo hi g gc gq gt gs c _ _ _ SS.out).mono ?_);rintro e6 w6 ⟨sv,rv,sc,hd,rfl,JA,J5,os,JS,b6⟩;obtain⟨z,hz,kz⟩:=KZ.out;have OE:=J<|D.B kz b6;have iF:=J hz;replace SS:=J<|SS.out.core.B b6;replace MM:=J<|MM.out.trans (Ev.Eu b6);have OS:=J os;have OR:=J JS;have HD:=J<|And.intro JA J5;obtain⟨A1,e1,rfl,-⟩:=UL os;obtain⟨A2,e2,rfl,-⟩:=UL JS;have TS:=J<|dT (JD c) (u A1 0 e1) (.slice A2 ([]:List Rec).length e2) hd O JA;have TO:=J<|iD c A1 A2 0 ([]:List Rec).length e1 e2 hd;obtain⟨tv,IE⟩: ∃tv,tv=(I7 (JD c) (u A1 0 e1) (.slice A2 ([]:List Rec).length e2) hd).toArray:=⟨_,O⟩;rw[<-IE] at TS TO⊢;have JM:=J IE;clear os JS JA J5 IE b6 kz hz KZ;go_wp2_with (with_reducible refine wS (cs:=tv) Xt OE ?_ (ho:=iF.out) (hn:=TS.out) (h1:=TO.out));refine EQ (Jb Xt O _ _ gz tv O (OE.out.setRow tv) TS.out) O ?_;have ho:=Od (g:=gz) (W:=w6) tv;have hz2:=HZ.out;obtain⟨hz3,cX,cZ⟩:=hz2;subst cZ;have hb:=ho.bel lo tx tz;refine⟨c,_,_,_,_,sc,hd,Zv,HD.out.1,HD.out.2,EW OS.out fun _ _ h=>ho.Em h (E7 h OE.out EZ),EW OR.out fun _ _ h=>ho.Em h (E7 h OE.out EZ),?_,⟨O,O,O⟩,?_⟩;·exact Ejq
 ·exact EkS
theorem Ecf(lo:Nat)(g:Nat->M)(gc gq gt:Nat)(c:EA)(w:H)(C:Jz lo g gc gq gt c w): Ef EJ 52 #[V (X ⟨gc,0,Z⟩)] w (tp lo w.heap.size g gc gq gt (fun c2 ns new=>ns<=15/\new.length<=13/\tJ c c2 new) w):=by
 have C0:=J C;have LT:=J C.jr;have BS:=J<|ti gc;clear C;go_enter Tryz.func52,Tryz.ntmps52;go_wp2_with (with_reducible refine I2 5 ?_);refine Ed.in ?_;generalize hW:World.alloc _ _=w1 at*;have aI:Ea (∃z:Array M,z.size=46/\D w1 (w.heap.size) z 43):=J (by subst hW;exact⟨_,O,by first|exact D.new _ _ _|exact D.new' _ _ _ Ek⟩);have b1:Ea (Eh w w1):=J (by subst hW;(repeat (first|exact E6 _ _|(refine Below.alloc ?_ Io _)|(refine Below.setCell ?_ Io _))));clear hW;obtain⟨gz,hgz⟩:=En w.heap.size;obtain⟨hi,hhi⟩:=En w.heap.size;rw[<-hhi] at LT⊢;rw[<-hgz] at aI;rw[show(V (X ⟨hi,0,Z⟩))=V (X ⟨gz,0,Z⟩) by rw[hgz,hhi]];have HZ:=J (show hi<=gz/\w.heap.size<=gz/\hi=w.heap.size from U);have C1:=J<|C0.out.B b1.out;have LW:=J (show hi<=w1.heap.size from tr);have MM:=J<|Ev.Eu (lo:=lo) (hi:=hi) b1.out;clear b1 hgz hhi C0;have K0:=J<|D.new w1 #[V Z,u Z 0 0,u Z 0 0] 124;have b2:=Eo w1 (EI #[V Z,u Z 0 0,u Z 0 0] 124);go_wp2_with (first|((with_reducible refine In 5 ?_);refine IP rfl 124 _ rfl #[V (X ⟨gc,0,Z⟩),u Z 0 0,u Z 0 0] BS.out ?_)|(with_reducible refine wA tf ?_)|(with_reducible refine wS (cs:= #[V (X ⟨gc,0,Z⟩),u Z 0 0,u Z 0 0]) rD K0 (Ed.mk ?_) (h1:=OP)));refine Ed.in ?_;obtain⟨gs,hgs⟩:=En w1.heap.size;rw[<-hgs] at K0⊢;generalize w1.alloc (EI #[V Z,u Z 0 0,u Z 0 0] 124)=w2 at*;have KS:=J<|K0.out.setRow #[V (X ⟨gc,0,Z⟩),u Z 0 0,u Z 0 0];have b3:=E2 (g:=gs) b2 (Nat.le_of_eq hgs.symm) #[V (X ⟨gc,0,Z⟩),u Z 0 0,u Z 0 0];generalize w2.setRow gs #[V (X ⟨gc,0,Z⟩),u Z 0 0,u Z 0 0]=w3 at*;replace C1:=J<|C1.out.B b3;replace MM:=J<|MM.out.trans (Ev.Eu b3);have KZ:Ea (∃z:Array M,z.size=46/\D w3 gz z 43):=J tu;have SS:=J<|tj C1.out KS.out LT.out.1 LT.out.2.1 LT.out.2.2.1 LT.out.2.2.2 pX;clear K0 b2 hgs b3 aI KS LW;go_wp2_with fail;(with_reducible refine(yd lo g gc gq gt c _ C1.out).mono ?_);rintro e4 w4 ⟨rfl,rfl⟩;clear C1;go_wp2_with fail;(with_reducible refine(EcJ lo hi g gc gq gt gs c 0 [] _ SS.out U Ek).mono ?_);rintro e5 w5 ⟨rfl,⟨c',m,new,hm,hnl,s5,h5⟩,XB⟩;rw[List.nil_append] at s5;replace SS:=J s5;replace MM:=J<|MM.out.trans XB;replace KZ:Ea (∃z:Array M,z.size=46/\D w5 gz z 43):=J (by obtain⟨z,h1,h2⟩:=KZ.out;exact⟨z,h1,XB.Em h2 EZ EZ⟩);clear s5 XB;go_wp2_with fail;(with_reducible refine(rG lo hi g gc gq gt gs c' _ _ _ SS.out).mono ?_);rintro e6 w6 ⟨sv,rv,sc,hd,rfl,JA,J5,os,JS,b6⟩;obtain⟨z,hz,kz⟩:=KZ.out;have OE:=J<|D.B kz b6;have iF:=J hz;replace SS:=J<|SS.out.core.B b6;replace MM:=J<|MM.out.trans (Ev.Eu b6);have OS:=J os;have OR:=J JS;have HD:=J<|And.intro JA J5;obtain⟨A1,e1,rfl,-⟩:=UL os;obtain⟨A2,e2,rfl,-⟩:=UL JS;have TS:=J<|dT (JD c') (u A1 (0+m) e1) (u A2 new.length e2) hd O JA;have TO:=J<|iD c' A1 A2 (0+m) new.length e1 e2 hd;obtain⟨tv,IE⟩: ∃tv,tv=(I7 (JD c') (u A1 (0+m) e1) (u A2 new.length e2) hd).toArray:=⟨_,O⟩;rw[<-IE] at TS TO⊢;have JM:=J IE;clear os JS JA J5 IE b6 kz hz KZ;go_wp2_with (with_reducible refine wS (cs:=tv) Xt OE ?_ (ho:=iF.out) (hn:=TS.out) (h1:=TO.out));refine EQ (Jb Xt O _ _ gz tv O (OE.out.setRow tv) TS.out) O ?_;have ho:=Od (g:=gz) (W:=w6) tv;have hz2:=HZ.out;obtain⟨hz3,cX,cZ⟩:=hz2;subst cZ;have hb:=ho.bel lo tx tz;refine⟨c',_,_,_,_,sc,hd,Zv,HD.out.1,HD.out.2,EW OS.out fun _ _ h=>ho.Em h (E7 h OE.out EZ),EW OR.out fun _ _ h=>ho.Em h (E7 h OE.out EZ),?_,⟨U,hnl,h5⟩,?_⟩;·exact Ejq
 ·exact EkS
theorem Ecg(lo:Nat)(g:Nat->M)(gc gq gt:Nat)(c:EA)(bad:Bool)(w:H)(C:Jz lo g gc gq gt c w): Ef EJ 51 #[V (X ⟨gc,0,Z⟩),Eb bad] w (tp lo w.heap.size g gc gq gt (fun c2 ns new=>ns<=9/\jL bad c c2 new) w):=by
 have C0:=J C;have LT:=J C.jr;have BS:=J<|ti gc;clear C;go_enter Tryz.func51,Tryz.ntmps51;go_wp2_with (with_reducible refine I2 7 ?_);refine Ed.in ?_;generalize hW:World.alloc _ _=w1 at*;have aI:Ea (∃z:Array M,z.size=46/\D w1 (w.heap.size) z 43):=J (by subst hW;exact⟨_,O,by first|exact D.new _ _ _|exact D.new' _ _ _ Ek⟩);have b1:Ea (Eh w w1):=J (by subst hW;(repeat (first|exact E6 _ _|(refine Below.alloc ?_ Io _)|(refine Below.setCell ?_ Io _))));clear hW;obtain⟨gz,hgz⟩:=En w.heap.size;obtain⟨hi,hhi⟩:=En w.heap.size;rw[<-hhi] at LT⊢;rw[<-hgz] at aI;rw[show(V (X ⟨hi,0,Z⟩))=V (X ⟨gz,0,Z⟩) by rw[hgz,hhi]];have HZ:=J (show hi<=gz/\w.heap.size<=gz/\hi=w.heap.size from U);have C1:=J<|C0.out.B b1.out;have LW:=J (show hi<=w1.heap.size from tr);have MM:=J<|Ev.Eu (lo:=lo) (hi:=hi) b1.out;clear b1 hgz hhi C0;have K0:=J<|D.new w1 #[V Z,u Z 0 0,u Z 0 0] 124;have b2:=Eo w1 (EI #[V Z,u Z 0 0,u Z 0 0] 124);go_wp2_with (first|((with_reducible refine In 7 ?_);refine IP rfl 124 _ rfl #[V (X ⟨gc,0,Z⟩),u Z 0 0,u Z 0 0] BS.out ?_)|(with_reducible refine wA tf ?_)|(with_reducible refine wS (cs:= #[V (X ⟨gc,0,Z⟩),u Z 0 0,u Z 0 0]) rD K0 (Ed.mk ?_) (h1:=OP)));refine Ed.in ?_;obtain⟨gs,hgs⟩:=En w1.heap.size;rw[<-hgs] at K0⊢;generalize w1.alloc (EI #[V Z,u Z 0 0,u Z 0 0] 124)=w2 at*;have KS:=J<|K0.out.setRow #[V (X ⟨gc,0,Z⟩),u Z 0 0,u Z 0 0];have b3:=E2 (g:=gs) b2 (Nat.le_of_eq hgs.symm) #[V (X ⟨gc,0,Z⟩),u Z 0 0,u Z 0 0];generalize w2.setRow gs #[V (X ⟨gc,0,Z⟩),u Z 0 0,u Z 0 0]=w3 at*;replace C1:=J<|C1.out.B b3;replace MM:=J<|MM.out.trans (Ev.Eu b3);have KZ:Ea (∃z:Array M,z.size=46/\D w3 gz z 43):=J tu;have SS:=J<|tj C1.out KS.out LT.out.1 LT.out.2.1 LT.out.2.2.1 LT.out.2.2.2 pX;clear K0 b2 hgs b3 aI KS LW;go_wp2_with fail;(with_reducible refine(yd lo g gc gq gt c _ C1.out).mono ?_);rintro e4 w4 ⟨rfl,rfl⟩;clear C1;go_wp2_with fail;(with_reducible refine(Eb5 lo hi g gc gq gt gs c 0 [] bad _ SS.out U Ek).mono ?_);rintro e5 w5 ⟨rfl,⟨c',m,new,hm,s5,h5⟩,XB⟩;rw[List.nil_append] at s5;replace SS:=J s5;replace MM:=J<|MM.out.trans XB;replace KZ:Ea (∃z:Array M,z.size=46/\D w5 gz z 43):=J (by obtain⟨z,h1,h2⟩:=KZ.out;exact⟨z,h1,XB.Em h2 EZ EZ⟩);clear s5 XB;go_wp2_with fail;(with_reducible refine(rG lo hi g gc gq gt gs c' _ _ _ SS.out).mono ?_);rintro e6 w6 ⟨sv,rv,sc,hd,rfl,JA,J5,os,JS,b6⟩;obtain⟨z,hz,kz⟩:=KZ.out;have OE:=J<|D.B kz b6;have iF:=J hz;replace SS:=J<|SS.out.core.B b6;replace MM:=J<|MM.out.trans (Ev.Eu b6);have OS:=J os;have OR:=J JS;have HD:=J<|And.intro JA J5;obtain⟨A1,e1,rfl,-⟩:=UL os;obtain⟨A2,e2,rfl,-⟩:=UL JS;have TS:=J<|dT (JD c') (u A1 (0+m) e1) (u A2 new.length e2) hd O JA;have TO:=J<|iD c' A1 A2 (0+m) new.length e1 e2 hd;obtain⟨tv,IE⟩: ∃tv,tv=(I7 (JD c') (u A1 (0+m) e1) (u A2 new.length e2) hd).toArray:=⟨_,O⟩;rw[<-IE] at TS TO⊢;have JM:=J IE;clear os JS JA J5 IE b6 kz hz KZ;go_wp2_with (with_reducible refine wS (cs:=tv) Xt OE ?_ (ho:=iF.out) (hn:=TS.out) (h1:=TO.out));refine EQ (Jb Xt O _ _ gz tv O (OE.out.setRow tv) TS.out) O ?_;have ho:=Od (g:=gz) (W:=w6) tv;have hz2:=HZ.out;obtain⟨hz3,cX,cZ⟩:=hz2;subst cZ;have hb:=ho.bel lo tx tz;refine⟨c',_,_,_,_,sc,hd,Zv,HD.out.1,HD.out.2,EW OS.out fun _ _ h=>ho.Em h (E7 h OE.out EZ),EW OR.out fun _ _ h=>ho.Em h (E7 h OE.out EZ),?_,⟨U,h5⟩,?_⟩;·exact Ejq
 ·exact EkS
theorem Ech(lo:Nat)(g:Nat->M)(gc gq gt:Nat)(c:EA)(va gv:Bool)(x0 x1 x2 x3:Int)(w:H)(C:Jz lo g gc gq gt c w)(hx:I3 x0/\I3 x1/\I3 x2/\I3 x3): Ef EJ 50 #[V (X ⟨gc,0,Z⟩),EU #[Eb va,E I x0,E I x1,E I x2,E I x3,Eb gv]] w (tp lo w.heap.size g gc gq gt (fun c2 ns new=>ns<=3/\jH c c2 new) w):=by
 have C0:=J C;have LT:=J C.jr;have BS:=J<|ti gc;have HX:=J hx;clear hx;clear C;go_enter Tryz.func50,Tryz.ntmps50;go_wp2_with (with_reducible refine I2 7 ?_);refine Ed.in ?_;generalize hW:World.alloc _ _=w1 at*;have aI:Ea (∃z:Array M,z.size=46/\D w1 (w.heap.size+1) z 43):=J (by subst hW;exact⟨_,O,by first|exact D.new _ _ _|exact D.new' _ _ _ Ek⟩);have KI:Ea (D w1 (w.heap.size) #[Eb va,E I x0,E I x1,E I x2,E I x3,Eb gv] 46):=J (by subst hW;repeat (first|exact D.new _ _ _|exact D.new' _ _ _ Ek|refine D.alloc ?_ _));have b1:Ea (Eh w w1):=J (by subst hW;(repeat (first|exact E6 _ _|(refine Below.alloc ?_ Io _)|(refine Below.setCell ?_ Io _))));clear hW;obtain⟨gz,hgz⟩:=En (w.heap.size+1);obtain⟨hi,hhi⟩:=En w.heap.size;rw[<-hgz] at aI⊢;rw[<-hhi] at KI LT⊢;obtain⟨gi,hgi⟩:=En hi;rw[show(V (X ⟨hi,0,Z⟩))=V (X ⟨gi,0,Z⟩) by rw[hgi]];rw[<-hgi] at KI;have HZ:=J (show hi<=gz/\w.heap.size<=gz/\hi=w.heap.size from U);have C1:=J<|C0.out.B b1.out;have LW:=J (show hi<=w1.heap.size from tr);have MM:=J<|Ev.Eu (lo:=lo) (hi:=hi) b1.out;clear b1 hgz hhi hgi C0;have K0:=J<|D.new w1 #[V Z,u Z 0 0,u Z 0 0] 124;have b2:=Eo w1 (EI #[V Z,u Z 0 0,u Z 0 0] 124);go_wp2_with (first|((with_reducible refine In 7 ?_);refine IP rfl 124 _ rfl #[V (X ⟨gc,0,Z⟩),u Z 0 0,u Z 0 0] BS.out ?_)|(with_reducible refine wA tf ?_)|(with_reducible refine wS (cs:= #[V (X ⟨gc,0,Z⟩),u Z 0 0,u Z 0 0]) rD K0 (Ed.mk ?_) (h1:=OP)));refine Ed.in ?_;obtain⟨gs,hgs⟩:=En w1.heap.size;rw[<-hgs] at K0⊢;generalize w1.alloc (EI #[V Z,u Z 0 0,u Z 0 0] 124)=w2 at*;have KS:=J<|K0.out.setRow #[V (X ⟨gc,0,Z⟩),u Z 0 0,u Z 0 0];have b3:=E2 (g:=gs) b2 (Nat.le_of_eq hgs.symm) #[V (X ⟨gc,0,Z⟩),u Z 0 0,u Z 0 0];generalize w2.setRow gs #[V (X ⟨gc,0,Z⟩),u Z 0 0,u Z 0 0]=w3 at*;replace C1:=J<|C1.out.B b3;replace MM:=J<|MM.out.trans (Ev.Eu b3);replace KI:=EN KI b3;have KZ:Ea (∃z:Array M,z.size=46/\D w3 gz z 43):=J tu;have SS:=J<|tj C1.out KS.out LT.out.1 LT.out.2.1 LT.out.2.2.1 LT.out.2.2.2 pX;clear K0 b2 hgs b3 aI KS LW;go_wp2_with fail;(with_reducible refine(yd lo g gc gq gt c _ C1.out).mono ?_);rintro e4 w4 ⟨rfl,rfl⟩;clear C1;go_wp2_with (with_reducible refine wL x_ KI ?_);(with_reducible refine(EbS lo hi g gc gq gt gs c 0 [] va gv x0 x1 x2 x3 _ SS.out HX.out U Ek).mono ?_);rintro e5 w5 ⟨rfl,⟨c',m,new,hm,s5,h5⟩,XB⟩;rw[List.nil_append] at s5;replace SS:=J s5;replace MM:=J<|MM.out.trans XB;replace KZ:Ea (∃z:Array M,z.size=46/\D w5 gz z 43):=J (by obtain⟨z,h1,h2⟩:=KZ.out;exact⟨z,h1,XB.Em h2 EZ EZ⟩);clear s5 XB;go_wp2_with fail;(with_reducible refine(rG lo hi g gc gq gt gs c' _ _ _ SS.out).mono ?_);rintro e6 w6 ⟨sv,rv,sc,hd,rfl,JA,J5,os,JS,b6⟩;obtain⟨z,hz,kz⟩:=KZ.out;have OE:=J<|D.B kz b6;have iF:=J hz;replace SS:=J<|SS.out.core.B b6;replace MM:=J<|MM.out.trans (Ev.Eu b6);have OS:=J os;have OR:=J JS;have HD:=J<|And.intro JA J5;obtain⟨A1,e1,rfl,-⟩:=UL os;obtain⟨A2,e2,rfl,-⟩:=UL JS;have TS:=J<|dT (JD c') (u A1 (0+m) e1) (u A2 new.length e2) hd O JA;have TO:=J<|iD c' A1 A2 (0+m) new.length e1 e2 hd;obtain⟨tv,IE⟩: ∃tv,tv=(I7 (JD c') (u A1 (0+m) e1) (u A2 new.length e2) hd).toArray:=⟨_,O⟩;rw[<-IE] at TS TO⊢;have JM:=J IE;clear os JS JA J5 IE b6 kz hz KZ;go_wp2_with (with_reducible refine wS (cs:=tv) Xt OE ?_ (ho:=iF.out) (hn:=TS.out) (h1:=TO.out));refine EQ (Jb Xt O _ _ gz tv O (OE.out.setRow tv) TS.out) O ?_;have ho:=Od (g:=gz) (W:=w6) tv;have hz2:=HZ.out;obtain⟨hz3,cX,cZ⟩:=hz2;subst cZ;have hb:=ho.bel lo tx tz;refine⟨c',_,_,_,_,sc,hd,Zv,HD.out.1,HD.out.2,EW OS.out fun _ _ h=>ho.Em h (E7 h OE.out EZ),EW OR.out fun _ _ h=>ho.Em h (E7 h OE.out EZ),?_,⟨U,h5⟩,?_⟩;·exact Ejq
 ·exact EkS
theorem Eci(lo:Nat)(g:Nat->M)(gc gq gt:Nat)(c:EA)(code:Int)(A:Option Et)(n cap:Nat)(xs:List Int)(k:Int)(w:H)(C:Jz lo g gc gq gt c w)(hk:1<=k/\k<=3)(hx:xs.length=n)(hnc:n<=cap)(hcap:cap<=9223372036854775807)(sL:n<=1000)(hr:Row w A xs): Ef EJ 49 #[V (X ⟨gc,0,Z⟩),E I k,EU #[E I code,u A n cap]] w (tp lo w.heap.size g gc gq gt (fun c2 ns new=>ns<=3/\jF g k code xs c c2 ns new) w):=by
 have C0:=J C;have LT:=J C.jr;have BS:=J<|ti gc;have HX:=J<|And.intro hk (And.intro hx (And.intro hnc (And.intro hcap sL)));have jD:=J hr;have HLK:Ea (decide (1<=k/\k<=3)=G):=J<|Ia hk;clear hk hx hnc hcap sL hr;clear C;go_enter Tryz.func49,Tryz.ntmps49;go_wp2_with (with_reducible refine I2 9 ?_);refine Ed.in ?_;generalize hW:World.alloc _ _=w1 at*;have aI:Ea (∃z:Array M,z.size=46/\D w1 (w.heap.size+1) z 43):=J (by subst hW;exact⟨_,O,by first|exact D.new _ _ _|exact D.new' _ _ _ Ek⟩);have KI:Ea (D w1 (w.heap.size) #[E I code,u A n cap] 74):=J (by subst hW;repeat (first|exact D.new _ _ _|exact D.new' _ _ _ Ek|refine D.alloc ?_ _));have b1:Ea (Eh w w1):=J (by subst hW;(repeat (first|exact E6 _ _|(refine Below.alloc ?_ Io _)|(refine Below.setCell ?_ Io _))));clear hW;obtain⟨gz,hgz⟩:=En (w.heap.size+1);obtain⟨hi,hhi⟩:=En w.heap.size;rw[<-hgz] at aI⊢;rw[<-hhi] at KI LT⊢;obtain⟨gi,hgi⟩:=En hi;rw[show(V (X ⟨hi,0,Z⟩))=V (X ⟨gi,0,Z⟩) by rw[hgi]];rw[<-hgi] at KI;have HZ:=J (show hi<=gz/\w.heap.size<=gz/\hi=w.heap.size from U);have C1:=J<|C0.out.B b1.out;have RW:=J<|Iq jD.out b1.out;have LW:=J (show hi<=w1.heap.size from tr);have MM:=J<|Ev.Eu (lo:=lo) (hi:=hi) b1.out;clear b1 hgz hhi hgi C0;have K0:=J<|D.new w1 #[V Z,u Z 0 0,u Z 0 0] 124;have b2:=Eo w1 (EI #[V Z,u Z 0 0,u Z 0 0] 124);go_wp2_with (first|((with_reducible refine In 9 ?_);refine IP rfl 124 _ rfl #[V (X ⟨gc,0,Z⟩),u Z 0 0,u Z 0 0] BS.out ?_)|(with_reducible refine wA tf ?_)|(with_reducible refine wS (cs:= #[V (X ⟨gc,0,Z⟩),u Z 0 0,u Z 0 0]) rD K0 (Ed.mk ?_) (h1:=OP)));refine Ed.in ?_;obtain⟨gs,hgs⟩:=En w1.heap.size;rw[<-hgs] at K0⊢;generalize w1.alloc (EI #[V Z,u Z 0 0,u Z 0 0] 124)=w2 at*;have KS:=J<|K0.out.setRow #[V (X ⟨gc,0,Z⟩),u Z 0 0,u Z 0 0];have b3:=E2 (g:=gs) b2 (Nat.le_of_eq hgs.symm) #[V (X ⟨gc,0,Z⟩),u Z 0 0,u Z 0 0];generalize w2.setRow gs #[V (X ⟨gc,0,Z⟩),u Z 0 0,u Z 0 0]=w3 at*;replace C1:=J<|C1.out.B b3;replace RW:=J<|Iq RW.out b3;replace MM:=J<|MM.out.trans (Ev.Eu b3);replace KI:=EN KI b3;have KZ:Ea (∃z:Array M,z.size=46/\D w3 gz z 43):=J tu;have SS:=J<|tj C1.out KS.out LT.out.1 LT.out.2.1 LT.out.2.2.1 LT.out.2.2.2 pX;clear K0 b2 hgs b3 aI KS LW;go_wp2_with fail;(with_reducible refine(Df k _).mono ?_);rintro e4 w4 ⟨rfl,rfl⟩;rw[HLK.out];go_wp2_with fail;(with_reducible refine(yd lo g gc gq gt c _ C1.out).mono ?_);rintro e4 w4 ⟨rfl,rfl⟩;clear C1;go_wp2_with (with_reducible refine wL Ft KI ?_);(with_reducible refine(Ebn lo hi g gc gq gt gs c 0 [] code A n cap xs k _ SS.out HX.out.1 HX.out.2.1 HX.out.2.2.1 HX.out.2.2.2.1 HX.out.2.2.2.2 RW.out U Ek).mono ?_);rintro e5 w5 ⟨rfl,⟨c',m,new,hm,s5,h5⟩,XB⟩;rw[List.nil_append] at s5;replace SS:=J s5;replace MM:=J<|MM.out.trans XB;replace KZ:Ea (∃z:Array M,z.size=46/\D w5 gz z 43):=J (by obtain⟨z,h1,h2⟩:=KZ.out;exact⟨z,h1,XB.Em h2 EZ EZ⟩);clear s5 XB;go_wp2_with fail;(with_reducible refine(rG lo hi g gc gq gt gs c' _ _ _ SS.out).mono ?_);rintro e6 w6 ⟨sv,rv,sc,hd,rfl,JA,J5,os,JS,b6⟩;obtain⟨z,hz,kz⟩:=KZ.out;have OE:=J<|D.B kz b6;have iF:=J hz;replace SS:=J<|SS.out.core.B b6;replace MM:=J<|MM.out.trans (Ev.Eu b6);have OS:=J os;have OR:=J JS;have HD:=J<|And.intro JA J5;obtain⟨A1,e1,rfl,-⟩:=UL os;obtain⟨A2,e2,rfl,-⟩:=UL JS;have TS:=J<|dT (JD c') (u A1 (0+m) e1) (u A2 new.length e2) hd O JA;have TO:=J<|iD c' A1 A2 (0+m) new.length e1 e2 hd;obtain⟨tv,IE⟩: ∃tv,tv=(I7 (JD c') (u A1 (0+m) e1) (u A2 new.length e2) hd).toArray:=⟨_,O⟩;rw[<-IE] at TS TO⊢;have JM:=J IE;clear os JS JA J5 IE b6 kz hz KZ;go_wp2_with (with_reducible refine wS (cs:=tv) Xt OE ?_ (ho:=iF.out) (hn:=TS.out) (h1:=TO.out));refine EQ (Jb Xt O _ _ gz tv O (OE.out.setRow tv) TS.out) O ?_;have ho:=Od (g:=gz) (W:=w6) tv;have hz2:=HZ.out;obtain⟨hz3,cX,cZ⟩:=hz2;subst cZ;have hb:=ho.bel lo tx tz;refine⟨c',_,_,_,_,sc,hd,Zv,HD.out.1,HD.out.2,EW OS.out fun _ _ h=>ho.Em h (E7 h OE.out EZ),EW OR.out fun _ _ h=>ho.Em h (E7 h OE.out EZ),?_,⟨U,by first|exact h5|(rw[Nat.zero_add];exact h5)⟩,?_⟩;·exact Ejq
 ·exact EkS
def O9:List Int->Nat
 |[]=>0
 |x::r=>if x=165 then 0 else O9 r+1
theorem Fu: ∀xs,O9 xs<=xs.length
 |[]=>E5 _
 |x::r=>by
  unfold O9;split;·exact Nat.zero_le _
  ·have:=Fu r;simp;exact this
structure aJ where
 kd:Int
 sz:Nat
 cd:Int
 b:List Int
def aO:aJ:=⟨0,0,0,[]⟩
def gJ(c:Int):aJ:=⟨3,1,c,[]⟩
def gO(n:Nat):aJ:=⟨1,n,0,[]⟩
def mB(xs:List Int):aJ:=⟨2,xs.length+5,0,xs⟩
def bu(v n:Int)(r:List Int):aJ:=
 if 32<n then gJ 11 else if(r.length:Int)<n+2 then aO else if UY (v::n::r.take n.toNat)≠256*r.getD n.toNat 0+r.getD (n.toNat+1) 0 then gJ 12 else mB (r.take n.toNat)
def yf:List Int->aJ
 |[]=>aO
 |n::r=>bu 1 n r
def jN:List Int->aJ
 |[]=>aO
 |v::r=>if v≠1 then gJ 10 else yf r
def nx:List Int->aJ
 |[]=>aO
 |a::r=>if a≠165 then gO (O9 (a::r)) else jN r
theorem gU(a:Int)(r:List Int):nx (a::r)=if a≠165 then gO (O9 (a::r)) else jN r:=rfl
theorem mC(v:Int)(r:List Int):jN (v::r)=if v≠1 then gJ 10 else yf r:=rfl
def aJ.item(f:aJ):List (Int×List Int):=if f.kd=2 then [(0,f.b)] else if f.kd=3 then [(f.cd,[])] else []
def Ua(xs:List Int):Prop:= ∀x∈xs,0<=x/\x<=255
theorem Ua.dr{xs:List Int}(h:Ua xs)(k:Nat):Ua (xs.drop k):=fun y hy=>h y (List.mem_of_mem_drop hy)
theorem Ua.tk{xs:List Int}(h:Ua xs)(k:Nat):Ua (xs.take k):=fun y hy=>h y (List.mem_of_mem_take hy)
theorem Ua.app{xs ys:List Int}(h:Ua xs)(k:Ua ys):Ua (xs++ys):=fun y hy=>by
 rcases List.mem_append.1 hy with h1|h1;·exact h y h1
 ·exact k y h1
inductive Ss(xs:List Int)(f:aJ):Prop
 |wait (h:f=aO)
 |mD (c:Int) (h:f=gJ c) (hc:c=10\/c=11\/c=12) (hl:1<=xs.length)
 |skip (h:f=gO (O9 xs)) (h1:1<=O9 xs)
 |frame (n:Nat) (h:f=mB ((xs.drop 3).take n)) (hl:n+5<=xs.length) (hn:n<=32)
theorem yg(xs:List Int)(hb:Ua xs):Ss xs (nx xs):=by
 match xs,hb with
 |[],_=>exact .wait O
 |a::r,hb=>
  by_cases h1:a≠165;·refine .skip (by rw[gU,if_pos h1]) ?_;unfold O9;rw[if_neg h1];omega
  ·have e1:nx (a::r)=jN r:=by rw[gU,if_neg h1]
   rw[e1];match r,hb with
   |[],_=>exact .wait O
   |v::r2,hb=>
    by_cases h2:v≠1;·exact .mD 10 (by rw[mC,if_pos h2]) (.inl O) Ek
    ·have e2:jN (v::r2)=yf r2:=by rw[mC,if_neg h2]
     rw[e2];match r2,hb with
     |[],_=>exact .wait O
     |n::r3,hb=>
      show Ss _ (bu 1 n r3);have hn:=hb n Ek;unfold bu;split;·exact .mD 11 rfl (.inr (.inl O)) Ek
      ·split;·exact .wait O
       ·split;·exact .mD 12 rfl (.inr (.inr O)) Ek
        ·exact .frame n.toNat Ek JJ U
theorem Eck(ys:List Int)(n:Nat)(h:n<=ys.length):(mB (ys.take n)).sz=n+5:=by simp[mB];omega
theorem Fv{xs:List Int}(hb:Ua xs)(h:(nx xs).kd≠0):1<=(nx xs).sz/\(nx xs).sz<=xs.length:=by
 cases yg xs hb with
 |wait e=>rw[e] at h;exact absurd O h
 |mD c e _ hl=>rw[e];exact⟨E5 _,hl⟩
 |skip e h1=>rw[e];exact⟨h1,Fu _⟩
 |frame n e hl hn=>rw[e,Eck _ _ JJ];omega
theorem Ecl{xs:List Int}(hb:Ua xs):(nx xs).b.length<=32/\Ua (nx xs).b:=by
 cases yg xs hb with
 |wait e=>rw[e];exact⟨by simp[aO],by intro y hy;simp[aO] at hy⟩
 |mD c e _ hl=>rw[e];exact⟨by simp[gJ],by intro y hy;simp[gJ] at hy⟩
 |skip e h1=>rw[e];exact⟨by simp[gO],by intro y hy;simp[gO] at hy⟩
 |frame n e hl hn=>rw[e];exact⟨by simp[mB];omega,(hb.dr 3).tk n⟩
inductive Ur:List Int->List (Int×List Int)->List Int->Prop
 |wait {xs} (h:(nx xs).kd=0):Ur xs [] xs
 |step {xs its r} (h:(nx xs).kd≠0) (t:Ur (xs.drop (nx xs).sz) its r):Ur xs ((nx xs).item++its) r
theorem Ur.det{xs i r}(h:Ur xs i r): ∀{i' r'},Ur xs i' r'->i=i'/\r=r':=by
 induction h with
 |wait h=>
  intro i' r' k;cases k with
  |wait=>exact⟨O,O⟩
  |step h' _=>exact absurd h h'
 |step h t ih=>
  intro i' r' k;cases k with
  |wait h'=>exact absurd h' h
  |step _ t'=>obtain⟨rfl,rfl⟩:=ih t';exact⟨O,O⟩
theorem Ur.ex: ∀(n:Nat) (xs:List Int),xs.length<=n->Ua xs-> ∃i r,Ur xs i r
 |0,xs,h,_=>⟨[],xs,.wait (by have:xs=[]:=List.eq_nil_of_length_eq_zero U;subst this;rfl)⟩
 |n+1,xs,h,hb=>by
  by_cases h0:(nx xs).kd=0;·exact⟨_,_,.wait h0⟩
  ·have hs:=Fv hb h0;obtain⟨i,r,t⟩:=Ur.ex n (xs.drop (nx xs).sz) Su (hb.dr _);exact⟨_,_,.step h0 t⟩
theorem Ur.left{xs i r}(h:Ur xs i r): ∃k,r=xs.drop k:=by
 induction h with
 |wait h=>exact⟨0,O⟩
 |step h t ih=>obtain⟨k,e⟩:=ih;exact⟨_,by rw[e,List.drop_drop]⟩
def Sv(i:Int×List Int):Prop:=Ua i.2/\i.2.length<=32/\(i.1=0\/i.1=10\/i.1=11\/i.1=12)
theorem Ecn{xs:List Int}(hb:Ua xs): ∀i∈(nx xs).item,Sv i:=by
 intro i hi;have hbd:=Ecl hb;unfold aJ.item at hi;split at hi;·simp at hi;subst hi;exact⟨hbd.2,hbd.1,.inl O⟩
 ·split at hi
  ·rename_i h3;simp at hi;subst hi;refine⟨by intro y hy;simp at hy,Ek,?_⟩;cases yg xs hb with
   |wait e=>rw[e] at h3;cases h3
   |mD c e hc hl=>rw[e];exact .inr hc
   |skip e h1=>rw[e] at h3;cases h3
   |frame n e hl hn=>rw[e] at h3;cases h3
  ·simp at hi
theorem Ur.ok{xs i r}(h:Ur xs i r):Ua xs->(∀x∈i,Sv x)/\Ua r:=by
 induction h with
 |wait h=>exact fun hb=>⟨Ek,hb⟩
 |step h t ih=>
  intro hb;obtain⟨h1,h2⟩:=ih (hb.dr _);refine⟨fun x hx=> ?_,h2⟩;rcases List.mem_append.1 hx with h3|h3;·exact Ecn hb x h3
  ·exact h1 x h3
theorem Ur.len{xs i r}(h:Ur xs i r):Ua xs->i.length+r.length<=xs.length:=by
 induction h with
 |wait h=>exact fun hb=>Ek
 | @step xs its r h t ih=>
   intro hb;have h1:=ih (hb.dr _);have h2:=Fv hb h;have h3:(nx xs).item.length<=1:=by unfold aJ.item;split<;>(try split)<;>simp
   rw[IL];rw[List.length_drop] at h1;omega
inductive aU(g:Nat->M)(k:Int):List (Int×List Int)->EA->EA->Nat->List Rec->Prop
 |nil (c:EA):aU g k [] c c 0 []
 |cons {i:Int×List Int} {r:List (Int×List Int)} {c c1 c2:EA} {m n:Nat} {a b:List Rec}:jF g k i.1 i.2 c c1 m a->aU g k r c1 c2 n b->aU g k (i::r) c c2 (m+n) (a++b)
theorem aU.snoc{its:List (Int×List Int)}{a:List Rec}(h:aU g k its c c1 m a){i:Int×List Int}{c2:EA}{b:List Rec}(h2:jF g k i.1 i.2 c1 c2 n b):aU g k (its++[i]) c c2 (m+n) (a++b):=by
 induction h with
 |nil c=>simpa using aU.cons h2 (.nil _)
 |cons h1 t ih=>rw[List.cons_append,Nat.add_assoc,List.append_assoc];exact .cons h1 (ih h2)
theorem mw.len{l:List Int}(h:mw g k l c c' new):new.length<=2:=by
 rcases h with⟨_,rfl⟩|⟨_,_,_,rfl⟩|⟨_,_,_,_,_,_,_,rfl⟩|⟨_,_,_,_,_,rfl⟩|⟨_,_,_,rfl⟩|⟨_,_,_,rfl⟩|⟨rfl,_⟩;·simp
 ·split<;>simp
 all_goals simp
theorem jF.len{xs:List Int}(h:jF g k code xs c c' m new):new.length<=2:=by
 rcases h with⟨_,_,_,rfl,_⟩|⟨_,_,_,_,rfl,_⟩|⟨_,_,_,_,h⟩;·simp
 ·simp
 ·exact h.len
theorem aU.len{its:List (Int×List Int)}{a:List Rec}(h:aU g k its c c1 m a):a.length<=its.length*2:=by
 induction h with
 |nil=>simp
 |cons h1 t ih=>have:=h1.len;simp only[IL,List.length_cons];omega
structure JE where
 (kind src:Int)
 b:List Int
 valid:Bool
 (x0 x1 x2 x3:Int)
 give:Bool
 bad:Bool
def yh(g:Nat->M)(e:JE)(c:EA)(rs:Int->List Int)(c':EA)(rs':Int->List Int)(m:Nat)(new:List Rec):Prop:=
 (e.kind=0/\1<=e.src/\e.src<=3/\ ∃its r,Ur (rs e.src++e.b) its r/\rs'=(fun s=>if s=e.src then r else rs s)/\aU g e.src its c c' m new)
 \/(e.kind=1/\rs'=rs/\jH c c' new)
 \/(e.kind=2/\rs'=rs/\jL e.bad c c' new)
 \/(e.kind=3/\rs'=rs/\tJ c c' new)
 \/((e.kind≠1/\e.kind≠2/\e.kind≠3/\(e.kind=0-> ¬(1<=e.src/\e.src<=3)))/\rs'=rs/\c'=c/\m=0/\new=[])
def UQ(all:List Rec)(b:Oa):Bool:=
 if b.s=4/\b.q=0 then decide (b.r=2\/b.r=3\/b.r=4) else if b.r≠1/\b.r≠4 then Y else all.any fun x=>decide (x.k=6)&&decide (x.s=b.s)&&decide (x.q=b.q)
theorem mF{b:Oa}(new:List Rec)(h:UQ all b=G):UQ (all++new) b=G:=by
 unfold UQ at*;split;·rename_i h1;rw[if_pos h1] at h;exact h
 ·rename_i h1;rw[if_neg h1] at h;split;·rename_i h2;rw[if_pos h2] at h;cases h
  ·rename_i h2;rw[if_neg h2] at h;rw[List.any_append,h,Bool.true_or]
theorem yi(all:List Rec):UQ all ⟨2,4,0⟩=G:=rfl
theorem Sw(all:List Rec):UQ all ⟨3,4,0⟩=G:=rfl
theorem Eco{b:Oa}(h:UQ all b=G):UQ all ⟨4,b.s,b.q⟩=G:=by
 unfold UQ at*;by_cases h1:b.s=4/\b.q=0;·rw[if_pos h1];simp
 ·rw[if_neg h1] at h⊢;rw[if_neg Ek];split at h;·cases h
  ·exact h
theorem Fw{s q e c h:Int}(hs:s≠4)(hm:(⟨6,s,q,e,c,h⟩:Rec)∈all):UQ all ⟨1,s,q⟩=G:=by unfold UQ;rw[if_neg (by simp[hs]),if_neg Ek];rw[List.any_eq_true];exact⟨_,hm,Ek⟩
structure Ot(all:List Rec)(c:EA):Prop where
 El:UQ all c.El=G
 nr:c.El.r≠4
 pt:UQ all c.pt.b=G
theorem Ot.more(h:Ot all c)(new:List Rec)(h1:c'.El=c.El)(h2:c'.pt=c.pt):Ot (all++new) c':=
 ⟨by rw[h1];exact mF _ h.El,by rw[h1];exact h.nr,by rw[h2];exact mF _ h.pt⟩
theorem Ot.Fx{l:List Int}(h:Ot all c)(hk:k≠4)(w:mw g k l c c' new):Ot (all++new) c':=by
 rcases w with⟨rfl,rfl⟩|⟨_,_,rfl,rfl⟩|⟨_,_,_,_,_,_,rfl,rfl⟩|⟨_,_,_,_,rfl,rfl⟩|⟨_,_,rfl,rfl⟩|⟨_,_,rfl,rfl⟩|⟨rfl,rfl|⟨p,hp,rfl⟩⟩;·exact EkK
 ·exact EkK
 ·exact EkK
 ·exact EkK
 ·exact EkK
 ·exact EkK
 ·exact⟨Fw hk (List.mem_append_right _ (List.mem_singleton.2 rfl)),Ek,mF _ h.pt⟩
 ·exact⟨mF _ h.El,h.nr,by show UQ _ p.b=G;rw[hp];exact Fw hk (List.mem_append_right _ (List.mem_singleton.2 rfl))⟩
theorem Ot.item{xs:List Int}(h:Ot all c)(hk:k≠4)(w:jF g k code xs c c' m new):Ot (all++new) c':=by
 rcases w with⟨_,rfl,_,_,_⟩|⟨_,_,_,_,_,rfl|⟨_,_,rfl⟩⟩|⟨_,_,_,_,w⟩;·exact EkK
 ·exact EkK
 ·exact EkK
 ·exact Ot.Fx (c:={c with T:=(c.T.take k xs).tab}) ⟨h.El,h.nr,h.pt⟩ hk w
theorem Ot.items{its:List (Int×List Int)}(hk:k≠4)(w:aU g k its c c' m new): ∀{all:List Rec},Ot all c->Ot (all++new) c':=by
 induction w with
 |nil=>intro all h;rw[List.append_nil];exact h
 |cons h1 t ih=>intro all h;rw[<-List.append_assoc];exact ih (h.item hk h1)
theorem Ot.fly(h:Ot all c)(w:sM c c' new):Ot (all++new) c':=by
 rcases w with⟨_,_,rfl,_⟩|⟨_,_,_,_,_,_,rfl,_⟩|⟨rfl,p,hp,rfl⟩;·exact EkK
 ·exact EkK
 ·exact⟨mF _ h.El,h.nr,by show UQ _ p.b=G;rw[hp];exact Fw EZ (List.mem_append_right _ (List.mem_singleton.2 rfl))⟩
theorem Ot.bU(h:Ot all c)(w:jH c c' new):Ot (all++new) c':=by
 obtain⟨a,b,T1,⟨rfl,rfl⟩|w⟩:=w;·exact EkK
 ·exact Ot.fly (c:={c with samples:=a,beyond:=b,T:=T1}) ⟨h.El,h.nr,h.pt⟩ w
theorem Ot.Ecq{b:Bool}(h:Ot all c)(w:jL b c c' new):Ot (all++new) c':=by
 rcases w with⟨_,rfl,rfl⟩|⟨_,L',t2,md,_,_,_,rfl,_⟩;·exact EkK
 ·exact⟨yi _,Ek,yi _⟩
theorem Ot.tick(h:Ot all c)(w:tJ c c' new):Ot (all++new) c':=by
 obtain⟨_,_,hb,b0,h0,hp⟩:=w
 have h1:UQ (all++new) b0=G:=by
  rcases h0 with rfl|rfl|rfl;·exact mF _ h.pt
  ·exact yi _
  ·exact Sw _
 refine⟨?_,?_,?_⟩
 ·rcases hb with e|e|e<;>rw[e];·exact mF _ h.El
  ·exact yi _
  ·exact Sw _
 ·rcases hb with e|e|e<;>rw[e];·exact h.nr
  ·decide
  ·decide
 ·rcases hp with e|e<;>rw[e];·exact h1
  ·exact Eco h1
theorem Ot.step{e:JE}(h:Ot all c)(w:yh g e c rs c' rs' m new):Ot (all++new) c':=by
 rcases w with⟨_,h1,h2,its,r,_,_,w⟩|⟨_,_,w⟩|⟨_,_,w⟩|⟨_,_,w⟩|⟨_,_,rfl,_,rfl⟩;·exact Ot.items U w h
 ·exact h.bU w
 ·exact h.Ecq w
 ·exact h.tick w
 ·exact EkK
def aX(g:Nat->M)(t:EL):Prop:=0<=t.o->t.om=max (pn g 44) 0
theorem aX.Fx{l:List Int}(h:aX g c.tok)(w:mw g k l c c' new):aX g c'.tok/\c.tok.e<=c'.tok.e:=by
 rcases w with⟨rfl,rfl⟩|⟨_,_,rfl,rfl⟩|⟨L',t2,hw,EhZ,te,hto,rfl,rfl⟩|⟨_,_,_,_,rfl,rfl⟩|⟨h1,h2,rfl,rfl⟩|⟨h1,h2,rfl,rfl⟩|⟨rfl,rfl|⟨p,hp,rfl⟩⟩;·exact Ekk
 ·show aX g (c.tok.drop k).1/\c.tok.e<=(c.tok.drop k).1.e;unfold EL.drop;split;·exact⟨h,Int.le_refl _⟩
  ·exact⟨fun h=>by simp[EL.end_] at h,Int.le_refl _⟩
 ·refine⟨fun h=> ?_,Sx⟩;have h2:0<=t2.o:=h;omega
 ·exact Ekk
 ·exact⟨fun h=>by simp[EL.end_] at h,Int.le_refl _⟩
 ·exact⟨fun _=>rfl,Int.le_refl _⟩
 ·exact Ekk
 ·exact Ekk
theorem aX.item{xs:List Int}(h:aX g c.tok)(w:jF g k code xs c c' m new):aX g c'.tok/\c.tok.e<=c'.tok.e:=by
 rcases w with⟨_,rfl,_,_,_⟩|⟨_,_,_,_,_,rfl|⟨_,_,rfl⟩⟩|⟨_,_,_,_,w⟩;·exact Ekk
 ·exact Ekk
 ·exact Ekk
 ·exact aX.Fx (c:={c with T:=(c.T.take k xs).tab}) h w
theorem aX.items{its:List (Int×List Int)}(w:aU g k its c c' m new):aX g c.tok->aX g c'.tok/\c.tok.e<=c'.tok.e:=by
 induction w with
 |nil=>exact fun h=>⟨h,Int.le_refl _⟩
 |cons h1 _ ih=>exact fun h=>⟨(ih (h.item h1).1).1,Int.le_trans (h.item h1).2 (ih (h.item h1).1).2⟩
theorem aX.step{e:JE}(h:aX g c.tok)(w:yh g e c rs c' rs' m new):aX g c'.tok/\c.tok.e<=c'.tok.e:=by
 rcases w with⟨_,h1,h2,its,r,_,_,w⟩|⟨_,_,w⟩|⟨_,_,w⟩|⟨_,_,w⟩|⟨_,_,rfl,_,rfl⟩;·exact aX.items w h
 ·obtain⟨a,b,T1,⟨rfl,rfl⟩|w⟩:=w;·exact⟨h,Int.le_refl _⟩
  ·rcases w with⟨_,_,rfl,_⟩|⟨_,t2,_,_,te,hto,rfl,rfl⟩|⟨rfl,p,hp,rfl⟩;·exact⟨h,Int.le_refl _⟩
   ·have te2:t2.e=c.tok.e+1:=te;refine⟨fun h=> ?_,Sx⟩;have h2:0<=t2.o:=h;omega
   ·exact Ekk
 ·rcases w with⟨_,rfl,rfl⟩|⟨_,L',t2,md,_,hto,te,rfl,_⟩;·exact⟨h,Int.le_refl _⟩
  ·refine⟨fun h=> ?_,te⟩;have h2:0<=t2.o:=h;omega
 ·obtain⟨⟨w1,w2⟩,we,_⟩:=w;refine⟨fun h3=> ?_,we⟩;by_cases ho:0<=c.tok.o
  ·rcases w1 ho with⟨a1,a2,a3,a4,a5⟩|⟨a1,_⟩;·rw[a3];exact h ho
   ·omega
  ·have:=w2 U;omega
 ·exact Ekk
section
open Go.ChangeShapes Go.Deep Go.WideShapes
theorem Sy{enc:Ez×M->Y9}{w:H}{t:Ez}{fs:Array Field}{x:DataW Y9×List MemPlace}(ht:P.underlying t=X (.struct fs))(h:DataW.trod enc P w 0 (fun _=>G) G n t cs=X x): ∃m,cs.length=P.cellsOf t/\ ∀(i:Nat) (f:Field),fs[i]?=X f-> ∃y,DataW.trod enc P w 0 (fun _=>G) G m f.type ((cs.drop f.offset).take (P.cellsOf f.type))=X y:=by
 obtain⟨xs,m,-,-,hl,hxl,hf⟩:=DataW.trod_struct ht h;refine⟨m,hl,fun i f hif=> ?_⟩
 have hi:i<fs.size:=by
  rcases Nat.lt_or_ge i fs.size with h|h;·exact h
  ·rw[Array.getElem?_eq_none h] at hif;cases hif
 exact⟨_,(hf i f hif).trans (List.getElem?_eq_getElem U)⟩
theorem Ecr{enc:Ez×M->Y9}{w:H}{t e:Ez}{k:Nat}{x:DataW Y9×List MemPlace}(ht:P.underlying t=X (.array k e))(h:DataW.trod enc P w 0 (fun _=>G) G n t cs=X x): ∃m,cs.length=P.cellsOf t/\ ∀(i:Nat),i<k-> ∃y,DataW.trod enc P w 0 (fun _=>G) G m e ((cs.drop (i*P.cellsOf e)).take (P.cellsOf e))=X y:=by obtain⟨xs,m,-,-,hl,hxl,hf⟩:=DataW.trod_array ht h;exact⟨m,hl,fun i hi=>⟨_,(hf i hi).trans (List.getElem?_eq_getElem U)⟩⟩
theorem Ecs{enc:Ez×M->Y9}{w:H}{t e:Ez}{k:Nat}{kd:IntKind}{x:DataW Y9×List MemPlace}(ht:P.underlying t=X (.array k e))(he:P.underlying e=X (.int kd))(hc:P.cellsOf e=1)(hk:P.cellsOf t=k) (h:DataW.trod enc P w 0 (fun _=>G) G n t cs=X x): ∃l:List Int,l.length=k/\cs=l.map (E kd)/\ ∀z∈l,(Lit.int kd z).wf=G:=by
 obtain⟨m,hl,hf⟩:=Ecr ht h;rw[hk] at hl;rw[hc] at hf;have key: ∀i (hi:i<cs.length),∃z,cs[i]= .int kd z/\(Lit.int kd z).wf=G:=by intro i hi;obtain⟨y,hy⟩:=hf i U;rw[Nat.mul_one,List.drop_eq_getElem_cons hi] at hy;obtain⟨z,e1,-,e3⟩:=DataW.trod_int he hy;simp only[Il,Ij,List.cons.injEq,and_true] at e1;exact⟨z,e1,e3⟩
 refine⟨cs.map fun v=>match v with| .int _ z=>z|_=>0,by simp[hl],?_,?_⟩;·rw[List.map_map];refine List.ext_getElem Ek fun i h1 h2=> ?_;obtain⟨z,e1,-⟩:=key i h1;simp[e1]
 ·intro z hz;obtain⟨v,hv,rfl⟩:=List.mem_map.1 hz;obtain⟨i,hi,rfl⟩:=List.getElem_of_mem hv;obtain⟨z,e1,e3⟩:=key i hi;rw[e1];exact e3
theorem Sz{enc:Ez×M->Y9}{w:H}{t:Ez}{kd:IntKind}{x:DataW Y9×List MemPlace}(he:P.underlying t=X (.int kd))(h:DataW.trod enc P w 0 (fun _=>G) G n t cs=X x): ∃z,cs=[.int kd z]/\(Lit.int kd z).wf=G:=by obtain⟨z,e1,-,e3⟩:=DataW.trod_int he h;exact⟨z,e1,e3⟩
end
section
open Go.ChangeShapes Go.Deep Go.WideShapes
theorem SA(b o i:Nat):(⟨b,o,Z⟩:Et).add i=⟨b,o+i,Z⟩:=U4
theorem yj{x:Int}(h:(Lit.int .i64 x).wf=G):I3 x:=by unfold I3;exact ElY
def JE.Y5(e:JE)(a:Option Et)(c:Nat):List (List M):=[[E I e.kind],[E I e.src],[u a e.b.length c],[Eb e.valid,E I e.x0,E I e.x1,E I e.x2,E I e.x3,Eb e.give],[Eb e.bad]]
def JE.cells(e:JE)(a:Option Et)(c:Nat):List M:=(e.Y5 a c).flatten
structure JE.ok(e:JE):Prop where
 x0:I3 e.x0
 x1:I3 e.x1
 x2:I3 e.x2
 x3:I3 e.x3
structure pZ(w:H)(e:JE)(a:Option Et)(c:Nat):Prop where
 ok:e.ok
 row:Row w a e.b
 le:e.b.length<=c
 max:c<=9223372036854775807
theorem pZ.B{w w':H}{e:JE}{a:Option Et}{c:Nat}(h:pZ w e a c)(hb:Eh w w'):pZ w' e a c:=
 ⟨h.ok,Iq h.row hb,h.le,h.max⟩
theorem Ect{enc:Ez×M->Y9}{w:H}{x:DataW Y9×List MemPlace}(h:DataW.trod enc EJ w 0 (fun _=>G) G n 46 cs=X x): ∃(va gv:Bool) (x0 x1 x2 x3:Int),I3 x0/\I3 x1/\I3 x2/\I3 x3/\cs=[Eb va,E I x0,E I x1,E I x2,E I x3,Eb gv]:=by
 obtain⟨m,hl,hf⟩:=Sy Tryz.underlying46 h;rw[show Tryz.prog.cellsOf 46=6 from Ec] at hl;match cs,hl with
 |[c0,c1,c2,c3,c4,c5],_=>
  obtain⟨y0,h0⟩:=hf 0 _ O;have g0:DataW.trod enc EJ w 0 (fun _=>G) G m 4 (([c0,c1,c2,c3,c4,c5].drop 0).take (Tryz.prog.cellsOf 4))=X y0:=h0;rw[show Tryz.prog.cellsOf 4=1 from Ec] at g0;obtain⟨va,e0,-⟩:=DataW.trod_bool Tryz.underlying4 g0;simp only[Iz,Ix,Il,Ij,List.cons.injEq,and_true] at e0;obtain⟨y1,h1⟩:=hf 1 _ O;have g1:DataW.trod enc EJ w 0 (fun _=>G) G m 25 (([c0,c1,c2,c3,c4,c5].drop 1).take (Tryz.prog.cellsOf 25))=X y1:=h1;rw[show Tryz.prog.cellsOf 25=4 from Ec] at g1;obtain⟨xl,hxl,ex,hw⟩:=Ecs Tryz.underlying25 Tryz.underlying3 Ec Ec g1;obtain⟨y2,h2⟩:=hf 2 _ O;have g2:DataW.trod enc EJ w 0 (fun _=>G) G m 4 (([c0,c1,c2,c3,c4,c5].drop 5).take (Tryz.prog.cellsOf 4))=X y2:=h2;rw[show Tryz.prog.cellsOf 4=1 from Ec] at g2;obtain⟨gv,e2,-⟩:=DataW.trod_bool Tryz.underlying4 g2;simp only[Iz,Ix,Il,Ij,List.cons.injEq,and_true] at e2;match xl,hxl with
  |[b0,b1,b2,b3],_=> simp only[Iz,Ix,Il,Ij,List.map_cons,List.map_nil,List.cons.injEq,and_true] at ex;obtain⟨f0,f1,f2,f3⟩:=ex;exact⟨va,gv,b0,b1,b2,b3,yj (hw _ Ek),yj (hw _ Ek),yj (hw _ Ek),yj (hw _ Ek),by rw[e0,e2,f0,f1,f2,f3]⟩
theorem Ecu(cs:List M)(h:cs.length=10):cs=(cs.drop 0).take 1++((cs.drop 1).take 1++((cs.drop 2).take 1++((cs.drop 3).take 6++(cs.drop 9).take 1))):=by
 have st: ∀a n:Nat,cs.drop a=(cs.drop a).take n++cs.drop (a+n):=fun a n=>by rw[<-List.drop_drop,List.take_append_drop]
 have e7:cs.drop 9=(cs.drop 9).take 1:=by rw[List.take_of_length_le Su]
 rw[<-e7,<-st 3 6,<-st 2 1,<-st 1 1,<-st 0 1,Ix]
theorem Ecv{enc:Ez×M->Y9}{w:H}{x:DataW Y9×List MemPlace}(h:DataW.trod enc EJ w 0 (fun _=>G) G n 48 cs=X x): ∃(e:JE) (a:Option Et) (c:Nat),pZ w e a c/\cs=e.cells a c:=by
 obtain⟨m,hl,hf⟩:=Sy Tryz.underlying48 h;rw[show Tryz.prog.cellsOf 48=10 from Ec] at hl;have sp:=Ecu cs hl;obtain⟨y0,h0⟩:=hf 0 _ O;have g0:DataW.trod enc EJ w 0 (fun _=>G) G m 3 ((cs.drop 0).take (Tryz.prog.cellsOf 3))=X y0:=h0;rw[show Tryz.prog.cellsOf 3=1 from Ec] at g0;obtain⟨y1,h1⟩:=hf 1 _ O;have g1:DataW.trod enc EJ w 0 (fun _=>G) G m 3 ((cs.drop 1).take (Tryz.prog.cellsOf 3))=X y1:=h1;rw[show Tryz.prog.cellsOf 3=1 from Ec] at g1;obtain⟨y2,h2⟩:=hf 2 _ O;have g2:DataW.trod enc EJ w 0 (fun _=>G) G m 23 ((cs.drop 2).take (Tryz.prog.cellsOf 23))=X y2:=h2;rw[show Tryz.prog.cellsOf 23=1 from Ec] at g2;obtain⟨y3,h3⟩:=hf 3 _ O;have g3:DataW.trod enc EJ w 0 (fun _=>G) G m 46 ((cs.drop 3).take (Tryz.prog.cellsOf 46))=X y3:=h3;rw[show Tryz.prog.cellsOf 46=6 from Ec] at g3;obtain⟨y4,h4⟩:=hf 4 _ O;have g4:DataW.trod enc EJ w 0 (fun _=>G) G m 4 ((cs.drop 9).take (Tryz.prog.cellsOf 4))=X y4:=h4;rw[show Tryz.prog.cellsOf 4=1 from Ec] at g4;obtain⟨b0,e0,-⟩:=Sz Tryz.underlying3 g0;obtain⟨b1,e1,-⟩:=Sz Tryz.underlying3 g1;obtain⟨va,gv,x0,x1,x2,x3,i0,i1,i2,i3,e3⟩:=Ect g3;obtain⟨b4,e4,-⟩:=DataW.trod_bool Tryz.underlying4 g4
 obtain⟨a,l,c,e2⟩: ∃a l c,(cs.drop 2).take 1=[u a l c]:=by
  rcases open_slice Tryz.underlying23 g2 with⟨hcs,_⟩|⟨a,l,c,m,n,Y_,Pl,hcs,_⟩;·exact⟨_,_,_,hcs⟩
  ·exact⟨_,_,_,hcs⟩
 rw[e2] at g2;obtain⟨A,xs,cap,ev,r1,r2,r3,-⟩:=EIP (EXu g2);obtain⟨rfl,rfl,rfl⟩:a=A/\l=xs.length/\c=cap:=by injection ev with a b c;exact⟨a,b,c⟩
 refine⟨⟨b0,b1,xs,va,x0,x1,x2,x3,gv,b4⟩,a,c,⟨⟨i0,i1,i2,i3⟩,r3,r1,r2⟩,?_⟩;rw[sp,e0,e1,e2,e3,e4];rfl
def pb(w:H)(v:M):Prop:= ∃(A:Option Et) (l c:Nat),v=u A l c/\(l=0\/ ∃b off,A=X ⟨b,off,Z⟩/\ ∀i,i<l-> ∃(e:JE) (a:Option Et) (d:Nat),pZ w e a d/\ ∀j,j<10->w.cell? ⟨b,off+i*10+j,Z⟩=(e.cells a d)[j]?)
theorem mk_sl_api_Event{enc:Ez×M->Y9}{w:H}{r:Reach}{v:M}{d:DataW Y9}{p:List MemPlace} (h:Value.okWide EJ w r base 29 v) (hd:DataW.Trod enc EJ w 0 (fun _=>G) G 29 v d p):pb w v:=by
 obtain⟨a,len,cap,rfl⟩:=okWide_slice Tryz.underlying29 h;obtain⟨fuel,hf⟩:=hd;rcases open_slice Tryz.underlying29 hf with⟨hcs,-⟩|⟨x,l,c,m,n,Y_,Pl,hcs,-,hl,hm,hmm,-,hi⟩;·simp[Value.cells] at hcs;obtain⟨rfl,rfl,rfl⟩:=hcs;exact⟨Z,0,0,O,.inl O⟩
 ·simp[Value.cells] at hcs;obtain⟨rfl,rfl,rfl⟩:=hcs;simp only[if_true] at hmm;subst hmm;rw[show Tryz.prog.cellsOf 48=10 from Ec] at hi;refine⟨X x,len,m,O,?_⟩;have hc: ∀i,i<len-> ∃(e:JE) (a:Option Et) (d:Nat),pZ w e a d/\ ∀j,j<10->w.cell? ((x.add (i*10)).add j)=(e.cells a d)[j]?:=by intro i hil;obtain⟨cs',h1,h2⟩:=hi i U;obtain⟨e,a,d,ho,hcs⟩:=Ecv h2;obtain⟨-,-,h3⟩:=World.cells?_some h1;exact⟨e,a,d,ho,fun j hj=>by rw[h3 j hj,hcs]⟩
  by_cases h0:len=0;·exact .inl h0
  ·have hx:x=⟨x.block,x.off,Z⟩:=by obtain⟨e,a,d,-,hj⟩:=hc 0 U;have c0:=hj 0 U;have e1:(x.add (0*10)).add 0=x:=zu;rw[e1] at c0;have:=World.cell?_spot (c0.trans (show(e.cells a d)[0]?=X _ from rfl));cases x;simp_all
   refine .inr ⟨x.block,x.off,by rw[<-hx],fun i hil=> ?_⟩;obtain⟨e,a,d,ho,hj⟩:=hc i hil;refine⟨e,a,d,ho,fun j hjl=> ?_⟩;have h1:=hj j hjl;rw[hx,SA,SA] at h1;exact h1
end
section
variable{P:Program}{ops:Array Oper}{Q:Exit->Act->World->Prop}{C:World->Prop}{n:Nat}
theorem Ecw{ro:Option Nat}(hd: ∀c,o.op≠ .defer c)(ρ:Operand->M):o.semAt ro ρ=execOp ρ o:=Oper.semAt_eq ro ρ o hd
theorem SD{row:String}{args:Array M}{w:H}{R:M->H->Prop}(h:Rows P row args w R):RowsIn Fence.wide n P row args w R:=
 fun c cs _=>let ⟨v,w',r,s⟩:=h c cs;⟨v,w',r,stepsIn_wide.2 s⟩
theorem SG(hF:F=Fence.wide\/ ∃l,F=Fence.wide.inRound l)(hd:F=Fence.wide\/ ∀c,o.op≠ .defer c){w:H}(hq: ¬LetsOut Q)(h:o.wp P a w K Q):o.wpIn F n P a w K Q:=by
 have hs:o.semAt F.round a.eval=execOp a.eval o:=by
  rcases hd with rfl|hd;·rfl
  ·exact Ecw hd _
 have hf: ∀f,F.fn f:=fun f=>SK
 have hc: ∀{f args w R},Ef P f args w R->CallsIn F (n-1) P f args w R:=fun h=>by
  rcases hF with rfl|⟨l,rfl⟩;·exact callsIn_wide.2 h
  ·exact CallsIn.inRound (F:=Fence.wide) l (callsIn_wide.2 h)
 have hr: ∀{row args w R},Rows P row args w R->RowsIn F (n-1) P row args w R:=fun h=>by
  rcases hF with rfl|⟨l,rfl⟩;·exact SD h
  ·exact SD (n:=n-1) h
 have hdp:F.depth.isSome=G->1<=n:=fun h=>by rcases hF with rfl|⟨l,rfl⟩<;>cases h
 refine⟨fun f _=>hf f,?_⟩;rw[hs];unfold Oper.wp at h;generalize (execOp a.eval o).run P w=r at*;cases r with
 |ok x w'=>
  cases x<;>simp only[Oper.upon,Oper.uponIn] at h⊢ <;>
   first
    |exact h
    |exact⟨hdp,hc h⟩
    |exact⟨hdp,hr h⟩
    |exact h.elim
 |halt x w'=>cases x<;>simp only[Oper.upon,Oper.uponIn] at h⊢ <;>exact h
theorem Ecx{w:H}(h:o.wp P a w K (fun _ _ _=>False)):o.wpIn Fence.wide n P a w K Q:=by
 have h1:=SG (n:=n) (F:=Fence.wide) (.inl O) (.inl O) pc h;unfold Oper.wpIn at*;refine⟨h1.1,?_⟩;have h1:=h1.2;generalize (o.semAt Fence.wide.round a.eval).run P w=r at*;cases r with
 |ok x w'=>
  cases x<;>simp only[Oper.uponIn] at h1⊢ <;>
   first
    |exact h1
    |exact⟨h1.1,CallsIn.mono h1.2 (fun e w'' he=>by cases e<;>first|exact he|exact he.elim|exact SN)⟩
    |exact⟨h1.1,RoundIn.mono h1.2 (fun e w'' he=>by cases e<;>first|exact he|exact he.elim|exact SN)⟩
 |halt x w'=>cases x<;>simp only[Oper.uponIn] at h1⊢ <;>exact h1.elim
def pd(l:List EK):Bool:=l.all fun o=>match o.op with| .defer _=>false|_=>true
theorem Ecy(h:pd l=G)(ho:o∈l): ∀c,o.op≠ .defer c:=fun c e=>by have:=List.all_eq_true.1 h o ho;rw[e] at this;cases this
theorem yk{F:Fence}(hF:F=Fence.wide\/ ∃l,F=Fence.wide.inRound l)(hq: ¬LetsOut Q): ∀(l1 l2:List EK) (a:Act) (w:H),pd l1=G-> wpList P ops (Exit.then (wpListIn F n P ops Q l2) Q) l1 a w->wpListIn F n P ops Q (l1++l2) a w
 |[],_,_,_,_,h=>h
 |o::l1,l2,a,w,hd,h=>by
  have hd2:pd l1=G:=by unfold pd at*;rw[List.all_cons,Bool.and_eq_true] at hd;exact hd.2
  have hq': ¬LetsOut (Exit.then (wpListIn F n P ops Q l2) Q):=fun⟨a,w,h⟩=>hq ⟨a,w,h⟩;unfold wpList at h;rw[List.cons_append];unfold wpListIn;split
  ·rename_i hw;rw[if_pos hw] at h;rcases h with h|⟨_,h⟩
   ·have h1:=SG (n:=n) hF (.inr (Ecy hd (List.mem_cons_self ..))) hq' h;unfold Oper.wpIn at*;refine⟨h1.1,?_⟩;have h1:=h1.2;generalize (o.semAt F.round a.eval).run P w=r at*;have ih:=fun a w h=>yk hF hq l1 l2 a w hd2 h;cases r with
    |ok x w'=>
     cases x<;>simp only[Oper.uponIn] at h1⊢ <;>
      first
       |exact ih _ _ h1
       |exact⟨h1.1,CallsIn.mono h1.2 (fun e w'' he=>SP)⟩
       |exact⟨h1.1,RowsIn.mono h1.2 (fun _ _ he=>ih _ _ he)⟩
       |exact⟨h1.1,RoundIn.mono h1.2 (fun e w'' he=>SP)⟩
    |halt x w'=>cases x<;>simp only[Oper.uponIn] at h1⊢ <;>exact h1
   ·exact absurd h hq'
  ·rename_i hw;rw[if_neg hw] at h;exact⟨fun f _=>SK,yk hF hq l1 l2 _ w hd2 h⟩
theorem tA(m:Nat){w:H}(hF:F=Fence.wide\/ ∃l,F=Fence.wide.inRound l)(hq: ¬LetsOut Q)(hd:pd (l.take m)=G)(h:wpList P ops (Exit.then (wpListIn F n P ops Q (l.drop m)) Q) (l.take m) a w):wpListIn F n P ops Q l a w:=by have:=yk (n:=n) hF hq (l.take m) (l.drop m) a w hd h;rwa [List.take_append_drop] at this
theorem tB{l:Nat}{os:List EK}{w:H}(hq: ¬LetsOut Q)(hd:pd os=G)(h:wpList P os.toArray Q os a w):(Code.region id os.toArray Y).wpIn (Fence.wide.inRound l) n P Q a w:=by
 refine wpIn_region_lit ?_;have:=yk (P:=P) (F:=Fence.wide.inRound l) (n:=n) (ops:=os.toArray) (.inr ⟨l,O⟩) hq os [] a w hd ?_;·rwa [List.append_nil] at this
 ·have hm: ∀e a w,Q e a w->Exit.then (wpListIn (Fence.wide.inRound l) n P os.toArray Q []) Q e a w:=fun e a w h=>by cases e<;>exact h
  have hqq:(Exit.then (wpListIn (Fence.wide.inRound l) n P os.toArray Q []) Q)=Q:=by funext e a w;cases e<;>rfl
  rw[hqq];exact h
def tC(ops:Array EK)(m:Nat):Bool:=
 (List.range ops.size).all fun i=>match ops[i]? with
  |none=>Y
  |some o=>o.after.all (fun e=>decide (e.on<i))&&(decide (i<m)||(List.range i).all fun j=>decide (j=0)||(List.range (i+1)).any fun k=>decide (j<k)&&match ops[k]? with
   |some p=>p.after.any fun e=>Region.binds .any e&&e.on==j
   |none=>Y)
theorem tD(h:tC ops m=G){i:Nat}(ho:ops[i]?=X o):(∀e∈o.after,e.on<i)/\(m<=i-> ∀j,j<i->j≠0-> ∃k p,j<k/\k<=i/\ops[k]?=X p/\ ∃e∈p.after,Region.binds .any e=G/\e.on=j):=by
 have hi:=(Ja.1 ho).1;have h1:=List.all_eq_true.1 h i (List.mem_range.2 hi);simp only[ho,Bool.and_eq_true,Bool.or_eq_true,decide_eq_true_eq] at h1;refine⟨fun e he=> ?_,fun hm j hj h0=> ?_⟩;·exact EkM
 ·rcases h1.2 with h2|h2;·omega
  ·have h3:=List.all_eq_true.1 h2 j (List.mem_range.2 hj);simp only[Bool.or_eq_true,decide_eq_true_eq] at h3;rcases h3 with h3|h3;·exact absurd h3 h0
   ·obtain⟨k,hk,hk2⟩:=List.any_eq_true.1 h3;have hk1:=List.mem_range.1 hk;simp only[Bool.and_eq_true,decide_eq_true_eq] at hk2;obtain⟨hjk,hk3⟩:=hk2;cases hp:ops[k]? with
    |none=>rw[hp] at hk3;cases hk3
    |some p=> rw[hp] at hk3;obtain⟨e,he,hb⟩:=Array.any_eq_true'.1 hk3;simp only[Bool.and_eq_true,beq_iff_eq] at hb;exact⟨k,p,hjk,U,hp,e,he,hb.1,hb.2⟩
theorem SY(hB:tC ops m=G){listed:Array Bool}(hs:listed.size=ops.size)(hc:ZF ops listed)(h0:listed.getD 0 G=G){i:Nat}(hi:i∈Region.ready .any ops listed)(hm:m<=i): ∀j,j<i->listed.getD j G=G:=by
 obtain⟨h1,o,ho,hall⟩:=mem_ready.1 hi;have hin:=(Ja.1 ho).1
 have key: ∀d j,i-j=d->j<i->listed.getD j G=G:=by
  intro d;induction d using Nat.strongRecOn with
  |ind d ih=>
   intro j hd hj;by_cases hj0:j=0;·subst hj0;exact h0
   ·obtain⟨k,p,hjk,hki,hp,e,he,hb,heq⟩:=(tD hB ho).2 hm j hj hj0;by_cases h:k=i;·subst h;have:p=o:=Option.some.inj (hp.symm.trans ho);subst this;have h3:=hall e he hb;rw[heq] at h3;have h5:j<listed.size:=U;simpa[h5] using h3
    ·exact Ems
 exact fun j hj=>key _ j O hj
theorem Ecz{k:Nat}(ho:ops[k]?=X o)(rest:List EK)(a:Act)(w:H)(h:wpListIn Fence.wide n P ops Q (o::rest) a w):wpOpIn Fence.wide n P ops Q k (wpListIn Fence.wide n P ops Q rest) a w:=by unfold wpOpIn;simp only[ho];unfold wpListIn at h;exact h
theorem S6(hB:tC ops m=G)(hm0:1<=m): ∀(fuel k:Nat) (listed:Array Bool) (a:Act) (w:H),m<=k->k<=ops.size->ops.size-k<=fuel->listed.size=ops.size-> (∀j,j<ops.size->listed.getD j G=decide (j<k))->ZF ops listed->wpListIn Fence.wide n P ops Q (ops.toList.drop k) a w->wpAnyIn Fence.wide n P .any ops Q fuel listed a w:=by
 intro fuel;induction fuel with
 |zero=> intro k listed a w hm hk hf hs hl hc h;have hkn:k=ops.size:=U;subst hkn;rw[List.drop_of_length_le Ek] at h;refine wpAnyIn_done ?_ h 0;rw[List.eq_nil_iff_forall_not_mem];intro j hj;obtain⟨h1,o,ho,-⟩:=mem_ready.1 hj;have hjn:=(Ja.1 ho).1;rw[hl j hjn] at h1;simp at h1;omega
 |succ fuel ih=>
  intro k listed a w hm hk hf hs hl hc h;rcases Nat.lt_or_ge k ops.size with hlt|hge
  ·have ho:ops[k]?=X ops[k]:=Array.getElem?_eq_getElem hlt;have hd:ops.toList.drop k=ops[k]::ops.toList.drop (k+1):=by rw[List.drop_eq_getElem_cons zA];simp
   rw[hd] at h;have hmem:k∈Region.ready .any ops listed:=by refine mem_ready.2 ⟨zB,_,ho,fun e he _=> ?_⟩;have h1:=(tD hB ho).1 e he;exact Ekb
   refine⟨fun h0=>zC,fun i hi=> ?_⟩;obtain⟨h1,o,hoi,hall⟩:=mem_ready.1 hi;have hin:=(Ja.1 hoi).1;have hki:k<=i:=by exact EmJ
   have hik:i=k:=by
    rcases Nat.lt_or_ge k i with h2|h2;·have h3:=SY hB hs hc (by rw[hl 0 U];exact Ia U) hi U k h2;rw[hl k hlt] at h3;simp at h3
    ·omega
   subst hik;refine wpOpIn_mono (fun a' w' h'=>ih (i+1) (listed.setIfInBounds i G) a' w' U U U dE (fun j hj=> ?_) (hc.set hs hi) h') (Ecz ho _ a w h);by_cases e:i=j;·subst e;exact Eka
   ·exact ElJ
  ·have hkn:k=ops.size:=U;subst hkn;rw[List.drop_of_length_le Ek] at h;refine wpAnyIn_done ?_ h _;exact EjZ
theorem EcA{i:Nat}{K:Act->Prop}{K':Act->H->Prop}{w:H}(hC:C w)(h: ∀a w',C w'->K a->K' a w')(hh:qOp P ops C i K a):wpOpIn Fence.wide n P ops Q i K' a w:=by
 have h1:=wpOp_of_qOp (Q':=fun _ _ _=>False) hC h hh;unfold wpOp at h1;unfold wpOpIn;split;·rename_i ho;rw[ho] at h1;exact h1
 ·rename_i o ho;rw[ho] at h1;simp only at h1;split
  ·rename_i hw;rw[if_pos hw] at h1;rcases h1 with h1|⟨_,_,_,h1⟩;·exact Ecx h1
   ·exact h1.elim
  ·rename_i hw;rw[if_neg hw] at h1;exact⟨fun _ _=>trivial,h1⟩
theorem EcB(hB:tC ops m=G)(hm0:1<=m)(hmn:m<=ops.size){F:(Nat->M)->Act}{y:Nat->M} (hF: ∀i o x v,i<m->ops[i]?=X o->(F x).put o.dst v=F (Jv x i v)) (hstep: ∀i o x,i<m->ops[i]?=X o->(∀e∈o.after,Region.binds .any e=G->x e.on=y e.on)->YieldsIn P ops C o (y i) (F x)) (hend: ∀x w,C w->(∀i,i<m->x i=y i)->wpListIn Fence.wide n P ops Q (ops.toList.drop m) (F x) w): ∀(fuel:Nat) (listed:Array Bool) (x:Nat->M) (w:H),(Of ops listed).length<=fuel->listed.size=ops.size->listed.getD 0 G=G->(∀j,m<=j->j<ops.size->listed.getD j G=Y)->ZF ops listed->C w-> (∀i,i<m->listed.getD i G=G->x i=y i)->wpAnyIn Fence.wide n P .any ops Q fuel listed (F x) w:=by
 intro fuel;induction fuel with
 |zero=>
  intro listed x w hf hs hl0 ht hc hb hr
  have hall: ∀j,j<ops.size->listed.getD j G=G:=by
   intro j hj;cases hc:listed.getD j G;·exact EiH
   ·rfl
  have hm:m=ops.size:=by
   rcases Nat.lt_or_ge m ops.size with h|h;·exact Ekt
   ·omega
  refine S6 hB hm0 0 m listed _ w (E5 _) hmn U hs (fun j hj=>by rw[hall j hj,Ia U]) hc (hend x w hb fun i hi=>hr i hi (hall i U))
 |succ fuel ih=>
  intro listed x w hf hs hl0 ht hc hb hr;by_cases hall: ∀j,j<m->listed.getD j G=G
  ·have hlen:ops.size-m<=fuel+1:=by
    have hsub:(List.range' m (ops.size-m)).length<=(Of ops listed).length:=by
     apply List.Nodup.length_le_of_subset;·exact List.nodup_range'
     ·exact Ei_
    simp at hsub;omega
   refine S6 hB hm0 (fuel+1) m listed _ w (E5 _) hmn hlen hs (fun j hj=> ?_) hc (hend x w hb fun i hi=>hr i hi (hall i hi));rcases Nat.lt_or_ge j m with h|h;·rw[hall j h,Ia h]
   ·rw[ht j h hj,E9 U]
  ·refine⟨fun h0=> ?_,fun i hi=> ?_⟩
   ·exfalso
    have hex: ∃j,j<m/\listed.getD j G=Y:=by
     apply Classical.byContradiction;intro hno
     exact hall fun j hj=>by
      cases hc:listed.getD j G;·exact Elj
      ·rfl
    have hmin: ∃j,(j<m/\listed.getD j G=Y)/\ ∀k,k<j-> ¬(k<m/\listed.getD k G=Y):=by
     obtain⟨j,hj⟩:=hex;induction j using Nat.strongRecOn with
     |ind j aR=>
      by_cases h: ∃k,k<j/\(k<m/\listed.getD k G=Y);·exact EjN
      ·exact Ejr
    obtain⟨j,⟨hjm,hj⟩,hlt⟩:=hmin;have hjn:j<ops.size:=U;have ho:ops[j]?=X ops[j]:=Array.getElem?_eq_getElem hjn
    have:j∈Region.ready .any ops listed:=by
     refine mem_ready.2 ⟨hj,_,ho,fun e he _=> ?_⟩;have h1:=(tD hB ho).1 e he;have h2:=hlt e.on h1;have h3:e.on<listed.size:=U;cases hc:listed.getD e.on G;·exact ElP
     ·simpa[h3] using hc
    rw[h0] at this;cases this
   ·obtain⟨h1,o,ho,aa⟩:=mem_ready.1 hi;have hin:=(Ja.1 ho).1;have him:i<m:=by apply Classical.byContradiction;intro hge;apply hall;intro j hj;exact SY hB hs hc hl0 hi U j U
    have hi0:i≠0:=fun e=>by subst e;rw[hl0] at h1;cases h1
    have hdr: ∀e∈o.after,Region.binds .any e=G->x e.on=y e.on:=by intro e he hb';have h3:=aa e he hb';have h4:=(tD hB ho).1 e he;exact EkV
    have st:=hstep i o x him ho hdr;refine EcA (C:=C) (K:=fun a'=>a'=F (Jv x i (y i))) hb (fun a' w' hw' ha'=> ?_) (st.qOp ho ?_)
    ·subst ha';have hlt:=iT hs hin h1;refine ih _ _ w' U dE (by rw[getD_set_ne G hi0];exact hl0) (fun j hj hjn=> ?_) (hc.set hs hi) hw' (fun j hj hl=> ?_);·rw[getD_set_ne G U];exact ht j hj hjn
     ·by_cases hji:j=i;·subst hji;rw[gu]
      ·exact ElD
    ·exact hF i o x (y i) him ho
def Fy(l:List EK)(m:Nat):Bool:=tC l.toArray m&&decide (1<=m)&&decide (m<=l.length)&&Region.noSelect (l.take m).toArray&&decide (OU (l.take m)).Nodup&&ng (l.take m) l.toArray&&Region.noSelect l.toArray&&Region.free .any l.toArray (Array.replicate l.length Y) 0&&(Region.ready .any l.toArray (Array.replicate l.length Y)).contains 0
theorem EcC(m:Nat)(hm:P.follows .mixedOrders=G)(hB:Fy l m=G){x:Operand}(ho0:l[0]?=X o0)(hx:o0.op= .move x)(hg0:o0.guard=Z)(hQ: ∀c a w,Q (.panic c) (a.put o0.dst (a0.eval x)) w->Q (.panic c) a w) (hC:C w0.drew) (h:wpQuiet P l.toArray C (fun a'=> ∀w',C w'->wpListIn Fence.wide n P l.toArray Q (l.drop m) a' w') (l.take m) a0):(Code.region id l.toArray G).wp P Q a0 w0:=by
 simp only[Fy,Bool.and_eq_true,decide_eq_true_eq] at hB;obtain⟨⟨⟨⟨⟨⟨⟨⟨hB,hm0⟩,hmn⟩,hsel⟩,hnd⟩,hap⟩,EcD⟩,hfree⟩,S7⟩:=hB;obtain⟨y,hy,hK⟩:=zK (l.take m) 0 a0 h;have htk: ∀i o,i<m->l.toArray[i]?=X o->(l.take m)[i]?=X o:=fun i o hi ho=>by exact Ej_
 have hlen:(l.take m).length=m:=iQ;have kX:EB (l.take m) 0 (held (l.take m) a0) a0=a0:=fd a0 _ 0 _ (fun k o ho d hd=>by unfold held;rw[Nat.zero_add,ho];simp only[hd]);have hl0:l.length=(l.length-1)+1:=U;have S_: ∀(w:H),(execOp a0.eval o0).run P w= .ok (.value (a0.eval x)) w:=fun w=>by unfold execOp;rw[hx];rfl
 have hwant:IQ o0 (yielded l.toArray a0.tmps)=G:=by unfold IQ;rw[hg0]
 have iV: ∀i o x v,i<m->l.toArray[i]?=X o->(EB (l.take m) 0 x a0).put o.dst v=EB (l.take m) 0 (Jv x i v) a0:=by intro i o x v hi ho;exact Ei0
 have hy0:y 0=a0.eval x:=by
  have h1:=hy 0 o0 (by rw[List.getElem?_take,if_pos U];exact ho0);rw[Ij,Nat.zero_add] at h1;rcases h1 with⟨_,h1⟩|⟨h1,_⟩;·have h2:=h1 w0.drew hC;simp only[EB] at h2;unfold Oper.quietAt at h2;rw[S_] at h2;exact h2.2.symm
  ·simp only[EB] at h1;rw[hwant] at h1;cases h1
 refine(wpIn_wide (n:=n)).1 (wpIn_region_any hm ?_);rw[show l.toArray.size=(l.length-1)+1 from JJ];refine wpAnyIn_take (i:=0) (oi:=o0) (v:=a0.eval x) O (by simpa using ho0) EcD (by simpa[show l.length-1+1=l.length from U] using hfree) (by simpa[show l.length-1+1=l.length from U] using S7) hQ ⟨.inl ⟨hwant,S_⟩,fun w=>by unfold Oper.about;rw[hx]⟩ ?_;rw[show l.length-1+1=l.length from U];have key:=EcB (P:=P) (Q:=Q) (C:=C) (n:=n) (ops:=l.toArray) (F:=fun x=>EB (l.take m) 0 x a0) (y:=y) hB hm0 pN iV ?_ ?_ (l.length-1) ((Array.replicate l.length Y).setIfInBounds 0 G) (Jv (held (l.take m) a0) 0 (a0.eval x)) w0.drew ?_ Ek Ek (fun j hj hjn=> ?_) ?_ hC (fun i hi h=> ?_);·have e:=iV 0 o0 (held (l.take m) a0) (a0.eval x) U (by simpa using ho0);simp only[kX] at e;rw[e];exact key
 ·intro i o x hi ho hd;have hi':=htk i o hi ho;have h1:=hy i o hi';rw[Nat.zero_add] at h1
  have e1:EB ((l.take m).take i) 0 y a0=EB (l.take m) 0 (mix (held (l.take m) a0) y i) a0:=by
   have e2:EB (l.take m) 0 (mix (held (l.take m) a0) y i) a0=EB ((l.take m).drop i) i (mix (held (l.take m) a0) y i) (EB ((l.take m).take i) 0 (mix (held (l.take m) a0) y i) a0):=by exact Ej8
   have e3:EB ((l.take m).take i) 0 (mix (held (l.take m) a0) y i) a0=EB ((l.take m).take i) 0 y a0:=nj _ 0 _ _ _ fun j _ hj=>by have:j<i:=uC;simp[mix,this]
   rw[e2,e3];refine(fd _ _ _ _ fun k p hp d hd=> ?_).symm;have hk:(l.take m)[i+k]?=X p:=gy;have hkm:i+k<m:=Hs;show mix (held (l.take m) a0) y i (i+k)=_;have e5:mix (held (l.take m) a0) y i (i+k)=a0.tmps.getD d undef:=by simp only[mix,show¬i+k<i from U,if_false,held,hk,hd]
   rw[e5];exact El5
  rw[e1] at h1;have deps: ∀e∈o.after,Region.binds .any e=G->x e.on=mix (held (l.take m) a0) y i e.on:=by intro e he hb;have:=(tD hB ho).1 e he;rw[hd e he hb];simp[mix,this]
  obtain⟨s1,s2⟩:=Hq (ops:=l.toArray) hnd hap hsel (List.mem_iff_getElem?.2 ⟨i,hi'⟩) (mix (held (l.take m) a0) y i) x a0 (fun e he hb=>(deps e he hb).symm);exact h1.of_same s1 s2
 ·exact Eko
 ·have h2:=iT (ops:=l.toArray) (listed:=Array.replicate l.length Y) (i:=0) Ek (by rw[List.size_toArray];omega) (uA (by simpa using(show 0<l.length from U)));have h3:=List.length_filter_le (fun i=> !(Array.replicate l.length Y).getD i G) (List.range l.toArray.size);have h4:(Of l.toArray (Array.replicate l.length Y)).length<=l.length:=by simpa[Of] using h3
  rw[hlen] at*;omega
 ·rw[getD_set_ne G U];have:j<l.length:=by simpa using hjn
  simp[this]
 ·have hcl:ZF l.toArray (Array.replicate l.length Y):=by intro j o ho hl;have hj:=(Ja.1 ho).1;rw[uA uD] at hl;cases hl
  exact hcl.set Ek (by simpa using S7)
 ·by_cases h0:i=0;·subst h0;rw[gu,hy0]
  ·rw[getD_set_ne G (fun e=>h0 e.symm)] at h;have:i<l.length:=U;simp[this] at h
theorem Fz(m:Nat)(hm:P.follows .mixedOrders=G)(hB:Fy l m=G){x:Operand}(ho0:l[0]?=X o0)(hx:o0.op= .move x)(hg0:o0.guard=Z)(hQ: ∀c a w,Q (.panic c) (a.put o0.dst (a0.eval x)) w->Q (.panic c) a w) (h:wpQuiet P l.toArray (fun w'=> ∃y,w'=Ex w0 y) (fun a'=> ∀w',(∃y,w'=Ex w0 y)->wpListIn Fence.wide 9 P l.toArray Q (l.drop m) a' w') (l.take m) a0):(Code.region id l.toArray G).wp P Q a0 w0:=
 EcC m hm hB ho0 hx hg0 hQ ⟨⟨_,I1 w0⟩,O⟩ h
end
theorem yl(A:Option Et)(n c:Nat)(w:H):(binOp .eql 23 (u A n c) (u Z 0 0)).run EJ w= .ok (Eb (match A with|none=>true|some _=>false)) w:=by cases A<;>kernel_rfl
theorem TE(w:H)(base:Nat)(h:base<=w.heap.size):Own (w.alloc (EI #[] 5)) base (X ⟨w.heap.size,0,Z⟩) 0 []:=
 ⟨World.ownsRow_lit (base:=base) (size:=1) (e:=5) w #[] 0 h Ob O,fun _ h=>kJ⟩
theorem EcF(A:Option Et)(xs:List Int)(n c:Nat)(w:H)(hn:xs.length=n)(hr:Row w A xs)(hm:n<=1000000): Ef EJ 158 #[u A n c] w fun e w'=>(∃A' c',e=Eg (u A' n c')/\Own w' w.heap.size A' c' xs)/\Eh w w':=by
 cases A with
 |none=>
  have hx:xs=[]:=by
   rcases hr.1 with h|⟨b,o,h,-⟩;·exact h
   ·cases h
  subst hx;obtain rfl:n=0:=hn.symm;have hne0:=yl Z 0 c w;go_enter Tryz.func158,Tryz.ntmps158;exact Emt
 |some ad=> have hne0:=yl (X ad) n c w;have HR:=J hr;have O1:=J<|TE w w.heap.size (E5 _);have b1:=J<|Eo w (EI #[] 5);clear hr;go_enter Tryz.func158,Tryz.ntmps158;go_wp2_with (with_reducible refine I2 7 ?_);refine Ed.in ?_;obtain⟨A7,c7,w7,hrun,hown,hbel,-⟩:=u4 (w.alloc (EI #[] 5)) w.heap.size (X ⟨w.heap.size,0,Z⟩) 0 [] O1.out (X ad) c xs (Iq HR.out b1.out) JJ b1.out.size 23;rw[List.length_nil,Nat.zero_add,hn] at hrun;have rR:=J hown;have B7:=J<|b1.out.trans hbel;clear hown hbel;go_wp2_with ((with_reducible refine In 7 ?_);(refine JT (Ei O) (Ov O O O hrun) ?_));go_ret;exact⟨⟨A7,c7,O,rR.out⟩,B7.out⟩
theorem yn(A:Option Et)(xs:List Int)(n c:Nat)(w:H)(hn:xs.length=n)(hr:Row w A xs)(hm:n<=1000000): Ef EJ 41 #[u A n c] w fun e w'=>(∃A' c',e=Eg (u A' n c')/\Own w' w.heap.size A' c' xs)/\Eh w w':=by
 cases A with
 |none=>
  have hx:xs=[]:=by
   rcases hr.1 with h|⟨b,o,h,-⟩;·exact h
   ·cases h
  subst hx;obtain rfl:n=0:=hn.symm;have hne0:=yl Z 0 c w;go_enter Tryz.func41,Tryz.ntmps41;exact Emt
 |some ad=> have hne0:=yl (X ad) n c w;have HR:=J hr;have O1:=J<|TE w w.heap.size (E5 _);have b1:=J<|Eo w (EI #[] 5);clear hr;go_enter Tryz.func41,Tryz.ntmps41;go_wp2_with (with_reducible refine I2 7 ?_);refine Ed.in ?_;obtain⟨A7,c7,w7,hrun,hown,hbel,-⟩:=u4 (w.alloc (EI #[] 5)) w.heap.size (X ⟨w.heap.size,0,Z⟩) 0 [] O1.out (X ad) c xs (Iq HR.out b1.out) JJ b1.out.size 23;rw[List.length_nil,Nat.zero_add,hn] at hrun;have rR:=J hown;have B7:=J<|b1.out.trans hbel;clear hown hbel;go_wp2_with ((with_reducible refine In 7 ?_);(refine JT (Ei O) (Ov O O O hrun) ?_));go_ret;exact⟨⟨A7,c7,O,rR.out⟩,B7.out⟩
theorem TI: ∀(xs:List Int),(∀x∈xs,0<=x/\x<=255)->Lib.indexByte (Lib.bytesOf xs) (165:Int).toNat.toUInt8=if O9 xs<xs.length then(O9 xs:Int) else-1
 |[],_=>rfl
 |x::r,h=>by
  have hx:=h x (List.mem_cons_self ..);have ih:=TI r (fun y hy=>h y (List.mem_cons_of_mem _ hy));unfold Lib.bytesOf at*;rw[List.map_cons];unfold Lib.indexByte O9
  have hb:(UInt8.ofNat x.toNat==(165:Int).toNat.toUInt8)=decide (x=165):=by
   obtain⟨k,rfl⟩: ∃k:Nat,x=k:=⟨x.toNat,U⟩;have hk:k<=255:=U;rw[show(UInt8.ofNat ((k:Int).toNat)==(165:Int).toNat.toUInt8)=decide (UInt8.ofNat k=165) from rfl];by_cases h5:k=165;·subst h5;rfl
   ·rw[E9 (p:=(k:Int)=165) U];refine E9 ?_;intro he;have:=congrArg UInt8.toNat he;simp at this;omega
  rw[hb,ih];by_cases h5:x=165;·simp[h5]
  ·rw[E9 h5,if_neg EZ,if_neg h5];by_cases h6:O9 r<r.length;·rw[if_pos h6,if_neg Io,if_pos Io];all_goals (try simp)
   ·rw[if_neg h6,if_pos EZ,if_neg Io]
theorem EcG(A:Option Et)(xs:List Int)(n c:Nat)(w:H)(hn:xs.length=n)(h1:1<=n)(hr:Row w A xs): Ef EJ 159 #[u A n c,E IB 165] w fun e w'=>e=Eg (E I (if O9 xs<n then(O9 xs:Int) else-1))/\w=w':=by
 have hi:=TI xs hr.2;subst hn;obtain⟨z,hz⟩:=En ((if O9 xs<xs.length then(O9 xs:Int) else-1));rw[<-hz] at hi⊢
 have HX:(Extern.BytealgIndexByte.indexByte #[u A xs.length c,E IB 165]).run EJ w= .ok (E I z) w:=by
  rcases hr.1 with h|⟨b,o,h,hc⟩;·subst h;simp at h1
  ·subst h;rw[<-hi];exact Lib.run_indexByteSlice (P:=EJ) w b o xs.length c xs O (fun i h2=>by rw[hc i h2,List.getD_eq_getElem?_getD,List.getElem?_eq_getElem h2];rfl) 165
 clear hi hz hr h1;go_enter Tryz.func159,Tryz.ntmps159;go_wp2;rw[run_callFunc_extern Tryz.func201 Ec Ec Ec (e:=Extern.BytealgIndexByte.indexByte) Ec,HX];simp only[Result.andThen];rw[Oper.upon_value];go_wp2;exact Eid
def EcH(c:EA):List M:=[E I c.tok.h,E I c.tok.e,E I c.tok.o,E I c.mode,E I c.El.r,E I c.El.s,E I c.El.q,E I c.pt.c,E I c.pt.a0,E I c.pt.a1,E I c.pt.a2,E I c.pt.a3,E I c.pt.n0,E I c.pt.n1,E I c.pt.n2,E I c.pt.n3,E I c.pt.b.r,E I c.pt.b.s,E I c.pt.b.q]
def TJ(h:List M)(q:M)(o r:Nat->M)(b:M):List (List M):=[h,[q],[o 0],[o 1],[o 2],[o 3],[o 4],[r 0],[r 1],[r 2],[r 3],[r 4],[b]]
def EcK(c:EA)(q:M):List M:=(TJ (EcH c) q (fun i=>Eb (c.T.ZW i)) (fun i=>E I (c.T.kF i)) (Eb c.tok.bad)).flatten
theorem tF:ID EJ 54 31:=⟨⟨_,Tryz.underlying54,O⟩,Ec⟩
def bv:Array M:=(TJ ((List.range 19).map fun _=>E I 0) (u Z 0 0) (fun _=>Eb Y) (fun _=>E I 0) (Eb Y)).flatten.toArray
theorem FG:Og EJ 54 bv:=by exact Eiz
theorem TU{F:Operand->M}{T:Ez}{parts:Array (Nat×Operand)}{cs:Array M}{w:H}(ho:o.op= .build T parts)(hb:P.built T (parts.toList.map fun(i,x)=>(i,F x))=X cs):(execOp F o).run P w= .ok (.value (EU cs)) w:=by unfold execOp;simp only[ho,Sem.run_bind,run_build (P:=P) w T (parts.map fun(i,x)=>(i,F x)) cs QY,Result.andThen_ok,Sem.run_pure]
theorem JK:ID EJ 101 4:=⟨⟨_,Tryz.underlying101,O⟩,Ec⟩
theorem EcL(x z:Int)(h0:0<=x)(h1:x<=255)(x0:0<=z)(x1:z<=255):bits .or .u16 (x*256) z=x*256+z:=by obtain⟨m,rfl⟩:=Int.eq_ofNat_of_zero_le h0;obtain⟨y,rfl⟩:=Int.eq_ofNat_of_zero_le x0;have e:((m:Int)*256)=((m*256:Nat):Int):=Ek;rw[e,u16_or_nat _ _ U U,nat_join 8 _ _ U U];simp
def mG(W:H)(base:Nat)(f:aJ)(v:M):Prop:= ∃(A:Option Et) (c:Nat),v=EU #[E I f.kd,E I f.sz,E I f.cd,u A f.b.length c]/\Own W base A c f.b
theorem Zc{gz:Nat}{c:Nat}{xs:List Int}{z:Array M}(h:Own W base A c xs)(K:D W gz z 101)(tv:Array M):Own (W.setRow gz tv) base A c xs:=
 ⟨EW h.1 fun _ _ h2=>(Od tv).Em h2 (E7 h2 K EZ),h.2⟩
theorem pg(W:H)(base:Nat)(f:aJ)(h:f.b=[]):mG W base f (EU #[E I f.kd,E I f.sz,E I f.cd,u Z 0 0]):=⟨Z,0,by rw[h];rfl,by rw[h];exact XJ _ _⟩
theorem yo(cd:Int)(w:H): Ef EJ 116 #[E I cd] w fun e w'=>e=Eg (EU #[E I 3,E I 1,E I cd,u Z 0 0])/\Eh w w':=by go_enter Tryz.func116,Tryz.ntmps116;go_wp2_with fail;refine EQ (v:=EU #[E I 3,E I 1,E I cd,u Z 0 0]) (by simp[results,Tryz.results116,go_sem]) O ?_;exact⟨O,Eo _ _⟩
theorem tG(A:Option Et)(xs:List Int)(n c:Nat)(w:H)(hn:xs.length=n)(h1:1<=n)(hr:Row w A xs)(hm:n<=9223372036854775807): Ef EJ 117 #[u A n c] w fun e w'=>e=Eg (EU #[E I 1,E I (O9 xs),E I 0,u Z 0 0])/\Eh w w':=by
 have hle:O9 xs<=n:=by rw[<-hn];exact Fu xs
 have HR:=J hr;have HN:=J hn;clear hr hn;generalize hz:O9 xs=z at*;replace hz:=J hz;go_enter Tryz.func117,Tryz.ntmps117;go_wp2_with fail;(with_reducible refine(EcG A xs n c _ HN.out h1 (HR.out.B (Eo _ _))).mono ?_);rintro e w2 ⟨rfl,rfl⟩;rw[hz.out];by_cases hlt:z<n;·rw[if_pos hlt];have t1:decide ((z:Int)<0)=Y:=E9 U;exact Elq
 ·rw[if_neg hlt];obtain rfl:z=n:=U;exact Elq
theorem EcM(b off:Nat)(a v:Int)(k:Nat)(r:List Int)(n c:Nat)(w:H)(hn:r.length+3=n)(hr:Row w (X ⟨b,off,Z⟩) (a::v::(k:Int)::r))(hc:n<=c)(hm:c<=9223372036854775807): Ef EJ 115 #[u (X ⟨b,off,Z⟩) n c] w fun e w'=>(∃Y3,e=Eg Y3/\mG w' w.heap.size (bu v k r) Y3)/\Eh w w':=by
 have hk:k<=255:=by have:=hr.2 k Ek;omega
 have b1:=Eo w (EI #[E I 0,E I 0,E I 0,u Z 0 0] 101);replace hr:=Iq hr b1;have HB1:=J b1
 have c2:(w.alloc (EI #[E I 0,E I 0,E I 0,u Z 0 0] 101)).cell? ⟨b,off+2,Z⟩=X (E IB (k:Int)):=by
  rcases hr.1 with h|⟨b',off',e,h⟩;·cases h
  ·injection e with e;injection e with e1 e2 e3;subst e1 e2;exact h 2 Ek
 have i2:2<n:=U;have HR:=J hr;have HN:=J hn;clear hr hn b1;unfold bu;have K0:=J<|D.new w #[E I 0,E I 0,E I 0,u Z 0 0] 101;by_cases h32:(32:Int)<k;·rw[if_pos h32];have t1:decide ((32:Int)<(k:Int))=G:=Ia h32;go_enter Tryz.func115,Tryz.ntmps115;go_wp2_with fail;(with_reducible refine(yo 11 _).mono ?_);rintro e w2 ⟨rfl,b2⟩;replace K0:=EN K0 b2;replace HB1:=ET HB1 b2;obtain⟨tv,IE⟩:=En (#[E I 3,E I 1,E I 11,u Z 0 0]:Array M);have TS:Ea (tv.size=4):=J bA;have TO:Ea (tv.all (·.oneCell')=G):=J bB;rw[<-IE];replace IE:=J IE;go_wp2_with (with_reducible refine wS (cs:=tv) JK K0 ?_ (hn:=TS.out) (h1:=TO.out));refine EQ (Jb JK O _ _ w.heap.size tv O (K0.out.setRow tv) TS.out) O ?_;rw[IE.out];exact⟨⟨_,O,pg _ _ (gJ 11) O⟩,E2 HB1.out (E5 _) _⟩
 rw[if_neg h32];have t1:decide ((32:Int)<(k:Int))=Y:=E9 h32;by_cases hw:(r.length:Int)<(k:Int)+2;·rw[if_pos hw];have t2:decide ((n:Int)<3+(k:Int)+2)=G:=Ia JP;go_enter Tryz.func115,Tryz.ntmps115;obtain⟨tv,IE⟩:=En (#[E I 0,E I 0,E I 0,u Z 0 0]:Array M);have TS:Ea (tv.size=4):=J bA;have TO:Ea (tv.all (·.oneCell')=G):=J bB;have BS:Ea (Tryz.prog.built 101 [(0,E I 0)]=X tv):=J (by rw[IE];kernel_rfl);replace IE:=J IE;go_wp2_with (first|((with_reducible refine In 19 ?_);refine IP rfl 101 _ rfl tv BS.out ?_)|(with_reducible refine wS (cs:=tv) JK K0 ?_ (hn:=TS.out) (h1:=TO.out)));refine EQ (Jb JK O _ _ w.heap.size tv O (K0.out.setRow tv) TS.out) O ?_;rw[IE.out];exact⟨⟨_,O,pg _ _ aO O⟩,E2 HB1.out (E5 _) _⟩
 rw[if_neg U];have t2:decide ((n:Int)<3+(k:Int)+2)=Y:=E9 JP;obtain⟨f,hf⟩: ∃f,f=if UY (v::(k:Int)::r.take (k:Int).toNat)≠256*r.getD (k:Int).toNat 0+r.getD ((k:Int).toNat+1) 0 then gJ 12 else mB (r.take (k:Int).toNat):=⟨_,O⟩
 rw[<-hf];rw[Int.toNat_natCast] at hf;go_enter Tryz.func115,Tryz.ntmps115;go_wp2_with fail;obtain⟨w1,hw1⟩: ∃w1,w1=w.alloc (EI #[E I 0,E I 0,E I 0,u Z 0 0] 101):=⟨_,O⟩;rw[<-hw1] at HR HB1 K0⊢;clear c2 hw1;have i3:3+k<n:=JP;have i4:3+k+1<n:=JP;have i5:3+k<=c:=U;obtain⟨x,hx⟩: ∃x,r[k]?=X x:=⟨r[k]' U,List.getElem?_eq_getElem _⟩;obtain⟨z,hz⟩: ∃z,r[k+1]?=X z:=⟨r[k+1]' U,List.getElem?_eq_getElem _⟩
 have cellAt: ∀(i:Nat) (Y3:Int),(a::v::(k:Int)::r)[i]?=X Y3-> ∀y:Ext w1,(Ex w1 y).cell? ⟨b,off+i,Z⟩=X (E IB Y3):=fun i Y3 h y=>by
  rcases(Iq HR.out (EC y)).1 with h2|⟨b',off',e,h2⟩;·cases h2
  ·injection e with e;injection e with e1 e2 e3;subst e1 e2;obtain⟨hi,he⟩:=List.getElem?_eq_some_iff.1 h;rw[h2 i hi,he]
 have yx:=cellAt (3+k) x (by rw[Nat.add_comm 3 k];exact hx);have yz:=cellAt (3+k+1) z (by rw[show 3+k+1=k+1+3 from U];exact hz);have xb:0<=x/\x<=255:=HR.out.2 x (List.mem_cons_of_mem _ (List.mem_cons_of_mem _ (List.mem_cons_of_mem _ (List.mem_of_getElem? hx))));have zb:0<=z/\z<=255:=HR.out.2 z (List.mem_cons_of_mem _ (List.mem_cons_of_mem _ (List.mem_cons_of_mem _ (List.mem_of_getElem? hz))));clear cellAt;have RC:Ea (Row w1 (X ⟨b,off+1,Z⟩) (v::(k:Int)::r.take k)):=J (by have:=j9 (ji HR.out 1) (k+2);simpa using this);have LC:Ea ((v::(k:Int)::r.take k).length=2+k):=J (by have:=HN.out;simp;omega);obtain⟨cr,hcr⟩:=En (UY (v::(k:Int)::r.take k));have CS:Ea (∀(y:Ext w1) (cc:Nat),Ef EJ 157 #[u (X ⟨b,off+1,Z⟩) (2+k) cc] (Ex w1 y) fun e w'=>e=Eg (.int .u16 cr)/\Ex w1 y=w'):=J (fun y cc=>by rw[hcr];exact Pq _ _ _ _ _ LC.out (Iq RC.out (EC y)) U);refine Uv Ec Ec ?_
 repeat (first
  |go_big_quiet_skip
  |(go_big_quiet_want
    first
     |(go_big_quiet_op
       first
        |go_big_quiet_on
        |go_big_quiet_call (go_loud (with_reducible refine U5 (CS.out _ _))))))
 refine wpQuiet_nil ?_;intro _ hw';obtain⟨y9,rfl⟩:=hw';have El:=EC y9;have TZ:(UY (v::(k:Int)::r.take k) !=bits .or .u16 (x*256) z)=(UY (v::(k:Int)::r.take k) !=256*x+z):=by rw[EcL x z xb.1 xb.2 zb.1 zb.2,Int.mul_comm]
 simp only[TZ];rw[List.getD_eq_getElem?_getD,List.getD_eq_getElem?_getD,hx,hz] at hf;simp only[Option.getD_some] at hf;replace K0:=EN K0 El;replace HB1:=ET HB1 El;replace HR:=J<|Iq HR.out El;clear El TZ CS RC LC yx yz xb zb hcr hx hz;generalize Ex w1 y9=w2 at*;clear y9 w1;by_cases hq:UY (v::(k:Int)::r.take k)=256*x+z
 ·rw[if_neg (by simp[hq])] at hf;subst hf;have tq:(UY (v::(k:Int)::r.take k) !=256*x+z)=Y:=by rw[hq];simp
  have hlen:(r.take k).length=k:=by rw[List.length_take];have:=HN.out;omega
  have RD:Ea (Row w2 (X ⟨b,off+3,Z⟩) (r.take k)):=J (by have:=j9 (ji HR.out 3) k;simpa using this);simp only[tq];go_wp2_with fail;(with_reducible refine(EcF (X ⟨b,off+3,Z⟩) (r.take k) k (c-3) _ hlen RD.out U).mono ?_);rintro e w3 ⟨⟨A',c',rfl,ow⟩,b2⟩;have OW:=J<|X9 ow (show w.heap.size<=w2.heap.size from HB1.out.size);replace K0:=EN K0 b2;replace HB1:=ET HB1 b2;clear ow b2 RD;have eS:(3+(k:Int)+2)=((k+5:Nat):Int):=U;rw[eS];obtain⟨tv,IE⟩:=En (#[E I 2,E I ((k+5:Nat):Int),E I 0,u A' k c']:Array M);have TS:Ea (tv.size=4):=J bA;have TO:Ea (tv.all (·.oneCell')=G):=J bB;have BS:Ea (Tryz.prog.built 101 [(0,E I 2),(1,E I ((k+5:Nat):Int)),(3,u A' k c')]=X tv):=J (by rw[IE];kernel_rfl);replace IE:=J IE;go_wp2_with (first|((with_reducible refine In 45 ?_);refine IP rfl 101 _ rfl tv BS.out ?_)|(with_reducible refine wS (cs:=tv) JK K0 ?_ (hn:=TS.out) (h1:=TO.out)));refine EQ (Jb JK O _ _ w.heap.size tv O (K0.out.setRow tv) TS.out) O ?_;rw[IE.out];exact⟨⟨_,O,⟨A',c',by simp only[mB,hlen],Zc OW.out K0.out _⟩⟩,E2 HB1.out (E5 _) _⟩
 ·rw[if_pos hq] at hf;subst hf;have tq:(UY (v::(k:Int)::r.take k) !=256*x+z)=G:=kn;simp only[tq];clear tq hq i3 i4 i5 i2;go_wp2_with fail;(with_reducible refine(yo 12 _).mono ?_);rintro e w3 ⟨rfl,b2⟩;replace K0:=EN K0 b2;replace HB1:=ET HB1 b2;obtain⟨tv,IE⟩:=En (#[E I 3,E I 1,E I 12,u Z 0 0]:Array M);have TS:Ea (tv.size=4):=J bA;have TO:Ea (tv.all (·.oneCell')=G):=J bB;rw[<-IE];replace IE:=J IE;go_wp2_with (with_reducible refine wS (cs:=tv) JK K0 ?_ (hn:=TS.out) (h1:=TO.out));refine EQ (Jb JK O _ _ w.heap.size tv O (K0.out.setRow tv) TS.out) O ?_;rw[IE.out];exact⟨⟨_,O,pg _ _ (gJ 12) O⟩,E2 HB1.out (E5 _) _⟩
theorem mH{b off:Nat}{xs:List Int}(h:Row W (X ⟨b,off,Z⟩) xs)(i:Nat){Y3:Int}(hi:xs[i]?=X Y3):W.cell? ⟨b,off+i,Z⟩=X (E IB Y3):=by
 obtain⟨hl,he⟩:=List.getElem?_eq_some_iff.1 hi;rcases h.1 with h2|⟨b',off',e,h2⟩;·rw[h2] at hl;exact absurd hl Ek
 ·injection e with e;injection e with e1 e2 e3;subst e1 e2;rw[h2 i hl,he]
end Go.Proofs.YtclmichaaiohjaaGreatDoor
