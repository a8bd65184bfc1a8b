import Derived.Test.YtclmichaaiohjaaGreatDoorU12
import Derived.DeepKeys
import Derived.Great.BuildSlice
import Derived.LoopTactic
set_option maxRecDepth 100000
set_option linter.unusedVariables false
set_option linter.unusedSimpArgs false
set_option maxHeartbeats 6400000
namespace Go.Proofs.YtclmichaaiohjaaGreatDoor
open RowKit
open And renaming intro->Jp
open _root_.Array renaming getElem?_eq_some_iff->J6
open Bool renaming true->EI,false->B,and_eq_true->Oc
open Go renaming World->H,Calls->Ef,TypeId->EB,Value->Y,Addr->Eu,Program->Jh,bodyPost_ret->EV,binOp->XW,results->UL,Exit->UM,Act->E6,Oper->EL,yielded->JO,execOp->If,wpList->Ic,undef->I2,Operand->J7,below_setRow->E2,wpQuiet_nil->I1,Ending->Uh
open Act renaming put->Ig
open Code renaming region->aG
open Ending renaming returned->Eg
open Instr renaming loadAt->fB,sureAddr->dJ,index->Uj
open IntKind renaming i64->I
open Lib renaming hid->J
open Obj renaming cells->EJ
open Go.Proofs.Tryz renaming prog->Eb
open Region renaming wanted->I5
open Result renaming andThen_ok->OC
open RowKit renaming Below->Ik,Hid->Ec,intOf->Ir
open RowKit.Below renaming refl->E9,mono->oL
open Sem renaming run_bind->Oz,run_pure->Og
open Value renaming bool->EU,int->E,agg->EZ,slice->G,tuple->Et,pointer->M,oneCell'->OF
open World renaming block_lt_of_cell?->Xv,ownsRow_nil->bN,ownsRow_lit->oC
open List renaming getElem?_eq_none->bf,getElem?_eq_getElem->J5,range->U4,mem_cons_of_mem->aJ,mem_cons_self->gS,nodup_cons->mc,all_eq_true->Xk,getElem?_eq_some_iff->Xx,take_succ_cons->Iq,length_take->aO,replicate->dT,take_of_length_le->OY,getD_eq_getElem?_getD->Uq,getElem?_append_left->bi,getElem?_append_right->aX,map_cons->Uv,map_nil->Xn,take_zero->Io,mem_map->dU,getElem?_toArray->OE,setIfInBounds_toArray->Ii,length_append->IY,flatMap_cons->kI,mem_cons->UJ,set_cons_succ->Ia,set_cons_zero->Ib,mem_append->XM,nil_append->ZV,getElem?_cons_zero->kZ,not_mem_nil->UA,drop_succ_cons->IP,drop_zero->IH,take_add_one->nE,all_nil->ah,all_cons->Z0,mem_of_getElem?->dn,mem_singleton->cF
open Nat renaming lt_or_ge->JY,le_trans->Ez,le_refl->E7,zero_add->OD,zero_le->bG,reduceAdd->ZK,le_of_lt->am,le_of_eq->Om
open Ne renaming symm->ZE
open Option renaming some->Z,none->X,map_some->jY
open Option.some renaming injEq->m_
open KQ
variable{W W' w w':H}{lo gq gp k lo2 gc gt gm n n0 off gl i d:Nat}{L:List One}{m:Int}{cs xs ys sv:Array Y}{g g2:Nat->Y}{v:Y}{c:Ey}{vs:List Nat}{a:E6}{rs:Int->List Int}{fn:Func}{p q:Tmp}{T Y3:EB}{ops:Array EL}{rest:List EL}{Q:UM->E6->H->Prop}{P:Jh}{A:Option Eu}{Y5:Array Y->Prop}{x y:J7}
theorem EhW:IG Eb 24 3:=⟨⟨_,Tryz.underlying24,O⟩,Ed⟩
theorem EhY(a b c:Y)(W:H):(Uj 24 (EZ #[a,b,c]) (E I 0)).run Eb W= .ok a W:=Ed
theorem Eh0(a b c:Y)(W:H):(Uj 24 (EZ #[a,b,c]) (E I 1)).run Eb W= .ok b W:=Ed
theorem Eh1(a b c:Y)(W:H):(Uj 24 (EZ #[a,b,c]) (E I 2)).run Eb W= .ok c W:=Ed
def xP(w:H)(g:Nat->Y)(kl:Nat->Nat):Prop:= ∀i,5<=i->i<=8-> ∃(A:Option Eu) (cap:Nat) (ys:List Int),g i=G A (kl i) cap/\ys.length=kl i/\Row w A ys
theorem xQ(h:Jn W lo gq L m)(hb:El W W'):Jn W' lo gq L m:=by obtain⟨v,came,k,r2,r3⟩:=h;exact⟨v,came,k.V hb,r2,EP r3 fun _ _ hk=>hk.V hb⟩
theorem DP{S:EB}(h:Jn W lo gq L m)(ho:E3 gp W W')(K:D W gp cs S)(h1:152≠S)(h2:171≠S):Jn W' lo gq L m:=by obtain⟨v,came,k,r2,r3⟩:=h;exact⟨v,came,ho.Ek k (EW k K h1),r2,EP r3 fun _ _ hk=>ho.Ek hk (EW hk K h2)⟩
theorem Eh2(pv:Array Y)(e5:Int)(w:H)(hs:pv.size=56)(h5:pv[55]?=Z (E I e5)): Ef Eb 42 #[EZ pv] w fun e w'=>e=Eg (EZ #[E I 4,E I e5,E I (-1),E I 0,E I 0,E I 0,E I 0,EU B])/\El w w':=by
 have K0:=J<|D.new w pv 28;have b2:=JV w (EJ pv 28) (EJ #[E I 0,E I 0,E I 0,E I 0,E I 0,E I 0,E I 0,EU B] 109);have c1:((w.alloc (EJ pv 28)).alloc (EJ #[E I 0,E I 0,E I 0,E I 0,E I 0,E I 0,E I 0,EU B] 109)).cell? ⟨w.heap.size,55,X⟩=Z (E I e5):=by rw[(D.V K0.out (Er _ _)).cell,h5]
 have KT:Ec (D ((w.alloc (EJ pv 28)).alloc (EJ #[E I 0,E I 0,E I 0,E I 0,E I 0,E I 0,E I 0,EU B] 109)) (w.heap.size+1) #[E I 0,E I 0,E I 0,E I 0,E I 0,E I 0,E I 0,EU B] 109):=J (by have:=D.new (w.alloc (EJ pv 28)) #[E I 0,E I 0,E I 0,E I 0,E I 0,E I 0,E I 0,EU B] 109;simpa using this);have u:=J b2;clear b2 hs h5 K0;go_enter Tryz.func42,Tryz.ntmps42;go_wp2_with (with_reducible refine I7 4 ?_);apply Eo;generalize (w.alloc (EJ pv 28)).alloc (EJ #[E I 0,E I 0,E I 0,E I 0,E I 0,E I 0,E I 0,EU B] 109)=w1 at*;go_wp2_with fail;have TP:Ef Eb 67 #[EZ #[E I 0,E I 0,E I 0,E I 0,E I 0,E I 0,E I 0,EU B],E I 4,E I e5] w1 fun x w'=>x=Eg (EK.pass ⟨0,0,0,0,0,0,0,B⟩ 4 e5).a/\El w1 w':=FG ⟨0,0,0,0,0,0,0,B⟩ 4 e5 w1;refine TP.mono ?_;rintro e w2 ⟨rfl,bb⟩;replace KT:=EM KT bb;replace u:=ET u bb;clear bb c1;obtain⟨tv,IE⟩: ∃tv,(EK.pass ⟨0,0,0,0,0,0,0,B⟩ 4 e5).a=EZ tv/\tv= #[E I 4,E I e5,E I (-1),E I 0,E I 0,E I 0,E I 0,EU B]:=⟨_,O,O⟩;rw[IE.1];have TS:Ec (tv.size=8):=J (by rw[IE.2];rfl);have TO:Ec (tv.all (·.oneCell')=EI):=J (by rw[IE.2];simp[OF]);have J4:=J IE.2;clear IE;go_wp2_with (with_reducible refine wS (cs:=tv) ER KT ?_ (hn:=TS.out) (h1:=TO.out));refine EV (Jj ER O _ _ (w.heap.size+1) tv O (KT.out.setRow tv) TS.out) O ?_;rw[J4.out];exact⟨O,E2 u.out U _⟩
theorem MY:TM 0 0:=by unfold TM;omega
def EEq(g:Nat->Y)(p:Nat->Int)(kl:Nat->Nat)(w:H)(e:Uh)(w':H):Prop:=
 (U_ p kl≠0/\e=Eg (Et #[M X,E I (U_ p kl)]))\/(U_ p kl=0/\ ∃(g2:Nat->Y) (gc gq gt:Nat),e=Eg (Et #[M (Z ⟨gc,0,X⟩),E I 0])/\JE w.heap.size g2 gc gq gt (c0 p) w'/\ ∀i,i<56->i<5\/8<i->g2 i=E I (p i))
structure nW(W:H)(lo gp k:Nat)(g g2:Nat->Y):Prop where
 Ek:D W gp (EG 56 g2) 28
 num: ∀i,i<56->i<5\/8<i->g2 i=g i
 old: ∀i,5+k<=i->i<=8->g2 i=g i
 new: ∀i,5<=i->i<5+k->ig W lo (g2 i)
theorem nW.V(h:nW W lo gp k g g2)(hb:El W W'):nW W' lo gp k g g2:=
 ⟨h.Ek.V hb,h.num,h.old,fun i h1 h2=>(h.new i h1 h2).Ek fun _ _ hk=>hk.V hb⟩
theorem nW.set(h:nW W lo gp k g g2)(hk:k<4)(hv:ig W lo v):nW (W.setCell ⟨gp,5+k,X⟩ v) lo gp (k+1) g (UR g2 (5+k) v):=by
 have ho:=J1 (g:=gp) (W:=W) (5+k) v;have hb: ∀Y3,ig W lo Y3->ig (W.setCell ⟨gp,5+k,X⟩ v) lo Y3:=fun Y3 hu=>hu.Ek fun _ _ hk=>ho.Ek hk (EW hk h.Ek Ea);refine⟨?_,fun i h1 h2=> ?_,fun i h1 h2=> ?_,fun i h1 h2=> ?_⟩;·rw[<-zZ];exact h.Ek.set _ _
 ·rw[oH _ _ _ _ U];exact h.num i h1 h2
 ·rw[oH _ _ _ _ U];exact h.old i U h2
 ·by_cases hi:i=5+k;·subst hi;rw[F9];exact hb _ hv
  ·rw[oH _ _ _ _ hi];exact hb _ (h.new i h1 U)
theorem Eh3(g:Nat->Y)(p:Nat->Int)(kl:Nat->Nat)(w:H)(hv:xN g p kl)(hk:xP w g kl)(hR:Jt w)(hC:Xr w)(h2:2<=w.heap.size): Ef Eb 23 #[EZ (EG 56 g)] w fun e w'=>EEq g p kl w e w'/\El w w':=by
 have PV:=J hv;have KI:=J hk;have RC:=J<|Jp hR hC;have K0:=J<|D.new w (EG 56 g) 28;have tA:=Er w (EJ (EG 56 g) 28);obtain⟨ck,hck⟩:=En (U_ p kl);have CK:Ec (∀W,Ef Eb 39 #[EZ (EG 56 g)] W fun e w'=>e=Eg (E I ck)/\El W w'):=J (fun W=>by rw[hck];exact EhM g p kl W hv);have qS:=J hck;clear hv hk hR hC hck;obtain⟨pv,hpv⟩:=En (EG 56 g);rw[<-hpv] at K0 tA CK⊢;have PS:Ec (pv.size=56):=J (by rw[hpv];simp);have HPV:=J hpv;clear hpv;go_enter Tryz.func23,Tryz.ntmps23;go_wp2_with (with_reducible refine I7 9 ?_);apply Eo;obtain⟨gp,UD⟩:=En w.heap.size;rw[<-UD] at K0⊢;have HGP:=J UD;have KP:=J K0.out;have u:=J tA;clear K0 tA UD;generalize w.alloc (EJ pv 28)=w1 at*;go_wp2_with (with_reducible refine wL U1 KP ?_ (hn:=PS.out));refine(CK.out _).mono ?_;rintro e w2 ⟨rfl,bb⟩;replace u:=ET u bb;replace KP:=EM KP bb;clear bb CK PS;by_cases hc:ck=0
 case neg=>
  have t1:(ck !=0)=EI:=by simp[hc]
  go_wp2_with fail;go_ret2;refine⟨Or.inl ⟨?_,?_⟩,u.out⟩;·rw[<-qS.out];exact hc
  ·rw[<-qS.out];rfl
 subst hc;have OK:=J<|EhV qS.out.symm;rw[HPV.out] at KP;clear HPV;have c48:w2.cell? ⟨gp,48,X⟩=Z (E I (p 48)):=by rw[D.cell KP.out 48,d_,if_pos U,(PV.out.int 48 U U).1]
 have h48:=OK.out.1 48 U U;simp only[Zi,U6] at h48;go_wp2_with fail;refine(EcL w.heap.size (p 48) _ (by simp at h48;omega) u.out.size).mono ?_;rintro e w3 ⟨⟨gq,rfl,hgq,qb⟩,bb⟩;have QB:=J qb;have HGQ:Ec (w.heap.size<=gq):=J<|Ez u.out.size hgq;replace u:=ET u bb;replace KP:=EM KP bb;clear bb qb hgq c48 h48;obtain⟨A5,d5,ys5,e5,l5,r5⟩:=KI.out 5 U U;obtain⟨A6,d6,ys6,e6,l6,r6⟩:=KI.out 6 U U;obtain⟨A7,d7,ys7,e7,l7,r7⟩:=KI.out 7 U U;obtain⟨A8,d8,QJ,e8,l8,r8⟩:=KI.out 8 U U;have EX5:Ec ((EG 56 g).extract 5 (5+3)= #[G A5 (kl 5) d5,G A6 (kl 6) d6,G A7 (kl 7) d7]):=J (by have e:(EG 56 g).extract 5 (5+3)= #[g 5,g 6,g 7]:=hI;rw[e,e5,e6,e7]);have E8:=J e8;have R5:=J r5;have R6:=J r6;have R7:=J r7;have R8:=J r8;have CB:Ec (nW w3 w.heap.size gp 0 g g):=J ⟨KP.out,fun _ _ _=>rfl,fun _ _ _=>rfl,fun i h1 h2=>U⟩;clear e5 e6 e7 e8 r5 r6 r7 r8;have k5:=OK.out.2 5 U U;have k6:=OK.out.2 6 U U;have k7:=OK.out.2 7 U U;have k8:=OK.out.2 8 U U;go_wp2_with (with_reducible refine wM (off:=5) (cs:= #[G A5 (kl 5) d5,G A6 (kl 6) d6,G A7 (kl 7) d7]) EhW KP ?_ (he:=EX5.out));clear EX5 KP;go_loopw[25] (fun y wr=> ∃(k:Nat) (g2:Nat->Y),k<=3/\y=E I k/\nW wr w.heap.size gp k g g2/\Jn wr w.heap.size gq [] (p 48)/\El w wr) (fun y _=>3-(Ir y).toNat);case atStart=>exact⟨0,g,U,O,CB.out,QB.out,u.out⟩
 case round=>
  obtain⟨k,g2,hk,rfl,cb,qb,bb⟩:=hrel;replace CB:=J cb;replace QB:=J qb;replace u:=J bb;clear cb qb bb;have hkk:k=0\/k=1\/k=2\/k=3:=U;rcases hkk with rfl|rfl|rfl|rfl
  ·have IX:=EhY (G A5 (kl 5) d5) (G A6 (kl 6) d6) (G A7 (kl 7) d7);simp only[show((0:Nat):Int)=0 from rfl];go_wp2_with fail;refine(DO A5 ys5 (kl 5) d5 _ l5 (Ix R5.out u.out) U).mono ?_;rintro e w4 ⟨⟨A',c',rfl,ow⟩,bb⟩;have KY:=J<|DN (b_ ow (show w.heap.size<=wr.heap.size from u.out.size)) l5 k5.1 k5.2;replace CB:=J<|CB.out.V bb;replace QB:=J<|xQ QB.out bb;replace u:=ET u bb;clear ow bb IX;have cs:w4.cell? ⟨gp,5,X⟩=Z (g2 5):=by rw[D.cell CB.out.Ek 5,d_,if_pos U]
   have ff:w4.frozen? ⟨gp,5,X⟩=B:=D.JX CB.out.Ek 5;have S4:=J<|CB.out.set (k:=0) U KY.out;have Q4:=J<|DP QB.out (J1 (g:=gp) (W:=w4) 5 (G A' (kl 5) c')) CB.out.Ek Ea Ea;have B4:=J<|u.out.setCell (p:=⟨gp,5,X⟩) DQ (G A' (kl 5) c');go_wp2_with fail;exact⟨⟨1,_,U,Eh,S4.out,Q4.out,B4.out⟩,Zj⟩
  ·have IX:=Eh0 (G A5 (kl 5) d5) (G A6 (kl 6) d6) (G A7 (kl 7) d7);simp only[show((1:Nat):Int)=1 from rfl];go_wp2_with fail;refine(DO A6 ys6 (kl 6) d6 _ l6 (Ix R6.out u.out) U).mono ?_;rintro e w4 ⟨⟨A',c',rfl,ow⟩,bb⟩;have KY:=J<|DN (b_ ow (show w.heap.size<=wr.heap.size from u.out.size)) l6 k6.1 k6.2;replace CB:=J<|CB.out.V bb;replace QB:=J<|xQ QB.out bb;replace u:=ET u bb;clear ow bb IX;have cs:w4.cell? ⟨gp,6,X⟩=Z (g2 6):=by rw[D.cell CB.out.Ek 6,d_,if_pos U]
   have ff:w4.frozen? ⟨gp,6,X⟩=B:=D.JX CB.out.Ek 6;have S4:=J<|CB.out.set (k:=1) U KY.out;have Q4:=J<|DP QB.out (J1 (g:=gp) (W:=w4) 6 (G A' (kl 6) c')) CB.out.Ek Ea Ea;have B4:=J<|u.out.setCell (p:=⟨gp,6,X⟩) DQ (G A' (kl 6) c');go_wp2_with fail;exact⟨⟨2,_,U,Eh,S4.out,Q4.out,B4.out⟩,Zj⟩
  ·have IX:=Eh1 (G A5 (kl 5) d5) (G A6 (kl 6) d6) (G A7 (kl 7) d7);simp only[show((2:Nat):Int)=2 from rfl];go_wp2_with fail;refine(DO A7 ys7 (kl 7) d7 _ l7 (Ix R7.out u.out) U).mono ?_;rintro e w4 ⟨⟨A',c',rfl,ow⟩,bb⟩;have KY:=J<|DN (b_ ow (show w.heap.size<=wr.heap.size from u.out.size)) l7 k7.1 k7.2;replace CB:=J<|CB.out.V bb;replace QB:=J<|xQ QB.out bb;replace u:=ET u bb;clear ow bb IX;have cs:w4.cell? ⟨gp,7,X⟩=Z (g2 7):=by rw[D.cell CB.out.Ek 7,d_,if_pos U]
   have ff:w4.frozen? ⟨gp,7,X⟩=B:=D.JX CB.out.Ek 7;have S4:=J<|CB.out.set (k:=2) U KY.out;have Q4:=J<|DP QB.out (J1 (g:=gp) (W:=w4) 7 (G A' (kl 7) c')) CB.out.Ek Ea Ea;have B4:=J<|u.out.setCell (p:=⟨gp,7,X⟩) DQ (G A' (kl 7) c');go_wp2_with fail;exact⟨⟨3,_,U,Eh,S4.out,Q4.out,B4.out⟩,Zj⟩
  ·simp only[show((3:Nat):Int)=3 from rfl];have c8:wr.cell? ⟨gp,8,X⟩=Z (G A8 (kl 8) d8):=by rw[D.cell CB.out.Ek 8,d_,if_pos U,CB.out.old 8 U U,E8.out]
   go_wp2_with fail;refine(DO A8 QJ (kl 8) d8 _ l8 (Ix R8.out u.out) U).mono ?_;rintro e w4 ⟨⟨A',c',rfl,ow⟩,bb⟩;have KY:=J<|DN (b_ ow (show w.heap.size<=wr.heap.size from u.out.size)) l8 k8.1 k8.2;replace CB:=J<|CB.out.V bb;replace QB:=J<|xQ QB.out bb;replace u:=ET u bb;clear ow bb c8;have cs:w4.cell? ⟨gp,8,X⟩=Z (g2 8):=by rw[D.cell CB.out.Ek 8,d_,if_pos U]
   have ff:w4.frozen? ⟨gp,8,X⟩=B:=D.JX CB.out.Ek 8;have S4:=J<|CB.out.set (k:=3) U KY.out;have Q4:=J<|DP QB.out (J1 (g:=gp) (W:=w4) 8 (G A' (kl 8) c')) CB.out.Ek Ea Ea;have B4:=J<|u.out.setCell (p:=⟨gp,8,X⟩) DQ (G A' (kl 8) c');go_wp2_with fail;obtain⟨g3,hg3⟩: ∃g3,g3=UR g2 (5+3) (G A' (kl 8) c'):=⟨_,O⟩;rw[<-hg3] at S4;have K3:=J S4.out.Ek;clear cs ff CB QB u KY hg3;generalize w4.setCell ⟨gp,8,X⟩ (G A' (kl 8) c')=w5 at*;have G3: ∀i,i<56->i<5\/8<i->g3 i=E I (p i):=fun i h1 h2=>(S4.out.num i h1 h2).trans (PV.out.int i h1 h2).1;have GN:=J G3;obtain⟨fo,xR⟩:=En (EG 56 g3);rw[<-xR] at K3;have xS:Ec (fo.size=56):=J (by rw[xR];simp);have P3: ∀i,i<56->i<5\/8<i->fo[i]?=Z (E I (p i)):=fun i h1 h2=>by rw[xR,d_,if_pos h1,G3 i h1 h2]
   obtain⟨m5,tE⟩:=En (p 39);have C39:Ec (∀W,El w5 W->W.cell? ⟨gp,39,X⟩=Z (E I m5)):=J (fun W hW=>by rw[D.cell (D.V K3.out hW) 39,P3 39 U U,tE]);obtain⟨DR,htk⟩:=En (#[E I 4,E I (p 55),E I (-1),E I 0,E I 0,E I 0,E I 0,EU B]:Array Y);have TN:Ec (∀W,Ef Eb 42 #[EZ fo] W fun e w'=>e=Eg (EZ DR)/\El W w'):=J (fun W=>by rw[htk];exact Eh2 fo (p 55) W xS.out (P3 55 U U));obtain⟨T0,hT0⟩:=En (iZ (p 42) (p 49));obtain⟨n0,hn0⟩:=En w5.heap.size;have Xt:=J hn0;have TT:Ec (∀W,El w5 W->Ef Eb 43 #[EZ fo] W fun e w'=> ∃g,n0<=g/\e=Eg (M (Z ⟨g,0,X⟩))/\Il w' g T0/\El W w'):=J (fun W hW=>by rw[hT0];refine(EZL fo (p 42) (p 49) W xS.out (P3 42 U U) (P3 49 U U)).mono ?_;rintro e w' ⟨g,h1,h2,h3,h4⟩;exact⟨g,Ez (Ez (Om hn0) hW.size) h1,h2,h3,h4⟩);obtain⟨zh,M0⟩:=En (Ej (Ep 32));have OFN:Ec (∀W,Ef Eb 45 #[G X 0 0] W fun e w'=>e=Eg (EZ zh)/\El W w'):=J (fun W=>by rw[M0];exact of_nil W);have BPT:Ec (Tryz.prog.built 50 [(0,E I 1),(3,EZ #[E I 2,E I 4,E I 0])]=Z #[E I 1,E I 0,E I 0,E I 0,E I 0,E I 0,E I 0,E I 0,E I 0,E I 2,E I 4,E I 0]):=J Ed;obtain⟨cv,hcv⟩:=En (core0 g3 p gq);have BC:Ec (∀gt:Nat,Tryz.prog.built 120 [(0,EZ fo),(1,EZ DR),(2,M (Z ⟨gq,0,X⟩)),(4,M (Z ⟨gt,0,X⟩)),(7,E I m5),(8,EZ #[E I 2,E I 4,E I 0]),(9,EZ #[E I 1,E I 0,E I 0,E I 0,E I 0,E I 0,E I 0,E I 0,E I 0,E I 2,E I 4,E I 0]),(10,EZ zh)]=Z (cv gt)):=J (fun gt=>by rw[xR,htk,tE,M0,hcv];exact EhS g3 p gq gt);have M8:=J hcv;have HT0:=J hT0;clear G3 xR P3 tE htk hT0 hn0 M0 hcv;refine bH (Ph:=fun _ wq=>El w5 wq) (Rel:=J0) (Is:=fun w w'=>w=w') [kq (EZ fo),kq (EZ fo),kq (EZ DR),kp gq 0,kq (EZ fo),.dep (fun v w=> ∃gt:Nat,v=M (Z ⟨gt,0,X⟩)/\n0<=gt/\Il w gt T0) (fun v w w' h hr=>EEx) (fun v w w' h hr=>Z8),kp gp 39,kq (E I m5),kq (EZ #[E I 2,E I 4,E I 0]),kq (EZ #[E I 2,E I 4,E I 0]),kq (EZ #[E I 1,E I 0,E I 0,E I 0,E I 0,E I 0,E I 0,E I 0,E I 0,E I 2,E I 4,E I 0]),kq (EZ zh),.dep (fun v w=> ∃gt:Nat,v=EZ (cv gt)/\n0<=gt/\Il w gt T0) (fun v w w' h hr=>EEx) (fun v w w' h hr=>Z8),.dep (fun v w=> ∃gc gt:Nat,v=M (Z ⟨gc,0,X⟩)/\n0<=gc/\n0<=gt/\D w gc (cv gt) 120/\Il w gt T0) (fun v w w' h hr=>EEy) (fun v w w' h hr=>Z8),.dep (fun v w=> ∃gc gt:Nat,v=M (Z ⟨gc,0,X⟩)/\n0<=gc/\n0<=gt/\D w gc (cv gt) 120/\Il w gt T0) (fun v w w' h hr=>EEy) (fun v w w' h hr=>Z8),kq (E I 0)] [B,B,B,B,B,B,B,B,B,B,B,B,B,B,B,B] O [] [(0,0),(0,0),(0,0),(0,0),(0,0),(0,0),(0,0),(0,0),(0,0),(0,0),(0,0),(0,0),(0,0),(0,0),(0,0),(0,0)] Ed Ed Ed Ed Ed UP Ed ?hPh ?h0 ?hstep ?hend;case hPh=> intro p_ w2 w3 h hr;exact bt h hr
   case h0=> exact Jg w5
   case hstep=>
    refine⟨?_,?_,?_,?_,?_,?_,?_,?_,?_,?_,?_,?_,?_,?_,?_,?_,trivial⟩;all_goals intro xv wq p_ hlo hhi hp hd
    all_goals simp only[EH,Ig,Ii,Ia,Ib]
    ·exact En0
    ·exact En0
    ·have d1:xv 1=EZ fo:=hd.at 1 rfl;refine JH (f:=42) (args:= #[xv 1]) (Ei O) Ex ?_;rw[d1];exact(TN.out wq).mono fun e w2 ⟨he,hb⟩=>⟨_,he,hb,O⟩
    ·exact EmZ
    ·exact En0
    ·have d4:xv 4=EZ fo:=hd.at 4 rfl;refine JH (f:=43) (args:= #[xv 4]) (Ei O) Ex ?_;rw[d4];exact(TT.out wq hp).mono fun e w2 ⟨gt,hg,he,ht,hb⟩=>⟨_,he,hb,gt,O,hg,ht⟩
    ·exact EmZ
    ·have d6:xv 6=M (Z ⟨gp,39,X⟩):=hd.at 6 rfl;have cc:wq.cell? ⟨gp,39,X⟩=Z (E I m5):=(C39.out wq hp);exact Es Bq O
    ·exact EnM
    ·exact EnM
    ·have d9:xv 9=EZ #[E I 2,E I 4,E I 0]:=hd.at 9 rfl;exact IM EF (Ei O) (Mc O (by simp only[Uv,Xn,d9];exact BPT.out)) O
    ·refine JH (f:=45) (args:= #[G X 0 0]) (Ei O) Ex ?_;exact(OFN.out wq).mono fun e w2 ⟨he,hb⟩=>⟨_,he,hb,O⟩
    ·have d0:xv 0=EZ fo:=hd.at 0 rfl;have d2:xv 2=EZ DR:=hd.at 2 rfl;have d3:xv 3=M (Z ⟨gq,0,X⟩):=hd.at 3 rfl;have d7:xv 7=E I m5:=hd.at 7 rfl;have d8:xv 8=EZ #[E I 2,E I 4,E I 0]:=hd.at 8 rfl;have d10:xv 10=EZ #[E I 1,E I 0,E I 0,E I 0,E I 0,E I 0,E I 0,E I 0,E I 0,E I 2,E I 4,E I 0]:=hd.at 10 rfl;have d11:xv 11=EZ zh:=hd.at 11 rfl;obtain⟨gt,e5_,l5_,t5_⟩: ∃gt:Nat,xv 5=M (Z ⟨gt,0,X⟩)/\n0<=gt/\Il wq gt T0:=hd.at 5 rfl;exact IM EF (Ei O) (Mc O (by simp only[Uv,Xn,d0,d2,d3,e5_,d7,d8,d10,d11];exact BC.out gt)) ⟨gt,O,l5_,t5_⟩
    ·obtain⟨gt,e12,Sv,t12⟩: ∃gt:Nat,xv 12=EZ (cv gt)/\n0<=gt/\Il wq gt T0:=hd.at 12 rfl;exact Zg (w':=wq.alloc (EJ (cv gt) 120)) (Ei O) (by simp[go_sem,e12]) (Er wq _) ⟨wq.heap.size,gt,O,Ez (Om Xt.out) hp.size,Sv,D.new _ _ _,t12.V (Er wq _)⟩
    ·exact Es Ex (hd.at 13 rfl: ∃gc gt:Nat,xv 13=M (Z ⟨gc,0,X⟩)/\n0<=gc/\n0<=gt/\D wq gc (cv gt) 120/\Il wq gt T0)
    ·exact EmZ
   case hend=>
    intro xv W6 hp hd;simp only[EH,Ig,Ii,Ia,Ib];obtain⟨gc,gt,e14,l1,l2,kc,kt⟩: ∃gc gt:Nat,xv 14=M (Z ⟨gc,0,X⟩)/\n0<=gc/\n0<=gt/\D W6 gc (cv gt) 120/\Il W6 gt T0:=hd 14 Ea;have e15:xv 15=E I 0:=hd 15 Ea;rw[e14,e15];have KC:=J kc;have KT:=J kt;have QF:=J<|xQ Q4.out hp;have SF:=J<|S4.out.V hp;have BF:=ET B4 hp;have HL:Ec (w.heap.size<=n0):=J (by rw[Xt.out];exact B4.out.size);clear hd kc kt e14 e15 hp Q4 S4 B4 TN TT OFN BPT BC C39 K3;go_wp2_with fail;go_ret2;refine⟨Or.inr ⟨qS.out.symm,g3,gc,gq,gt,O,?_,GN.out⟩,BF.out⟩;have hl:=HL.out;refine⟨h2,⟨fun i h1 h3=> ?_,fun i h1 h3=> ?_⟩,?_,Ez hl l1,HGQ.out,Ez hl l2,⟨qR,qR,qR,Ep 32,?_,MW,MW,MW,O,Ea⟩,?_,?_,fun i h1 h3=>SF.out.new i h1 U,(RC.out.1).V BF.out,(RC.out.2).V BF.out⟩;·rw[GN.out i h1 h3];exact⟨O,(PV.out.int i h1 h3).2⟩
    ·have ho:=OK.out.1 i h1 h3;refine⟨(p i).toNat,?_,?_,?_,fun h4 h5=> ?_⟩;·rw[GN.out i h3 U,Int.toNat_of_nonneg U]
     ·omega
     ·omega
     ·have:=ho.2.2 h4 h5;omega
    ·have o55:=OK.out.1 55 U U;have o42:=OK.out.1 42 U U;have o49:=OK.out.1 49 U U;have o39:=OK.out.1 39 U U;simp only[Zi,U6] at o55 o42 o49 o39;refine⟨⟨fp,?_,fp,fp,fp,fp,fp,fp⟩,EZH _ _,fp,fp,fp,fp,fp,fp,?_,⟨M9,M9,M9⟩,⟨lP,lP,lP,lP,lP,lP,lP,lP,lP⟩,?_⟩;·show 0<=p 55/\p 55<=65535;simp at o55;omega
     ·show 0<=p 39/\p 39<=4;simp at o39;omega
     ·refine⟨?_,⟨DT,DT,DT,DT⟩,fun i=> ?_⟩;·show 0<=p 42/\p 42<=1000;simp at o42;omega
      ·show TM ((iZ (p 42) (p 49)).E4 i).a ((iZ (p 42) (p 49)).E4 i).m;match i with
       |0=>exact MY
       |1=>exact MY
       |_+2=>exact MY
    ·have:=KC.out;rw[M8.out] at this;exact this
    ·have:=KT.out;rw[HT0.out] at this;exact this
    ·have e48:pn g3 48=p 48:=by unfold pn;rw[GN.out 48 U U];rfl
     rw[e48];exact QF.out
theorem JE.mono(h:JE lo g gc gq gt c W)(hl:lo2<=lo)(h2:2<=lo2):JE lo2 g gc gq gt c W:=by obtain⟨v,came,k,r2,r3⟩:=h.ZL;refine⟨h2,h.X2,h.ok,Ez hl h.lc,Ez hl h.lq,Ez hl h.lt,h.Ek,h.tab,⟨v,came,k,r2,nM r3 hl⟩,fun i a b=> ?_,h.roots,h.cmds⟩;obtain⟨gk,n,cap,cur,ys,h1,h3,h4⟩:=h.keys i a b;exact⟨gk,n,cap,cur,ys,h1,Ez hl h3,h4⟩
def EiO(vs:List Nat):List Y:=vs.map (fun s=>M (Z ⟨s,0,X⟩))++dT (3-vs.length) (M X)
def nY(gc:Nat)(vs:List Nat):Array Y:=([M (Z ⟨gc,0,X⟩),E I 0]++EiO vs).toArray
theorem EiU(gc:Nat)(vs:List Nat)(b:Nat)(h:vs.length<3):(nY gc vs).setIfInBounds (2+vs.length) (M (Z ⟨b,0,X⟩))=nY gc (vs++[b]):=by
 match vs,h with
 |[],_=>rfl
 |[_],_=>rfl
 |[_,_],_=>rfl
structure jP(lo gm gc:Nat)(vs:List Nat)(W:H):Prop where
 Ek:D W gm (nY gc vs) 84
 st: ∀s∈vs,lo<=s/\D W s #[G X 0 0] 122
 nd:vs.Nodup
theorem jP.V(h:jP lo gm gc vs W)(hb:Ik W.heap.size W W'):jP lo gm gc vs W':=
 ⟨h.Ek.V hb,fun s hs=>⟨(h.st s hs).1,D.V (h.st s hs).2 hb⟩,h.nd⟩
theorem jP.add{W2:H}{b:Nat}(h:jP lo gm gc vs W)(hb:Ik W.heap.size W W2)(hl:lo<=b)(hn:W.heap.size<=b)(kb:D W2 b #[G X 0 0] 122)(h3:vs.length<3):jP lo gm gc (vs++[b]) (W2.setCell ⟨gm,2+vs.length,X⟩ (M (Z ⟨b,0,X⟩))):=by
 have k2:=h.Ek.V hb;have on:=J1 (g:=gm) (W:=W2) (2+vs.length) (M (Z ⟨b,0,X⟩));refine⟨by rw[<-EiU gc vs b h3];exact k2.set _ _,fun s hs=> ?_,?_⟩
 ·rcases XM.1 hs with hs|hs;·exact⟨(h.st s hs).1,on.Ek (D.V (h.st s hs).2 hb) (EW (D.V (h.st s hs).2 hb) k2 Ea)⟩
  ·rw[cF.1 hs];exact⟨hl,on.Ek kb (EW kb k2 Ea)⟩
 ·rw[List.nodup_append];refine⟨h.nd,Eh,fun s hs t ht e=> ?_⟩;rw[cF.1 ht] at e;have:=(h.st s hs).2.lt;omega
theorem EiX(gm:Nat)(j:Nat)(hj:j<3)(W:H):(Instr.indexAt 82 (M (Z ⟨gm,2,X⟩)) (E I (j:Int))).run Eb W= .ok (M (Z ⟨gm,2+j,X⟩)) W:=by have:=YC gm ((j:Int)+1) j O hj W;rwa [Int.add_sub_cancel] at this
def EiZ(p:Nat->Int)(kl:Nat->Nat)(w:H)(e:Uh)(w':H):Prop:=
 (U_ p kl≠0/\ ∃gm,e=Eg (M (Z ⟨gm,0,X⟩))/\w.heap.size<=gm/\D w' gm #[M X,E I (U_ p kl),M X,M X,M X] 84)
 \/(U_ p kl=0/\ ∃(g2:Nat->Y) (a:UK),e=Eg (M (Z ⟨a.gm,0,X⟩))/\Jq w.heap.size g2 a (c0 p) (fun _=>[]) w'/\ ∀i,i<56->i<5\/8<i->g2 i=E I (p i))
theorem Jq.Eia(h:jP lo gm gc vs W)(C:JE lo g gc gq gt c W)(hm:lo<=gm)(h3:vs.length=3): ∃a:UK,a.gm=gm/\Jq lo g a c (fun _=>[]) W:=by
 match vs,h3 with
 |[s1,s2,s3],_=> have hn:=h.nd;simp only[mc,UJ,UA,or_false,not_or,not_false_eq_true,List.nodup_nil,and_true] at hn;have st: ∀s∈[s1,s2,s3],cW lo s [] W:=fun s hs=>⟨X,0,(h.st s hs).2,X0 _ _⟩;exact⟨⟨gc,gq,gt,gm,s1,s2,s3⟩,O,⟨C,h.Ek,hm,(h.st s1 Eh).1,(h.st s2 Eh).1,(h.st s3 Eh).1,hn.1.1,hn.1.2,hn.2,st s1 Eh,st s2 Eh,st s3 Eh,fun _=>⟨by intro x hx;simp at hx,Eh⟩⟩⟩
theorem Eib(gc:Nat)(vs:List Nat)(h:vs.length<3):(nY gc vs)[2+vs.length]?=Z (M X):=by
 match vs,h with
 |[],_=>rfl
 |[_],_=>rfl
 |[_,_],_=>rfl
theorem EEC(g:Nat->Y)(p:Nat->Int)(kl:Nat->Nat)(w:H)(hv:xN g p kl)(hk:xP w g kl)(hR:Jt w)(hC:Xr w)(h2:2<=w.heap.size): Ef Eb 10 #[EZ (EG 56 g)] w fun e w'=>EiZ p kl w e w'/\Ik w.heap.size w w':=by
 have K0:=J<|D.new w (EG 56 g) 28;have b1:=Er w (EJ (EG 56 g) 28);have CN:Ec (Ef Eb 23 #[EZ (EG 56 g)] (w.alloc (EJ (EG 56 g) 28)) fun e w'=>EEq g p kl (w.alloc (EJ (EG 56 g) 28)) e w'/\Ik (w.alloc (EJ (EG 56 g) 28)).heap.size (w.alloc (EJ (EG 56 g) 28)) w'):=J<|Eh3 g p kl _ hv (fun i h1 h2=>by obtain⟨A,cap,ys,e1,e2,e3⟩:=hk i h1 h2;exact⟨A,cap,ys,e1,e2,Ix e3 b1⟩) (hR.V b1) (hC.V b1) Ji;obtain⟨pv,hpv⟩:=En (EG 56 g);rw[<-hpv] at K0 b1 CN⊢;have PS:Ec (pv.size=56):=J (by rw[hpv];simp);have H2:=J h2;clear hpv hv hk hR hC h2;go_enter Tryz.func10,Tryz.ntmps10;obtain⟨gp,UD⟩:=En w.heap.size;go_wp2_with (with_reducible refine wL U1 K0 ?_ (hn:=PS.out));refine CN.out.mono ?_;rintro e w2 ⟨hn,b2⟩;have u:=J<|bt b1 b2;have LW:=J (show w.heap.size<=(w.alloc (EJ pv 28)).heap.size from Eh);clear b1 b2 CN K0;rcases hn with⟨hc,rfl⟩|⟨hc,g2,gc,gq,gt,rfl,C,hg⟩
 ·obtain⟨ck,hck⟩:=En (U_ p kl);rw[<-hck] at hc⊢;have qS:=J hck;have t1:(ck !=0)=EI:=yN;have HC:=J hc;have bm:Tryz.prog.built 84 [(1,E I ck)]=Z #[M X,E I ck,M X,M X,M X]:=Ed;clear hck hc;go_wp2_with (first|((with_reducible refine It 15 ?_);refine I3 rfl 84 _ rfl #[M X,E I ck,M X,M X,M X] bm ?_));go_ret;refine⟨.inl ⟨?_,_,O,u.out.size,?_⟩,bt u.out (Er _ _)⟩;·rw[<-qS.out];exact HC.out
  ·rw[<-qS.out];exact D.new _ _ _
 have bm:Tryz.prog.built 84 [(0,M (Z ⟨gc,0,X⟩))]=Z #[M (Z ⟨gc,0,X⟩),E I 0,M X,M X,M X]:=Ed;have CC:=J<|C.mono LW.out H2.out;have HG:=J<|Jp hc hg;clear C hg hc;go_wp2_with (first|((with_reducible refine It 18 ?_);refine I3 rfl 84 _ rfl #[M (Z ⟨gc,0,X⟩),E I 0,M X,M X,M X] bm ?_));obtain⟨gm,hgm⟩:=En w2.heap.size;have K3:=J<|D.new w2 (nY gc []) 84;have b3:=Er w2 (EJ (nY gc []) 84);change _=_ at hgm;rw[show(#[M (Z ⟨gc,0,X⟩),E I 0,M X,M X,M X]:Array Y)=nY gc [] from rfl];rw[<-hgm] at K3⊢;have tB:Ec (w.heap.size<=gm):=J (by rw[hgm];exact u.out.size);clear hgm bm;generalize w2.alloc (EJ (nY gc []) 84)=w3 at*;replace CC:=J<|CC.out.V b3;replace u:=ET u b3;have SB:Ec (jP w.heap.size gm gc [] w3):=J ⟨K3.out,fun _ h=>absurd h UA,List.nodup_nil⟩;obtain⟨lo,hlo⟩:=En w.heap.size;obtain⟨p0,hp0⟩:=En p;rw[<-hlo] at SB CC tB;rw[<-hp0] at CC;have Jf:Ec (Ik lo w w3):=J (by rw[hlo];exact u.out);have ZN:=J hlo;have HP0:=J hp0;clear b3 K3 hlo hp0 u;have u:=Jf;clear Jf;go_wp2_with fail;go_loopw[20] (fun Y3 wr=> ∃vs:List Nat,Y3=E I vs.length/\vs.length<=3/\jP lo gm gc vs wr/\JE lo g2 gc gq gt (c0 p0) wr/\Ik lo w wr) (fun Y3 _=>3-(Ir Y3).toNat);case atStart=>exact⟨[],O,Eh,SB.out,CC.out,u.out⟩
 case round=>
  clear SB CC u;obtain⟨vs,rfl,hv3,SB,CC,u⟩:=hrel;replace SB:=J SB;replace CC:=J CC;replace u:=J u;by_cases hlt:vs.length<3
  ·have t8:decide ((vs.length:Int)<3)=EI:=IU U;have H3:=J hlt;have IX:=J<|fun W=>EiX gm vs.length hlt W;have lK:=J (show lo<=wr.heap.size by have:=SB.out.Ek.lt;have:=tB.out;omega);go_wp2_with fail;refine bH (Ph:=fun p wq=>match p with|0=>Ik wr.heap.size wr wq|_=>(∃b:Nat,jP lo gm gc (vs++[b]) wq/\JE lo g2 gc gq gt (c0 p0) wq/\Ik lo w wq)) (Rel:=J0) (Is:=fun w w'=> ∀g c,D w g c 122->D w' g c 122) [kp gm 0,kq (E I vs.length),.dep (fun v w=> ∃b:Nat,v=M (Z ⟨b,0,X⟩)/\lo<=b/\wr.heap.size<=b/\D w b #[G X 0 0] 122) (fun v w w' h hr=>by obtain⟨b,h1,h2,h3,h4⟩:=h;exact⟨b,h1,h2,h3,D.V h4 hr⟩) (fun v w w' h hr=>by obtain⟨b,h1,h2,h3,h4⟩:=h;exact⟨b,h1,h2,h3,hr _ _ h4⟩),kp gm 0,kp gm 2,kq (M (Z ⟨gm,2+vs.length,X⟩)),.val (fun _=>True)] _ O [6] [(0,0),(0,0),(0,0),(0,0),(0,0),(0,0),(0,0)] Ed Ed Ed Ed Ed UP Ed ?hPh ?h0 ?hstep ?hend
   case hPh=>
    intro p w2 w3 h hr;match p,h with
    |0,h=>exact bt h hr
    |_+1,⟨b,h1,h2,h3⟩=>exact⟨b,h1.V hr,h2.V hr,h3.trans (oL hr (Ez tB.out (am h1.Ek.lt)))⟩
   case h0=> exact Jg wr
   case hstep=>
    refine⟨?_,?_,?_,?_,?_,?_,?_,trivial⟩;all_goals first|intro xv wq p9 hlo hhi hp hd|intro xv wq hp hd
    all_goals simp only[EH,Ig,Ii,Ia,Ib]
    ·obtain rfl:p9=0:=U;exact EmZ
    ·obtain rfl:p9=0:=U;exact EmZ
    ·obtain rfl:p9=0:=U;refine JH (f:=24) (args:= #[]) (Ei O) Ex ?_;exact(Eg1 wq).mono fun e w2 h=>⟨_,h.1,by rw[h.2];exact Er wq _,wq.heap.size,O,Ez lK.out hp.size,hp.size,by rw[h.2];exact D.new _ _ _⟩
    ·obtain rfl:p9=0:=U;have d0:xv 0=M (Z ⟨gm,0,X⟩):=hd.at 0 rfl;exact EoF
    ·obtain rfl:p9=0:=U;have d3:xv 3=M (Z ⟨gm,0,X⟩):=hd.at 3 rfl;exact EoD
    ·obtain rfl:p9=0:=U;have d4:xv 4=M (Z ⟨gm,2,X⟩):=hd.at 4 rfl;have d1:xv 1=E I vs.length:=hd.at 1 rfl;exact IM EF (Ei O) (qZ O d4 d1 IX.out) O
    ·have d5:xv 5=M (Z ⟨gm,2+vs.length,X⟩):=hd.at 5 rfl;obtain⟨b,e2,h1,h2,h3⟩: ∃b:Nat,xv 2=M (Z ⟨b,0,X⟩)/\lo<=b/\wr.heap.size<=b/\D wq b #[G X 0 0] 122:=hd.at 2 rfl;have k2:=D.V SB.out.Ek hp;have ff:wq.frozen? ⟨gm,2+vs.length,X⟩=B:=D.JX k2 _;have cc:wq.cell? ⟨gm,2+vs.length,X⟩=Z (M X):=(D.cell k2 _).trans (Eib gc vs H3.out);have ad:=SB.out.add hp h1 h2 h3 H3.out;have on:=J1 (g:=gm) (W:=wq) (2+vs.length) (M (Z ⟨b,0,X⟩));refine Fy (w':=wq.setCell ⟨gm,2+vs.length,X⟩ (M (Z ⟨b,0,X⟩))) (Ei O) (by simp[go_sem,d5,e2,cc,ff]) ⟨fun g2 c2 h4=>h4.other gm _ _ (dw h4 k2 Ea),b,ad,?_,?_⟩ trivial;·exact(CC.out.V hp).via (fun k cs S hS hk=>on.Ek hk (EW hk k2 xu)) (on.bel lo tB.out (Ez lK.out hp.size))
     ·exact(u.out.trans (oL hp lK.out)).trans (on.bel lo tB.out (Ez lK.out hp.size))
   case hend=>
    intro xv w6 hp hd;simp only[EH,Ig,Ii,Ia,Ib,ZK];obtain⟨b,s6,c6,b6⟩:=hp;clear hd;go_wp2_with fail;go_roundw;case rel=>exact⟨vs++[b],Eh,Ji,s6,c6,b6⟩
    case measure=>simp[Ir];omega
  ·have t8:decide ((vs.length:Int)<3)=B:=IJ U;go_wp2_with fail;go_ret;obtain⟨a,ha,Y8⟩:=Jq.Eia SB.out CC.out tB.out U;refine⟨.inr ⟨HG.out.1,g2,a,by rw[ha];rfl,?_,HG.out.2⟩,by rw[<-ZN.out];exact u.out⟩;rw[<-ZN.out,<-HP0.out];exact Y8
def aB:List Y:=[E I 4,E I 1,E I 0,E I 0,E I 0,E I 0,E I 2,E I 4,E I 0,E I 2,E I 4,E I 0]
theorem EED:Oq Eb 38 #[E I 0,E I 0,E I 0,E I 0,E I 0,E I 0,E I 0,E I 0,E I 0,E I 0,E I 0,E I 0]:=by exact ElR
theorem Eid:aB.toArray.all (·.oneCell')=EI:=by simp[aB,OF]
theorem EEF(w:H):Ef Eb 16 #[] w fun e w'=>e=Eg (EZ aB.toArray)/\Ik w.heap.size w w':=by have BL:=J<|LV 2 4;have BF:Ec (Tryz.prog.built 38 [(0,E I 4),(1,E I 1),(3,EZ #[E I 2,E I 4,E I 0]),(4,EZ #[E I 2,E I 4,E I 0])]=Z aB.toArray):=J Ed;obtain⟨fv,Uf⟩:=En aB.toArray;have OP:Ec (fv.size=12):=J (by rw[Uf];rfl);have FO:Ec (fv.all (·.oneCell')=EI):=J (by rw[Uf];exact Eid);rw[<-Uf] at BF⊢;clear Uf;go_enter Tryz.func16,Tryz.ntmps16;go_wp2_with (with_reducible refine wA EED (Ev.mk ?_));apply Eo;obtain⟨zv,hzv⟩:=En (#[E I 0,E I 0,E I 0,E I 0,E I 0,E I 0,E I 0,E I 0,E I 0,E I 0,E I 0,E I 0]:Array Y);rw[<-hzv];have ZS:Ec (zv.size=12):=J (by rw[hzv];rfl);clear hzv;have K0:=J<|D.new w zv 38;have b0:=Er w (EJ zv 38);generalize w.alloc (EJ zv 38)=w1 at*;go_wp2_with (first|((with_reducible refine It 2 ?_);refine I3 rfl 36 _ rfl #[E I 2,E I 4,E I 0] BL.out ?_)|(with_reducible refine wA LF (Ev.mk ?_)));apply Eo;have K1:=J<|D.new w1 #[E I 0,E I 0,E I 0] 36;have b1:=Er w1 (EJ #[E I 0,E I 0,E I 0] 36);have K2:=J<|K0.out.V b1;have HN:=J (show w.heap.size<w1.heap.size by have:=K0.out.lt;omega);have b2:=J<|bt b0 b1;clear b0 b1 K0;obtain⟨gl,hgl⟩:=En w1.heap.size;rw[<-hgl] at K1 HN⊢;clear hgl;generalize w1.alloc (EJ #[E I 0,E I 0,E I 0] 36)=w2 at*;go_wp2_with (with_reducible refine wS (cs:= #[E I 2,E I 4,E I 0]) fc K1 (Ev.mk ?_) (h1:=Ug));apply Eo;have KL:=J<|K1.out.setRow #[E I 2,E I 4,E I 0];have KF:=J<|D.setRow_other K2.out gl #[E I 2,E I 4,E I 0] J9;have b3:=J<|E2 (g:=gl) b2.out J9 #[E I 2,E I 4,E I 0];clear K1 K2 b2;generalize w2.setRow gl #[E I 2,E I 4,E I 0]=w3 at*;go_wp2_with (first|(with_reducible refine wL fc KL ?_)|((with_reducible refine It 5 ?_);refine I3 rfl 38 _ rfl fv BF.out ?_)|(with_reducible refine wS (cs:=fv) iQ KF ?_ (ho:=ZS.out) (hn:=OP.out) (h1:=FO.out)));exact EV (Jj iQ O _ _ w.heap.size fv O (KF.out.setRow fv) OP.out) O ⟨O,E2 (g:=w.heap.size) b3.out (E7 _) fv⟩
def qT:Array Y:=(I8 aB (G X 0 0) (G X 0 0) (Ep 32)).toArray
theorem EEG:qT.all (·.oneCell')=EI:=by
 refine all_oneCell_toArray ?_;intro v hv;simp only[I8,XM,dU] at hv;rcases hv with hv|hv|⟨x,-,rfl⟩;·simp only[aB,UJ,UA,or_false] at hv;exact Eor
 ·simp only[UJ,UA,or_false] at hv;rcases hv with rfl|rfl<;>rfl
 ·rfl
theorem Eif(gm:Nat)(x y1 y2 y3:Y)(cv:Array Y)(w:H)(K:D w gm #[M X,x,y1,y2,y3] 84): Ef Eb 12 #[M (Z ⟨gm,0,X⟩),EZ cv] w fun e w'=>e=Eg (EZ qT)/\Ik w.heap.size w w':=by obtain⟨zt,jN⟩:=En ((I8 [E I 0,E I 0,E I 0,E I 0,E I 0,E I 0,E I 0,E I 0,E I 0,E I 0,E I 0,E I 0] (G X 0 0) (G X 0 0) (Ep 32)).toArray:Array Y);have ZT:Ec (Oq Eb 43 zt):=J Mt;have ZS:Ec (zt.size=46):=J (by rw[jN];rfl);clear jN;obtain⟨fv,Uf⟩:=En aB.toArray;obtain⟨tn,htn⟩:=En qT;have BN:Ec (Tryz.prog.built 43 [(0,EZ fv)]=Z tn):=J (by rw[Uf,htn];kernel_rfl);have NS:Ec (tn.size=46):=J (by rw[htn];rfl);have NO:Ec (tn.all (·.oneCell')=EI):=J (by rw[htn];exact EEG);have CF:=J<|fun W=>EEF W;rw[<-Uf] at CF;rw[<-htn];clear Uf htn;have KE:=J<|D.new w cv 48;go_enter Tryz.func12,Tryz.ntmps12;go_wp2_with (with_reducible refine wA ZT.out (Ev.mk ?_));apply Eo;have b1:=JV w (EJ cv 48) (EJ zt 43);have KR:Ec (D ((w.alloc (EJ cv 48)).alloc (EJ zt 43)) (w.heap.size+1) zt 43):=J YQ;obtain⟨gr,hgr⟩:=En (w.heap.size+1);rw[<-hgr] at KR⊢;have gA:=J (show w.heap.size<=gr from U);clear hgr KE;have KM:=D.V K b1;have u:=J b1;generalize (w.alloc (EJ cv 48)).alloc (EJ zt 43)=w1 at*;have cc:w1.cell? ⟨gm,0,X⟩=Z (M X):=(D.cell KM 0).trans O;clear KM b1 K;go_wp2_with fail;refine(CF.out _).mono ?_;rintro e w2 ⟨rfl,b2⟩;replace KR:=J<|KR.out.V b2;replace u:=ET u b2;clear b2 cc CF;go_wp2_with (first|((with_reducible refine It 13 ?_);refine I3 rfl 43 _ rfl tn BN.out ?_)|(with_reducible refine wS (cs:=tn) Zq KR ?_ (ho:=ZS.out) (hn:=NS.out) (h1:=NO.out)));exact EV (Jj Zq O _ _ gr tn O (KR.out.setRow tn) NS.out) O ⟨O,E2 (g:=gr) u.out gA.out tn⟩
theorem EEH(c:Ey)(q:Y):(jM c q).toArray.size=31:=by simp[jM,Za,Un]
theorem EEK(c:Ey)(A:Option Eu)(n d:Nat):(jM c (G A n d)).toArray.all (·.oneCell')=EI:=by simp[jM,Za,Un,OF]
theorem DW:X8.size=31:=Ed
theorem M_:X8.all (·.oneCell')=EI:=Ed
theorem Eig(lo:Nat)(g:Nat->Y)(a:UK)(c:Ey)(rs:Int->List Int)(w:H)(Y8:Jq lo g a c rs w): Ef Eb 13 #[M (Z ⟨a.gm,0,X⟩)] w fun e w'=>(∃A d,e=Eg (EZ (jM c (G A c.q.length d)).toArray)/\w'.ownsRow w.heap.size 3 1 (G A c.q.length d) c.q.length (Uu ((Js c.q).map One.s)))/\Ik w.heap.size w w':=by have MM:=J Y8;have KR:=J<|D.new w X8 54;have b1:=Er w (EJ X8 54);clear Y8;go_enter Tryz.func13,Tryz.ntmps13;go_wp2_with (with_reducible refine wA qB (Ev.mk ?_));apply Eo;have M1:=J<|MM.out.V b1;have u:=J b1;clear b1 MM;generalize w.alloc (EJ X8 54)=w1 at*;have cc:w1.cell? ⟨a.gm,0,X⟩=Z (M (Z ⟨a.gc,0,X⟩)):=(D.cell M1.out.Ek 0).trans O;go_wp2_with fail;refine(Egu lo g a.gc a.gq a.gt c _ M1.out.core).mono ?_;rintro e w2 ⟨⟨v,rfl,ow⟩,b2⟩;obtain⟨A,d,rfl⟩:=nR ow;obtain⟨sv,hsv⟩: ∃sv,sv=(jM c (G A c.q.length d)).toArray:=⟨_,O⟩;have SS:Ec (sv.size=31):=J (by rw[hsv];exact EEH _ _);have SO:Ec (sv.all (·.oneCell')=EI):=J (by rw[hsv];exact EEK _ _ _ _);rw[<-hsv];have mR:=J hsv;have OW:=J<|nM ow u.out.size;replace KR:=J<|KR.out.V b2;replace u:=ET u b2;clear ow hsv b2 cc M1;go_wp2_with (with_reducible refine wS (cs:=sv) fh KR ?_ (ho:=DW) (hn:=SS.out) (h1:=SO.out));refine EV (Jj fh O _ _ w.heap.size sv O (KR.out.setRow sv) SS.out) O ⟨⟨A,d,by rw[mR.out],?_⟩,E2 (g:=w.heap.size) u.out (E7 _) sv⟩;have on:=J8 (g:=w.heap.size) (W:=w2) sv;exact EP OW.out fun _ _ hk=>on.Ek hk (EW hk KR.out Ea)
theorem Eih(gm:Nat)(x y1 y2 y3:Y)(w:H)(K:D w gm #[M X,x,y1,y2,y3] 84): Ef Eb 13 #[M (Z ⟨gm,0,X⟩)] w fun e w'=>e=Eg (EZ X8)/\Ik w.heap.size w w':=by have KR:=J<|D.new w X8 54;have b1:=Er w (EJ X8 54);have BZ:Ec (Tryz.prog.built 54 []=Z X8):=J Ed;go_enter Tryz.func13,Tryz.ntmps13;go_wp2_with (with_reducible refine wA qB (Ev.mk ?_));apply Eo;have KM:=D.V K b1;have u:=J b1;generalize w.alloc (EJ X8 54)=w1 at*;have cc:w1.cell? ⟨gm,0,X⟩=Z (M X):=(D.cell KM 0).trans O;clear KM b1 K;obtain⟨zv,hzv⟩:=En X8;have SS:Ec (zv.size=31):=J (by rw[hzv];exact DW);have SO:Ec (zv.all (·.oneCell')=EI):=J (by rw[hzv];exact M_);rw[<-hzv] at BZ KR;have HZV:=J hzv;clear hzv;go_wp2_with (first|((with_reducible refine It 8 ?_);refine I3 rfl 54 _ rfl zv BZ.out ?_)|(with_reducible refine wS (cs:=zv) fh KR ?_ (ho:=SS.out) (hn:=SS.out) (h1:=SO.out)));exact EV (Jj fh O _ _ w.heap.size zv O (KR.out.setRow zv) SS.out) O ⟨by rw[HZV.out],E2 (g:=w.heap.size) u.out (E7 _) zv⟩
def X9(g:Nat->Y)(i:Nat):Int:=Ir (g i)
def lQ(g:Nat->Y)(i:Nat):Nat:=lenOf (g i)
theorem Eij(h: ∀i,9<=i->i<56-> ∃n:Nat,g i=E I n/\bR i n)(i:Nat)(h1:9<=i)(h2:i<56):(Zi i:Int)<=X9 g i/\X9 g i<=U6 i/\(9<i->i<13->X9 g i%2=0):=by obtain⟨n,e,a,b,c⟩:=h i h1 h2;unfold X9;rw[e];simp only[Ir];exact⟨U,U,fun x y=>by have:=c x y;omega⟩
theorem Eik{a b c:Nat}(h:1<=a/\a<=3/\1<=b/\b<=3/\1<=c/\c<=3/\a≠b/\a≠c/\b≠c):[E .i64 1,E I 2,E I 3].all (qQ (a:Int) (b:Int) (c:Int))=EI:=by simp only[Z0,ah,qQ,UJ,UA,or_false,Bool.and_true,Oc,decide_eq_true_eq];omega
theorem EEL(h:bS w g):U_ (X9 g) (lQ g)=0:=by
 have ok:=Eij h.int;obtain⟨a,b,c,e1,e2,e3,hp⟩:=h.perm;have k: ∀i,5<=i->i<=8->Xi (lQ g i) 1 64=EI:=fun i h1 h2=>by obtain⟨A,n,cap,ys,base,e,_,_,x,y⟩:=h.keys i h1 h2;unfold lQ;rw[e];simp only[lenOf];exact gG.2 ⟨U,U⟩
 have r: ∀i,9<=i->i<56-> ∀lo hi:Int,lo<=Zi i->(U6 i:Int)<=hi->Xi (X9 g i) lo hi=EI:=fun i h1 h2 lo hi h3 h4=>by have:=ok i h1 h2;exact gG.2 ⟨U,U⟩
 have b1:tx (X9 g)=EI:=by unfold tx Dt X9;rw[h.o0,h.o4,e1,e2,e3];simp only[Ir];rw[Eik hp];rfl
 have b2:tz (lQ g)=EI:=by unfold tz;rw[k 5 U U,k 6 U U,k 7 U U,k 8 U U];rfl
 have b3:xB (X9 g)=EI:=by have o9:=ok 9 U U;have o13:=ok 13 U U;have Rm:=(ok 10 U U).2.2 U U;have Rn:=(ok 11 U U).2.2 U U;have q12:=(ok 12 U U).2.2 U U;simp[Zi,U6] at o9 o13;simp only[xB,Uv,Xn,Z0,ah,qP,Oc,beq_iff_eq];exact⟨⟨U,U⟩,⟨r 10 U U _ _ iW iY,Rm⟩,⟨r 11 U U _ _ iW iY,Rn⟩,⟨r 12 U U _ _ iW iY,q12⟩,trivial⟩
 have b4:xC (X9 g)=EI:=by simp only[xC,gF,Z0,ah,tr,Uo,Oc,Nat.reduceMul,ZK,Nat.zero_mul,Nat.add_zero];refine⟨⟨?_,?_,?_,?_,trivial⟩,⟨?_,?_,?_,?_,trivial⟩,⟨?_,?_,?_,?_,trivial⟩,⟨?_,?_,?_,?_,trivial⟩,⟨?_,?_,?_,?_,trivial⟩,trivial⟩<;>exact r _ U U _ _ iW iY
 have b5:xD (X9 g)=EI:=by simp only[xD,Uv,Xn,Z0,ah,Uo,Oc];refine⟨?_,?_,?_,?_,?_,trivial⟩<;>exact r _ U U _ _ iW iY
 have b6:xF (X9 g)=EI:=by simp only[xF,Uv,Xn,Z0,ah,Uo,Oc];refine⟨?_,?_,?_,trivial⟩<;>exact r _ U U _ _ iW iY
 have b7:xG (X9 g)=EI:=by simp only[xG,Uv,Xn,Z0,ah,Uo,Oc];refine⟨?_,?_,?_,?_,trivial⟩<;>exact r _ U U _ _ iW iY
 have b8:xH (X9 g)=EI:=by simp only[xH,Oc];constructor<;>exact r _ U U _ _ iW iY
 have b9:xK (X9 g)=EI:=by simp only[xK,Uv,Xn,Z0,ah,Uo,Oc];refine⟨?_,?_,trivial⟩<;>exact r _ U U _ _ iW iY
 have b10:xL (X9 g)=EI:=by have o50:=ok 50 U U;simp[Zi,U6] at o50;simp only[xL,Uv,Xn,Z0,ah,Uo,Oc,beq_iff_eq];refine⟨⟨U,?_,?_,?_,trivial⟩,?_⟩<;>exact r _ U U _ _ iW iY
 have b11:Du (X9 g)=EI:=r _ U U _ _ iW iY;unfold U_;rw[b1,b2,b3,b4,b5,b6,b7,b8,b9,b10,b11];rfl
theorem NE(h:bS w g):xN g (X9 g) (lQ g)/\xP w g (lQ g):=by
 obtain⟨a,b,c,e1,e2,e3,hp⟩:=h.perm;refine⟨⟨fun i h1 h2=> ?_,fun i h1 h2=> ?_,.inr (EEL h)⟩,fun i h1 h2=> ?_⟩
 ·have hc:i=0\/i=1\/i=2\/i=3\/i=4\/9<=i:=U;unfold X9 I9;rcases hc with rfl|rfl|rfl|rfl|rfl|hc;·rw[h.o0];simp[Ir]
  ·rw[e1];exact EoV
  ·rw[e2];exact EoV
  ·rw[e3];exact EoV
  ·rw[h.o4];simp[Ir]
  ·obtain⟨n,e,_,x,_⟩:=h.int i hc h1;rw[e];simp only[Ir];have:U6 i<=65535:=by unfold U6;(repeat' split);all_goals omega
   exact⟨trivial,U⟩
 ·obtain⟨A,n,cap,ys,base,e,_⟩:=h.keys i h1 h2;exact⟨A,cap,by unfold lQ;rw[e];rfl⟩
 ·obtain⟨A,n,cap,ys,base,e,l,ho,_⟩:=h.keys i h1 h2;exact⟨A,cap,ys,by unfold lQ;rw[e];rfl,by unfold lQ;rw[e];exact l,ho.row⟩
theorem Jq.mono{a:UK}(h:Jq lo g a c rs W)(hl:lo2<=lo)(h2:2<=lo2):Jq lo2 g a c rs W:=by have st: ∀{s r},cW lo s r W->cW lo2 s r W:=fun⟨A,c,k,o⟩=>⟨A,c,k,b_ o hl⟩;exact⟨h.core.mono hl h2,h.Ek,Ez hl h.lm,Ez hl h.l1,Ez hl h.l2,Ez hl h.l3,h.n12,h.n13,h.n23,st h.st1,st h.st2,st h.qG,h.qH⟩
theorem EEM(g:Nat->Y)(h: ∀i,i<56->(g i).oneCell'=EI):(EG 56 g).all (·.oneCell')=EI:=by rw[Array.all_eq_true_iff_forall_mem];intro v hv;obtain⟨i,hi,e⟩:=Array.mem_iff_getElem.1 hv;rw[<-e,rz];exact h i U5
theorem Eio(hT:IG Eb T n)(h:fn.results= #[.tmp q,.cell p T])(tmps:Array Y)(w:H)(g:Nat)(cs:Array Y)(v:Y) (hp:tmps.getD p I2=M (Z ⟨g,0,X⟩)) (hq:tmps.getD q I2=v) (hg:D w g cs T) (hn:cs.size=n):(UL fn tmps).run Eb w= .ok (Et #[v,EZ cs]) w:=by exact Enn
def gH:Array Y:=EG 56 fun i=>if 5<=i/\i<=8 then .slice X 0 0 else E I 0
theorem NI:Oq Eb 28 gH:=by exact ElR
def NJ:List EB:=[120,152,171,163,5,84,122]
theorem Jq.keep{a:UK}(h:Jq lo g a c rs W)(hb: ∀k cs S,NJ.contains S=EI->D W k cs S->D W' k cs S)(hl:Ik lo W W'):Jq lo g a c rs W':=by have st: ∀{s r},cW lo s r W->cW lo s r W':=fun h=>h.via (fun _ _=>hb _ _ _ Ea) (fun _ _=>hb _ _ _ Ea);refine⟨h.core.via (fun k cs S hS hk=>hb k cs S ?_ hk) hl,hb _ _ _ Ea h.Ek,h.lm,h.l1,h.l2,h.l3,h.n12,h.n13,h.n23,st h.st1,st h.st2,st h.qG,h.qH⟩;simp only[AY,List.contains_eq_mem,UJ,UA,or_false,decide_eq_true_eq] at hS;rcases hS with rfl|rfl|rfl|rfl|rfl<;>decide
theorem Jq.only{gx:Nat}{a:UK}(h:Jq lo g a c rs W)(ho:E3 gx W W')(K:D W gx cs T)(hT:NJ.contains T=B)(hl:lo<=gx):Jq lo g a c rs W':=
 h.keep (fun _ _ _ hS hk=>ho.Ek hk (EW hk K YK)) (ho.bel lo hl (Ez h.lm (am h.Ek.lt)))
theorem bS.keep(h:bS w g)(hb: ∀k cs,D w k cs 5->D w' k cs 5):bS w' g:=
 ⟨h.o0,h.o4,h.perm,fun i h1 h2=>by obtain⟨A,n,cap,ys,base,e,l,ho,r⟩:=h.keys i h1 h2;exact⟨A,n,cap,ys,base,e,l,fk ho hb,r⟩,h.int⟩
def gK(g:Nat->Y)(n0:Nat)(v:Y)(W:H):Prop:=
 ∃(g2:Nat->Y) (a:UK),v=M (Z ⟨a.gm,0,X⟩)/\Jq n0 g2 a (c0 (X9 g)) (fun _=>[]) W/\ ∀i,i<56->i<5\/8<i->g2 i=E I (X9 g i)
theorem gK.V(h:gK g n0 v W)(hb:Ik W.heap.size W W'):gK g n0 v W':=by obtain⟨g2,a,e,m,r⟩:=h;exact⟨g2,a,e,m.V hb,r⟩
theorem Eip(g:Nat->Y)(n0:Nat)(w:H)(hf:bS w g)(hR:Jt w)(hC:Xr w)(h2:2<=n0)(hn:n0<=w.heap.size): Ef Eb 10 #[EZ (EG 56 g)] w fun e w'=>(∃v,e=Eg v/\gK g n0 v w')/\Ik w.heap.size w w':=by
 obtain⟨pv,kv⟩:=NE hf;refine(EEC g _ _ w pv kv hR hC U).mono ?_;rintro e w' ⟨hm,hb⟩;rcases hm with⟨h1,-⟩|⟨-,g2,a,rfl,m,r⟩;·exact absurd (EEL hf) h1
 ·exact⟨⟨_,O,g2,a,O,m.mono hn h2,r⟩,hb⟩
theorem Eiq(f:Nat->Y)(w:H)(hp:rA w f)(hR:Jt w)(hC:Xr w)(h2:2<=w.heap.size): Ef Eb 18 #[EZ (EG 56 f)] w fun e w'=>(∃g v,e=Eg (Et #[v,EZ (EG 56 g)])/\bS w' g/\gK g w.heap.size v w')/\Ik w.heap.size w w':=by
 obtain⟨n0,hn0⟩:=En w.heap.size;have CN:Ec (∀(g:Nat->Y) (W:H),bS W g->Jt W->Xr W->n0<=W.heap.size->_):=J<|fun g W hf hR hC hn=>Eip g n0 W hf hR hC U hn;have K0:=J<|D.new w (EG 56 f) 28;have b1:=Er w (EJ (EG 56 f) 28);have CF:=J<|fun W (hb:Ik w.heap.size w W)=>EOv f W ⟨hp.int,fun i h1 h2=>by obtain⟨A,xs,cap,e,l1,l2,r,x⟩:=hp.key i h1 h2;exact⟨A,xs,cap,e,l1,l2,Ix r hb,x⟩⟩;have RT:=J<|Jp hR hC;obtain⟨fv,Uf⟩:=En (EG 56 f);rw[<-Uf] at CF K0 b1⊢;have OP:Ec (fv.size=56):=J (by rw[Uf];simp);clear Uf hp hR hC h2;go_enter Tryz.func18,Tryz.ntmps18;go_wp2_with (with_reducible refine wA NI (Ev.mk ?_));apply Eo;obtain⟨zv,hzv⟩:=En gH;rw[<-hzv];have ZS:Ec (zv.size=56):=J (by rw[hzv];simp[gH]);clear hzv;have iS:Ec (D ((w.alloc (EJ fv 28)).alloc (EJ zv 28)) (w.heap.size+1) zv 28):=J (by have:=D.new (w.alloc (EJ fv 28)) zv 28;simpa using this);have b2:=Er (w.alloc (EJ fv 28)) (EJ zv 28);have KP:=J<|K0.out.V b2;have u:=J<|bt b1 b2;have gA:Ec (n0<=w.heap.size+1):=J U;clear b1 b2 K0;obtain⟨gr,hgr⟩:=En (w.heap.size+1);obtain⟨gp,UD⟩:=En w.heap.size;rw[<-hgr] at iS gA⊢;rw[<-UD] at KP⊢;clear hgr UD;generalize (w.alloc (EJ fv 28)).alloc (EJ zv 28)=w2 at*;go_wp2_with (with_reducible refine wL U1 KP ?_ (hn:=OP.out));refine(CF.out _ u.out).mono ?_;rintro e w3 ⟨⟨g,rfl,hf⟩,b3⟩;obtain⟨gv,hgv⟩:=En (EG 56 g);rw[<-hgv];have NU:=J hgv;have GS:Ec (gv.size=56):=J (by rw[hgv];simp);have FP:=NE hf
 have GO:Ec (gv.all (·.oneCell')=EI):=J (by rw[hgv];exact EEM g (fun i hi=>by
  by_cases h5:i<5\/8<i;·rw[(FP.1.int i hi h5).1];rfl
  ·obtain⟨A,c,e⟩:=FP.1.key i U U;rw[e];rfl))
 have NZ:=J<|CN.out g;rw[<-hgv] at NZ;replace CN:=NZ;have FF0:=J hf;replace iS:=J<|iS.out.V b3;replace u:=ET u b3;clear hgv FP hf b3 CF KP OP NZ;go_wp2_with (with_reducible refine wA NI (Ev.mk ?_));apply Eo;obtain⟨z2,hz2⟩:=En gH;rw[<-hz2];have Z2:Ec (z2.size=56):=J (by rw[hz2];simp[gH]);clear hz2;have gB:=J<|D.new w3 z2 28;have b2:=Er w3 (EJ z2 28);obtain⟨ga,hga⟩:=En w3.heap.size;rw[<-hga] at gB⊢;have tp:=J (show w3.heap.size<=ga/\gr≠ga by have:=iS.out.lt;omega);clear hga;generalize w3.alloc (EJ z2 28)=w4 at*;go_wp2_with (with_reducible refine wS (cs:=gv) U1 gB (Ev.mk ?_) (ho:=Z2.out) (hn:=GS.out) (h1:=GO.out));apply Eo;have KA:=J<|gB.out.setRow gv;have b3:=E2 (g:=ga) b2 tp.out.1 gv;generalize w4.setRow ga gv=w5 at*;have FF:=J<|FF0.out.V b3;have KR:=J<|iS.out.V b3;replace u:=ET u b3;replace RT:=J<|Jp (RT.out.1.V u.out) (RT.out.2.V u.out);replace u:Ec (Ik n0 w w5):=J (by rw[hn0];exact u.out);have Xt:=J hn0;have LE:=J<|Om hn0;clear gB iS FF0 b2 b3 tp Z2 hn0;go_wp2_with fail;refine bH (Ph:=fun p wq=>match p with|0=>(Jt wq/\D wq ga gv 28/\bS wq g/\D wq gr zv 28/\Xr wq/\Ik n0 w wq)|_=>(D wq gr gv 28/\bS wq g/\Ik n0 w wq)) (Rel:=J0) (Is:=fun w w'=> ∀v,gK g n0 v w->gK g n0 v w') [kq (EZ gv),.dep (fun v w=>gK g n0 v w) (fun v w w' h hr=>h.V hr) (fun v w w' h hr=>hr v h),kq (EZ gv),.dep (fun v w=>gK g n0 v w) (fun v w w' h hr=>h.V hr) (fun v w w' h hr=>hr v h),.val (fun _=>True)] _ O [4] [(0,0),(0,0),(0,0),(0,0),(0,0)] Ed Ed Ed Ed Ed UP Ed ?hPh ?h0 ?hstep ?hend
 case hPh=>
  intro p w2 w3 h hr;match p,h with
  |0,⟨h1,h2,h3,h4,h5,h6⟩=>exact⟨h1.V hr,D.V h2 hr,h3.V hr,D.V h4 hr,h5.V hr,h6.trans (oL hr (Ez LE.out h6.size))⟩
  |_+1,⟨h1,h2,h3⟩=>exact⟨D.V h1 hr,h2.V hr,h3.trans (oL hr (Ez LE.out h3.size))⟩
 case h0=> have hb:=Jg w5;exact⟨RT.out.1.V hb,D.V KA.out hb,FF.out.V hb,D.V KR.out hb,RT.out.2.V hb,u.out.trans (oL hb (Ez LE.out u.out.size))⟩
 case hstep=>
  refine⟨?_,?_,?_,?_,?_,trivial⟩;·exact Enl
  ·intro xv wq p hlo hhi hp hd;obtain rfl:p=0:=U;simp only[EH,Ig,Ii,Ia,Ib];have d0:xv 0=EZ gv:=hd.at 0 rfl;refine JH (f:=10) (args:= #[xv 0]) (Ei O) Ex ?_;rw[d0];exact(CN.out wq hp.2.2.1 hp.1 hp.2.2.2.2.1 (Ez LE.out hp.2.2.2.2.2.size)).mono fun e w2 h=>by obtain⟨⟨v,he,hm⟩,hb⟩:=h;exact⟨v,he,hb,hm⟩
  ·exact Enl
  ·intro xv wq p hlo hhi hp hd;obtain rfl:p=0:=U;simp only[EH,Ig,Ii,Ia,Ib];exact Es Ex (hd.at 1 rfl:gK g n0 (xv 1) wq)
  ·intro xv wq hp hd;simp only[EH,Ig,Ii,Ia,Ib];have d2:xv 2=EZ gv:=hd.at 2 rfl;have on:=J8 (g:=gr) (W:=wq) gv;refine bF U1 (Ei O) ⟨O,O,d2⟩ hp.2.2.2.1 ZS.out GS.out GO.out ⟨fun v h=> ?_,?_,?_,?_⟩ trivial;·obtain⟨g2,a,e,m,r⟩:=h;exact⟨g2,a,e,m.only on hp.2.2.2.1 Ea gA.out,r⟩
   ·exact D.setRow hp.2.2.2.1 gv
   ·exact hp.2.2.1.keep fun _ _ hk=>on.Ek hk (EW hk hp.2.2.2.1 Ea)
   ·exact hp.2.2.2.2.2.trans (on.bel n0 gA.out (Ez LE.out hp.2.2.2.2.2.size))
 case hend=> intro xv w6 hp hd;simp only[EH,Ig,Ii,Ia,Ib,ZK];have m3:gK g n0 (xv 3) w6:=hd 3 Ea;obtain⟨g2,a,e3,m,r⟩:=m3;rw[e3];have HE:=J<|show gK g n0 (M (Z ⟨a.gm,0,X⟩)) w6 from⟨g2,a,O,m,r⟩;clear hd e3 m r;obtain⟨kr,ft,bb⟩:=hp;go_wp2_with fail;refine EV (v:=Et #[M (Z ⟨a.gm,0,X⟩),EZ gv]) (Eio U1 O _ _ gr _ _ O O kr GS.out) O ?_;rw[<-Xt.out];exact⟨⟨g,_,by rw[NU.out],ft,HE.out⟩,bb⟩
section
variable{P:Program}
theorem Na{o:EL}(hg:o.guard=X)(st T:EB)(x:J7)(n:Nat)(tv:Array Y)(ho:o.op= .buildSlice st 1 #[(0,x)])(hx:a.eval x=EZ tv)(hs:tv.size=n) (hu:P.underlying st=Z (.slice T)) (hi: ∃ie z,P.info? T=Z ie/\ie.zero=Z z/\ie.size=n) (hn:0<n) (hn2:n<=1000) (h:Ic P ops Q rest (a.put o.dst (G (Z ⟨w.heap.size,0,X⟩) 1 1)) (w.alloc (EJ tv T))):Ic P ops Q (o::rest) a w:=by obtain⟨ie,z,h1,h2,h3⟩:=hi;subst h3;refine wpList_buildSlice hg st T 1 _ ho tv ie z hu h1 h2 U U ?_ h;have e:(#[((0:Nat),x)].map fun(i,x)=>(i,a.eval x)).toList=([Value.agg tv].zipIdx 0).map fun x=>(x.2,x.1):=ud;rw[e];have hz:1*ie.size=((Array.range (1*ie.size)).map (z.cells[· %z.cells.size]!)).size:=Eh;have:=Great.fill_whole hn [Value.agg tv] ((Array.range (1*ie.size)).map (z.cells[· %z.cells.size]!)) (by simp[Value.cells,hs]) Eh;rw[this];simp[Value.cells]
end
theorem Eir: ∃ie z,Tryz.prog.info? 43=Z ie/\ie.zero=Z z/\ie.size=46:=by
 have h:(Tryz.prog.info? 43).map (fun i=>(i.zero.isSome,i.size))=Z (EI,46):=Ed;cases hi:Tryz.prog.info? 43 with
 |none=>rw[hi] at h;cases h
 |some ie=> rw[hi] at h;simp only[jY,m_,Prod.mk.injEq] at h;obtain⟨z,hz⟩:=Option.isSome_iff_exists.1 h.1;exact⟨ie,z,O,hz,h.2⟩
theorem Eis: ∃i z,Tryz.prog.info? 43=Z i/\i.zero=Z z/\i.size=46/\i.bytes=176/\z.cells.size=46:=by
 have h:(Tryz.prog.info? 43).map (fun i=>(i.zero.isSome,(i.zero.map fun z=>z.cells.size),i.size,i.bytes))=Z (EI,Z 46,46,176):=Ed;cases hi:Tryz.prog.info? 43 with
 |none=>rw[hi] at h;cases h
 |some ie=> rw[hi] at h;simp only[jY,m_,Prod.mk.injEq] at h;obtain⟨z,hz⟩:=Option.isSome_iff_exists.1 h.1;rw[hz] at h;simp only[jY,m_] at h;exact⟨ie,z,O,hz,h.2.2.1,h.2.2.2,h.2.1⟩
theorem Eit(gl base b2:Nat)(A:Option Eu)(n c:Nat)(xs:List Y)(Y3:Y)(m:Nat)(ys:List Y)(w:H)(K:D w gl #[G A n c] 91)(hown:w.ownsRow base 43 46 (G A n c) n xs)(hu:w.ownsRow b2 43 46 Y3 m ys)(h1: ∀y∈ys,y.oneCell'=EI)(hsz:n+m<=1000)(hb:base<=w.heap.size): Ef Eb 28 #[M (Z ⟨gl,0,X⟩),Y3] w fun e w'=>e=Eg (Et #[])/\ ∃A' c' w1,w'=w1.setCell ⟨gl,0,X⟩ (G A' (n+m) c')/\D w1 gl #[G A n c] 91/\w1.ownsRow base 43 46 (G A' (n+m) c') (n+m) (xs++ys)/\w.grownBy w1 (G A n c).ownBlock:=by obtain⟨i,z,hI1,hI2,iT,iV,xT⟩:=Eis;obtain⟨Y4,d,rfl⟩:=nR hu;obtain⟨A9,c9,V5,hrun,nT,fm⟩:=Df (P:=Eb) (w:=w) base b2 60 60 43 i z 46 176 Tryz.underlying60 hI1 hI2 iT iV xT U (G A n c) n xs hown (G Y4 m d) m ys hu h1 Ot U hb;have c0:w.cell? ⟨gl,0,X⟩=Z (G A n c):=(D.cell K 0).trans O;have OWN:=J nT;have KG:=J<|qF hown fm K Ea;have GR:=J fm;clear nT fm hI1 hI2 iT iV xT K hown hu h1;go_enter Tryz.func28,Tryz.ntmps28;go_wp2_with ((with_reducible refine It 10 ?_);(refine Jr (Ei O) (Ua O O O hrun) ?_);refine Ev.mk ?_);apply Eo;clear hrun c0;have c1:V5.cell? ⟨gl,0,X⟩=Z (G A n c):=(D.cell KG.out 0).trans O;have f1:V5.frozen? ⟨gl,0,X⟩=B:=D.JX KG.out 0;go_wp2_with fail;go_end0;exact⟨O,A9,c9,V5,O,KG.out,OWN.out,GR.out⟩
theorem Nb{o:EL}{b:Nat}{cs:List Y}(hT:IG P T n)(hw:I5 o (JO ops a.tmps)=EI)(hl:j9 o a T b off)(hr:Ec (w.rangeAt b off cs))(hn:cs.length=n) (h:Ic P ops Q rest (a.put o.dst (EZ cs.toArray)) w):Ic P ops Q (o::rest) a w:=by
 obtain⟨⟨d,hu,hd⟩,hi⟩:=hT;unfold j9 at hl;split at hl;·rename_i t x ho;obtain⟨rfl,hx⟩:=hl;refine Jr hw ?_ h;have hrun:=run_loadVar_mid w b off t cs d hr.out hu mj gR;unfold If;exact EmB
 ·exact hl.elim
def lR:JI:=⟨0,0,[],B,0,0,0,0,B,B⟩
theorem EEP:Oq Eb 48 (lR.cells X 0).toArray:=by intro ev o w ho;unfold If;simp only[ho];simp[go_sem];exact congrArg (fun c=>w.alloc (EJ c 48)) Ed
theorem EEQ: ∃i z,Tryz.prog.info? 48=Z i/\i.zero=Z z/\i.size=10/\i.bytes=96/\z.cells.size=10:=by
 have h:(Tryz.prog.info? 48).map (fun i=>(i.zero.isSome,(i.zero.map fun z=>z.cells.size),i.size,i.bytes))=Z (EI,Z 10,10,96):=Ed;cases hi:Tryz.prog.info? 48 with
 |none=>rw[hi] at h;cases h
 |some ie=> rw[hi] at h;simp only[jY,m_,Prod.mk.injEq] at h;obtain⟨z,hz⟩:=Option.isSome_iff_exists.1 h.1;rw[hz] at h;simp only[jY,m_] at h;exact⟨ie,z,O,hz,h.2.2.1,h.2.2.2,h.2.1⟩
abbrev fu:=List (JI×Option Eu×Nat)
def qV(es:fu):List Y:=es.flatMap fun x=>x.1.cells x.2.1 x.2.2
structure Xu(n0:Nat)(W:H)(A:Option Eu)(n c:Nat)(es:fu):Prop where
 own:W.ownsRow n0 48 10 (G A n c) n (qV es)
 len:es.length=n
 each: ∀x∈es,x.1.ok/\x.1.b.length<=120/\Own W n0 x.2.1 x.2.2 x.1.b
theorem Xu.V{c:Nat}{es:fu}(h:Xu n0 W A n c es)(hb:Ik W.heap.size W W'):Xu n0 W' A n c es:=
 ⟨EP h.own fun _ _ hk=>D.V hk hb,h.len,fun x hx=>⟨(h.each x hx).1,(h.each x hx).2.1,ZD (h.each x hx).2.2 hb⟩⟩
theorem Xu.keep{c:Nat}{es:fu}(h:Xu n0 W A n c es)(hb: ∀S,S=48\/S=5-> ∀k cs,D W k cs S->D W' k cs S):Xu n0 W' A n c es:=
 ⟨EP h.own (hb _ (.inl O)),h.len,fun x hx=>⟨(h.each x hx).1,(h.each x hx).2.1,fk (h.each x hx).2.2 (hb _ (.inr O))⟩⟩
theorem JI.tC(e:JI)(A:Option Eu)(d:Nat):(e.cells A d).length=10:=rfl
theorem Eiu(es:fu): ∀(i j:Nat),j<10-> ∀x,es[i]?=Z x->(qV es)[i*10+j]?=(x.1.cells x.2.1 x.2.2)[j]?:=by
 induction es with
 |nil=>intro i j _ x h;simp at h
 |cons y t ih=>
  intro i j hj x h;rw[qV,kI];match i,h with
  |0,h=> simp only[kZ,m_] at h;subst h;rw[bi DY,Nat.zero_mul,OD]
  |i+1,h=> rw[aX DY,JI.tC,show(i+1)*10+j-10=i*10+j from U];exact ih i j hj x Up
theorem Eiv(es:fu)(x:JI×Option Eu×Nat):qV (es++[x])=qV es++x.1.cells x.2.1 x.2.2:=by simp[qV]
theorem Xu.at{c:Nat}{es:fu}(h:Xu n0 W A n c es)(i:Nat)(hi:i<n): ∃b x,A=Z ⟨b,0,X⟩/\es[i]?=Z x/\x∈es/\n0<=b/\W.rangeAt b (i*10) (x.1.cells x.2.1 x.2.2):=by
 obtain⟨x,hx⟩: ∃x,es[i]?=Z x:=⟨es[i]'(by rw[h.len];exact hi),J5 _⟩;rcases h.own.2 with⟨-,h0⟩|⟨g,cap,cur,hv,hb,hrest⟩;·omega
 ·injection hv with e1 e2 e3;subst e1 e3;refine⟨g,x,O,hx,dn hx,hb,fun j v hj=> ?_⟩
  have hjl:j<10:=by
   rcases JY j 10 with h|h;·exact h
   ·rw[bf DY] at hj;cases hj
  rw[h.own.cellAt (i*10+j) U,Eiu es i j hjl x hx];exact hj
theorem Eiw(e:JI)(A A2:Option Eu)(d d2:Nat)(n:Nat)(b:List Int)(h:b.length=n):(e.cells A d).toArray.setIfInBounds 2 (G A2 n d2)=(JI.cells {e with b:=b} A2 d2).toArray:=by subst h;rfl
theorem Xu.nil(n0:Nat)(w:H)(h:n0<=w.heap.size):Xu n0 (w.alloc (EJ #[] 48)) (Z ⟨w.heap.size,0,X⟩) 0 0 []:=
 ⟨oC w #[] 0 h Ot O,O,fun x hx=>absurd hx (UA)⟩
theorem Eix(v:Y)(w:H)(hv:tU w v): Ef Eb 11 #[v] w fun e w'=>(∃A n c es,e=Eg (G A n c)/\n<=60/\Xu w.heap.size w' A n c es)/\Ik w.heap.size w w':=by
 obtain⟨A,m,cap,rfl,hx⟩:=hv;have HX:=J hx;obtain⟨n0,hn0⟩:=En w.heap.size;have E0:=J<|Xu.nil n0 w U;have B0:Ec (Ik n0 w (w.alloc (EJ #[] 48))):=J (by rw[hn0];exact Er w _);have B1:Ec (∀W,Ik n0 w W->Ik w.heap.size w W):=J (by rw[hn0];exact fun W h=>h);have B2:Ec (∀W,Ik w.heap.size w W->Ik n0 w W):=J (by rw[hn0];exact fun W h=>h);have HN:=J hn0;clear hx;rw[<-hn0];clear hn0;obtain⟨i,z,hI1,hI2,iT,iV,xT⟩:=EEQ;have AP:=J<|fun(Y6:H) (Ax:Option Eu) (n c:Nat) (es:fu) (Bx:Option Eu) (x:JI×Option Eu×Nat) (ho:Xu n0 Y6 Ax n c es) (hu:Y6.ownsRow n0 48 10 (G Bx 1 1) 1 (x.1.cells x.2.1 x.2.2)) (h1:n<=60) (hb:n0<=Y6.heap.size)=>Df (P:=Eb) (w:=Y6) n0 n0 29 29 48 i z 10 96 Tryz.underlying29 hI1 hI2 iT iV xT U (G Ax n c) n (qV es) ho.own (G Bx 1 1) 1 (x.1.cells x.2.1 x.2.2) hu (fun y hy=>by have:=JI.one x.1 x.2.1 x.2.2;rw[Array.all_eq_true_iff_forall_mem] at this;exact this y (by simpa using hy)) Ot U hb;clear hI1 hI2 iT iV xT;go_enter Tryz.func11,Tryz.ntmps11;go_wp2_with fail;go_loopw[3,4] (fun x y wr=> ∃(i n c:Nat) (A:Option Eu) (es:fu),i<=60/\n<=i/\y=E I i/\x=G A n c/\Xu n0 wr A n c es/\Ik n0 w wr) (fun _ y _=>60-(Ir y).toNat);case atStart=>exact⟨0,0,0,_,_,U,U,O,O,E0.out,B0.out⟩
 case round=>
  clear E0 B0;obtain⟨i,n,c,Ao,es,EkD,hni,rfl,rfl,EE,u⟩:=hrel;replace EE:=J EE;replace u:=J u;by_cases hlt:i<m
  ·by_cases hl2:i<60
   ·have t1:decide ((i:Int)<(m:Int))=EI:=IU U;have t2:decide ((i:Int)<60)=EI:=IU U;obtain⟨b,off,hA,hcx⟩:=HX.out.resolve_left U;obtain⟨e,Ab,d,hin,hoc⟩:=hcx i hlt;subst hA
    have RA:Ec (wr.rangeAt b (off+i*10) (e.cells Ab d)):=J (by
     intro j v hj
     have hjl:j<10:=by
      rcases JY j 10 with h|h;·exact h
      ·rw[bf DY] at hj;cases hj
     have hc:=(hoc j hjl).trans hj;rw[(B1.out wr u.out).cell (Xv _ _ hc)];exact hc)
    have IN:=J<|hin.V (B1.out wr u.out);obtain⟨k,hk⟩:=En (min e.b.length 120);have hk1:k<=d:=by have:=hin.le;omega
    have ek:min (e.b.length:Int) 120=(k:Int):=U;have hk2:k<=e.b.length/\k<=120:=U;have hd:=hin.max;obtain⟨lb,hlb⟩:=En e.b.length;rw[<-hlb] at ek hk2;have HLB:=J hlb;have ld:Ec ((lR.cells X 0).toArray.size=10):=J O;have tD:Ec ((e.cells Ab d).toArray.size=10):=J O;have xV:=J<|e.one Ab d;have c2:(e.cells Ab d).toArray[2]?=Z (G Ab lb d):=by rw[hlb];rfl
    obtain⟨cv,hcv⟩:=En ((e.cells Ab d).toArray);have M8:=J hcv;have CL:Ec ((e.cells Ab d).length=10):=J<|JI.tC _ _ _;clear hcx hoc hin hk hlb;go_wp2_with (first|((with_reducible refine XH 48 ?_);(with_reducible refine Nb (b:=b) (off:=off+i*10) (cs:=e.cells Ab d) nN ?_ ?_ RA ?_ ?_);(·exact Ei rfl);(·exact⟨rfl,rfl⟩);(·exact CL.out))|(with_reducible refine wA EEP (Ev.mk ?_)));apply Eo;rw[<-hcv] at tD xV c2⊢;clear hcv RA;have KE:=J<|D.new wr (lR.cells X 0).toArray 48;have b1:=Er wr (EJ (lR.cells X 0).toArray 48);have cC:=J (show n0<=wr.heap.size from EER);obtain⟨ge,hge⟩:=En wr.heap.size;rw[<-hge] at KE cC⊢;have HG2:=J (show wr.heap.size<=ge from U);clear hge;generalize wr.alloc (EJ (lR.cells X 0).toArray 48)=w1 at*;go_wp2_with (with_reducible refine wS (cs:=cv) nN KE (Ev.mk ?_) (ho:=ld.out) (hn:=tD.out) (h1:=xV.out));apply Eo;have K1:=J<|KE.out.setRow cv;have b2:=E2 (g:=ge) b1 HG2.out cv;generalize w1.setRow ge cv=w2 at*;have xW:=J<|EE.out.V b2;have Jf:=J<|u.out.trans (b2.mono EER);have RB:=J<|Ix IN.out.row b2;have LTO:=J<|Bj EE.out.own;clear KE b1 b2 EE u;obtain⟨A5,c5,V5,hrun,Nc,EES,-⟩:=yY (w2.alloc (EJ #[] 5)) w2.heap.size (Z ⟨w2.heap.size,0,X⟩) 0 [] (FW w2 w2.heap.size (E7 _)) Ab d (e.b.take k) (Ix (oO RB.out k) (Er w2 _)) (by have:=List.length_take_le k e.b;simp only[List.length_nil];omega) Eh 23;have hkl:(e.b.take k).length=k:=by rw[aO,<-HLB.out];omega
    rw[hkl] at hrun;simp only[List.length_nil,OD] at hrun;rw[ZV] at Nc;have OWN:=J Nc;have b5:=(Er w2 (EJ #[] 5)).trans EES;have f2:(w2.alloc (EJ #[] 5)).cell? ⟨ge,2,X⟩=Z (G Ab lb d):=((K1.out.V (Er w2 _)).cell 2).trans c2;have da:=J hkl;clear Nc EES hkl;go_wp2_with ((with_reducible refine It 29 ?_);(refine Jr (Ei O) (Ua O O O hrun) ?_);refine Ev.mk ?_);apply Eo;clear hrun f2;have K5:=J<|K1.out.V b5;have i6:=J<|xW.out.V b5;have NU:=J<|show ge<V5.heap.size from K5.out.lt;have f5:V5.frozen? ⟨ge,2,X⟩=B:=K5.out.JX 2;have g5:V5.cell? ⟨ge,2,X⟩=Z (G Ab lb d):=(K5.out.cell 2).trans c2;go_wp2_with (with_reducible refine N4 48 ?_);apply Eo;obtain⟨e2,he2⟩:=En ({e with b:=e.b.take k}:JI);have hc2:cv.setIfInBounds 2 (G A5 k c5)=(e2.cells A5 c5).toArray:=by rw[M8.out,he2];exact Eiw e Ab A5 d c5 k _ da.out
    have K6:=J<|hc2▸K5.out.set 2 (G A5 k c5);have D0:=J1 (g:=ge) (W:=V5) 2 (G A5 k c5);have KU:=K5.out;have hb2:e2.b=e.b.take k:=by rw[he2]
    have EO:Ec (JI.ok e2/\e2.b.length<=120/\Own (V5.setCell ⟨ge,2,X⟩ (G A5 k c5)) n0 A5 c5 e2.b):=J ⟨by rw[he2];exact⟨IN.out.ok.x0,IN.out.ok.x1,IN.out.ok.x2,IN.out.ok.x3⟩,by rw[hb2,da.out];exact hk2.2,by rw[hb2];exact fk (b_ OWN.out EET) fun _ _ hk=>D0.Ek hk (EW hk KU Ea)⟩;have qW:Ec (Xu n0 (V5.setCell ⟨ge,2,X⟩ (G A5 k c5)) Ao n c es):=J ⟨TD i6.out.own fun a ha=>D0.keep _ (Nat.ne_of_lt (Nat.lt_of_lt_of_le (LTO.out a ha) HG2.out)) (Bj i6.out.own a ha),i6.out.len,fun x hx=>⟨(i6.out.each x hx).1,(i6.out.each x hx).2.1,fk (i6.out.each x hx).2.2 fun _ _ hk=>D0.Ek hk (EW hk KU Ea)⟩⟩;have yW:=J<|(Jf.out.trans (b5.mono EET)).trans (D0.bel n0 cC.out (by have:=cC.out;have:=NU.out;omega));generalize V5.setCell ⟨ge,2,X⟩ (G A5 k c5)=w6 at*;have qL:=J<|show(e2.cells A5 c5).toArray.size=10 from rfl;have D2:=J (show∃ie z,Tryz.prog.info? 48=Z ie/\ie.zero=Z z/\ie.size=10 from EEV);have b7:=Er w6 (EJ (e2.cells A5 c5).toArray 48);have D3:=J (show n0<=w6.heap.size by have:=yW.out.size;have:=HN.out;omega);obtain⟨A8,c8,V8,EEW,EEY,gr8⟩:=AP.out (w6.alloc (EJ (e2.cells A5 c5).toArray 48)) Ao n c es (Z ⟨w6.heap.size,0,X⟩) (e2,A5,c5) (qW.out.V b7) (oC w6 _ 1 D3.out Ot O) U (by simp;have:=D3.out;omega);have OW8:=J EEY;have GR8:=J gr8;clear EEY gr8 AP;obtain⟨v2,hv2⟩:=En ((e2.cells A5 c5).toArray);rw[<-hv2] at K6 qL EEW;have wX:=J hv2;clear hv2 hc2;go_wp2_with (first|(with_reducible refine wL nN K6 ?_ (hn:=qL.out))|((with_reducible refine It 33 ?_);(refine Na rfl 29 48 _ 10 v2 rfl rfl qL.out Tryz.underlying29 D2.out U U ?_))|((with_reducible refine It 34 ?_);(refine Jr (Ei rfl) (Ua rfl rfl rfl EEW) ?_)));refine⟨⟨i+1,n+1,c8,A8,es++[(e2,A5,c5)],U,U,Eh,O,⟨?_,?_,?_⟩,?_⟩,JM⟩;·rw[Eiv];exact OW8.out
    ·rw[IY,qW.out.len];rfl
    ·intro x hx;have keep: ∀A c b,Own w6 n0 A c b->Own V8 n0 A c b:=fun A c b h=>fk h fun _ _ hk=>qF (qW.out.V b7).own GR8.out (D.V hk b7) Ea;rcases XM.1 hx with hx|hx;·exact⟨(qW.out.each x hx).1,(qW.out.each x hx).2.1,keep _ _ _ (qW.out.each x hx).2.2⟩
     ·rw[cF.1 hx];exact⟨EO.out.1,EO.out.2.1,keep _ _ _ EO.out.2.2⟩
    ·exact(yW.out.trans (b7.mono D3.out)).trans (Mo (qW.out.V b7).own GR8.out (by simp;have:=D3.out;omega))
   ·have t1:decide ((i:Int)<(m:Int))=EI:=IU U;have t2:decide ((i:Int)<60)=B:=IJ U;exact Eow
  ·have t1:decide ((i:Int)<(m:Int))=B:=IJ U;exact Eow
theorem EiB{r:Tmp}(hT:IG Eb T n)(h:fn.results= #[.tmp q,.cell p T,.tmp r])(tmps:Array Y)(w:H)(g:Nat)(cs:Array Y)(v Y3:Y) (hp:tmps.getD p I2=M (Z ⟨g,0,X⟩)) (hq:tmps.getD q I2=v) (hr:tmps.getD r I2=Y3) (hg:D w g cs T) (hn:cs.size=n):(UL fn tmps).run Eb w= .ok (Et #[v,EZ cs,Y3]) w:=by
 have hp':tmps[p]?.getD I2=M (Z ⟨g,0,X⟩):=j4;have hq':tmps[q]?.getD I2=v:=oz;have hr':tmps[r]?.getD I2=Y3:=by simpa using hr
 simp[UL,h,hp',hq',hr',asAddr,uH hT hg hn]
theorem EiC(gm:Nat)(v:Y)(w:H)(h:w.cell? ⟨gm,1,X⟩=Z v): Ef Eb 29 #[M (Z ⟨gm,0,X⟩)] w fun e w'=>e=Eg v/\Ik w.heap.size w w':=by go_enter Tryz.func29,Tryz.ntmps29;go_wp2_with fail;go_ret;exact⟨O,E9 _ _⟩
theorem EiD:Oq Eb 91 #[G X 0 0]:=by intro ev o w ho;unfold If;simp only[ho];simp[go_sem]
structure D4(n0 gm:Nat)(code:Int)(S:H->Prop)(Y5 PS:Array Y->Prop):Prop where
 keep: ∀W W',S W->(∀k cs T,NJ.contains T=EI->D W k cs T->D W' k cs T)->Ik n0 W W'->S W'
 step: ∀W (e:JI) A d,S W->e.ok->Own W 0 A d e.b->e.b.length<=120->Ef Eb 12 #[M (Z ⟨gm,0,X⟩),EZ (e.cells A d).toArray] W fun en w'=> ∃tv:Array Y,en=Eg (EZ tv)/\tv.size=46/\tv.all (·.oneCell')=EI/\Y5 tv/\S w'/\JF n0 W.heap.size W w'
 site: ∀W,S W->Ef Eb 13 #[M (Z ⟨gm,0,X⟩)] W fun en w'=> ∃sv:Array Y,en=Eg (EZ sv)/\sv.size=31/\sv.all (·.oneCell')=EI/\PS sv/\Ik W.heap.size W w'
 code: ∀W,S W->W.cell? ⟨gm,1,X⟩=Z (E I code)
theorem D4.V{code:Int}{S:H->Prop}{PS:Array Y->Prop}(h:D4 n0 gm code S Y5 PS)(hs:S W)(hb:Ik W.heap.size W W')(hn:n0<=W.heap.size):S W':=
 h.keep W W' hs (fun _ _ _ _ hk=>hk.V hb) (hb.mono hn)
def gL(Ju:List (Array Y)):List Y:=Ju.flatMap Array.toList
theorem EiF(Ju:List (Array Y))(t:Array Y):gL (Ju++[t])=gL Ju++t.toList:=by simp[gL]
structure lS(n0 gl:Nat)(n:Nat)(Y5:Array Y->Prop)(W:H):Prop where
 ex: ∃(A:Option Eu) (c:Nat) (Ju:List (Array Y)),D W gl #[G A n c] 91/\W.ownsRow n0 43 46 (G A n c) n (gL Ju)/\Ju.length=n/\ ∀tv∈Ju,Y5 tv/\tv.size=46
theorem lS.keep(h:lS n0 gl n Y5 W)(hb: ∀S,S=91\/S=43-> ∀k cs,D W k cs S->D W' k cs S):lS n0 gl n Y5 W':=by obtain⟨A,c,Ju,k,o,r⟩:=h;exact⟨A,c,Ju,hb _ (.inl O) _ _ k,EP o (hb _ (.inr O)),r⟩
theorem lS.V(h:lS n0 gl n Y5 W)(hb:Ik W.heap.size W W'):lS n0 gl n Y5 W':=h.keep fun _ _ _ _ hk=>hk.V hb
def D5(gl gm:Nat)(n0 n:Nat)(code:Int)(Y5 PS:Array Y->Prop)(j:Nat)(v:Y)(w:H):Prop:=match j with
 |0=>v=M (Z ⟨gl,0,X⟩)
 |1=> ∃(A:Option Eu) (c:Nat) (Ju:List (Array Y)),v=G A n c/\w.ownsRow n0 43 46 (G A n c) n (gL Ju)/\Ju.length=n/\ ∀tv∈Ju,Y5 tv/\tv.size=46
 |2=>v=M (Z ⟨gm,0,X⟩)
 |3=> ∃sv:Array Y,v=EZ sv/\sv.size=31/\sv.all (·.oneCell')=EI/\PS sv
 |4=>v=M (Z ⟨gm,0,X⟩)
 |_=>v=E I code
theorem EiG(gl gm:Nat)(n0 n:Nat)(code:Int)(Y5 PS:Array Y->Prop): ∀j v w w',j<6->D5 gl gm n0 n code Y5 PS j v w->J0 w w'->D5 gl gm n0 n code Y5 PS j v w':=by
 intro j v w w' hi h hb;unfold D5 at*;split at h;case h_2=>obtain⟨A,c,Ju,e,o,r⟩:=h;exact⟨A,c,Ju,e,EP o fun _ _ hk=>D.V hk hb,r⟩
 all_goals exact h
theorem EiH(pv:Array Y)(Y5:Array Y->Prop)(PS:Int->Array Y->Prop)(b0:Nat)(A0:Option Eu)(n c0:Nat)(es:fu)(w:H)(hp:pv.size=56)(hn:n<=60)(hE:Xu b0 w A0 n c0 es) (hN: ∀W,Ik w.heap.size w W->Ef Eb 10 #[EZ pv] W fun e w'=>(∃gm code S,e=Eg (M (Z ⟨gm,0,X⟩))/\D4 w.heap.size gm code S Y5 (PS code)/\S w')/\Ik W.heap.size W w'): Ef Eb 14 #[EZ pv,G A0 n c0] w fun e w'=>(∃A c Ju sv code,e=Eg (Et #[G A n c,EZ sv,E I code])/\w'.ownsRow w.heap.size 43 46 (G A n c) n (gL Ju)/\Ju.length=n/\(∀tv∈Ju,Y5 tv/\tv.size=46)/\sv.size=31/\PS code sv)/\Ik w.heap.size w w':=by
 obtain⟨n0,hn0⟩:=En w.heap.size;rw[<-hn0] at hN⊢;have CN:=J hN;have HN:=J hn0;have HP:=J hp;have K0:=J<|D.new w pv 28;have b1:=Er w (EJ pv 28);have EE:=J hE;clear hN hn0 hp hE;go_enter Tryz.func14,Tryz.ntmps14;go_wp2_with (with_reducible refine wA qB (Ev.mk ?_));apply Eo;obtain⟨zs,hzs⟩:=En X8;rw[<-hzs];have ZS:Ec (zs.size=31):=J Nd;clear hzs;have D6:Ec (D ((w.alloc (EJ pv 28)).alloc (EJ zs 54)) (w.heap.size+1) zs 54):=J (by have:=D.new (w.alloc (EJ pv 28)) zs 54;simpa using this);have b2:=Er (w.alloc (EJ pv 28)) (EJ zs 54);have KP:=J<|K0.out.V b2;have bb:=bt b1 b2;replace EE:=J<|EE.out.V bb;have u:Ec (Ik n0 w ((w.alloc (EJ pv 28)).alloc (EJ zs 54))):=J (by rw[HN.out];exact bb);have Nf:Ec (n0<=w.heap.size+1):=J J9;clear b1 b2 bb K0;obtain⟨gs,hgs⟩:=En (w.heap.size+1);obtain⟨gp,UD⟩:=En w.heap.size;rw[<-hgs] at D6 Nf⊢;rw[<-UD] at KP⊢;clear hgs UD;generalize (w.alloc (EJ pv 28)).alloc (EJ zs 54)=w2 at*;go_wp2_with (with_reducible refine wL U1 KP ?_ (hn:=HP.out));refine(CN.out _ u.out).mono ?_;rintro e w3 ⟨⟨gm,code,S,rfl,rs,ss⟩,b3⟩;have RS:=J rs;have SS:=J ss;have KS:=J<|D6.out.V b3;replace EE:=J<|EE.out.V b3;have HS2:=J (show n0<=w2.heap.size by have:=Nf.out;have:=D6.out.lt;omega);replace u:=J<|u.out.trans (b3.mono HS2.out);have LN:=J<|Ez HS2.out b3.size;clear rs ss b3 KP D6 CN HS2;go_wp2_with (with_reducible refine wA EiD (Ev.mk ?_));apply Eo;have Ng:=J<|D.new w3 #[G X 0 0] 91;have b4:=Er w3 (EJ #[G X 0 0] 91);have lH:=J<|show n0<=w3.heap.size from LN.out;obtain⟨gl,hgl⟩:=En w3.heap.size;rw[<-hgl] at Ng lH⊢;clear hgl;replace SS:=J<|RS.out.V SS.out b4 LN.out;replace KS:=J<|KS.out.V b4;replace EE:=J<|EE.out.V b4;replace u:=J<|u.out.trans (b4.mono LN.out);replace LN:=J<|Ez LN.out b4.size;have TL:Ec (lS n0 gl 0 Y5 (w3.alloc (EJ #[G X 0 0] 91))):=J ⟨X,0,[],Ng.out,bN _ _ _ _,O,fun tv h=>absurd h (UA)⟩;clear b4 Ng;generalize w3.alloc (EJ #[G X 0 0] 91)=w4 at*;go_wp2_with fail;go_loopw[15] (fun y wr=> ∃i:Nat,i<=n/\y=E I i/\S wr/\D wr gs zs 54/\Xu b0 wr A0 n c0 es/\lS n0 gl i Y5 wr/\Ik n0 w wr/\n0<=wr.heap.size) (fun y _=>n-(Ir y).toNat);case atStart=>exact⟨0,U,O,SS.out,KS.out,EE.out,TL.out,u.out,LN.out⟩
 case round=>
  clear SS KS EE TL u LN;obtain⟨i,hin,rfl,SS,KS,EE,TL,u,LN⟩:=hrel;replace SS:=J SS;replace KS:=J KS;replace EE:=J EE;replace TL:=J TL;replace u:=J u;replace LN:=J LN;by_cases hlt:i<n
  ·have t1:decide ((i:Int)<(n:Int))=EI:=IU U;obtain⟨b,x,hA,hx1,hx2,-,hra⟩:=EE.out.at i hlt;obtain⟨eo,el,ew⟩:=EE.out.each x hx2;subst hA;have RA:=J hra;have OW:=J ew;have EO:=J<|Jp eo el;have CL:Ec ((x.1.cells x.2.1 x.2.2).length=10):=J<|JI.tC _ _ _;have tD:Ec ((x.1.cells x.2.1 x.2.2).toArray.size=10):=J O;have xV:=J<|x.1.one x.2.1 x.2.2;have ld:Ec ((lR.cells X 0).toArray.size=10):=J O;have tF:=J<|fun W (hs:S W) (ho:Own W 0 x.2.1 x.2.2 x.1.b)=>RS.out.step W x.1 x.2.1 x.2.2 hs eo ho el;clear hx1 hra ew eo el;go_wp2_with (first|((with_reducible refine XH 48 ?_);(with_reducible refine Nb (b:=b) (off:=i*10) (cs:=x.1.cells x.2.1 x.2.2) nN ?_ ?_ RA ?_ ?_);(·exact Ei rfl);(·exact⟨rfl,rfl⟩);(·exact CL.out))|(with_reducible refine wA EEP (Ev.mk ?_)));apply Eo;have KE:=J<|D.new wr (lR.cells X 0).toArray 48;have b1:=Er wr (EJ (lR.cells X 0).toArray 48);obtain⟨cv,hcv⟩:=En ((x.1.cells x.2.1 x.2.2).toArray);obtain⟨ge,hge⟩:=En wr.heap.size;rw[<-hcv] at tD xV⊢;simp only[<-hcv] at tF;rw[<-hge] at KE⊢;have HG2:=J (show wr.heap.size<=ge from U);clear hge hcv RA;generalize wr.alloc (EJ (lR.cells X 0).toArray 48)=w1 at*;go_wp2_with (with_reducible refine wS (cs:=cv) nN KE (Ev.mk ?_) (ho:=ld.out) (hn:=tD.out) (h1:=xV.out));apply Eo;have KE1:=J<|KE.out.setRow cv;have b2:=E2 (g:=ge) b1 HG2.out cv;generalize w1.setRow ge cv=w2 at*;replace SS:=J<|RS.out.V SS.out b2 LN.out;replace KS:=J<|KS.out.V b2;replace EE:=J<|EE.out.V b2;replace TL:=J<|TL.out.V b2;replace u:=J<|u.out.trans (b2.mono LN.out);replace OW:=J<|b_ (ZD OW.out b2) (bG _);replace LN:=J<|Ez LN.out b2.size;clear KE b1 b2;go_wp2_with (with_reducible refine wL nN KE1 ?_ (hn:=tD.out));refine(tF.out _ SS.out OW.out).mono ?_;rintro e w5 ⟨tv,rfl,ts,tn,tg,ss,mm⟩;have TS:=J ts;have TO:=J tn;have TG:=J tg;have D7:=J ss;have D8:=J<|mm.Ek _ _ _ KS.out.lt Ea Ea KS.out;have i6:=J<|EE.out.keep fun S hS k cs hk=>mm.Ek k cs S hk.lt jQ jQ hk;have TL5:=J<|TL.out.keep fun S hS k cs hk=>mm.Ek k cs S hk.lt jQ jQ hk;have D9:=J<|u.out.trans mm.bel;have jR:=J<|Ez LN.out mm.bel.size;clear ts tn tg ss mm SS KS EE TL u LN KE1 OW tF;go_wp2_with ((with_reducible refine It 22 ?_);(refine Na O 60 43 _ 46 tv O O TS.out Tryz.underlying60 Eir U U ?_);refine Ev.mk ?_);apply Eo;have b6:=Er w5 (EJ tv 43);have Nh:=J<|oC (base:=n0) (e:=43) (size:=46) w5 tv 1 jR.out Ot (by rw[TS.out]);obtain⟨gt,hgt⟩:=En w5.heap.size;rw[<-hgt] at Nh⊢;clear hgt;replace D7:=J<|RS.out.V D7.out b6 jR.out;replace D8:=J<|D8.out.V b6;replace i6:=J<|i6.out.V b6;obtain⟨A,c,Ju,kl,own,tl1,tl2⟩:=(TL5.out.V b6).ex;have KL:=J kl;have OWN:=J own;have TVS:=J<|Jp tl1 tl2;replace D9:=J<|D9.out.trans (b6.mono jR.out);replace jR:=J<|Ez jR.out b6.size;clear b6 kl own tl1 tl2 TL5;generalize w5.alloc (EJ tv 43)=w6 at*;go_wp2_with fail;refine(Eit gl n0 n0 A i c (gL Ju) (G (Z ⟨gt,0,X⟩) 1 1) 1 tv.toList w6 KL.out OWN.out Nh.out (fun y hy=>by have:=TO.out;rw[Array.all_eq_true_iff_forall_mem] at this;exact this y (by simpa using hy)) U jR.out).mono ?_;rintro e w9 ⟨rfl,A9,c9,w7,rfl,k7,EII,gr⟩;have on:=J1 (g:=gl) (W:=w7) 0 (G A9 (i+1) c9);have EkF:=J lH.out;have b7:=Mo OWN.out gr jR.out;have kp: ∀k cs T,T≠43->T≠91->D w6 k cs T->D (w7.setCell ⟨gl,0,X⟩ (G A9 (i+1) c9)) k cs T:=fun k cs T h1 h2 hk=>on.Ek (qF OWN.out gr hk h1) (EW (qF OWN.out gr hk h1) k7 h2);have b8:Ik n0 w6 (w7.setCell ⟨gl,0,X⟩ (G A9 (i+1) c9)):=b7.trans (on.bel n0 lH.out (Ez jR.out b7.size));have SS9:=J<|RS.out.keep _ _ D7.out (fun k cs T hT hk=>kp k cs T (by rintro rfl;revert hT;decide) (by rintro rfl;revert hT;decide) hk) b8;have xY:=J<|kp _ _ _ Ea Ea D8.out;have EE9:=J<|i6.out.keep fun S hS k cs hk=>kp k cs S jQ jQ hk;have Ni:=J<|D9.out.trans b8;have Nj:=J<|Ez jR.out b8.size
   have D_:Ec (lS n0 gl (i+1) Y5 (w7.setCell ⟨gl,0,X⟩ (G A9 (i+1) c9))):=J ⟨A9,c9,Ju++[tv],k7.set 0 _,by rw[EiF];exact EP EII fun _ _ hk=>on.Ek hk (EW hk k7 Ea),by rw[IY,TVS.out.1];rfl,fun t ht=>by
    rcases XM.1 ht with ht|ht;·exact TVS.out.2 t ht
    ·rw[cF.1 ht];exact⟨TG.out,TS.out⟩⟩
   clear on b7 b8 kp k7 EII gr D7 D8 i6 D9 jR KL OWN Nh;generalize w7.setCell ⟨gl,0,X⟩ (G A9 (i+1) c9)=w8 at*;go_wp2_with fail;exact⟨⟨i+1,U,Eh,SS9.out,xY.out,EE9.out,D_.out,Ni.out,Nj.out⟩,JM⟩
  ·have t1:decide ((i:Int)<(n:Int))=B:=IJ U;obtain rfl:i=n:=U;go_wp2_with fail;refine ZB EF Ed 6 Ed Eh Ea (D5 gl gm n0 i code Y5 (PS code)) (EiG _ _ _ _ _ _ _) ?_ ?_
   ·simp only[Xl,Iq,Io,EH,Ig,Ii,Ia,Ib,and_true];refine⟨?_,?_,?_,?_,?_,?_⟩;all_goals intro v w' hb hd
    ·exact Elo
    ·have d0:v 0=M (Z ⟨gl,0,X⟩):=hd.at 0 rfl;obtain⟨A,c,Ju,k,o,r⟩:=(TL.out.V hb).ex;have hc:w'.cell? ⟨gl,0,X⟩=Z (G A i c):=(k.cell 0).trans O;exact E_ EF (Ei O) (by simp[go_sem,d0,hc]) ⟨A,c,Ju,O,o,r⟩
    ·exact Elo
    ·have d2:v 2=M (Z ⟨gm,0,X⟩):=hd.at 2 rfl;refine JL (f:=13) (args:= #[v 2]) (Ei O) Ex ?_;rw[d2];exact(RS.out.site w' (RS.out.V SS.out hb LN.out)).mono fun e w'' ⟨sv,he,h1,h2,h3,hb'⟩=>⟨_,he,hb',sv,O,h1,h2,h3⟩
    ·exact Elo
    ·have d4:v 4=M (Z ⟨gm,0,X⟩):=hd.at 4 rfl;refine JL (f:=29) (args:= #[v 4]) (Ei O) Ex ?_;rw[d4];exact(EiC gm _ w' (RS.out.code w' (RS.out.V SS.out hb LN.out))).mono fun e w'' ⟨he,hb'⟩=>⟨_,he,hb',O⟩
   ·intro v w9 hb hr;obtain⟨A,c,Ju,d1,own,tl⟩: ∃(A:Option Eu) (c:Nat) (Ju:List (Array Y)),v 1=G A i c/\w9.ownsRow n0 43 46 (G A i c) i (gL Ju)/\Ju.length=i/\ ∀tv∈Ju,Y5 tv/\tv.size=46:=hr 1 U;obtain⟨sv,d3,sz,so,ps⟩: ∃sv:Array Y,v 3=EZ sv/\sv.size=31/\sv.all (·.oneCell')=EI/\PS code sv:=hr 3 U;have d5:v 5=E I code:=hr 5 U;simp only[Iq,Io,IP,IH,EH,Ig,Ii,Ia,Ib];rw[d1,d3,d5];have xY:=J<|KS.out.V hb;have Ni:=J<|u.out.trans (hb.mono LN.out);have OWN:=J own;have D_:=J tl;have SZ:=J sz;have SO:=J so;have PP:=J ps;have Nj:=J<|Ez LN.out hb.size;clear own tl sz so ps hr hb d1 d3 d5 SS KS EE TL u;go_wp2_with (with_reducible refine wS (cs:=sv) fh xY ?_ (ho:=ZS.out) (hn:=SZ.out) (h1:=SO.out));have on:=J8 (g:=gs) (W:=w9) sv;refine EV (v:=Et #[G A i c,EZ sv,E I code]) (EiB fh O _ _ gs sv _ _ O O O (xY.out.setRow sv) SZ.out) O ?_;exact⟨⟨A,c,Ju,sv,code,O,EP OWN.out fun _ _ hk=>on.Ek hk (EW hk xY.out Ea),D_.out.1,D_.out.2,SZ.out,PP.out⟩,Ni.out.trans (on.bel n0 Nf.out Nj.out)⟩
def Nk(p:Nat->Int)(kl:Nat->Nat)(code:Int)(sv:Array Y):Prop:=
 (U_ p kl≠0/\code=U_ p kl/\sv=X8)\/(U_ p kl=0/\code=0/\ ∃(c:Ey) (A:Option Eu) (n d:Nat),sv=(jM c (G A n d)).toArray/\p 55<=c.tok.e/\0<=c.tok.h/\c.tok.h<=4)
theorem EiM(p:Nat->Int)(kl:Nat->Nat)(n0 gm:Nat)(hc:U_ p kl≠0):D4 n0 gm (U_ p kl) (fun W=>n0<=W.heap.size/\D W gm #[M X,E I (U_ p kl),M X,M X,M X] 84) (fun tv=>U_ p kl≠0->tv=qT) (Nk p kl (U_ p kl)):=by
 refine⟨fun W W' h hb hl=>⟨Ez h.1 hl.size,hb _ _ _ Ea h.2⟩,fun W e A d h _ _ _=> ?_,fun W h=> ?_,fun W h=>(D.cell h.2 1).trans O⟩;·refine(Eif gm _ _ _ _ _ W h.2).mono ?_;rintro en w' ⟨rfl,hb⟩;exact⟨_,O,iL aB _ _ _ O O,EEG,fun _=>rfl,⟨Ez h.1 hb.size,h.2.V hb⟩,JF.EA hb h.1⟩
 ·refine(Eih gm _ _ _ _ W h.2).mono ?_;rintro en w' ⟨rfl,hb⟩;exact⟨_,O,DW,M_,.inl ⟨hc,O,O⟩,hb⟩
theorem EiN(g:Nat->Y)(p:Nat->Int)(kl:Nat->Nat)(b0:Nat)(A0:Option Eu)(n c0:Nat)(es:fu)(w:H)(hch:U_ p kl≠0)(hv:xN g p kl)(hk:xP w g kl)(hR:Jt w)(hC:Xr w)(h2:2<=w.heap.size)(hn:n<=60)(hE:Xu b0 w A0 n c0 es): Ef Eb 14 #[EZ (EG 56 g),G A0 n c0] w fun e w'=>(∃A c Ju sv code,e=Eg (Et #[G A n c,EZ sv,E I code])/\w'.ownsRow w.heap.size 43 46 (G A n c) n (gL Ju)/\Ju.length=n/\(∀tv∈Ju,(U_ p kl≠0->tv=qT)/\tv.size=46)/\sv.size=31/\Nk p kl code sv)/\Ik w.heap.size w w':=by
 refine EiH (EG 56 g) (fun tv=>U_ p kl≠0->tv=qT) (Nk p kl) b0 A0 n c0 es w Eh hn hE fun W hb=> ?_;have hkW:xP W g kl:=fun i h1 h2=>by obtain⟨A,cap,ys,e1,e2,e3⟩:=hk i h1 h2;exact⟨A,cap,ys,e1,e2,Ix e3 hb⟩
 refine(EEC g p kl W hv hkW (hR.V hb) (hC.V hb) (Ez h2 hb.size)).mono ?_;rintro e w' ⟨hm,hb2⟩;refine⟨?_,hb2⟩;rcases hm with⟨h1,gm,rfl,hl,K⟩|⟨h1,g2,a,rfl,Y8,-⟩;·exact⟨gm,_,_,O,EiM p kl _ gm h1,Ez hb.size hb2.size,K⟩
 ·exact absurd h1 hch
theorem EiP(x0 x1 x2 x3 x4 x5 x6 x7 x8 x9 fN iy y0 y1 y2 y3 y4 y5 y6 y7 y8 y9 qY q_:Int)(W:H): ∃r:Bool,(XW .eql 50 (EZ #[E I x0,E I x1,E I x2,E I x3,E I x4,E I x5,E I x6,E I x7,E I x8,E I x9,E I fN,E I iy]) (EZ #[E I y0,E I y1,E I y2,E I y3,E I y4,E I y5,E I y6,E I y7,E I y8,E I y9,E I qY,E I q_])).run Eb W= .ok (EU r) W/\((x0=y0/\x1=y1/\x2=y2/\x3=y3/\x4=y4/\x5=y5/\x6=y6/\x7=y7/\x8=y8/\x9=y9/\fN=qY/\iy=q_)->r=EI):=by
 have h1:(Op.equalIn (9999) 25 (EZ #[E I x1,E I x2,E I x3,E I x4]) (EZ #[E I y1,E I y2,E I y3,E I y4])).run Eb W= .ok (decide (x1=y1/\x2=y2/\x3=y3/\x4=y4)) W:=Aj _ _ _ _ _ _ _ _ _ W;have h5:(Op.equalIn (9999) 25 (EZ #[E I x5,E I x6,E I x7,E I x8]) (EZ #[E I y5,E I y6,E I y7,E I y8])).run Eb W= .ok (decide (x5=y5/\x6=y6/\x7=y7/\x8=y8)) W:=Aj _ _ _ _ _ _ _ _ _ W;by_cases e0:x0=y0
 ·by_cases e1:x1=y1/\x2=y2/\x3=y3/\x4=y4
  ·by_cases e5:x5=y5/\x6=y6/\x7=y7/\x8=y8
   ·by_cases e9:x9=y9
    ·by_cases e10:fN=qY
     ·by_cases e11:iy=q_;·refine⟨EI,?_,fun _=>rfl⟩;rw[IU e1] at h1;rw[IU e5] at h5;simp[go_sem,e0,h1,h5,e9,e10,e11]
      ·refine⟨B,?_,fun h=>absurd (h.2.2.2.2.2.2.2.2.2.2.2) e11⟩;rw[IU e1] at h1;rw[IU e5] at h5;simp[go_sem,e0,h1,h5,e9,e10,e11]
     ·refine⟨B,?_,fun h=>absurd (h.2.2.2.2.2.2.2.2.2.2.1) e10⟩;rw[IU e1] at h1;rw[IU e5] at h5;simp[go_sem,e0,h1,h5,e9,e10]
    ·refine⟨B,?_,fun h=>absurd (h.2.2.2.2.2.2.2.2.2.1) e9⟩;rw[IU e1] at h1;rw[IU e5] at h5;simp[go_sem,e0,h1,h5,e9]
   ·refine⟨B,?_,fun h=>absurd (⟨h.2.2.2.2.2.1,h.2.2.2.2.2.2.1,h.2.2.2.2.2.2.2.1,h.2.2.2.2.2.2.2.2.1⟩) e5⟩;rw[IU e1] at h1;rw[IJ e5] at h5;simp[go_sem,e0,h1,h5]
  ·refine⟨B,?_,fun h=>absurd (⟨h.2.1,h.2.2.1,h.2.2.2.1,h.2.2.2.2.1⟩) e1⟩;rw[IJ e1] at h1;simp[go_sem,e0,h1]
 ·exact Eo3
theorem EiQ(x0 x1 x2 x3 x4 x5 x6 x7 x8 x9 fN iy y0 y1 y2 y3 y4 y5 y6 y7 y8 y9 qY q_:Int)(W:H): ∃r:Bool,(XW .eql 38 (EZ #[E I x0,E I x1,E I x2,E I x3,E I x4,E I x5,E I x6,E I x7,E I x8,E I x9,E I fN,E I iy]) (EZ #[E I y0,E I y1,E I y2,E I y3,E I y4,E I y5,E I y6,E I y7,E I y8,E I y9,E I qY,E I q_])).run Eb W= .ok (EU r) W/\((x0=y0/\x1=y1/\x2=y2/\x3=y3/\x4=y4/\x5=y5/\x6=y6/\x7=y7/\x8=y8/\x9=y9/\fN=qY/\iy=q_)->r=EI):=by
 have h2:(Op.equalIn (9999) 25 (EZ #[E I x2,E I x3,E I x4,E I x5]) (EZ #[E I y2,E I y3,E I y4,E I y5])).run Eb W= .ok (decide (x2=y2/\x3=y3/\x4=y4/\x5=y5)) W:=Aj _ _ _ _ _ _ _ _ _ W;by_cases e0:x0=y0
 ·by_cases e1:x1=y1
  ·by_cases e2:x2=y2/\x3=y3/\x4=y4/\x5=y5
   ·by_cases e6:x6=y6
    ·by_cases e7:x7=y7
     ·by_cases e8:x8=y8
      ·by_cases e9:x9=y9
       ·by_cases e10:fN=qY
        ·by_cases e11:iy=q_;·refine⟨EI,?_,fun _=>rfl⟩;rw[IU e2] at h2;simp[go_sem,e0,e1,h2,e6,e7,e8,e9,e10,e11]
         ·refine⟨B,?_,fun h=>absurd (h.2.2.2.2.2.2.2.2.2.2.2) e11⟩;rw[IU e2] at h2;simp[go_sem,e0,e1,h2,e6,e7,e8,e9,e10,e11]
        ·refine⟨B,?_,fun h=>absurd (h.2.2.2.2.2.2.2.2.2.2.1) e10⟩;rw[IU e2] at h2;simp[go_sem,e0,e1,h2,e6,e7,e8,e9,e10]
       ·refine⟨B,?_,fun h=>absurd (h.2.2.2.2.2.2.2.2.2.1) e9⟩;rw[IU e2] at h2;simp[go_sem,e0,e1,h2,e6,e7,e8,e9]
      ·refine⟨B,?_,fun h=>absurd (h.2.2.2.2.2.2.2.2.1) e8⟩;rw[IU e2] at h2;simp[go_sem,e0,e1,h2,e6,e7,e8]
     ·refine⟨B,?_,fun h=>absurd (h.2.2.2.2.2.2.2.1) e7⟩;rw[IU e2] at h2;simp[go_sem,e0,e1,h2,e6,e7]
    ·refine⟨B,?_,fun h=>absurd (h.2.2.2.2.2.2.1) e6⟩;rw[IU e2] at h2;simp[go_sem,e0,e1,h2,e6]
   ·refine⟨B,?_,fun h=>absurd (⟨h.2.2.1,h.2.2.2.1,h.2.2.2.2.1,h.2.2.2.2.2.1⟩) e2⟩;rw[IJ e2] at h2;simp[go_sem,e0,e1,h2]
  ·refine⟨B,?_,fun h=>absurd (h.2.1) e1⟩;simp[go_sem,e0,e1]
 ·exact Eo3
theorem EiR(x0 x1 x2 y0 y1 y2:Int)(W:H): ∃r:Bool,(XW .eql 36 (EZ #[E I x0,E I x1,E I x2]) (EZ #[E I y0,E I y1,E I y2])).run Eb W= .ok (EU r) W/\((x0=y0/\x1=y1/\x2=y2)->r=EI):=by
 by_cases e0:x0=y0
 ·by_cases e1:x1=y1
  ·by_cases e2:x2=y2;·refine⟨EI,?_,fun _=>rfl⟩;simp[go_sem,e0,e1,e2]
   ·refine⟨B,?_,fun h=>absurd h.2.2 e2⟩;simp[go_sem,e0,e1,e2]
  ·refine⟨B,?_,fun h=>absurd h.2.1 e1⟩;simp[go_sem,e0,e1]
 ·refine⟨B,?_,fun h=>absurd h.1 e0⟩;simp[go_sem,e0]
theorem EiS(x y:Nat->Bool)(W:H): ∃r:Bool,(XW .eql 52 (EZ #[EU (x 0),EU (x 1),EU (x 2),EU (x 3),EU (x 4)]) (EZ #[EU (y 0),EU (y 1),EU (y 2),EU (y 3),EU (y 4)])).run Eb W= .ok (EU r) W/\((x 0=y 0/\x 1=y 1/\x 2=y 2/\x 3=y 3/\x 4=y 4)->r=EI):=by
 refine⟨decide (x 0=y 0/\x 1=y 1/\x 2=y 2/\x 3=y 3/\x 4=y 4),?_,fun h=>IU h⟩;generalize x 0=x0;generalize x 1=x1;generalize x 2=x2;generalize x 3=x3;generalize x 4=x4;generalize y 0=y0;generalize y 1=y1;generalize y 2=y2;generalize y 3=y3;generalize y 4=y4;obtain⟨i,hi⟩:=info_of_underlying Tryz.underlying4;have hx:=run_equalIn_array (P:=Eb) W 9999 #[EU x0,EU x1,EU x2,EU x3,EU x4] #[EU y0,EU y1,EU y2,EU y3,EU y4] Tryz.underlying52 hi;rw[show Tryz.prog.cellsOf 4=1 from Ed,show U4 5=[0,1,2,3,4] from rfl] at hx;simp only[Op.eqItems,ZK,Nat.reduceMul] at hx;by_cases e0:x0=y0
 ·subst e0;by_cases e1:x1=y1
  ·subst e1;by_cases e2:x2=y2
   ·subst e2;by_cases e3:x3=y3
    ·subst e3;by_cases e4:x4=y4;·subst e4;simp[go_sem,hx]
     ·simp[go_sem,hx,e4]
    ·simp[go_sem,hx,e3]
   ·simp[go_sem,hx,e2]
  ·simp[go_sem,hx,e1]
 ·simp[go_sem,hx,e0]
theorem EiT(x y:Nat->Int)(W:H): ∃r:Bool,(XW .eql 22 (EZ #[E I (x 0),E I (x 1),E I (x 2),E I (x 3),E I (x 4)]) (EZ #[E I (y 0),E I (y 1),E I (y 2),E I (y 3),E I (y 4)])).run Eb W= .ok (EU r) W/\((x 0=y 0/\x 1=y 1/\x 2=y 2/\x 3=y 3/\x 4=y 4)->r=EI):=by
 refine⟨decide (x 0=y 0/\x 1=y 1/\x 2=y 2/\x 3=y 3/\x 4=y 4),?_,fun h=>IU h⟩;generalize x 0=x0;generalize x 1=x1;generalize x 2=x2;generalize x 3=x3;generalize x 4=x4;generalize y 0=y0;generalize y 1=y1;generalize y 2=y2;generalize y 3=y3;generalize y 4=y4;obtain⟨i,hi⟩:=info_of_underlying Tryz.underlying3;have hx:=run_equalIn_array (P:=Eb) W 9999 #[E I x0,E I x1,E I x2,E I x3,E I x4] #[E I y0,E I y1,E I y2,E I y3,E I y4] Tryz.underlying22 hi;rw[show Tryz.prog.cellsOf 3=1 from Ed,show U4 5=[0,1,2,3,4] from rfl] at hx;simp only[Op.eqItems,ZK,Nat.reduceMul] at hx;by_cases e0:x0=y0
 ·subst e0;by_cases e1:x1=y1
  ·subst e1;by_cases e2:x2=y2
   ·subst e2;by_cases e3:x3=y3
    ·subst e3;by_cases e4:x4=y4;·subst e4;simp[go_sem,hx]
     ·simp[go_sem,hx,e4]
    ·simp[go_sem,hx,e3]
   ·simp[go_sem,hx,e2]
  ·simp[go_sem,hx,e1]
 ·simp[go_sem,hx,e0]
theorem ints_at{b c:Nat}{xs:List Int}(h:w.ownsRow b 3 1 (G A n c) n (Uu xs))(hn:xs.length=n)(hi:i<n): ∃g,A=Z ⟨g,0,X⟩/\g<w.heap.size/\w.cell? ⟨g,i,X⟩=Z (E I (xs.getD i 0))/\n<=c:=by
 rcases h.2 with⟨hv,h0⟩|⟨g,cap,cur,hv,hb,hh,hc,hrest⟩;·omega
 ·injection hv with e1 e2 e3;subst e1 e3;refine⟨g,O,(J6.1 hh).1,?_,hc⟩;rw[h.cellAt i U,Uu,List.getElem?_map,J5 U,Uq,J5 U];rfl
theorem EiV(b1 b2:Nat)(A Y4:Option Eu)(n m c d:Nat)(xs ys:List Int)(w:H)(Nl:n<=1000)(hn:xs.length=n)(hm:ys.length=m)(h1:w.ownsRow b1 3 1 (G A n c) n (Uu xs))(h2:w.ownsRow b2 3 1 (G Y4 m d) m (Uu ys)): Ef Eb 37 #[G A n c,G Y4 m d] w fun e w'=>(∃r:Bool,e=Eg (EU r)/\(xs=ys->r=EI))/\Ik w.heap.size w w':=by
 have R1:=J h1;have R2:=J h2;have HN:=J hn;have HM:=J hm;clear h1 h2 hn hm;go_enter Tryz.func37,Tryz.ntmps37;by_cases e0:n=m
 ·subst e0;go_wp2_with fail;go_loopw[5] (fun Y3 wr=> ∃i:Nat,Y3=E I i/\i<=n/\Ik w.heap.size w wr) (fun Y3 _=>n-(Ir Y3).toNat);case atStart=>exact⟨0,O,bG _,E9 _ _⟩
  case round=>
   obtain⟨i,rfl,hin,u⟩:=hrel;replace u:=J u;by_cases hlt:i<n
   ·have t8:decide ((i:Int)<(n:Int))=EI:=IU U;obtain⟨g1,hA,l1,c1,hc1⟩:=ints_at R1.out HN.out hlt;obtain⟨g2,hB,l2,c2,hc2⟩:=ints_at R2.out HM.out hlt;subst hA hB;replace c1:=(u.out.cell (p:=⟨g1,i,X⟩) l1).trans c1;replace c2:=(u.out.cell (p:=⟨g2,i,X⟩) l2).trans c2;obtain⟨x,hx⟩:=En (xs.getD i 0);obtain⟨y,hy⟩:=En (ys.getD i 0);rw[<-hx] at c1;rw[<-hy] at c2;have HXY:=J (show xs=ys->x=y from fun e=>by rw[hx,hy,e]);clear hx hy l1 l2;rcases hb:(x !=y) with _|_
    ·go_wp2_with fail;go_quiet (fail);go_wp2_with fail;go_roundw;case rel=>exact⟨i+1,O,U,gP u.out _⟩
     case measure=>simp[Ir];omega
    ·go_wp2_with fail;go_quiet (fail);go_wp2_with fail;go_ret;exact⟨⟨B,O,fun h=>by rw[HXY.out h] at hb;simp at hb⟩,gP u.out _⟩
   ·have t8:decide ((i:Int)<(n:Int))=B:=IJ U;go_wp2_with fail;go_ret;exact⟨⟨EI,O,fun _=>rfl⟩,u.out⟩
 ·have t1:((n:Int) !=(m:Int))=EI:=Ji;go_wp2_with fail;go_ret;exact⟨⟨B,O,fun h=>absurd (by rw[<-HN.out,<-HM.out,h]) e0⟩,E9 _ _⟩
section
variable{P:Program}{ops:Array Oper}{Q:Exit->Act->World->Prop}{w:World}{rest:List Oper}
theorem cY(h:k≠d):(a.put (Z d) v).tmps[k]?=a.tmps[k]?:=by simp[Ig,Array.getElem?_setIfInBounds,ZE h]
theorem lT(h:d<a.tmps.size):(a.put (Z d) v).tmps[d]?=Z v:=by simp[Ig,h]
theorem size_put:(a.put (Z d) v).tmps.size=a.tmps.size:=by simp[Ig]
theorem Nm{d:Option Tmp}:(a.put d v).defers=a.defers:=by cases d<;>rfl
theorem i7(h:a.tmps[k]?=Z v):a.eval (.tmp k)=v:=by simp[Act.eval,h]
theorem n_{TB:EB}{g:Nat}{big:Array Y}{o:EL}(hT:IG P T n)(ho:o.op= .load T x)(hg:D w g big TB)(hn:cs.size=n)(he:big.extract off (off+n)=cs)(ev:J7->Y)(hx:ev x=M (Z ⟨g,off,X⟩)):(If ev o).run P w= .ok (.value (EZ cs)) w:=by obtain⟨⟨d,hu,hd⟩,hi⟩:=hT;subst he;have hrun:=run_loadVar_mid w g off T _ d (World.rangeAt_of_block hg off n) hu mj yD;exact Eml
theorem x_{o:EL}{r:Bool}(ho:o.op= .binOp .eql T x y Y3)(hm:P.eqGuardType P.depth T=B)(hq:(XW .eql T (EZ xs) (EZ ys)).run P w= .ok (EU r) w)(ev:J7->Y)(h1:ev x=EZ xs)(h2:ev y=EZ ys):(If ev o).run P w= .ok (.value (EU r)) w:=by exact Eok
structure EIJ(N k:Nat)(px py:Y)(r:Bool)(a:E6):Prop where
 sz:a.tmps.size=N
 df:a.defers=[]
 t2:a.tmps[2]?=Z px
 t3:a.tmps[3]?=Z py
 tk:a.tmps[k]?=Z (EU r)
theorem lV{o0 o1 o2 o3 o4 o5 o6:EL}{N i0:Nat}{px py p1 p2 v1 v2:Y}{r s:Bool}(A:EIJ N k px py r a)(hk:k<d)(h3:3<d)(hN:d+6<N) (a0:o0.op= .move (.tmp k)) (b0:o0.guard=X) (c0:o0.dst=Z d) (hd:(ops[i0]?).bind (·.dst)=Z d) (b1:o1.guard=Z (i0,EI)) (c1:o1.dst=Z (d+1)) (b2:o2.guard=Z (i0,EI)) (c2:o2.dst=Z (d+2)) (b3:o3.guard=Z (i0,EI)) (c3:o3.dst=Z (d+3)) (b4:o4.guard=Z (i0,EI)) (c4:o4.dst=Z (d+4)) (b5:o5.guard=Z (i0,EI)) (c5:o5.dst=Z (d+5)) (a6:o6.op= .pick (.tmp d) (.tmp (d+5)) (.const (EU B))) (b6:o6.guard=X) (c6:o6.dst=Z (d+6)) (H1: ∀ev:J7->Y,ev (.tmp 2)=px->(If ev o1).run P w= .ok (.value p1) w) (H2: ∀ev:J7->Y,ev (.tmp (d+1))=p1->(If ev o2).run P w= .ok (.value v1) w) (H3: ∀ev:J7->Y,ev (.tmp 3)=py->(If ev o3).run P w= .ok (.value p2) w) (H4: ∀ev:J7->Y,ev (.tmp (d+3))=p2->(If ev o4).run P w= .ok (.value v2) w) (H5: ∀ev:J7->Y,ev (.tmp (d+2))=v1->ev (.tmp (d+4))=v2->(If ev o5).run P w= .ok (.value (EU s)) w) (h: ∀a',EIJ N (d+6) px py (r&&s) a'->Ic P ops Q rest a' w):Ic P ops Q (o0::o1::o2::o3::o4::o5::o6::rest) a w:=by
 have hs:=A.sz;have e0:(If a.eval o0).run P w= .ok (.value (EU r)) w:=by unfold If;simp[a0,i7 A.tk]
 refine Jr (Ei b0) e0 ?_;rw[c0];have z0:((a.put (Z d) (EU r)).tmps[d]?)=Z (EU r):=lT U;have H6: ∀(ev:J7->Y) (r:Bool) (x:Y),ev (.const (EU B))=EU B->ev (.tmp d)=EU r->ev (.tmp (d+5))=x->(If ev o6).run P w= .ok (.value (if r then x else EU B)) w:=fun ev r x h0 h1 h2=>by unfold If;cases r<;>simp[go_sem,a6,h0,h1,h2]
 cases r;·have no: ∀(o:EL) (a':E6),o.guard=Z (i0,EI)->a'.tmps[d]?=Z (EU B)->I5 o (JO ops a'.tmps)=B:=fun o a' h1 h2=>EJE h1 hd h2 O;refine wpList_skip (no _ _ b1 z0) ?_;rw[c1];refine wpList_skip (no _ _ b2 (by rw[cY U];exact z0)) ?_;rw[c2];refine wpList_skip (no _ _ b3 (by rw[cY U,cY U];exact z0)) ?_;rw[c3];refine wpList_skip (no _ _ b4 (by rw[cY U,cY U,cY U];exact z0)) ?_;rw[c4];refine wpList_skip (no _ _ b5 (by rw[cY U,cY U,cY U,cY U];exact z0)) ?_;rw[c5];refine Jr (v:=EU B) (Ei b6) (H6 _ B _ O (i7 tG) O) ?_;exact EoI
 ·have yes: ∀(o:EL) (a':E6),o.guard=Z (i0,EI)->a'.tmps[d]?=Z (EU EI)->I5 o (JO ops a'.tmps)=EI:=fun o a' h1 h2=>XG h1 hd h2;refine Jr (yes _ _ b1 z0) (H1 _ (i7 Nn)) ?_;rw[c1];refine Jr (yes _ _ b2 tG) (H2 _ (i7 (lT rE))) ?_;rw[c2];refine Jr (yes _ _ b3 tG) (H3 _ (i7 Np)) ?_;rw[c3];refine Jr (yes _ _ b4 tG) (H4 _ (i7 (lT rE))) ?_;rw[c4];refine Jr (yes _ _ b5 tG) (H5 _ (i7 (by rw[cY U,cY U];exact lT rE)) (i7 (lT rE))) ?_;rw[c5];refine Jr (v:=EU s) (Ei b6) (H6 _ EI (EU s) O (i7 tG) (i7 (lT rE))) ?_;exact EoI
end
structure yE where
 (h:Nat->Int)
 (o:Nat->Bool)
 (r:Nat->Int)
 b:Bool
def c_(x:yE)(q:Y):Array Y:= #[E I (x.h 0),E I (x.h 1),E I (x.h 2),E I (x.h 3),E I (x.h 4),E I (x.h 5),E I (x.h 6),E I (x.h 7),E I (x.h 8),E I (x.h 9),E I (x.h 10),E I (x.h 11),E I (x.h 12),E I (x.h 13),E I (x.h 14),E I (x.h 15),E I (x.h 16),E I (x.h 17),E I (x.h 18),q,EU (x.o 0),EU (x.o 1),EU (x.o 2),EU (x.o 3),EU (x.o 4),E I (x.r 0),E I (x.r 1),E I (x.r 2),E I (x.r 3),E I (x.r 4),EU x.b]
structure yE.same(x y:yE):Prop where
 h: ∀i,i<19->x.h i=y.h i
 o: ∀i,i<5->x.o i=y.o i
 r: ∀i,i<5->x.r i=y.r i
 b:x.b=y.b
theorem EIU:IG Eb 36 3:=⟨⟨_,Tryz.underlying36,O⟩,Ed⟩
theorem EIX:IG Eb 50 12:=⟨⟨_,Tryz.underlying50,O⟩,Ed⟩
theorem EIZ:IG Eb 52 5:=⟨⟨_,Tryz.underlying52,O⟩,Ed⟩
theorem EIa:IG Eb 22 5:=⟨⟨_,Tryz.underlying22,O⟩,Ed⟩
theorem EiY(x y:yE)(b1 b2:Nat)(A Y4:Option Eu)(n m c d:Nat)(xs ys:List Int)(w:H)(Nl:n<=1000)(hn:xs.length=n)(hm:ys.length=m)(h1:w.ownsRow b1 3 1 (G A n c) n (Uu xs))(h2:w.ownsRow b2 3 1 (G Y4 m d) m (Uu ys)): Ef Eb 17 #[EZ (c_ x (G A n c)),EZ (c_ y (G Y4 m d))] w fun e w'=>(∃r:Bool,e=Eg (EU r)/\(x.same y->xs=ys->r=EI))/\Ik w.heap.size w w':=by
 have bb:=JV w (EJ (c_ x (G A n c)) 54) (EJ (c_ y (G Y4 m d)) 54);have R1:=J<|EP h1 fun _ _ hk=>D.V hk bb;have R2:=J<|EP h2 fun _ _ hk=>D.V hk bb;have Nq:=J<|Jp Nl (Jp hn hm);have FE:=J<|(D.new w (c_ x (G A n c)) 54).V (Er (w.alloc (EJ (c_ x (G A n c)) 54)) (EJ (c_ y (G Y4 m d)) 54));have FI:Ec (D ((w.alloc (EJ (c_ x (G A n c)) 54)).alloc (EJ (c_ y (G Y4 m d)) 54)) (w.heap.size+1) (c_ y (G Y4 m d)) 54):=J (by have:=D.new (w.alloc (EJ (c_ x (G A n c)) 54)) (c_ y (G Y4 m d)) 54;simpa using this);have u:=J bb;obtain⟨xv,hxv⟩: ∃xv,xv=c_ x (G A n c):=⟨_,O⟩;obtain⟨yv,hyv⟩: ∃yv,yv=c_ y (G Y4 m d):=⟨_,O⟩;rw[<-hxv,<-hyv] at FE FI u R1 R2;rw[<-hxv,<-hyv];have HX:=J hxv;have HY:=J hyv;clear hn hm h1 h2 Nl hxv hyv bb;go_enter Tryz.func17,Tryz.ntmps17;have cx:((w.alloc (EJ xv 54)).alloc (EJ yv 54)).cell? ⟨w.heap.size,19,X⟩=Z (G A n c):=(FE.out.cell 19).trans jS;have cy:((w.alloc (EJ xv 54)).alloc (EJ yv 54)).cell? ⟨w.heap.size+1,19,X⟩=Z (G Y4 m d):=(FI.out.cell 19).trans jT;generalize hc:aG 2 _ _=c2;go_wp2_with fail;refine(EiV b1 b2 A Y4 n m c d xs ys _ Nq.out.1 Nq.out.2.1 Nq.out.2.2 R1.out R2.out).mono ?_;rintro e w3 ⟨⟨r0,rfl,hr0⟩,b3⟩;have KX:=J<|FE.out.V b3;have KY:=J<|FI.out.V b3;have B3:=ET u b3;clear cx cy b3 FE FI u R1 R2;obtain⟨gx,hgx⟩:=En w.heap.size;obtain⟨gy,hgy⟩:=En (w.heap.size+1);rw[<-hgy] at KY⊢;rw[<-hgx] at KX⊢;clear hgx hgy;have x0:w3.cell? ⟨gx,0,X⟩=Z (E I (x.h 0)):=(KX.out.cell 0).trans jS;have y0:w3.cell? ⟨gy,0,X⟩=Z (E I (y.h 0)):=(KY.out.cell 0).trans jT;have x1:w3.cell? ⟨gx,1,X⟩=Z (E I (x.h 1)):=(KX.out.cell 1).trans jS;have y1:w3.cell? ⟨gy,1,X⟩=Z (E I (y.h 1)):=(KY.out.cell 1).trans jT;have x2:w3.cell? ⟨gx,2,X⟩=Z (E I (x.h 2)):=(KX.out.cell 2).trans jS;have y2:w3.cell? ⟨gy,2,X⟩=Z (E I (y.h 2)):=(KY.out.cell 2).trans jT;have x3:w3.cell? ⟨gx,3,X⟩=Z (E I (x.h 3)):=(KX.out.cell 3).trans jS;have y3:w3.cell? ⟨gy,3,X⟩=Z (E I (y.h 3)):=(KY.out.cell 3).trans jT;have x30:w3.cell? ⟨gx,30,X⟩=Z (EU x.b):=(KX.out.cell 30).trans jS;have y30:w3.cell? ⟨gy,30,X⟩=Z (EU y.b):=(KY.out.cell 30).trans jT;obtain⟨r4,q4,h4⟩:=EiR (x.h 4) (x.h 5) (x.h 6) (y.h 4) (y.h 5) (y.h 6) w3;obtain⟨r7,q7,h7⟩:=EiP (x.h 7) (x.h 8) (x.h 9) (x.h 10) (x.h 11) (x.h 12) (x.h 13) (x.h 14) (x.h 15) (x.h 16) (x.h 17) (x.h 18) (y.h 7) (y.h 8) (y.h 9) (y.h 10) (y.h 11) (y.h 12) (y.h 13) (y.h 14) (y.h 15) (y.h 16) (y.h 17) (y.h 18) w3;obtain⟨yI,q20,h20⟩:=EiS x.o y.o w3;obtain⟨yJ,q25,pC⟩:=EiT x.r y.r w3;have h0:x.same y->r4=EI/\r7=EI/\yI=EI/\yJ=EI:=fun s=>⟨h4 ⟨s.h 4 U,s.h 5 U,s.h 6 U⟩,h7 ⟨s.h 7 U,s.h 8 U,s.h 9 U,s.h 10 U,s.h 11 U,s.h 12 U,s.h 13 U,s.h 14 U,s.h 15 U,s.h 16 U,s.h 17 U,s.h 18 U⟩,h20 ⟨s.o 0 U,s.o 1 U,s.o 2 U,s.o 3 U,s.o 4 U⟩,pC ⟨s.r 0 U,s.r 1 U,s.r 2 U,s.r 3 U,s.r 4 U⟩⟩;have H0:=J h0;have HR:=J hr0;clear h4 h7 h20 pC h0 hr0;have HC:=J hc;clear hc;go_wp2_with fail;rw[<-HC.out];refine wp_region_lit ?_;simp only[List.append_eq,List.cons_append,ZV];refine Jr (v:=EU r0) (Ei O) O ?_;refine lV (N:=75) (k:=11) (d:=12) (i0:=1) (px:=M (Z ⟨gx,0,X⟩)) (py:=M (Z ⟨gy,0,X⟩)) (p1:=M (Z ⟨gx,0,X⟩)) (p2:=M (Z ⟨gy,0,X⟩)) (v1:=E I (x.h 0)) (v2:=E I (y.h 0)) (s:=(x.h 0==y.h 0)) ⟨O,O,O,O,O⟩ Ea Ea Ea O O O O O O O O O O O O O O O O O ?_ ?_ ?_ ?_ ?_ fun a1 A1=> ?_;·exact EmL
 ·exact fun ev h=>by unfold If;simp[go_sem,h,x0]
 ·exact EmL
 ·exact fun ev h=>by unfold If;simp[go_sem,h,y0]
 ·exact EoH
 refine lV (N:=75) (k:=18) (d:=19) (i0:=8) (px:=M (Z ⟨gx,0,X⟩)) (py:=M (Z ⟨gy,0,X⟩)) (p1:=M (Z ⟨gx,1,X⟩)) (p2:=M (Z ⟨gy,1,X⟩)) (v1:=E I (x.h 1)) (v2:=E I (y.h 1)) (s:=(x.h 1==y.h 1)) A1 Ea Ea Ea O O O O O O O O O O O O O O O O O ?_ ?_ ?_ ?_ ?_ fun a2 A2=> ?_;·exact EmL
 ·exact fun ev h=>by unfold If;simp[go_sem,h,x1]
 ·exact EmL
 ·exact fun ev h=>by unfold If;simp[go_sem,h,y1]
 ·exact EoH
 refine lV (N:=75) (k:=25) (d:=26) (i0:=15) (px:=M (Z ⟨gx,0,X⟩)) (py:=M (Z ⟨gy,0,X⟩)) (p1:=M (Z ⟨gx,2,X⟩)) (p2:=M (Z ⟨gy,2,X⟩)) (v1:=E I (x.h 2)) (v2:=E I (y.h 2)) (s:=(x.h 2==y.h 2)) A2 Ea Ea Ea O O O O O O O O O O O O O O O O O ?_ ?_ ?_ ?_ ?_ fun a3 A3=> ?_;·exact EmL
 ·exact fun ev h=>by unfold If;simp[go_sem,h,x2]
 ·exact EmL
 ·exact fun ev h=>by unfold If;simp[go_sem,h,y2]
 ·exact EoH
 refine lV (N:=75) (k:=32) (d:=33) (i0:=22) (px:=M (Z ⟨gx,0,X⟩)) (py:=M (Z ⟨gy,0,X⟩)) (p1:=M (Z ⟨gx,3,X⟩)) (p2:=M (Z ⟨gy,3,X⟩)) (v1:=E I (x.h 3)) (v2:=E I (y.h 3)) (s:=(x.h 3==y.h 3)) A3 Ea Ea Ea O O O O O O O O O O O O O O O O O ?_ ?_ ?_ ?_ ?_ fun a4 A4=> ?_;·exact EmL
 ·exact fun ev h=>by unfold If;simp[go_sem,h,x3]
 ·exact EmL
 ·exact fun ev h=>by unfold If;simp[go_sem,h,y3]
 ·exact EoH
 refine lV (N:=75) (k:=39) (d:=40) (i0:=29) (px:=M (Z ⟨gx,0,X⟩)) (py:=M (Z ⟨gy,0,X⟩)) (p1:=M (Z ⟨gx,4,X⟩)) (p2:=M (Z ⟨gy,4,X⟩)) (v1:=EZ #[E I (x.h 4),E I (x.h 5),E I (x.h 6)]) (v2:=EZ #[E I (y.h 4),E I (y.h 5),E I (y.h 6)]) (s:=r4) A4 Ea Ea Ea O O O O O O O O O O O O O O O O O ?_ ?_ ?_ ?_ ?_ fun a5 A5=> ?_;·exact EmL
 ·exact fun ev h=>n_ EIU O KX.out O jS ev h
 ·exact EmL
 ·exact fun ev h=>n_ EIU O KY.out O jT ev h
 ·exact fun ev h1 h2=>x_ O Ed q4 ev h1 h2
 refine lV (N:=75) (k:=46) (d:=47) (i0:=36) (px:=M (Z ⟨gx,0,X⟩)) (py:=M (Z ⟨gy,0,X⟩)) (p1:=M (Z ⟨gx,7,X⟩)) (p2:=M (Z ⟨gy,7,X⟩)) (v1:=EZ #[E I (x.h 7),E I (x.h 8),E I (x.h 9),E I (x.h 10),E I (x.h 11),E I (x.h 12),E I (x.h 13),E I (x.h 14),E I (x.h 15),E I (x.h 16),E I (x.h 17),E I (x.h 18)]) (v2:=EZ #[E I (y.h 7),E I (y.h 8),E I (y.h 9),E I (y.h 10),E I (y.h 11),E I (y.h 12),E I (y.h 13),E I (y.h 14),E I (y.h 15),E I (y.h 16),E I (y.h 17),E I (y.h 18)]) (s:=r7) A5 Ea Ea Ea O O O O O O O O O O O O O O O O O ?_ ?_ ?_ ?_ ?_ fun a6 A6=> ?_;·exact EmL
 ·exact fun ev h=>n_ EIX O KX.out O jS ev h
 ·exact EmL
 ·exact fun ev h=>n_ EIX O KY.out O jT ev h
 ·exact fun ev h1 h2=>x_ O Ed q7 ev h1 h2
 refine lV (N:=75) (k:=53) (d:=54) (i0:=43) (px:=M (Z ⟨gx,0,X⟩)) (py:=M (Z ⟨gy,0,X⟩)) (p1:=M (Z ⟨gx,20,X⟩)) (p2:=M (Z ⟨gy,20,X⟩)) (v1:=EZ #[EU (x.o 0),EU (x.o 1),EU (x.o 2),EU (x.o 3),EU (x.o 4)]) (v2:=EZ #[EU (y.o 0),EU (y.o 1),EU (y.o 2),EU (y.o 3),EU (y.o 4)]) (s:=yI) A6 Ea Ea Ea O O O O O O O O O O O O O O O O O ?_ ?_ ?_ ?_ ?_ fun a7 A7=> ?_;·exact EmL
 ·exact fun ev h=>n_ EIZ O KX.out O jS ev h
 ·exact EmL
 ·exact fun ev h=>n_ EIZ O KY.out O jT ev h
 ·exact fun ev h1 h2=>x_ O Ed q20 ev h1 h2
 refine lV (N:=75) (k:=60) (d:=61) (i0:=50) (px:=M (Z ⟨gx,0,X⟩)) (py:=M (Z ⟨gy,0,X⟩)) (p1:=M (Z ⟨gx,25,X⟩)) (p2:=M (Z ⟨gy,25,X⟩)) (v1:=EZ #[E I (x.r 0),E I (x.r 1),E I (x.r 2),E I (x.r 3),E I (x.r 4)]) (v2:=EZ #[E I (y.r 0),E I (y.r 1),E I (y.r 2),E I (y.r 3),E I (y.r 4)]) (s:=yJ) A7 Ea Ea Ea O O O O O O O O O O O O O O O O O ?_ ?_ ?_ ?_ ?_ fun a8 A8=> ?_;·exact EmL
 ·exact fun ev h=>n_ EIa O KX.out O jS ev h
 ·exact EmL
 ·exact fun ev h=>n_ EIa O KY.out O jT ev h
 ·exact fun ev h1 h2=>x_ O Ed q25 ev h1 h2
 refine lV (N:=75) (k:=67) (d:=68) (i0:=57) (px:=M (Z ⟨gx,0,X⟩)) (py:=M (Z ⟨gy,0,X⟩)) (p1:=M (Z ⟨gx,30,X⟩)) (p2:=M (Z ⟨gy,30,X⟩)) (v1:=EU x.b) (v2:=EU y.b) (s:=(x.b==y.b)) A8 Ea Ea Ea O O O O O O O O O O O O O O O O O ?_ ?_ ?_ ?_ ?_ fun a9 A9=> ?_;·exact EmL
 ·exact fun ev h=>by unfold If;simp[go_sem,h,x30]
 ·exact EmL
 ·exact fun ev h=>by unfold If;simp[go_sem,h,y30]
 ·exact EoH
 have ev9:=i7 A9.tk;refine Jr (v:=EU (((((((((r0&&(x.h 0==y.h 0))&&(x.h 1==y.h 1))&&(x.h 2==y.h 2))&&(x.h 3==y.h 3))&&r4)&&r7)&&yI)&&yJ)&&(x.b==y.b))) (w':=w3) (Ei O) (by unfold If;simp only[ev9,Og]) ?_;refine‹∀(a:E6) (w:H),Code.wp Eb Code.ret _ a w->_› _ _ ?_;refine wp_ret ?_;refine EV (v:=EU (((((((((r0&&(x.h 0==y.h 0))&&(x.h 1==y.h 1))&&(x.h 2==y.h 2))&&(x.h 3==y.h 3))&&r4)&&r7)&&yI)&&yJ)&&(x.b==y.b))) ((results_tmp O _ _ _).trans (by have h9:=lT (a:=a9) (d:=4) (v:=EU (((((((((r0&&(x.h 0==y.h 0))&&(x.h 1==y.h 1))&&(x.h 2==y.h 2))&&(x.h 3==y.h 3))&&r4)&&r7)&&yI)&&yJ)&&(x.b==y.b))) (by rw[A9.sz];decide);rw[Array.getD_eq_getD_getElem?,h9];rfl)) (by rw[Nm,A9.df]) ⟨⟨_,O,fun s e=> ?_⟩,B3.out⟩;obtain⟨h1,h2,h3,h4⟩:=H0.out s;simp[HR.out e,h1,h2,h3,h4,s.h 0 U,s.h 1 U,s.h 2 U,s.h 3 U,s.b]
section
variable{P:Program}{a:Act}{o:Oper}{C:World->Prop}{K:Act->Prop}
theorem Ei4{r:Bool}(ho:o.op= .binOp .eql T x y Y3)(hm:P.eqGuardType P.depth T=B)(hq: ∀W,(XW .eql T (EZ xs) (EZ ys)).run P W= .ok (EU r) W)(h1:a.eval x=EZ xs)(h2:a.eval y=EZ ys)(hk:K (a.put o.dst (EU r))):o.quiet P a C K:=by refine⟨_,fun w hw=> ?_,hk⟩;have:=x_ (w:=w) ho hm (hq w) a.eval h1 h2;unfold Oper.quietAt;rw[this];first|exact⟨rfl,rfl⟩|rfl
end
theorem EIc{l:List Int}(hl:l.length=12)(W:H):(XW .eql 38 (EZ (l.map (E .i64)).toArray) (EZ (l.map (E .i64)).toArray)).run Eb W= .ok (EU EI) W:=by
 match l,hl with
 |[x0,x1,x2,x3,x4,x5,x6,x7,x8,x9,fN,iy],_=> obtain⟨r,h1,h2⟩:=EiQ x0 x1 x2 x3 x4 x5 x6 x7 x8 x9 fN iy x0 x1 x2 x3 x4 x5 x6 x7 x8 x9 fN iy W;rw[h2 ⟨O,O,O,O,O,O,O,O,O,O,O,O⟩] at h1;exact h1
theorem Ei5(W:H):(XW .eql 38 (EZ aB.toArray) (EZ aB.toArray)).run Eb W= .ok (EU EI) W:=EIc (l:=[4,1,0,0,0,0,2,4,0,2,4,0]) O W
def yU:JI:=⟨3,0,[],B,0,0,0,0,B,B⟩
theorem Ei6:Tryz.prog.built 28 []=Z gH:=Ed
theorem Ei7:Tryz.prog.built 48 [(0,E I 3)]=Z (yU.cells X 0).toArray:=Ed
theorem Ei8{o:EL}{K:E6->Prop}{g:Nat}{cs:List Y}(hT:IG P T n)(x:J7)(ho:o.op= .load T x)(hx:a.eval x=M (Z ⟨g,off,X⟩))(hg:Ec (W.rangeAt g off cs))(hn:cs.length=n) (hk:K (a.put o.dst (EZ cs.toArray))):o.quiet P a (fun w'=> ∃x,w'=EC W x) K:=by
 obtain⟨⟨d,hu,hd⟩,hi⟩:=hT;refine⟨_,fun w hw=> ?_,hk⟩;obtain⟨y,rfl⟩:=hw;have hr:(EC W y).rangeAt g off cs:=fun j v hj=>by have h:=hg.out j v hj;rw[(EN y).cell (Xv _ _ h)];exact h
 have hrun:=run_loadVar_mid (EC W y) g off T cs d hr hu mj gR;unfold Oper.quietAt If;exact EnW
theorem Ei9(Ju:List (Array Y)): ∀(i j:Nat),(∀tv∈Ju,tv.size=46)->j<46-> ∀tv,Ju[i]?=Z tv->(gL Ju)[i*46+j]?=tv[j]?:=by
 induction Ju with
 |nil=>intro i j _ _ x h;simp at h
 |cons y t ih=>
  intro i j hs hj x h;have hy:y.toList.length=46:=by rw[Array.length_toList];exact hs y (gS ..)
  rw[gL,kI];match i,h with
  |0,h=> simp only[kZ,m_] at h;subst h;rw[bi (by rw[hy];omega),Nat.zero_mul,OD,Array.getElem?_toList]
  |i+1,h=> rw[aX (by rw[hy];omega),hy,show(i+1)*46+j-46=i*46+j from U];exact ih i j (fun tv ht=>hs tv (aJ _ ht)) hj x Up
theorem Ei_{b c:Nat}{Ju:List (Array Y)}(h:w.ownsRow b 43 46 (G A n c) n (gL Ju))(hl:Ju.length=n)(hs: ∀tv∈Ju,tv.size=46)(hi:i<n): ∃g tv,A=Z ⟨g,0,X⟩/\tv∈Ju/\ ∀j,j<46->w.cell? ⟨g,i*46+j,X⟩=tv[j]?:=by
 obtain⟨tv,hx⟩: ∃tv,Ju[i]?=Z tv:=⟨_,J5 U⟩;rcases h.2 with⟨-,h0⟩|⟨g,cap,cur,hv,-,hh,hc,hrest⟩;·omega
 ·injection hv with e1 e2 e3;subst e1 e3;exact⟨g,tv,O,dn hx,fun j hj=>by rw[h.cellAt (i*46+j) U,Ei9 Ju i j hs hj tv hx]⟩
theorem EjE(w:H)(hR:Jt w)(hC:Xr w)(h2:2<=w.heap.size): Ef Eb 8 #[] w fun e w'=>e=Eg (EU EI)/\Ik w.heap.size w w':=by
 have D2:=J (show∃ie z,Tryz.prog.info? 48=Z ie/\ie.zero=Z z/\ie.size=10 from EEV);obtain⟨ev,hev⟩:=En ((yU.cells X 0).toArray);obtain⟨pz,hpz⟩:=En gH;have BP:=J Ei6;have BE:=J Ei7;rw[<-hev] at BE;rw[<-hpz] at BP;have ES:Ec (ev.size=10):=J (by rw[hev];rfl);have b1:=Er w (EJ ev 48)
 have hE:Xu 0 (w.alloc (EJ ev 48)) (Z ⟨w.heap.size,0,X⟩) 1 1 [(yU,X,0)]:=⟨by
  have:=oC (base:=0) (e:=48) (size:=10) w ev 1 (bG _) Ot (by rw[ES.out]);rw[hev] at this⊢;exact this,O,fun x hx=>by
  rw[cF.1 hx];exact⟨⟨FJ,FJ,FJ,FJ⟩,by simp[yU],X0 _ _⟩⟩
 have RA:=J<|EiN (fun i=>if 5<=i/\i<=8 then .slice X 0 0 else E I 0) (fun _=>0) (fun _=>0) 0 _ 1 1 _ _ Ea ⟨fun i h1 h2=>⟨if_neg U,go⟩,fun i h1 h2=>⟨X,0,if_pos ⟨h1,h2⟩⟩,.inl Ea⟩ (fun i h1 h2=>⟨X,0,[],if_pos ⟨h1,h2⟩,O,oJ _ _⟩) (hR.V b1) (hC.V b1) (Ez h2 b1.size) U hE;have u:=J b1;rw[show EG 56 (fun i=>if 5<=i/\i<=8 then G X 0 0 else E I 0)=pz by rw[hpz];rfl] at RA;have CH:U_ (fun _=>0) (fun _=>0)=40:=Ea;clear hE hR hC h2 b1 hpz hev;go_enter Tryz.func8,Tryz.ntmps8;go_wp2_with (first|((with_reducible refine It 5 ?_);refine I3 rfl 28 _ rfl pz BP.out ?_)|((with_reducible refine It 6 ?_);refine I3 rfl 48 _ rfl ev BE.out ?_)|((with_reducible refine It 7 ?_);(refine Na rfl 29 48 _ 10 ev rfl rfl ES.out Tryz.underlying29 D2.out U U ?_)));refine RA.out.mono ?_;rintro e w3 ⟨⟨A,c,Ju,sv,code,rfl,own,tl,Nr,sz,ps⟩,b3⟩
 obtain⟨rfl,rfl⟩:code=40/\sv=X8:=by
  rcases ps with⟨_,h1,h2⟩|⟨h1,_⟩;·exact⟨by rw[h1,CH],h2⟩
  ·rw[CH] at h1;cases h1
 obtain⟨g,tv,rfl,hm,hc⟩:=Ei_ own tl (fun tv h=>(Nr tv h).2) (i:=0) U;obtain rfl:=(Nr tv hm).1 (by rw[CH];decide)
 have RA0:Ec (w3.rangeAt g 0 aB):=J (by
  intro j v hj
  have hjl:j<12:=by
   rcases JY j 12 with h|h;·exact h
   ·rw[bf (by simp[aB];omega)] at hj;cases hj
  have h2:=hc j U;rw[Nat.zero_mul] at h2;rw[h2,qT,I8,OE,bi (by simp[aB];omega)];exact hj)
 have B3:=ET u b3;clear own tl Nr sz ps hm hc b3 RA CH D2 u BP BE;obtain⟨zs,hzs⟩:=En X8;have ZS:Ec (zs.size=31):=J Nd;have ZO:Ec (zs.all (·.oneCell')=EI):=J (by rw[hzs];exact M_);have ZT:Ec (Oq Eb 54 zs):=J (by rw[hzs];exact qB);rw[<-hzs];clear hzs;have KS:=J<|D.new w3 zs 54;go_wp2_with (with_reducible first|refine wA ZT.out ?_|refine wS (cs:=zs) fh KS (Ev.mk ?_) (ho:=ZS.out) (hn:=ZS.out) (h1:=ZO.out));apply Eo;have B4:=J<|E2 (g:=w3.heap.size) (Er w3 (EJ zs 54)) (E7 _) zs;have RA4:Ec (((w3.alloc (EJ zs 54)).setRow w3.heap.size zs).rangeAt g 0 aB):=J fun j v hj=>by have h:=RA0.out j v hj;rw[B4.out.cell (Xv _ _ h)];exact h
 have B5:=ET B3 B4.out;clear RA0 B3 B4 KS;generalize (w3.alloc (EJ zs 54)).setRow w3.heap.size zs=w4 at*;have FL:Ec (aB.length=12):=J O;have FA:=J<|fun W=>EEF W;have FQ:=J Ei5;obtain⟨fx,hfx⟩:=En aB;rw[<-hfx] at RA4 FL FA FQ;clear hfx;go_wp2_with fail;refine Zy Ed Ed ?_
 repeat (first
  |go_big_quiet_skip
  |(go_big_quiet_want
    first
     |(refine Ei8 (T:=38) (g:=g) (off:=0) iQ _ rfl rfl RA4 ?_ ?_;(·exact FL.out);go_simp;go_big_quiet_on)
     |(refine Ei4 rfl Ed FQ.out rfl rfl ?_;go_simp;go_big_quiet_on)
     |(go_big_quiet_op
       first
        |go_big_quiet_on
        |go_big_quiet_call (with_reducible refine aE (FA.out _)))))
 refine I1 ?_;intro _ hw';obtain⟨y9,rfl⟩:=hw';have Em:=EN y9;generalize EC w4 y9=w5 at*;go_wp2_with fail;go_ret;exact⟨O,bt B5.out Em⟩
theorem EjI(l:List Rec)(i:Nat)(x:Rec)(h:l[i]?=Z x)(j:Nat)(hj:j<6):(Uw l)[i*6+j]?=x.v[j]?:=by
 induction l generalizing i with
 |nil=>simp at h
 |cons y r ih=>
  cases i with
  |zero=> obtain rfl:y=x:=Up;rw[Uw,kI,Nat.zero_mul,OD,bi BI]
  |succ i=> rw[Uw,kI,aX BI];rw[show(i+1)*6+j-y.v.length=i*6+j from BI];exact ih i Up
theorem EjJ{base c:Nat}{l:List Rec}{x:Rec}(h:W.ownsRow base 58 6 (G A n c) n (Uw l))(hx:l[i]?=Z x): ∃g,A=Z ⟨g,0,X⟩/\n<=c/\c<=9223372036854775807/\W.cell? ⟨g,i*6,X⟩=Z (E I x.k)/\W.cell? ⟨g,i*6+1,X⟩=Z (E I x.s)/\W.cell? ⟨g,i*6+2,X⟩=Z (E I x.q):=by
 have hi:=(Xx.1 hx).1;have h0:=h;rcases h.2 with⟨hv,h1⟩|⟨g,cap',cur,hv,hg,hh,hl,hm,hs,ht⟩;·have:=h.1;rw[yK,h1] at this;omega
 ·injection hv with h1 h2 h3;subst h1;subst h3;have e:=fun j hj=>EjI l i x hx j hj;have cl: ∀j Y3,(Uw l)[j]?=Z Y3->W.cell? ⟨g,j,X⟩=Z Y3:=fun j Y3 hu=>by have:=h0.cells (g:=g) O j Y3 hu;rwa [show(⟨g,0,X⟩:Eu).add j=⟨g,j,X⟩ from Xw] at this
  exact⟨g,O,hl,by unfold maxLen at hm;exact hm,cl (i*6) _ ((e 0 U).trans O),cl (i*6+1) _ ((e 1 U).trans O),cl (i*6+2) _ ((e 2 U).trans O)⟩
theorem EIg(h:Xr w):2<=w.heap.size:=Xv _ _ (h 0 U)
theorem rA.V{f:Nat->Y}(h:rA w f)(hb:Ik w.heap.size w w'):rA w' f:=
 ⟨h.int,fun i h1 h2=>by obtain⟨A,xs,cap,e,l1,l2,r,x⟩:=h.key i h1 h2;exact⟨A,xs,cap,e,l1,l2,Ix r hb,x⟩⟩
theorem tU.V(h:tU w v)(hb:Ik w.heap.size w w'):tU w' v:=by obtain⟨A,l,c,rfl,h⟩:=h;refine⟨A,l,c,O,h.imp id fun⟨b,off,e,h⟩=>⟨b,off,e,fun i hi=> ?_⟩⟩;obtain⟨e,a,d,h1,h2⟩:=h i hi;refine⟨e,a,d,h1.V hb,fun j hj=> ?_⟩;have h3:=h2 j hj;obtain⟨v,hv⟩: ∃v,(e.cells a d)[j]?=Z v:=⟨_,J5 (by rw[JI.tC];exact hj)⟩;rw[hv] at h3⊢;rw[hb.cell (Xv _ _ h3)];exact h3
theorem Xu.EjO{b0:Nat}{c:Nat}{es:fu}(h:Xu b0 W A n c es)(m:JF lo W.heap.size W W'):Xu b0 W' A n c es:=
 h.keep fun S hS k cs hk=>m.Ek k cs S hk.lt jQ jQ hk
def tH(c:Ey):List Int:=[c.tok.h,c.tok.e,c.tok.o,c.mode,c.Em.r,c.Em.s,c.Em.q,c.pt.c,c.pt.a0,c.pt.a1,c.pt.a2,c.pt.a3,c.pt.n0,c.pt.n1,c.pt.n2,c.pt.n3,c.pt.b.r,c.pt.b.s,c.pt.b.q]
def yX(c:Ey):yE:=⟨fun i=>(tH c).getD i 0,fun i=>c.T.UV i,fun i=>c.T.Zk i,c.tok.bad⟩
theorem EIh(c:Ey)(q:Y):(jM c q).toArray=c_ (yX c) q:=rfl
theorem aw.site{c':Ey}(h:aw c c'):(yX c).same (yX c'):=by
 have e:tH c'=tH c:=by unfold tH;rw[h.tok,h.mode,h.Em,h.pt]
 exact⟨fun i _=>by show(tH c).getD i 0=(tH c').getD i 0;rw[e],fun i _=>(h.on i).symm,fun i _=>(h.role i).symm,by show c.tok.bad=c'.tok.bad;rw[h.tok]⟩
def ZQ(b:Nat)(c:Ey)(sv:Array Y)(W:H):Prop:= ∃(A:Option Eu) (d:Nat),sv=(jM c (G A c.q.length d)).toArray/\W.ownsRow b 3 1 (G A c.q.length d) c.q.length (Uu ((Js c.q).map One.s))
theorem ZQ.keep{b:Nat}(h:ZQ b c sv W)(hb: ∀k cs,D W k cs 3->D W' k cs 3):ZQ b c sv W':=by obtain⟨A,d,e,o⟩:=h;exact⟨A,d,e,EP o hb⟩
theorem ZQ.V{b:Nat}(h:ZQ b c sv W)(hb:Ik W.heap.size W W'):ZQ b c sv W':=h.keep fun _ _ hk=>hk.V hb
theorem ZQ.lower{b b':Nat}(h:ZQ b c sv W)(hb:b'<=b):ZQ b' c sv W:=by obtain⟨A,d,e,o⟩:=h;exact⟨A,d,e,nM o hb⟩
theorem ZQ.size{b:Nat}(h:ZQ b c sv W):sv.size=31:=by obtain⟨A,d,e,o⟩:=h;rw[e];exact EEH _ _
theorem ZQ.one{b:Nat}(h:ZQ b c sv W):sv.all (·.oneCell')=EI:=by obtain⟨A,d,e,o⟩:=h;rw[e];exact EEK _ _ _ _
theorem EIi(lo:Nat)(g:Nat->Y)(a:UK)(c:Ey)(rs:Int->List Int)(w:H)(Y8:Jq lo g a c rs w): Ef Eb 13 #[M (Z ⟨a.gm,0,X⟩)] w fun e w'=>(∃sv,e=Eg (EZ sv)/\ZQ w.heap.size c sv w')/\Ik w.heap.size w w':=
 (Eig lo g a c rs w Y8).mono fun _ _ ⟨⟨A,d,he,ho⟩,hb⟩=>⟨⟨_,he,A,d,O,ho⟩,hb⟩
theorem EjU(b1 b2:Nat)(c c':Ey)(sv dM:Array Y)(w:H)(h1:ZQ b1 c sv w)(h2:ZQ b2 c' dM w)(hq:c.q.length<=3): Ef Eb 17 #[EZ sv,EZ dM] w fun e w'=>(∃r:Bool,e=Eg (EU r)/\(aw c c'->r=EI))/\Ik w.heap.size w w':=by obtain⟨A,d,rfl,o1⟩:=h1;obtain⟨Y4,d',rfl,o2⟩:=h2;rw[EIh,EIh];refine(EiY (yX c) (yX c') b1 b2 A Y4 _ _ d d' _ _ w U (by have:=o1.1;simpa[Uu] using this) (by have:=o2.1;simpa[Uu] using this) o1 o2).mono ?_;rintro e w' ⟨⟨r,rfl,h⟩,hb⟩;exact⟨⟨r,O,fun s=>h s.site (by rw[s.q])⟩,hb⟩
def dE(c:Ey):Array Y:=(Jo c).toArray
theorem yZ(c:Ey):(dE c).size=12:=rfl
theorem EIj(c:Ey):(dE c).all (·.oneCell')=EI:=by refine all_oneCell_toArray ?_;exact YH c
theorem EjX(c:Ey)(W:H):(XW .eql 38 (EZ (dE c)) (EZ (dE c))).run Eb W= .ok (EU EI) W:=
 EIc (l:=[c.mode,c.pt.c,c.pt.n0,c.pt.n1,c.pt.n2,c.pt.n3,c.Em.r,c.Em.s,c.Em.q,c.pt.b.r,c.pt.b.s,c.pt.b.q]) O W
theorem EjZ{r:Bool}(h:(XW .eql T (EZ xs) (EZ ys)).run P W= .ok (EU r) W):(XW .neq T (EZ xs) (EZ ys)).run P W= .ok (EU !r) W:=by
 simp only[XW,Oz,Og] at h⊢;cases hh:(Op.equal T (EZ xs) (EZ ys)).run P W with
 |ok b w1=> rw[hh] at h;simp only[OC,Result.ok.injEq,Value.bool.injEq] at h⊢;rw[h.1,h.2];exact⟨O,O⟩
 |_=>rw[hh] at h;cases h
theorem EIk(c:Ey)(sv rv:Y)(hd:List Int):(I8 (Jo c) sv rv hd).toArray.extract 0 12=dE c:=by unfold I8 dE Jo;simp[List.extract]
theorem Eja{o:EL}{r:Bool}(ho:o.op= .binOp .neq T x y Y3)(hm:P.eqGuardType P.depth T=B)(hq:(XW .neq T (EZ xs) (EZ ys)).run P w= .ok (EU r) w)(ev:J7->Y)(h1:ev x=EZ xs)(h2:ev y=EZ ys):(If ev o).run P w= .ok (.value (EU r)) w:=by exact Eok
theorem Xu.range{b c:Nat}{es:fu}{x:JI×Option Eu×Nat}(h:Xu n0 W (Z ⟨b,0,X⟩) n c es)(hi:i<n)(hx:es[i]?=Z x):W.rangeAt b (i*10) (x.1.cells x.2.1 x.2.2):=by obtain⟨b',x',e1,e2,-,-,h'⟩:=h.at i hi;(iterate 2 injection e1 with e1);subst e1;rw[hx] at e2;injection e2 with e2;subst e2;exact h'
def FU(nb:Nat)(g2:Nat->Y)(a:UK)(c c':Ey)(rs:Int->List Int)(sv:Array Y)(b:Nat)(j:Nat)(v:Y)(w:H):Prop:=match j with
 |0=>v=EZ sv
 |1=>v=M (Z ⟨a.gm,0,X⟩)
 |2=> ∃dM,v=EZ dM/\ZQ b c' dM w
 |_=> ∃r:Bool,v=EU r/\(aw c c'->r=EI)
theorem Ejb(nb:Nat)(g2:Nat->Y)(a:UK)(c c':Ey)(rs:Int->List Int)(sv:Array Y)(b:Nat): ∀j v w w',j<4->FU nb g2 a c c' rs sv b j v w->J0 w w'->FU nb g2 a c c' rs sv b j v w':=by
 intro j v w w' hi h hb;unfold FU at*;split at h;case h_3=>obtain⟨dM,e,o⟩:=h;exact⟨dM,e,o.V hb⟩
 all_goals exact h
def lY(kd:Int)(new:List Rec)(k:Nat):Bool:=(kd==0)&&(new.take k).all fun r=>r.k==1
theorem Ejc(kd:Int){new:List Rec}{k:Nat}{r:Rec}(h:new[k]?=Z r):lY kd new (k+1)=(lY kd new k&&(r.k==1)):=by unfold lY;rw[nE,h,List.all_append,Option.toList_some,Z0,ah,Bool.and_true,Bool.and_assoc]
theorem Ejd(kd:Int)(new:List Rec)(k:Nat)(h:new.length<=k):lY kd new k=EI->kd=0/\C_ new:=by unfold lY;rw[OY h,Oc,Xk];exact fun⟨h1,h2⟩=>⟨by simpa using h1,fun x hx=>by simpa using h2 x hx⟩
end Go.Proofs.YtclmichaaiohjaaGreatDoor
