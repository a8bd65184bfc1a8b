import Derived.Test.YtclmichaaiohjaaGreatDoorS06
import Derived.Deep.Slices
import Derived.Lib.Walk
set_option maxRecDepth 100000
set_option linter.unusedVariables false
set_option linter.unusedSimpArgs false
set_option maxHeartbeats 6400000
namespace Go.Proofs.YtclmichaaiohjaaGreatDoor
open RowKit
open And renaming intro->JD
open _root_.Array renaming getElem?_eq_none->iJ,getElem?_eq_some_iff->J3
open Bool renaming true->EJ,false->EI
open Go renaming World->M,Calls->Eg,TypeId->EB,Value->Y,Addr->Ep,Program->Jq,bodyPost_ret->ET,Oper->EP,yielded->Jg,execOp->Ig,wpList->Ib,Operand->J5,info_parts->au,below_setRow->EY,wpQuiet_nil->I5,callFunc->Jm,wp_loop_rounds->Uk,rounds_succ->Il,results_none->UQ,Ending->Ud,wpList_store_mid->Ux
open Act renaming put->Ih
open DataW renaming trod->ZN
open Ending renaming returned->Ei
open Instr renaming index->Un,lookup->gY,indexAt->qY
open IntKind renaming bits->kh,signed->ki,i64->I
open Lib renaming hid->J
open Obj renaming cells->Eb
open Go.Proofs.Tryz renaming prog->EZ,underlying23->aJ
open Region renaming wanted->JO
open Result renaming andThen_ok->OM
open RowKit renaming Below->Ij,Hid->Ed,intOf->In
open RowKit.Below renaming refl->IU,alloc->J6,setCell->J7,size->XE
open Sem renaming run_bind->OH,run_pure->Oi
open Value renaming bool->Ec,int->E,agg->Ea,slice->G,tuple->Eu,pointer->V,oneCell'->Oc
open World renaming alloc->Xo,ownsRow_nil->cu,cell?->jC,ownsRow->dU
open Int renaming le_refl->Zz
open List renaming mem_of_mem_take->iI,eq_nil_of_length_eq_zero->ZP,getElem?_eq_getElem->JV,mem_cons_of_mem->XU,mem_cons_self->dq,getElem?_eq_some_iff->Xx,cons_append->ku,take_append_drop->iU,take_succ_cons->Is,drop_eq_getElem_cons->nO,length_take->ar,take_of_length_le->OP,getD_eq_getElem?_getD->OE,getElem?_append_left->Z_,getElem?_take_of_lt->cE,map_cons->UB,map_nil->Xn,take_zero->Iq,mem_map->dw,getElem?_toArray->J2,setIfInBounds_toArray->Ik,length_append->IY,length_cons->Zn,mem_cons->UJ,append_assoc->U7,set_cons_succ->Ic,set_cons_zero->If,mem_append->Xp,map_append->ik,nil_append->ZZ,length_drop->il,not_mem_nil->Um,drop_succ_cons->IT,drop_zero->IM,append_nil->dy,drop_eq_nil_of_le->pT,mem_singleton->mX
open List.cons renaming injEq->dJ
open Nat renaming lt_or_ge->JW,le_trans->Ew,le_refl->E3,zero_add->Ox,zero_le->aO,add_assoc->jx,le_of_lt->aH,le_of_eq->OC
open Option renaming some->D,none->Z
open KQ
variable{T:EK}{P:Jq}{v:Y}{w w' W:M}{g:Nat->Y}{c c' c1 c2:Ey}{m n lo gc gq gt gs base:Nat}{t t2 t' t1:EN}{rs rs':Int->List Int}{A:Option Ep}{new:List Rec}{k code:Int}{l:List Int}{Y9:Type}{cs:List Y}
def rO(g:Nat->Y)(k:Int)(l:List Int)(c c':Ey)(new:List Rec):Prop:=
 (c'=c/\new=[])
 \/(∃L',UF L' c.q/\c'={c with T:=c.T.iR k,tok:=(c.tok.drop k).1,q:=L'}/\new=(if(c.tok.drop k).2 then [⟨12,k,0,c.tok.e,16,0⟩] else [])++[⟨4,k,l.getD 1 0,(c.tok.drop k).1.e,0,0⟩])
 \/(∃L' t2 hw,t2.ok/\t2.e=c.tok.e+1/\t2.o= -1/\c'={c with tok:=t2,q:=L'}/\new=[⟨8,t2.h,l.getD 1 0,t2.e,0,hw⟩])
 \/(∃L' kd cd,(kd=7\/kd=10)/\c'={c with q:=L'}/\new=[⟨kd,k,l.getD 1 0,c.tok.e,cd,0⟩])
 \/(0<=c.tok.o/\c.tok.o=k/\c'={c with tok:=c.tok.end_}/\new=[⟨11,k,l.getD 1 0,c.tok.e,0,0⟩])
 \/(k=c.tok.h/\c.tok.o<0/\c'={c with tok:={c.tok with o:=l.getD 3 0,oa:=0,om:=max (pn g 44) 0}}/\new=[⟨9,k,l.getD 1 0,c.tok.e,0,l.getD 3 0⟩])
 \/(new=[⟨6,k,l.getD 1 0,c.tok.e,0,0⟩]/\(c'={c with mode:=l.getD 5 0,En:=⟨1,k,l.getD 1 0⟩}\/ ∃p:Pt,p.b=⟨1,k,l.getD 1 0⟩/\c'={c with pt:=p}))
def mU(g:Nat->Y)(k code:Int)(xs:List Int)(c c':Ey)(m:Nat)(new:List Rec):Prop:=
 (∃cd,c'=c/\m=0/\new=[⟨1,k,0,c.tok.e,cd,0⟩]/\(code≠0\/fT xs 1=EJ\/fT xs 2=EJ\/(c.T.take k xs).code≠0))
 \/(code=0/\(fT xs 1=EJ\/fT xs 2=EJ)/\ ∃kd cd,new=[⟨kd,k,0,c.tok.e,cd,0⟩]/\(c'=c\/(kd=3/\ ∃T':EK,c'={c with T:=T'})))
 \/(code=0/\fT xs 1=EI/\fT xs 2=EI/\(c.T.take k xs).code=0/\rO g k (c.T.take k xs).msg {c with T:=(c.T.take k xs).tab} c' new)
def W_(lo hi:Nat)(g:Nat->Y)(gc gq gt gs:Nat)(k:Int)(l:List Int)(f:FuncId):Prop:=
 jp f/\(∀(W:M) (gg:Nat),W.heap[gg]?=D (.map (Xi gs 9) 9)->(gY 188 (.map (D gg)) (E I (l.getD 0 0)) EJ).run EZ W= .ok (Eu #[.func (.func f) #[V (D ⟨gs,0,Z⟩)] #[],Ec EJ]) W)
 /\ ∀(c:Ey) (ns:Nat) (rs:List Rec) (w:M),E9 lo hi g gc gq gt gs c ns rs w->ns<800000->rs.length<800000->
  Eg EZ f #[V (D ⟨gs,0,Z⟩),E I k,Ea (EF l)] w fun e w'=>e=Ei (Eu #[])/\(∃c' m new,m<=3/\E9 lo hi g gc gq gt gs c' (ns+m) (rs++new) w'/\rO g k l c c' new)/\EA lo hi w w'
theorem Egw(lo hi:Nat)(g:Nat->Y)(gc gq gt gs:Nat)(k:Int)(hk:1<=k/\k<=3)(l:List Int)(hm:xX l)(h3:3<=l.getD 0 0)(h11:l.getD 0 0<=11): ∃f,W_ lo hi g gc gq gt gs k l f:=by
 have hc:l.getD 0 0=3\/l.getD 0 0=4\/l.getD 0 0=5\/l.getD 0 0=6\/l.getD 0 0=7\/l.getD 0 0=8\/l.getD 0 0=9\/l.getD 0 0=10\/l.getD 0 0=11:=U
 have cmd: ∀(c:Ey) (ns:Nat) (rs:List Rec) (w:M),E9 lo hi g gc gq gt gs c ns rs w->ns<800000->rs.length<800000->
  Eg EZ 135 #[V (D ⟨gs,0,Z⟩),E I k,Ea (EF l)] w fun e w'=>e=Ei (Eu #[])/\(∃c' m new,m<=3/\E9 lo hi g gc gq gt gs c' (ns+m) (rs++new) w'/\rO g k l c c' new)/\EA lo hi w w':=fun c ns rs w S hn hl=>by
  refine(EfS lo hi g gc gq gt gs c ns rs l k w S hk hm hn hl).mono ?_
  rintro e w' ⟨he,⟨c',m,new,h1,h2,h3⟩,mm⟩
  refine⟨he,⟨c',m,new,h1,h2,?_⟩,mm⟩
  rcases h3 with⟨cd,rfl,rfl⟩|⟨hn,h4⟩
  ·exact .inr (.inr (.inr (.inl ⟨_,7,cd,.inl O,O,O⟩)))
  ·exact .inr (.inr (.inr (.inr (.inr (.inr ⟨hn,h4⟩)))))
 rcases hc with h|h|h|h|h|h|h|h|h;·refine⟨128,fun _ _=>Ef,fun W gg hg=>by rw[h];exact Ef3 hg,fun c ns rs w S hn hl=> ?_⟩;refine(Eft lo hi g gc gq gt gs c ns rs l k w S hn hl).mono ?_;rintro e w' ⟨he,s,mm⟩;refine⟨he,⟨c,1,[],U,by rw[dy];exact s,.inl ⟨O,O⟩⟩,mm⟩
 ·refine⟨129,fun _ _=>Ef,fun W gg hg=>by rw[h];exact Ef4 hg,fun c ns rs w S hn hl=> ?_⟩;refine(Efu lo hi g gc gq gt gs c ns rs l k w S hn hl).mono ?_;rintro e w' ⟨he,⟨L',m,h1,h2,s⟩,mm⟩;refine⟨he,⟨_,m,_,h1,by rw[<-U7];exact s,.inr (.inl ⟨L',h2,O,O⟩)⟩,mm⟩
 ·refine⟨130,fun _ _=>Ef,fun W gg hg=>by rw[h];exact Ef5 hg,fun c ns rs w S hn hl=> ?_⟩;refine(EfC lo hi g gc gq gt gs c ns rs l k w S hk hn hl).mono ?_;rintro e w' ⟨he,⟨c',m,new,h1,s,L',h2⟩,mm⟩;refine⟨he,⟨c',m,new,h1,s,?_⟩,mm⟩;rcases h2 with⟨cd,rfl,rfl⟩|⟨t2,a1,a2,a3,rfl,rfl⟩|⟨rfl,rfl⟩;·exact .inr (.inr (.inr (.inl ⟨L',7,cd,.inl O,O,O⟩)))
  ·exact .inr (.inr (.inl ⟨L',t2,3,a1,a2,a3,O,O⟩))
  ·exact .inr (.inr (.inr (.inl ⟨L',10,0,.inr O,O,O⟩)))
 ·refine⟨131,fun _ _=>Ef,fun W gg hg=>by rw[h];exact Ef6 hg,fun c ns rs w S hn hl=> ?_⟩;refine(EfM lo hi g gc gq gt gs c ns rs l k w S hk hn hl).mono ?_;rintro e w' ⟨he,⟨c',m,new,h1,s,h2⟩,mm⟩;refine⟨he,⟨c',m,new,h1,s,?_⟩,mm⟩;rcases h2 with⟨cd,rfl,rfl⟩|⟨po,a1,a2,a3,rfl,rfl⟩;·exact .inr (.inr (.inr (.inl ⟨_,7,cd,.inl O,O,O⟩)))
  ·refine .inr (.inr (.inr (.inr (.inr (.inl ⟨a2,a3,?_,O⟩)))));have e:pn g 44=po:=by unfold pn;rw[a1];rfl
   rw[e]
 ·refine⟨132,fun _ _=>Ef,fun W gg hg=>by rw[h];exact Ef7 hg,fun c ns rs w S hn hl=> ?_⟩;refine(Efy lo hi g gc gq gt gs c ns rs l k w S hn hl).mono ?_;rintro e w' ⟨he,⟨c',m,new,h1,s,h2⟩,mm⟩;refine⟨he,⟨c',m,new,h1,s,?_⟩,mm⟩;rcases h2 with⟨cd,rfl,rfl⟩|⟨t2,L',a1,-,rfl,rfl⟩;·exact .inr (.inr (.inr (.inl ⟨_,7,cd,.inl O,O,O⟩)))
  ·obtain⟨b1,b2,-,b3⟩:=gW S.core.ok.tok a1;exact .inr (.inr (.inl ⟨L',t2,1,b1,b2,b3,O,O⟩))
 ·refine⟨133,fun _ _=>Ef,fun W gg hg=>by rw[h];exact Ef8 hg,fun c ns rs w S hn hl=> ?_⟩;refine(EfK lo hi g gc gq gt gs c ns rs l k w S hn hl).mono ?_;rintro e w' ⟨he,⟨c',m,new,h1,s,h2⟩,mm⟩;refine⟨he,⟨c',m,new,h1,s,?_⟩,mm⟩;rcases h2 with⟨cd,rfl,rfl⟩|⟨a1,a2,rfl,rfl⟩;·exact .inr (.inr (.inr (.inl ⟨_,7,cd,.inl O,O,O⟩)))
  ·exact .inr (.inr (.inr (.inr (.inl ⟨a1,a2,O,O⟩))))
 ·refine⟨134,fun _ _=>Ef,fun W gg hg=>by rw[h];exact Ef9 hg,fun c ns rs w S hn hl=> ?_⟩;refine(Efz lo hi g gc gq gt gs c ns rs l k w S hn hl).mono ?_;rintro e w' ⟨he,⟨c',m,new,h1,s,L',h2⟩,mm⟩;refine⟨he,⟨c',m,new,h1,s,?_⟩,mm⟩;rcases h2 with⟨cd,rfl,rfl⟩|⟨t2,a1,a2,a3,rfl,rfl⟩;·exact .inr (.inr (.inr (.inl ⟨L',7,cd,.inl O,O,O⟩)))
  ·exact .inr (.inr (.inl ⟨L',t2,2,a1,a2,a3,O,O⟩))
 ·exact⟨135,fun _ _=>Ef,fun W gg hg=>by rw[h];exact Ef_ hg,cmd⟩
 ·exact⟨135,fun _ _=>Ef,fun W gg hg=>by rw[h];exact EgE hg,cmd⟩
theorem Egx(T:EK)(i:Nat)(bs:List Int)(h:(Zw T i bs).code≠0):(Zw T i bs).tab=T:=by
 unfold Zw at*;split;·rfl
 ·rename_i l hl;rw[hl] at h;simp only at h;split;·rfl
  ·rename_i h2;rw[if_neg h2] at h;split;·rename_i h3;rw[if_pos h3] at h;exact absurd rfl h
   ·rfl
theorem YE(T:EK)(k:Int)(xs:List Int)(h:(T.take k xs).code≠0):(T.take k xs).tab=T:=by
 unfold EK.take at*;split
 ·rename_i h1;rw[if_pos h1] at h;split;·rename_i h2;rw[if_pos h2] at h;exact Egx T _ _ h
  ·rfl
 ·rfl
theorem Egy(h:T.ok)(ht:T.Xb)(i:Nat)(bs:List Int)(hb: ∀x∈bs,0<=x/\x<=255):(Zw T i bs).tab.ok/\(Zw T i bs).tab.Xb/\((Zw T i bs).code=0->xX (Zw T i bs).msg/\3<=(Zw T i bs).msg.getD 0 0/\(Zw T i bs).msg.getD 0 0<=11):=by
 unfold Zw;split;·exact Eq4
 ·rename_i l hl;split;·exact⟨h,ht,fun h=>UL⟩
  ·rename_i hk;split;·have hq:=Th hb hl;have hkk:=(EaG (Kv hb hl).1).2;refine⟨h.put i ⟨(h.E4 i).len,(h.E4 i).bytes,Tk (h.E4 i).win U⟩,ht.put i (TM.start ht),fun _=>⟨Ef1 hb hl,?_,hkk.2⟩⟩;show 3<=l.getD 0 0;omega
   ·exact Eq4
theorem Egz(h:T.ok)(ht:T.Xb)(k:Int)(xs:List Int)(hb: ∀x∈xs,0<=x/\x<=255):(T.take k xs).tab.ok/\(T.take k xs).tab.Xb/\((T.take k xs).code=0->xX (T.take k xs).msg/\3<=(T.take k xs).msg.getD 0 0/\(T.take k xs).msg.getD 0 0<=11):=by
 unfold EK.take;split
 ·split;·exact Egy h ht _ _ (fun x hx=>hb x (iI hx))
  ·exact Eq4
 ·exact Eq4
theorem EgA{F:J5->Y}{o:EP}{T:EB}{x y:J5}{b:Bool}{Y3 r:Y}(ho:o.op= .lookup T x y b)(hx:F x=Y3)(hy:F y=v)(h:(gY T Y3 v b).run P w= .ok r w):(Ig F o).run P w= .ok (.value r) w:=by unfold Ig;simp only[ho,hx,hy,OH,h,OM,Oi]
theorem EgB{g:Nat}{o:Obj}(h:w.heap[g]?=D o)(hb:El w w'):w'.heap[g]?=D o:=(hb.block g (J3.1 h).1).trans h
theorem EgC(lo hi:Nat)(g:Nat->Y)(gc gq gt gs:Nat)(c:Ey)(ns:Nat)(rs:List Rec)(code:Int)(A:Option Ep)(n cap:Nat)(xs:List Int)(k:Int)(w:M)(S:E9 lo hi g gc gq gt gs c ns rs w)(hk:1<=k/\k<=3)(hx:xs.length=n)(hnc:n<=cap)(hcap:cap<=9223372036854775807)(oc:n<=1000)(hr:Row w A xs)(hn:ns<800000)(hl:rs.length<800000): Eg EZ 71 #[V (D ⟨gs,0,Z⟩),E I k,Ea #[E I code,G A n cap]] w fun e w'=>e=Ei (Eu #[])/\(∃c' m new,m<=3/\E9 lo hi g gc gq gt gs c' (ns+m) (rs++new) w'/\mU g k code xs c c' m new)/\EA lo hi w w':=by
 have HN:=J hn;have HL:=J hl;have YI:=J<|fun W (s:E9 lo hi g gc gq gt gs c ns rs W) (h:Row W A xs)=>Egk lo hi g gc gq gt gs c ns rs A n cap xs k W s hk hx hnc hcap h hn hl;have YJ:=J<|fun W (s:E9 lo hi g gc gq gt gs c ns rs W) (h:Row W A xs)=>Egq lo hi g gc gq gt gs c ns rs A n cap xs k W s hk hx hnc hcap h hn hl;have CB:=J<|fun W (h:Row W A xs) b=>Ef0 A xs n cap b W hx h U;have YO:=fun W K (h:Row W A xs) R=>EbI gt c.T k xs A n cap W K S.core.ok.T hx hnc hcap oc h R;have hti:=Egz S.core.ok.T S.core.ok.Iu k xs hr.2;obtain⟨T',hT'⟩:=Eo ((c.T.take k xs).tab);obtain⟨l,hl'⟩:=Eo ((c.T.take k xs).msg);obtain⟨cd,rU⟩:=Eo ((c.T.take k xs).code);obtain⟨mv,hmv⟩:=Eo (EF l);have tT:Ed (cd=0-> ∃f,W_ lo hi g gc gq gt gs k l f):=J (fun h=>by rw[rU] at h;have h2:=hti.2.2 h;rw[hl'];exact Egw lo hi g gc gq gt gs k hk _ h2.1 h2.2.1 h2.2.2);have HT:Ed (T'.ok/\T'.Xb):=J (by rw[hT'];exact⟨hti.1,hti.2.1⟩);have CT:Ed (∀W,Iv W gt c.T->Row W A xs->Ju W->Eg EZ 88 #[V (D ⟨gt,0,Z⟩),E I k,G A n cap] W fun e w'=>e=Ei (Eu #[Ea mv,E I cd])/\Iv w' gt T'/\E7 gt W w'):=J (fun W K h R=>by rw[hmv,hl',rU,hT'];exact YO W K h R);have i6:Ed (mv.size=12):=J (by rw[hmv];exact Ja l);have oX:Ed (mv.all (·.oneCell')=EJ):=J (by rw[hmv];exact ZY l);obtain⟨v0,hv0⟩:=Eo (l.getD 0 0);have DB:Ed (∀W g,H W g mv 183->W.cell? ⟨g,0,Z⟩=D (E I v0)):=J (fun W g K=>by rw[hv0];rw[hmv] at K;exact X_ K 0 U U);replace hT':=J hT';replace hl':=J hl';replace rU:=J rU;replace hmv:=J hmv;replace hv0:=J hv0;have S0:=J S;have R0:=J hr;have KI:=J<|H.new w #[E I code,G A n cap] 74;have b1:=Er w (Eb #[E I code,G A n cap] 74);have S1:=J<|S0.out.B b1;have MM:=J<|EA.ED (lo:=lo) (hi:=hi) b1;have RW:=J<|It R0.out b1;clear S hn hl hk hx hnc hcap oc hr YO hti S0 R0;go_enter Tryz.func71,Tryz.ntmps71;go_wp2_with (with_reducible refine JE 46 ?_);apply Es;clear b1;generalize w.alloc (Eb #[E I code,G A n cap] 74)=w1 at*;obtain⟨gi,hgi⟩:=Eo w.heap.size;rw[<-hgi] at KI⊢;clear hgi;have i0:w1.cell? ⟨gi,0,Z⟩=D (E I code):=(H.cell KI.out 0).trans O;have i1:w1.cell? ⟨gi,1,Z⟩=D (G A n cap):=(H.cell KI.out 1).trans O;by_cases hcode:code=0
 ·subst hcode;go_wp2_with fail;refine(CB.out _ RW.out 1).mono ?_;rintro e2 w2 ⟨rfl,rfl⟩;cases hb1:fT xs 1 with
  |true=> have HB1:=J hb1;clear hb1;go_wp2_with fail;refine(YI.out _ S1.out RW.out).mono ?_;rintro e7 w7 ⟨rfl,⟨m,kd,MA,hm,s7⟩,m7⟩;have S8:=J s7;replace MM:=J<|MM.out.trans m7;clear s7 m7;go_wp2;go_end0;exact⟨O,⟨c,m,_,U,S8.out,.inr (.inl ⟨O,.inl HB1.out,kd,MA,O,.inl O⟩)⟩,MM.out⟩
  |false=>
   have HB1:=J hb1;clear hb1;go_wp2_with fail;refine(CB.out _ RW.out 2).mono ?_;rintro e2 w2 ⟨rfl,rfl⟩;cases hb2:fT xs 2 with
   |true=> have HB2:=J hb2;clear hb2;go_wp2_with fail;refine(YJ.out _ S1.out RW.out).mono ?_;rintro e7 w7 ⟨rfl,⟨c',m,kd,MA,hm,s7,hc7⟩,m7⟩;have S8:=J s7;replace MM:=J<|MM.out.trans m7;clear s7 m7;go_wp2;go_end0;exact⟨O,⟨c',m,_,U,S8.out,.inr (.inl ⟨O,.inr HB2.out,kd,MA,O,hc7⟩)⟩,MM.out⟩
   |false=>
    have HB2:=J hb2;clear hb2;obtain⟨n0,hn0⟩:=Eo w1.heap.size;have Xt:=J (show lo<=n0/\hi<=n0/\w.heap.size<=n0 from oI);go_wp2_with fail;refine iS (Ph:=fun p wq=>(n0<=wq.heap.size/\(match p with|0=>E9 lo hi g gc gq gt gs c ns rs wq/\EA lo hi w wq/\Row wq A xs/\H wq gi #[E I 0,G A n cap] 74|_=>E9 lo hi g gc gq gt gs {c with T:=T'} ns rs wq/\EA lo hi w wq))) (Rel:=J0) (Iw:=mI 183 12 mv) [kp gs 0,kp gs 0,kp gs 0,kp gc 0,kp gc 0,kp gc 95,kp gt 0,kq (E I k),kp gi 1,kq (G A n cap),kq (Eu #[Ea mv,E I cd]),kq (Eu #[Ea mv,E I cd]),kq (Ea mv),kq (E I cd),.dep (bN 183 12 n0) (fun v w w' h hr=>h.B hr) (fun v w w' h hr=>h.sz hr),.tie [14] (fun x w=> ∃b:Nat,x 14=V (D ⟨b,0,Z⟩)/\n0<=b/\H w b mv 183) (fun x w w' h hr=>qK) (fun x y w hq h=>by rw[hq 14 Ej] at h;exact h),kq (E I cd)] [EI,EI,EI,EI,EI,EI,EI,EI,EI,EI,EI,EI,EI,EI,EI,EJ,EI] O [[],[],[],[],[],[],[],[],[],[],[],[],[],[],[],[14],[]] O [10,15] [(0,0),(0,0),(0,0),(0,0),(0,0),(0,0),(0,0),(0,0),(0,0),(0,0),(0,0),(1,1),(1,1),(1,2),(0,1),(1,1),(2,2)] Ef Ef Ef Ef Ef Ef UP Ef ?hPh ?h0 ?hstep ?hend
    case hPh=>
     intro p w2 w3 h hr;match p,h with
     |0,h=>exact⟨Ew h.1 (XE hr),h.2.1.B hr,h.2.2.1.trans (EA.ED hr),It h.2.2.2.1 hr,H.B h.2.2.2.2 hr⟩
     |_+1,h=>exact⟨Ew h.1 (XE hr),h.2.1.B hr,h.2.2.trans (EA.ED hr)⟩
    case h0=> have hb:=Jn w1;exact⟨Ew (OC hn0) (XE hb),S1.out.B hb,MM.out.trans (EA.ED hb),It RW.out hb,H.B KI.out hb⟩
    case hstep=>
     refine⟨?_,?_,?_,?_,?_,?_,?_,?_,?_,?_,?_,?_,?_,?_,?_,?_,?_,trivial⟩;all_goals first|intro xv wq p hlo hhi hp hd|intro xv wq hp hd
     all_goals simp only[EM,Ih,Ik,Ic,If]
     ·exact Enx
     ·exact EnP
     ·exact EnN
     ·exact Enz
     ·exact EnM
     ·exact En6
     ·obtain rfl:p=0:=U;have d5:xv 5=V (D ⟨gc,95,Z⟩):=hd.at 5 rfl;have cc:wq.cell? ⟨gc,95,Z⟩=D (V (D ⟨gt,0,Z⟩)):=hp.2.1.core.cell 6 rfl 0 Ej;exact Et (by simp[go_sem,d5,cc]) O
     ·exact Enx
     ·exact Enx
     ·obtain rfl:p=0:=U;have d8:xv 8=V (D ⟨gi,1,Z⟩):=hd.at 8 rfl;have cc:wq.cell? ⟨gi,1,Z⟩=D (G A n cap):=(H.cell hp.2.2.2.2 1).trans O;exact Et Dp O
     ·have d6:xv 6=V (D ⟨gt,0,Z⟩):=hd.at 6 rfl;have d7:xv 7=E I k:=hd.at 7 rfl;have d9:xv 9=G A n cap:=hd.at 9 rfl;refine JL (f:=88) (args:= #[xv 6,xv 7,xv 9]) (Eh O) Ez ?_;rw[d6,d7,d9];refine(CT.out wq hp.2.1.core.tab hp.2.2.2.1 hp.2.1.core.roots).mono fun e w2 h=> ?_;obtain⟨he,kt,ot⟩:=h;have hS:=hp.2.1.wW ot T' kt (hp.2.1.core.ok.wV HT.out.1 HT.out.2);exact⟨_,he,⟨Egd ot hp.2.1.core.tab EU,Ew hp.1 ot.size,hS.1,hp.2.2.1.trans hS.2⟩,O⟩
     ·obtain rfl:p=1:=U;have d10:xv 10=Eu #[Ea mv,E I cd]:=hd.at 10 rfl;exact ErE
     ·obtain rfl:p=1:=U;exact ErP
     ·exact ErP
     ·exact Zp (Eh O) (iB _ _ _ O) (Er wq _) ⟨wq.heap.size,_,O,hp.1,Ja _,H.new _ _ _⟩
     ·have d12:xv 12=Ea mv:=hd.at 12 rfl;obtain⟨b,c8,eA,lb,h8,kb⟩:bN 183 12 n0 (xv 14) wq:=hd.at 14 rfl;have nh:=Xt.out;refine cX OY (Eh O) ⟨O,eA,d12⟩ kb h8 i6.out oX.out ⟨xa i6.out,?_⟩ ⟨b,eA,lb,kb.setRow _⟩;obtain⟨n1,s1,m1⟩:=hp;have ho:=J9 (g:=b) (W:=wq) mv;exact⟨Ew n1 ho.size,s1.DK ho kb EU U,m1.only ho U U kb.lt⟩
     ·obtain rfl:p=2:=U;exact Erj
    case hend=>
     intro xv W6 hp hd;simp only[EM,Ih,Ik,Ic,If];obtain⟨gm,eA,lb,kb⟩: ∃b:Nat,xv 14=V (D ⟨b,0,Z⟩)/\n0<=b/\H W6 b mv 183:=hd 15 EU;have a16:xv 16=E I cd:=hd 16 EU;obtain⟨-,s6,m6⟩:=hp;replace S1:=J s6;replace MM:=J m6;have KM:=J kb;rw[eA,a16];clear s6 m6 kb hd eA a16 KI RW CT YI YJ CB i0 i1;by_cases hcd:cd=0
     ·subst hcd;obtain⟨f,hf1,hf2,hf3⟩:=tT.out O;rw[<-hv0.out] at hf2;rw[<-hmv.out] at hf3;have FL:=J hf2;have FC:=J hf3;have hf1: ∀(args:Array Y) (w:M),(Jm f args).run EZ w= .ok (.enter f args) w:=hf1;clear hf2 hf3;obtain⟨n1,hn1⟩:=Eo W6.heap.size;go_wp2_with fail;refine iS (Ph:=fun _ wq=>E9 lo hi g gc gq gt gs {c with T:=T'} ns rs wq/\EA lo hi w wq/\H wq gm mv 183) (Rel:=J0) (Iw:=fun w w'=>w=w') [kp gs 0,.dep (fun v w=> ∃gg,v= .map (D gg)/\w.heap[gg]?=D (.map (Xi gs 9) 9)) (fun v w w' h hr=>by obtain⟨gg,h1,h2⟩:=h;exact⟨gg,h1,EgB h2 hr⟩) (fun v w w' h hr=>ai),kp gm 0,kq (E I v0),kq (Eu #[.func (.func f) #[V (D ⟨gs,0,Z⟩)] #[],Ec EJ]),kq (Eu #[.func (.func f) #[V (D ⟨gs,0,Z⟩)] #[],Ec EJ]),kq (.func (.func f) #[V (D ⟨gs,0,Z⟩)] #[]),kq (Ec EJ),kq (.func (.func f) #[V (D ⟨gs,0,Z⟩)] #[]),kq (Ec EJ)] [EI,EI,EI,EI,EI,EI,EI,EI,EI,EI] O [[],[],[],[],[],[],[],[],[],[]] O [] [(0,0),(0,0),(0,0),(0,0),(0,0),(0,0),(0,0),(0,0),(0,0),(0,0)] Ef Ef Ef Ef Ef Ef UP Ef ?hPh ?h0 ?hstep ?hend;case hPh=> intro p w2 w3 h hr;exact⟨h.1.B hr,h.2.1.trans (EA.ED hr),H.B h.2.2 hr⟩
      case h0=> have hb:=Jn W6;exact⟨S1.out.B hb,MM.out.trans (EA.ED hb),H.B KM.out hb⟩
      case hstep=>
       refine⟨?_,?_,?_,?_,?_,?_,?_,?_,?_,?_,trivial⟩;all_goals intro xv wq p hlo hhi hp hd
       all_goals simp only[EM,Ih,Ik,Ic,If]
       ·exact Eog
       ·have d0:xv 0=V (D ⟨gs,0,Z⟩):=hd.at 0 rfl;refine JL (f:=89) (args:= #[xv 0]) (Eh O) Ez ?_;rw[d0];exact(Ef2 gs wq).mono fun e w2 h=>⟨_,h.1,h.2.2,wq.heap.size,O,h.2.1⟩
       ·exact Eog
       ·have d2:xv 2=V (D ⟨gm,0,Z⟩):=hd.at 2 rfl;have cc:wq.cell? ⟨gm,0,Z⟩=D (E I v0):=DB.out _ _ hp.2.2;exact Eq3
       ·have d3:xv 3=E I v0:=hd.at 3 rfl;obtain⟨gg,eg,hg⟩: ∃gg,xv 1= .map (D gg)/\wq.heap[gg]?=D (.map (Xi gs 9) 9):=hd.at 1 rfl;exact IQ ER (Eh O) (EgA O eg d3 (FL.out wq gg hg)) O
       ·have d4:xv 4=Eu #[.func (.func f) #[V (D ⟨gs,0,Z⟩)] #[],Ec EJ]:=hd.at 4 rfl;exact ErI
       ·exact Ep4
       ·exact Ep4
       ·have d6:xv 6= .func (.func f) #[V (D ⟨gs,0,Z⟩)] #[]:=hd.at 6 rfl;exact Et pP O
       ·have d7:xv 7=Ec EJ:=hd.at 7 rfl;exact Et iw O
      case hend=> intro xv W7 hp hd;simp only[EM,Ih,Ik,Ic,If];have a8:xv 8= .func (.func f) #[V (D ⟨gs,0,Z⟩)] #[]:=hd 8 EU;have a9:xv 9=Ec EJ:=hd 9 EU;obtain⟨s7,m7,k7⟩:=hp;replace S1:=J s7;replace MM:=J m7;replace KM:=J k7;rw[a8,a9];clear s7 m7 k7 hd a8 a9 FL;go_wp2_with (with_reducible refine wL OY KM ?_ (hn:=i6.out));refine(FC.out _ ns rs _ S1.out HN.out HL.out).mono ?_;rintro e8 w8 ⟨rfl,⟨c',m,new,hm,s8,h8⟩,m8⟩;have S8:=J s8;replace MM:=J<|MM.out.trans m8;clear s8 m8;go_wp2;go_end0;rw[hl'.out,hT'.out] at h8;exact⟨O,⟨c',m,new,hm,S8.out,.inr (.inr ⟨O,HB1.out,HB2.out,rU.out.symm,h8⟩)⟩,MM.out⟩
     ·have t9:(cd !=0)=EJ:=dP;have eT:T'=c.T:=by rw[hT'.out];exact YE _ _ _ (by rw[<-rU.out];exact hcd)
      subst eT;go_wp2_with fail;refine(tf lo hi g gc gq gt gs c ns rs k cd _ S1.out JQ).mono ?_;rintro e7 w7 ⟨rfl,s7,m7⟩;have S8:=J s7;replace MM:=J<|MM.out.trans m7;clear s7 m7;go_wp2_with fail;refine ET (UQ O _ _ _) O ?_;exact⟨O,⟨c,0,_,U,S8.out,.inl ⟨_,O,O,O,.inr (.inr (.inr (by rw[<-rU.out];exact hcd)))⟩⟩,MM.out⟩
 ·have t9:(code !=0)=EJ:=by simpa using hcode
  go_wp2_with fail;refine(tf lo hi g gc gq gt gs c ns rs k code _ S1.out JQ).mono ?_;rintro e7 w7 ⟨rfl,s7,m7⟩;have S8:=J s7;replace MM:=J<|MM.out.trans m7;clear s7 m7;go_wp2;go_end0;exact⟨O,⟨c,0,_,U,S8.out,.inl ⟨_,O,O,O,.inl hcode⟩⟩,MM.out⟩
theorem YU{g:Nat}(K:Iv W g T)(i:Nat):H W g (T.pre i++(OV (T.E4 i).on (T.E4 i).a (T.E4 i).m++(([E .i64 (T.E4 i).r]++((T.E4 i).key.map (E .u8)++Ui (T.E4 i).win))++T.post i))).toArray 163:=by unfold Iv at K;rw[T.sg i] at K;simpa[JF.v] using K
theorem EgF(g i:Nat)(T:EK)(w:M)(K:Iv w g T)(h:T.ok)(hoff:(T.E4 i).on=EI): Eg EZ 145 #[V (D ⟨g,so i,Z⟩)] w fun e w'=>e=Ei (Ec EI)/\w=w':=by have k:=YU K i;rw[hoff] at k;exact Qf g (so i) _ _ _ _ _ w k (EK.pi h i)
theorem EgG(g:Nat)(T:EK)(w:M)(K:Iv w g T)(hoff:T.ZW=EI): Eg EZ 145 #[V (D ⟨g,0,Z⟩)] w fun e w'=>e=Ei (Ec EI)/\w=w':=by have k:H w g ([]++([Ec T.ZW,E I T.sa,E I T.sm]++(T.s0.v++(T.s1.v++(T.s2.v++T.tl))))).toArray 163:=K;rw[hoff] at k;exact Qf g 0 _ _ _ _ _ w k O
theorem EgH(g i:Nat)(T:EK)(w:M)(K:Iv w g T)(h:T.ok)(hon:(T.E4 i).on=EJ)(h1: -9223372036854775808<=(T.E4 i).a)(h3:(T.E4 i).m<=9223372036854775807): Eg EZ 145 #[V (D ⟨g,so i,Z⟩)] w fun e w'=>e=Ei (Ec (decide ((T.E4 i).m<=sat (T.E4 i).a (T.E4 i).m)))/\Iv w' g (T.put i {T.E4 i with a:=sat (T.E4 i).a (T.E4 i).m})/\E7 g w w':=by have k:=YU K i;rw[hon] at k;refine(Qg g (so i) _ _ _ _ _ w k (EK.pi h i) h1 h3).mono ?_;rintro e w' ⟨he,hk,ho⟩;refine⟨he,?_,ho⟩;unfold Iv;rw[T.uL i];simpa[JF.v,hon] using hk
theorem E7.YX{g:Nat}{a b c:M}(h:E7 g a b)(k:Ij a.heap.size b c):E7 g a c:=
 ⟨Ew h.size k.size,fun i hi hl=>(k.block i hl).trans (h.keep i hi hl),fun i hi hl=>(h.bel i hi hl).trans (k.mono hl)⟩
theorem TM.step{a m:Int}(h:TM a m):TM (sat a m) m:=by
 obtain⟨h1,h2,h3,h4⟩:=h;unfold sat;split;·exact⟨U,U,h3,h4⟩
 ·exact⟨U,U,h3,h4⟩
theorem EgK(g i:Nat)(hi:i<3)(T:EK)(w:M)(K:Iv w g T)(h:T.ok)(ht:T.Xb): Eg EZ 145 #[V (D ⟨g,so i,Z⟩)] w fun e w'=>(∃b T',e=Ei (Ec b)/\Iv w' g T'/\T'.ok/\T'.Xb)/\E7 g w w':=by
 cases hon:(T.E4 i).on with
 |false=> refine(EgF g i T w K h hon).mono ?_;rintro e w' ⟨rfl,rfl⟩;exact⟨⟨_,T,O,K,h,ht⟩,E7.refl _ _⟩
 |true=> have hb:=ht.E4 i;refine(EgH g i T w K h hon (by have:=hb.1;omega) (by have:=hb.2.2.2;omega)).mono ?_;rintro e w' ⟨rfl,k,o⟩;exact⟨⟨_,_,O,k,h.put i ⟨(h.E4 i).len,(h.E4 i).bytes,(h.E4 i).win⟩,ht.put i (TM.step hb)⟩,o⟩
theorem EgL(g:Nat)(T:EK)(w:M)(K:Iv w g T)(h:T.ok)(ht:T.Xb): Eg EZ 145 #[V (D ⟨g,0,Z⟩)] w fun e w'=>(∃b T',e=Ei (Ec b)/\Iv w' g T'/\T'.ok/\T'.Xb)/\E7 g w w':=by
 cases hon:T.ZW with
 |false=> refine(EgG g T w K hon).mono ?_;rintro e w' ⟨rfl,rfl⟩;exact⟨⟨_,T,O,K,h,ht⟩,E7.refl _ _⟩
 |true=>
  have hb:=ht.st;have k:H w g ([]++(OV EJ T.sa T.sm++(T.s0.v++(T.s1.v++(T.s2.v++T.tl))))).toArray 163:=by have K2:H w g (T.hd++(T.s0.v++(T.s1.v++(T.s2.v++T.tl)))).toArray 163:=K;unfold EK.hd at K2;rw[hon] at K2;exact K2
  refine(Qg g 0 _ _ _ _ _ w k O (by have:=hb.1;omega) (by have:=hb.2.2.2;omega)).mono ?_;rintro e w' ⟨rfl,k,o⟩;refine⟨⟨_,{T with sa:=sat T.sa T.sm},O,?_,⟨h.s0,h.s1,h.s2⟩,⟨ht.Iu,TM.step hb,fun i=> ?_⟩⟩,o⟩;·show H w' g ([Ec T.ZW,E I (sat T.sa T.sm),E I T.sm]++(T.s0.v++(T.s1.v++(T.s2.v++T.tl)))).toArray 163;rw[hon];exact k
  ·exact match i with|0=>ht.E4 0|1=>ht.E4 1|_+2=>ht.E4 2
theorem EgM{g:Nat}(K:Iv W g T)(h:T.ok)(ht:T.Xb):Iv (W.setCells g 0 [Ec EI,E I 0,E I 0]) g {T with ZW:=false,sa:=0,sm:=0}/\({T with ZW:=false,sa:=0,sm:=0}:EK).ok/\({T with ZW:=false,sa:=0,sm:=0}:EK).Xb:=
 ⟨Zm (post:=T.s0.v++(T.s1.v++(T.s2.v++T.tl))) [Ec EI,E I 0,E I 0] T.hd [] 0 W K O O,⟨h.s0,h.s1,h.s2⟩,⟨ht.Iu,(show TM 0 0 from⟨EU,EU,EU,EU⟩),fun i=>match i with|0=>ht.E4 0|1=>ht.E4 1|_+2=>ht.E4 2⟩⟩
theorem YZ: ∃i,Tryz.prog.info? 3=D i/\i.zero=D (E I 0)/\i.size=1/\i.bytes=8:=by have h:(Tryz.prog.info? 3).map (fun i=>(i.zero,i.size,i.bytes))=D (D (E I 0),1,8):=Ef;exact EoA
theorem EgN:IL EZ 156 3:=⟨⟨_,Tryz.underlying156,O⟩,Ef⟩
theorem EgP:Tryz.prog.built 156 []=D #[Ec EI,E I 0,E I 0]:=Ef
theorem EgQ(g i:Nat)(hi:i<3)(W:M):(qY 161 (V (D ⟨g,3,Z⟩)) (E I (i:Int))).run EZ W= .ok (V (D ⟨g,so i,Z⟩)) W:=by have h:i=0\/i=1\/i=2:=U;exact ErJ
def Uz(L:List Int):List Y:=L.map (E .i64)
theorem EgR(g:Nat)(T:EK)(w:M)(K:Iv w g T)(h:T.ok)(ht:T.Xb): Eg EZ 101 #[V (D ⟨g,0,Z⟩)] w fun e w'=>(∃(L:List Int) (A:Option Ep) (c:Nat) (T1:EK),e=Ei (G A L.length c)/\w'.ownsRow w.heap.size 3 1 (G A L.length c) L.length (Uz L)/\L.length<=4/\(∀x∈L,0<=x/\x<=3)/\Iv w' g T1/\T1.ok/\T1.Xb)/\E7 g w w':=by
 have KT:=J K;have OK:=J h;have OT:=J ht;have II:=J YZ;have BP:=J EgP;have BZ:=J Rc;have SZ:=J<|show U6.v.toArray.size=39 from JF.Zl O;have S1:=J<|sG U6;have SV:Ed (U6.v.toArray.toList=U6.v):=J O;have TP:=J<|fun(T:EK) W (k:Iv W g T) (h:T.ok) i=>AQ k h i U6 O;have TT:=J<|fun(T:EK) (h:T.Xb) i=>h.put i (s:=U6) ⟨EU,EU,EU,EU⟩;have TK:=J<|fun(T:EK) (h:T.ok) i=>h.put i uK;have TH:=J<|fun(T:EK) W (k:Iv W g T) (h:T.ok) (i:Nat)=>bf (o:=so i) (n:=39) k (by rw[sD k h];have:=HU i;omega);obtain⟨sv,hsv⟩:=Eo U6.v.toArray;rw[<-hsv] at BZ SZ S1 SV;clear hsv K h ht;generalize U6.v=sl at*;go_enter Tryz.func101,Tryz.ntmps101;go_wp2_with fail;refine(EgL g T _ KT.out OK.out OT.out).mono ?_;rintro e w1 ⟨⟨b,T1,rfl,k1,ok1,Ya⟩,o1⟩;replace KT:=J k1;replace OK:=J ok1;replace OT:=J Ya;have ON:=J o1;clear k1 ok1 Ya o1;go_upto_if 9 with(fail)
 go_cut[3] from 10 to 16 (fun v wx=> ∃(L:List Int) (A:Option Ep) (c:Nat) (T1:EK),v=G A L.length c/\wx.ownsRow w.heap.size 3 1 (G A L.length c) L.length (Uz L)/\L.length<=1/\(∀x∈L,0<=x/\x<=3)/\Iv wx g T1/\T1.ok/\T1.Xb/\E7 g w wx)
 case first=>
  cases b;·go_wp2;go_meet;exact⟨[],Z,0,T1,O,cu _ _ _ _,Ej,Ej,KT.out,OK.out,OT.out,ON.out⟩
  ·have Yb:=J<|bf (o:=0) (n:=3) KT.out (by rw[sD KT.out OK.out];omega);go_wp2_with (first|((with_reducible refine Io 11 ?_);refine I4 rfl 156 _ rfl #[Ec false,E I 0,E I 0] BP.out ?_)|((with_reducible refine I3 156 ?_);(with_reducible refine Ux rfl 156 _ _ rfl g 0 #[Ec false,E I 0,E I 0] ?_ ?_ ?_ ?_ ?_ ?_);(·rfl);(·rfl);(·exact Yb.out);(·exact EgN.2);(·simp[Oc]);refine Ex.mk ?_));apply Es;have hz:=EgM KT.out OK.out OT.out;replace KT:=J hz.1;replace OK:=J hz.2.1;replace OT:=J hz.2.2;replace ON:=J<|ON.out.trans (JP (g:=g) [Ec EI,E I 0,E I 0] 0 w1);clear hz Yb;change Ib _ _ _ _ _ (w1.setCells g 0 [Ec EI,E I 0,E I 0]);generalize w1.setCells g 0 [Ec EI,E I 0,E I 0]=w2 at*;go_wp2_with (with_reducible refine JE 16 ?_);apply Es;have OG:Ed (dU w2 w.heap.size 3 1 (.slice Z ([]:List Int).length 0) ([]:List Int).length (Uz [])):=J<|cu _ _ _ _;have KB:=J<|H.new w2 #[E I (0)] 3;have b4:=J<|Er w2 (Eb #[E I (0)] 3);replace OG:=J<|EG OG.out fun _ _ h=>H.B h b4.out;replace KT:=J<|KT.out.B b4.out;replace ON:=J<|ON.out.trans (E7.ED b4.out);clear b4;generalize w2.alloc (Eb #[E I (0)] 3)=w7 at*;generalize w2.heap.size=gb at*;have lw:=ON.out.size;obtain⟨qA,qc,qw,O4,U0,Js,-,-⟩:=aw (P:=EZ) w7 w.heap.size w.heap.size 51 51 3 II.out.choose _ 1 8 Tryz.underlying51 II.out.choose_spec.1 II.out.choose_spec.2.1 II.out.choose_spec.2.2.1 II.out.choose_spec.2.2.2 rfl Z 0 0 (Uz []) OG.out ⟨gb,0,Z⟩ 1 1 [E I (0)] O (fun j Y3 hu=>by rw[show(⟨gb,0,Z⟩:Ep).add j=⟨gb,j,Z⟩ from U3];rw[H.cell KB.out,J2];exact hu) bB (fun _=>U) J8 U lw (E3 _);have iM:=wi (P:=EZ) w7 w.heap.size 51 51 3 II.out.choose _ 1 8 Tryz.underlying51 II.out.choose_spec.1 II.out.choose_spec.2.1 II.out.choose_spec.2.2.1 II.out.choose_spec.2.2.2 Z 0 0 (Uz []) OG.out ⟨gb,0,Z⟩ 1 1 [E I (0)] O (fun j Y3 hu=>by rw[show(⟨gb,0,Z⟩:Ep).add j=⟨gb,j,Z⟩ from U3];rw[H.cell KB.out,J2];exact hu) bB (fun _=>U) J8 U O4;go_wp2_with ((with_reducible refine Io 16 ?_);(refine Jo (Eh O) (Ol O O O O4) ?_);refine Ex.mk ?_);apply Es;have OL:Ed (dU qw w.heap.size 3 1 (G qA (0+1) qc) (0+1) (Uz ([]++[0]))):=J Yc;replace KT:=J<|Uw Js KT.out EU;replace ON:=J<|ON.out.YX (Js.2.1 lw);clear U0 Js O4 OG KB iM lw;go_wp2;go_meet;exact⟨[0],qA,qc,_,O,OL.out,Ej,Ej,KT.out,OK.out,OT.out,ON.out⟩
 case rest=>
  obtain⟨L,A,c,T2,rfl,og,hl,hb,k2,Yd,Yf,o2⟩:=hcut;clear KT OK OT ON;replace o2:=J o2;go_wp2_with fail;go_loopw[3,17] (fun v y wr=> ∃(i:Nat) (L:List Int) (A:Option Ep) (c:Nat) (T1:EK),i<=3/\y=E I i/\v=G A L.length c/\wr.ownsRow w.heap.size 3 1 (G A L.length c) L.length (Uz L)/\L.length<=i+1/\(∀x∈L,0<=x/\x<=3)/\Iv wr g T1/\T1.ok/\T1.Xb/\E7 g w wr) (fun _ y _=>3-(In y).toNat);case atStart=>exact⟨0,L,A,c,T2,U,O,O,og,U,hb,k2,Yd,Yf,o2.out⟩
  case round=>
   obtain⟨i,L,A,c,T3,hi,rfl,rfl,Yg,hl3,hb3,k3,Yh,Yi,o3⟩:=hrel;clear og hb k2 Yd Yf o2 hl;have OG:=J Yg;have HL:=J hl3;have HB:=J hb3;have KT:=J k3;have OK:=J Yh;have OT:=J Yi;have ON:=J o3;clear Yg hl3 hb3 k3 Yh Yi o3;by_cases hlt:i<3
   ·have t1:decide ((i:Int)<3)=EJ:=IJ U;have ix:=fun W=>EgQ g i hlt W;have tV:=J hlt;go_wp2_with fail;refine(EgK g i tV.out T3 _ KT.out OK.out OT.out).mono ?_;rintro e w4 ⟨⟨b,T4,rfl,k4,Yj,Yk⟩,o4⟩;replace OG:=J<|EG OG.out fun _ _ h=>o4.Ek h (E6 h KT.out EU);replace KT:=J k4;replace OK:=J Yj;replace OT:=J Yk;replace ON:=J<|ON.out.trans o4;clear k4 Yj Yk o4;cases b;·go_wp2_with fail;refine⟨⟨i+1,L,A,c,T4,U,Ej,O,OG.out,JQ,HB.out,KT.out,OK.out,OT.out,ON.out⟩,Jb⟩
    ·have Yl:=J<|TH.out T4 _ KT.out OK.out i;go_wp2_with (first|((with_reducible refine Io 30 ?_);refine I4 rfl 160 _ rfl sv BZ.out ?_)|((with_reducible refine I3 160 ?_);(with_reducible refine Ux rfl 160 _ _ rfl g (so i) sv ?_ ?_ ?_ ?_ ?_ ?_);(·rfl);(·rfl);(·rw[SZ.out];exact Yl.out);(·rw[SZ.out];exact u_.2);(·exact S1.out);refine Ex.mk ?_));apply Es;rw[SV.out];replace OG:=J<|EG OG.out fun _ _ h=>(JP (g:=g) sl (so i) w4).Ek h (E6 h KT.out EU);replace KT:=J<|TP.out T4 _ KT.out OK.out i;replace OK:=J<|TK.out T4 OK.out i;replace OT:=J<|TT.out T4 OT.out i;replace ON:=J<|ON.out.trans (JP (g:=g) sl (so i) w4);clear Yl;generalize w4.setCells g (so i) sl=w5 at*;have p4:L.length<=4:=JQ;go_wp2_with (with_reducible refine JE 36 ?_);apply Es;have KB:=J<|H.new w5 #[E I ((i:Int)+1)] 3;have b4:=J<|Er w5 (Eb #[E I ((i:Int)+1)] 3);replace OG:=J<|EG OG.out fun _ _ h=>H.B h b4.out;replace KT:=J<|KT.out.B b4.out;replace ON:=J<|ON.out.trans (E7.ED b4.out);clear b4;generalize w5.alloc (Eb #[E I ((i:Int)+1)] 3)=w7 at*;generalize w5.heap.size=gb at*;have lw:=ON.out.size;obtain⟨qA,qc,qw,O4,U0,Js,-,-⟩:=aw (P:=EZ) w7 w.heap.size w.heap.size 51 51 3 II.out.choose _ 1 8 Tryz.underlying51 II.out.choose_spec.1 II.out.choose_spec.2.1 II.out.choose_spec.2.2.1 II.out.choose_spec.2.2.2 rfl A c L.length (Uz L) OG.out ⟨gb,0,Z⟩ 1 1 [E I ((i:Int)+1)] O (fun j Y3 hu=>by rw[show(⟨gb,0,Z⟩:Ep).add j=⟨gb,j,Z⟩ from U3];rw[H.cell KB.out,J2];exact hu) bB (fun _=>U) J8 U lw (E3 _);have iM:=wi (P:=EZ) w7 w.heap.size 51 51 3 II.out.choose _ 1 8 Tryz.underlying51 II.out.choose_spec.1 II.out.choose_spec.2.1 II.out.choose_spec.2.2.1 II.out.choose_spec.2.2.2 A c L.length (Uz L) OG.out ⟨gb,0,Z⟩ 1 1 [E I ((i:Int)+1)] O (fun j Y3 hu=>by rw[show(⟨gb,0,Z⟩:Ep).add j=⟨gb,j,Z⟩ from U3];rw[H.cell KB.out,J2];exact hu) bB (fun _=>U) J8 U O4;go_wp2_with ((with_reducible refine Io 36 ?_);(refine Jo (Eh O) (Ol O O O O4) ?_);refine Ex.mk ?_);apply Es;have OL:Ed (dU qw w.heap.size 3 1 (G qA (L.length+1) qc) (L.length+1) (Uz (L++[(i:Int)+1]))):=J Yc;replace KT:=J<|Uw Js KT.out EU;replace ON:=J<|ON.out.YX (Js.2.1 lw);clear U0 Js O4 OG KB iM lw;go_wp2_with fail;refine⟨⟨i+1,L++[(i:Int)+1],qA,qc,_,U,Ej,by rw[IY];rfl,by rw[IY];exact OL.out,by rw[IY,List.length_singleton];have:=HL.out;omega,?_,KT.out,OK.out,OT.out,ON.out⟩,Jb⟩;intro x hx;rcases Xp.1 hx with hx|hx;·exact HB.out x hx
     ·rw[mX] at hx;omega
   ·obtain rfl:i=3:=U;have hl4:=HL.out;go_wp2;go_ret;exact⟨⟨L,A,c,T3,O,OG.out,U,HB.out,KT.out,OK.out,OT.out⟩,ON.out⟩
def g_(m x:Int):Bool:=decide (x< -m)||decide (m<x)
def i7(m x0 x1 x2 x3:Int):Bool:=g_ m x0||(g_ m x1||(g_ m x2||g_ m x3))
theorem EgS(m x0 x1 x2 x3:Int)(w:M)(hm:0<=m/\m<=32767): Eg EZ 136 #[E I m,Ea #[E I x0,E I x1,E I x2,E I x3]] w fun e w'=>e=Ei (Ec (i7 m x0 x1 x2 x3))/\El w w':=by
 have j0: ∀w,(Un 25 (Ea #[E I x0,E I x1,E I x2,E I x3]) (E I 0)).run EZ w= .ok (E I x0) w:=fun _=>Ef;have j1: ∀w,(Un 25 (Ea #[E I x0,E I x1,E I x2,E I x3]) (E I 1)).run EZ w= .ok (E I x1) w:=fun _=>Ef;have j2: ∀w,(Un 25 (Ea #[E I x0,E I x1,E I x2,E I x3]) (E I 2)).run EZ w= .ok (E I x2) w:=fun _=>Ef;have j3: ∀w,(Un 25 (Ea #[E I x0,E I x1,E I x2,E I x3]) (E I 3)).run EZ w= .ok (E I x3) w:=fun _=>Ef;go_enter Tryz.func136,Tryz.ntmps136;go_wp2_with fail;refine Uk 5 ?_;rw[Il];cases a0:decide (x0< -m)
 ·cases b0:decide (m<x0)
  ·go_wp2_with fail;rw[Il];cases a1:decide (x1< -m)
   ·cases b1:decide (m<x1)
    ·go_wp2_with fail;rw[Il];cases a2:decide (x2< -m)
     ·cases b2:decide (m<x2)
      ·go_wp2_with fail;rw[Il];cases a3:decide (x3< -m)
       ·cases b3:decide (m<x3);·go_wp2_with fail;rw[Il];go_wp2;go_ret;exact⟨Ym,Er w _⟩
        ·go_wp2;go_ret;exact⟨Ym,Er w _⟩
       ·go_wp2;go_ret;exact⟨by simp[i7,g_,a0,b0,a1,b1,a2,b2,a3],Er w _⟩
      ·go_wp2;go_ret;exact⟨by simp[i7,g_,a0,b0,a1,b1,a2,b2],Er w _⟩
     ·go_wp2;go_ret;exact⟨by simp[i7,g_,a0,b0,a1,b1,a2],Er w _⟩
    ·go_wp2;go_ret;exact⟨by simp[i7,g_,a0,b0,a1,b1],Er w _⟩
   ·go_wp2;go_ret;exact⟨by simp[i7,g_,a0,b0,a1],Er w _⟩
  ·go_wp2;go_ret;exact⟨by simp[i7,g_,a0,b0],Er w _⟩
 ·go_wp2;go_ret;exact⟨by simp[i7,g_,a0],Er w _⟩
def oh(ms mb r:Int)(va:Bool)(x0 x1 x2 x3:Int):Int×Bool:=if(va&&i7 mb x0 x1 x2 x3)=EJ then(sat (max r 0) ms,decide (ms<=sat (max r 0) ms)) else(0,EI)
theorem EgT{ms mb r:Int}(hs:1<=ms/\ms<=1000)(hr:0<=r/\r<=1000)(va:Bool)(x0 x1 x2 x3:Int):0<=(oh ms mb r va x0 x1 x2 x3).1/\(oh ms mb r va x0 x1 x2 x3).1<=1000:=by
 unfold oh;split;·simp only[sat];split<;>omega
 ·exact⟨EU,EU⟩
theorem EgV:IL EZ 25 4:=⟨⟨_,Tryz.underlying25,O⟩,Ef⟩
theorem EgW(g:Nat->Y)(ms mb:Int)(hs:g 46=E I ms)(hb:g 47=E I mb)(hs2:1<=ms/\ms<=1000)(hb2:0<=mb/\mb<=32767)(r:Int)(hr:0<=r/\r<=1000)(va gv:Bool)(x0 x1 x2 x3:Int)(w:M): Eg EZ 92 #[Ea (EL 56 g),E I r,Ea #[Ec va,E I x0,E I x1,E I x2,E I x3,Ec gv]] w fun e w'=>e=Ei (Eu #[E I (oh ms mb r va x0 x1 x2 x3).1,Ec (oh ms mb r va x0 x1 x2 x3).2])/\El w w':=by
 have Yn:=J<|fun W=>EgS mb x0 x1 x2 x3 W hb2;obtain⟨bb,hby⟩:=Eo (i7 mb x0 x1 x2 x3);have MC:Ed (oh ms mb r va x0 x1 x2 x3=if(va&&bb)=EJ then(sat (max r 0) ms,decide (ms<=sat (max r 0) ms)) else(0,EI)):=J (by rw[hby];rfl);rw[<-hby] at Yn;have HR:=J hr;have HS2:=J hs2;obtain⟨pv,hpv⟩:=Eo (EL 56 g);have Yo:Ed (pv[46]?=D (E I ms)):=J (by rw[hpv,<-hs];simp[EL]);have PC2:Ed (pv[47]?=D (E I mb)):=J (by rw[hpv,<-hb];simp[EL]);rw[<-hpv];clear hpv hs hb hs2 hb2 hr hby;go_enter Tryz.func92,Tryz.ntmps92;go_wp2_with (with_reducible refine JE 9 ?_);apply Es;generalize hW:Xo _ _=w1 at*;have KP:Ed (H w1 (w.heap.size) pv 28):=J (by subst hW;repeat (first|exact H.new _ _ _|exact H.new' _ _ _ Ej|refine H.alloc ?_ _));have KS:Ed (H w1 (w.heap.size+1) #[Ec va,E I x0,E I x1,E I x2,E I x3,Ec gv] 46):=J (by subst hW;repeat (first|exact H.new _ _ _|exact H.new' _ _ _ Ej|refine H.alloc ?_ _));have b1:Ed (El w w1):=J (by subst hW;(repeat (first|exact IU _ _|(refine J6 ?_ IF _)|(refine J7 ?_ IF _))));clear hW;obtain⟨gb,hgb⟩:=Eo (w.heap.size+1);obtain⟨gp,UG⟩:=Eo w.heap.size;rw[<-hgb] at KS⊢;rw[<-UG] at KP;rw[show w.heap.size=gp from UG.symm];clear hgb UG;have c0:w1.cell? ⟨gb,0,Z⟩=D (Ec va):=(H.cell KS.out 0).trans O;have c47:w1.cell? ⟨gp,47,Z⟩=D (E I mb):=(H.cell KP.out 47).trans PC2.out;cases va with
 |false=> go_wp2;go_ret2;refine⟨?_,b1.out⟩;rw[MC.out];rfl
 |true=>
  go_wp2_with ((with_reducible refine iX 25 ?_);(with_reducible refine nU (g:=gb) (off:=1) (cs:= #[E I x0,E I x1,E I x2,E I x3]) EgV ?_ ?_ KS ?_ ?_ ?_);(·first|exact Eh rfl|(simp[JO,Jg];done));(·exact⟨O,O⟩);(·rfl);(·simp));refine(Yn.out _).mono ?_;rintro e w2 ⟨rfl,b2⟩;replace KP:=EH KP b2;replace b1:=EV b1 b2;clear b2 c0 c47 KS;cases bb with
  |false=> go_wp2;go_ret2;refine⟨?_,b1.out⟩;rw[MC.out];rfl
  |true=>
   have c46:w2.cell? ⟨gp,46,Z⟩=D (E I ms):=(H.cell KP.out 46).trans Yo.out;have h1:=HR.out;have h2:=HS2.out;go_wp2_with fail;refine(uz (max r 0) ms _ U U).mono ?_;rintro e w3 ⟨rfl,rfl⟩;go_wp2_with fail;have y46: ∀y:Ext w2,(EC w2 y).cell? ⟨gp,46,Z⟩=D (E I ms):=fun y=>(H.cell (H.B KP.out (EQ y)) 46).trans Yo.out;refine ZQ Ef Ef ?_;repeat (go_big_quiet_step (fail))
   refine I5 ?_;intro _ hw';obtain⟨y9,rfl⟩:=hw';have En:=EQ y9;replace b1:=EV b1 En;clear y46 KP En c46;generalize EC w2 y9=w4 at*;go_wp2;go_ret2;refine⟨?_,b1.out⟩;rw[MC.out];rfl
def DQ(c c':Ey)(new:List Rec):Prop:=
 (∃L' cd,c'={c with q:=L'}/\new=[⟨7,0,c.samples,c.tok.e,cd,0⟩])
 \/(∃L' t2 hw,t2.ok/\t2.e=c.tok.e+1/\t2.o= -1/\c'={c with tok:=t2,q:=L'}/\new=[⟨8,t2.h,c.samples,t2.e,0,hw⟩])
 \/(new=[⟨6,0,c.samples,c.tok.e,0,0⟩]/\ ∃p:Pt,p.b=⟨1,0,c.samples⟩/\c'={c with pt:=p})
theorem Eg2(lo hi:Nat)(g:Nat->Y)(gc gq gt gs:Nat)(c:Ey)(ns:Nat)(rs:List Rec)(w:M)(S:E9 lo hi g gc gq gt gs c ns rs w)(hn:ns<800000)(hl:rs.length<800000): Eg EZ 93 #[V (D ⟨gs,0,Z⟩)] w fun e w'=>e=Ei (Eu #[])/\(∃c' m new,m<=3/\E9 lo hi g gc gq gt gs c' (ns+m) (rs++new) w'/\DQ c c' new)/\EA lo hi w w':=by
 have ZL:=fun W q=>WE lo gq c.q (pn g 48) 0 c.tok W S.core.lq q S.core.ok.q Do;obtain⟨Ip,Uq,Xf,ZE⟩: ∃Ip,c.tok.a=Ea Ip/\Ed (Ip.size=8)/\Ed (c.tok.v.toArray=Ip):=⟨_,O,J O,J O⟩;have S1:=J S;have HN:=J hn;have HL:=J hl;have MM:=J<|EA.refl lo hi w;obtain⟨sm,hsm⟩:=Eo c.samples;replace hsm:=J hsm;clear S hn hl;have CA:Ed (∀W,Jr W lo gq c.q (pn g 48)->Eg EZ 137 #[Ea Ip,V (D ⟨gq,0,Z⟩),E I 0] W _):=J (fun W q=>Wo);obtain⟨PQ,hPQ⟩: ∃PQ:Array Y->Int->Prop,PQ=fun rv cd=> ∃t2:EN,t2.a=Ea rv/\rv.size=8/\rv.all (·.oneCell')=EJ/\tz c.tok c.q 0 t2 cd:=⟨_,O⟩;have qM:Ed (∀(t2:EN) (rv:Array Y) (cd:Int),t2.a=Ea rv->rv.size=8->rv.all (·.oneCell')=EJ->tz c.tok c.q 0 t2 cd->PQ rv cd):=J (fun t2 rv cd h1 h2 h3 h4=>Dq);have qN:Ed (∀rv cd,PQ rv cd->rv.size=8/\rv.all (·.oneCell')=EJ):=J (fun rv cd h=>Ds);replace hPQ:=J hPQ;clear ZL Uq;obtain⟨n0,hn0⟩:=Eo w.heap.size;have Xt:=J (show lo<=n0/\hi<=n0/\w.heap.size<=n0 by have:=S1.out.dO;have:=S1.out.gT;omega);go_enter Tryz.func93,Tryz.ntmps93;go_wp2_with fail;refine iS (Ph:=fun p wq=>n0<=wq.heap.size/\(match p with|0=>(E9 lo hi g gc gq gt gs c ns rs wq/\EA lo hi w wq)|_=>(∃L':List One,E9 lo hi g gc gq gt gs {c with q:=L'} ns rs wq/\EA lo hi w wq))) (Rel:=J0) (Iw:=lQ) [kp gs 0,kp gs 0,kp gs 0,kp gc 0,kp gc 0,kp gc 56,kq (Ea Ip),kp gs 0,kp gs 0,kp gs 0,kp gc 0,kp gc 0,kp gc 64,kp gq 0,.val (fun v=> ∃(rv:Array Y) (cd:Int),PQ rv cd/\v=Eu #[Ea rv,E I cd]),.val (fun v=> ∃(rv:Array Y) (cd:Int),PQ rv cd/\v=Eu #[Ea rv,E I cd]),.bM [15,16] (fun x=> ∃(rv:Array Y) (cd:Int),PQ rv cd/\x 15=Eu #[Ea rv,E I cd]/\x 16=Ea rv) (fun x y hq h=>by simpa only[hq 15 Ej,hq 16 Ej] using h),.bM [15,17] (fun x=> ∃(rv:Array Y) (cd:Int),PQ rv cd/\x 15=Eu #[Ea rv,E I cd]/\x 17=E I cd) (fun x y hq h=>by simpa only[hq 15 Ej,hq 17 Ej] using h),.dep (ah n0) (fun v w w' h hr=>h.B hr) (fun v w w' h hr=>h.iT hr),.tie [18,16] (fun x w=> ∃(b:Nat) (rv:Array Y),x 18=V (D ⟨b,0,Z⟩)/\x 16=Ea rv/\n0<=b/\H w b rv 109) (fun x w w' h hr=>Dt) (fun x y w hq h=>by rw[hq 18 Ej,hq 16 Ej] at h;exact h),.bM [17,20] (fun x=>x 20=x 17) (fun x y hq h=>by simpa only[hq 17 Ej,hq 20 Ej] using h)] [EI,EI,EI,EI,EI,EI,EI,EI,EI,EI,EI,EI,EI,EI,EI,EI,EI,EI,EI,EJ,EI] O [[],[],[],[],[],[],[],[],[],[],[],[],[],[],[],[],[15,16],[15,17],[],[18,16],[17,20]] O [14,19] [(0,0),(0,0),(0,0),(0,0),(0,0),(0,0),(0,0),(0,0),(0,0),(0,0),(0,0),(0,0),(0,0),(0,0),(0,0),(1,1),(1,1),(1,2),(0,1),(1,1),(2,2)] Ef Ef Ef Ef Ef Ef UP Ef ?hPh ?h0 ?hstep ?hend
 case hPh=>
  intro p w2 w3 h hr;match p,h with
  |0,h=>exact⟨Ew h.1 (XE hr),h.2.1.B hr,h.2.2.trans (EA.ED hr)⟩
  |_+1,h=> obtain⟨nn,L',s,m⟩:=h;exact⟨Ew nn (XE hr),L',s.B hr,m.trans (EA.ED hr)⟩
 case h0=> exact Eqi
 case hstep=>
  refine⟨?_,?_,?_,?_,?_,?_,?_,?_,?_,?_,?_,?_,?_,?_,?_,?_,?_,?_,?_,?_,?_,trivial⟩;all_goals first|intro xv wq p hlo hhi hp hd|intro xv wq hp hd
  all_goals simp only[EM,Ih,Ik,Ic,If]
  ·exact Enx
  ·exact EnP
  ·exact EnN
  ·exact Enz
  ·exact EnM
  ·exact En6
  ·exact Erx
  ·exact Enx
  ·exact Eod
  ·exact Eoc
  ·exact En7
  ·exact EoX
  ·exact EoU
  ·exact EoR
  ·have d6:xv 6=Ea Ip:=hd.at 6 rfl;have d13:xv 13=V (D ⟨gq,0,Z⟩):=hd.at 13 rfl;refine JL (f:=137) (args:= #[xv 6,xv 13,E I 0]) (Eh O) Ez ?_;rw[d6,d13];refine(CA.out wq hp.2.1.core.ZC).mono fun e w2 h=> ?_;obtain⟨⟨t2,cd,L2,he,hf,sq,q2⟩,m2⟩:=h;obtain⟨rv,IH,hs,ho⟩:=ZH t2;exact⟨_,he,⟨m2.iT,Ew hp.1 m2.bel.size,L2,hp.2.1.gV m2 L2 q2 (hp.2.1.core.ok.sub sq),hp.2.2.trans (m2.jL hi)⟩,rv,cd,qM.out t2 rv cd IH hs ho hf,congrArg (fun v=>Value.tuple #[v,E I cd]) IH⟩
  ·obtain rfl:p=1:=U;obtain⟨rv,cd,hpq,e14⟩: ∃(rv:Array Y) (cd:Int),PQ rv cd/\xv 14=Eu #[Ea rv,E I cd]:=hd.at 14 rfl;exact Et (by simp[go_sem,e14]) ⟨rv,cd,hpq,O⟩
  ·obtain rfl:p=1:=U;exact EpZ
  ·exact EpZ
  ·exact Eon
  ·obtain⟨b,d0,eA,lb,h8,kb⟩:ah n0 (xv 18) wq:=hd.at 18 rfl;have nh:=Xt.out;obtain⟨rv,cd,hpq,-,e16⟩: ∃(rv:Array Y) (cd:Int),PQ rv cd/\xv 15=Eu #[Ea rv,E I cd]/\xv 16=Ea rv:=hd.at 16 rfl;have hsz:=qN.out _ _ hpq;obtain⟨nn,L',s,m⟩:=hp;refine cX EW (Eh O) ⟨O,eA,e16⟩ kb h8 hsz.1 hsz.2 ⟨tG kb hsz.1,?_⟩ ⟨b,rv,eA,e16,lb,kb.setRow _⟩;exact EqY
  ·obtain rfl:p=2:=U;obtain⟨rv,cd,hpq,-,e17⟩: ∃(rv:Array Y) (cd:Int),PQ rv cd/\xv 15=Eu #[Ea rv,E I cd]/\xv 17=E I cd:=hd.at 17 rfl;exact Et (by simp[go_sem,e17]) (e17.symm)
 case hend=>
  intro xv W6 hp hd;clear S1 MM;simp only[EM,Ih,Ik,Ic,If];obtain⟨rv,cd,hpq,eM,e16⟩: ∃(rv:Array Y) (cd:Int),PQ rv cd/\xv 15=Eu #[Ea rv,E I cd]/\xv 16=Ea rv:=hd 16 EU;obtain⟨b,iV,eA,eE,lb,kb⟩: ∃(b:Nat) (rv:Array Y),xv 18=V (D ⟨b,0,Z⟩)/\xv 16=Ea rv/\n0<=b/\H W6 b rv 109:=hd 19 EU;have qP:iV=rv:=by rw[eE] at e16;injection e16
  subst qP;have a20:xv 20=E I cd:=by have h1:xv 20=xv 17:=hd 20 EU;obtain⟨Dw,Mg,-,f1,f2⟩: ∃(rv:Array Y) (cd:Int),PQ rv cd/\xv 15=Eu #[Ea rv,E I cd]/\xv 17=E I cd:=hd 17 EU;exact Eo9
  obtain⟨-,L',s6,m6⟩:=hp;have S1:=J s6;have MM:=J m6;have KB:=J kb;rw[eA,a20];rw[hPQ.out] at hpq;obtain⟨t2,IH,hs,ho,hf⟩:=hpq;have Up:=J IH;have RS:=J hs;have HF:=J hf;clear s6 m6 kb hd eA a20 CA IH hs ho hf eM eE;by_cases hcd:cd=0
  ·subst hcd
   have HT2:Ed (t2.ok/\t2.e=c.tok.e+1/\t2.o= -1):=J (by
    rcases HF.out with⟨a1,-⟩|⟨-,-,-,x,-,a2⟩;·exact absurd O a1
    ·exact⟨(gW S1.out.core.ok.tok a2).1,(gW S1.out.core.ok.tok a2).2.1,(gW S1.out.core.ok.tok a2).2.2.2⟩)
   go_wp2_with fail;have y0: ∀y:Ext W6,(EC W6 y).cell? ⟨gs,0,Z⟩=D (V (D ⟨gc,0,Z⟩)):=fun y=>(S1.out.B (EQ y)).IB;have y96: ∀y:Ext W6,(EC W6 y).cell? ⟨gc,96,Z⟩=D (E I sm):=fun y=>by rw[hsm.out];exact(S1.out.B (EQ y)).core.cell 7 rfl 0 Ej
   refine Oa 9 Ef Ef ?_;simp only[Is,Iq,IT,IM]
   repeat (first
    |go_big_quiet_skip
    |(go_big_quiet_want
      first
       |(refine UV (T:=109) (g:=b) EW _ rfl rfl KB ?_ ?_;(·exact RS.out);go_simp;go_big_quiet_on)
       |(go_big_quiet_op
         first
          |go_big_quiet_on
          |go_big_quiet_call (fail))))
   refine I5 ?_;intro _ hw';obtain⟨y9,rfl⟩:=hw';have En:=EQ y9;replace S1:=J<|S1.out.B En;replace MM:=J<|MM.out.trans (EA.ED En);clear y0 y96 En KB;generalize EC W6 y9=w9 at*;go_wp2_with fail;rw[<-Up.out];refine(n_ lo hi g gc gq gt gs _ ns rs t2 2 sm _ S1.out HT2.out.1 J_ JQ).mono ?_;rintro e7 w7 ⟨rfl,⟨L2,m7,XR,sq,s7⟩,Xg⟩;have S8:=J s7;replace MM:=J<|MM.out.trans Xg;have oJ:=J XR;clear s7 Xg sq XR;go_wp2;go_end0;refine⟨O,⟨_,m7,_,qL,S8.out,.inr (.inl ⟨L2,t2,2,HT2.out.1,HT2.out.2.1,HT2.out.2.2,O,?_⟩)⟩,MM.out⟩;rw[hsm.out]
  ·have t9:(cd !=0)=EJ:=dP;have z0:=S1.out.IB;have mZ:W6.cell? ⟨gc,96,Z⟩=D (E I sm):=by rw[hsm.out];exact S1.out.core.cell 7 rfl 0 Ej
   go_wp2_with fail;refine(ZD lo hi g gc gq gt gs _ ns rs 7 0 sm cd 0 _ S1.out JQ).mono ?_;rintro e7 w7 ⟨rfl,s7,m7⟩;have S8:=J s7;replace MM:=J<|MM.out.trans m7;clear s7 m7 z0 mZ;go_wp2_with fail;refine ET (UQ O _ _ _) O ?_;refine⟨O,⟨_,0,_,U,S8.out,.inl ⟨L',cd,O,?_⟩⟩,MM.out⟩;rw[hsm.out]
theorem Eg3(lo hi:Nat)(g:Nat->Y)(gc gq gt gs:Nat)(c:Ey)(ns:Nat)(rs:List Rec)(w:M)(S:E9 lo hi g gc gq gt gs c ns rs w)(hn:ns<800000)(hl:rs.length<800000): Eg EZ 95 #[V (D ⟨gs,0,Z⟩)] w fun e w'=>e=Ei (Eu #[])/\(∃c' m new,m<=3/\E9 lo hi g gc gq gt gs c' (ns+m) (rs++new) w'/\DQ c c' new)/\EA lo hi w w':=by
 have ZL:=fun W=>su c.tok 0 W Do;obtain⟨Ip,Uq,Xf,ZE⟩: ∃Ip,c.tok.a=Ea Ip/\Ed (Ip.size=8)/\Ed (c.tok.v.toArray=Ip):=⟨_,O,J O,J O⟩;have S1:=J S;have HN:=J hn;have HL:=J hl;have MM:=J<|EA.refl lo hi w;obtain⟨sm,hsm⟩:=Eo c.samples;replace hsm:=J hsm;clear S hn hl;cases hr:c.tok.Uj 0 with|mk t2 cd=>
 obtain⟨rv,IH,RS,RO⟩:=ZH t2;have RS:=J RS;have RO:=J RO;have Up:=J IH;have HR:=J hr;have CA:Ed (∀W,Eg EZ 140 #[Ea Ip,E I 0] W fun x w'=>x=Ei (Eu #[Ea rv,E I cd])/\El W w'):=J (fun W=>by have h:=ZL W;rw[hr,Uq] at h;rw[<-IH];exact h);clear hr IH ZL Uq;have z0:=S1.out.IB;obtain⟨big,KB,O8⟩:=bK S1.out.core;have KB:=J KB;have dR:Ed (big.extract 56 (56+8)=Ip):=J<|(O8 1 c.tok.v O).trans ZE.out;clear O8;go_enter Tryz.func95,Tryz.ntmps95;go_wp2_with (with_reducible refine wM (off:=56) (cs:=Ip) EW KB ?_ (hn:=Xf.out) (he:=dR.out));refine(CA.out _).mono ?_;rintro e6 w6 ⟨rfl,b6⟩;replace S1:=J<|S1.out.B b6;replace MM:=J<|MM.out.trans (EA.ED b6);clear b6 z0 KB;have K0:=J<|H.new w6 #[E I 0,E I 0,E I 0,E I 0,E I 0,E I 0,E I 0,Ec EI] 109;have b2:=Er w6 (Eb #[E I 0,E I 0,E I 0,E I 0,E I 0,E I 0,E I 0,Ec EI] 109);go_wp2_with (with_reducible first|refine wA lR ?_|refine wS (cs:=rv) EW K0 (Ex.mk ?_) (hn:=RS.out) (h1:=RO.out));apply Es;obtain⟨b,hgm⟩:=Eo w6.heap.size;rw[<-hgm] at K0⊢;generalize w6.alloc (Eb #[E I 0,E I 0,E I 0,E I 0,E I 0,E I 0,E I 0,Ec EI] 109)=w7 at*;have KB:=J<|K0.out.setRow rv;have b3:=EY (g:=b) b2 (OC hgm.symm) rv;generalize w7.setRow b rv=w8 at*;clear K0 b2 hgm;replace S1:=J<|S1.out.B b3;replace MM:=J<|MM.out.trans (EA.ED b3);clear b3;by_cases hcd:cd=0
 ·subst hcd;have HT2:=J<|gW S1.out.core.ok.tok HR.out;go_wp2_with fail;have y0: ∀y:Ext w8,(EC w8 y).cell? ⟨gs,0,Z⟩=D (V (D ⟨gc,0,Z⟩)):=fun y=>(S1.out.B (EQ y)).IB;have y96: ∀y:Ext w8,(EC w8 y).cell? ⟨gc,96,Z⟩=D (E I sm):=fun y=>by rw[hsm.out];exact(S1.out.B (EQ y)).core.cell 7 rfl 0 Ej
  refine Oa 9 Ef Ef ?_;simp only[Is,Iq,IT,IM]
  repeat (first
   |go_big_quiet_skip
   |(go_big_quiet_want
     first
      |(refine UV (T:=109) (g:=b) EW _ rfl rfl KB ?_ ?_;(·exact RS.out);go_simp;go_big_quiet_on)
      |(go_big_quiet_op
        first
         |go_big_quiet_on
         |go_big_quiet_call (fail))))
  refine I5 ?_;intro _ hw';obtain⟨y9,rfl⟩:=hw';have En:=EQ y9;replace S1:=J<|S1.out.B En;replace MM:=J<|MM.out.trans (EA.ED En);clear y0 y96 En KB;generalize EC w8 y9=w9 at*;go_wp2_with fail;rw[<-Up.out];refine(n_ lo hi g gc gq gt gs _ ns rs t2 4 sm _ S1.out HT2.out.1 J_ JQ).mono ?_;rintro e7 w7 ⟨rfl,⟨L2,m7,XR,sq,s7⟩,Xg⟩;have S8:=J s7;replace MM:=J<|MM.out.trans Xg;have oJ:=J XR;clear s7 Xg sq XR;go_wp2;go_end0;refine⟨O,⟨_,m7,_,qL,S8.out,.inr (.inl ⟨L2,t2,4,HT2.out.1,HT2.out.2.1,HT2.out.2.2.2,O,?_⟩)⟩,MM.out⟩;rw[hsm.out]
 ·have t9:(cd !=0)=EJ:=dP;have z0:=S1.out.IB;have mZ:w8.cell? ⟨gc,96,Z⟩=D (E I sm):=by rw[hsm.out];exact S1.out.core.cell 7 rfl 0 Ej
  go_wp2_with fail;refine(ZD lo hi g gc gq gt gs _ ns rs 7 0 sm cd 0 _ S1.out JQ).mono ?_;rintro e7 w7 ⟨rfl,s7,m7⟩;have S8:=J s7;replace MM:=J<|MM.out.trans m7;clear s7 m7 z0 mZ;go_wp2_with fail;refine ET (UQ O _ _ _) O ?_;refine⟨O,⟨_,0,_,U,S8.out,.inl ⟨c.q,cd,O,?_⟩⟩,MM.out⟩;rw[hsm.out]
theorem MD:Od EZ 36 #[E I 0,E I 0,E I 0]:=by exact En5
theorem Eg4(ep:Int):Tryz.prog.built 183 [(0,E I 11),(4,E I ep),(6,E I 1)]=D (EF [11,0,0,0,ep,0,1,0,0,0,0,0]):=Ef
theorem Eg5(a b c:Int):Tryz.prog.built 36 [(0,E I a),(1,E I b),(2,E I c)]=D #[E I a,E I b,E I c]:=Ef
theorem Eg6(lo hi:Nat)(g:Nat->Y)(gc gq gt gs:Nat)(c:Ey)(ns:Nat)(rs:List Rec)(va gv:Bool)(x0 x1 x2 x3:Int)(w:M)(S:E9 lo hi g gc gq gt gs c ns rs w)(hx:I_ x0/\I_ x1/\I_ x2/\I_ x3)(hn:ns<800000)(hl:rs.length<800000): Eg EZ 94 #[V (D ⟨gs,0,Z⟩),Ea #[Ec va,E I x0,E I x1,E I x2,E I x3,Ec gv]] w fun e w'=>e=Ei (Eu #[])/\(∃c' m new,m<=3/\E9 lo hi g gc gq gt gs c' (ns+m) (rs++new) w'/\DQ c c' new)/\EA lo hi w w':=by
 obtain⟨ep,Yp⟩:=Eo c.tok.e;obtain⟨jd,tK⟩: ∃jd:Int,∀W,Xs W->Eg EZ 138 #[Ea (EL 56 g),Ea c.tok.v.toArray,E I 0,E I 0,E I c.mode,Ea (EF [11,0,0,0,ep,0,1,0,0,0,0,0])] W fun e w'=>e=Ei (E I jd)/\El W w':=⟨_,fun W hc=>Vd g c.tok.h c.tok.e 0 0 c.mode 11 ep 0 1 (E I c.tok.o) (E I c.tok.oa) (E I c.tok.om) (E I c.tok.la) (E I c.tok.lm) (Ec c.tok.bad) (E I 0) (E I 0) (E I 0) (Ec EI) (E I 0) (E I 0) (E I 0) (E I 0) W (fun i h1 h2=>S.core.XV.int i h2 (.inr U)) hc⟩;obtain⟨p,hpo,hpb,lS⟩: ∃p:Pt,p.ok/\p.b=⟨1,0,c.samples⟩/\ ∀W,Eg EZ 139 #[Ea (EL 56 g),Ea c.pt.v.toArray,E I 1,Ea #[E I x0,E I x1,E I x2,E I x3],Ea #[E I 1,E I 0,E I c.samples]] W fun e w'=>e=Ei (Ea p.v.toArray)/\El W w':=Wy g c.pt S.core.XV.fit S.core.ok.pt 0 c.samples 1 x0 x1 x2 x3 U hx.1 hx.2.1 hx.2.2.1 hx.2.2.2;have S0:=J S;have HN:=J hn;have HL:=J hl;have CJ:=J tK;have iQ:=J hpo;have ay:=J hpb;have Yq:=J<|Eg4 ep;have HEP:=J Yp;obtain⟨sm,hsm⟩:=Eo c.samples;replace hsm:=J hsm;have CS:=J lS;rw[<-hsm.out] at CS;have Mq:=J<|Eg5 1 0 sm;have KS:=J<|H.new w #[Ec va,E I x0,E I x1,E I x2,E I x3,Ec gv] 46;have b1:=Er w (Eb #[Ec va,E I x0,E I x1,E I x2,E I x3,Ec gv] 46);have S1:=J<|S0.out.B b1;have MM:=J<|EA.ED (lo:=lo) (hi:=hi) b1;have i6:=J<|Ja [11,0,0,0,ep,0,1,0,0,0,0,0];have oX:=J<|ZY [11,0,0,0,ep,0,1,0,0,0,0,0];obtain⟨mv,hmv⟩:=Eo (EF [11,0,0,0,ep,0,1,0,0,0,0,0]);rw[<-hmv] at CJ Yq i6 oX;clear S hn hl tK hpo hpb lS Yp hmv hx S0;have z0:=S1.out.IB;have z57:(w.alloc (Eb #[Ec va,E I x0,E I x1,E I x2,E I x3,Ec gv] 46)).cell? ⟨gc,57,Z⟩=D (E I ep):=by rw[HEP.out];exact S1.out.core.cell 1 rfl 1 XW
 go_enter Tryz.func94,Tryz.ntmps94;go_wp2_with (with_reducible refine JE 15 ?_);apply Es;clear b1 z0 z57;generalize w.alloc (Eb #[Ec va,E I x0,E I x1,E I x2,E I x3,Ec gv] 46)=w1 at*;obtain⟨gb,hgb⟩:=Eo w.heap.size;rw[<-hgb] at KS⊢;clear hgb;have K0:=J<|H.new w1 (EF (Ia 0)) 183;have b2:=Er w1 (Eb (EF (Ia 0)) 183);go_wp2_with (first|((with_reducible refine Io 15 ?_);refine I4 rfl 183 _ rfl mv Yq.out ?_)|(with_reducible refine wA iB ?_)|(with_reducible refine wS (cs:=mv) OY K0 (Ex.mk ?_) (ho:=Ja _) (hn:=i6.out) (h1:=oX.out)));apply Es;obtain⟨gm,hgm⟩:=Eo w1.heap.size;rw[<-hgm] at K0⊢;generalize w1.alloc (Eb (EF (Ia 0)) 183)=w2 at*;have KM:=J<|K0.out.setRow mv;have b3:=EY (g:=gm) b2 (OC hgm.symm) mv;generalize w2.setRow gm mv=w3 at*;clear K0 b2 hgm;replace KS:=EH KS b3;replace S1:=J<|S1.out.B b3;replace MM:=J<|MM.out.trans (EA.ED b3);clear b3;go_wp2_with fail;obtain⟨d0,d1,d2,hd,KG,o0,o1,o2,-,-⟩:=S1.out.core.Ek;have Xh:=J<|Oo (c:=c) (gq:=gq) (gt:=gt) (hd:=hd) (JC g) o0 o1 o2 0 U;have xZ:=J<|Oo (c:=c) (gq:=gq) (gt:=gt) (hd:=hd) (JC g) o0 o1 o2 1 U;have KG:=J KG;have PL:=J<|JC g;have XJ:Ed ((EL 56 g).toList.toArray=EL 56 g):=J Ej;clear o0 o1 o2;have DD:=J S1.out.core.cmds;have y0: ∀y:Ext w3,(EC w3 y).cell? ⟨gs,0,Z⟩=D (V (D ⟨gc,0,Z⟩)):=fun y=>(S1.out.B (EQ y)).IB;have y98: ∀y:Ext w3,(EC w3 y).cell? ⟨gc,98,Z⟩=D (E I c.mode):=fun y=>(S1.out.B (EQ y)).core.cell 9 rfl 0 Ej;refine ZQ Ef Ef ?_
 repeat (first
  |go_big_quiet_skip
  |(go_big_quiet_want
    first
     |(refine Zf (T:=28) (g:=gc) (off:=0) U1 _ rfl rfl KG 0 rfl Xh.out PL.out ?_;(try rw[XJ.out]);go_simp;go_big_quiet_on)
     |(refine Zf (T:=109) (g:=gc) (off:=56) EW _ rfl rfl KG 1 rfl xZ.out rfl ?_;(try rw[XJ.out]);go_simp;go_big_quiet_on)
     |(refine UV (T:=183) (g:=gm) Wx _ rfl rfl KM ?_ ?_;(·exact i6.out);go_simp;go_big_quiet_on)
     |(go_big_quiet_op
       first
        |go_big_quiet_on
        |go_big_quiet_call (with_reducible refine ao (CJ.out _ (DD.out.B (EQ _)))))))
 refine I5 ?_;intro _ hw';obtain⟨y9,rfl⟩:=hw';have En:=EQ y9;replace KS:=EH KS En;replace S1:=J<|S1.out.B En;replace MM:=J<|MM.out.trans (EA.ED En);clear y0 y98 En KG Xh xZ PL XJ DD KM CJ;generalize EC w3 y9=w4 at*;by_cases hjd:jd=0
 ·subst hjd;have z0:=S1.out.IB;have mZ:w4.cell? ⟨gc,96,Z⟩=D (E I sm):=by rw[hsm.out];exact S1.out.core.cell 7 rfl 0 Ej
  have K0:=J<|H.new w4 #[E I 0,E I 0,E I 0] 36;have b2:=Er w4 (Eb #[E I 0,E I 0,E I 0] 36);go_wp2_with (first|((with_reducible refine Io 58 ?_);refine I4 rfl 36 _ rfl #[E I 1,E I 0,E I sm] Mq.out ?_)|(with_reducible refine wA MD ?_)|(with_reducible refine wS (cs:= #[E I 1,E I 0,E I sm]) fR K0 (Ex.mk ?_) (h1:=U9)));apply Es;obtain⟨gl,hgl⟩:=Eo w4.heap.size;rw[<-hgl] at K0⊢;generalize w4.alloc (Eb #[E I 0,E I 0,E I 0] 36)=w5 at*;have KL:=J<|K0.out.setRow #[E I 1,E I 0,E I sm];have b3:=EY (g:=gl) b2 (OC hgl.symm) #[E I 1,E I 0,E I sm];generalize w5.setRow gl #[E I 1,E I 0,E I sm]=w6 at*;clear K0 b2 hgl z0 mZ;replace KS:=EH KS b3;replace S1:=J<|S1.out.B b3;replace MM:=J<|MM.out.trans (EA.ED b3);clear b3;go_wp2_with fail;obtain⟨d0,d1,d2,hd,KG,o0,o1,o2,-,-⟩:=S1.out.core.Ek;have Xh:=J<|Oo (c:=c) (gq:=gq) (gt:=gt) (hd:=hd) (JC g) o0 o1 o2 0 U;have iW:=J<|Oo (c:=c) (gq:=gq) (gt:=gt) (hd:=hd) (JC g) o0 o1 o2 11 U;have KG:=J KG;have PL:=J<|JC g;have XJ:Ed ((EL 56 g).toList.toArray=EL 56 g):=J Ej;clear o0 o1 o2;have KX:Ed (Jl w6 gb [[Ec va],[E I x0,E I x1,E I x2,E I x3],[Ec gv]] 46):=J KS.out;have OX:Ed (bh [[Ec va],[E I x0,E I x1,E I x2,E I x3],[Ec gv]] 1=1):=J O;have y0: ∀y:Ext w6,(EC w6 y).cell? ⟨gs,0,Z⟩=D (V (D ⟨gc,0,Z⟩)):=fun y=>(S1.out.B (EQ y)).IB;refine Oa 24 Ef Ef ?_;simp only[Is,Iq,IT,IM]
  repeat (first
   |go_big_quiet_skip
   |(go_big_quiet_want
     first
      |(refine Zf (T:=28) (g:=gc) (off:=0) U1 _ rfl rfl KG 0 rfl Xh.out PL.out ?_;(try rw[XJ.out]);go_simp;go_big_quiet_on)
      |(refine Zf (T:=50) (g:=gc) (off:=102) iP _ rfl rfl KG 11 rfl iW.out rfl ?_;(try rw[XJ.out]);go_simp;go_big_quiet_on)
      |(refine Zf (T:=25) (g:=gb) (off:=1) xU _ rfl rfl KX 1 rfl OX.out rfl ?_;go_simp;go_big_quiet_on)
      |(refine UV (T:=36) (g:=gl) fR _ rfl rfl KL ?_ ?_;(·rfl);go_simp;go_big_quiet_on)
      |(go_big_quiet_op
        first
         |go_big_quiet_on
         |go_big_quiet_call (with_reducible refine ao (CS.out _)))))
  refine I5 ?_;intro _ hw';obtain⟨y9,rfl⟩:=hw';have En:=EQ y9;replace S1:=J<|S1.out.B En;replace MM:=J<|MM.out.trans (EA.ED En);clear y0 En KG Xh iW KX OX KL PL XJ;generalize EC w6 y9=w7 at*;have TH:=J<|db S1.out.core 11 rfl 12 wT;go_wp2_with ((with_reducible refine I3 50 ?_);(with_reducible refine Ux O 50 _ _ O gc 102 p.v.toArray ?_ ?_ ?_ ?_ ?_ ?_);(·rfl);(·rfl);(·exact TH.out);(·exact iP.2);(·simp[Pt.v,Oc]);refine Ex.mk ?_);apply Es;have S4:=S1.out.iN p (S1.out.core.ok.iN iQ.out);replace S1:=J S4.1;replace MM:=J<|MM.out.trans S4.2;clear S4 TH KS;change Ib _ _ _ _ _ (w7.setCells gc 102 p.v);generalize w7.setCells gc 102 p.v=w8 at*;have z0:=S1.out.IB;have mZ:w8.cell? ⟨gc,96,Z⟩=D (E I sm):=by rw[hsm.out];exact S1.out.core.cell 7 rfl 0 Ej
  go_wp2_with fail;refine(ZD lo hi g gc gq gt gs _ ns rs 6 0 sm 0 0 _ S1.out JQ).mono ?_;rintro e12 UH ⟨rfl,s12,m12⟩;have S8:=J s12;replace MM:=J<|MM.out.trans m12;clear m12 s12 z0 mZ;go_wp2;go_end0;refine⟨O,⟨_,0,_,U,S8.out,.inr (.inr ⟨?_,p,ay.out,O⟩)⟩,MM.out⟩;rw[hsm.out]
 ·have t9:(jd !=0)=EJ:=by simpa using hjd
  have z0:=S1.out.IB;have mZ:w4.cell? ⟨gc,96,Z⟩=D (E I sm):=by rw[hsm.out];exact S1.out.core.cell 7 rfl 0 Ej
  go_wp2_with fail;refine(ZD lo hi g gc gq gt gs _ ns rs 7 0 sm jd 0 _ S1.out JQ).mono ?_;rintro e7 w7 ⟨rfl,s7,m7⟩;have S8:=J s7;replace MM:=J<|MM.out.trans m7;clear s7 m7 z0 mZ;go_wp2_with fail;refine ET (UQ O _ _ _) O ?_;refine⟨O,⟨_,0,_,U,S8.out,.inl ⟨c.q,jd,O,?_⟩⟩,MM.out⟩;rw[hsm.out]
def ol(c c':Ey)(new:List Rec):Prop:= ∃(a b:Int) (T1:EK),(c'={c with samples:=a,beyond:=b,T:=T1}/\new=[])\/DQ {c with samples:=a,beyond:=b,T:=T1} c' new
theorem Ey.ok.MX(h:c.ok){x:Int}(hx:0<=x/\x<=4294967295):({c with samples:=x}:Ey).ok:=⟨h.tok,h.T,h.q,h.ones,h.src,h.nd,hx,h.jD,h.mode,h.En,h.pt,h.Iu⟩
theorem Ey.ok.wN(h:c.ok){x:Int}(hx:0<=x/\x<=1000):({c with beyond:=x}:Ey).ok:=⟨h.tok,h.T,h.q,h.ones,h.src,h.nd,h.iG,hx,h.mode,h.En,h.pt,h.Iu⟩
theorem DR:IL EZ 46 6:=⟨⟨_,Tryz.underlying46,O⟩,Ef⟩
theorem Yr{n m:Int}(h0:0<=n/\n<=m):0<=sat n m/\sat n m<=m:=by unfold sat;split<;>omega
theorem Eg8(lo hi:Nat)(g:Nat->Y)(gc gq gt gs:Nat)(c:Ey)(ns:Nat)(rs:List Rec)(va gv:Bool)(x0 x1 x2 x3:Int)(w:M)(S:E9 lo hi g gc gq gt gs c ns rs w)(hx:I_ x0/\I_ x1/\I_ x2/\I_ x3)(hn:ns<800000)(hl:rs.length<800000): Eg EZ 72 #[V (D ⟨gs,0,Z⟩),Ea #[Ec va,E I x0,E I x1,E I x2,E I x3,Ec gv]] w fun e w'=>e=Ei (Eu #[])/\(∃c' m new,m<=3/\E9 lo hi g gc gq gt gs c' (ns+m) (rs++new) w'/\ol c c' new)/\EA lo hi w w':=by
 obtain⟨ms,hms,MF⟩:=S.core.XV.fit 46 U U;obtain⟨mb,hmb,Ys⟩:=S.core.XV.fit 47 U U;have MH:1<=(ms:Int)/\(ms:Int)<=1000:=by have h1:=MF.1;have h2:=MF.2.1;unfold Zr at h1;unfold U_ at h2;simp at h1 h2;omega
 have Yt:0<=(mb:Int)/\(mb:Int)<=32767:=by have h2:=Ys.2.1;unfold U_ at h2;simp at h2;omega
 have CSE:=J<|fun(r:Int) (hr:0<=r/\r<=1000) W=>EgW g ms mb hms hmb MH Yt r hr va gv x0 x1 x2 x3 W;have Yu:=J MH;have S0:=J S;have HN:=J hn;have HL:=J hl;have HX:=J hx;have KS:=J<|H.new w #[Ec va,E I x0,E I x1,E I x2,E I x3,Ec gv] 46;have b1:=Er w (Eb #[Ec va,E I x0,E I x1,E I x2,E I x3,Ec gv] 46);have S1:=J<|S0.out.B b1;have MM:=J<|EA.ED (lo:=lo) (hi:=hi) b1;clear S hn hl hx S0 hms hmb MF Ys MH Yt;have c0:(w.alloc (Eb #[Ec va,E I x0,E I x1,E I x2,E I x3,Ec gv] 46)).cell? ⟨w.heap.size,0,Z⟩=D (Ec va):=(H.cell KS.out 0).trans O;go_enter Tryz.func72,Tryz.ntmps72;cases va with
 |false=> have z0:=S1.out.IB;have zm:(w.alloc (Eb #[Ec EI,E I x0,E I x1,E I x2,E I x3,Ec gv] 46)).cell? ⟨gc,97,Z⟩=D (E I c.beyond):=S1.out.core.cell 8 rfl 0 Ej;have zf:=tD S1.out.core 97;go_wp2_with fail;refine ET (UQ O _ _ _) O ?_;have S4:=S1.out.wN 0 (S1.out.core.ok.wN U);exact⟨O,⟨_,0,[],U,by rw[dy];exact S4.1,c.samples,0,c.T,.inl ⟨O,O⟩⟩,MM.out.trans S4.2⟩
 |true=>
  go_wp2_with fail;clear b1;generalize w.alloc (Eb #[Ec EJ,E I x0,E I x1,E I x2,E I x3,Ec gv] 46)=w1 at*;obtain⟨gb,hgb⟩:=Eo w.heap.size;rw[<-hgb] at KS⊢;clear hgb;clear c0;have Yv:=J<|Yr S1.out.core.ok.iG;have sC:=S1.out.core.ok.iG;have y0: ∀y:Ext w1,(EC w1 y).cell? ⟨gs,0,Z⟩=D (V (D ⟨gc,0,Z⟩)):=fun y=>(S1.out.B (EQ y)).IB;have y96: ∀y:Ext w1,(EC w1 y).cell? ⟨gc,96,Z⟩=D (E I c.samples):=fun y=>(S1.out.B (EQ y)).core.cell 7 rfl 0 Ej;refine Oa 14 Ef Ef ?_;simp only[Is,Iq,IT,IM];repeat (go_big_quiet_step (with_reducible refine mW (uz c.samples 4294967295 _ U U)))
  refine I5 ?_;intro _ hw';obtain⟨y9,rfl⟩:=hw';have En:=EQ y9;replace KS:=EH KS En;replace S1:=J<|S1.out.B En;replace MM:=J<|MM.out.trans (EA.ED En);clear y0 y96 En sC;generalize EC w1 y9=w2 at*;have zm:w2.cell? ⟨gc,96,Z⟩=D (E I c.samples):=S1.out.core.cell 7 rfl 0 Ej;have zf:=tD S1.out.core 96;obtain⟨sn,hsn⟩:=Eo (sat c.samples 4294967295);rw[<-hsn] at Yv⊢;clear hsn;have SS:=S1.out.MX sn (S1.out.core.ok.MX Yv.out);obtain⟨d0,d1,d2,hd,xi,-⟩:=S1.out.core.Ek;have tW:Ed (H (w2.setCell ⟨gc,96,Z⟩ (E I sn)) gb #[Ec EJ,E I x0,E I x1,E I x2,E I x3,Ec gv] 46):=J<|(JS (g:=gc) (W:=w2) 96 (E I sn)).Ek KS.out (E6 KS.out xi EU);have S2:Ed (E9 lo hi g gc gq gt gs {c with samples:=sn} ns rs (w2.setCell ⟨gc,96,Z⟩ (E I sn))):=J SS.1;have M2:Ed (EA lo hi w (w2.setCell ⟨gc,96,Z⟩ (E I sn))):=J<|MM.out.trans SS.2;have z0:=S2.out.IB;have U2:(w2.setCell ⟨gc,96,Z⟩ (E I sn)).cell? ⟨gc,95,Z⟩=D (V (D ⟨gt,0,Z⟩)):=S2.out.core.cell 6 rfl 0 Ej;clear SS xi KS S1 MM;go_wp2_with fail;clear zm zf;generalize w2.setCell ⟨gc,96,Z⟩ (E I sn)=w3 at*;refine(EXp gt c.T _ S2.out.core.tab S2.out.core.ok.T).mono ?_;rintro e4 w4 ⟨rfl,kt,ot⟩;have hok:({c.T with ZW:=true,sa:=0,sm:=max c.T.Iu 0}:EK).ok:=⟨S2.out.core.ok.T.s0,S2.out.core.ok.T.s1,S2.out.core.ok.T.s2⟩;have MK:({c.T with ZW:=true,sa:=0,sm:=max c.T.Iu 0}:EK).Xb:=⟨S2.out.core.ok.Iu.Iu,(TM.start S2.out.core.ok.Iu:TM 0 (max c.T.Iu 0)),fun i=>match i with|0=>S2.out.core.ok.Iu.E4 0|1=>S2.out.core.ok.Iu.E4 1|_+2=>S2.out.core.ok.Iu.E4 2⟩;obtain⟨T1,hT1⟩:=Eo ({c.T with ZW:=true,sa:=0,sm:=max c.T.Iu 0}:EK);rw[<-hT1] at kt hok MK;have hS:=S2.out.wW ot T1 kt (S2.out.core.ok.wV hok MK);have KS:=J<|ot.Ek tW.out (E6 tW.out S2.out.core.tab EU);have S1:=J hS.1;have MM:=J<|M2.out.trans hS.2;clear kt ot hok MK hT1 hS z0 U2 tW S2 M2;go_wp2_with fail;obtain⟨d0,d1,d2,hd,KG,o0,o1,o2,-,-⟩:=S1.out.core.Ek;have Xh:=J<|Oo (c:={c with samples:=sn,T:=T1}) (gq:=gq) (gt:=gt) (hd:=hd) (JC g) o0 o1 o2 0 U;have KG:=J KG;have PL:=J<|JC g;have XJ:Ed ((EL 56 g).toList.toArray=EL 56 g):=J Ej;clear o0 o1 o2;have y0: ∀y:Ext w4,(EC w4 y).cell? ⟨gs,0,Z⟩=D (V (D ⟨gc,0,Z⟩)):=fun y=>(S1.out.B (EQ y)).IB;have y97: ∀y:Ext w4,(EC w4 y).cell? ⟨gc,97,Z⟩=D (E I c.beyond):=fun y=>(S1.out.B (EQ y)).core.cell 8 rfl 0 Ej;have ma:=J S1.out.core.ok.jD;refine ZQ Ef Ef ?_
  repeat (first
   |go_big_quiet_skip
   |(go_big_quiet_want
     first
      |(refine Zf (T:=28) (g:=gc) (off:=0) U1 _ rfl rfl KG 0 rfl Xh.out PL.out ?_;(try rw[XJ.out]);go_simp;go_big_quiet_on)
      |(refine UV (T:=46) (g:=gb) DR _ rfl rfl KS ?_ ?_;(·rfl);go_simp;go_big_quiet_on)
      |(go_big_quiet_op
        first
         |go_big_quiet_on
         |go_big_quiet_call (with_reducible refine ao (CSE.out c.beyond ma.out _)))))
  refine I5 ?_;intro _ hw';obtain⟨y9,rfl⟩:=hw';have En:=EQ y9;replace KS:=EH KS En;replace S1:=J<|S1.out.B En;replace MM:=J<|MM.out.trans (EA.ED En);clear y0 y97 En KG Xh PL XJ;generalize EC w4 y9=w5 at*;have HR2:=J<|EgT (mb:=(mb:Int)) Yu.out ma.out EJ x0 x1 x2 x3;obtain⟨rn,hrn⟩:=Eo ((oh (ms:Int) mb c.beyond EJ x0 x1 x2 x3).1);obtain⟨ov,hov⟩:=Eo ((oh (ms:Int) mb c.beyond EJ x0 x1 x2 x3).2);rw[<-hrn] at HR2⊢;rw[<-hov];clear hrn hov CSE Yu ma;have zm:w5.cell? ⟨gc,97,Z⟩=D (E I c.beyond):=S1.out.core.cell 8 rfl 0 Ej;have zf:=tD S1.out.core 97;have z0:=S1.out.IB;have SS:=S1.out.wN rn (S1.out.core.ok.wN HR2.out);obtain⟨d0,d1,d2,hd,xi,-⟩:=S1.out.core.Ek;have tW:Ed (H (w5.setCell ⟨gc,97,Z⟩ (E I rn)) gb #[Ec EJ,E I x0,E I x1,E I x2,E I x3,Ec gv] 46):=J<|(JS (g:=gc) (W:=w5) 97 (E I rn)).Ek KS.out (E6 KS.out xi EU);have S2:Ed (E9 lo hi g gc gq gt gs {c with samples:=sn,T:=T1,beyond:=rn} ns rs (w5.setCell ⟨gc,97,Z⟩ (E I rn))):=J SS.1;have M2:Ed (EA lo hi w (w5.setCell ⟨gc,97,Z⟩ (E I rn))):=J<|MM.out.trans SS.2;obtain⟨hh,jY⟩:=Eo c.tok.h;have y0:=S2.out.IB;have DP:(w5.setCell ⟨gc,97,Z⟩ (E I rn)).cell? ⟨gc,56,Z⟩=D (E I hh):=by rw[jY];exact S2.out.core.cell 1 rfl 0 XW
  have y5:(w5.setCell ⟨gc,97,Z⟩ (E I rn)).cell? ⟨gb,5,Z⟩=D (Ec gv):=(H.cell tW.out 5).trans O;clear SS xi KS S1 MM jY;by_cases h0:hh=0
  ·have t0:(hh==0)=EJ:=rX;clear h0;cases gv with
   |true=> go_wp2_with fail;generalize w5.setCell ⟨gc,97,Z⟩ (E I rn)=w6 at*;have MM:=M2;refine(Eg2 lo hi g gc gq gt gs _ ns rs _ S2.out HN.out HL.out).mono ?_;rintro e9 w9 ⟨rfl,⟨c',m,new,h1,s9,h9⟩,m9⟩;have S8:=J s9;replace MM:=J<|MM.out.trans m9;clear s9 m9;go_wp2;go_end0;exact⟨O,⟨c',m,new,h1,S8.out,_,_,_,.inr h9⟩,MM.out⟩
   |false=> go_wp2_with (with_reducible refine wL DR tW ?_);generalize w5.setCell ⟨gc,97,Z⟩ (E I rn)=w6 at*;have MM:=M2;refine(Eg6 lo hi g gc gq gt gs _ ns rs EJ EI x0 x1 x2 x3 _ S2.out HX.out HN.out HL.out).mono ?_;rintro e9 w9 ⟨rfl,⟨c',m,new,h1,s9,h9⟩,m9⟩;have S8:=J s9;replace MM:=J<|MM.out.trans m9;clear s9 m9;go_wp2;go_end0;exact⟨O,⟨c',m,new,h1,S8.out,_,_,_,.inr h9⟩,MM.out⟩
  ·have t0:(hh==0)=EI:=rX;clear h0;cases ov with
   |true=> go_wp2_with fail;generalize w5.setCell ⟨gc,97,Z⟩ (E I rn)=w6 at*;have MM:=M2;refine(Eg3 lo hi g gc gq gt gs _ ns rs _ S2.out HN.out HL.out).mono ?_;rintro e9 w9 ⟨rfl,⟨c',m,new,h1,s9,h9⟩,m9⟩;have S8:=J s9;replace MM:=J<|MM.out.trans m9;clear s9 m9;go_wp2;go_end0;exact⟨O,⟨c',m,new,h1,S8.out,_,_,_,.inr h9⟩,MM.out⟩
   |false=> go_wp2;go_end0;exact⟨O,⟨_,0,[],U,by rw[dy];exact S2.out,_,_,_,.inl ⟨O,O⟩⟩,M2.out⟩
theorem ML:(⟨2,4,0⟩:Xz).ok:=⟨oO,oO,oO⟩
theorem Eg_:(⟨3,4,0⟩:Xz).ok:=⟨oO,oO,oO⟩
theorem MN(a b:Int):Tryz.prog.built 36 [(0,E I a),(1,E I b)]=D #[E I a,E I b,E I 0]:=Ef
def xj(c c':Ey)(new:List Rec):Prop:=
 (∃L' a m,(c.tok.nY a m).ok/\c'={c with tok:=c.tok.nY a m,q:=L'}/\new=[])
 \/(∃L' t2 how md b,t2.ok/\t2.o= -1/\c.tok.e<=t2.e/\0<=md/\md<=4/\(b=⟨2,4,0⟩\/b=⟨3,4,0⟩)/\c'={c with tok:=t2,q:=L',mode:=md,En:=b,pt:=c.pt.hold b}/\new=[⟨8,t2.h,0,t2.e,0,how⟩])
theorem Yw(h:t.ok):t.cJ.ok/\t.cJ.o= -1/\t.e<=t.cJ.e:=by
 have he:=h.e;unfold EN.cJ;refine⟨Mb h ⟨EU,EU⟩ ?_,O,?_⟩
 ·split;·exact Yr he
  ·exact he
 ·show t.e<=(if t.h≠4 then sat t.e 65535 else t.e);split;·unfold sat;split<;>omega
  ·exact Zz _
theorem EhE{how:Int}(ht:t.ok)(h:qC t t2 how):(how=0/\ ∃a m,t2=t.nY a m/\(t.nY a m).ok)\/((how=6\/how=5)/\t2.ok/\t2.o= -1/\t.e<=t2.e):=by
 rcases h with⟨rfl,a,m,h1,h2,h3,h4,rfl⟩|⟨rfl,-,-,rfl⟩|⟨rfl,-,h3,s,h4,h5,-,rfl⟩;·exact .inl ⟨O,a,m,O,⟨ht.h,ht.e,ht.o,ht.oa,ht.om,⟨h1,h2⟩,⟨h3,h4⟩,ht.off⟩⟩
 ·exact .inr ⟨.inl O,Yw ht⟩
 ·exact .inr ⟨.inr O,Mb ht ⟨h4,U⟩ ⟨by have:=ht.e;omega,U⟩,O,by show t.e<=t.e+1;omega⟩
theorem xk(w:M):Eg EZ 44 #[] w fun e w'=>e=Ei (Ea #[E I 2,E I 4,E I 0])/\El w w':=by have BL:=J<|MN 2 4;have K0:=J<|H.new w #[E I 0,E I 0,E I 0] 36;have b2:=Er w (Eb #[E I 0,E I 0,E I 0] 36);go_enter Tryz.func44,Tryz.ntmps44;go_wp2_with (first|((with_reducible refine Io 1 ?_);refine I4 rfl 36 _ rfl #[E I 2,E I 4,E I 0] BL.out ?_)|(with_reducible refine wA MD ?_)|(with_reducible refine wS (cs:= #[E I 2,E I 4,E I 0]) fR K0 ?_ (h1:=U9)));refine ET (Jd fR O _ _ w.heap.size _ O (K0.out.setRow #[E I 2,E I 4,E I 0]) O) O ⟨O,EY (g:=w.heap.size) b2 (E3 _) _⟩
theorem Yx(lo hi:Nat)(g:Nat->Y)(gc gq gt gs:Nat)(c:Ey)(ns:Nat)(rs:List Rec)(w:M)(S:E9 lo hi g gc gq gt gs c ns rs w)(hn:ns<800000)(hl:rs.length<800000): Eg EZ 106 #[V (D ⟨gs,0,Z⟩)] w fun e w'=>e=Ei (Eu #[])/\(∃c' m new,m<=3/\E9 lo hi g gc gq gt gs c' (ns+m) (rs++new) w'/\xj c c' new)/\EA lo hi w w':=by
 obtain⟨pl,hpl,ww⟩:=S.core.XV.fit 43 U U;have Yy:0<=(pl:Int)/\(pl:Int)<=1000:=by have h2:=ww.2.1;unfold U_ at h2;simp at h2;omega
 obtain⟨th,hth⟩:=Eo (c.T.XN c.tok.h);have ZL:=fun W q=>Efg lo gq c.q (pn g 48) g pl hpl Yy c.tok S.core.ok.tok th W S.core.lq q S.core.ok.q;obtain⟨md,hmd,DT⟩:=S.core.XV.fit 40 U U;have xm:Ed (0<=(md:Int)/\(md:Int)<=4):=J Yz;have tT:Ed (∀c ns rs W,E9 lo hi g gc gq gt gs c ns rs W->W.cell? ⟨gc,40,Z⟩=D (E I (md:Int))):=J (fun c ns rs W s=>by have h:W.cell? ⟨gc,40,Z⟩=(EL 56 g).toList[40]?:=s.core.cell 0 rfl 40 Ej;rw[h,show(EL 56 g).toList[40]?=D (g 40) from kW,hmd]);clear hmd DT;obtain⟨ml,hml,YA⟩:=S.core.XV.fit 41 U U;have MP:Ed (0<=(ml:Int)/\(ml:Int)<=4):=J (by have h2:=YA.2.1;unfold U_ at h2;simp at h2;omega);have dM:Ed (∀c ns rs W,E9 lo hi g gc gq gt gs c ns rs W->W.cell? ⟨gc,41,Z⟩=D (E I (ml:Int))):=J (fun c ns rs W s=>by have h:W.cell? ⟨gc,41,Z⟩=(EL 56 g).toList[41]?:=s.core.cell 0 rfl 41 Ej;rw[h,show(EL 56 g).toList[41]?=D (g 41) from kW,hml]);clear hml YA;obtain⟨Ip,Uq,Xf,ZE⟩: ∃Ip,c.tok.a=Ea Ip/\Ed (Ip.size=8)/\Ed (c.tok.v.toArray=Ip):=⟨_,O,J O,J O⟩;obtain⟨pv,hpv,w_,Mi⟩: ∃pv,EL 56 g=pv/\Ed (pv.size=56)/\Ed ((EL 56 g).toList.toArray=pv):=⟨_,O,J kW,J Ej⟩;have tY:=xm;have S1:=J S;have HN:=J hn;have HL:=J hl;have MM:=J<|EA.refl lo hi w;have HTH:=J hth;clear S hn hl hpl ww Yy hth xm;have CA:Ed (∀W,Jr W lo gq c.q (pn g 48)->Eg EZ 151 #[Ea pv,Ea Ip,V (D ⟨gq,0,Z⟩),Ec th] W _):=J (fun W q=>Ws);obtain⟨PQ,hPQ⟩: ∃PQ:Array Y->Int->Prop,PQ=fun rv how=> ∃t2:EN,t2.a=Ea rv/\rv.size=8/\rv.all (·.oneCell')=EJ/\qC c.tok t2 how:=⟨_,O⟩;have qM:Ed (∀(t2:EN) (rv:Array Y) (how:Int),t2.a=Ea rv->rv.size=8->rv.all (·.oneCell')=EJ->qC c.tok t2 how->PQ rv how):=J (fun t2 rv how h1 h2 h3 h4=>Dq);have qN:Ed (∀rv how,PQ rv how->rv.size=8/\rv.all (·.oneCell')=EJ):=J (fun rv how h=>Ds);replace hPQ:=J hPQ;clear ZL Uq hpv;go_enter Tryz.func106,Tryz.ntmps106;go_wp2_with fail;have y0: ∀y:Ext w,(EC w y).cell? ⟨gs,0,Z⟩=D (V (D ⟨gc,0,Z⟩)):=fun y=>(S1.out.B (EQ y)).IB;have y95: ∀y:Ext w,(EC w y).cell? ⟨gc,95,Z⟩=D (V (D ⟨gt,0,Z⟩)):=fun y=>(S1.out.B (EQ y)).core.cell 6 rfl 0 Ej;have DP: ∀y:Ext w,(EC w y).cell? ⟨gc,56,Z⟩=D (E I c.tok.h):=fun y=>(S1.out.B (EQ y)).core.cell 1 rfl 0 XW;have TB:=J S1.out.core.tab;have DC:=J S1.out.core.ok.T;refine ZQ Ef Ef ?_;repeat (go_big_quiet_step (with_reducible refine mW (ny gt c.T c.tok.h _ (TB.out.B (EQ _)) DC.out)))
 refine I5 ?_;intro _ hw';obtain⟨y9,rfl⟩:=hw';have En:=EQ y9;replace S1:=J<|S1.out.B En;replace MM:=J<|MM.out.trans (EA.ED En);clear y0 y95 DP En TB DC;generalize EC w y9=w1 at*;rw[<-HTH.out];obtain⟨n0,hn0⟩:=Eo w1.heap.size;have Xt:=J (show lo<=n0/\hi<=n0/\w.heap.size<=n0 from oI);go_wp2_with fail;refine iS (Ph:=fun p wq=>n0<=wq.heap.size/\(match p with|0=>(E9 lo hi g gc gq gt gs c ns rs wq/\EA lo hi w wq)|_=>(∃L':List One,E9 lo hi g gc gq gt gs {c with q:=L'} ns rs wq/\EA lo hi w wq))) (Rel:=J0) (Iw:=lQ) [kp gs 0,kp gs 0,kp gs 0,kp gc 0,kp gc 0,kp gc 0,kq (Ea pv),kp gs 0,kp gs 0,kp gs 0,kp gc 0,kp gc 0,kp gc 56,kq (Ea Ip),kp gs 0,kp gs 0,kp gs 0,kp gc 0,kp gc 0,kp gc 64,kp gq 0,kq (Ec th),.val (fun v=> ∃(rv:Array Y) (how:Int),PQ rv how/\v=Eu #[Ea rv,E I how]),.val (fun v=> ∃(rv:Array Y) (how:Int),PQ rv how/\v=Eu #[Ea rv,E I how]),.bM [23,24] (fun x=> ∃(rv:Array Y) (how:Int),PQ rv how/\x 23=Eu #[Ea rv,E I how]/\x 24=Ea rv) (fun x y hq h=>by simpa only[hq 23 Ej,hq 24 Ej] using h),.bM [23,25] (fun x=> ∃(rv:Array Y) (how:Int),PQ rv how/\x 23=Eu #[Ea rv,E I how]/\x 25=E I how) (fun x y hq h=>by simpa only[hq 23 Ej,hq 25 Ej] using h),.dep (ah n0) (fun v w w' h hr=>h.B hr) (fun v w w' h hr=>h.iT hr),.tie [26,24] (fun x w=> ∃(b:Nat) (rv:Array Y),x 26=V (D ⟨b,0,Z⟩)/\x 24=Ea rv/\n0<=b/\H w b rv 109) (fun x w w' h hr=>Dt) (fun x y w hq h=>by rw[hq 26 Ej,hq 24 Ej] at h;exact h),.bM [25,28] (fun x=>x 28=x 25) (fun x y hq h=>by simpa only[hq 25 Ej,hq 28 Ej] using h)] [EI,EI,EI,EI,EI,EI,EI,EI,EI,EI,EI,EI,EI,EI,EI,EI,EI,EI,EI,EI,EI,EI,EI,EI,EI,EI,EI,EJ,EI] O [[],[],[],[],[],[],[],[],[],[],[],[],[],[],[],[],[],[],[],[],[],[],[],[],[23,24],[23,25],[],[26,24],[25,28]] O [22,27] [(0,0),(0,0),(0,0),(0,0),(0,0),(0,0),(0,0),(0,0),(0,0),(0,0),(0,0),(0,0),(0,0),(0,0),(0,0),(0,0),(0,0),(0,0),(0,0),(0,0),(0,0),(0,0),(0,0),(1,1),(1,1),(1,2),(0,1),(1,1),(2,2)] Ef Ef Ef Ef Ef Ef UP Ef ?hPh ?h0 ?hstep ?hend
 case hPh=>
  intro p w2 w3 h hr;match p,h with
  |0,h=>exact⟨Ew h.1 (XE hr),h.2.1.B hr,h.2.2.trans (EA.ED hr)⟩
  |_+1,h=> obtain⟨nn,L',s,m⟩:=h;exact⟨Ew nn (XE hr),L',s.B hr,m.trans (EA.ED hr)⟩
 case h0=> exact Eqi
 case hstep=>
  refine⟨?_,?_,?_,?_,?_,?_,?_,?_,?_,?_,?_,?_,?_,?_,?_,?_,?_,?_,?_,?_,?_,?_,?_,?_,?_,?_,?_,?_,?_,trivial⟩;all_goals first|intro xv wq p hlo hhi hp hd|intro xv wq hp hd
  all_goals simp only[EM,Ih,Ik,Ic,If]
  ·exact Enx
  ·exact EnP
  ·exact EnN
  ·exact Enz
  ·exact EnM
  ·exact En6
  ·exact EoG
  ·exact Enx
  ·exact Eod
  ·exact Eoc
  ·exact En7
  ·exact EoX
  ·exact EoU
  ·exact Eor
  ·exact Enx
  ·exact Eqd
  ·exact Eqc
  ·exact Eo7
  ·exact Eo3
  ·exact Eqb
  ·exact EoQ
  ·exact Enx
  ·have d6:xv 6=Ea pv:=hd.at 6 rfl;have d13:xv 13=Ea Ip:=hd.at 13 rfl;have d20:xv 20=V (D ⟨gq,0,Z⟩):=hd.at 20 rfl;have d21:xv 21=Ec th:=hd.at 21 rfl;refine JL (f:=151) (args:= #[xv 6,xv 13,xv 20,xv 21]) (Eh O) Ez ?_;rw[d6,d13,d20,d21];refine(CA.out wq hp.2.1.core.ZC).mono fun e w2 h=> ?_;obtain⟨⟨t2,how,L2,he,hf,sq,q2⟩,m2⟩:=h;obtain⟨rv,IH,hs,ho⟩:=ZH t2;exact⟨_,he,⟨m2.iT,Ew hp.1 m2.bel.size,L2,hp.2.1.gV m2 L2 q2 (hp.2.1.core.ok.sub sq),hp.2.2.trans (m2.jL hi)⟩,rv,how,qM.out t2 rv how IH hs ho hf,congrArg (fun v=>Value.tuple #[v,E I how]) IH⟩
  ·obtain rfl:p=1:=U;obtain⟨rv,how,hpq,e22⟩: ∃(rv:Array Y) (how:Int),PQ rv how/\xv 22=Eu #[Ea rv,E I how]:=hd.at 22 rfl;exact Et (by simp[go_sem,e22]) ⟨rv,how,hpq,O⟩
  ·obtain rfl:p=1:=U;exact EoW
  ·exact EoW
  ·exact Eon
  ·obtain⟨b,d0,eA,lb,h8,kb⟩:ah n0 (xv 26) wq:=hd.at 26 rfl;have nh:=Xt.out;obtain⟨rv,how,hpq,-,e24⟩: ∃(rv:Array Y) (how:Int),PQ rv how/\xv 23=Eu #[Ea rv,E I how]/\xv 24=Ea rv:=hd.at 24 rfl;have hsz:=qN.out _ _ hpq;obtain⟨nn,L',s,m⟩:=hp;refine cX EW (Eh O) ⟨O,eA,e24⟩ kb h8 hsz.1 hsz.2 ⟨tG kb hsz.1,?_⟩ ⟨b,rv,eA,e24,lb,kb.setRow _⟩;exact EqY
  ·obtain rfl:p=2:=U;obtain⟨rv,how,hpq,-,e25⟩: ∃(rv:Array Y) (how:Int),PQ rv how/\xv 23=Eu #[Ea rv,E I how]/\xv 25=E I how:=hd.at 25 rfl;exact Et Dy (e25.symm)
 case hend=>
  intro xv W6 hp hd;clear S1 MM;simp only[EM,Ih,Ik,Ic,If];obtain⟨rv,how,hpq,eM,e24⟩: ∃(rv:Array Y) (how:Int),PQ rv how/\xv 23=Eu #[Ea rv,E I how]/\xv 24=Ea rv:=hd 24 EU;obtain⟨b,iV,eA,eE,lb,kb⟩: ∃(b:Nat) (rv:Array Y),xv 26=V (D ⟨b,0,Z⟩)/\xv 24=Ea rv/\n0<=b/\H W6 b rv 109:=hd 27 EU;have qP:iV=rv:=by rw[eE] at e24;injection e24
  subst qP;have a28:xv 28=E I how:=by have h1:xv 28=xv 25:=hd 28 EU;obtain⟨Dw,Emz,-,f1,f2⟩: ∃(rv:Array Y) (how:Int),PQ rv how/\xv 23=Eu #[Ea rv,E I how]/\xv 25=E I how:=hd 25 EU;exact Eo9
  obtain⟨-,L',s6,m6⟩:=hp;have S1:=J s6;have MM:=J m6;have KB:=J kb;rw[eA,a28];rw[hPQ.out] at hpq;obtain⟨t2,IH,hs,ho,hf⟩:=hpq;have Up:=J IH;have RS:=J hs;have RO:=J ho;have ag:Ed (iV.toList=t2.v):=J MQ;have hcs:=EhE S1.out.core.ok.tok hf;clear s6 m6 kb hd eA a28 CA IH hs ho hf eM eE;rcases hcs with⟨rfl,a,m,ht2,hok2⟩|⟨EhJ,hok2⟩
  ·have HT2:=J ht2;have EhO:Ed t2.ok:=J (by rw[ht2];exact hok2);have EhU:=J hok2;clear ht2 hok2;go_wp2_with fail;have y0: ∀y:Ext W6,(EC W6 y).cell? ⟨gs,0,Z⟩=D (V (D ⟨gc,0,Z⟩)):=fun y=>(S1.out.B (EQ y)).IB;refine Oa 7 Ef Ef ?_;simp only[Is,Iq,IT,IM]
   repeat (first
    |go_big_quiet_skip
    |(go_big_quiet_want
      first
       |(refine UV (T:=109) (g:=b) EW _ rfl rfl KB ?_ ?_;(·exact RS.out);go_simp;go_big_quiet_on)
       |(go_big_quiet_op
         first
          |go_big_quiet_on
          |go_big_quiet_call (fail))))
   refine I5 ?_;intro _ hw';obtain⟨y9,rfl⟩:=hw';have En:=EQ y9;replace KB:=EH KB En;replace S1:=J<|S1.out.B En;replace MM:=J<|MM.out.trans (EA.ED En);clear y0 En;generalize EC W6 y9=w9 at*;have TH:=J<|db S1.out.core 1 rfl 8 XW;go_wp2_with ((with_reducible refine I3 109 ?_);(with_reducible refine Ux O 109 _ _ O gc 56 iV ?_ ?_ ?_ ?_ ?_ ?_);(·rfl);(·rfl);(·rw[RS.out];exact TH.out);(·rw[RS.out];exact EW.2);(·exact RO.out);refine Ex.mk ?_);apply Es;rw[ag.out];have S4:=S1.out.aN t2 (S1.out.core.ok.aN EhO.out);obtain⟨d0,d1,d2,hd,KG,-⟩:=S1.out.core.Ek;replace KB:=J<|(JP (g:=gc) t2.v 56 w9).Ek KB.out (E6 KB.out KG EU);replace S1:=J S4.1;replace MM:=J<|MM.out.trans S4.2;clear S4 TH KG;generalize w9.setCells gc 56 t2.v=U8 at*;go_wp2_with fail;refine ET (UQ O _ _ _) O ?_;refine⟨O,⟨_,0,U,[],t_,.inl ⟨L',a,m,EhU.out,?_,O⟩⟩,MM.out⟩;rw[HT2.out]
  ·have HT2:=J hok2;clear hok2;rcases EhJ with rfl|rfl
   ·go_wp2_with (with_reducible refine wL EW KB ?_ (hn:=RS.out));rw[<-Up.out];refine(n_ lo hi g gc gq gt gs _ ns rs t2 6 0 _ S1.out HT2.out.1 J_ JQ).mono ?_;rintro e7 w7 ⟨rfl,⟨L2,m7,XR,sq,s7⟩,Xg⟩;replace S1:=J s7;replace MM:=J<|MM.out.trans Xg;have oJ:=J XR;clear s7 Xg sq XR KB;go_wp2_with fail;have y0: ∀y:Ext w7,(EC w7 y).cell? ⟨gs,0,Z⟩=D (V (D ⟨gc,0,Z⟩)):=fun y=>(S1.out.B (EQ y)).IB;have xn: ∀y:Ext w7,(EC w7 y).cell? ⟨gc,40,Z⟩=D (E I (md:Int)):=fun y=>tT.out _ _ _ _ (S1.out.B (EQ y));refine Oa 10 Ef Ef ?_;simp only[Is,Iq,IT,IM];repeat (go_big_quiet_step (with_reducible refine ao (xk _)))
    refine I5 ?_;intro _ hw';obtain⟨y9,rfl⟩:=hw';have En:=EQ y9;replace S1:=J<|S1.out.B En;replace MM:=J<|MM.out.trans (EA.ED En);clear y0 xn En;generalize EC w7 y9=aQ at*;go_wp2_with fail;refine(Dn lo hi g gc gq gt gs _ _ _ md ⟨2,4,0⟩ _ S1.out tY.out ML).mono ?_;rintro e21 dW ⟨rfl,i8,m21⟩;have S8:=J i8;replace MM:=J<|MM.out.trans m21;clear i8 m21;go_wp2;go_end0;exact⟨O,⟨_,m7,_,qL,S8.out,.inr ⟨L2,t2,6,md,_,HT2.out.1,HT2.out.2.1,HT2.out.2.2,tY.out.1,tY.out.2,.inl O,O,O⟩⟩,MM.out⟩
   ·go_wp2_with (with_reducible refine wL EW KB ?_ (hn:=RS.out));rw[<-Up.out];refine(n_ lo hi g gc gq gt gs _ ns rs t2 5 0 _ S1.out HT2.out.1 J_ JQ).mono ?_;rintro e7 w7 ⟨rfl,⟨L2,m7,XR,sq,s7⟩,Xg⟩;replace S1:=J s7;replace MM:=J<|MM.out.trans Xg;have oJ:=J XR;clear s7 Xg sq XR KB;have z0:=S1.out.IB;have z41:=dM.out _ _ _ _ S1.out;have BL:=J<|MN 3 4;go_wp2_with ((with_reducible refine Io 71 ?_);refine I4 O 36 _ O #[E I 3,E I 4,E I 0] BL.out ?_);refine(Dn lo hi g gc gq gt gs _ _ _ ml ⟨3,4,0⟩ _ S1.out MP.out Eg_).mono ?_;rintro e21 dW ⟨rfl,i8,m21⟩;have S8:=J i8;replace MM:=J<|MM.out.trans m21;clear i8 m21;go_wp2;go_end0;exact⟨O,⟨_,m7,_,qL,S8.out,.inr ⟨L2,t2,5,ml,_,HT2.out.1,HT2.out.2.1,HT2.out.2.2,MP.out.1,MP.out.2,.inr O,O,O⟩⟩,MM.out⟩
def EN.v7(t:EN):List Y:=[E I t.h,E I t.e,E I t.o,E I t.oa,E I t.om,E I t.la,E I t.lm]
theorem E9.EhX{hi:Nat}{ns:Nat}{rs:List Rec}(S:E9 lo hi g gc gq gt gs c ns rs W)(b:Bool):E9 lo hi g gc gq gt gs {c with tok:={c.tok with bad:=b}} ns rs (W.setCell ⟨gc,63,Z⟩ (Ec b))/\EA lo hi W (W.setCell ⟨gc,63,Z⟩ (Ec b)):=
 S.set (JS _ _) O O (S.core.ok.aN ⟨S.core.ok.tok.h,S.core.ok.tok.e,S.core.ok.tok.o,S.core.ok.tok.oa,S.core.ok.tok.om,S.core.ok.tok.la,S.core.ok.tok.lm,S.core.ok.tok.off⟩) fun d0 d1 d2 hd K o0 o1 o2=>by
  have hl: ∀x:Bool,(aG (EL 56 g).toList {c with tok:={c.tok with bad:=x}} gq gt d0 d1 d2 hd).flatten=((EL 56 g).toList++c.tok.v7)++([Ec x]++(aG (EL 56 g).toList c gq gt d0 d1 d2 hd).tail.tail.flatten):=fun x=>by simp[aG,EN.v,EN.v7]
  have K2:H W gc (((EL 56 g).toList++c.tok.v7)++([Ec c.tok.bad]++(aG (EL 56 g).toList c gq gt d0 d1 d2 hd).tail.tail.flatten)).toArray 120:=by rw[<-hl];exact K
  have K3:=Zm (post:=(aG (EL 56 g).toList c gq gt d0 d1 d2 hd).tail.tail.flatten) [Ec b] [Ec c.tok.bad] ((EL 56 g).toList++c.tok.v7) 63 W K2 O (by rw[IY,JC];rfl);rw[<-hl] at K3;exact K3
theorem xo{c i:Nat}{L:List One}{x:One}(h:w.ownsRow base 133 4 (G A n c) n (UY L))(hx:L[i]?=D x)(hn:L.length=n): ∃(g:Nat) (cur:Array Y),A=D ⟨g,0,Z⟩/\H w g cur 133/\cur.extract (i*4) (i*4+4)= #[E I x.s,E I x.r,E I x.a,E I x.m]:=by
 have hi:=(Xx.1 hx).1;obtain⟨h1,⟨-,h2⟩|⟨g,cap,cur,hv,hg,hh,hnc,hcm,hcs,ht⟩⟩:=h;·omega
 ·injection hv with e1;refine⟨g,cur,e1,hh,?_⟩;have hs:cur.toList.take (n*4)=UY L:=ht
  have hsp:UY L=UY (L.take i)++([E I x.s,E I x.r,E I x.a,E I x.m]++UY (L.drop (i+1))):=by
   conv=>lhs;rw[<-iU i L,nO hi]
   have ex:L[i]=x:=(Xx.1 hx).2;simp[UY,ex]
  have EhZ:cur.toList=UY (L.take i)++([E I x.s,E I x.r,E I x.a,E I x.m]++(UY (L.drop (i+1))++cur.toList.drop (n*4))):=by
   conv=>lhs;rw[<-iU (n*4) cur.toList,hs,hsp]
   simp
  have e:=Kz (UY (L.take i)) [E I x.s,E I x.r,E I x.a,E I x.m] (UY (L.drop (i+1))++cur.toList.drop (n*4)) (i*4) 4 (by rw[Ed_,ar];omega) O;rw[<-EhZ] at e;simpa using e
theorem j4:IL EZ 133 4:=⟨⟨_,Tryz.underlying133,O⟩,Ef⟩
theorem xp:Od EZ 133 #[E I 0,E I 0,E I 0,E I 0]:=by exact En5
def oo(b:Bool)(c c':Ey)(new:List Rec):Prop:=
 (b=EI/\c'={c with tok:={c.tok with bad:=false}}/\new=[])
 \/(b=EJ/\ ∃L' t2 md,t2.ok/\t2.o= -1/\c.tok.e<=t2.e/\c'={c with tok:=t2,q:=L',mode:=md,En:=⟨2,4,0⟩,pt:=c.pt.hold ⟨2,4,0⟩}/\((new=[]/\c.tok.h=4)\/new=[⟨8,t2.h,0,t2.e,0,6⟩]))
theorem xj.len(h:xj c c' new):new.length<=1:=by rcases h with⟨_,_,_,_,_,rfl⟩|⟨_,_,_,_,_,_,_,_,_,_,_,_,rfl⟩<;>simp
theorem Eha(lo hi:Nat)(g:Nat->Y)(gc gq gt gs:Nat)(c:Ey)(ns:Nat)(rs:List Rec)(bad:Bool)(w:M)(S:E9 lo hi g gc gq gt gs c ns rs w)(hn:ns<800000)(hl:rs.length<800000): Eg EZ 73 #[V (D ⟨gs,0,Z⟩),Ec bad] w fun e w'=>e=Ei (Eu #[])/\(∃c' m new,m<=9/\E9 lo hi g gc gq gt gs c' (ns+m) (rs++new) w'/\oo bad c c' new)/\EA lo hi w w':=by
 obtain⟨md,hmd,DT⟩:=S.core.XV.fit 40 U U;have xm:Ed (0<=(md:Int)/\(md:Int)<=4):=J Yz;have tT:Ed (∀c ns rs W,E9 lo hi g gc gq gt gs c ns rs W->W.cell? ⟨gc,40,Z⟩=D (E I (md:Int))):=J (fun c ns rs W s=>by have h:W.cell? ⟨gc,40,Z⟩=(EL 56 g).toList[40]?:=s.core.cell 0 rfl 40 Ej;rw[h,show(EL 56 g).toList[40]?=D (g 40) from kW,hmd]);clear hmd DT;have tY:=xm;have S1:=J S;have HN:=J hn;have HL:=J hl;have z0:=S1.out.IB;have z63:w.cell? ⟨gc,63,Z⟩=D (Ec c.tok.bad):=S1.out.core.cell 1 rfl 7 XW;have zf:=tD S1.out.core 63;have SB:=S1.out.EhX bad;replace S1:Ed (E9 lo hi g gc gq gt gs {c with tok:={c.tok with bad:=bad}} ns rs (w.setCell ⟨gc,63,Z⟩ (Ec bad))):=J SB.1;have MM:Ed (EA lo hi w (w.setCell ⟨gc,63,Z⟩ (Ec bad))):=J SB.2;have zz0:=S1.out.IB;have Ehc:(w.setCell ⟨gc,63,Z⟩ (Ec bad)).cell? ⟨gc,56,Z⟩=D (E I c.tok.h):=S1.out.core.cell 1 rfl 0 XW;obtain⟨tk,htk⟩:=Eo ({c.tok with bad:=bad}:EN);have HE:Ed (tk.e=c.tok.e/\tk.h=c.tok.h):=J (by rw[htk];exact⟨O,O⟩);rw[<-htk] at S1;have gL:=J htk;have CZ:=J<|fun W=>uT tk W (by have h:0<=tk.e/\tk.e<=65535:=S1.out.core.ok.tok.e;omega);obtain⟨Ip,Uq,Xf,ZE⟩: ∃Ip,tk.a=Ea Ip/\Ed (Ip.size=8)/\Ed (tk.v.toArray=Ip):=⟨_,O,J O,J O⟩;obtain⟨t2,ht2⟩:=Eo tk.cJ;have HT2:Ed (t2.ok/\t2.o= -1/\tk.e<=t2.e):=J (by rw[ht2];exact Yw S1.out.core.ok.tok);rw[<-ht2,Uq] at CZ;obtain⟨rv,IH,RS,RO⟩:=ZH t2;rw[IH] at CZ;have ag:Ed (rv.toList=t2.v):=J MQ;have RS:=J RS;have RO:=J RO;have Up:=J IH;obtain⟨big,mc,O8⟩:=bK S1.out.core;have mc:=J mc;have dR:Ed (big.extract 56 (56+8)=Ip):=J<|(O8 1 tk.v O).trans ZE.out;clear S hn hl xm SB htk Uq ht2 IH O8;go_enter Tryz.func73,Tryz.ntmps73;cases bad with
 |false=> go_wp2_with fail;refine ET (UQ O _ _ _) O ?_;rw[gL.out] at S1;first|exact⟨rfl,⟨_,0,[],U,t_,.inl ⟨rfl,rfl,rfl⟩⟩,MM.out⟩|exact⟨rfl,⟨_,0,U,[],t_,.inl ⟨rfl,rfl,rfl⟩⟩,MM.out⟩
 |true=>
  go_wp2_with (with_reducible refine wM (off:=56) (cs:=Ip) EW mc ?_ (hn:=Xf.out) (he:=dR.out));clear z0 z63 zf zz0 Ehc mc dR;generalize w.setCell ⟨gc,63,Z⟩ (Ec EJ)=w5 at*;refine(CZ.out _).mono ?_;rintro e6 w6 ⟨rfl,b6⟩;replace S1:=J<|S1.out.B b6;replace MM:=J<|MM.out.trans (EA.ED b6);clear b6 CZ;have K0:=J<|H.new w6 #[E I 0,E I 0,E I 0,E I 0,E I 0,E I 0,E I 0,Ec EI] 109;have b2:=Er w6 (Eb #[E I 0,E I 0,E I 0,E I 0,E I 0,E I 0,E I 0,Ec EI] 109);go_wp2_with (with_reducible first|refine wA lR ?_|refine wS (cs:=rv) EW K0 (Ex.mk ?_) (hn:=RS.out) (h1:=RO.out));apply Es;obtain⟨b,hgm⟩:=Eo w6.heap.size;rw[<-hgm] at K0⊢;generalize w6.alloc (Eb #[E I 0,E I 0,E I 0,E I 0,E I 0,E I 0,E I 0,Ec EI] 109)=w7 at*;have KB:=J<|K0.out.setRow rv;have b3:=EY (g:=b) b2 (OC hgm.symm) rv;generalize w7.setRow b rv=w8 at*;clear K0 b2 hgm;replace S1:=J<|S1.out.B b3;replace MM:=J<|MM.out.trans (EA.ED b3);clear b3;have z0:=S1.out.IB;have z56:w8.cell? ⟨gc,56,Z⟩=D (E I tk.h):=S1.out.core.cell 1 rfl 0 XW;obtain⟨hh,jY⟩:=Eo tk.h;rw[<-jY] at z56;have MR:=J jY;clear jY;by_cases h4:hh=4
  ·have H4:=J h4;have t4:(hh !=4)=EI:=ij;clear h4;go_wp2_with fail;clear z0 z56;have y0: ∀y:Ext w8,(EC w8 y).cell? ⟨gs,0,Z⟩=D (V (D ⟨gc,0,Z⟩)):=fun y=>(S1.out.B (EQ y)).IB;refine Oa 7 Ef Ef ?_;simp only[Is,Iq,IT,IM]
   repeat (first
    |go_big_quiet_skip
    |(go_big_quiet_want
      first
       |(refine UV (T:=109) (g:=b) EW _ rfl rfl KB ?_ ?_;(·exact RS.out);go_simp;go_big_quiet_on)
       |(go_big_quiet_op
         first
          |go_big_quiet_on
          |go_big_quiet_call (fail))))
   refine I5 ?_;intro _ hw';obtain⟨y9,rfl⟩:=hw';have En:=EQ y9;replace KB:=EH KB En;replace S1:=J<|S1.out.B En;replace MM:=J<|MM.out.trans (EA.ED En);clear y0 En;generalize EC w8 y9=w9 at*;have TH:=J<|db S1.out.core 1 rfl 8 XW;go_wp2_with ((with_reducible refine I3 109 ?_);(with_reducible refine Ux O 109 _ _ O gc 56 rv ?_ ?_ ?_ ?_ ?_ ?_);(·rfl);(·rfl);(·rw[RS.out];exact TH.out);(·rw[RS.out];exact EW.2);(·exact RO.out);refine Ex.mk ?_);apply Es;rw[ag.out];have S4:=S1.out.aN t2 (S1.out.core.ok.aN HT2.out.1);obtain⟨d0,d1,d2,hd,KG,-⟩:=S1.out.core.Ek;replace KB:=J<|(JP (g:=gc) t2.v 56 w9).Ek KB.out (E6 KB.out KG EU);replace S1:=J S4.1;replace MM:=J<|MM.out.trans S4.2;clear S4 TH KG;generalize w9.setCells gc 56 t2.v=U8 at*;obtain⟨L',hL'⟩:=Eo (c.q:List One);obtain⟨m,hm⟩:=Eo (0:Nat);obtain⟨new,hnew⟩:=Eo ([]:List Rec);have s10:E9 lo hi g gc gq gt gs {c with tok:=t2,q:=L'} (ns+m) (rs++new) U8:=by rw[hL',hm,hnew,dy];exact S1.out
   replace S1:=J s10;have HM:Ed (m<=3):=J U;have HO:=J<|show t2.o= -1/\c.tok.e<=t2.e from⟨HT2.out.2.1,YB⟩;have uE:Ed ((new=[]/\c.tok.h=4)\/new=[⟨8,t2.h,0,t2.e,0,6⟩]):=J (.inl ⟨hnew,by rw[<-HE.out.2,<-MR.out];exact H4.out⟩);clear s10 hL' hm hnew KB HT2 ag Up RS RO gL HE MR Xf ZE H4 t4;have z0:=S1.out.IB;have z64:jC _ ⟨gc,64,Z⟩=D (V (D ⟨gq,0,Z⟩)):=S1.out.core.cell 2 rfl 0 Ej;go_wp2_with fail;refine(LY lo gq _ (pn g 48) _ S1.out.core.ZC S1.out.core.ok.q).mono ?_;rintro e8 w8 ⟨⟨v8,rfl,o8⟩,b8⟩;obtain⟨A,c8,rfl,-⟩:=aK o8;have af:=J<|ii L';have oq:=J S1.out.core.ok.q;obtain⟨n,hn⟩:=Eo L'.length;obtain⟨SL,mf⟩:=Eo (Jt L');have rZ:Ed (n<=3):=J MS;rw[<-hn,<-mf] at o8 af;rw[<-hn];have OA:=J o8;replace S1:=J<|S1.out.B b8;replace MM:=J<|MM.out.trans (EA.ED b8);generalize World.heap _=hz at o8;clear o8 b8 z0 z64 hn mf oq;go_wp2_with fail;go_loopw[53] (fun y wr=> ∃(i:Nat) (L2:List One) (m2:Nat),i<=n/\y=E I i/\m2<=i/\E9 lo hi g gc gq gt gs {c with tok:=t2,q:=L2} (ns+m+m2) (rs++new) wr/\EA lo hi w wr/\ ∃base,wr.ownsRow base 133 4 (G A n c8) n (UY SL)) (fun y _=>n-(In y).toNat);case atStart=>exact⟨0,L',0,U,O,U,S1.out,MM.out,_,OA.out⟩
   case round=>
    obtain⟨i,L2,m2,xq,rfl,hm2,s9,m9,base,o9⟩:=hrel;replace S1:=J s9;replace MM:=J m9;replace OA:=J o9;have jT:=J hm2;clear s9 m9 o9 hm2;by_cases hlt:i<n
    ·have t1:decide ((i:Int)<(n:Int))=EJ:=IJ U;obtain⟨x,hx⟩: ∃x,SL[i]?=D x:=⟨SL[i]' DW,JV _⟩;obtain⟨gg,cur,rfl,ka,dY⟩:=xo OA.out hx af.out;have KA:=J ka;have d_:=J dY;clear ka dY hx;have K0:=J<|H.new wr #[E I 0,E I 0,E I 0,E I 0] 133;have b2:=Er wr (Eb #[E I 0,E I 0,E I 0,E I 0] 133);go_wp2_with (with_reducible first|refine wM (off:=i*4) (cs:= #[E I x.s,E I x.r,E I x.a,E I x.m]) j4 KA ?_ (he:=d_.out)|refine wA xp ?_|refine wS (cs:= #[E I x.s,E I x.r,E I x.a,E I x.m]) j4 K0 (Ex.mk ?_) (h1:=U9));apply Es;obtain⟨gx,hgx⟩:=Eo wr.heap.size;rw[<-hgx] at K0⊢;generalize wr.alloc (Eb #[E I 0,E I 0,E I 0,E I 0] 133)=UH at*;have KX:=J<|K0.out.setRow #[E I x.s,E I x.r,E I x.a,E I x.m];have b3:=EY (g:=gx) b2 (OC hgx.symm) #[E I x.s,E I x.r,E I x.a,E I x.m];generalize UH.setRow gx #[E I x.s,E I x.r,E I x.a,E I x.m]=JM at*;clear K0 b2 hgx KA d_;replace S1:=J<|S1.out.B b3;replace MM:=J<|MM.out.trans (EA.ED b3);replace OA:=J<|EG OA.out fun _ _ h=>H.B h b3;clear b3;go_wp2_with fail;have y0: ∀y:Ext JM,(EC JM y).cell? ⟨gs,0,Z⟩=D (V (D ⟨gc,0,Z⟩)):=fun y=>(S1.out.B (EQ y)).IB;have MT: ∀y:Ext JM,(EC JM y).cell? ⟨gc,64,Z⟩=D (V (D ⟨gq,0,Z⟩)):=fun y=>(S1.out.B (EQ y)).core.cell 2 rfl 0 Ej;have yx: ∀y:Ext JM,(EC JM y).cell? ⟨gx,0,Z⟩=D (E I x.s):=fun y=>(H.cell (H.B KX.out (EQ y)) 0).trans O;refine Oa 9 Ef Ef ?_;simp only[Is,Iq,IT,IM];repeat (go_big_quiet_step (fail))
     refine I5 ?_;exact Ens
    ·obtain rfl:i=n:=U;have t1:decide ((i:Int)<(i:Int))=EI:=IZ U;go_wp2_with fail;have y0: ∀y:Ext wr,(EC wr y).cell? ⟨gs,0,Z⟩=D (V (D ⟨gc,0,Z⟩)):=fun y=>(S1.out.B (EQ y)).IB;have xn: ∀y:Ext wr,(EC wr y).cell? ⟨gc,40,Z⟩=D (E I (md:Int)):=fun y=>tT.out _ _ _ _ (S1.out.B (EQ y));refine Oa 10 Ef Ef ?_;simp only[Is,Iq,IT,IM];repeat (go_big_quiet_step (with_reducible refine ao (xk _)))
     refine I5 ?_;exact En2
  ·have t4:(hh !=4)=EJ:=ij;clear h4;go_wp2_with (with_reducible refine wL EW KB ?_ (hn:=RS.out));have hgo:=fun W s=>n_ lo hi g gc gq gt gs {c with tok:=tk} ns rs t2 6 0 W s HT2.out.1 J_ JQ;rw[Up.out] at hgo;refine(hgo _ S1.out).mono ?_;rintro e7 U8 ⟨rfl,⟨L',m,XR,sq,s7⟩,Xg⟩;replace S1:=J s7;replace MM:=J<|MM.out.trans Xg;have HM:Ed (m<=3):=J U;obtain⟨new,hnew⟩:=Eo ([⟨8,t2.h,0,t2.e,0,6⟩]:List Rec);rw[<-hnew] at S1;have HO:=J<|show t2.o= -1/\c.tok.e<=t2.e from⟨HT2.out.2.1,YB⟩;have uE:Ed ((new=[]/\c.tok.h=4)\/new=[⟨8,t2.h,0,t2.e,0,6⟩]):=J (.inr hnew);clear s7 Xg sq XR KB z0 z56 hgo hnew HT2 ag Up RS RO gL HE MR Xf ZE t4;have z0:=S1.out.IB;have z64:jC _ ⟨gc,64,Z⟩=D (V (D ⟨gq,0,Z⟩)):=S1.out.core.cell 2 rfl 0 Ej;go_wp2_with fail;refine(LY lo gq _ (pn g 48) _ S1.out.core.ZC S1.out.core.ok.q).mono ?_;rintro e8 w8 ⟨⟨v8,rfl,o8⟩,b8⟩;obtain⟨A,c8,rfl,-⟩:=aK o8;have af:=J<|ii L';have oq:=J S1.out.core.ok.q;obtain⟨n,hn⟩:=Eo L'.length;obtain⟨SL,mf⟩:=Eo (Jt L');have rZ:Ed (n<=3):=J MS;rw[<-hn,<-mf] at o8 af;rw[<-hn];have OA:=J o8;replace S1:=J<|S1.out.B b8;replace MM:=J<|MM.out.trans (EA.ED b8);generalize World.heap _=hz at o8;clear o8 b8 z0 z64 hn mf oq;go_wp2_with fail;go_loopw[53] (fun y wr=> ∃(i:Nat) (L2:List One) (m2:Nat),i<=n/\y=E I i/\m2<=i/\E9 lo hi g gc gq gt gs {c with tok:=t2,q:=L2} (ns+m+m2) (rs++new) wr/\EA lo hi w wr/\ ∃base,wr.ownsRow base 133 4 (G A n c8) n (UY SL)) (fun y _=>n-(In y).toNat);case atStart=>exact⟨0,L',0,U,O,U,S1.out,MM.out,_,OA.out⟩
   case round=>
    obtain⟨i,L2,m2,xq,rfl,hm2,s9,m9,base,o9⟩:=hrel;replace S1:=J s9;replace MM:=J m9;replace OA:=J o9;have jT:=J hm2;clear s9 m9 o9 hm2;by_cases hlt:i<n
    ·have t1:decide ((i:Int)<(n:Int))=EJ:=IJ U;obtain⟨x,hx⟩: ∃x,SL[i]?=D x:=⟨SL[i]' DW,JV _⟩;obtain⟨gg,cur,rfl,ka,dY⟩:=xo OA.out hx af.out;have KA:=J ka;have d_:=J dY;clear ka dY hx;have K0:=J<|H.new wr #[E I 0,E I 0,E I 0,E I 0] 133;have b2:=Er wr (Eb #[E I 0,E I 0,E I 0,E I 0] 133);go_wp2_with (with_reducible first|refine wM (off:=i*4) (cs:= #[E I x.s,E I x.r,E I x.a,E I x.m]) j4 KA ?_ (he:=d_.out)|refine wA xp ?_|refine wS (cs:= #[E I x.s,E I x.r,E I x.a,E I x.m]) j4 K0 (Ex.mk ?_) (h1:=U9));apply Es;obtain⟨gx,hgx⟩:=Eo wr.heap.size;rw[<-hgx] at K0⊢;generalize wr.alloc (Eb #[E I 0,E I 0,E I 0,E I 0] 133)=UH at*;have KX:=J<|K0.out.setRow #[E I x.s,E I x.r,E I x.a,E I x.m];have b3:=EY (g:=gx) b2 (OC hgx.symm) #[E I x.s,E I x.r,E I x.a,E I x.m];generalize UH.setRow gx #[E I x.s,E I x.r,E I x.a,E I x.m]=JM at*;clear K0 b2 hgx KA d_;replace S1:=J<|S1.out.B b3;replace MM:=J<|MM.out.trans (EA.ED b3);replace OA:=J<|EG OA.out fun _ _ h=>H.B h b3;clear b3;go_wp2_with fail;have y0: ∀y:Ext JM,(EC JM y).cell? ⟨gs,0,Z⟩=D (V (D ⟨gc,0,Z⟩)):=fun y=>(S1.out.B (EQ y)).IB;have MT: ∀y:Ext JM,(EC JM y).cell? ⟨gc,64,Z⟩=D (V (D ⟨gq,0,Z⟩)):=fun y=>(S1.out.B (EQ y)).core.cell 2 rfl 0 Ej;have yx: ∀y:Ext JM,(EC JM y).cell? ⟨gx,0,Z⟩=D (E I x.s):=fun y=>(H.cell (H.B KX.out (EQ y)) 0).trans O;refine Oa 9 Ef Ef ?_;simp only[Is,Iq,IT,IM];repeat (go_big_quiet_step (fail))
     refine I5 ?_;exact Ens
    ·obtain rfl:i=n:=U;have t1:decide ((i:Int)<(i:Int))=EI:=IZ U;go_wp2_with fail;have y0: ∀y:Ext wr,(EC wr y).cell? ⟨gs,0,Z⟩=D (V (D ⟨gc,0,Z⟩)):=fun y=>(S1.out.B (EQ y)).IB;have xn: ∀y:Ext wr,(EC wr y).cell? ⟨gc,40,Z⟩=D (E I (md:Int)):=fun y=>tT.out _ _ _ _ (S1.out.B (EQ y));refine Oa 10 Ef Ef ?_;simp only[Is,Iq,IT,IM];repeat (go_big_quiet_step (with_reducible refine ao (xk _)))
     refine I5 ?_;exact En2
def MV(t t':EN)(new:List Rec):Prop:=
 (0<=t.o->(t'.o=t.o/\t'.e=t.e/\t'.om=t.om/\t'.oa=sat t.oa t.om/\t'.oa<t.om)\/(t'.o<0/\ ∃x∈new,x.k=8\/(x.k=12/\x.s=t.o)))/\(t.o<0->t'.o<0)
def xy(c c':Ey)(new:List Rec):Prop:=
 MV c.tok c'.tok new/\c.tok.e<=c'.tok.e/\(c'.En=c.En\/c'.En=⟨2,4,0⟩\/c'.En=⟨3,4,0⟩)/\ ∃b0:Xz,(b0=c.pt.b\/b0=⟨2,4,0⟩\/b0=⟨3,4,0⟩)/\(c'.pt.b=b0\/c'.pt.b=⟨4,b0.s,b0.q⟩)
def j5(t t':EN)(new:List Rec):Prop:=t'=t\/(0<=t.o/\t'=t.end_/\ ∃x∈new,x.k=12/\x.s=t.o)
theorem j5.app(h:j5 t t' new)(r:List Rec):j5 t t' (new++r):=by
 rcases h with h|⟨h1,h2,x,hx,h3⟩;·exact .inl h
 ·exact .inr ⟨h1,h2,x,List.mem_append_left _ hx,h3⟩
theorem j5.drop(h:j5 t t' new)(s e:Int):j5 t (t'.drop s).1 (new++if(t'.drop s).2 then [⟨12,s,0,e,16,0⟩] else []):=by
 by_cases hc:t'.o<0\/t'.o≠s
 ·have e1:t'.drop s=(t',EI):=by unfold EN.drop;rw[if_pos hc]
  rw[e1];exact h.app _
 ·have e1:t'.drop s=(t'.end_,EJ):=by unfold EN.drop;rw[if_neg hc]
  rw[e1];rcases h with h|⟨h1,h2,-⟩;·subst h;exact .inr ⟨U,O,_,List.mem_append_right _ (mX.2 rfl),O,by show s=t'.o;omega⟩
  ·exfalso;rw[h2] at hc;simp[EN.end_] at hc
theorem Ehd(t:EN):(t.o<0/\t.Uu=(t,-1))\/(0<=t.o/\sat t.oa t.om<t.om/\t.Uu=({t with oa:=sat t.oa t.om},-1))\/(0<=t.o/\t.Uu.1.o= -1/\t.Uu.1.e=t.e/\t.Uu.2=t.o):=by
 unfold EN.Uu;split;·exact .inl ⟨U,O⟩
 ·split;·exact .inr (.inl ⟨U,U,O⟩)
  ·exact .inr (.inr ⟨U,O,O,O⟩)
theorem YH(h:t.ok):t.Uu.1.ok/\t.Uu.1.e=t.e:=by
 have hs:0<=sat t.oa t.om/\sat t.oa t.om<=1000:=by have h1:=h.oa;have h2:=h.om;unfold sat;split<;>omega
 unfold EN.Uu;split;·exact⟨h,O⟩
 ·split;·exact⟨⟨h.h,h.e,h.o,hs,h.om,h.la,h.lm,h.off⟩,O⟩
  ·exact⟨⟨h.h,h.e,fS,fS,fS,h.la,h.lm,fS⟩,O⟩
theorem Ehf(h:j5 t t' new)(ht:t.ok):t'.e=t.e:=by rcases h with rfl|⟨-,rfl,-⟩<;>rfl
theorem YK{t3:EN}{new1:List Rec}(h1:j5 t t1 new1)(h2: ∀x∈new1,x∈new)(hw:0<=t1.Uu.2-> ∃x∈new,x.k=12/\x.s=t1.Uu.2)(h3:(∃a m,t3=t1.Uu.1.nY a m)\/(t3.o= -1/\ ∃x∈new,x.k=8)):MV t t3 new:=by
 rcases h3 with⟨a,m,rfl⟩|⟨ho,x,hx,hk⟩
 ·show MV t (t1.Uu.1.nY a m) new;rcases h1 with rfl|⟨g1,rfl,x,hx,hk,hs⟩
  ·rcases Ehd t1 with⟨h5,e5⟩|⟨h5,h6,e5⟩|⟨h5,h6,h7,h8⟩;·rw[e5];exact⟨fun h=>absurd h U,fun _=>h5⟩
   ·rw[e5];exact⟨fun _=> .inl ⟨O,O,O,O,h6⟩,fun h=>absurd h5 U⟩
   ·refine⟨fun _=> .inr ⟨by show t1.Uu.1.o<0;omega,?_⟩,fun h=>absurd h5 U⟩;obtain⟨x,hx,hk,hs⟩:=hw U;exact⟨x,hx,.inr ⟨hk,U⟩⟩
  ·have e5:t.end_.Uu=(t.end_,-1):=by unfold EN.Uu;rw[if_pos fS]
   rw[e5];exact⟨fun _=> .inr ⟨by simp[EN.nY,EN.end_],x,h2 x hx,.inr ⟨hk,hs⟩⟩,fun h=>absurd g1 U⟩
 ·exact⟨fun _=> .inr ⟨U,x,hx,.inl hk⟩,fun _=>U⟩
theorem Ehg{x:One}(h:x.ok):(gQ x).ok:=by refine⟨h.s,h.r,?_,h.m,h.n⟩;have h1:=h.a;have h2:=h.m;show 0<=sat x.a x.m/\sat x.a x.m<=1000;unfold sat;split<;>omega
theorem Ey.ok.kept(h:c.ok):({c with q:=X9 (Jt c.q)}:Ey).ok:=by
 have pm:=VS c.q;have hm: ∀x∈X9 (Jt c.q),∃y∈c.q,x=gQ y:=fun x hx=>by obtain⟨y,hy,e⟩:=dw.1 (List.mem_filter.1 hx).1;exact⟨y,pm.mem_iff.1 hy,e.symm⟩
 refine⟨h.tok,h.T,?_,fun x hx=> ?_,fun x hx=> ?_,?_,h.iG,h.jD,h.mode,h.En,h.pt,h.Iu⟩;·show(X9 (Jt c.q)).length<=3;have:=VT (Jt c.q);rw[ii] at this;have:=h.q;omega
 ·obtain⟨y,hy,rfl⟩:=hm x hx;exact Ehg (h.ones y hy)
 ·obtain⟨y,hy,rfl⟩:=hm x hx;exact h.src y hy
 ·have h1:((Jt c.q).map One.s).Nodup:=(pm.map One.s).nodup_iff.2 h.nd;have h2:(((Jt c.q).map gQ).map One.s)=(Jt c.q).map One.s:=by rw[List.map_map];rfl
  show((X9 (Jt c.q)).map One.s).Nodup;refine List.Sublist.nodup (List.Sublist.map _ (List.filter_sublist (l:=(Jt c.q).map gQ))) ?_;rw[h2];exact h1
theorem Ehh{c i:Nat}{L:List Int}{x:Int}(h:w.ownsRow base 3 1 (G A n c) n (Uz L))(hx:L[i]?=D x)(hn:L.length=n): ∃(g:Nat),A=D ⟨g,0,Z⟩/\w.cell? ⟨g,i,Z⟩=D (E I x):=by
 have hi:=(Xx.1 hx).1;obtain⟨h1,⟨-,h2⟩|⟨g,cap,cur,hv,hg,hh,hnc,hcm,hcs,ht⟩⟩:=h;·omega
 ·injection hv with e1;refine⟨g,e1,?_⟩;have hb:H w g cur 3:=hh;rw[H.cell hb,<-Array.getElem?_toList];have e:(cur.toList.take (n*1))[i]?=D (E I x):=by rw[ht];unfold Uz;rw[List.getElem?_map,hx];rfl
  rw[cE U] at e;exact e
def Pt.near(p:Pt)(r:Int)(b:Bool):Pt:=⟨p.c,p.a0,p.a1,p.a2,p.a3,Jy p.n0 p.a0 r,Jy p.n1 p.a1 r,Jy p.n2 p.a2 r,Jy p.n3 p.a3 r,⟨if b then p.b.r else 4,p.b.s,p.b.q⟩⟩
theorem YM(g:Nat->Y)(r:Int)(hr:g 54=E I r)(ir:aF r)(p:Pt)(hp:p.ok): ∃p':Pt,p'.ok/\(p'.b=p.b\/p'.b=⟨4,p.b.s,p.b.q⟩)/\ ∀W,Eg EZ 107 #[Ea (EL 56 g),Ea p.v.toArray] W fun e w'=>e=Ei (Ea p'.v.toArray)/\El W w':=by
 refine⟨p.near r _,⟨hp.c,hp.a0,hp.a1,hp.a2,hp.a3,Cu hp.n0 hp.a0 ir,Cu hp.n1 hp.a1 ir,Cu hp.n2 hp.a2 ir,Cu hp.n3 hp.a3 ir⟩,?_,fun W=>Ec2 g p.c p.a0 p.a1 p.a2 p.a3 p.n0 p.n1 p.n2 p.n3 p.b.r p.b.s p.b.q r W hr ir hp.a0 hp.a1 hp.a2 hp.a3 hp.n0 hp.n1 hp.n2 hp.n3 _ O⟩;unfold Pt.near;split;·exact .inl O
 ·exact .inr O
theorem Ehi(h:xj c c' new):new.length<=1:=h.len
theorem YN(h:c.ok):(bF (Jt c.q)).length<=3:=by have:=VV (Jt c.q);rw[ii] at this;have:=h.q;omega
theorem YP(hc:c.tok.ok){n1 n4:List Rec}{c4:Ey}(h1:j5 c.tok t1 n1)(h2: ∀x∈n1,x∈new)(hw:0<=t1.Uu.2-> ∃x∈new,x.k=12/\x.s=t1.Uu.2)(T1:EK)(KQ:List One)(ht2:t2=t1.Uu.1)(h4: ∀x∈n4,x∈new)(hl:xj {c with T:=T1,tok:=t2,q:=KQ} c4 n4)(p':Pt)(hp:p'.b=c4.pt.b\/p'.b=⟨4,c4.pt.b.s,c4.pt.b.q⟩):xy c {c4 with pt:=p'} new:=by
 subst ht2
 have ht1:t1.ok:=by
  rcases h1 with rfl|⟨-,rfl,-⟩;·exact hc
  ·exact Wt hc
 have e1:=Ehf h1 hc;have e2:=(YH ht1).2;rcases hl with⟨L',a,m,-,rfl,rfl⟩|⟨L',t3,how,md,b,-,ho,he,-,-,hb,rfl,rfl⟩;·exact⟨YK h1 h2 hw (.inl ⟨a,m,O⟩),by show c.tok.e<=t1.Uu.1.e;omega,.inl O,c.pt.b,.inl O,hp⟩
 ·refine⟨YK h1 h2 hw (.inr ⟨ho,_,h4 _ (mX.2 rfl),O⟩),by show c.tok.e<=t3.e;have:t1.Uu.1.e<=t3.e:=he;omega,?_,b,?_,hp⟩
  ·rcases hb with rfl|rfl;·exact .inr (.inl O)
   ·exact .inr (.inr O)
  ·rcases hb with rfl|rfl;·exact .inr (.inl O)
   ·exact .inr (.inr O)
theorem Ehj(lo hi:Nat)(g:Nat->Y)(gc gq gt gs:Nat)(c:Ey)(ns:Nat)(rs:List Rec)(w:M)(S:E9 lo hi g gc gq gt gs c ns rs w)(hn:ns<700000)(hl:rs.length<700000): Eg EZ 74 #[V (D ⟨gs,0,Z⟩)] w fun e w'=>e=Ei (Eu #[])/\(∃c' m new,m<=15/\new.length<=13/\E9 lo hi g gc gq gt gs c' (ns+m) (rs++new) w'/\xy c c' new)/\EA lo hi w w':=by
 obtain⟨pr,hpr,YQ⟩:=S.core.XV.fit 54 U U;have YR:Ed (aF (pr:Int)):=J (by have h2:=YQ.2.1;unfold U_ at h2;simp at h2;unfold aF;omega);have YT:=J hpr;have HT:=J S.core.ok.tok;have S1:=J S;have HN:=J hn;have HL:=J hl;have MM:=J<|EA.refl lo hi w;clear S hn hl hpr YQ;have z0:=S1.out.IB;have U2:w.cell? ⟨gc,95,Z⟩=D (V (D ⟨gt,0,Z⟩)):=S1.out.core.cell 6 rfl 0 Ej;go_enter Tryz.func74,Tryz.ntmps74;go_wp2_with fail;refine(EgR gt c.T _ S1.out.core.tab S1.out.core.ok.T S1.out.core.ok.Iu).mono ?_;rintro e1 w1 ⟨⟨L,A,c0,T1,rfl,o1,hl4,hl3,kt,YV,YW⟩,ot⟩;have hS:=S1.out.wW ot T1 kt (S1.out.core.ok.wV YV YW);replace S1:=J hS.1;replace MM:=J<|MM.out.trans hS.2;have OI:=J o1;obtain⟨n,hn⟩:=Eo L.length;rw[<-hn] at OI hl4⊢;have af:=J hn.symm;have Y0:=J hl4;clear o1 hl4 hl3 kt YV YW ot hS hn z0 U2;go_wp2_with fail;go_loopw[17] (fun y wr=> ∃(i:Nat) (t1:EN) (L1:List One) (m1:Nat) (n1:List Rec),i<=n/\y=E I i/\m1<=2*i/\n1.length<=2*i/\E9 lo hi g gc gq gt gs {c with T:=T1,tok:=t1,q:=L1} (ns+m1) (rs++n1) wr/\j5 c.tok t1 n1/\EA lo hi w wr/\ ∃base,wr.ownsRow base 3 1 (G A n c0) n (Uz L)) (fun y _=>n-(In y).toNat);case atStart=>exact⟨0,c.tok,c.q,0,[],U,O,U,Ej,t_,.inl O,MM.out,_,OI.out⟩
 case round=>
  obtain⟨i,t1,L1,m1,n1,xq,rfl,hm1,hn1,s9,ht1,m9,base,o9⟩:=hrel;replace S1:=J s9;replace MM:=J m9;replace OI:=J o9;have jS:=J hm1;have ou:=J hn1;have HT1:=J ht1;clear s9 m9 o9 hm1 hn1 ht1;by_cases hlt:i<n
  ·have t1':decide ((i:Int)<(n:Int))=EJ:=IJ U;obtain⟨x,hx⟩: ∃x,L[i]?=D x:=⟨L[i]' DW,JV _⟩;obtain⟨gg,rfl,cx⟩:=Ehh OI.out hx af.out;have hn4:=Y0.out;clear hx;go_wp2_with fail;refine(ZD lo hi g gc gq gt gs _ (ns+m1) _ 5 x 0 0 0 _ S1.out Y1).mono ?_;rintro e3 w3 ⟨rfl,s3,qG⟩;replace S1:=J s3;replace MM:=J<|MM.out.trans qG;replace OI:=J<|EG OI.out fun _ _ h=>qG.Ek h EU EU;clear s3 qG cx;go_wp2_with fail;refine(Lz x _).mono ?_;rintro e4 w4 ⟨rfl,rfl⟩;cases hlk:decide (1<=x/\x<=3) with
   |false=> clear hlk;go_wp2_with fail;refine⟨⟨i+1,t1,L1,m1,n1++[⟨5,x,0,t1.e,0,0⟩],U,Ej,tF,by rw[IY];have:=ou.out;simp;omega,by rw[<-U7];exact S1.out,HT1.out.app _,MM.out,base,OI.out⟩,Jb⟩
   |true=> clear hlk;go_wp2_with fail;refine(Wh lo hi g gc gq gt gs _ (ns+m1) _ x _ S1.out wR (by have:=HL.out;have:=ou.out;simp only[IY,List.length_singleton];omega)).mono ?_;rintro e5 w5 ⟨rfl,⟨L2,m5,uI,sq5,s5⟩,ra⟩;have S8:=J s5;replace MM:=J<|MM.out.trans ra;replace OI:=J<|EG OI.out fun _ _ h=>ra.Ek h EU EU;have HM5:=J uI;clear s5 ra uI sq5;obtain⟨N,hN⟩:=Eo (if(t1.drop x).2 then [⟨12,x,0,t1.e,16,0⟩] else []:List Rec);have MW:Ed (N.length<=1):=J (by rw[hN];split<;>simp);have Y2:=J<|(HT1.out.app [⟨5,x,0,t1.e,0,0⟩]).drop x t1.e;have h8:=S8.out;rw[<-hN] at Y2 h8;have S9:=J h8;clear h8 hN S8;go_wp2_with fail;refine⟨⟨i+1,(t1.drop x).1,L2,m1+m5,(n1++[⟨5,x,0,t1.e,0,0⟩])++N,U,Ej,by have:=jS.out;have:=HM5.out;omega,by simp only[IY,List.length_singleton];have:=ou.out;have:=MW.out;omega,?_,Y2.out,MM.out,base,OI.out⟩,Jb⟩;rw[<-jx,<-U7,<-U7];exact S9.out
  ·obtain rfl:i=n:=U;have t1':decide ((i:Int)<(i:Int))=EI:=IZ U;have z0:=S1.out.IB;obtain⟨big,mc,O8⟩:=bK S1.out.core;have mc:=J mc;obtain⟨Ip,Uq,Xf,ZE⟩: ∃Ip,t1.a=Ea Ip/\Ed (Ip.size=8)/\Ed (t1.v.toArray=Ip):=⟨_,O,J O,J O⟩;have dR:Ed (big.extract 56 (56+8)=Ip):=J<|(O8 1 t1.v O).trans ZE.out;have DY:=fun W=>EO5 t1 W (by have h:0<=t1.oa/\t1.oa<=1000:=S1.out.core.ok.tok.oa;omega) (by have h:0<=t1.om/\t1.om<=1000:=S1.out.core.ok.tok.om;omega);have HOT:=YH S1.out.core.ok.tok;obtain⟨t2,ht2⟩:=Eo t1.Uu.1;obtain⟨who,hwho⟩:=Eo t1.Uu.2;have HT2:Ed t2.ok:=J (by rw[ht2];exact HOT.1);obtain⟨rv,IH,RS,RO⟩:=ZH t2;have ag:Ed (rv.toList=t2.v):=J MQ;have CE:Ed (∀W g,H W g rv 109->W.cell? ⟨g,0,Z⟩=D (E I t2.h)):=J (fun W g K=>by have e:rv=Uc t2.h t2.e t2.o t2.oa t2.om t2.la t2.lm t2.bad:=Ww;subst e;exact(H.cell K 0).trans O);have CO:Ed (∀W,Eg EZ 104 #[Ea Ip] W fun x w'=>x=Ei (Eu #[Ea rv,E I who])/\El W w'):=J (fun W=>by have h:=DY W;rw[<-ht2,<-hwho,IH,Uq] at h;exact h);have RS:=J RS;have RO:=J RO;have EEI:=J ht2;have D0:=J hwho;clear O8 DY HOT Uq ht2 hwho IH OI;go_wp2_with (with_reducible refine wM (off:=56) (cs:=Ip) EW mc ?_ (hn:=Xf.out) (he:=dR.out));refine(CO.out _).mono ?_;rintro e6 w6 ⟨rfl,b6⟩;replace S1:=J<|S1.out.B b6;replace MM:=J<|MM.out.trans (EA.ED b6);clear b6 z0 mc dR CO Xf ZE;have K0:=J<|H.new w6 #[E I 0,E I 0,E I 0,E I 0,E I 0,E I 0,E I 0,Ec EI] 109;have b2:=Er w6 (Eb #[E I 0,E I 0,E I 0,E I 0,E I 0,E I 0,E I 0,Ec EI] 109);go_wp2_with (with_reducible first|refine wA lR ?_|refine wS (cs:=rv) EW K0 (Ex.mk ?_) (hn:=RS.out) (h1:=RO.out));apply Es;obtain⟨b,hgm⟩:=Eo w6.heap.size;rw[<-hgm] at K0⊢;generalize w6.alloc (Eb #[E I 0,E I 0,E I 0,E I 0,E I 0,E I 0,E I 0,Ec EI] 109)=w7 at*;have KB:=J<|K0.out.setRow rv;have b3:=EY (g:=b) b2 (OC hgm.symm) rv;generalize w7.setRow b rv=w8 at*;clear K0 b2 hgm;replace S1:=J<|S1.out.B b3;replace MM:=J<|MM.out.trans (EA.ED b3);clear b3;go_wp2_with fail;have y0: ∀y:Ext w8,(EC w8 y).cell? ⟨gs,0,Z⟩=D (V (D ⟨gc,0,Z⟩)):=fun y=>(S1.out.B (EQ y)).IB;refine Oa 7 Ef Ef ?_;simp only[Is,Iq,IT,IM]
   repeat (first
    |go_big_quiet_skip
    |(go_big_quiet_want
      first
       |(refine UV (T:=109) (g:=b) EW _ rfl rfl KB ?_ ?_;(·exact RS.out);go_simp;go_big_quiet_on)
       |(go_big_quiet_op
         first
          |go_big_quiet_on
          |go_big_quiet_call (fail))))
   refine I5 ?_;intro _ hw';obtain⟨y9,rfl⟩:=hw';have En:=EQ y9;replace KB:=EH KB En;replace S1:=J<|S1.out.B En;replace MM:=J<|MM.out.trans (EA.ED En);clear y0 En;generalize EC w8 y9=w9 at*;have TH:=J<|db S1.out.core 1 rfl 8 XW;go_wp2_with ((with_reducible refine I3 109 ?_);(with_reducible refine Ux O 109 _ _ O gc 56 rv ?_ ?_ ?_ ?_ ?_ ?_);(·rfl);(·rfl);(·rw[RS.out];exact TH.out);(·rw[RS.out];exact EW.2);(·exact RO.out);refine Ex.mk ?_);apply Es;rw[ag.out];have S4:=S1.out.aN t2 (S1.out.core.ok.aN HT2.out);obtain⟨d0,d1,d2,hd,KG,-⟩:=S1.out.core.Ek;replace KB:=J<|(JP (g:=gc) t2.v 56 w9).Ek KB.out (E6 KB.out KG EU);replace S1:=J S4.1;replace MM:=J<|MM.out.trans S4.2;clear S4 TH KG;generalize w9.setCells gc 56 t2.v=U8 at*;clear RS RO ag;have HNI:=Y0.out;by_cases xz:0<=who
   ·have t0':decide (0<=who)=EJ:=IJ xz;have cb:=CE.out _ _ KB.out;go_wp2_with fail;refine(ql lo hi g gc gq gt gs _ (ns+m1) _ t2.h who 30 _ S1.out wR).mono ?_;rintro e11 fC ⟨rfl,⟨m11,Ehm,s11⟩,EEJ⟩;replace S1:=J s11;replace MM:=J<|MM.out.trans EEJ;clear s11 EEJ cb KB;go_wp2_with fail;refine(ZD lo hi g gc gq gt gs _ _ _ 12 who 0 30 0 _ S1.out Y1).mono ?_;rintro e12 UH ⟨rfl,s12,EEO⟩;obtain⟨m2,hm2⟩:=Eo (m1+m11);obtain⟨n2,hn2⟩:=Eo (n1++[⟨12,who,0,t2.e,30,0⟩]:List Rec);rw[jx,<-hm2,U7,<-hn2] at s12;replace S1:=J s12;replace MM:=J<|MM.out.trans EEO;have jT:Ed (m2<=9):=J tF;have MY:Ed (n2.length<=9):=J (by rw[hn2,IY];have:=ou.out;simp;omega);have M0:Ed (∀x∈n1,x∈n2):=J (fun x hx=>by rw[hn2];exact List.mem_append_left _ hx);have HWW:Ed (0<=t1.Uu.2-> ∃x∈n2,x.k=12/\x.s=t1.Uu.2):=J<|fun _=>⟨_,by rw[hn2];exact List.mem_append_right _ (mX.2 rfl),O,D0.out⟩;clear s12 EEO hm2 hn2 Ehm xz t0' jS ou D0 CE;have z0:=S1.out.IB;have z64:jC _ ⟨gc,64,Z⟩=D (V (D ⟨gq,0,Z⟩)):=S1.out.core.cell 2 rfl 0 Ej;go_wp2_with fail;refine(VY lo gq _ (pn g 48) _ S1.out.core.lq S1.out.core.ZC S1.out.core.ok.q S1.out.core.ok.ones).mono ?_;rintro e8 w8 ⟨⟨v8,rfl,o8⟩,q8,m8⟩;obtain⟨A,c8,rfl,-⟩:=aK o8;have mg:=J<|YN S1.out.core.ok;have xA:=S1.out.core.ok.kept;replace S1:=J<|S1.out.gV m8 _ q8 xA;replace MM:=J<|MM.out.trans (m8.jL hi);obtain⟨GQ,rd⟩:=Eo (bF (Jt L1));obtain⟨KQ,xB⟩:=Eo (X9 (Jt L1));obtain⟨n,hn⟩:=Eo GQ.length;rw[<-rd,<-hn] at mg o8;rw[<-xB] at S1;rw[<-rd,<-hn];have mh:=J hn.symm;have OA:=J o8;clear o8 q8 m8 xA z0 z64 rd xB hn;go_wp2_with fail;go_loopw[67] (fun y wr=> ∃(i m3:Nat) (n3:List Rec),i<=n/\y=E I i/\m3<=i/\n3.length<=i/\E9 lo hi g gc gq gt gs {c with T:=T1,tok:=t2,q:=KQ} (ns+m2+m3) (rs++(n2++n3)) wr/\EA lo hi w wr/\ ∃base,wr.ownsRow base 133 4 (G A n c8) n (UY GQ)) (fun y _=>n-(In y).toNat);case atStart=>exact⟨0,0,[],U,O,U,Ej,t_,MM.out,_,OA.out⟩
    case round=>
     obtain⟨i,m3,n3,xq,rfl,oE,xC,s9,m9,base,o9⟩:=hrel;replace S1:=J s9;replace MM:=J m9;replace OA:=J o9;have qH:=J oE;have D2:=J xC;clear s9 m9 o9 oE xC;by_cases hlt:i<n;·exact Enl
     ·obtain rfl:i=n:=U;have t1':decide ((i:Int)<(i:Int))=EI:=IZ U;go_wp2_with fail;refine(Yx lo hi g gc gq gt gs _ (ns+m2+m3) _ _ S1.out D3 D4).mono ?_;rintro e20 aQ ⟨rfl,⟨c4,m4,n4,xF,s20,i_⟩,xG⟩;replace S1:=J s20;replace MM:=J<|MM.out.trans xG;have HM4:=J xF;have mj:=J i_;clear s20 xG xF i_ OA;obtain⟨p',hpo,hpb,hca⟩:=YM g pr YT.out YR.out c4.pt S1.out.core.ok.pt;have iQ:=J hpo;have ay:=J hpb;have CN:=J hca;clear hpo hpb hca;go_wp2_with fail;obtain⟨d0,d1,d2,hd,KG,o0,o1,o2,-,-⟩:=S1.out.core.Ek;have Xh:=J<|Oo (c:=c4) (gq:=gq) (gt:=gt) (hd:=hd) (JC g) o0 o1 o2 0 U;have iW:=J<|Oo (c:=c4) (gq:=gq) (gt:=gt) (hd:=hd) (JC g) o0 o1 o2 11 U;have KG:=J KG;have PL:=J<|JC g;have XJ:Ed ((EL 56 g).toList.toArray=EL 56 g):=J Ej;clear o0 o1 o2;have y0: ∀y:Ext aQ,(EC aQ y).cell? ⟨gs,0,Z⟩=D (V (D ⟨gc,0,Z⟩)):=fun y=>(S1.out.B (EQ y)).IB;refine Oa 21 Ef Ef ?_;simp only[Is,Iq,IT,IM]
      repeat (first
       |go_big_quiet_skip
       |(go_big_quiet_want
         first
          |(refine Zf (T:=28) (g:=gc) (off:=0) U1 _ rfl rfl KG 0 rfl Xh.out PL.out ?_;(try rw[XJ.out]);go_simp;go_big_quiet_on)
          |(refine Zf (T:=50) (g:=gc) (off:=102) iP _ rfl rfl KG 11 rfl iW.out rfl ?_;(try rw[XJ.out]);go_simp;go_big_quiet_on)
          |(go_big_quiet_op
            first
             |go_big_quiet_on
             |go_big_quiet_call (with_reducible refine ao (CN.out _)))))
      refine I5 ?_;exact Env
   ·have t0':decide (0<=who)=EI:=IZ xz;obtain⟨m2,hm2⟩:=Eo m1;obtain⟨n2,hn2⟩:=Eo (n1:List Rec);have s12:=S1.out;rw[<-hm2,<-hn2] at s12;replace S1:=J s12;have jT:Ed (m2<=9):=J tF;have MY:Ed (n2.length<=9):=J (by rw[hn2];have:=ou.out;omega);have M0:Ed (∀x∈n1,x∈n2):=J (fun x hx=>by rw[hn2];exact hx);have HWW:Ed (0<=t1.Uu.2-> ∃x∈n2,x.k=12/\x.s=t1.Uu.2):=J<|fun h=>absurd (by rw[D0.out];exact h) xz;clear s12 hm2 hn2 xz jS ou D0 CE KB;have z0:=S1.out.IB;have z64:jC _ ⟨gc,64,Z⟩=D (V (D ⟨gq,0,Z⟩)):=S1.out.core.cell 2 rfl 0 Ej;go_wp2_with fail;refine(VY lo gq _ (pn g 48) _ S1.out.core.lq S1.out.core.ZC S1.out.core.ok.q S1.out.core.ok.ones).mono ?_;rintro e8 w8 ⟨⟨v8,rfl,o8⟩,q8,m8⟩;obtain⟨A,c8,rfl,-⟩:=aK o8;have mg:=J<|YN S1.out.core.ok;have xA:=S1.out.core.ok.kept;replace S1:=J<|S1.out.gV m8 _ q8 xA;replace MM:=J<|MM.out.trans (m8.jL hi);obtain⟨GQ,rd⟩:=Eo (bF (Jt L1));obtain⟨KQ,xB⟩:=Eo (X9 (Jt L1));obtain⟨n,hn⟩:=Eo GQ.length;rw[<-rd,<-hn] at mg o8;rw[<-xB] at S1;rw[<-rd,<-hn];have mh:=J hn.symm;have OA:=J o8;clear o8 q8 m8 xA z0 z64 rd xB hn;go_wp2_with fail;go_loopw[67] (fun y wr=> ∃(i m3:Nat) (n3:List Rec),i<=n/\y=E I i/\m3<=i/\n3.length<=i/\E9 lo hi g gc gq gt gs {c with T:=T1,tok:=t2,q:=KQ} (ns+m2+m3) (rs++(n2++n3)) wr/\EA lo hi w wr/\ ∃base,wr.ownsRow base 133 4 (G A n c8) n (UY GQ)) (fun y _=>n-(In y).toNat);case atStart=>exact⟨0,0,[],U,O,U,Ej,t_,MM.out,_,OA.out⟩
    case round=>
     obtain⟨i,m3,n3,xq,rfl,oE,xC,s9,m9,base,o9⟩:=hrel;replace S1:=J s9;replace MM:=J m9;replace OA:=J o9;have qH:=J oE;have D2:=J xC;clear s9 m9 o9 oE xC;by_cases hlt:i<n;·exact Enl
     ·obtain rfl:i=n:=U;have t1':decide ((i:Int)<(i:Int))=EI:=IZ U;go_wp2_with fail;refine(Yx lo hi g gc gq gt gs _ (ns+m2+m3) _ _ S1.out D3 D4).mono ?_;rintro e20 aQ ⟨rfl,⟨c4,m4,n4,xF,s20,i_⟩,xG⟩;replace S1:=J s20;replace MM:=J<|MM.out.trans xG;have HM4:=J xF;have mj:=J i_;clear s20 xG xF i_ OA;obtain⟨p',hpo,hpb,hca⟩:=YM g pr YT.out YR.out c4.pt S1.out.core.ok.pt;have iQ:=J hpo;have ay:=J hpb;have CN:=J hca;clear hpo hpb hca;go_wp2_with fail;obtain⟨d0,d1,d2,hd,KG,o0,o1,o2,-,-⟩:=S1.out.core.Ek;have Xh:=J<|Oo (c:=c4) (gq:=gq) (gt:=gt) (hd:=hd) (JC g) o0 o1 o2 0 U;have iW:=J<|Oo (c:=c4) (gq:=gq) (gt:=gt) (hd:=hd) (JC g) o0 o1 o2 11 U;have KG:=J KG;have PL:=J<|JC g;have XJ:Ed ((EL 56 g).toList.toArray=EL 56 g):=J Ej;clear o0 o1 o2;have y0: ∀y:Ext aQ,(EC aQ y).cell? ⟨gs,0,Z⟩=D (V (D ⟨gc,0,Z⟩)):=fun y=>(S1.out.B (EQ y)).IB;refine Oa 21 Ef Ef ?_;simp only[Is,Iq,IT,IM]
      repeat (first
       |go_big_quiet_skip
       |(go_big_quiet_want
         first
          |(refine Zf (T:=28) (g:=gc) (off:=0) U1 _ rfl rfl KG 0 rfl Xh.out PL.out ?_;(try rw[XJ.out]);go_simp;go_big_quiet_on)
          |(refine Zf (T:=50) (g:=gc) (off:=102) iP _ rfl rfl KG 11 rfl iW.out rfl ?_;(try rw[XJ.out]);go_simp;go_big_quiet_on)
          |(go_big_quiet_op
            first
             |go_big_quiet_on
             |go_big_quiet_call (with_reducible refine ao (CN.out _)))))
      refine I5 ?_;exact Env
theorem Eho:Od EZ 124 #[V Z,G Z 0 0,G Z 0 0]:=by exact En5
theorem Ehp(gc:Nat):Tryz.prog.built 124 [(0,V (D ⟨gc,0,Z⟩))]=D #[V (D ⟨gc,0,Z⟩),G Z 0 0,G Z 0 0]:=Ef
theorem M8:IL EZ 74 2:=⟨⟨_,Tryz.underlying74,O⟩,Ef⟩
theorem Ehq{hi:Nat}(C:JU lo g gc gq gt c W)(K:H W gs #[V (D ⟨gc,0,Z⟩),G Z 0 0,G Z 0 0] 124)(hc:gc<hi)(hq:gq<hi)(ht:gt<hi)(hl:lo<=hi)(hs:hi<=gs):E9 lo hi g gc gq gt gs c 0 [] W:=
 ⟨C,hc,hq,ht,hl,hs,_,_,⟨[],fun _ h=>absurd h Um⟩,K,cu _ _ _ _,cu _ _ _ _⟩
theorem JU.wn(C:JU lo g gc gq gt c W):gc<W.heap.size/\gq<W.heap.size/\gt<W.heap.size/\lo<=W.heap.size:=by obtain⟨_,_,_,_,k,_⟩:=C.Ek;obtain⟨_,_,k2,_⟩:=C.ZC;have kt:H W gt c.T.v.toArray 163:=C.tab;exact⟨k.lt,k2.lt,kt.lt,Ew C.lc (aH k.lt)⟩
def j6(lo hi:Nat)(g:Nat->Y)(gc gq gt:Nat)(R:Ey->Nat->List Rec->Prop)(w:M)(e:Ud)(w':M):Prop:=
 ∃(c':Ey) (ns:Nat) (new:List Rec) (sv rv:Y) (sc:ta) (hd:List Int),e=Ei (Ea (Jh (OZ c') sv rv hd).toArray)/\hd.length=32/\(∀x∈hd,0<=x/\x<=255)/\w'.ownsRow hi 264 2 sv ns sc.l/\w'.ownsRow hi 58 6 rv new.length (UC new)/\JU lo g gc gq gt c' w'/\R c' ns new/\EA lo hi w w'
theorem rh(act:List Y)(sv rv:Y)(hd:List Int)(h1:act.length=12)(h:hd.length=32):(Jh act sv rv hd).toArray.size=46:=by simp[Jh,h1,h]
theorem uJ(c:Ey)(A Y4:Option Ep)(n m d f:Nat)(hd:List Int):(Jh (OZ c) (G A n d) (G Y4 m f) hd).toArray.all (·.oneCell')=EJ:=by
 refine all_oneCell_toArray ?_;intro v hv;simp only[Jh,OZ,Xp,UJ,Um,or_false,dw] at hv;rcases hv with hv|(rfl|rfl)|⟨x,-,rfl⟩;·exact Eqz
 ·rfl
 ·rfl
 ·rfl
theorem EEg(lo:Nat)(g:Nat->Y)(gc gq gt:Nat)(c:Ey)(w:M)(C:JU lo g gc gq gt c w): Eg EZ 53 #[V (D ⟨gc,0,Z⟩)] w fun e w'=>e=Ei (Ec EJ)/\w=w':=by have U2:w.cell? ⟨gc,95,Z⟩=D (V (D ⟨gt,0,Z⟩)):=C.cell 6 rfl 0 Ej;go_enter Tryz.func53,Tryz.ntmps53;exact Enu
theorem xH(lo:Nat)(g:Nat->Y)(gc gq gt:Nat)(c:Ey)(w:M)(C:JU lo g gc gq gt c w): (Eg EZ 25 #[V (D ⟨gc,0,Z⟩)] w (j6 lo w.heap.size g gc gq gt (fun c2 ns new=>c2=c/\ns=0/\new=[]) w)) /\(Eg EZ 52 #[V (D ⟨gc,0,Z⟩)] w (j6 lo w.heap.size g gc gq gt (fun c2 ns new=>ns<=15/\new.length<=13/\xy c c2 new) w)) /\(∀bad:Bool,Eg EZ 51 #[V (D ⟨gc,0,Z⟩),Ec bad] w (j6 lo w.heap.size g gc gq gt (fun c2 ns new=>ns<=9/\oo bad c c2 new) w)) /\(∀(va gv:Bool) (x0 x1 x2 x3:Int) (hx:I_ x0/\I_ x1/\I_ x2/\I_ x3),Eg EZ 50 #[V (D ⟨gc,0,Z⟩),Ea #[Ec va,E I x0,E I x1,E I x2,E I x3,Ec gv]] w (j6 lo w.heap.size g gc gq gt (fun c2 ns new=>ns<=3/\ol c c2 new) w)) /\(∀(code:Int) (A:Option Ep) (n cap:Nat) (xs:List Int) (k:Int) (hk:1<=k/\k<=3) (hx:xs.length=n) (hnc:n<=cap) (hcap:cap<=9223372036854775807) (oc:n<=1000) (hr:Row w A xs),Eg EZ 49 #[V (D ⟨gc,0,Z⟩),E I k,Ea #[E I code,G A n cap]] w (j6 lo w.heap.size g gc gq gt (fun c2 ns new=>ns<=3/\mU g k code xs c c2 ns new) w)):=by
 have C0:=J C;have LT:=J C.wn;have BS:=J<|Ehp gc;clear C;refine⟨?n,?t,fun bad=> ?h,fun va gv x0 x1 x2 x3 hx=> ?s,fun code A n cap xs k hk hx hnc hcap oc hr=> ?i⟩;case' n=>(go_enter Tryz.func25,Tryz.ntmps25;go_wp2_with (with_reducible refine JE 5 ?_))
 case' t=>(go_enter Tryz.func52,Tryz.ntmps52;go_wp2_with (with_reducible refine JE 5 ?_))
 case' h=>(go_enter Tryz.func51,Tryz.ntmps51;go_wp2_with (with_reducible refine JE 7 ?_))
 case' s=>(have HX:=J hx;clear hx;go_enter Tryz.func50,Tryz.ntmps50;go_wp2_with (with_reducible refine JE 7 ?_))
 case' i=>(have HX:=J (JD hk (JD hx (JD hnc (JD hcap oc))));have xh:=J hr;have HLK:Ed (decide (1<=k/\k<=3)=EJ):=J (IJ hk);clear hk hx hnc hcap oc hr;go_enter Tryz.func49,Tryz.ntmps49;go_wp2_with (with_reducible refine JE 9 ?_))
 all_goals
  apply Es
  generalize hW:Xo _ _=w1 at*
  try have KI:Ed (H w1 (w.heap.size) #[Ec va,E I x0,E I x1,E I x2,E I x3,Ec gv] 46):=J (by subst hW;repeat (first|exact H.new _ _ _|exact H.new' _ _ _ Ej|refine H.alloc ?_ _))
  try have KI:Ed (H w1 (w.heap.size) #[E I code,G A n cap] 74):=J (by subst hW;repeat (first|exact H.new _ _ _|exact H.new' _ _ _ Ej|refine H.alloc ?_ _))
  have b1:Ed (El w w1):=J (by subst hW;(repeat (first|exact IU _ _|(refine J6 ?_ IF _)|(refine J7 ?_ IF _))))
  obtain⟨hi,hhi⟩:=Eo w.heap.size
  obtain⟨gi,hgi⟩:=Eo hi
  first
  |(have xK:Ed (∃z:Array Y,z.size=46/\H w1 (w.heap.size+1) z 43):=J (by subst hW;exact⟨_,rfl,H.new' _ _ _ Ej⟩)
    obtain⟨gz,hgz⟩:=Eo (w.heap.size+1)
    rw[<-hgz] at xK⊢
    rw[<-hhi] at KI⊢
    rw[show(V (D ⟨hi,0,Z⟩))=V (D ⟨gi,0,Z⟩) by rw[hgi]]
    rw[<-hgi] at KI)
  |(have xK:Ed (∃z:Array Y,z.size=46/\H w1 (w.heap.size) z 43):=J (by subst hW;exact⟨_,rfl,H.new _ _ _⟩)
    obtain⟨gz,hgz⟩:=Eo w.heap.size
    rw[<-hhi]
    rw[<-hgz] at xK
    rw[show(V (D ⟨hi,0,Z⟩))=V (D ⟨gz,0,Z⟩) by rw[hgz,hhi]])
  rw[<-hhi] at LT
  clear hW
  have HZ:=J (show hi<=gz/\w.heap.size<=gz/\hi=w.heap.size from U)
  have C1:=J<|C0.out.B b1.out
  try have RW:=J<|It xh.out b1.out
  have LW:=J (show hi<=w1.heap.size by have:=b1.out.size;omega)
  have MM:=J<|EA.ED (lo:=lo) (hi:=hi) b1.out
  clear b1 hgz hhi hgi C0
  have K0:=J<|H.new w1 #[V Z,G Z 0 0,G Z 0 0] 124
  have b2:=Er w1 (Eb #[V Z,G Z 0 0,G Z 0 0] 124)
  go_wp2_with (first|((with_reducible first|refine Io 5 ?_|refine Io 7 ?_|refine Io 9 ?_);refine I4 rfl 124 _ rfl #[V (D ⟨gc,0,Z⟩),G Z 0 0,G Z 0 0] BS.out ?_)|(with_reducible refine wA Eho ?_)|(with_reducible refine wS (cs:= #[V (D ⟨gc,0,Z⟩),G Z 0 0,G Z 0 0]) Ec9 K0 (Ex.mk ?_) (h1:=U9)))
  apply Es
  obtain⟨gs,hgs⟩:=Eo w1.heap.size
  rw[<-hgs] at K0⊢
  generalize w1.alloc (Eb #[V Z,G Z 0 0,G Z 0 0] 124)=w2 at*
  have KS:=J<|K0.out.setRow #[V (D ⟨gc,0,Z⟩),G Z 0 0,G Z 0 0]
  have b3:=EY (g:=gs) b2 (OC hgs.symm) #[V (D ⟨gc,0,Z⟩),G Z 0 0,G Z 0 0]
  generalize w2.setRow gs #[V (D ⟨gc,0,Z⟩),G Z 0 0,G Z 0 0]=w3 at*
  replace C1:=J<|C1.out.B b3
  replace MM:=J<|MM.out.trans (EA.ED b3)
  try replace KI:=EH KI b3
  try replace RW:=J<|It RW.out b3
  have KZ:Ed (∃z:Array Y,z.size=46/\H w3 gz z 43):=J (by obtain⟨z,h1,h2⟩:=xK.out;exact⟨z,h1,H.B h2 b3⟩)
  have SS:=J<|Ehq C1.out KS.out LT.out.1 LT.out.2.1 LT.out.2.2.1 LT.out.2.2.2 M9
  clear K0 b2 hgs b3 xK KS LW
  go_wp2_with fail
  first
  |(obtain⟨c',m,new,hm,s5,h5⟩: ∃c' m new,0+m=0/\E9 lo hi g gc gq gt gs c' (0+m) new w3/\c'=c/\0+m=0/\new=[]:=⟨c,0,[],rfl,SS.out,rfl,rfl,rfl⟩
    replace SS:=J s5
    clear s5
    refine(Vw lo hi g gc gq gt gs c' _ _ _ SS.out).mono ?_)
  |(try ((with_reducible refine(Lz k _).mono ?_);rintro e4 w4 ⟨rfl,rfl⟩;rw[HLK.out];go_wp2_with fail)
    refine(EEg lo g gc gq gt c _ C1.out).mono ?_
    rintro e4 w4 ⟨rfl,rfl⟩
    go_wp2_with (with_reducible first|refine wL DR KI ?_|refine wL M8 KI ?_)
    first
    |(with_reducible refine(Ehj lo hi g gc gq gt gs c 0 [] _ SS.out U Ej).mono ?_)
    |(with_reducible refine(Eha lo hi g gc gq gt gs c 0 [] bad _ SS.out U Ej).mono ?_)
    |(with_reducible refine(Eg8 lo hi g gc gq gt gs c 0 [] va gv x0 x1 x2 x3 _ SS.out HX.out U Ej).mono ?_)
    |(with_reducible refine(EgC lo hi g gc gq gt gs c 0 [] code A n cap xs k _ SS.out HX.out.1 HX.out.2.1 HX.out.2.2.1 HX.out.2.2.2.1 HX.out.2.2.2.2 RW.out U Ej).mono ?_)
    rintro e5 w5 ⟨rfl,⟨c',m,new,hm,h5⟩,ra⟩
    try replace h5:=and_left_comm.1 h5
    obtain⟨s5,h5⟩:=h5
    rw[ZZ] at s5
    replace SS:=J s5
    replace MM:=J<|MM.out.trans ra
    replace KZ:Ed (∃z:Array Y,z.size=46/\H w5 gz z 43):=J (by obtain⟨z,h1,h2⟩:=KZ.out;exact⟨z,h1,ra.Ek h2 EU EU⟩)
    clear s5 ra
    go_wp2_with fail
    refine(Vw lo hi g gc gq gt gs c' _ _ _ SS.out).mono ?_)
  clear C1
  rintro e6 w6 ⟨sv,rv,sc,hd,rfl,XI,XF,os,Xu,b6⟩
  obtain⟨z,hz,kz⟩:=KZ.out
  have ri:=J<|H.B kz b6
  have HZS:=J hz
  replace SS:=J<|SS.out.core.B b6
  replace MM:=J<|MM.out.trans (EA.ED b6)
  have OS:=J os
  have OR:=J Xu
  have HD:=J<|JD XI XF
  obtain⟨A1,e1,rfl,-⟩:=aK os
  obtain⟨A2,e2,rfl,-⟩:=aK Xu
  have TS:=J<|rh (OZ c') (G A1 (0+m) e1) (G A2 new.length e2) hd rfl XI
  have TO:=J<|uJ c' A1 A2 (0+m) new.length e1 e2 hd
  obtain⟨tv,E2⟩: ∃tv,tv=(Jh (OZ c') (G A1 (0+m) e1) (G A2 new.length e2) hd).toArray:=⟨_,rfl⟩
  rw[<-E2] at TS TO⊢
  have Oq:=J E2
  clear os Xu XI XF E2 b6 kz hz KZ
  go_wp2_with (with_reducible refine wS (cs:=tv) fK ri ?_ (ho:=HZS.out) (hn:=TS.out) (h1:=TO.out))
  refine ET (Jd fK rfl _ _ gz tv rfl (ri.out.setRow tv) TS.out) rfl ?_
  have ho:=J9 (g:=gz) (W:=w6) tv
  have hz2:=HZ.out
  obtain⟨hz3,Cr,Cs⟩:=hz2
  subst Cs
  have hb:=ho.bel lo (by have:=LT.out;omega) (by have:=ri.out.lt;have:=LT.out;omega)
  refine⟨c',_,_,_,_,sc,hd,gR,HD.out.1,HD.out.2,EG OS.out fun _ _ h=>ho.Ek h (E6 h ri.out EU),EG OR.out fun _ _ h=>ho.Ek h (E6 h ri.out EU),?_,by first|exact h5|exact⟨U,h5⟩|exact⟨U,by rw[Ox];exact h5⟩,?_⟩
  ·exact SS.out.via (fun k cs S hS hk=>ho.Ek hk (E6 hk ri.out aZ)) hb
  ·exact MM.out.only ho Cr hz3 ri.out.lt
theorem Eht(lo:Nat)(g:Nat->Y)(gc gq gt:Nat)(c:Ey)(w:M)(C:JU lo g gc gq gt c w): Eg EZ 25 #[V (D ⟨gc,0,Z⟩)] w (j6 lo w.heap.size g gc gq gt (fun c2 ns new=>c2=c/\ns=0/\new=[]) w):=
 (xH lo g gc gq gt c w C).1
theorem Ehu(lo:Nat)(g:Nat->Y)(gc gq gt:Nat)(c:Ey)(w:M)(C:JU lo g gc gq gt c w): Eg EZ 52 #[V (D ⟨gc,0,Z⟩)] w (j6 lo w.heap.size g gc gq gt (fun c2 ns new=>ns<=15/\new.length<=13/\xy c c2 new) w):=
 (xH lo g gc gq gt c w C).2.1
theorem Ehv(lo:Nat)(g:Nat->Y)(gc gq gt:Nat)(c:Ey)(bad:Bool)(w:M)(C:JU lo g gc gq gt c w): Eg EZ 51 #[V (D ⟨gc,0,Z⟩),Ec bad] w (j6 lo w.heap.size g gc gq gt (fun c2 ns new=>ns<=9/\oo bad c c2 new) w):=
 (xH lo g gc gq gt c w C).2.2.1 bad
theorem Ehw(lo:Nat)(g:Nat->Y)(gc gq gt:Nat)(c:Ey)(va gv:Bool)(x0 x1 x2 x3:Int)(w:M)(C:JU lo g gc gq gt c w)(hx:I_ x0/\I_ x1/\I_ x2/\I_ x3): Eg EZ 50 #[V (D ⟨gc,0,Z⟩),Ea #[Ec va,E I x0,E I x1,E I x2,E I x3,Ec gv]] w (j6 lo w.heap.size g gc gq gt (fun c2 ns new=>ns<=3/\ol c c2 new) w):=
 (xH lo g gc gq gt c w C).2.2.2.1 va gv x0 x1 x2 x3 hx
theorem Ehx(lo:Nat)(g:Nat->Y)(gc gq gt:Nat)(c:Ey)(code:Int)(A:Option Ep)(n cap:Nat)(xs:List Int)(k:Int)(w:M)(C:JU lo g gc gq gt c w)(hk:1<=k/\k<=3)(hx:xs.length=n)(hnc:n<=cap)(hcap:cap<=9223372036854775807)(oc:n<=1000)(hr:Row w A xs): Eg EZ 49 #[V (D ⟨gc,0,Z⟩),E I k,Ea #[E I code,G A n cap]] w (j6 lo w.heap.size g gc gq gt (fun c2 ns new=>ns<=3/\mU g k code xs c c2 ns new) w):=
 (xH lo g gc gq gt c w C).2.2.2.2 code A n cap xs k hk hx hnc hcap oc hr
def JI:List Int->Nat
 |[]=>0
 |x::r=>if x=165 then 0 else JI r+1
theorem uO: ∀xs,JI xs<=xs.length
 |[]=>E3 _
 |x::r=>by
  unfold JI;split;·exact aO _
  ·have:=uO r;simp;exact this
theorem EEh(b:List Int): ∀a,JI (a++b)=if JI a<a.length then JI a else a.length+JI b
 |[]=>by simp[JI]
 |x::r=>by
  have h:=EEh b r;have hl:=uO r;show(if x=165 then 0 else JI (r++b)+1)=if(if x=165 then 0 else JI r+1)<r.length+1 then(if x=165 then 0 else JI r+1) else r.length+1+JI b
  by_cases hx:x=165;·simp[hx]
  ·rw[if_neg hx,if_neg hx,h];by_cases h1:JI r<r.length;·rw[if_pos h1,if_pos U]
   ·rw[if_neg h1,if_neg U];omega
structure bP where
 kd:Int
 sz:Nat
 cd:Int
 b:List Int
def ZI:bP:=⟨0,0,0,[]⟩
def bQ(c:Int):bP:=⟨3,1,c,[]⟩
def dg(n:Nat):bP:=⟨1,n,0,[]⟩
def j7(xs:List Int):bP:=⟨2,xs.length+5,0,xs⟩
def Z6(v n:Int)(r:List Int):bP:=
 if 32<n then bQ 11 else if(r.length:Int)<n+2 then ZI else if Ug (v::n::r.take n.toNat)≠256*r.getD n.toNat 0+r.getD (n.toNat+1) 0 then bQ 12 else j7 (r.take n.toNat)
def xL:List Int->bP
 |[]=>ZI
 |n::r=>Z6 1 n r
def j8:List Int->bP
 |[]=>ZI
 |v::r=>if v≠1 then bQ 10 else xL r
def nx:List Int->bP
 |[]=>ZI
 |a::r=>if a≠165 then dg (JI (a::r)) else j8 r
theorem dh(a:Int)(r:List Int):nx (a::r)=if a≠165 then dg (JI (a::r)) else j8 r:=rfl
theorem j9(v:Int)(r:List Int):j8 (v::r)=if v≠1 then bQ 10 else xL r:=rfl
def bP.item(f:bP):List (Int×List Int):=if f.kd=2 then [(0,f.b)] else if f.kd=3 then [(f.cd,[])] else []
def Og(xs:List Int):Prop:= ∀x∈xs,0<=x/\x<=255
theorem Og.dr{xs:List Int}(h:Og xs)(k:Nat):Og (xs.drop k):=fun y hy=>h y (List.mem_of_mem_drop hy)
theorem Og.tk{xs:List Int}(h:Og xs)(k:Nat):Og (xs.take k):=fun y hy=>h y (iI hy)
theorem Og.app{xs ys:List Int}(h:Og xs)(k:Og ys):Og (xs++ys):=fun y hy=>by
 rcases Xp.1 hy with h1|h1;·exact h y h1
 ·exact k y h1
inductive NxC(xs:List Int)(f:bP):Prop
 |wait (h:f=ZI)
 |ox (c:Int) (h:f=bQ c) (hc:c=10\/c=11\/c=12) (hl:1<=xs.length)
 |skip (h:f=dg (JI xs)) (h1:1<=JI xs)
 |frame (n:Nat) (h:f=j7 ((xs.drop 3).take n)) (hl:n+5<=xs.length) (hn:n<=32)
theorem xM(xs:List Int)(hb:Og xs):NxC xs (nx xs):=by
 match xs,hb with
 |[],_=>exact .wait O
 |a::r,hb=>
  by_cases h1:a≠165;·refine .skip (by rw[dh,if_pos h1]) ?_;unfold JI;rw[if_neg h1];omega
  ·have e1:nx (a::r)=j8 r:=by rw[dh,if_neg h1]
   rw[e1];match r,hb with
   |[],_=>exact .wait O
   |v::r2,hb=>
    by_cases h2:v≠1;·exact .ox 10 (by rw[j9,if_pos h2]) (.inl O) Ej
    ·have e2:j8 (v::r2)=xL r2:=by rw[j9,if_neg h2]
     rw[e2];match r2,hb with
     |[],_=>exact .wait O
     |n::r3,hb=>
      show NxC _ (Z6 1 n r3);have hn:=hb n Ej;unfold Z6;split;·exact .ox 11 rfl (.inr (.inl O)) Ej
      ·split;·exact .wait O
       ·split;·exact .ox 12 rfl (.inr (.inr O)) Ej
        ·exact .frame n.toNat Ej I8 U
theorem Ehy(ys:List Int)(n:Nat)(h:n<=ys.length):(j7 (ys.take n)).sz=n+5:=by simp[j7];omega
theorem xN{xs:List Int}(hb:Og xs)(h:(nx xs).kd≠0):1<=(nx xs).sz/\(nx xs).sz<=xs.length:=by
 cases xM xs hb with
 |wait e=>rw[e] at h;exact absurd O h
 |ox c e _ hl=>rw[e];exact⟨E3 _,hl⟩
 |skip e h1=>rw[e];exact⟨h1,uO _⟩
 |frame n e hl hn=>rw[e,Ehy _ _ I8];omega
theorem Ehz{xs:List Int}(hb:Og xs):(nx xs).b.length<=32/\Og (nx xs).b:=by
 cases xM xs hb with
 |wait e=>rw[e];exact⟨by simp[ZI],by intro y hy;simp[ZI] at hy⟩
 |ox c e _ hl=>rw[e];exact⟨by simp[bQ],by intro y hy;simp[bQ] at hy⟩
 |skip e h1=>rw[e];exact⟨by simp[dg],by intro y hy;simp[dg] at hy⟩
 |frame n e hl hn=>rw[e];exact⟨by simp[j7];omega,(hb.dr 3).tk n⟩
inductive JR:List Int->List (Int×List Int)->List Int->Prop
 |wait {xs} (h:(nx xs).kd=0):JR xs [] xs
 |step {xs its r} (h:(nx xs).kd≠0) (t:JR (xs.drop (nx xs).sz) its r):JR xs ((nx xs).item++its) r
theorem JR.xP{xs i r}(h:JR xs i r): ∀{i' r'},JR xs i' r'->i=i'/\r=r':=by
 induction h with
 |wait h=>
  intro i' r' k;cases k with
  |wait=>exact⟨O,O⟩
  |step h' _=>exact absurd h h'
 |step h t ih=>
  intro i' r' k;cases k with
  |wait h'=>exact absurd h' h
  |step _ t'=>obtain⟨rfl,rfl⟩:=ih t';exact⟨O,O⟩
theorem JR.ex: ∀(n:Nat) (xs:List Int),xs.length<=n->Og xs-> ∃i r,JR xs i r
 |0,xs,h,_=>⟨[],xs,.wait (by have:xs=[]:=ZP U;subst this;rfl)⟩
 |n+1,xs,h,hb=>by
  by_cases h0:(nx xs).kd=0;·exact⟨_,_,.wait h0⟩
  ·have hs:=xN hb h0;obtain⟨i,r,t⟩:=JR.ex n (xs.drop (nx xs).sz) (by rw[il];omega) (hb.dr _);exact⟨_,_,.step h0 t⟩
theorem JR.left{xs i r}(h:JR xs i r): ∃k,r=xs.drop k:=by
 induction h with
 |wait h=>exact⟨0,O⟩
 |step h t ih=>obtain⟨k,e⟩:=ih;exact⟨_,by rw[e,List.drop_drop]⟩
def EEj(i:Int×List Int):Prop:=Og i.2/\i.2.length<=32/\(i.1=0\/i.1=10\/i.1=11\/i.1=12)
theorem EhA{xs:List Int}(hb:Og xs): ∀i∈(nx xs).item,EEj i:=by
 intro i hi;have hbd:=Ehz hb;unfold bP.item at hi;split at hi;·simp at hi;subst hi;exact⟨hbd.2,hbd.1,.inl O⟩
 ·split at hi
  ·rename_i h3;simp at hi;subst hi;refine⟨by intro y hy;simp at hy,Ej,?_⟩;cases xM xs hb with
   |wait e=>rw[e] at h3;cases h3
   |ox c e hc hl=>rw[e];exact .inr hc
   |skip e h1=>rw[e] at h3;cases h3
   |frame n e hl hn=>rw[e] at h3;cases h3
  ·simp at hi
theorem JR.ok{xs i r}(h:JR xs i r):Og xs->(∀x∈i,EEj x)/\Og r:=by
 induction h with
 |wait h=>exact fun hb=>⟨Ej,hb⟩
 |step h t ih=>
  intro hb;obtain⟨h1,h2⟩:=ih (hb.dr _);refine⟨fun x hx=> ?_,h2⟩;rcases Xp.1 hx with h3|h3;·exact EhA hb x h3
  ·exact h1 x h3
theorem JR.len{xs i r}(h:JR xs i r):Og xs->i.length+r.length<=xs.length:=by
 induction h with
 |wait h=>exact fun hb=>Ej
 | @step xs its r h t ih=>
   intro hb;have h1:=ih (hb.dr _);have h2:=xN hb h;have h3:(nx xs).item.length<=1:=by unfold bP.item;split<;>(try split)<;>simp
   rw[IY];rw[il] at h1;omega
theorem EhB{a:List Int}(b:List Int)(hb:Og a)(h0:(nx a).kd≠0)(h1:(nx a).kd≠1):nx (a++b)=nx a:=by
 match a,hb,h0,h1 with
 |[],_,h0,_=>exact absurd O h0
 |x::r,hb,h0,h1=>
  by_cases hx:x≠165;·exact absurd (by rw[dh,if_pos hx];rfl) h1
  ·have e1: ∀r,nx (x::r)=j8 r:=fun r=>by rw[dh,if_neg hx]
   rw[ku,e1,e1];rw[e1] at h0 h1;match r,hb,h0 with
   |[],_,h0=>exact absurd O h0
   |v::r2,hb,h0=>
    by_cases h2:v≠1
    ·show(if v≠1 then _ else _)=if v≠1 then _ else _
     rw[if_pos h2,if_pos h2]
    ·have e2: ∀r,j8 (v::r)=xL r:=fun r=>by rw[j9,if_neg h2]
     rw[ku,e2,e2];rw[e2] at h0;match r2,hb,h0 with
     |[],_,h0=>exact absurd O h0
     |n::r3,hb,h0=>
      have hn:=hb n Ej;show Z6 1 n (r3++b)=Z6 1 n r3;have h0':(Z6 1 n r3).kd≠0:=h0;unfold Z6 at h0'⊢;by_cases h3:32<n;·rw[if_pos h3,if_pos h3]
      ·rw[if_neg h3] at h0'⊢;rw[if_neg h3];by_cases h4:(r3.length:Int)<n+2;·rw[if_pos h4] at h0';exact absurd O h0'
       ·rw[if_neg h4,if_neg (by rw[IY];omega),List.take_append_of_le_length U];have g1:(r3++b).getD n.toNat 0=r3.getD n.toNat 0:=by rw[OE,OE,Z_ U]
        have g2:(r3++b).getD (n.toNat+1) 0=r3.getD (n.toNat+1) 0:=by rw[OE,OE,Z_ U]
        rw[g1,g2]
theorem EhC{xs:List Int}(hb:Og xs)(h:(nx xs).kd=1):nx xs=dg (JI xs)/\1<=JI xs:=by
 cases xM xs hb with
 |wait e=>rw[e] at h;cases h
 |ox c e hc hl=>rw[e] at h;cases h
 |skip e h1=>exact⟨e,h1⟩
 |frame n e hl hn=>rw[e] at h;cases h
theorem EEk{xs:List Int}(h:1<=JI xs):nx xs=dg (JI xs):=by
 match xs,h with
 |x::r,h=>
  have hx:x≠165:=fun e=>by unfold JI at h;rw[if_pos e] at h;omega
  rw[dh,if_pos hx]
theorem JR.nil{i r}(h:JR [] i r):i=[]/\r=[]:=by
 cases h with
 |wait=>exact⟨O,O⟩
 |step h _=>exact absurd O h
theorem JR.more{a i r}(h:JR a i r): ∀(b:List Int),Og a->Og b-> ∀{i2 r2},JR (a++b) i2 r2-> ∃i3,i2=i++i3/\JR (r++b) i3 r2:=by
 induction h with
 |wait h=>exact fun b _ _ i2 r2 k=>⟨i2,O,k⟩
 | @step xs its r h t ih=>
   intro b ha hb i2 r2 k;have hs:=xN ha h;by_cases h1:(nx xs).kd=1
   ·obtain⟨e,hm⟩:=EhC ha h1;have uU:=EEh b xs;have hle:=uO xs;have hit:(nx xs).item=[]:=xQ;have e2:nx (xs++b)=dg (JI (xs++b)):=EEk (by rw[uU];split<;>omega)
    have k2:JR ((xs++b).drop (JI (xs++b))) i2 r2:=by
     cases k with
     |wait h'=>rw[e2] at h';cases h'
     |step _ t'=> rw[e2] at t';rw[show(nx (xs++b)).item=[] by rw[e2];rfl];exact t'
    rw[hit,ZZ];rw[show(nx xs).sz=JI xs from xQ] at t ih;by_cases hlt:JI xs<xs.length;·rw[uU,if_pos hlt,List.drop_append_of_le_length hle] at k2;exact ih b (ha.dr _) hb k2
    ·rw[uU,if_neg hlt] at k2;have hx:xs.drop (JI xs)=[]:=pT U;rw[hx] at t;obtain⟨rfl,rfl⟩:=t.nil;rw[List.drop_append,pT U,ZZ,Nat.add_sub_cancel_left] at k2;refine⟨i2,O,?_⟩;rw[ZZ];by_cases hb1:1<=JI b;·have e3:=EEk hb1;have:=JR.step (xs:=b) (its:=i2) (r:=r2) (by rw[e3];exact(EU:(1:Int)≠0)) (by rw[e3];exact k2);rw[show(nx b).item=[] by rw[e3];rfl] at this;exact this
     ·rw[show JI b=0 from U] at k2;exact k2
   ·have e:=EhB b ha h h1;cases k with
    |wait h'=>rw[e] at h';exact absurd h' h
    |step _ t'=> rw[e,List.drop_append_of_le_length hs.2] at t';obtain⟨i3,rfl,p⟩:=ih b (ha.dr _) hb t';exact⟨i3,by rw[e,U7],p⟩
inductive bR(g:Nat->Y)(k:Int):List (Int×List Int)->Ey->Ey->Nat->List Rec->Prop
 |nil (c:Ey):bR g k [] c c 0 []
 |cons {i:Int×List Int} {r:List (Int×List Int)} {c c1 c2:Ey} {m n:Nat} {a b:List Rec}:mU g k i.1 i.2 c c1 m a->bR g k r c1 c2 n b->bR g k (i::r) c c2 (m+n) (a++b)
theorem bR.snoc{its:List (Int×List Int)}{a:List Rec}(h:bR g k its c c1 m a){i:Int×List Int}{b:List Rec}(h2:mU g k i.1 i.2 c1 c2 n b):bR g k (its++[i]) c c2 (m+n) (a++b):=by
 induction h with
 |nil c=>simpa using bR.cons h2 (.nil _)
 |cons h1 t ih=>rw[ku,jx,U7];exact .cons h1 (ih h2)
theorem rO.len(h:rO g k l c c' new):new.length<=2:=by
 rcases h with⟨_,rfl⟩|⟨_,_,_,rfl⟩|⟨_,_,_,_,_,_,_,rfl⟩|⟨_,_,_,_,_,rfl⟩|⟨_,_,_,rfl⟩|⟨_,_,_,rfl⟩|⟨rfl,_⟩;·simp
 ·split<;>simp
 all_goals simp
theorem mU.len{xs:List Int}(h:mU g k code xs c c' m new):new.length<=2:=by
 rcases h with⟨_,_,_,rfl,_⟩|⟨_,_,_,_,rfl,_⟩|⟨_,_,_,_,h⟩;·simp
 ·simp
 ·exact h.len
theorem bR.len{its:List (Int×List Int)}{a:List Rec}(h:bR g k its c c1 m a):a.length<=its.length*2:=by
 induction h with
 |nil=>simp
 |cons h1 t ih=>have:=h1.len;simp only[IY,Zn];omega
structure JX where
 (kind src:Int)
 b:List Int
 valid:Bool
 (x0 x1 x2 x3:Int)
 give:Bool
 bad:Bool
def rj(g:Nat->Y)(e:JX)(c:Ey)(rs:Int->List Int)(c':Ey)(rs':Int->List Int)(m:Nat)(new:List Rec):Prop:=
 (e.kind=0/\1<=e.src/\e.src<=3/\ ∃its r,JR (rs e.src++e.b) its r/\rs'=(fun s=>if s=e.src then r else rs s)/\bR g e.src its c c' m new)
 \/(e.kind=1/\rs'=rs/\ol c c' new)
 \/(e.kind=2/\rs'=rs/\oo e.bad c c' new)
 \/(e.kind=3/\rs'=rs/\xy c c' new)
 \/((e.kind≠1/\e.kind≠2/\e.kind≠3/\(e.kind=0-> ¬(1<=e.src/\e.src<=3)))/\rs'=rs/\c'=c/\m=0/\new=[])
structure oy(c c':Ey):Prop where
 tok:c'.tok=c.tok
 q:c'.q=c.q
 mode:c'.mode=c.mode
 En:c'.En=c.En
 pt:c'.pt=c.pt
 on: ∀i,c'.T.XN i=c.T.XN i
 role: ∀i,c'.T.cL i=c.T.cL i
theorem oy.refl(c:Ey):oy c c:=⟨O,O,O,O,O,fun _=>rfl,fun _=>rfl⟩
def EEl(new:List Rec):Prop:= ∀x∈new,x.k=1
theorem EhD{v:Option (Nat×Nat)}(m:Nat)(h:(O_ v n).2=EI):(O_ (O_ v m).1 n).2=EI:=by
 match v,h with
 |none,h=>cases h
 |some (a,s),h=>
  unfold O_ at h;dsimp only at h;by_cases h1:a<n;·rw[if_pos h1] at h;cases h
  ·rw[if_neg h1] at h;unfold O_;dsimp only;by_cases h2:a<m
   ·rw[if_pos h2];dsimp only;rw[if_neg U];by_cases h3:m-n<64;·rw[if_pos h3];rw[if_pos U] at h;have e:m-n=(m-a)+(a-n):=U;have hb:s.testBit (a-n)=EJ:=Ov;simp only[Nat.testBit_or,Nat.testBit_mod_two_pow,Bool.not_eq_false'];rw[IJ h3,Bool.true_and,e,Nat.mul_comm,Nat.testBit_two_pow_mul,IJ U,Bool.true_and,Nat.add_sub_cancel_left,hb,Bool.true_or]
    ·rw[if_neg h3]
   ·rw[if_neg h2];by_cases h3:a-m<64
    ·rw[if_pos h3];dsimp only;rw[if_neg h1];by_cases h4:a-n<64;·rw[if_pos h4] at h⊢;have hb:s.testBit (a-n)=EJ:=Ov;simp only[Nat.testBit_or,hb,Bool.true_or,Bool.not_true]
     ·rw[if_neg h4]
    ·rw[if_neg h3];dsimp only;rw[if_neg h1];exact h
theorem EhF(v:Option (Nat×Nat))(n:Nat):(O_ (O_ v n).1 n).2=EI:=by
 match v with
 |none=>unfold O_;simp
 |some (a,s)=>
  unfold O_;dsimp only;by_cases h1:a<n;·rw[if_pos h1];dsimp only;rw[if_neg U,if_pos U];simp
  ·rw[if_neg h1];by_cases h2:a-n<64;·rw[if_pos h2];dsimp only;rw[if_neg h1,if_pos h2];simp
   ·rw[if_neg h2];dsimp only;rw[if_neg h1,if_neg h2]
theorem EK.xR{i:Nat}(s:JF)(hi:i<3):(T.put i s).E4 i=s:=by
 match i,hi with
 |0,_=>rfl
 |1,_=>rfl
 |2,_=>rfl
def oz(T:EK)(k:Int)(xs:List Int):Prop:=(T.take k xs).code≠0
structure fW(T T':EK)(k:Int):Prop where
 ok:(T'.E4 (k-1).toNat).on=EI\/((T.E4 (k-1).toNat).on=EJ/\(T'.E4 (k-1).toNat).key=(T.E4 (k-1).toNat).key/\ ∀n,(O_ (T.E4 (k-1).toNat).win n).2=EI->(O_ (T'.E4 (k-1).toNat).win n).2=EI)
theorem fW.refl(T:EK)(k:Int):fW T T k:=⟨by
 by_cases h:(T.E4 (k-1).toNat).on=EJ;·exact .inr ⟨h,O,fun _ h=>h⟩
 ·exact .inl Ov⟩
theorem fW.trans{a b c:EK}(h:fW a b k)(t:fW b c k):fW a c k:=⟨by
 rcases t.ok with t1|⟨t1,t2,t3⟩;·exact .inl t1
 ·rcases h.ok with h1|⟨h1,h2,h3⟩;·rw[h1] at t1;cases t1
  ·exact .inr ⟨h1,t2.trans h2,fun n hn=>t3 n (h3 n hn)⟩⟩
theorem fW.deaf{T':EK}{xs:List Int}(h:fW T T' k)(d:oz T k xs):oz T' k xs:=by
 unfold oz EK.take at*;rcases h.ok with h1|⟨h1,h2,h3⟩;·rw[if_neg (by rw[h1];simp)];simp
 ·by_cases hc:(k=1\/k=2\/k=3)/\(T'.E4 (k-1).toNat).on=EJ
  ·rw[if_pos hc,h2];rw[if_pos ⟨hc.1,h1⟩] at d;by_cases hs:s_ (T.E4 (k-1).toNat).key k xs
   ·rw[if_pos hs] at d⊢;unfold Zw at*;split;·simp
    ·rename_i l hl;rw[hl] at d;dsimp only at d;split;·simp
     ·rename_i hn;rw[if_neg hn] at d;by_cases hw:(O_ (T.E4 (k-1).toNat).win (l.getD 1 0).toNat).2=true;·rw[if_pos hw] at d;exact absurd rfl d
      ·rw[if_neg (by rw[h3 _ (by simpa using hw)];simp)];simp
   ·rw[if_neg hs];simp
  ·rw[if_neg hc];simp
theorem EhG(T:EK)(k:Int)(hk:1<=k/\k<=3)(xs:List Int):fW T (T.take k xs).tab k/\oz (T.take k xs).tab k xs:=by
 have hi:(k-1).toNat<3:=U;by_cases h0:(T.take k xs).code=0
 ·unfold EK.take at h0;split at h0
  ·rename_i hc;split at h0
   ·rename_i hs;unfold Zw at h0;split at h0;·cases h0
    ·rename_i l hl;split at h0;·cases h0
     ·rename_i hn;split at h0
      ·rename_i hw;have e:(T.take k xs).tab=T.put (k-1).toNat ⟨true,0,max T.Iu 0,(T.E4 (k-1).toNat).r,(T.E4 (k-1).toNat).key,(O_ (T.E4 (k-1).toNat).win (l.getD 1 0).toNat).1⟩:=by unfold EK.take;rw[if_pos hc,if_pos hs];unfold Zw;rw[hl];dsimp only;rw[if_neg hn,if_pos hw]
       rw[e];refine⟨⟨.inr ⟨hc.2,?_,fun n hn=> ?_⟩⟩,?_⟩;·rw[EK.xR _ hi]
       ·rw[EK.xR _ hi];exact EhD _ hn
       ·unfold oz EK.take;rw[EK.xR _ hi,if_pos ⟨hc.1,rfl⟩,if_pos hs];unfold Zw;rw[hl];dsimp only;rw[if_neg hn,EK.xR _ hi,if_neg (by rw[EhF];simp)];simp
      ·cases h0
   ·cases h0
  ·cases h0
 ·rw[YE T k xs h0];exact⟨.refl _ _,h0⟩
theorem EhH(T:EK)(k:Int)(hk:1<=k/\k<=3):fW T (T.iR k) k:=by
 unfold EK.iR;rw[if_pos U];split;·exact⟨.inl (by rw[EK.xR _ U];rfl)⟩
 ·exact .refl _ _
theorem EhK(hk:1<=k/\k<=3)(w:rO g k l c c' new):fW c.T c'.T k:=by
 rcases w with⟨rfl,rfl⟩|⟨_,_,rfl,rfl⟩|⟨_,_,_,_,_,_,rfl,rfl⟩|⟨_,_,_,_,rfl,rfl⟩|⟨_,_,rfl,rfl⟩|⟨_,_,rfl,rfl⟩|⟨rfl,rfl|⟨p,hp,rfl⟩⟩;·exact .refl _ _
 ·exact EhH _ _ hk
 all_goals exact .refl _ _
def uX(i:Int×List Int):Prop:=fT i.2 1=EI/\fT i.2 2=EI
theorem EhL{i:Int×List Int}(hk:1<=k/\k<=3)(hn:uX i)(w:mU g k i.1 i.2 c c' m new):fW c.T c'.T k/\(i.1=0->oz c'.T k i.2):=by
 rcases w with⟨_,rfl,_,_,h⟩|⟨_,h,_⟩|⟨_,_,_,h0,w⟩
 ·refine⟨.refl _ _,fun h0=> ?_⟩;rcases h with h|h|h|h;·exact absurd h0 h
  ·rw[hn.1] at h;cases h
  ·rw[hn.2] at h;cases h
  ·exact h
 ·rw[hn.1,hn.2] at h;rcases h with h|h<;>cases h
 ·have h1:=EhG c.T k hk i.2;have h2:=EhK hk w;exact⟨h1.1.trans h2,fun _=>h2.deaf h1.2⟩
theorem EhM{its:List (Int×List Int)}(hk:1<=k/\k<=3)(w:bR g k its c c' m new):(∀i∈its,uX i)->fW c.T c'.T k/\ ∀i∈its,i.1=0->oz c'.T k i.2:=by
 induction w with
 |nil=>exact fun _=>⟨.refl _ _,fun _ h=>absurd h (Um)⟩
 |cons h1 t ih=>
  intro hn;obtain⟨a1,a2⟩:=EhL hk (hn _ (dq ..)) h1;obtain⟨b1,b2⟩:=ih fun i hi=>hn i (XU _ hi);refine⟨a1.trans b1,fun i hi h0=> ?_⟩;rcases UJ.1 hi with rfl|hi;·exact b1.deaf (a2 h0)
  ·exact b2 i hi h0
theorem EhN{its:List (Int×List Int)}(w:bR g k its c c' m new):(∀i∈its,uX i)->(∀i∈its,i.1=0->oz c.T k i.2)->c'=c/\m=0/\new.length=its.length/\EEl new:=by
 induction w with
 |nil=>exact fun _ _=>⟨O,O,O,fun _ h=>absurd h (Um)⟩
 |cons h1 t ih=>
  intro hn hd;have n1:=hn _ (dq ..);have d1:=hd _ (dq ..);rcases h1 with⟨cd,rfl,rfl,rfl,h⟩|⟨_,h,_⟩|⟨h1,_,_,h0,w⟩
  ·obtain⟨rfl,rfl,h3,h4⟩:=ih (fun i hi=>hn i (XU _ hi)) fun i hi=>hd i (XU _ hi);refine⟨O,O,by simp[h3],fun x hx=> ?_⟩;rcases Xp.1 hx with hx|hx;·rw[mX.1 hx]
   ·exact h4 x hx
  ·rw[n1.1,n1.2] at h;rcases h with h|h<;>cases h
  ·exact absurd h0 (d1 h1)
theorem EhP{e:JX}{j_:Int->List Int}{m2:Nat}{new2:List Rec}{its:List (Int×List Int)}(hk:e.kind=0)(hs:1<=e.src/\e.src<=3)(h0:rs e.src=[])(hp:JR e.b its [])(hn: ∀i∈its,uX i)(w:rj g e c rs c' rs' m new)(w2:rj g e c' rs' c2 j_ m2 new2):c2=c'/\m2=0/\new2.length=its.length/\EEl new2/\rs' e.src=[]/\j_ e.src=[]:=by
 rcases w with⟨_,h1,h2,EEm,r1,p1,rfl,w⟩|⟨h1,_⟩|⟨h1,_⟩|⟨h1,_⟩|⟨h1,_⟩
 ·rw[h0,ZZ] at p1;obtain⟨rfl,rfl⟩:=p1.xP hp;rcases w2 with⟨_,_,_,EhQ,r2,p2,rfl,w2⟩|⟨h1,_⟩|⟨h1,_⟩|⟨h1,_⟩|⟨h1,_⟩;·simp only[if_true,ZZ] at p2;obtain⟨rfl,rfl⟩:=p2.xP hp;have hl:=EhM hs w hn;obtain⟨a,b,d,f⟩:=EhN w2 hn hl.2;exact⟨a,b,d,f,Ej,Ej⟩
  ·omega
  ·omega
  ·omega
  ·exact absurd hs (h1.2.2.2 hk)
 ·omega
 ·omega
 ·omega
 ·exact absurd hs (h1.2.2.2 hk)
def di(g:Nat->Y)(t:EN):Prop:=0<=t.o->t.om=max (pn g 44) 0
theorem di.say(h:di g c.tok)(w:rO g k l c c' new):di g c'.tok/\c.tok.e<=c'.tok.e:=by
 rcases w with⟨rfl,rfl⟩|⟨_,_,rfl,rfl⟩|⟨L',t2,hw,EmC,te,hto,rfl,rfl⟩|⟨_,_,_,_,rfl,rfl⟩|⟨h1,h2,rfl,rfl⟩|⟨h1,h2,rfl,rfl⟩|⟨rfl,rfl|⟨p,hp,rfl⟩⟩;·exact Eqp
 ·show di g (c.tok.drop k).1/\c.tok.e<=(c.tok.drop k).1.e;unfold EN.drop;split;·exact⟨h,Zz _⟩
  ·exact⟨fun h=>by simp[EN.end_] at h,Zz _⟩
 ·exact Eqj
 ·exact Eqp
 ·exact⟨fun h=>by simp[EN.end_] at h,Zz _⟩
 ·exact⟨fun _=>rfl,Zz _⟩
 ·exact Eqp
 ·exact Eqp
theorem di.item{xs:List Int}(h:di g c.tok)(w:mU g k code xs c c' m new):di g c'.tok/\c.tok.e<=c'.tok.e:=by
 rcases w with⟨_,rfl,_,_,_⟩|⟨_,_,_,_,_,rfl|⟨_,_,rfl⟩⟩|⟨_,_,_,_,w⟩;·exact Eqp
 ·exact Eqp
 ·exact Eqp
 ·exact di.say (c:={c with T:=(c.T.take k xs).tab}) h w
theorem di.items{its:List (Int×List Int)}(w:bR g k its c c' m new):di g c.tok->di g c'.tok/\c.tok.e<=c'.tok.e:=by
 induction w with
 |nil=>exact fun h=>⟨h,Zz _⟩
 |cons h1 _ ih=>exact fun h=>⟨(ih (h.item h1).1).1,Int.le_trans (h.item h1).2 (ih (h.item h1).1).2⟩
theorem di.step{e:JX}(h:di g c.tok)(w:rj g e c rs c' rs' m new):di g c'.tok/\c.tok.e<=c'.tok.e:=by
 rcases w with⟨_,h1,h2,its,r,_,_,w⟩|⟨_,_,w⟩|⟨_,_,w⟩|⟨_,_,w⟩|⟨_,_,rfl,_,rfl⟩;·exact di.items w h
 ·obtain⟨a,b,T1,⟨rfl,rfl⟩|w⟩:=w;·exact⟨h,Zz _⟩
  ·rcases w with⟨_,_,rfl,_⟩|⟨_,t2,_,_,te,hto,rfl,rfl⟩|⟨rfl,p,hp,rfl⟩;·exact⟨h,Zz _⟩
   ·have te2:t2.e=c.tok.e+1:=te;exact Eqj
   ·exact Eqp
 ·rcases w with⟨_,rfl,rfl⟩|⟨_,L',t2,md,_,hto,te,rfl,_⟩;·exact⟨h,Zz _⟩
  ·refine⟨fun h=> ?_,te⟩;have h2:0<=t2.o:=h;omega
 ·obtain⟨⟨w1,w2⟩,we,_⟩:=w;refine⟨fun h3=> ?_,we⟩;by_cases ho:0<=c.tok.o
  ·rcases w1 ho with⟨a1,a2,a3,a4,a5⟩|⟨a1,_⟩;·rw[a3];exact h ho
   ·omega
  ·have:=w2 U;omega
 ·exact Eqp
section
open Go.ChangeShapes Go.Deep Go.WideShapes
theorem EEn{enc:EB×Y->Y9}{t:EB}{fs:Array Field}{x:DataW Y9×List MemPlace}(ht:P.underlying t=D (.struct fs))(h:ZN enc P w 0 (fun _=>EJ) EJ n t cs=D x): ∃m,cs.length=P.cellsOf t/\ ∀(i:Nat) (f:Field),fs[i]?=D f-> ∃y,ZN enc P w 0 (fun _=>EJ) EJ m f.type ((cs.drop f.offset).take (P.cellsOf f.type))=D y:=by
 obtain⟨xs,m,-,-,hl,hxl,hf⟩:=DataW.trod_struct ht h;refine⟨m,hl,fun i f hif=> ?_⟩
 have hi:i<fs.size:=by
  rcases JW i fs.size with h|h;·exact h
  ·rw[iJ h] at hif;cases hif
 exact⟨_,(hf i f hif).trans (JV U)⟩
theorem EhS{enc:EB×Y->Y9}{t e:EB}{k:Nat}{x:DataW Y9×List MemPlace}(ht:P.underlying t=D (.array k e))(h:ZN enc P w 0 (fun _=>EJ) EJ n t cs=D x): ∃m,cs.length=P.cellsOf t/\ ∀(i:Nat),i<k-> ∃y,ZN enc P w 0 (fun _=>EJ) EJ m e ((cs.drop (i*P.cellsOf e)).take (P.cellsOf e))=D y:=by obtain⟨xs,m,-,-,hl,hxl,hf⟩:=DataW.trod_array ht h;exact⟨m,hl,fun i hi=>⟨_,(hf i hi).trans (JV U)⟩⟩
theorem EhT{enc:EB×Y->Y9}{t e:EB}{k:Nat}{kd:IntKind}{x:DataW Y9×List MemPlace}(ht:P.underlying t=D (.array k e))(he:P.underlying e=D (.int kd))(hc:P.cellsOf e=1)(hk:P.cellsOf t=k) (h:ZN enc P w 0 (fun _=>EJ) EJ n t cs=D x): ∃l:List Int,l.length=k/\cs=l.map (E kd)/\ ∀z∈l,(Lit.int kd z).wf=EJ:=by
 obtain⟨m,hl,hf⟩:=EhS ht h;rw[hk] at hl;rw[hc] at hf;have key: ∀i (hi:i<cs.length),∃z,cs[i]= .int kd z/\(Lit.int kd z).wf=EJ:=by intro i hi;obtain⟨y,hy⟩:=hf i U;rw[Nat.mul_one,nO hi] at hy;obtain⟨z,e1,-,e3⟩:=DataW.trod_int he hy;simp only[Is,Iq,dJ,and_true] at e1;exact⟨z,e1,e3⟩
 refine⟨cs.map fun v=>match v with| .int _ z=>z|_=>0,by simp[hl],?_,?_⟩;·rw[List.map_map];refine List.ext_getElem Ej fun i h1 h2=> ?_;obtain⟨z,e1,-⟩:=key i h1;simp[e1]
 ·intro z hz;obtain⟨v,hv,rfl⟩:=dw.1 hz;obtain⟨i,hi,rfl⟩:=List.getElem_of_mem hv;obtain⟨z,e1,e3⟩:=key i hi;rw[e1];exact e3
theorem EEo{enc:EB×Y->Y9}{t:EB}{kd:IntKind}{x:DataW Y9×List MemPlace}(he:P.underlying t=D (.int kd))(h:ZN enc P w 0 (fun _=>EJ) EJ n t cs=D x): ∃z,cs=[.int kd z]/\(Lit.int kd z).wf=EJ:=by obtain⟨z,e1,-,e3⟩:=DataW.trod_int he h;exact⟨z,e1,e3⟩
end
section
open Go.ChangeShapes Go.Deep Go.WideShapes
theorem EEp(b o i:Nat):(⟨b,o,Z⟩:Ep).add i=⟨b,o+i,Z⟩:=U3
theorem D5{x:Int}(h:(Lit.int .i64 x).wf=EJ):I_ x:=by unfold I_;exact ErO
def JX.Y5(e:JX)(a:Option Ep)(c:Nat):List (List Y):=[[E I e.kind],[E I e.src],[G a e.b.length c],[Ec e.valid,E I e.x0,E I e.x1,E I e.x2,E I e.x3,Ec e.give],[Ec e.bad]]
def JX.cells(e:JX)(a:Option Ep)(c:Nat):List Y:=(e.Y5 a c).flatten
structure JX.ok(e:JX):Prop where
 x0:I_ e.x0
 x1:I_ e.x1
 x2:I_ e.x2
 x3:I_ e.x3
structure uZ(w:M)(e:JX)(a:Option Ep)(c:Nat):Prop where
 ok:e.ok
 row:Row w a e.b
 le:e.b.length<=c
 max:c<=9223372036854775807
theorem uZ.B{e:JX}{a:Option Ep}{c:Nat}(h:uZ w e a c)(hb:El w w'):uZ w' e a c:=
 ⟨h.ok,It h.row hb,h.le,h.max⟩
theorem EhV{enc:EB×Y->Y9}{x:DataW Y9×List MemPlace}(h:ZN enc EZ w 0 (fun _=>EJ) EJ n 46 cs=D x): ∃(va gv:Bool) (x0 x1 x2 x3:Int),I_ x0/\I_ x1/\I_ x2/\I_ x3/\cs=[Ec va,E I x0,E I x1,E I x2,E I x3,Ec gv]:=by
 obtain⟨m,hl,hf⟩:=EEn Tryz.underlying46 h;rw[show Tryz.prog.cellsOf 46=6 from Ef] at hl;match cs,hl with
 |[c0,c1,c2,c3,c4,c5],_=>
  obtain⟨y0,h0⟩:=hf 0 _ O;have g0:ZN enc EZ w 0 (fun _=>EJ) EJ m 4 (([c0,c1,c2,c3,c4,c5].drop 0).take (Tryz.prog.cellsOf 4))=D y0:=h0;rw[show Tryz.prog.cellsOf 4=1 from Ef] at g0;obtain⟨va,e0,-⟩:=DataW.trod_bool Tryz.underlying4 g0;simp only[IT,IM,Is,Iq,dJ,and_true] at e0;obtain⟨y1,h1⟩:=hf 1 _ O;have g1:ZN enc EZ w 0 (fun _=>EJ) EJ m 25 (([c0,c1,c2,c3,c4,c5].drop 1).take (Tryz.prog.cellsOf 25))=D y1:=h1;rw[show Tryz.prog.cellsOf 25=4 from Ef] at g1;obtain⟨xl,hxl,ex,hw⟩:=EhT Tryz.underlying25 Tryz.underlying3 Ef Ef g1;obtain⟨y2,h2⟩:=hf 2 _ O;have g2:ZN enc EZ w 0 (fun _=>EJ) EJ m 4 (([c0,c1,c2,c3,c4,c5].drop 5).take (Tryz.prog.cellsOf 4))=D y2:=h2;rw[show Tryz.prog.cellsOf 4=1 from Ef] at g2;obtain⟨gv,e2,-⟩:=DataW.trod_bool Tryz.underlying4 g2;simp only[IT,IM,Is,Iq,dJ,and_true] at e2;match xl,hxl with
  |[b0,b1,b2,b3],_=> simp only[IT,IM,Is,Iq,UB,Xn,dJ,and_true] at ex;obtain⟨f0,f1,f2,f3⟩:=ex;exact⟨va,gv,b0,b1,b2,b3,D5 (hw _ Ej),D5 (hw _ Ej),D5 (hw _ Ej),D5 (hw _ Ej),by rw[e0,e2,f0,f1,f2,f3]⟩
theorem EhW(cs:List Y)(h:cs.length=10):cs=(cs.drop 0).take 1++((cs.drop 1).take 1++((cs.drop 2).take 1++((cs.drop 3).take 6++(cs.drop 9).take 1))):=by
 have st: ∀a n:Nat,cs.drop a=(cs.drop a).take n++cs.drop (a+n):=fun a n=>by rw[<-List.drop_drop,iU]
 have e7:cs.drop 9=(cs.drop 9).take 1:=by rw[OP (by rw[il];omega)]
 rw[<-e7,<-st 3 6,<-st 2 1,<-st 1 1,<-st 0 1,IM]
theorem EhY{enc:EB×Y->Y9}{x:DataW Y9×List MemPlace}(h:ZN enc EZ w 0 (fun _=>EJ) EJ n 48 cs=D x): ∃(e:JX) (a:Option Ep) (c:Nat),uZ w e a c/\cs=e.cells a c:=by
 obtain⟨m,hl,hf⟩:=EEn Tryz.underlying48 h;rw[show Tryz.prog.cellsOf 48=10 from Ef] at hl;have sp:=EhW cs hl;obtain⟨y0,h0⟩:=hf 0 _ O;have g0:ZN enc EZ w 0 (fun _=>EJ) EJ m 3 ((cs.drop 0).take (Tryz.prog.cellsOf 3))=D y0:=h0;rw[show Tryz.prog.cellsOf 3=1 from Ef] at g0;obtain⟨y1,h1⟩:=hf 1 _ O;have g1:ZN enc EZ w 0 (fun _=>EJ) EJ m 3 ((cs.drop 1).take (Tryz.prog.cellsOf 3))=D y1:=h1;rw[show Tryz.prog.cellsOf 3=1 from Ef] at g1;obtain⟨y2,h2⟩:=hf 2 _ O;have g2:ZN enc EZ w 0 (fun _=>EJ) EJ m 23 ((cs.drop 2).take (Tryz.prog.cellsOf 23))=D y2:=h2;rw[show Tryz.prog.cellsOf 23=1 from Ef] at g2;obtain⟨y3,h3⟩:=hf 3 _ O;have g3:ZN enc EZ w 0 (fun _=>EJ) EJ m 46 ((cs.drop 3).take (Tryz.prog.cellsOf 46))=D y3:=h3;rw[show Tryz.prog.cellsOf 46=6 from Ef] at g3;obtain⟨y4,h4⟩:=hf 4 _ O;have g4:ZN enc EZ w 0 (fun _=>EJ) EJ m 4 ((cs.drop 9).take (Tryz.prog.cellsOf 4))=D y4:=h4;rw[show Tryz.prog.cellsOf 4=1 from Ef] at g4;obtain⟨b0,e0,-⟩:=EEo Tryz.underlying3 g0;obtain⟨b1,e1,-⟩:=EEo Tryz.underlying3 g1;obtain⟨va,gv,x0,x1,x2,x3,i0,i1,i2,i3,e3⟩:=EhV g3;obtain⟨b4,e4,-⟩:=DataW.trod_bool Tryz.underlying4 g4
 obtain⟨a,l,c,e2⟩: ∃a l c,(cs.drop 2).take 1=[G a l c]:=by
  rcases open_slice aJ g2 with⟨hcs,_⟩|⟨a,l,c,m,n,Y_,Pl,hcs,_⟩;·exact⟨_,_,_,hcs⟩
  ·exact⟨_,_,_,hcs⟩
 rw[e2] at g2;obtain⟨A,xs,cap,ev,r1,r2,r3,-⟩:=EZg (Ec4 g2);obtain⟨rfl,rfl,rfl⟩:a=A/\l=xs.length/\c=cap:=by injection ev with a b c;exact⟨a,b,c⟩
 refine⟨⟨b0,b1,xs,va,x0,x1,x2,x3,gv,b4⟩,a,c,⟨⟨i0,i1,i2,i3⟩,r3,r1,r2⟩,?_⟩;rw[sp,e0,e1,e2,e3,e4];rfl
def ua(w:M)(v:Y):Prop:= ∃(A:Option Ep) (l c:Nat),v=G A l c/\(l=0\/ ∃b off,A=D ⟨b,off,Z⟩/\ ∀i,i<l-> ∃(e:JX) (a:Option Ep) (d:Nat),uZ w e a d/\ ∀j,j<10->w.cell? ⟨b,off+i*10+j,Z⟩=(e.cells a d)[j]?)
theorem mk_sl_api_Event{enc:EB×Y->Y9}{r:Reach}{d:DataW Y9}{p:List MemPlace} (h:Value.okWide EZ w r base 29 v) (hd:DataW.Trod enc EZ w 0 (fun _=>EJ) EJ 29 v d p):ua w v:=by
 obtain⟨a,len,cap,rfl⟩:=okWide_slice Tryz.underlying29 h;obtain⟨fuel,hf⟩:=hd;rcases open_slice Tryz.underlying29 hf with⟨hcs,-⟩|⟨x,l,c,m,n,Y_,Pl,hcs,-,hl,hm,hmm,-,hi⟩;·simp[Value.cells] at hcs;obtain⟨rfl,rfl,rfl⟩:=hcs;exact⟨Z,0,0,O,.inl O⟩
 ·simp[Value.cells] at hcs;obtain⟨rfl,rfl,rfl⟩:=hcs;simp only[if_true] at hmm;subst hmm;rw[show Tryz.prog.cellsOf 48=10 from Ef] at hi;refine⟨D x,len,m,O,?_⟩;have hc: ∀i,i<len-> ∃(e:JX) (a:Option Ep) (d:Nat),uZ w e a d/\ ∀j,j<10->w.cell? ((x.add (i*10)).add j)=(e.cells a d)[j]?:=by intro i hil;obtain⟨cs',h1,h2⟩:=hi i U;obtain⟨e,a,d,ho,hcs⟩:=EhY h2;obtain⟨-,-,h3⟩:=World.cells?_some h1;exact⟨e,a,d,ho,fun j hj=>by rw[h3 j hj,hcs]⟩
  by_cases h0:len=0;·exact .inl h0
  ·have hx:x=⟨x.block,x.off,Z⟩:=by
    obtain⟨e,a,d,-,hj⟩:=hc 0 U;have c0:=hj 0 U;have e1:(x.add (0*10)).add 0=x:=by simp[Addr.add]
    rw[e1] at c0;have:=World.cell?_spot (c0.trans (show(e.cells a d)[0]?=D _ from rfl));cases x;simp_all
   refine .inr ⟨x.block,x.off,by rw[<-hx],fun i hil=> ?_⟩;obtain⟨e,a,d,ho,hj⟩:=hc i hil;refine⟨e,a,d,ho,fun j hjl=> ?_⟩;have h1:=hj j hjl;rw[hx,EEp,EEp] at h1;exact h1
end
end Go.Proofs.YtclmichaaiohjaaGreatDoor
