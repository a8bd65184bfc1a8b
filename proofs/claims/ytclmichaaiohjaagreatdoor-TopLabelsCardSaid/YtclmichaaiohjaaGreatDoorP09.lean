import Derived.Test.YtclmichaaiohjaaGreatDoorP08
set_option maxRecDepth 100000
set_option linter.unusedVariables false
set_option linter.unusedSimpArgs false
set_option maxHeartbeats 6400000
namespace Go.Proofs.YtclmichaaiohjaaGreatDoor
open RowKit
open _root_.Array renaming getElem?_eq_some_iff->Ja
open Bool renaming true->G,false->Y
open Go renaming World->H,Calls->Ef,TypeId->Ez,Value->M,Addr->Et,bodyPost_ret->EQ,Oper->EK,below_setRow->E2
open Act renaming put->Ic
open Ending renaming returned->Eg
open IntKind renaming i64->I,u8->IB
open Lib renaming hid->J
open Obj renaming cells->EI
open Go.Proofs.Tryz renaming prog->EJ
open RowKit renaming Hid->Ea
open RowKit.Below renaming refl->E6
open Value renaming bool->Eb,int->E,agg->EU,slice->u,tuple->Es,pointer->V
open List renaming take_succ_cons->Il,take_zero->Ij,setIfInBounds_toArray->Ig,set_cons_succ->IJ,set_cons_zero->IU,drop_succ_cons->Iz,drop_zero->Ix
open Nat renaming le_trans->Ey,le_refl->E5
open Option renaming some->X,none->Z
open KQ
variable{W w w':H}{l:List Int}{x y:Operand}{g gs n b n0 lo hi gc gq gt ns:Nat}{o:EK}{T T2:Ez}{cs c2:Array M}{v Y3 r:M}{rs:List Rec}{P:Program}{F:Operand->M}
theorem Eaj(a b c d e s:Int): -1<=place a b c d e s/\place a b c d e s<=4:=by
 unfold place;repeat' split
 all_goals omega
def DP(t:EL)(k:Int)(t2:EL)(hw cd:Int):Prop:=cd≠0\/(cd=0/\hw=3/\t.Ow k=(t2,0))\/(cd=0/\hw=0/\t2=t)
theorem Eak{gm:Nat}(K:D W gm (ED l) 183):W.cell? ⟨gm,7,Z⟩=X (Eb (l.getD 7 0==1)):=by rw[D.cell K,Xj l 7 U,if_pos O]
theorem Eal(lo hi:Nat)(g:Nat->M)(gc gq gt gs:Nat)(c:EA)(ns:Nat)(rs:List Rec)(l:List Int)(k:Int)(w:H)(S:E4 lo hi g gc gq gt gs c ns rs w)(hk:1<=k/\k<=3)(hn:ns<800000)(hl:rs.length<800000): Ef EJ 130 #[V (X ⟨gs,0,Z⟩),E I k,EU (ED l)] w fun e w'=>e=Eg (Es #[])/\(∃c' m new,m<=3/\E4 lo hi g gc gq gt gs c' (ns+m) (rs++new) w'/\ ∃L',((∃cd,c'={c with q:=L'}/\new=[⟨7,k,l.getD 1 0,c.tok.e,cd,0⟩])\/(∃t2,t2.ok/\t2.e=c.tok.e+1/\t2.o= -1/\c'={c with tok:=t2,q:=L'}/\new=[⟨8,t2.h,l.getD 1 0,t2.e,0,3⟩])\/(c'={c with q:=L'}/\new=[⟨10,k,l.getD 1 0,c.tok.e,0,0⟩])))/\Ev lo hi w w':=by
 obtain⟨pa,hpa,Qs⟩:=S.core.U8.fit 45 U U;have Eam:(pa:Int)<=1000:=by have:=Qs.2.1;unfold Ub at this;simp at this;omega
 have XA:=fun W q b=>EZ7 lo gq c.q (pn g 48) g pa hpa (fun i hi=>S.core.U8.int i U (.inl hi)) c.tok S.core.ok.tok k b W S.core.lq q S.core.ok.q (fun h=>S.core.ok.room hk h)
 have Qt:Ea (∀(wq:H) (t2:EL) (hw cd:Int) (w2:H),c.ok->Qg lo gq c.q (pn g 48) c.tok k (Zt g k) (max pa 0) t2 hw cd w2-> ∃L2,JZ w2 lo gq L2 (pn g 48)/\({c with q:=L2}:EA).ok/\DP c.tok k t2 hw cd):=J (fun wq t2 hw cd w2 ok h=>by
  rcases h with⟨h1,h2,h3,h4⟩|⟨h1,h2,h3,L',h4,h5⟩|⟨h1,h2,h3,h4,L',came,h5,h6,h7⟩;·exact⟨c.q,h4,ok,.inl h1⟩
  ·exact⟨L',h5,ok.sub h4,.inr (.inl ⟨h1,h2,h3⟩)⟩
  ·refine⟨L',h7,ok.push h6 ⟨⟨by show _<=k;omega,by show k<=_;omega⟩,?_,⟨Int.le_refl _,Qu⟩,⟨by show(0:Int)<=max (pa:Int) 0;omega,by show max (pa:Int) 0<=1000;omega⟩,h5⟩ hk h4,.inr (.inr ⟨h1,h2,h3⟩)⟩;have:=Eaj (pn g 0) (pn g 1) (pn g 2) (pn g 3) (pn g 4) k;exact⟨by show _<=Zt g k;unfold Zt;omega,by show Zt g k<=_;unfold Zt;omega⟩)
 obtain⟨b7,mf⟩:=En ((l.getD 7 0==1));have Qv:Ea (∀W g,D W g (ED l) 183->W.cell? ⟨g,7,Z⟩=X (Eb b7)):=J (fun W g K=>by rw[mf];exact Eak K);replace XA:=fun W q=>XA W q b7;clear mf hpa Qs Eam;obtain⟨Ik,OD,Un,XE⟩: ∃Ik,c.tok.a=EU Ik/\Ea (Ik.size=8)/\Ea (c.tok.v.toArray=Ik):=⟨_,O,J O,J O⟩;obtain⟨pv,hpv,sx,DQ⟩: ∃pv,EH 56 g=pv/\Ea (pv.size=56)/\Ea ((EH 56 g).toList.toArray=pv):=⟨_,O,J gK,J Ek⟩;have S0:=J S;have HN:=J hn;have HL:=J hl;have KM:=J<|D.new w (ED l) 183;have b1:=Eo w (EI (ED l) 183);have S1:=J<|S0.out.B b1;have MM:=J<|Ev.Eu (lo:=lo) (hi:=hi) b1;obtain⟨v1,hv1⟩:=En (l.getD 1 0);have JW:Ea (∀W g,D W g (ED l) 183->W.cell? ⟨g,1,Z⟩=X (E I v1)):=J (fun W g K=>by rw[hv1];exact U_ K 1 U U);try rw[<-hv1]
 replace hv1:=J hv1;clear S hn hl S0;obtain⟨mv,hmv⟩:=En (ED l);rw[<-hmv] at KM b1 S1 MM JW Qv⊢;clear hmv;have CA:Ea (∀W,JZ W lo gq c.q (pn g 48)->Ef EJ 177 #[EU pv,EU Ik,V (X ⟨gq,0,Z⟩),E I k,Eb b7] W _):=J (fun W q=>Qw);obtain⟨PQ,hPQ⟩: ∃PQ:Array M->Int->Int->Prop,PQ=fun rv hw cd=> ∃t2:EL,t2.a=EU rv/\rv.size=8/\rv.all (·.oneCell')=G/\DP c.tok k t2 hw cd:=⟨_,O⟩;have mZ:Ea (∀(t2:EL) (rv:Array M) (hw cd:Int),t2.a=EU rv->rv.size=8->rv.all (·.oneCell')=G->DP c.tok k t2 hw cd->PQ rv hw cd):=J (fun t2 rv hw cd h1 h2 h3 h4=>xz);have ma:Ea (∀rv hw cd,PQ rv hw cd->rv.size=8/\rv.all (·.oneCell')=G):=J (fun rv hw cd h=>xA);replace hPQ:=J hPQ;clear XA OD hpv;go_enter Tryz.func130,Tryz.ntmps130;go_wp2_with fail;clear b1;generalize w.alloc (EI mv 183)=w1 at*;obtain⟨gm,hgm⟩:=En w.heap.size;rw[<-hgm] at KM⊢;clear hgm;obtain⟨n0,hn0⟩:=En w1.heap.size;have U0:=J (show lo<=n0/\hi<=n0/\w.heap.size<=n0 from jw);refine fW (Ph:=fun p wq=>n0<=wq.heap.size/\(match p with|0=>(E4 lo hi g gc gq gt gs c ns rs wq/\Ev lo hi w wq/\D wq gm mv 183)|_=>(∃L':List One,E4 lo hi g gc gq gt gs {c with q:=L'} ns rs wq/\Ev lo hi w wq/\D wq gm mv 183))) (Rel:=Jr) (If:=ic) [.val (fun v=>v=V (X ⟨gs,0,Z⟩)),.val (fun v=>v=V (X ⟨gs,0,Z⟩)),.val (fun v=>v=V (X ⟨gs,0,Z⟩)),.val (fun v=>v=V (X ⟨gc,0,Z⟩)),.val (fun v=>v=V (X ⟨gc,0,Z⟩)),.val (fun v=>v=V (X ⟨gc,0,Z⟩)),.val (fun v=>v=EU pv),.val (fun v=>v=V (X ⟨gs,0,Z⟩)),.val (fun v=>v=V (X ⟨gs,0,Z⟩)),.val (fun v=>v=V (X ⟨gs,0,Z⟩)),.val (fun v=>v=V (X ⟨gc,0,Z⟩)),.val (fun v=>v=V (X ⟨gc,0,Z⟩)),.val (fun v=>v=V (X ⟨gc,56,Z⟩)),.val (fun v=>v=EU Ik),.val (fun v=>v=V (X ⟨gs,0,Z⟩)),.val (fun v=>v=V (X ⟨gs,0,Z⟩)),.val (fun v=>v=V (X ⟨gs,0,Z⟩)),.val (fun v=>v=V (X ⟨gc,0,Z⟩)),.val (fun v=>v=V (X ⟨gc,0,Z⟩)),.val (fun v=>v=V (X ⟨gc,64,Z⟩)),.val (fun v=>v=V (X ⟨gq,0,Z⟩)),.val (fun v=>v=E I k),.val (fun v=>v=V (X ⟨gm,7,Z⟩)),.val (fun v=>v=Eb b7),.val (fun v=> ∃(rv:Array M) (hw:Int) (cd:Int),PQ rv hw cd/\v=Es #[EU rv,E I hw,E I cd]),.val (fun v=> ∃(rv:Array M) (hw:Int) (cd:Int),PQ rv hw cd/\v=Es #[EU rv,E I hw,E I cd]),.ZA [25,26] (fun x=> ∃(rv:Array M) (hw:Int) (cd:Int),PQ rv hw cd/\x 25=Es #[EU rv,E I hw,E I cd]/\x 26=EU rv) (fun x y hq h=>by simpa only[hq 25 Ek,hq 26 Ek] using h),.ZA [25,27] (fun x=> ∃(rv:Array M) (hw:Int) (cd:Int),PQ rv hw cd/\x 25=Es #[EU rv,E I hw,E I cd]/\x 27=E I hw) (fun x y hq h=>by simpa only[hq 25 Ek,hq 27 Ek] using h),.ZA [25,28] (fun x=> ∃(rv:Array M) (hw:Int) (cd:Int),PQ rv hw cd/\x 25=Es #[EU rv,E I hw,E I cd]/\x 28=E I cd) (fun x y hq h=>by simpa only[hq 25 Ek,hq 28 Ek] using h),.dep (X1 n0) (fun v w w' h hr=>h.B hr) (fun v w w' h hr=>h.dC hr),.tie [29,26] (fun x w=> ∃(b:Nat) (rv:Array M),x 29=V (X ⟨b,0,Z⟩)/\x 26=EU rv/\n0<=b/\D w b rv 109) (fun x w w' h hr=>xB) (fun x y w hq h=>by rw[hq 29 Ek,hq 26 Ek] at h;exact h),.ZA [27,31] (fun x=>x 31=x 27) (fun x y hq h=>by simpa only[hq 27 Ek,hq 31 Ek] using h),.ZA [28,32] (fun x=>x 32=x 28) (fun x y hq h=>by simpa only[hq 28 Ek,hq 32 Ek] using h)] [Y,Y,Y,Y,Y,Y,Y,Y,Y,Y,Y,Y,Y,Y,Y,Y,Y,Y,Y,Y,Y,Y,Y,Y,Y,Y,Y,Y,Y,Y,G,Y,Y] O [[],[],[],[],[],[],[],[],[],[],[],[],[],[],[],[],[],[],[],[],[],[],[],[],[],[],[25,26],[25,27],[25,28],[],[29,26],[27,31],[28,32]] O [24,30] [(0,0),(0,0),(0,0),(0,0),(0,0),(0,0),(0,0),(0,0),(0,0),(0,0),(0,0),(0,0),(0,0),(0,0),(0,0),(0,0),(0,0),(0,0),(0,0),(0,0),(0,0),(0,0),(0,0),(0,0),(0,0),(1,1),(1,1),(1,2),(1,2),(0,1),(1,1),(2,2),(2,2)] Ec Ec Ec Ec Ec Ec On Ec ?hPh ?h0 ?hstep ?hend
 case hPh=>
  intro p w2 w3 h hr;match p,h with
  |0,h=>exact⟨Ey h.1 (Below.size hr),h.2.1.B hr,h.2.2.1.trans (Ev.Eu hr),D.B h.2.2.2 hr⟩
  |_+1,h=> obtain⟨nn,L',s,m,km⟩:=h;exact⟨Ey nn (Below.size hr),L',s.B hr,m.trans (Ev.Eu hr),D.B km hr⟩
 case h0=> exact Ek3
 case hstep=>
  refine⟨?_,?_,?_,?_,?_,?_,?_,?_,?_,?_,?_,?_,?_,?_,?_,?_,?_,?_,?_,?_,?_,?_,?_,?_,?_,?_,?_,?_,?_,?_,?_,?_,?_,trivial⟩;all_goals first|intro xv wq p hlo hhi hp hd|intro xv wq hp hd
  all_goals simp only[EB,Ic,Ig,IJ,IU]
  ·exact EiE
  ·exact Eim
  ·exact Eil
  ·exact EiJ
  ·exact Eik
  ·exact EiF
  ·exact EjV
  ·exact EiE
  ·exact EjU
  ·exact EjO
  ·exact EiK
  ·exact EjI
  ·exact EjE
  ·exact EjA
  ·exact EiE
  ·exact ElH
  ·exact ElG
  ·exact Ekl
  ·exact Ekf
  ·exact ElF
  ·exact Ej5
  ·exact EiE
  ·exact EiE
  ·obtain rfl:p=0:=U;have d22:xv 22=V (X ⟨gm,7,Z⟩):=hd.at 22 rfl;have cc:wq.cell? ⟨gm,7,Z⟩=X (Eb b7):=Qv.out _ _ hp.2.2.2;exact Ep D0 O
  ·have d6:xv 6=EU pv:=hd.at 6 rfl;have d13:xv 13=EU Ik:=hd.at 13 rfl;have d20:xv 20=V (X ⟨gq,0,Z⟩):=hd.at 20 rfl;have d21:xv 21=E I k:=hd.at 21 rfl;have d23:xv 23=Eb b7:=hd.at 23 rfl;refine IY (f:=177) (args:= #[xv 6,xv 13,xv 20,xv 21,xv 23]) (Ei O) Ew ?_;rw[d6,d13,d20,d21,d23];refine(CA.out wq hp.2.1.core.XV).mono fun e w2 h=> ?_;obtain⟨⟨t2,hw,cd,he,hf⟩,m2⟩:=h;obtain⟨rv,Iy,hs,ho⟩:=Xw t2;obtain⟨L2,q2,okq,hpq⟩:=Qt.out wq t2 hw cd w2 hp.2.1.core.ok hf;exact⟨_,he,⟨m2.dC,Ey hp.1 m2.bel.size,L2,hp.2.1.cD m2 L2 q2 okq,hp.2.2.1.trans (m2.fM hi),m2.Em hp.2.2.2 EZ EZ⟩,rv,hw,cd,mZ.out t2 rv hw cd Iy hs ho hpq,congrArg (fun v=>Value.tuple #[v,E I hw,E I cd]) Iy⟩
  ·obtain rfl:p=1:=U;obtain⟨rv,hw,cd,hpq,e24⟩: ∃(rv:Array M) (hw:Int) (cd:Int),PQ rv hw cd/\xv 24=Es #[EU rv,E I hw,E I cd]:=hd.at 24 rfl;exact Ep (by simp[go_sem,e24]) ⟨rv,hw,cd,hpq,O⟩
  ·obtain rfl:p=1:=U;exact Ei2
  ·exact Ei2
  ·exact Ei2
  ·exact Ejw
  ·obtain⟨b,d0,eA,lb,h8,kb⟩:X1 n0 (xv 29) wq:=hd.at 29 rfl;have nh:=U0.out;obtain⟨rv,hw,cd,hpq,-,e26⟩: ∃(rv:Array M) (hw:Int) (cd:Int),PQ rv hw cd/\xv 25=Es #[EU rv,E I hw,E I cd]/\xv 26=EU rv:=hd.at 26 rfl;have hsz:=ma.out _ _ _ hpq;obtain⟨nn,L',s,m,km⟩:=hp;refine ag EP (Ei O) ⟨O,eA,e26⟩ kb h8 hsz.1 hsz.2 ⟨oH kb hsz.1,?_⟩ ⟨b,rv,eA,e26,lb,kb.setRow _⟩;exact Elf
  ·obtain rfl:p=2:=U;obtain⟨rv,hw,cd,hpq,-,e27⟩: ∃(rv:Array M) (hw:Int) (cd:Int),PQ rv hw cd/\xv 25=Es #[EU rv,E I hw,E I cd]/\xv 27=E I hw:=hd.at 27 rfl;exact Ep (by simp[go_sem,e27]) (e27.symm)
  ·obtain rfl:p=2:=U;obtain⟨rv,hw,cd,hpq,-,e28⟩: ∃(rv:Array M) (hw:Int) (cd:Int),PQ rv hw cd/\xv 25=Es #[EU rv,E I hw,E I cd]/\xv 28=E I cd:=hd.at 28 rfl;exact Ep (by simp[go_sem,e28]) (e28.symm)
 case hend=>
  intro xv W6 hp hd;clear S1 MM KM;simp only[EB,Ic,Ig,IJ,IU];obtain⟨rv,hw,cd,hpq,eM,e26⟩: ∃(rv:Array M) (hw:Int) (cd:Int),PQ rv hw cd/\xv 25=Es #[EU rv,E I hw,E I cd]/\xv 26=EU rv:=hd 26 EZ;obtain⟨b,dD,eA,eE,lb,kb⟩: ∃(b:Nat) (rv:Array M),xv 29=V (X ⟨b,0,Z⟩)/\xv 26=EU rv/\n0<=b/\D W6 b rv 109:=hd 30 EZ;have mc:dD=rv:=by rw[eE] at e26;injection e26
  subst mc;have a31:xv 31=E I hw:=by have h1:xv 31=xv 27:=hd 31 EZ;obtain⟨xF,hw9,DN,-,f1,f2⟩: ∃(rv:Array M) (hw:Int) (cd:Int),PQ rv hw cd/\xv 25=Es #[EU rv,E I hw,E I cd]/\xv 27=E I hw:=hd 27 EZ;exact Ekn
  have a32:xv 32=E I cd:=by have h1:xv 32=xv 28:=hd 32 EZ;obtain⟨xF,hw9,DN,-,f1,f2⟩: ∃(rv:Array M) (hw:Int) (cd:Int),PQ rv hw cd/\xv 25=Es #[EU rv,E I hw,E I cd]/\xv 28=E I cd:=hd 28 EZ;exact Ekn
  obtain⟨-,L',s6,m6,aG⟩:=hp;have S1:=J s6;have MM:=J m6;have KM:=J aG;have KB:=J kb;rw[eA,a31,a32];rw[hPQ.out] at hpq;obtain⟨t2,Iy,hs,ho,hf⟩:=hpq;have OC:=J Iy;have RS:=J hs;have RO:=J ho;clear s6 m6 aG kb hd eA a31 a32 CA Iy hs ho eM eE Qt;have c1:=JW.out _ _ KM.out;by_cases hcd:cd=0
  ·subst hcd;rcases hf with hf|⟨-,rfl,hf⟩|⟨-,rfl,hf⟩;·exact absurd O hf
   ·have HT2:Ea (t2.ok/\t2.e=c.tok.e+1/\t2.o= -1):=J ⟨(cG S1.out.core.ok.tok hf).1,(cG S1.out.core.ok.tok hf).2.1,(cG S1.out.core.ok.tok hf).2.2.2⟩;clear hf;go_wp2_with (with_reducible refine wL EP KB ?_ (hn:=RS.out));rw[<-OC.out];(with_reducible refine(ju lo hi g gc gq gt gs _ ns rs t2 3 v1 _ S1.out HT2.out.1 JP Ju).mono ?_);rintro e7 w7 ⟨rfl,⟨L2,m7,UV,sq,s7⟩,Uo⟩;replace KM:=J<|Uo.Em KM.out EZ EZ;replace S1:=J s7;replace MM:=J<|MM.out.trans Uo;have jx:=J UV;clear s7 Uo sq UV c1;have c1:=JW.out _ _ KM.out;go_wp2_with fail;(with_reducible refine(fL lo hi g gc gq gt gs _ (ns+m7) _ k v1 _ S1.out DL).mono ?_);rintro e8 w8 ⟨rfl,s8,m8⟩;have S8:=J s8;replace MM:=J<|MM.out.trans m8;clear s8 m8;go_wp2_with fail;go_end0;exact⟨O,⟨_,m7+1,_,mX,S8.out,L2,.inr (.inl ⟨t2,HT2.out.1,HT2.out.2.1,HT2.out.2.2,O,O⟩)⟩,MM.out⟩
   ·subst hf;have X0:Ea (dD.toList=c.tok.v):=J (by have h:=OC.out;unfold EL.a at h;injection h with h;rw[<-h];rfl);go_wp2_with fail;have y0: ∀y:Ext W6,(Ex W6 y).cell? ⟨gs,0,Z⟩=X (V (X ⟨gc,0,Z⟩)):=fun y=>(S1.out.B (EC y)).Iu;refine JB 7 Ec Ec ?_;simp only[Il,Ij,Iz,Ix]
    repeat (first
     |go_big_quiet_skip
     |(go_big_quiet_want
       first
        |(refine Oj (T:=109) (g:=b) EP _ rfl rfl KB ?_ ?_;(·exact RS.out);go_simp;go_big_quiet_on)
        |(go_big_quiet_op
          first
           |go_big_quiet_on
           |go_big_quiet_call (fail))))
    refine wpQuiet_nil ?_;intro _ hw';obtain⟨y9,rfl⟩:=hw';have El:=EC y9;replace KM:=EN KM El;replace S1:=J<|S1.out.B El;replace MM:=J<|MM.out.trans (Ev.Eu El);clear y0 El c1;generalize Ex W6 y9=w7 at*;have TH:=J<|aE S1.out.core 1 rfl 8 XW;go_wp2_with ((with_reducible refine JI 109 ?_);(with_reducible refine wpList_store_mid O 109 _ _ O gc 56 dD ?_ ?_ ?_ ?_ ?_ ?_);(·rfl);(·rfl);(·rw[RS.out];exact TH.out);(·rw[RS.out];exact EP.2);(·exact RO.out);refine Ed.mk ?_);refine Ed.in ?_;rw[X0.out];have S4:=S1.out.ZZ c.tok S1.out.core.ok;obtain⟨d0,d1,d2,hd,KG,-⟩:=S1.out.core.Em;replace KM:=J<|(JX (g:=gc) c.tok.v 56 w7).Em KM.out (E7 KM.out KG EZ);replace S1:=J S4.1;replace MM:=J<|MM.out.trans S4.2;clear S4 TH KG;generalize w7.setCells gc 56 c.tok.v=w8 at*;have c1:=JW.out _ _ KM.out;go_wp2_with fail;(with_reducible refine(Xs lo hi g gc gq gt gs _ ns rs 10 k v1 0 0 _ S1.out Ju).mono ?_);rintro e9 w9 ⟨rfl,s9,m9⟩;replace KM:=J<|m9.Em KM.out EZ EZ;replace S1:=J s9;replace MM:=J<|MM.out.trans m9;clear s9 m9 c1;have c1:=JW.out _ _ KM.out;go_wp2_with fail;(with_reducible refine(fL lo hi g gc gq gt gs _ ns _ k v1 _ S1.out JP).mono ?_);rintro e8 w8 ⟨rfl,s8,m8⟩;have S8:=J s8;replace MM:=J<|MM.out.trans m8;clear s8 m8;go_wp2_with fail;go_end0;exact⟨O,⟨_,1,_,U,S8.out,L',.inr (.inr ⟨O,O⟩)⟩,MM.out⟩
  ·exact EiW
theorem Eap(t:EL)(k:Int):(t.kj k=(t,28))\/(0<=t.o/\t.o=k/\t.kj k=(t.end_,0)):=by
 unfold EL.kj;split;·exact .inl O
 ·exact .inr ⟨U,U,O⟩
theorem Qx{t:EL}(h:t.ok):t.end_.ok:=⟨h.h,h.e,br,br,br,h.la,h.lm,br⟩
theorem Eaq(lo hi:Nat)(g:Nat->M)(gc gq gt gs:Nat)(c:EA)(ns:Nat)(rs:List Rec)(l:List Int)(k:Int)(w:H)(S:E4 lo hi g gc gq gt gs c ns rs w)(hn:ns<800000)(hl:rs.length<800000): Ef EJ 133 #[V (X ⟨gs,0,Z⟩),E I k,EU (ED l)] w fun e w'=>e=Eg (Es #[])/\(∃c' m new,m<=3/\E4 lo hi g gc gq gt gs c' (ns+m) (rs++new) w'/\((∃cd,c'=c/\new=[⟨7,k,l.getD 1 0,c.tok.e,cd,0⟩])\/(0<=c.tok.o/\c.tok.o=k/\c'={c with tok:=c.tok.end_}/\new=[⟨11,k,l.getD 1 0,c.tok.e,0,0⟩])))/\Ev lo hi w w':=by
 have Qy:=fun W=>Yj c.tok k W;obtain⟨Ik,OD,Un,XE⟩: ∃Ik,c.tok.a=EU Ik/\Ea (Ik.size=8)/\Ea (c.tok.v.toArray=Ik):=⟨_,O,J O,J O⟩;have S0:=J S;have HN:=J hn;have HL:=J hl;have KM:=J<|D.new w (ED l) 183;have b1:=Eo w (EI (ED l) 183);have S1:=J<|S0.out.B b1;have MM:=J<|Ev.Eu (lo:=lo) (hi:=hi) b1;obtain⟨v1,hv1⟩:=En (l.getD 1 0);have JW:Ea (∀W g,D W g (ED l) 183->W.cell? ⟨g,1,Z⟩=X (E I v1)):=J (fun W g K=>by rw[hv1];exact U_ K 1 U U);try rw[<-hv1]
 replace hv1:=J hv1;clear S hn hl S0;obtain⟨mv,hmv⟩:=En (ED l);rw[<-hmv] at KM b1 S1 MM JW⊢;clear hmv;go_enter Tryz.func133,Tryz.ntmps133;go_wp2_with (with_reducible refine I2 12 ?_);refine Ed.in ?_;clear b1;generalize w.alloc (EI mv 183)=w1 at*;obtain⟨gm,hgm⟩:=En w.heap.size;rw[<-hgm] at KM⊢;clear hgm;have z0:=S1.out.Iu;obtain⟨big,KB,OY⟩:=aD S1.out.core;have KB:=J KB;have aF:Ea (big.extract 56 (56+8)=Ik):=J<|(OY 1 c.tok.v O).trans XE.out;have CD:=J Qy;rw[OD] at CD;clear OY Qy OD;go_wp2_with (with_reducible refine wM (off:=56) (cs:=Ik) EP KB ?_ (hn:=Un.out) (he:=aF.out));(with_reducible refine(CD.out _).mono ?_);rintro e6 w6 ⟨rfl,b6⟩;replace KM:=EN KM b6;replace S1:=J<|S1.out.B b6;replace MM:=J<|MM.out.trans (Ev.Eu b6);clear b6 z0 KB CD;cases hr:c.tok.kj k with|mk t cd=>
 have HR:=J hr;rw[show(t,cd).fst.a=t.a from rfl];clear hr;obtain⟨tv,IE,TS,TO,X0,cC⟩: ∃tv,t.a=EU tv/\Ea (tv.size=8)/\Ea (tv.all (·.oneCell')=G)/\Ea (tv.toList=t.v)/\Ea (∀W g,D W g tv 109->W.cell? ⟨g,0,Z⟩=X (E I t.h)/\W.cell? ⟨g,1,Z⟩=X (E I t.e)):=⟨_,O,J O,J (bR _ _ _ _ _ _ _ _),J O,J fun W g K=>⟨(D.cell K 0).trans O,(D.cell K 1).trans O⟩⟩;rw[IE];go_wp2_with (with_reducible refine aT 109 ?_);refine Ed.in ?_;generalize hW:World.alloc _ _=w7 at*;have KT:Ea (D w7 (w6.heap.size) #[E I 0,E I 0,E I 0,E I 0,E I 0,E I 0,E I 0,Eb Y] 109):=J (by subst hW;repeat (first|exact D.new _ _ _|exact D.new' _ _ _ Ek|refine D.alloc ?_ _));have b7:Ea (Eh w6 w7):=J Qn;clear hW;obtain⟨gk,Xx⟩:=En w6.heap.size;rw[<-Xx] at KT⊢;have LK:=J (show w6.heap.size<=gk from U);clear Xx;go_wp2_with (with_reducible refine wS (cs:=tv) EP KT (Ed.mk ?_) (hn:=TS.out) (h1:=TO.out));refine Ed.in ?_;replace KT:=J<|KT.out.setRow tv;replace b7:=J<|E2 (g:=gk) b7.out LK.out tv;generalize w7.setRow gk tv=w8 at*;replace KM:=EN KM b7.out;replace S1:=J<|S1.out.B b7.out;replace MM:=J<|MM.out.trans (Ev.Eu b7.out);clear b7 LK IE;have c1:=JW.out _ _ KM.out;rcases Eap c.tok k with hc|⟨ho1,ho2,hc⟩;·have hcd:cd=28:=sA;subst hcd;clear hc;go_wp2_with fail;(with_reducible refine(dx lo hi g gc gq gt gs c ns rs k v1 28 _ S1.out JP Ju).mono ?_);rintro e7 w7 ⟨rfl,s7,m7⟩;have S8:=J s7;replace MM:=J<|MM.out.trans m7;clear s7 m7;go_wp2_with fail;refine EQ (results_none O _ _ _) O ?_;exact⟨O,⟨_,1,_,U,S8.out,.inl ⟨28,O,O⟩⟩,MM.out⟩
 ·have hcd:cd=0:=sA;have ht:t=c.tok.end_:=sA;have D2:=J ht;have HO:=J<|show 0<=c.tok.o/\c.tok.o=k from⟨ho1,ho2⟩;subst hcd;clear hc ho1 ho2 ht;go_wp2_with fail;have y0: ∀y:Ext w8,(Ex w8 y).cell? ⟨gs,0,Z⟩=X (V (X ⟨gc,0,Z⟩)):=fun y=>(S1.out.B (EC y)).Iu;refine JB 7 Ec Ec ?_;simp only[Il,Ij,Iz,Ix]
  repeat (first
   |go_big_quiet_skip
   |(go_big_quiet_want
     first
      |(refine Oj (T:=109) (g:=gk) EP _ rfl rfl KT ?_ ?_;(·exact TS.out);go_simp;go_big_quiet_on)
      |(go_big_quiet_op
        first
         |go_big_quiet_on
         |go_big_quiet_call (fail))))
  refine wpQuiet_nil ?_;intro _ hw';obtain⟨y9,rfl⟩:=hw';have El:=EC y9;replace KT:=EN KT El;replace KM:=EN KM El;replace S1:=J<|S1.out.B El;replace MM:=J<|MM.out.trans (Ev.Eu El);clear y0 El c1;generalize Ex w8 y9=w9 at*;have TH:=J<|aE S1.out.core 1 rfl 8 XW;go_wp2_with ((with_reducible refine JI 109 ?_);(with_reducible refine wpList_store_mid O 109 _ _ O gc 56 tv ?_ ?_ ?_ ?_ ?_ ?_);(·rfl);(·rfl);(·rw[TS.out];exact TH.out);(·rw[TS.out];exact EP.2);(·exact TO.out);refine Ed.mk ?_);refine Ed.in ?_;rw[X0.out];have S4:=S1.out.ZZ t (S1.out.core.ok.ZZ (by rw[D2.out];exact Qx S1.out.core.ok.tok));obtain⟨d0,d1,d2,hd,KG,-⟩:=S1.out.core.Em;replace KT:=J<|(JX (g:=gc) t.v 56 w9).Em KT.out (E7 KT.out KG EZ);replace KM:=J<|(JX (g:=gc) t.v 56 w9).Em KM.out (E7 KM.out KG EZ);replace S1:=J S4.1;replace MM:=J<|MM.out.trans S4.2;clear S4 TH KG;generalize w9.setCells gc 56 t.v=UD at*;have c0:=(cC.out _ _ KT.out).1;go_wp2_with fail;(with_reducible refine(lL lo hi g gc gq gt gs _ ns rs t.h k 0 _ S1.out JP).mono ?_);rintro e11 Zn ⟨rfl,⟨m1,hm1,s11⟩,m11⟩;replace KM:=J<|m11.Em KM.out EZ EZ;replace S1:=J s11;replace MM:=J<|MM.out.trans m11;have fT:=J hm1;clear m11 s11 hm1 c0 KT;have c1:=JW.out _ _ KM.out;go_wp2_with fail;(with_reducible refine(Xs lo hi g gc gq gt gs _ (ns+m1) rs 11 k v1 0 0 _ S1.out Ju).mono ?_);rintro e12 Xz ⟨rfl,s12,m12⟩;replace KM:=J<|m12.Em KM.out EZ EZ;replace S1:=J s12;replace MM:=J<|MM.out.trans m12;clear m12 s12 c1;have c1:=JW.out _ _ KM.out;go_wp2_with fail;(with_reducible refine(fL lo hi g gc gq gt gs _ (ns+m1) _ k v1 _ S1.out sh).mono ?_);rintro e13 J_ ⟨rfl,s13,m13⟩;have S8:=J s13;replace MM:=J<|MM.out.trans m13;clear s13 m13;go_wp2_with fail;go_end0;refine⟨O,⟨_,m1+1,_,oF,S8.out,.inr ⟨HO.out.1,HO.out.2,?_,?_⟩⟩,MM.out⟩;·rw[D2.out]
  ·rw[D2.out];rfl
theorem Ear(t:EL)(po s d:Int)(th:Bool):((t.make po s d th).2≠0)\/(s=t.h/\t.e<65535/\d≠s/\1<=d/\d<=3/\t.o<0/\t.make po s d th=({t with o:=d,oa:=0,om:=max po 0},0)):=by
 unfold EL.make;by_cases h1:s≠t.h;·rw[if_pos h1];exact .inl Ek
 ·rw[if_neg h1];by_cases h2:65535<=t.e;·rw[if_pos h2];exact .inl Ek
  ·rw[if_neg h2];by_cases h3:d=s;·rw[if_pos h3];exact .inl Ek
   ·rw[if_neg h3];by_cases h4:d<1\/3<d\/th=Y;·rw[if_pos h4];exact .inl Ek
    ·rw[if_neg h4];by_cases h5:0<=t.o;·rw[if_pos h5];exact .inl Ek
     ·rw[if_neg h5];exact .inr ⟨U,U,h3,U,U,U,O⟩
theorem Eas(lo hi:Nat)(g:Nat->M)(gc gq gt gs:Nat)(c:EA)(ns:Nat)(rs:List Rec)(l:List Int)(k:Int)(w:H)(S:E4 lo hi g gc gq gt gs c ns rs w)(hk:1<=k/\k<=3)(hn:ns<800000)(hl:rs.length<800000): Ef EJ 131 #[V (X ⟨gs,0,Z⟩),E I k,EU (ED l)] w fun e w'=>e=Eg (Es #[])/\(∃c' m new,m<=3/\E4 lo hi g gc gq gt gs c' (ns+m) (rs++new) w'/\((∃cd,c'=c/\new=[⟨7,k,l.getD 1 0,c.tok.e,cd,0⟩])\/(∃po:Int,g 44=E I po/\k=c.tok.h/\c.tok.o<0/\c'={c with tok:={c.tok with o:=l.getD 3 0,oa:=0,om:=max po 0}}/\new=[⟨9,k,l.getD 1 0,c.tok.e,0,l.getD 3 0⟩])))/\Ev lo hi w w':=by
 obtain⟨po,hpo,Qz⟩:=S.core.U8.fit 44 U U;have dB:=J hpo;have XK:Ea ((po:Int)<=1000):=J (by have:=Qz.2.1;unfold Ub at this;simp at this;omega);have XA:=fun d th W=>EEC g c.tok k d po th W hpo;have HK:=J hk;clear hpo Qz hk;obtain⟨Ik,OD,Un,XE⟩: ∃Ik,c.tok.a=EU Ik/\Ea (Ik.size=8)/\Ea (c.tok.v.toArray=Ik):=⟨_,O,J O,J O⟩;obtain⟨pv,hpv,sx,DQ⟩: ∃pv,EH 56 g=pv/\Ea (pv.size=56)/\Ea ((EH 56 g).toList.toArray=pv):=⟨_,O,J gK,J Ek⟩;have S0:=J S;have HN:=J hn;have HL:=J hl;have KM:=J<|D.new w (ED l) 183;have b1:=Eo w (EI (ED l) 183);have S1:=J<|S0.out.B b1;have MM:=J<|Ev.Eu (lo:=lo) (hi:=hi) b1;obtain⟨v1,hv1⟩:=En (l.getD 1 0);have JW:Ea (∀W g,D W g (ED l) 183->W.cell? ⟨g,1,Z⟩=X (E I v1)):=J (fun W g K=>by rw[hv1];exact U_ K 1 U U);try rw[<-hv1]
 replace hv1:=J hv1;obtain⟨v3,hv3⟩:=En (l.getD 3 0);have sB:Ea (∀W g,D W g (ED l) 183->W.cell? ⟨g,3,Z⟩=X (E I v3)):=J (fun W g K=>by rw[hv3];exact U_ K 3 U U);try rw[<-hv3]
 replace hv3:=J hv3;clear S hn hl S0;obtain⟨mv,hmv⟩:=En (ED l);rw[<-hmv] at KM b1 S1 MM JW sB⊢;clear hmv;cases hr:c.tok.make po k v3 (c.T.ZW v3) with|mk t2 cd=>
 obtain⟨rv,Iy,RS,RO⟩:=Xw t2;have RS:=J RS;have RO:=J RO;have OC:=J Iy;have HR:=J hr;have CA:Ea (∀W,Ef EJ 178 #[EU pv,EU Ik,E I k,E I v3,Eb (c.T.ZW v3)] W fun x w'=>x=Eg (Es #[EU rv,E I cd])/\Eh W w'):=J (fun W=>by have h:=XA v3 (c.T.ZW v3) W;rw[hr,OD,hpv] at h;rw[<-Iy];exact h);clear hr XA OD hpv;obtain⟨e2,he2⟩:=En t2.e;have CE:Ea (∀W g,D W g rv 109->W.cell? ⟨g,1,Z⟩=X (E I e2)):=J (fun W g K=>by have e:rv=Oo t2.h t2.e t2.o t2.oa t2.om t2.la t2.lm t2.bad:=QA;subst e;rw[he2];exact(D.cell K 1).trans O);have X0:Ea (rv.toList=t2.v):=J (by have:=Iy;unfold EL.a at this;injection this with this;rw[<-this];rfl);clear Iy he2;have BR3:Tryz.prog.built 222 [(0,E I 135),(3,E I k),(4,E I e2)]=X (IW [135,0,0,k,e2,0,0,0,0,0,0,0,0,0]):=Ec;go_enter Tryz.func131,Tryz.ntmps131;go_wp2_with fail;clear b1;generalize w.alloc (EI mv 183)=w1 at*;obtain⟨gm,hgm⟩:=En w.heap.size;rw[<-hgm] at KM⊢;clear hgm;obtain⟨n0,hn0⟩:=En w1.heap.size;have U0:=J (show lo<=n0/\hi<=n0/\w.heap.size<=n0 from jw);refine fW (Ph:=fun _ wq=>(E4 lo hi g gc gq gt gs c ns rs wq/\Ev lo hi w wq/\D wq gm mv 183/\n0<=wq.heap.size)) (Rel:=Jr) (If:=ic) [.val (fun v=>v=V (X ⟨gs,0,Z⟩)),.val (fun v=>v=V (X ⟨gs,0,Z⟩)),.val (fun v=>v=V (X ⟨gs,0,Z⟩)),.val (fun v=>v=V (X ⟨gc,0,Z⟩)),.val (fun v=>v=V (X ⟨gc,0,Z⟩)),.val (fun v=>v=V (X ⟨gc,0,Z⟩)),.val (fun v=>v=EU pv),.val (fun v=>v=V (X ⟨gs,0,Z⟩)),.val (fun v=>v=V (X ⟨gs,0,Z⟩)),.val (fun v=>v=V (X ⟨gs,0,Z⟩)),.val (fun v=>v=V (X ⟨gc,0,Z⟩)),.val (fun v=>v=V (X ⟨gc,0,Z⟩)),.val (fun v=>v=V (X ⟨gc,56,Z⟩)),.val (fun v=>v=EU Ik),.val (fun v=>v=E I k),.val (fun v=>v=V (X ⟨gm,3,Z⟩)),.val (fun v=>v=E I v3),.val (fun v=>v=V (X ⟨gs,0,Z⟩)),.val (fun v=>v=V (X ⟨gs,0,Z⟩)),.val (fun v=>v=V (X ⟨gs,0,Z⟩)),.val (fun v=>v=V (X ⟨gc,0,Z⟩)),.val (fun v=>v=V (X ⟨gc,0,Z⟩)),.val (fun v=>v=V (X ⟨gc,95,Z⟩)),.val (fun v=>v=V (X ⟨gt,0,Z⟩)),.val (fun v=>v=V (X ⟨gm,3,Z⟩)),.val (fun v=>v=E I v3),.val (fun v=>v=Eb (c.T.ZW v3)),.val (fun v=>v=Es #[EU rv,E I cd]),.val (fun v=>v=Es #[EU rv,E I cd]),.val (fun v=>v=EU rv),.val (fun v=>v=E I cd),.dep (X1 n0) (fun v w w' h hr=>h.B hr) (fun v w w' h hr=>h.dC hr),.tie [31] (fun x w=> ∃b:Nat,x 31=V (X ⟨b,0,Z⟩)/\n0<=b/\D w b rv 109) (fun x w w' h hr=>oL) (fun x y w hq h=>by rw[hq 31 Ek] at h;exact h),.val (fun v=>v=E I cd)] [Y,Y,Y,Y,Y,Y,Y,Y,Y,Y,Y,Y,Y,Y,Y,Y,Y,Y,Y,Y,Y,Y,Y,Y,Y,Y,Y,Y,Y,Y,Y,Y,G,Y] O [[],[],[],[],[],[],[],[],[],[],[],[],[],[],[],[],[],[],[],[],[],[],[],[],[],[],[],[],[],[],[],[],[31],[]] O [32] [(0,0),(0,0),(0,0),(0,0),(0,0),(0,0),(0,0),(0,0),(0,0),(0,0),(0,0),(0,0),(0,0),(0,0),(0,0),(0,0),(0,0),(0,0),(0,0),(0,0),(0,0),(0,0),(0,0),(0,0),(0,0),(0,0),(0,0),(0,0),(0,0),(0,0),(0,1),(0,0),(0,0),(1,1)] Ec Ec Ec Ec Ec Ec On Ec ?hPh ?h0 ?hstep ?hend;case hPh=> intro p w2 w3 h hr;exact⟨h.1.B hr,h.2.1.trans (Ev.Eu hr),D.B h.2.2.1 hr,Ey h.2.2.2 (Below.size hr)⟩
 case h0=> exact Ek2
 case hstep=>
  refine⟨?_,?_,?_,?_,?_,?_,?_,?_,?_,?_,?_,?_,?_,?_,?_,?_,?_,?_,?_,?_,?_,?_,?_,?_,?_,?_,?_,?_,?_,?_,?_,?_,?_,?_,trivial⟩;all_goals first|intro xv wq p hlo hhi hp hd|intro xv wq hp hd
  all_goals simp only[EB,Ic,Ig,IJ,IU]
  ·exact EiE
  ·exact Eim
  ·exact Eil
  ·exact Ekr
  ·exact Eik
  ·exact EiF
  ·obtain rfl:p=0:=U;have d5:xv 5=V (X ⟨gc,0,Z⟩):=hd.at 5 rfl;obtain⟨big,KB,OY⟩:=aD hp.1.core;exact EkX
  ·exact EiE
  ·exact EjU
  ·exact EjO
  ·obtain rfl:p=0:=U;have d9:xv 9=V (X ⟨gs,0,Z⟩):=hd.at 9 rfl;have cc:wq.cell? ⟨gs,0,Z⟩=X (V (X ⟨gc,0,Z⟩)):=hp.1.Iu;exact Ep sw O
  ·exact EjI
  ·exact EjE
  ·obtain rfl:p=0:=U;have d12:xv 12=V (X ⟨gc,56,Z⟩):=hd.at 12 rfl;obtain⟨big,KB,OY⟩:=aD hp.1.core;exact EjF
  ·exact EiE
  ·exact EiE
  ·obtain rfl:p=0:=U;have d15:xv 15=V (X ⟨gm,3,Z⟩):=hd.at 15 rfl;have cc:wq.cell? ⟨gm,3,Z⟩=X (E I v3):=sB.out _ _ hp.2.2.1;exact Ep (by simp[go_sem,d15,cc]) O
  ·exact EiE
  ·obtain rfl:p=0:=U;have d17:xv 17=V (X ⟨gs,0,Z⟩):=hd.at 17 rfl;exact Ep jy O
  ·obtain rfl:p=0:=U;have d18:xv 18=V (X ⟨gs,0,Z⟩):=hd.at 18 rfl;exact Ep DY O
  ·obtain rfl:p=0:=U;have d19:xv 19=V (X ⟨gs,0,Z⟩):=hd.at 19 rfl;have cc:wq.cell? ⟨gs,0,Z⟩=X (V (X ⟨gc,0,Z⟩)):=hp.1.Iu;exact Ep xG O
  ·obtain rfl:p=0:=U;have d20:xv 20=V (X ⟨gc,0,Z⟩):=hd.at 20 rfl;exact Ep D3 O
  ·obtain rfl:p=0:=U;have d21:xv 21=V (X ⟨gc,0,Z⟩):=hd.at 21 rfl;exact Ep (by simp[go_sem,d21]) O
  ·obtain rfl:p=0:=U;have d22:xv 22=V (X ⟨gc,95,Z⟩):=hd.at 22 rfl;have cc:wq.cell? ⟨gc,95,Z⟩=X (V (X ⟨gt,0,Z⟩)):=hp.1.core.cell 6 rfl 0 Ek;exact Ep D0 O
  ·exact EiE
  ·obtain rfl:p=0:=U;have d24:xv 24=V (X ⟨gm,3,Z⟩):=hd.at 24 rfl;have cc:wq.cell? ⟨gm,3,Z⟩=X (E I v3):=sB.out _ _ hp.2.2.1;exact Ep (by simp[go_sem,d24,cc]) O
  ·obtain rfl:p=0:=U;have d23:xv 23=V (X ⟨gt,0,Z⟩):=hd.at 23 rfl;have d25:xv 25=E I v3:=hd.at 25 rfl;refine IY (f:=55) (args:= #[xv 23,xv 25]) (Ei O) Ew ?_;rw[d23,d25];exact(AC gt c.T v3 wq hp.1.core.tab hp.1.core.ok.T).mono fun e w2 h=>⟨_,h.1,h.2▸E6 _ _,O⟩
  ·obtain rfl:p=0:=U;have d6:xv 6=EU pv:=hd.at 6 rfl;have d13:xv 13=EU Ik:=hd.at 13 rfl;have d14:xv 14=E I k:=hd.at 14 rfl;have d16:xv 16=E I v3:=hd.at 16 rfl;have d26:xv 26=Eb (c.T.ZW v3):=hd.at 26 rfl;refine IY (f:=178) (args:= #[xv 6,xv 13,xv 14,xv 16,xv 26]) (Ei O) Ew ?_;rw[d6,d13,d14,d16,d26];exact(CA.out wq).mono fun e w2 h=>⟨_,h.1,h.2,O⟩
  ·obtain rfl:p=0:=U;have d27:xv 27=Es #[EU rv,E I cd]:=hd.at 27 rfl;exact Ep (by simp[go_sem,d27]) O
  ·obtain rfl:p=0:=U;exact ElB
  ·exact ElB
  ·exact ElU
  ·have d29:xv 29=EU rv:=hd.at 29 rfl;obtain⟨b,d0,eA,lb,h8,kb⟩:X1 n0 (xv 31) wq:=hd.at 31 rfl;have nh:=U0.out;refine ag EP (Ei O) ⟨O,eA,d29⟩ kb h8 RS.out RO.out ⟨oH kb RS.out,?_⟩ ⟨b,eA,lb,kb.setRow _⟩;exact Eks
  ·obtain rfl:p=1:=U;have d30:xv 30=E I cd:=hd.at 30 rfl;exact Ep (by simp[go_sem,d30]) O
 case hend=>
  intro xv W6 hp hd;clear S1 MM KM;simp only[EB,Ic,Ig,IJ,IU];obtain⟨b,eA,lb,kb⟩: ∃b:Nat,xv 31=V (X ⟨b,0,Z⟩)/\n0<=b/\D W6 b rv 109:=hd 32 EZ;have d33:xv 33=E I cd:=hd 33 EZ;obtain⟨s6,m6,aG,-⟩:=hp;have S1:=J s6;have MM:=J m6;have KM:=J aG;have KB:=J kb;rw[eA,d33];clear s6 m6 aG kb hd eA d33 CA;have c1:=JW.out _ _ KM.out;rcases Ear c.tok po k v3 (c.T.ZW v3) with hc|⟨q1,q2,q3,q4,q5,q6,hc⟩
  ·have hcd:cd≠0:=by rw[HR.out] at hc;exact hc
   have t9:(cd !=0)=G:=aC;clear hc hcd;exact Ei4
  ·have hcd:cd=0:=sA;have ht:t2={c.tok with o:=v3,oa:=0,om:=max (po:Int) 0}:=sA;have HT:=J ht;have HTO:Ea (t2.ok):=J (by have hh:=S1.out.core.ok.tok;have hb:=XK.out;have hk:=HK.out;rw[ht];exact⟨hh.h,hh.e,⟨by show(-1:Int)<=v3;omega,q5⟩,⟨Int.le_refl _,Qu⟩,⟨by show(0:Int)<=max (po:Int) 0;omega,by show max (po:Int) 0<=1000;omega⟩,hh.la,hh.lm,fun _=>⟨by show 1<=c.tok.h;omega,by show c.tok.h<=3;omega,by show v3≠c.tok.h;omega⟩⟩);have HQ1:=J q1;have HQ6:=J q6;subst hcd;clear hc q1 q2 q3 q4 q5 q6 ht;go_wp2_with fail;have y0: ∀y:Ext W6,(Ex W6 y).cell? ⟨gs,0,Z⟩=X (V (X ⟨gc,0,Z⟩)):=fun y=>(S1.out.B (EC y)).Iu;refine JB 7 Ec Ec ?_;simp only[Il,Ij,Iz,Ix]
   repeat (first
    |go_big_quiet_skip
    |(go_big_quiet_want
      first
       |(refine Oj (T:=109) (g:=b) EP _ rfl rfl KB ?_ ?_;(·exact RS.out);go_simp;go_big_quiet_on)
       |(go_big_quiet_op
         first
          |go_big_quiet_on
          |go_big_quiet_call (fail))))
   refine wpQuiet_nil ?_;intro _ hw';obtain⟨y9,rfl⟩:=hw';have El:=EC y9;replace KB:=EN KB El;replace KM:=EN KM El;replace S1:=J<|S1.out.B El;replace MM:=J<|MM.out.trans (Ev.Eu El);clear y0 El c1;generalize Ex W6 y9=w9 at*;have TH:=J<|aE S1.out.core 1 rfl 8 XW;go_wp2_with ((with_reducible refine JI 109 ?_);(with_reducible refine wpList_store_mid O 109 _ _ O gc 56 rv ?_ ?_ ?_ ?_ ?_ ?_);(·rfl);(·rfl);(·rw[RS.out];exact TH.out);(·rw[RS.out];exact EP.2);(·exact RO.out);refine Ed.mk ?_);refine Ed.in ?_;rw[X0.out];have S4:=S1.out.ZZ t2 (S1.out.core.ok.ZZ HTO.out);obtain⟨d0,d1,d2,hd,KG,-⟩:=S1.out.core.Em;replace KB:=J<|(JX (g:=gc) t2.v 56 w9).Em KB.out (E7 KB.out KG EZ);replace KM:=J<|(JX (g:=gc) t2.v 56 w9).Em KM.out (E7 KM.out KG EZ);replace S1:=J S4.1;replace MM:=J<|MM.out.trans S4.2;clear S4 TH KG;generalize w9.setCells gc 56 t2.v=UD at*;have c0:=CE.out _ _ KB.out;have c3:=sB.out _ _ KM.out;go_wp2_with ((with_reducible refine In 60 ?_);refine IP O 222 _ O (IW [135,0,0,k,e2,0,0,0,0,0,0,0,0,0]) BR3 ?_);(with_reducible refine(xa lo hi g gc gq gt gs _ ns rs [135,0,0,k,e2,0,0,0,0,0,0,0,0,0] v3 _ S1.out (lK _ _ _ _ _ _) JP).mono ?_);rintro e11 Zn ⟨rfl,⟨m1,hm1,s11⟩,m11⟩;replace KM:=J<|m11.Em KM.out EZ EZ;replace S1:=J s11;replace MM:=J<|MM.out.trans m11;have fT:=J hm1;clear m11 s11 hm1 c0 c3 KB;have c1:=JW.out _ _ KM.out;have c3:=sB.out _ _ KM.out;go_wp2_with fail;(with_reducible refine(Xs lo hi g gc gq gt gs _ (ns+m1) rs 9 k v1 0 v3 _ S1.out Ju).mono ?_);rintro e12 Xz ⟨rfl,s12,m12⟩;replace KM:=J<|m12.Em KM.out EZ EZ;replace S1:=J s12;replace MM:=J<|MM.out.trans m12;clear m12 s12 c1 c3;have c1:=JW.out _ _ KM.out;go_wp2_with fail;(with_reducible refine(fL lo hi g gc gq gt gs _ (ns+m1) _ k v1 _ S1.out sh).mono ?_);rintro e13 J_ ⟨rfl,s13,m13⟩;have S8:=J s13;replace MM:=J<|MM.out.trans m13;clear s13 m13;go_wp2_with fail;go_end0;refine⟨O,⟨_,m1+1,_,oF,S8.out,.inr ⟨po,dB.out,HQ1.out,HQ6.out,?_,?_⟩⟩,MM.out⟩;·rw[HT.out,hv3.out]
   ·rw[HT.out]
theorem QC:ID EJ 183 12:=⟨⟨_,Tryz.underlying183,O⟩,Ec⟩
theorem sC:ID EJ 25 4:=⟨⟨_,Tryz.underlying25,O⟩,Ec⟩
theorem xK{x m:Int}(hx:I3 x)(h0:0<=m/\m<=32767):I3 (JL x (-m) m):=by
 obtain⟨h1,h2⟩:=hx;unfold JL I3;repeat' split
 all_goals omega
theorem QD(g:Nat->M)(p0:Pt)(hf: ∀i,9<=i->i<56-> ∃n:Nat,g i=E I n/\ZQ i n)(hp:p0.ok)(k q cl x0 x1 x2 x3:Int)(hc:0<=cl/\cl<=3)(h0:I3 x0)(h1:I3 x1)(h2:I3 x2)(h3:I3 x3): ∃p:Pt,p.ok/\p.b=⟨1,k,q⟩/\ ∀W,Ef EJ 139 #[EU (EH 56 g),EU p0.v.toArray,E I cl,EU #[E I x0,E I x1,E I x2,E I x3],EU #[E I 1,E I k,E I q]] W fun e w'=>e=Eg (EU p.v.toArray)/\Eh W w':=by
 have hb: ∀i,50<=i->i<54-> ∃n:Int,g i=E I n/\0<=n/\n<=32767:=fun i h4 h5=>by
  obtain⟨n,e,ho⟩:=hf i U U;refine⟨n,e,U,?_⟩;have:=ho.2.1
  have hh:Ub i<=1000:=by
   unfold Ub;repeat' split
   all_goals omega
  omega
 have mk: ∀(cl m:Int),0<=cl/\cl<=3->0<=m/\m<=32767->(⟨cl,JL x0 (-m) m,JL x1 (-m) m,JL x2 (-m) m,JL x3 (-m) m,p0.n0,p0.n1,p0.n2,p0.n3,⟨1,k,q⟩⟩:Pt).ok:=fun cl m h4 h5=>⟨⟨by show _<=cl;omega,by show cl<=_;omega⟩,xK h0 h5,xK h1 h5,xK h2 h5,xK h3 h5,hp.n0,hp.n1,hp.n2,hp.n3⟩;have h:cl=0\/cl=1\/cl=2\/cl=3:=U;rcases h with rfl|rfl|rfl|rfl;·obtain⟨m,e,hm⟩:=hb 50 U U;exact⟨_,mk 0 m U hm,O,fun W=>EZ9 g m e hm p0.c p0.a0 p0.a1 p0.a2 p0.a3 p0.n0 p0.n1 p0.n2 p0.n3 p0.b.r p0.b.s p0.b.q 1 k q x0 x1 x2 x3 W⟩
 ·obtain⟨m,e,hm⟩:=hb 51 U U;exact⟨_,mk 1 m U hm,O,fun W=>EZ_ g m e hm p0.c p0.a0 p0.a1 p0.a2 p0.a3 p0.n0 p0.n1 p0.n2 p0.n3 p0.b.r p0.b.s p0.b.q 1 k q x0 x1 x2 x3 W⟩
 ·obtain⟨m,e,hm⟩:=hb 52 U U;exact⟨_,mk 2 m U hm,O,fun W=>EaE g m e hm p0.c p0.a0 p0.a1 p0.a2 p0.a3 p0.n0 p0.n1 p0.n2 p0.n3 p0.b.r p0.b.s p0.b.q 1 k q x0 x1 x2 x3 W⟩
 ·obtain⟨m,e,hm⟩:=hb 53 U U;exact⟨_,mk 3 m U hm,O,fun W=>EaI g m e hm p0.c p0.a0 p0.a1 p0.a2 p0.a3 p0.n0 p0.n1 p0.n2 p0.n3 p0.b.r p0.b.s p0.b.q 1 k q x0 x1 x2 x3 W⟩
structure sD(l:List Int):Prop where
 q:0<=l.getD 1 0/\l.getD 1 0<=4294967295
 m:0<=l.getD 5 0/\l.getD 5 0<=4
 c:0<=l.getD 6 0/\l.getD 6 0<=3
 x0:I3 (l.getD 8 0)
 x1:I3 (l.getD 9 0)
 x2:I3 (l.getD 10 0)
 x3:I3 (l.getD 11 0)
theorem Eax(lo hi:Nat)(g:Nat->M)(gc gq gt gs:Nat)(c:EA)(ns:Nat)(rs:List Rec)(l:List Int)(k:Int)(w:H)(S:E4 lo hi g gc gq gt gs c ns rs w)(hk:1<=k/\k<=3)(hm:sD l)(hn:ns<800000)(hl:rs.length<800000): Ef EJ 135 #[V (X ⟨gs,0,Z⟩),E I k,EU (ED l)] w fun e w'=>e=Eg (Es #[])/\(∃c' m new,m<=3/\E4 lo hi g gc gq gt gs c' (ns+m) (rs++new) w'/\((∃cd,c'=c/\new=[⟨7,k,l.getD 1 0,c.tok.e,cd,0⟩])\/(new=[⟨6,k,l.getD 1 0,c.tok.e,0,0⟩]/\(c'={c with mode:=l.getD 5 0,El:=⟨1,k,l.getD 1 0⟩}\/ ∃p:Pt,p.b=⟨1,k,l.getD 1 0⟩/\c'={c with pt:=p}))))/\Ev lo hi w w':=by
 have HK:=J hk;have fY:=J hm;obtain⟨jd,oM⟩: ∃jd:Int,∀W,Uz W->Ef EJ 138 #[EU (EH 56 g),EU c.tok.v.toArray,E I k,E I (c.T.kF k),E I c.mode,EU (ED l)] W fun e w'=>e=Eg (E I jd)/\Eh W w':=⟨_,fun W hc=>Pd g c.tok.h c.tok.e k (c.T.kF k) c.mode (l.getD 0 0) (l.getD 4 0) (l.getD 5 0) (l.getD 6 0) (E I c.tok.o) (E I c.tok.oa) (E I c.tok.om) (E I c.tok.la) (E I c.tok.lm) (Eb c.tok.bad) (E I (l.getD 1 0)) (E I (l.getD 2 0)) (E I (l.getD 3 0)) (Eb (l.getD 7 0==1)) (E I (l.getD 8 0)) (E I (l.getD 9 0)) (E I (l.getD 10 0)) (E I (l.getD 11 0)) W (fun i h1 h2=>S.core.U8.int i h2 (.inr U)) hc⟩;clear hk hm;have QG:Ea ((ED l).size=12):=J<|I4 l;have MG:Ea (∃A:List M,A.length=8/\ ∀W g,D W g (ED l) 183->OZ W g [A,[E I (l.getD 8 0),E I (l.getD 9 0),E I (l.getD 10 0),E I (l.getD 11 0)]] 183):=J ⟨[E I (l.getD 0 0),E I (l.getD 1 0),E I (l.getD 2 0),E I (l.getD 3 0),E I (l.getD 4 0),E I (l.getD 5 0),E I (l.getD 6 0),Eb (l.getD 7 0==1)],O,fun W g K=>K⟩;obtain⟨p,hpo,hpb,ii⟩: ∃p:Pt,p.ok/\p.b=⟨1,k,l.getD 1 0⟩/\ ∀W,Ef EJ 139 #[EU (EH 56 g),EU c.pt.v.toArray,E I (l.getD 6 0),EU #[E I (l.getD 8 0),E I (l.getD 9 0),E I (l.getD 10 0),E I (l.getD 11 0)],EU #[E I 1,E I k,E I (l.getD 1 0)]] W fun e w'=>e=Eg (EU p.v.toArray)/\Eh W w':=QD g c.pt S.core.U8.fit S.core.ok.pt k (l.getD 1 0) (l.getD 6 0) (l.getD 8 0) (l.getD 9 0) (l.getD 10 0) (l.getD 11 0) fY.out.c fY.out.x0 fY.out.x1 fY.out.x2 fY.out.x3;have dB:=J hpo;have XK:=J hpb;have CS:=J ii;clear hpo hpb ii;have S0:=J S;have HN:=J hn;have HL:=J hl;have KM:=J<|D.new w (ED l) 183;have b1:=Eo w (EI (ED l) 183);have S1:=J<|S0.out.B b1;have MM:=J<|Ev.Eu (lo:=lo) (hi:=hi) b1;obtain⟨v0,hv0⟩:=En (l.getD 0 0);have xL:Ea (∀W g,D W g (ED l) 183->W.cell? ⟨g,0,Z⟩=X (E I v0)):=J (fun W g K=>by rw[hv0];exact U_ K 0 U U);try rw[<-hv0]
 replace hv0:=J hv0;obtain⟨v1,hv1⟩:=En (l.getD 1 0);have JW:Ea (∀W g,D W g (ED l) 183->W.cell? ⟨g,1,Z⟩=X (E I v1)):=J (fun W g K=>by rw[hv1];exact U_ K 1 U U);try rw[<-hv1]
 replace hv1:=J hv1;obtain⟨v5,hv5⟩:=En (l.getD 5 0);have QH:Ea (∀W g,D W g (ED l) 183->W.cell? ⟨g,5,Z⟩=X (E I v5)):=J (fun W g K=>by rw[hv5];exact U_ K 5 U U);try rw[<-hv5]
 replace hv5:=J hv5;obtain⟨v6,hv6⟩:=En (l.getD 6 0);have QK:Ea (∀W g,D W g (ED l) 183->W.cell? ⟨g,6,Z⟩=X (E I v6)):=J (fun W g K=>by rw[hv6];exact U_ K 6 U U);try rw[<-hv6]
 replace hv6:=J hv6;obtain⟨v8,oN⟩:=En (l.getD 8 0);have MC8:Ea (∀W g,D W g (ED l) 183->W.cell? ⟨g,8,Z⟩=X (E I v8)):=J (fun W g K=>by rw[oN];exact U_ K 8 U U);try rw[<-oN]
 replace oN:=J oN;obtain⟨v9,oP⟩:=En (l.getD 9 0);have MC9:Ea (∀W g,D W g (ED l) 183->W.cell? ⟨g,9,Z⟩=X (E I v9)):=J (fun W g K=>by rw[oP];exact U_ K 9 U U);try rw[<-oP]
 replace oP:=J oP;obtain⟨v10,oQ⟩:=En (l.getD 10 0);have EaA:Ea (∀W g,D W g (ED l) 183->W.cell? ⟨g,10,Z⟩=X (E I v10)):=J (fun W g K=>by rw[oQ];exact U_ K 10 U U);try rw[<-oQ]
 replace oQ:=J oQ;obtain⟨v11,oR⟩:=En (l.getD 11 0);have EaB:Ea (∀W g,D W g (ED l) 183->W.cell? ⟨g,11,Z⟩=X (E I v11)):=J (fun W g K=>by rw[oR];exact U_ K 11 U U);try rw[<-oR]
 replace oR:=J oR;clear S hn hl S0;obtain⟨mv,hmv⟩:=En (ED l);rw[<-hmv] at KM b1 S1 MM xL JW QH QK MC8 MC9 EaA EaB oM QG MG⊢;clear hmv;go_enter Tryz.func135,Tryz.ntmps135;go_wp2_with fail;clear b1;generalize w.alloc (EI mv 183)=w1 at*;obtain⟨gm,hgm⟩:=En w.heap.size;rw[<-hgm] at KM⊢;clear hgm;obtain⟨d0,d1,d2,hd,KG,o0,o1,o2,-,-⟩:=S1.out.core.Em;have Up:=J<|J4 (c:=c) (gq:=gq) (gt:=gt) (hd:=hd) (Jj g) o0 o1 o2 0 U;have sF:=J<|J4 (c:=c) (gq:=gq) (gt:=gt) (hd:=hd) (Jj g) o0 o1 o2 1 U;have KG:=J KG;have PL:=J<|Jj g;have CJ:=J oM;have TB:=J S1.out.core.tab;have xM:=J S1.out.core.ok.T;have xN:=J S1.out.core.cmds;clear o0 o1 o2 oM;have y0: ∀y:Ext w1,(Ex w1 y).cell? ⟨gs,0,Z⟩=X (V (X ⟨gc,0,Z⟩)):=fun y=>(S1.out.B (EC y)).Iu;have y95: ∀y:Ext w1,(Ex w1 y).cell? ⟨gc,95,Z⟩=X (V (X ⟨gt,0,Z⟩)):=fun y=>(S1.out.B (EC y)).core.cell 6 rfl 0 Ek;have y98: ∀y:Ext w1,(Ex w1 y).cell? ⟨gc,98,Z⟩=X (E I c.mode):=fun y=>(S1.out.B (EC y)).core.cell 9 rfl 0 Ek;have Ud:Ea ((EH 56 g).toList.toArray=EH 56 g):=J Ek;refine Uv Ec Ec ?_
 repeat (first
  |go_big_quiet_skip
  |(go_big_quiet_want
    first
     |(refine Xa (T:=28) (g:=gc) (off:=0) UZ _ rfl rfl KG 0 rfl Up.out PL.out ?_;(try rw[Ud.out]);go_simp;go_big_quiet_on)
     |(refine Xa (T:=109) (g:=gc) (off:=56) EP _ rfl rfl KG 1 rfl sF.out rfl ?_;go_simp;go_big_quiet_on)
     |(refine Oj (T:=183) (g:=gm) QC _ rfl rfl KM ?_ ?_;(·exact QG.out);go_simp;go_big_quiet_on)
     |(go_big_quiet_op
       first
        |go_big_quiet_on
        |go_big_quiet_call (with_reducible first|refine U5 (EEP gt c.T k _ (TB.out.B (EC _)) xM.out)|refine X6 (CJ.out _ (xN.out.B (EC _)))))))
 refine wpQuiet_nil ?_;intro _ hw';obtain⟨y9,rfl⟩:=hw';have El:=EC y9;replace KM:=EN KM El;replace S1:=J<|S1.out.B El;replace MM:=J<|MM.out.trans (Ev.Eu El);clear y0 y95 y98 El KG Up sF PL Ud;generalize Ex w1 y9=w2 at*;have c1:=JW.out _ _ KM.out;by_cases hjd:jd=0
 ·subst hjd;have D4:Tryz.prog.built 36 [(0,E I 1),(1,E I k),(2,E I v1)]=X #[E I 1,E I k,E I v1]:=Ec;go_wp2_with (first|((with_reducible refine In 52 ?_);refine IP rfl {LT} _ rfl #[E I 1,E I k,E I v1] D4 ?_)|(with_reducible refine I2 54 ?_));refine Ed.in ?_;generalize hW:World.alloc _ _=w4 at*;have KL:Ea (D w4 (w2.heap.size) #[E I 1,E I k,E I v1] 36):=J (by subst hW;repeat (first|exact D.new _ _ _|exact D.new' _ _ _ Ek|refine D.alloc ?_ _));have b3:Ea (Eh w2 w4):=J Ds;clear hW;obtain⟨gl,hgl⟩:=En w2.heap.size;rw[<-hgl] at KL⊢;clear hgl;have w4e:True:=trivial;replace KM:=EN KM b3.out;replace S1:=J<|S1.out.B b3.out;replace MM:=J<|MM.out.trans (Ev.Eu b3.out);clear b3 c1;have c0:=xL.out _ _ KM.out;have ZB:Ea ((⟨1,k,v1⟩:Oa).ok):=J (by have h1:=HK.out;have h2:=fY.out.q;rw[<-hv1.out] at h2;exact⟨jz,⟨by show _<=k;omega,by show k<=_;omega⟩,⟨by show _<=v1;omega,by show v1<=_;omega⟩⟩);by_cases hk10:v0=10
  ·have t10:(v0==10)=G:=by simp[hk10]
   clear hk10;go_wp2_with fail;have y0: ∀y:Ext w4,(Ex w4 y).cell? ⟨gs,0,Z⟩=X (V (X ⟨gc,0,Z⟩)):=fun y=>(S1.out.B (EC y)).Iu;have y5: ∀y:Ext w4,(Ex w4 y).cell? ⟨gm,5,Z⟩=X (E I v5):=fun y=>QH.out _ _ (D.B KM.out (EC y));refine JB 8 Ec Ec ?_;simp only[Il,Ij,Iz,Ix]
   repeat (first
    |go_big_quiet_skip
    |(go_big_quiet_want
      first
       |(go_big_quiet_op
         first
          |go_big_quiet_on
          |go_big_quiet_call (fail))))
   refine wpQuiet_nil ?_;intro _ hw';obtain⟨y9,rfl⟩:=hw';have El:=EC y9;replace KM:=EN KM El;replace KL:=EN KL El;replace S1:=J<|S1.out.B El;replace MM:=J<|MM.out.trans (Ev.Eu El);clear y0 y5 El c0;generalize Ex w4 y9=w5 at*;have zm:w5.cell? ⟨gc,98,Z⟩=X (E I c.mode):=S1.out.core.cell 9 rfl 0 Ek;have zf:=oD S1.out.core 98;go_wp2_with fail;have S4:=S1.out.sf v5 (S1.out.core.ok.sf (by rw[hv5.out];exact fY.out.m));obtain⟨d0,d1,d2,hd,KG,-⟩:=S1.out.core.Em;replace KL:Ea (D (w5.setCell ⟨gc,98,Z⟩ (E I v5)) gl #[E I 1,E I k,E I v1] 36):=J<|(OH (g:=gc) (W:=w5) 98 (E I v5)).Em KL.out (E7 KL.out KG EZ);replace KM:Ea (D (w5.setCell ⟨gc,98,Z⟩ (E I v5)) gm mv 183):=J<|(OH (g:=gc) (W:=w5) 98 (E I v5)).Em KM.out (E7 KM.out KG EZ);replace S1:Ea (E4 lo hi g gc gq gt gs {c with mode:=v5} ns rs (w5.setCell ⟨gc,98,Z⟩ (E I v5))):=J S4.1;replace MM:Ea (Ev lo hi w (w5.setCell ⟨gc,98,Z⟩ (E I v5))):=J<|MM.out.trans S4.2;clear S4 zm zf KG;generalize w5.setCell ⟨gc,98,Z⟩ (E I v5)=w6 at*;have y0: ∀y:Ext w6,(Ex w6 y).cell? ⟨gs,0,Z⟩=X (V (X ⟨gc,0,Z⟩)):=fun y=>(S1.out.B (EC y)).Iu;refine JB 7 Ec Ec ?_;simp only[Il,Ij,Iz,Ix]
   repeat (first
    |go_big_quiet_skip
    |(go_big_quiet_want
      first
       |(refine Oj (T:=36) (g:=gl) cF _ rfl rfl KL ?_ ?_;(·rfl);go_simp;go_big_quiet_on)
       |(go_big_quiet_op
         first
          |go_big_quiet_on
          |go_big_quiet_call (fail))))
   refine wpQuiet_nil ?_;intro _ hw';obtain⟨y9,rfl⟩:=hw';have El:=EC y9;replace KM:=EN KM El;replace KL:=EN KL El;replace S1:=J<|S1.out.B El;replace MM:=J<|MM.out.trans (Ev.Eu El);clear y0 El;generalize Ex w6 y9=w7 at*;have TH:=J<|aE S1.out.core 10 rfl 3 (by simp[Oa.v]);go_wp2_with ((with_reducible refine JI 36 ?_);(with_reducible refine wpList_store_mid O 36 _ _ O gc 99 #[E I 1,E I k,E I v1] ?_ ?_ ?_ ?_ ?_ ?_);(·rfl);(·rfl);(·exact TH.out);(·exact cF.2);(·simp[Value.oneCell']);refine Ed.mk ?_);refine Ed.in ?_;have S4:=S1.out.sg ⟨1,k,v1⟩ (S1.out.core.ok.sg ZB.out);obtain⟨d0,d1,d2,hd,KG,-⟩:=S1.out.core.Em;replace KM:Ea (D (w7.setCells gc 99 (⟨1,k,v1⟩:Oa).v) gm mv 183):=J<|(JX (g:=gc) (⟨1,k,v1⟩:Oa).v 99 w7).Em KM.out (E7 KM.out KG EZ);replace S1:=J S4.1;replace MM:=J<|MM.out.trans S4.2;clear S4 TH KG KL;change wpList _ _ _ _ _ (w7.setCells gc 99 (⟨1,k,v1⟩:Oa).v);generalize w7.setCells gc 99 (⟨1,k,v1⟩:Oa).v=w8 at*;have c1:=JW.out _ _ KM.out;go_wp2_with fail;(with_reducible refine(Xs lo hi g gc gq gt gs _ ns rs 6 k v1 0 0 _ S1.out Ju).mono ?_);rintro e12 Xz ⟨rfl,s12,m12⟩;replace KM:=J<|m12.Em KM.out EZ EZ;replace S1:=J s12;replace MM:=J<|MM.out.trans m12;clear m12 s12 c1;have c1:=JW.out _ _ KM.out;go_wp2_with fail;(with_reducible refine(fL lo hi g gc gq gt gs _ ns _ k v1 _ S1.out JP).mono ?_);rintro e13 J_ ⟨rfl,s13,m13⟩;have S8:=J s13;replace MM:=J<|MM.out.trans m13;clear s13 m13;go_wp2_with fail;go_end0;refine⟨O,⟨_,1,_,U,S8.out,.inr ⟨O,.inl ?_⟩⟩,MM.out⟩;rw[hv5.out]
  ·have t10:(v0==10)=Y:=by simp[hk10]
   go_wp2_with fail;obtain⟨d0,d1,d2,hd,KG,o0,o1,o2,-,-⟩:=S1.out.core.Em;have Up:=J<|J4 (c:=c) (gq:=gq) (gt:=gt) (hd:=hd) (Jj g) o0 o1 o2 0 U;have dF:=J<|J4 (c:=c) (gq:=gq) (gt:=gt) (hd:=hd) (Jj g) o0 o1 o2 11 U;have KG:=J KG;have PL:=J<|Jj g;obtain⟨A8,QL,QN⟩:=MG.out;have KX:=J<|QN _ _ KM.out;have OX:Ea (aV [A8,[E I v8,E I v9,E I v10,E I v11]] 1=8):=J (by simp[aV,QL]);rw[<-oN.out,<-oP.out,<-oQ.out,<-oR.out] at KX;rw[<-hv1.out,<-hv6.out,<-oN.out,<-oP.out,<-oQ.out,<-oR.out] at CS;have y0: ∀y:Ext w4,(Ex w4 y).cell? ⟨gs,0,Z⟩=X (V (X ⟨gc,0,Z⟩)):=fun y=>(S1.out.B (EC y)).Iu;have y6: ∀y:Ext w4,(Ex w4 y).cell? ⟨gm,6,Z⟩=X (E I v6):=fun y=>QK.out _ _ (D.B KM.out (EC y));clear o0 o1 o2 QL QN;refine JB 26 Ec Ec ?_;simp only[Il,Ij,Iz,Ix]
   repeat (first
    |go_big_quiet_skip
    |(go_big_quiet_want
      first
       |(refine Xa (T:=28) (g:=gc) (off:=0) UZ _ rfl rfl KG 0 rfl Up.out PL.out ?_;go_simp;go_big_quiet_on)
       |(refine Xa (T:=50) (g:=gc) (off:=102) fS _ rfl rfl KG 11 rfl dF.out rfl ?_;go_simp;go_big_quiet_on)
       |(refine Xa (T:=25) (g:=gm) (off:=8) sC _ rfl rfl KX 1 rfl OX.out rfl ?_;go_simp;go_big_quiet_on)
       |(refine Oj (T:=36) (g:=gl) cF _ rfl rfl KL ?_ ?_;(·rfl);go_simp;go_big_quiet_on)
       |(go_big_quiet_op
         first
          |go_big_quiet_on
          |go_big_quiet_call (with_reducible refine X6 (CS.out _)))))
   refine wpQuiet_nil ?_;intro _ hw';obtain⟨y9,rfl⟩:=hw';have El:=EC y9;replace KM:=EN KM El;replace S1:=J<|S1.out.B El;replace MM:=J<|MM.out.trans (Ev.Eu El);clear y0 y6 El KG Up dF KX OX;generalize Ex w4 y9=w5 at*;have TH:=J<|aE S1.out.core 11 rfl 12 sj;go_wp2_with ((with_reducible refine JI 50 ?_);(with_reducible refine wpList_store_mid O 50 _ _ O gc 102 p.v.toArray ?_ ?_ ?_ ?_ ?_ ?_);(·rfl);(·rfl);(·exact TH.out);(·exact fS.2);(·simp[Pt.v,Value.oneCell']);refine Ed.mk ?_);refine Ed.in ?_;have S4:=S1.out.dA p (S1.out.core.ok.dA dB.out);obtain⟨d0,d1,d2,hd,KG,-⟩:=S1.out.core.Em;replace KM:Ea (D (w5.setCells gc 102 p.v) gm mv 183):=J<|(JX (g:=gc) p.v 102 w5).Em KM.out (E7 KM.out KG EZ);replace S1:=J S4.1;replace MM:=J<|MM.out.trans S4.2;clear S4 TH KG;change wpList _ _ _ _ _ (w5.setCells gc 102 p.v);generalize w5.setCells gc 102 p.v=w8 at*;have c1:=JW.out _ _ KM.out;go_wp2_with fail;(with_reducible refine(Xs lo hi g gc gq gt gs _ ns rs 6 k v1 0 0 _ S1.out Ju).mono ?_);rintro e12 Xz ⟨rfl,s12,m12⟩;replace KM:=J<|m12.Em KM.out EZ EZ;replace S1:=J s12;replace MM:=J<|MM.out.trans m12;clear m12 s12 c1;have c1:=JW.out _ _ KM.out;go_wp2_with fail;(with_reducible refine(fL lo hi g gc gq gt gs _ ns _ k v1 _ S1.out JP).mono ?_);rintro e13 J_ ⟨rfl,s13,m13⟩;have S8:=J s13;replace MM:=J<|MM.out.trans m13;clear s13 m13;go_wp2_with fail;go_end0;exact⟨O,⟨_,1,_,U,S8.out,.inr ⟨O,.inr ⟨p,by rw[XK.out,hv1.out],O⟩⟩⟩,MM.out⟩
 ·have t9:(jd !=0)=G:=by simpa using hjd
  go_wp2_with fail;(with_reducible refine(dx lo hi g gc gq gt gs c ns rs k v1 jd _ S1.out JP Ju).mono ?_);rintro e7 w7 ⟨rfl,s7,m7⟩;have S8:=J s7;replace MM:=J<|MM.out.trans m7;clear s7 m7;go_wp2_with fail;refine EQ (results_none O _ _ _) O ?_;exact⟨O,⟨_,1,_,U,S8.out,.inl ⟨jd,O,O⟩⟩,MM.out⟩
def f9(xs:List Int)(k:Int):Bool:=match xs with
 |[]=>Y
 |x::_=>x==k
theorem EaC(A:Option Et)(xs:List Int)(n c:Nat)(k:Int)(w:H)(hn:xs.length=n)(hr:Row w A xs)(hm:n<=9223372036854775807): Ef EJ 85 #[u A n c,E IB k] w fun e w'=>e=Eg (Eb (f9 xs k))/\w=w':=by
 obtain⟨hr,hb⟩:=hr;cases xs with
 |nil=>
  obtain rfl:n=0:=by rw[<-hn];rfl
  go_enter Tryz.func85,Tryz.ntmps85;exact Eh9
 |cons x r=>
  obtain⟨m,rfl⟩: ∃m,n=m+1:=⟨r.length,by rw[<-hn];rfl⟩;rcases hr with e|⟨b,off,rfl,hc⟩;·cases e
  ·have h0:w.cell? ⟨b,off,Z⟩=X (E IB x):=by have:=hc 0 Ek;simpa using this
   have t1:decide (0<((m:Int)+1))=G:=Ia U;have er:f9 (x::r) k=(x==k):=rfl;rw[er];clear hc hb hn er;go_enter Tryz.func85,Tryz.ntmps85;exact Eh9
theorem EaD{bs:List Int}(hb: ∀x∈bs,0<=x/\x<=255)(h:cI bs=X l):sD l:=by
 obtain⟨hp,hl,-⟩:=Cd hb h;match l,hl with
 |[a0,a1,a2,a3,a4,a5,a6,a7,a8,a9,Oq,Jt],_=>
  obtain⟨hf,-⟩:=Nk a0 a1 a2 a3 a4 a5 a6 a7 a8 a9 Oq Jt bs hp;have h2:=(Cg _ _ _ _ _ _ _ _ _ _ _).1 hf;obtain⟨x8,x9,jO,mg,k0,q,e4,r2,t3,m5,c6⟩:=h2;refine⟨q,m5,⟨?_,c6.2⟩,?_,?_,?_,?_⟩;·show 0<=a6;have:=c6.1;split at this<;>omega
  ·exact⟨by show _<=a8;omega,by show a8<=_;omega⟩
  ·exact⟨by show _<=a9;omega,by show a9<=_;omega⟩
  ·exact⟨by show _<=Oq;omega,by show Oq<=_;omega⟩
  ·exact⟨by show _<=Jt;omega,by show Jt<=_;omega⟩
def jA(w:H)(r:Nat)(o:Obj):H:={w with heap:=w.heap.setIfInBounds r o}
theorem ij{es:Array MapEntry}{clock:Nat}(h:W.heap[g]?=X (.map es clock))(k:Int)(v:M)(hf: ∀W,(Instr.findKey 3 (E I k) es.toList).run EJ W= .ok Z W): (Instr.mapUpdate 188 (.map (X g)) (E I k) v).run EJ W= .ok () (jA W g (.map (es.push {key:=E I k,val:=v,born:=clock}) (clock+1))):=by
 have hu: ∀W,Sem.run EJ (underlying 188) W= .ok (.map 3 186) W:=fun _=>Ec;have hck: ∀W,(Instr.checkKey Y 10000 3 (E I k)).run EJ W= .ok () W:=fun _=>Ec;have hg:(Sem.getObj g Sem.pure).run EJ W= .ok (.map es clock) W:=by simp[Sem.run,h]
 have hs: ∀o,(setObj g o).run EJ W= .ok () (jA W g o):=fun o=>by simp[setObj,Sem.run,h,jA]
 unfold Instr.mapUpdate;simp only[Sem.run_bind,hu,Result.andThen_ok,getObj,hg,hck,hf,hs]
def Jq(gs:Nat)(k:Int)(f:Nat)(n:Nat):MapEntry:={key:=E I k,val:= .func (.func f) #[V (X ⟨gs,0,Z⟩)] #[],born:=n}
def Uq(gs:Nat):Nat->Array MapEntry
 |0=> #[]
 |1=> #[Jq gs 3 128 0]
 |2=> #[Jq gs 3 128 0,Jq gs 4 129 1]
 |3=> #[Jq gs 3 128 0,Jq gs 4 129 1,Jq gs 5 130 2]
 |4=> #[Jq gs 3 128 0,Jq gs 4 129 1,Jq gs 5 130 2,Jq gs 6 131 3]
 |5=> #[Jq gs 3 128 0,Jq gs 4 129 1,Jq gs 5 130 2,Jq gs 6 131 3,Jq gs 7 132 4]
 |6=> #[Jq gs 3 128 0,Jq gs 4 129 1,Jq gs 5 130 2,Jq gs 6 131 3,Jq gs 7 132 4,Jq gs 8 133 5]
 |7=> #[Jq gs 3 128 0,Jq gs 4 129 1,Jq gs 5 130 2,Jq gs 6 131 3,Jq gs 7 132 4,Jq gs 8 133 5,Jq gs 9 134 6]
 |8=> #[Jq gs 3 128 0,Jq gs 4 129 1,Jq gs 5 130 2,Jq gs 6 131 3,Jq gs 7 132 4,Jq gs 8 133 5,Jq gs 9 134 6,Jq gs 10 135 7]
 |9=> #[Jq gs 3 128 0,Jq gs 4 129 1,Jq gs 5 130 2,Jq gs 6 131 3,Jq gs 7 132 4,Jq gs 8 133 5,Jq gs 9 134 6,Jq gs 10 135 7,Jq gs 11 135 8]
 |_=> #[]
theorem ik{o o':Obj}(h:W.heap[g]?=X o):(jA W g o').heap[g]?=X o':=by have hl:g<W.heap.size:=(Ja.1 h).1;simp[jA,hl]
theorem il{W0:H}{o:Obj}(h:Eh W0 W)(hg:W0.heap.size<=g):Eh W0 (jA W g o):=
 ⟨h.os,h.tape,h.output,by simpa[jA] using h.size,fun k hk=>by have:=h.block k hk;simp only[jA];rw[Array.getElem?_setIfInBounds_ne U];exact this⟩
theorem EaF(gs:Nat)(w:H): Ef EJ 89 #[V (X ⟨gs,0,Z⟩)] w fun e w'=>e=Eg (.map (X w.heap.size))/\w'.heap[w.heap.size]?=X (.map (Uq gs 9) 9)/\Eh w w':=by
 obtain⟨W0,hW0⟩: ∃W0,W0=w.alloc (.map #[] 0):=⟨_,O⟩;have hmm:(Instr.makeMap 188 Z).run EJ w= .ok (.map (X w.heap.size)) W0:=by rw[hW0];rfl
 have H0:W0.heap[w.heap.size]?=X (.map (Uq gs 0) 0):=by rw[hW0];exact heap_alloc_new w _
 have B0:Eh w W0:=by rw[hW0];exact Eo w _
 clear hW0;obtain⟨W1,f0,H1,B1⟩: ∃W',(Instr.mapUpdate 188 (.map (X w.heap.size)) (E I 3) (.func (.func 128) #[V (X ⟨gs,0,Z⟩)] #[])).run EJ W0= .ok () W'/\W'.heap[w.heap.size]?=X (.map (Uq gs 1) 1)/\Eh w W':=⟨_,ij H0 3 _ (fun _=>Ec),ik H0,il B0 (E5 _)⟩;clear H0 B0;obtain⟨W2,f1,H2,B2⟩: ∃W',(Instr.mapUpdate 188 (.map (X w.heap.size)) (E I 4) (.func (.func 129) #[V (X ⟨gs,0,Z⟩)] #[])).run EJ W1= .ok () W'/\W'.heap[w.heap.size]?=X (.map (Uq gs 2) 2)/\Eh w W':=⟨_,ij H1 4 _ (fun _=>Ec),ik H1,il B1 (E5 _)⟩;clear H1 B1;obtain⟨W3,f2,H3,B3⟩: ∃W',(Instr.mapUpdate 188 (.map (X w.heap.size)) (E I 5) (.func (.func 130) #[V (X ⟨gs,0,Z⟩)] #[])).run EJ W2= .ok () W'/\W'.heap[w.heap.size]?=X (.map (Uq gs 3) 3)/\Eh w W':=⟨_,ij H2 5 _ (fun _=>Ec),ik H2,il B2 (E5 _)⟩;clear H2 B2;obtain⟨W4,f3,H4,B4⟩: ∃W',(Instr.mapUpdate 188 (.map (X w.heap.size)) (E I 6) (.func (.func 131) #[V (X ⟨gs,0,Z⟩)] #[])).run EJ W3= .ok () W'/\W'.heap[w.heap.size]?=X (.map (Uq gs 4) 4)/\Eh w W':=⟨_,ij H3 6 _ (fun _=>Ec),ik H3,il B3 (E5 _)⟩;clear H3 B3;obtain⟨W5,f4,H5,B5⟩: ∃W',(Instr.mapUpdate 188 (.map (X w.heap.size)) (E I 7) (.func (.func 132) #[V (X ⟨gs,0,Z⟩)] #[])).run EJ W4= .ok () W'/\W'.heap[w.heap.size]?=X (.map (Uq gs 5) 5)/\Eh w W':=⟨_,ij H4 7 _ (fun _=>Ec),ik H4,il B4 (E5 _)⟩;clear H4 B4;obtain⟨W6,f5,H6,B6⟩: ∃W',(Instr.mapUpdate 188 (.map (X w.heap.size)) (E I 8) (.func (.func 133) #[V (X ⟨gs,0,Z⟩)] #[])).run EJ W5= .ok () W'/\W'.heap[w.heap.size]?=X (.map (Uq gs 6) 6)/\Eh w W':=⟨_,ij H5 8 _ (fun _=>Ec),ik H5,il B5 (E5 _)⟩;clear H5 B5;obtain⟨W7,f6,H7,B7⟩: ∃W',(Instr.mapUpdate 188 (.map (X w.heap.size)) (E I 9) (.func (.func 134) #[V (X ⟨gs,0,Z⟩)] #[])).run EJ W6= .ok () W'/\W'.heap[w.heap.size]?=X (.map (Uq gs 7) 7)/\Eh w W':=⟨_,ij H6 9 _ (fun _=>Ec),ik H6,il B6 (E5 _)⟩;clear H6 B6;obtain⟨W8,f7,H8,B8⟩: ∃W',(Instr.mapUpdate 188 (.map (X w.heap.size)) (E I 10) (.func (.func 135) #[V (X ⟨gs,0,Z⟩)] #[])).run EJ W7= .ok () W'/\W'.heap[w.heap.size]?=X (.map (Uq gs 8) 8)/\Eh w W':=⟨_,ij H7 10 _ (fun _=>Ec),ik H7,il B7 (E5 _)⟩;clear H7 B7;obtain⟨W9,f8,H9,B9⟩: ∃W',(Instr.mapUpdate 188 (.map (X w.heap.size)) (E I 11) (.func (.func 135) #[V (X ⟨gs,0,Z⟩)] #[])).run EJ W8= .ok () W'/\W'.heap[w.heap.size]?=X (.map (Uq gs 9) 9)/\Eh w W':=⟨_,ij H8 11 _ (fun _=>Ec),ik H8,il B8 (E5 _)⟩;clear H8 B8;have H9:=J H9;have B9:=J B9;go_enter Tryz.func89,Tryz.ntmps89;go_wp2_with fail;go_ret;exact⟨O,H9.out,B9.out⟩
theorem im(h:W.heap[g]?=X (.map (Uq gs 9) 9))(k:Int)(f:Nat)(i:Nat)(hf: ∀W,(Instr.findKey 3 (E I k) (Uq gs 9).toList).run EJ W= .ok (X (i,.func (.func f) #[V (X ⟨gs,0,Z⟩)] #[])) W): (Instr.lookup 188 (.map (X g)) (E I k) G).run EJ W= .ok (Es #[.func (.func f) #[V (X ⟨gs,0,Z⟩)] #[],Eb G]) W:=by
 have hu: ∀W,Sem.run EJ (underlying 188) W= .ok (.map 3 186) W:=fun _=>Ec;have hck: ∀b W,(Instr.checkKey b 10000 3 (E I k)).run EJ W= .ok () W:=fun _ _=>Ec;have hg:(Sem.getObj g Sem.pure).run EJ W= .ok (.map (Uq gs 9) 9) W:=by simp[Sem.run,h]
 unfold Instr.lookup;simp only[Sem.run_bind,hu,Result.andThen_ok,getObj,hg,hck,hf,Sem.run_pure,if_true]
theorem EaG(h:W.heap[g]?=X (.map (Uq gs 9) 9)):(Instr.lookup 188 (.map (X g)) (E I 3) G).run EJ W= .ok (Es #[.func (.func 128) #[V (X ⟨gs,0,Z⟩)] #[],Eb G]) W:=im h 3 128 0 (fun _=>Ec)
theorem EaH(h:W.heap[g]?=X (.map (Uq gs 9) 9)):(Instr.lookup 188 (.map (X g)) (E I 4) G).run EJ W= .ok (Es #[.func (.func 129) #[V (X ⟨gs,0,Z⟩)] #[],Eb G]) W:=im h 4 129 1 (fun _=>Ec)
theorem EaK(h:W.heap[g]?=X (.map (Uq gs 9) 9)):(Instr.lookup 188 (.map (X g)) (E I 5) G).run EJ W= .ok (Es #[.func (.func 130) #[V (X ⟨gs,0,Z⟩)] #[],Eb G]) W:=im h 5 130 2 (fun _=>Ec)
theorem EaL(h:W.heap[g]?=X (.map (Uq gs 9) 9)):(Instr.lookup 188 (.map (X g)) (E I 6) G).run EJ W= .ok (Es #[.func (.func 131) #[V (X ⟨gs,0,Z⟩)] #[],Eb G]) W:=im h 6 131 3 (fun _=>Ec)
theorem EaM(h:W.heap[g]?=X (.map (Uq gs 9) 9)):(Instr.lookup 188 (.map (X g)) (E I 7) G).run EJ W= .ok (Es #[.func (.func 132) #[V (X ⟨gs,0,Z⟩)] #[],Eb G]) W:=im h 7 132 4 (fun _=>Ec)
theorem EaN(h:W.heap[g]?=X (.map (Uq gs 9) 9)):(Instr.lookup 188 (.map (X g)) (E I 8) G).run EJ W= .ok (Es #[.func (.func 133) #[V (X ⟨gs,0,Z⟩)] #[],Eb G]) W:=im h 8 133 5 (fun _=>Ec)
theorem EaP(h:W.heap[g]?=X (.map (Uq gs 9) 9)):(Instr.lookup 188 (.map (X g)) (E I 9) G).run EJ W= .ok (Es #[.func (.func 134) #[V (X ⟨gs,0,Z⟩)] #[],Eb G]) W:=im h 9 134 6 (fun _=>Ec)
theorem EaQ(h:W.heap[g]?=X (.map (Uq gs 9) 9)):(Instr.lookup 188 (.map (X g)) (E I 10) G).run EJ W= .ok (Es #[.func (.func 135) #[V (X ⟨gs,0,Z⟩)] #[],Eb G]) W:=im h 10 135 7 (fun _=>Ec)
theorem EaR(h:W.heap[g]?=X (.map (Uq gs 9) 9)):(Instr.lookup 188 (.map (X g)) (E I 11) G).run EJ W= .ok (Es #[.func (.func 135) #[V (X ⟨gs,0,Z⟩)] #[],Eb G]) W:=im h 11 135 8 (fun _=>Ec)
section
variable{P:Program}
theorem D5{fn:Func}{p p2 q:Tmp}{n2:Nat}(hT:ID P T n)(Oy:ID P T2 n2)(h:fn.results= #[.cell p T,.cell p2 T2,.tmp q])(tmps:Array M)(w:H)(g g2:Nat)(cs cs2:Array M)(v:M) (hp:tmps.getD p undef=V (X ⟨g,0,Z⟩)) (hp2:tmps.getD p2 undef=V (X ⟨g2,0,Z⟩)) (hq:tmps.getD q undef=v) (hg:D w g cs T) (hn:cs.size=n) (hg2:D w g2 cs2 T2) (hn2:cs2.size=n2):(results fn tmps).run P w= .ok (Es #[EU cs,EU cs2,v]) w:=by
 have hp':tmps[p]?.getD undef=V (X ⟨g,0,Z⟩):=gy;have EaS:tmps[p2]?.getD undef=V (X ⟨g2,0,Z⟩):=by simpa using hp2
 have hq':tmps[q]?.getD undef=v:=kn;simp[results,h,hp',EaS,hq',asAddr,qS hT hg hn,qS Oy hg2 hn2]
end
def It(Ii:Int)(op:Bool)(nc:List Int):Array M:= #[E I Ii,Eb op]++Ej nc
theorem X2(Ii:Int)(op:Bool)(nc:List Int)(h:nc.length=8):(It Ii op nc).size=10:=by simp[It,JV,h]
theorem mh(Ii:Int)(op:Bool)(nc:List Int):(It Ii op nc).all (·.oneCell')=G:=by
 rw[Array.all_eq_true];intro i hi;simp only[It] at hi⊢;rw[Array.getElem_append];split
 ·rename_i h;have:i=0\/i=1:=by simp at h;omega
  rcases this with rfl|rfl<;>rfl
 ·simp[Ej,Value.oneCell']
theorem xP(Ii:Int)(op:Bool)(nc:List Int):(It Ii op nc)[0]?=X (E I Ii):=by unfold It;rw[Array.getElem?_append_left Ek];rfl
theorem D6(Ii:Int)(op:Bool)(nc:List Int):(It Ii op nc)[1]?=X (Eb op):=by unfold It;rw[Array.getElem?_append_left Ek];rfl
theorem D7(Ii:Int)(op:Bool)(nc:List Int)(h:nc.length=8):(It Ii op nc).extract 2 (2+8)=Ej nc:=by
 match nc,h with
 |[a,b,c,d,e,f,g,i],_=>rfl
theorem EaT(Ii:Int)(op:Bool)(nc:List Int)(h:nc.length=8):Tryz.prog.built 117 [(0,E I Ii),(1,Eb op),(2,EU (Ej nc))]=X (It Ii op nc):=by
 obtain⟨a,b,c,d,e,f,g,i,rfl⟩: ∃a b c d e f g i,nc=[a,b,c,d,e,f,g,i]:=by
  match nc,h with
  |[a,b,c,d,e,f,g,i],_=>exact⟨a,b,c,d,e,f,g,i,O⟩
 kernel_rfl
theorem QP(Ii:Int):Tryz.prog.built 117 [(0,E I Ii)]=X (It Ii Y (Er 8)):=Ec
theorem D8:Tryz.prog.built 41 []=X (Ej (Er 32)):=Ec
theorem UN:ID EJ 117 10:=⟨⟨_,Tryz.underlying117,O⟩,Ec⟩
theorem io:Og EJ 117 (It 0 Y (Er 8)):=by intro ev o w ho;unfold execOp;simp only[ho];simp[go_sem];exact congrArg (fun c=>w.alloc (EI c 117)) Ec
theorem ip:(Er 8).length=8:=rfl
theorem EaV(A:Option Et)(n c:Nat)(s Ii:Int)(op:Bool)(nc:List Int)(w:H)(hc:nc.length=8)(hm:4294967295<=Ii): Ef EJ 121 #[EU (It Ii op nc),u A n c,E I s] w fun e w'=>e=Eg (Es #[EU (It Ii op nc),E I 24])/\Eh w w':=by have DS:=J<|X2 Ii op nc hc;have D1:=J<|mh Ii op nc;have C0:=xP Ii op nc;generalize It Ii op nc=dv at*;clear hc;go_enter Tryz.func121,Tryz.ntmps121;go_wp2_with (with_reducible refine wA io (Ed.mk ?_));refine Ed.in ?_;have K3:=J<|(D.new w dv 117).alloc (EI (It 0 Y (Er 8)) 117);have K6:=J<|D.new' (w.alloc (EI dv 117)) (It 0 Y (Er 8)) 117 (g:=w.heap.size+1) Ek;have BB:=J<|JF w (EI dv 117) (EI (It 0 Y (Er 8)) 117);generalize (w.alloc (EI dv 117)).alloc (EI (It 0 Y (Er 8)) 117)=w1 at*;have c0:=K3.out.cell 0;rw[C0] at c0;clear C0;go_wp2_with (with_reducible first|refine wL UN K3 ?_ (hn:=DS.out)|refine wS (cs:=dv) UN K6 ?_ (ho:=X2 _ _ _ ip) (hn:=DS.out) (h1:=D1.out));refine EQ (v:=Es #[EU dv,E I 24]) (ax UN O _ _ (w.heap.size+1) _ _ O O (K6.out.setRow _) DS.out) O ⟨O,E2 BB.out U _⟩
theorem EaW(A:Option Et)(k:List Int)(n c:Nat)(s Ii:Int)(op:Bool)(nc:List Int)(w:H)(hn:k.length=n)(hk:Row w A k)(hl:n<=10000000)(hc:nc.length=8)(hm: -9223372036854775808<=Ii/\Ii<4294967295)(hR:Jc w): Ef EJ 121 #[EU (It Ii op nc),u A n c,E I s] w fun e w'=>e=Eg (Es #[EU (It (Ii+1) G ((Jy k (al s (Ii+1))).take 8)),E I 0])/\Eh w w':=by have CN:=fun(W:H) (hb:Eh w W)=>EJc A k n c s (Ii+1) W hn (hk.B hb) hl (hR.B hb);have AL:((Jy k (al s (Ii+1))).take 8).length=8:=qD;generalize (Jy k (al s (Ii+1))).take 8=an at*;have BD:=J<|EaT (Ii+1) G an AL;have DS:=J<|X2 (Ii+1) G an AL;have D1:=J<|mh (Ii+1) G an;have C0:=xP Ii op nc;have i1:IntKind.i64.wrap (Ii+1)=Ii+1:=IntWalk.i64_in _ U;generalize It Ii op nc=dv at*;generalize It (Ii+1) G an=dr at*;replace CN:=J CN;replace AL:=J AL;clear hc hn hk hR;obtain⟨hm0,hm1⟩:=hm;go_enter Tryz.func121,Tryz.ntmps121;go_wp2_with (with_reducible refine wA io (Ed.mk ?_));refine Ed.in ?_;have K3:=J<|(D.new w dv 117).alloc (EI (It 0 Y (Er 8)) 117);have K6:=J<|D.new' (w.alloc (EI dv 117)) (It 0 Y (Er 8)) 117 (g:=w.heap.size+1) Ek;have BB:=J<|JF w (EI dv 117) (EI (It 0 Y (Er 8)) 117);generalize (w.alloc (EI dv 117)).alloc (EI (It 0 Y (Er 8)) 117)=w1 at*;have c0:=K3.out.cell 0;rw[C0] at c0;clear C0;go_wp2_with fail;clear c0;(with_reducible refine(CN.out _ BB.out).mono ?_);rintro e w2 ⟨rfl,b2⟩;replace K6:=J<|K6.out.B b2;replace BB:=ET BB b2;clear b2 CN K3;go_wp2_with (first|((with_reducible refine In 21 ?_);refine IP rfl 117 _ rfl dr BD.out ?_)|(with_reducible refine wS (cs:=dr) UN K6 ?_ (ho:=X2 _ _ _ ip) (hn:=DS.out) (h1:=D1.out)));refine EQ (v:=Es #[EU dr,E I 0]) (ax UN O _ _ (w.heap.size+1) _ _ O O (K6.out.setRow _) DS.out) O ⟨O,E2 BB.out U _⟩
theorem EaY(A:Option Et)(n c:Nat)(s r Ii:Int)(nc pf:List Int)(w:H)(hc:nc.length=8): Ef EJ 123 #[EU (It Ii Y nc),u A n c,E I s,E I r,EU (Ej pf)] w fun e w'=>e=Eg (Es #[EU (It Ii Y nc),EU (Ej (Er 32)),E I 17])/\Eh w w':=by have DS:=J<|X2 Ii Y nc hc;have D1:=J<|mh Ii Y nc;have C1:=D6 Ii Y nc;have BZ:=J D8;generalize It Ii Y nc=dv at*;clear hc;go_enter Tryz.func123,Tryz.ntmps123;go_wp2_with (with_reducible first|refine wA io ?_|refine wA Zl (Ed.mk ?_));refine Ed.in ?_;have K5:=J<|(((D.new w dv 117).alloc (EI (Ej pf) 115)).alloc (EI (It 0 Y (Er 8)) 117)).alloc (EI (Ej (Er 32)) 41);have K9:=J<|((D.new' (w.alloc (EI dv 117)) (Ej pf) 115 (g:=w.heap.size+1) Ek).alloc (EI (It 0 Y (Er 8)) 117)).alloc (EI (Ej (Er 32)) 41);have IT:=J<|(D.new' ((w.alloc (EI dv 117)).alloc (EI (Ej pf) 115)) (It 0 Y (Er 8)) 117 (g:=w.heap.size+1+1) Ek).alloc (EI (Ej (Er 32)) 41);have IH:=J<|D.new' (((w.alloc (EI dv 117)).alloc (EI (Ej pf) 115)).alloc (EI (It 0 Y (Er 8)) 117)) (Ej (Er 32)) 41 (g:=w.heap.size+1+1+1) Ek;have BB:=J<|bt (X5 w (EI dv 117) (EI (Ej pf) 115) (EI (It 0 Y (Er 8)) 117)) (Eo (((w.alloc (EI dv 117)).alloc (EI (Ej pf) 115)).alloc (EI (It 0 Y (Er 8)) 117)) (EI (Ej (Er 32)) 41));generalize (((w.alloc (EI dv 117)).alloc (EI (Ej pf) 115)).alloc (EI (It 0 Y (Er 8)) 117)).alloc (EI (Ej (Er 32)) 41)=w1 at*;obtain⟨g9,dG⟩:=JO (w.heap.size+1);rw[dG] at K9 IT IH;simp only[dG];obtain⟨g10,dH⟩:=JO (g9+1);rw[dH] at IT IH;simp only[dH];obtain⟨g11,dK⟩:=JO (g10+1);rw[dK] at IH;simp only[dK];have n9:w.heap.size<g9:=U;have n10:g9<g10:=U;have n11:g10<g11:=U;clear dG dH dK;have c1:=K5.out.cell 1;rw[C1] at c1;clear C1;go_wp2_with (first|(with_reducible refine wL UN K5 ?_ (hn:=DS.out))|((with_reducible refine In 19 ?_);refine IP rfl 41 _ rfl (Ej (Er 32)) BZ.out ?_)|(with_reducible refine wS (cs:=dv) UN IT (Ed.mk ?_) (ho:=X2 _ _ _ ip) (hn:=DS.out) (h1:=D1.out)));refine Ed.in ?_;clear c1 K5 K9;replace IH:=J<|IH.out.setRow_other g10 dv U;replace IT:=J<|IT.out.setRow dv;replace BB:=J<|E2 (g:=g10) BB.out U dv;generalize w1.setRow g10 dv=w2 at*;go_wp2_with (with_reducible refine wS (cs:=Ej (Er 32)) JC IH ?_ (ho:=Uh) (hn:=Uh) (h1:=Uw _));refine EQ (v:=Es #[EU dv,EU (Ej (Er 32)),E I 17]) (D5 UN JC O _ _ g10 g11 _ _ _ O O O (IT.out.setRow_other _ _ U) DS.out (IH.out.setRow _) Cr) O ⟨O,E2 BB.out U _⟩
def xQ(cl:Array M)(A:Option Et)(n c:Nat)(s r:Int)(g5:Nat)(nc kv:List Int)(i:Nat)(v:M)(w:H):Prop:=match i with
 |0=>v=EU cl
 |1=>v=u A n c
 |2=>v=E I s
 |3=>v=E I r
 |4=>v=V (X ⟨g5,2,Z⟩)
 |5=>v=EU (Ej nc)
 |_=>v=EU (Ej kv)
theorem Ea0(cl:Array M)(A:Option Et)(n c:Nat)(s r:Int)(g5:Nat)(nc kv:List Int): ∀i v w w',i<7->xQ cl A n c s r g5 nc kv i v w->Jr w w'->xQ cl A n c s r g5 nc kv i v w':=by intro i v w w' hi h hb;unfold xQ at*;split at h;all_goals exact h
theorem Ea1(A:Option Et)(k:List Int)(n c:Nat)(s r Ii:Int)(nc pf:List Int)(w:H)(hn:k.length=n)(hk:Row w A k)(hl:n<=10000000)(hc:nc.length=8)(hb: ∀x∈nc,0<=x/\x<=255)(hR:Jc w)(hpl:pf.length=8)(hpb: ∀x∈pf,0<=x/\x<=255)(hp:pf≠(Jy k (J8 80 s r nc)).take 8): Ef EJ 123 #[EU (It Ii G nc),u A n c,E I s,E I r,EU (Ej pf)] w fun e w'=>e=Eg (Es #[EU (It Ii Y (Er 8)),EU (Ej (Er 32)),E I 14])/\Eh w w':=by have CP:=fun(W:H) (hb':Eh w W)=>My A k nc n c s r W hn (hk.B hb') hl hc hb (hR.B hb');have CK:=fun(W:H) (hb':Eh w W)=>Mz A k nc n c s r W hn (hk.B hb') hl hc hb (hR.B hb');have RL:((Jy k (J8 80 s r nc)).take 8).length=8:=qD;have RB: ∀x∈(Jy k (J8 80 s r nc)).take 8,0<=x/\x<=255:=fun x hx=>qv _ _ x (List.mem_of_mem_take hx);have KL:(Jy k (J8 75 s r nc)).length=32:=jX _ _;have SM:decide (pf=(Jy k (J8 80 s r nc)).take 8)=Y:=E9 hp;generalize (Jy k (J8 80 s r nc)).take 8=rt at*;generalize Jy k (J8 75 s r nc)=kv at*;have DS:=J<|X2 Ii G nc hc;have C0:=xP Ii G nc;have C1:=D6 Ii G nc;have CX:=J<|D7 Ii G nc hc;have BZ:=J D8;have BC:=J<|QP Ii;have ES:=J<|X2 Ii Y (Er 8) ip;have E1:=J<|mh Ii Y (Er 8);generalize It Ii G nc=dv at*;generalize It Ii Y (Er 8)=cl at*;replace CP:=J CP;replace CK:=J CK;replace RL:=J RL;replace RB:=J RB;replace KL:=J KL;replace SM:=J SM;have dj:=J hpl;have XK:=J hpb;have HC:=J hc;clear hc hn hk hR hb hpl hpb hp;go_enter Tryz.func123,Tryz.ntmps123;go_wp2_with (with_reducible first|refine wA io ?_|refine wA Zl (Ed.mk ?_));refine Ed.in ?_;have K5:=J<|(((D.new w dv 117).alloc (EI (Ej pf) 115)).alloc (EI (It 0 Y (Er 8)) 117)).alloc (EI (Ej (Er 32)) 41);have K9:=J<|((D.new' (w.alloc (EI dv 117)) (Ej pf) 115 (g:=w.heap.size+1) Ek).alloc (EI (It 0 Y (Er 8)) 117)).alloc (EI (Ej (Er 32)) 41);have IT:=J<|(D.new' ((w.alloc (EI dv 117)).alloc (EI (Ej pf) 115)) (It 0 Y (Er 8)) 117 (g:=w.heap.size+1+1) Ek).alloc (EI (Ej (Er 32)) 41);have IH:=J<|D.new' (((w.alloc (EI dv 117)).alloc (EI (Ej pf) 115)).alloc (EI (It 0 Y (Er 8)) 117)) (Ej (Er 32)) 41 (g:=w.heap.size+1+1+1) Ek;have BB:=J<|bt (X5 w (EI dv 117) (EI (Ej pf) 115) (EI (It 0 Y (Er 8)) 117)) (Eo (((w.alloc (EI dv 117)).alloc (EI (Ej pf) 115)).alloc (EI (It 0 Y (Er 8)) 117)) (EI (Ej (Er 32)) 41));generalize (((w.alloc (EI dv 117)).alloc (EI (Ej pf) 115)).alloc (EI (It 0 Y (Er 8)) 117)).alloc (EI (Ej (Er 32)) 41)=w1 at*;obtain⟨g9,dG⟩:=JO (w.heap.size+1);rw[dG] at K9 IT IH;simp only[dG];obtain⟨g10,dH⟩:=JO (g9+1);rw[dH] at IT IH;simp only[dH];obtain⟨g11,dK⟩:=JO (g10+1);rw[dK] at IH;simp only[dK];have n9:w.heap.size<g9:=U;have n10:g9<g10:=U;have n11:g10<g11:=U;clear dG dH dK;have c0:=K5.out.cell 0;have c1:=K5.out.cell 1;rw[C0] at c0;rw[C1] at c1;clear C0 C1;have l11:=IH.out.lt;go_wp2_with (first|((with_reducible refine In 22 ?_);refine IP rfl 117 _ rfl cl BC.out ?_)|(with_reducible refine wA io (Ed.mk ?_)));refine Ed.in ?_;clear c0 c1;have bel:=Eo w1 (EI (It 0 Y (Er 8)) 117);replace K5:=J<|K5.out.B bel;replace K9:=J<|K9.out.B bel;replace IT:=J<|IT.out.B bel;replace IH:=J<|IH.out.B bel;replace BB:=ET BB bel;have Ok:=J<|D.new w1 (It 0 Y (Er 8)) 117;clear bel;generalize w1.alloc (EI (It 0 Y (Er 8)) 117)=w2 at*;generalize w1.heap.size=g13 at*;go_wp2_with (with_reducible refine wS (cs:=cl) UN Ok (Ed.mk ?_) (ho:=X2 _ _ _ ip) (hn:=ES.out) (h1:=E1.out));refine Ed.in ?_;replace K5:=J<|K5.out.setRow_other g13 cl U;replace K9:=J<|K9.out.setRow_other g13 cl U;replace IT:=J<|IT.out.setRow_other g13 cl U;replace IH:=J<|IH.out.setRow_other g13 cl U;replace Ok:=J<|Ok.out.setRow cl;replace BB:=J<|E2 (g:=g13) BB.out U cl;generalize w2.setRow g13 cl=w3 at*;go_wp2_with (with_reducible refine wM (off:=2) (cs:=Ej nc) XT K5 ?_ (hn:=vQ) (he:=CX.out));(with_reducible refine(CP.out _ BB.out).mono ?_);rintro e w4 ⟨rfl,b4⟩;replace K5:=J<|K5.out.B b4;replace K9:=J<|K9.out.B b4;replace IT:=J<|IT.out.B b4;replace IH:=J<|IH.out.B b4;replace Ok:=J<|Ok.out.B b4;replace BB:=ET BB b4;clear b4 CP;have l13:=Ok.out.lt;go_wp2_with (with_reducible refine wA kR (Ed.mk ?_));refine Ed.in ?_;have bel:=Eo w4 (EI (Ej (Er 8)) 115);replace K5:=J<|K5.out.B bel;replace K9:=J<|K9.out.B bel;replace IT:=J<|IT.out.B bel;replace IH:=J<|IH.out.B bel;replace Ok:=J<|Ok.out.B bel;replace BB:=ET BB bel;have ZC:=J<|D.new w4 (Ej (Er 8)) 115;clear bel;generalize w4.alloc (EI (Ej (Er 8)) 115)=w5 at*;generalize w4.heap.size=g14 at*;go_wp2_with (with_reducible refine wS (cs:=Ej rt) XT ZC (Ed.mk ?_) (ho:=Uh) (hn:=Cs) (h1:=Uw _));refine Ed.in ?_;replace K5:=J<|K5.out.setRow_other g14 (Ej rt) U;replace K9:=J<|K9.out.setRow_other g14 (Ej rt) U;replace IT:=J<|IT.out.setRow_other g14 (Ej rt) U;replace IH:=J<|IH.out.setRow_other g14 (Ej rt) U;replace Ok:=J<|Ok.out.setRow_other g14 (Ej rt) U;replace ZC:=J<|ZC.out.setRow (Ej rt);replace BB:=J<|E2 (g:=g14) BB.out Ai (Ej rt);generalize w5.setRow g14 (Ej rt)=w6 at*;have CS:=J<|fun q=>vD (X ⟨g9,0,Z⟩) (X ⟨g14,0,Z⟩) pf rt 8 8 8 8 (w6.drewN q) dj.out RL.out (ut (Zk K9.out XK.out) q) (ut (Zk ZC.out RB.out) q) U U;rw[SM.out] at CS;go_wp2_with fail;go_quiet (((with_reducible refine(CS.out _).mono ?_);(rintro e w2 ⟨rfl,rfl⟩;exact⟨O,_,O⟩)));clear CS;replace K5:=J<|K5.out.drewN nq;replace K9:=J<|K9.out.drewN nq;replace IT:=J<|IT.out.drewN nq;replace IH:=J<|IH.out.drewN nq;replace Ok:=J<|Ok.out.drewN nq;replace ZC:=J<|ZC.out.drewN nq;replace BB:=J<|aQ BB.out nq;generalize w6.drewN nq=w7 at*;go_wp2_with (first|(with_reducible refine wL UN Ok ?_ (hn:=ES.out))|((with_reducible refine In 34 ?_);refine IP rfl 41 _ rfl (Ej (Er 32)) BZ.out ?_)|(with_reducible refine wS (cs:=cl) UN IT (Ed.mk ?_) (ho:=X2 _ _ _ ip) (hn:=ES.out) (h1:=E1.out)));refine Ed.in ?_;replace K5:=J<|K5.out.setRow_other g10 cl U;replace K9:=J<|K9.out.setRow_other g10 cl U;replace IH:=J<|IH.out.setRow_other g10 cl U;replace Ok:=J<|Ok.out.setRow_other g10 cl U;replace ZC:=J<|ZC.out.setRow_other g10 cl U;replace IT:=J<|IT.out.setRow cl;replace BB:=J<|E2 (g:=g10) BB.out U cl;generalize w7.setRow g10 cl=w8 at*;go_wp2_with (with_reducible refine wS (cs:=Ej (Er 32)) JC IH ?_ (ho:=Uh) (hn:=Uh) (h1:=Uw _));refine EQ (v:=Es #[EU cl,EU (Ej (Er 32)),E I 14]) (D5 UN JC O _ _ g10 g11 _ _ _ O O O (IT.out.setRow_other _ _ U) ES.out (IH.out.setRow _) Cr) O ⟨O,E2 BB.out U _⟩
theorem Ea4(A:Option Et)(k:List Int)(n c:Nat)(s r Ii:Int)(nc pf:List Int)(w:H)(hn:k.length=n)(hk:Row w A k)(hl:n<=10000000)(hc:nc.length=8)(hb: ∀x∈nc,0<=x/\x<=255)(hR:Jc w)(hpl:pf.length=8)(hpb: ∀x∈pf,0<=x/\x<=255)(hp:pf=(Jy k (J8 80 s r nc)).take 8): Ef EJ 123 #[EU (It Ii G nc),u A n c,E I s,E I r,EU (Ej pf)] w fun e w'=>e=Eg (Es #[EU (It Ii Y (Er 8)),EU (Ej (Jy k (J8 75 s r nc))),E I 0])/\Eh w w':=by
 have CP:=fun(W:H) (hb':Eh w W)=>My A k nc n c s r W hn (hk.B hb') hl hc hb (hR.B hb');have CK:=fun(W:H) (hb':Eh w W)=>Mz A k nc n c s r W hn (hk.B hb') hl hc hb (hR.B hb');have RL:((Jy k (J8 80 s r nc)).take 8).length=8:=qD;have RB: ∀x∈(Jy k (J8 80 s r nc)).take 8,0<=x/\x<=255:=fun x hx=>qv _ _ x (List.mem_of_mem_take hx);have KL:(Jy k (J8 75 s r nc)).length=32:=jX _ _;have SM:decide (pf=(Jy k (J8 80 s r nc)).take 8)=G:=Ia hp;generalize (Jy k (J8 80 s r nc)).take 8=rt at*;generalize Jy k (J8 75 s r nc)=kv at*;have DS:=J<|X2 Ii G nc hc;have C0:=xP Ii G nc;have C1:=D6 Ii G nc;have CX:=J<|D7 Ii G nc hc;have BZ:=J D8;have BC:=J<|QP Ii;have ES:=J<|X2 Ii Y (Er 8) ip;have E1:=J<|mh Ii Y (Er 8);generalize It Ii G nc=dv at*;generalize It Ii Y (Er 8)=cl at*;replace CP:=J CP;replace CK:=J CK;replace RL:=J RL;replace RB:=J RB;replace KL:=J KL;replace SM:=J SM;have dj:=J hpl;have XK:=J hpb;have HC:=J hc;clear hc hn hk hR hb hpl hpb hp;go_enter Tryz.func123,Tryz.ntmps123;go_wp2_with (with_reducible first|refine wA io ?_|refine wA Zl (Ed.mk ?_));refine Ed.in ?_;have K5:=J<|(((D.new w dv 117).alloc (EI (Ej pf) 115)).alloc (EI (It 0 Y (Er 8)) 117)).alloc (EI (Ej (Er 32)) 41);have K9:=J<|((D.new' (w.alloc (EI dv 117)) (Ej pf) 115 (g:=w.heap.size+1) Ek).alloc (EI (It 0 Y (Er 8)) 117)).alloc (EI (Ej (Er 32)) 41);have IT:=J<|(D.new' ((w.alloc (EI dv 117)).alloc (EI (Ej pf) 115)) (It 0 Y (Er 8)) 117 (g:=w.heap.size+1+1) Ek).alloc (EI (Ej (Er 32)) 41);have IH:=J<|D.new' (((w.alloc (EI dv 117)).alloc (EI (Ej pf) 115)).alloc (EI (It 0 Y (Er 8)) 117)) (Ej (Er 32)) 41 (g:=w.heap.size+1+1+1) Ek;have BB:=J<|bt (X5 w (EI dv 117) (EI (Ej pf) 115) (EI (It 0 Y (Er 8)) 117)) (Eo (((w.alloc (EI dv 117)).alloc (EI (Ej pf) 115)).alloc (EI (It 0 Y (Er 8)) 117)) (EI (Ej (Er 32)) 41));generalize (((w.alloc (EI dv 117)).alloc (EI (Ej pf) 115)).alloc (EI (It 0 Y (Er 8)) 117)).alloc (EI (Ej (Er 32)) 41)=w1 at*;obtain⟨g9,dG⟩:=JO (w.heap.size+1);rw[dG] at K9 IT IH;simp only[dG];obtain⟨g10,dH⟩:=JO (g9+1);rw[dH] at IT IH;simp only[dH];obtain⟨g11,dK⟩:=JO (g10+1);rw[dK] at IH;simp only[dK];have n9:w.heap.size<g9:=U;have n10:g9<g10:=U;have n11:g10<g11:=U;clear dG dH dK;have c0:=K5.out.cell 0;have c1:=K5.out.cell 1;rw[C0] at c0;rw[C1] at c1;clear C0 C1;have l11:=IH.out.lt;go_wp2_with (first|((with_reducible refine In 22 ?_);refine IP rfl 117 _ rfl cl BC.out ?_)|(with_reducible refine wA io (Ed.mk ?_)));refine Ed.in ?_;clear c0 c1;have bel:=Eo w1 (EI (It 0 Y (Er 8)) 117);replace K5:=J<|K5.out.B bel;replace K9:=J<|K9.out.B bel;replace IT:=J<|IT.out.B bel;replace IH:=J<|IH.out.B bel;replace BB:=ET BB bel;have Ok:=J<|D.new w1 (It 0 Y (Er 8)) 117;clear bel;generalize w1.alloc (EI (It 0 Y (Er 8)) 117)=w2 at*;generalize w1.heap.size=g13 at*;go_wp2_with (with_reducible refine wS (cs:=cl) UN Ok (Ed.mk ?_) (ho:=X2 _ _ _ ip) (hn:=ES.out) (h1:=E1.out));refine Ed.in ?_;replace K5:=J<|K5.out.setRow_other g13 cl U;replace K9:=J<|K9.out.setRow_other g13 cl U;replace IT:=J<|IT.out.setRow_other g13 cl U;replace IH:=J<|IH.out.setRow_other g13 cl U;replace Ok:=J<|Ok.out.setRow cl;replace BB:=J<|E2 (g:=g13) BB.out U cl;generalize w2.setRow g13 cl=w3 at*;go_wp2_with (with_reducible refine wM (off:=2) (cs:=Ej nc) XT K5 ?_ (hn:=vQ) (he:=CX.out));(with_reducible refine(CP.out _ BB.out).mono ?_);rintro e w4 ⟨rfl,b4⟩;replace K5:=J<|K5.out.B b4;replace K9:=J<|K9.out.B b4;replace IT:=J<|IT.out.B b4;replace IH:=J<|IH.out.B b4;replace Ok:=J<|Ok.out.B b4;replace BB:=ET BB b4;clear b4 CP;have l13:=Ok.out.lt;go_wp2_with (with_reducible refine wA kR (Ed.mk ?_));refine Ed.in ?_;have bel:=Eo w4 (EI (Ej (Er 8)) 115);replace K5:=J<|K5.out.B bel;replace K9:=J<|K9.out.B bel;replace IT:=J<|IT.out.B bel;replace IH:=J<|IH.out.B bel;replace Ok:=J<|Ok.out.B bel;replace BB:=ET BB bel;have ZC:=J<|D.new w4 (Ej (Er 8)) 115;clear bel;generalize w4.alloc (EI (Ej (Er 8)) 115)=w5 at*;generalize w4.heap.size=g14 at*;go_wp2_with (with_reducible refine wS (cs:=Ej rt) XT ZC (Ed.mk ?_) (ho:=Uh) (hn:=Cs) (h1:=Uw _));refine Ed.in ?_;replace K5:=J<|K5.out.setRow_other g14 (Ej rt) U;replace K9:=J<|K9.out.setRow_other g14 (Ej rt) U;replace IT:=J<|IT.out.setRow_other g14 (Ej rt) U;replace IH:=J<|IH.out.setRow_other g14 (Ej rt) U;replace Ok:=J<|Ok.out.setRow_other g14 (Ej rt) U;replace ZC:=J<|ZC.out.setRow (Ej rt);replace BB:=J<|E2 (g:=g14) BB.out Ai (Ej rt);generalize w5.setRow g14 (Ej rt)=w6 at*;have CS:=J<|fun q=>vD (X ⟨g9,0,Z⟩) (X ⟨g14,0,Z⟩) pf rt 8 8 8 8 (w6.drewN q) dj.out RL.out (ut (Zk K9.out XK.out) q) (ut (Zk ZC.out RB.out) q) U U;rw[SM.out] at CS;go_wp2_with fail;go_quiet (((with_reducible refine(CS.out _).mono ?_);(rintro e w2 ⟨rfl,rfl⟩;exact⟨O,_,O⟩)));clear CS;replace K5:=J<|K5.out.drewN nq;replace K9:=J<|K9.out.drewN nq;replace IT:=J<|IT.out.drewN nq;replace IH:=J<|IH.out.drewN nq;replace Ok:=J<|Ok.out.drewN nq;replace ZC:=J<|ZC.out.drewN nq;replace BB:=J<|aQ BB.out nq;generalize w6.drewN nq=w7 at*;go_wp2_with fail;refine Zj EF Ec 7 Ec Ek EZ (xQ cl A n c s r w.heap.size nc kv) (Ea0 _ _ _ _ _ _ _ _ _) ?_ ?_
 ·simp only[U6,Il,Ij,EB,Ic,Ig,IJ,IU,and_true];refine⟨?_,?_,?_,?_,?_,?_,?_⟩;all_goals intro v w' hb hd
  ·exact zT EF (g:=g13) UN (Ei O) ⟨O,Ew⟩ (Ok.out.B hb) ES.out O
  ·exact EiU
  ·exact EiU
  ·exact EiU
  ·exact EiU
  ·have d4:v 4=V (X ⟨w.heap.size,2,Z⟩):=hd.at 4 rfl;exact WH EF (g:=w.heap.size) (off:=2) (cs:=Ej nc) XT (Ei O) ⟨O,Uj⟩ (K5.out.B hb) (by rw[JV,HC.out]) CX.out O
  ·have d1:v 1=u A n c:=hd.at 1 rfl;have d2:v 2=E I s:=hd.at 2 rfl;have d3:v 3=E I r:=hd.at 3 rfl;have d5:v 5=EU (Ej nc):=hd.at 5 rfl;refine JY (f:=169) (args:= #[v 1,v 2,v 3,v 5]) (Ei O) Ew ?_;rw[d1,d2,d3,d5];exact(CK.out w' (bt BB.out hb)).mono fun e w'' ⟨he,hb'⟩=>⟨_,he,hb',O⟩
 ·intro v w' hb hr;have d0:v 0=EU cl:=hr 0 U;have d6:v 6=EU (Ej kv):=hr 6 U;simp only[Il,Ij,Iz,Ix,EB,Ic,Ig,IJ,IU];rw[d0,d6];replace IT:=J<|IT.out.B hb;replace IH:=J<|IH.out.B hb;replace BB:=ET BB hb;clear hr hb d0 d6 K5 K9 Ok ZC CK;go_wp2_with (with_reducible refine wS (cs:=cl) UN IT (Ed.mk ?_) (ho:=X2 _ _ _ ip) (hn:=ES.out) (h1:=E1.out));refine Ed.in ?_;replace IH:=J<|IH.out.setRow_other g10 cl U;replace IT:=J<|IT.out.setRow cl;replace BB:=J<|E2 (g:=g10) BB.out U cl;generalize w'.setRow g10 cl=w8 at*;go_wp2_with (with_reducible refine wS (cs:=Ej kv) JC IH ?_ (ho:=Uh) (hn:=Mp) (h1:=Uw _));refine EQ (v:=Es #[EU cl,EU (Ej kv),E I 0]) (D5 UN JC O _ _ g10 g11 _ _ _ O O O (IT.out.setRow_other _ _ U) ES.out (IH.out.setRow _) (by rw[JV,KL.out])) O ⟨O,E2 BB.out U _⟩
def jB(T:Ez)(n:Nat)(cs:Array M)(w w':H):Prop:= ∀b c,D w b c T->c.size=n-> ∃c':Array M,c'.size=n/\D w' b c' T/\(c=cs->c'=cs)
theorem xR(hs:cs.size=n):jB T n cs w (w.setRow b cs):=fun k d h h8=>by
 by_cases e:k=b;·subst e;exact⟨cs,hs,h.setRow cs,fun _=>rfl⟩
 ·exact⟨d,h8,D.setRow_other h b cs e,id⟩
theorem QQ{c:Array M}(k:D w b c2 T2)(hT:T≠T2):jB T n cs w (w.setRow b c):=fun _ d h h8=>⟨d,h8,D.setRow_other h b c (E7 h k hT),id⟩
theorem Ea5(ho:EG g w w')(k:D w g c2 T2)(hT:T≠T2):jB T n cs w w':=fun _ d h h8=>⟨d,h8,ho.Em h (E7 h k hT),id⟩
def aH(T:Ez)(n n0:Nat)(v:M)(w:H):Prop:= ∃(b:Nat) (c:Array M),v=V (X ⟨b,0,Z⟩)/\n0<=b/\c.size=n/\D w b c T
theorem aH.B(h:aH T n n0 v w)(hb:Eh w w'):aH T n n0 v w':=by exact Emk
theorem aH.sz(h:aH T n n0 v w)(hb:jB T n cs w w'):aH T n n0 v w':=by obtain⟨b,c,h1,h2,h3,h4⟩:=h;obtain⟨c',h5,h6,-⟩:=hb b c h4 h3;exact⟨b,c',h1,h2,h5,h6⟩
theorem E4.xS{g:Nat->M}{c:EA}{W':H}(S:E4 lo hi g gc gq gt gs c ns rs W)(ho:EG b W W'){d:Array M}(K:D W b d T)(hT:(124::264::58::wV).contains T=Y)(h1:lo<=b):E4 lo hi g gc gq gt gs c ns rs W':=by obtain⟨sv,rv,sc,ks,r1,r2⟩:=S.bX;have kp: ∀k cs S,(124::264::58::wV).contains S=G->D W k cs S->D W' k cs S:=fun k cs S hS hb=>ho.Em hb (E7 hb K (by intro e;subst e;rw[hT] at hS;cases hS));exact⟨S.core.via (fun k cs T hT hb=>kp k cs T (by simp only[List.contains_cons,hT,Bool.or_true]) hb) (ho.bel lo h1 Dk),S.hc,S.hq,S.ht,S.Z8,S.his,sv,rv,sc,kp _ _ _ EZ ks,EW r1 fun _ _ hk=>kp _ _ _ EZ hk,EW r2 fun _ _ hk=>kp _ _ _ EZ hk⟩
theorem Dr.vA(d:Dr):d.v.toArray=It d.n d.op d.nc:=by simp[Dr.v,It,Ej]
theorem QR{g:Nat->M}{c:EA}(C:Jz lo g gc gq gt c w)(j:Nat)(hj:j<3): ∃(d:Dr) (big:Array M),d.ok/\D w gc big 120/\big.extract (65+j*10) (65+j*10+10)=It d.n d.op d.nc:=by
 obtain⟨d0,d1,d2,hd,KG,o0,o1,o2,-,-⟩:=C.Em;have UC:j=0\/j=1\/j=2:=U;rcases UC with rfl|rfl|rfl;·exact⟨d0,_,o0,KG,(OZ.extract 3 rfl (J4 (Jj g) o0 o1 o2 3 U) 10 (Dr.len' o0)).trans d0.vA⟩
 ·exact⟨d1,_,o1,KG,(OZ.extract 4 rfl (J4 (Jj g) o0 o1 o2 4 U) 10 (Dr.len' o1)).trans d1.vA⟩
 ·exact⟨d2,_,o2,KG,(OZ.extract 5 rfl (J4 (Jj g) o0 o1 o2 5 U) 10 (Dr.len' o2)).trans d2.vA⟩
theorem QS{g:Nat->M}{c:EA}(C:Jz lo g gc gq gt c w)(j:Nat)(hj:j<3):w.there gc (65+j*10) 10:=by
 obtain⟨d0,d1,d2,hd,KG,o0,o1,o2,-,-⟩:=C.Em;have UC:j=0\/j=1\/j=2:=U;rcases UC with rfl|rfl|rfl;·exact KG.there 3 rfl (J4 (Jj g) o0 o1 o2 3 U) 10 (by rw[Dr.len' o0];exact E5 _)
 ·exact KG.there 4 rfl (J4 (Jj g) o0 o1 o2 4 U) 10 (by rw[Dr.len' o1];exact E5 _)
 ·exact KG.there 5 rfl (J4 (Jj g) o0 o1 o2 5 U) 10 (by rw[Dr.len' o2];exact E5 _)
theorem E4.QT{g:Nat->M}{c:EA}(S:E4 lo hi g gc gq gt gs c ns rs W)(j:Nat)(hj:j<3)(d:Dr)(od:d.ok):E4 lo hi g gc gq gt gs c ns rs (W.setCells gc (65+j*10) (It d.n d.op d.nc).toList)/\Ev lo hi W (W.setCells gc (65+j*10) (It d.n d.op d.nc).toList):=by
 rw[<-Dr.vA];change E4 lo hi g gc gq gt gs c ns rs (W.setCells gc (65+j*10) d.v)/\Ev lo hi W (W.setCells gc (65+j*10) d.v);obtain⟨d0,d1,d2,hd,k,o0,o1,o2,r⟩:=S.core.Em;obtain⟨sv,rv,sc,ks,r1,r2⟩:=S.bX;have fin: ∀W',EG gc W W'->(∃(d0 d1 d2:Dr) (hd:List Int),OZ W' gc (ZJ (EH 56 g).toList c gq gt d0 d1 d2 hd) 120/\d0.ok/\d1.ok/\d2.ok/\hd.length=32/\ ∀x∈hd,0<=x/\x<=255)->E4 lo hi g gc gq gt gs c ns rs W'/\Ev lo hi W W':=fun W' ho hb=>by obtain⟨e0,e1,e2,ehd,k',_⟩:=id hb;exact⟨⟨S.core.set ho O O S.core.ok hb,S.hc,S.hq,S.ht,S.Z8,S.his,sv,rv,sc,ho.Em ks (E7 ks k EZ),EW r1 fun _ _ hk=>ho.Em hk (E7 hk k EZ),EW r2 fun _ _ hk=>ho.Em hk (E7 hk k EZ)⟩,Ev.rB ho k k' EZ S.core.lc⟩
 refine fin _ (JX _ _ _) ?_;have UC:j=0\/j=1\/j=2:=U;rcases UC with rfl|rfl|rfl;·exact⟨d,d1,d2,hd,k.set 3 rfl (J4 (Jj g) o0 o1 o2 3 U) d.v (by rw[Dr.len' od,Dr.len' o0]),od,o1,o2,r⟩
 ·exact⟨d0,d,d2,hd,k.set 4 rfl (J4 (Jj g) o0 o1 o2 4 U) d.v (by rw[Dr.len' od,Dr.len' o1]),o0,od,o2,r⟩
 ·exact⟨d0,d1,d,hd,k.set 5 rfl (J4 (Jj g) o0 o1 o2 5 U) d.v (by rw[Dr.len' od,Dr.len' o2]),o0,o1,od,r⟩
theorem QV(gc:Nat)(k:Int)(j:Nat)(hk:k=(j:Int)+1)(hj:j<3)(W:H):(Instr.indexAt 118 (V (X ⟨gc,65,Z⟩)) (E I (k-1))).run EJ W= .ok (V (X ⟨gc,65+j*10,Z⟩)) W:=by exact EmI
theorem sub_one(k:Int)(h1:1<=k)(h3:k<=3)(W:H):(binOp .sub 3 (E I k) (E I 1)).run EJ W= .ok (E I (k-1)) W:=by have hk:k=1\/k=2\/k=3:=U;rcases hk with rfl|rfl|rfl<;>rfl
theorem Ea6(d:Dr)(hd:d.ok)(A:Option Et)(ys:List Int)(n cap:Nat)(k:Int)(hn:ys.length=n)(hl:n<=10000000): ∃(d':Dr) (cd:Int),d'.ok/\ ∀W,Row W A ys->Jc W->Ef EJ 121 #[EU (It d.n d.op d.nc),u A n cap,E I k] W fun e w'=>e=Eg (Es #[EU (It d'.n d'.op d'.nc),E I cd])/\Eh W w':=by
 obtain⟨⟨n1,n2⟩,fq,hb⟩:=hd;by_cases hm:d.n<4294967295;·refine⟨⟨d.n+1,G,(Jy ys (al k (d.n+1))).take 8⟩,0,⟨⟨by show 0<=d.n+1;omega,by show d.n+1<=_;omega⟩,by show List.length (List.take 8 _)=8;rw[List.length_take,jX];rfl,fun x hx=>qv _ _ x (List.mem_of_mem_take hx)⟩,fun W hr hR=>EaW A ys n cap k d.n d.op d.nc W hn hr hl fq ⟨U,hm⟩ hR⟩
 ·exact⟨d,24,⟨⟨n1,n2⟩,fq,hb⟩,fun W _ _=>EaV A n cap k d.n d.op d.nc W fq U⟩
theorem Ea7(d:Dr)(hd:d.ok)(A:Option Et)(ys pf:List Int)(n cap:Nat)(k r:Int)(hn:ys.length=n)(hl:n<=10000000)(hpl:pf.length=8)(hpb: ∀x∈pf,0<=x/\x<=255): ∃(d':Dr) (kv:List Int) (cd:Int),d'.ok/\kv.length=32/\(∀x∈kv,0<=x/\x<=255)/\ ∀W,Row W A ys->Jc W->Ef EJ 123 #[EU (It d.n d.op d.nc),u A n cap,E I k,E I r,EU (Ej pf)] W fun e w'=>e=Eg (Es #[EU (It d'.n d'.op d'.nc),EU (Ej kv),E I cd])/\Eh W w':=by
 have z32: ∀x∈Er 32,0<=x/\x<=255:=fun x hx=>QW;have z8: ∀x∈Er 8,0<=x/\x<=255:=fun x hx=>QW;obtain⟨nn,op,nc⟩:=d;obtain⟨⟨n1,n2⟩,fq,hb⟩:=hd;cases op with
 |false=>exact⟨⟨nn,Y,nc⟩,Er 32,17,⟨⟨n1,n2⟩,fq,hb⟩,O,z32,fun W _ _=>EaY A n cap k r nn nc pf W fq⟩
 |true=>
  by_cases hp:pf=(Jy ys (J8 80 k r nc)).take 8;·exact⟨⟨nn,Y,Er 8⟩,Jy ys (J8 75 k r nc),0,⟨⟨n1,n2⟩,O,z8⟩,jX _ _,qv _ _,fun W hr hR=>Ea4 A ys n cap k r nn nc pf W hn hr hl fq hb hR hpl hpb hp⟩
  ·exact⟨⟨nn,Y,Er 8⟩,Er 32,14,⟨⟨n1,n2⟩,O,z8⟩,O,z32,fun W hr hR=>Ea1 A ys n cap k r nn nc pf W hn hr hl fq hb hR hpl hpb hp⟩
theorem mj(ho:o.op= .indexAddr T x y)(hx:F x=Y3)(hy:F y=v)(h: ∀W,(Instr.indexAt T Y3 v).run P W= .ok r W):(execOp F o).run P w= .ok (.value r) w:=by exact ElC
theorem oS{b:BinOp}(ho:o.op= .binOp b T x y T2)(hx:F x=Y3)(hy:F y=v)(h: ∀W,(binOp b T Y3 v).run P W= .ok r W)(hb:T2=T:=by rfl)(hg: ∀W,(eqGuard b T x y Y3 v).run P W= .ok () W:=by intro;rfl):(execOp F o).run P w= .ok (.value r) w:=by subst hb;unfold execOp;simp only[ho,hx,hy,Sem.run_bind,hg,h,Result.andThen_ok,Sem.run_pure]
theorem xT{a:Act}{K:Act->Prop}(h: ∀w,(execOp a.eval o).run P w= .ok (.value v) w)(hk:K (a.put o.dst v)):o.quiet P a (fun w'=> ∃x,w'=Ex W x) K:=by refine⟨_,fun w hw=> ?_,hk⟩;unfold Oper.quietAt;rw[h];obtain⟨y,rfl⟩:=hw;first|exact⟨rfl,rfl⟩|exact⟨rfl,y,rfl⟩
theorem Ea8(a b c d e f g i:Int):Tryz.prog.built 222 [(0,E I 129),(6,EU (Ej [a,b,c,d,e,f,g,i]))]=X (IW ([129,0,0,0,0,0]++[a,b,c,d,e,f,g,i])):=Ec
theorem Ea9(nc:List Int)(h:nc.length=8):Tryz.prog.built 222 [(0,E I 129),(6,EU (Ej nc))]=X (IW ([129,0,0,0,0,0]++nc)):=by
 match nc,h with
 |[a,b,c,d,e,f,g,i],_=>exact Ea8 a b c d e f g i
theorem Ea_(a b c d e f:Int){nc:List Int}(h:nc.length=8)(hb: ∀x∈nc,0<=x/\x<=255):ay ([a,b,c,d,e,f]++nc):=by
 refine⟨by simp[h],fun i h6 hU=> ?_⟩;have e1:([a,b,c,d,e,f]++nc).getD i 0=nc.getD (i-6) 0:=by rw[List.getD_eq_getElem?_getD,List.getD_eq_getElem?_getD,List.getElem?_append_right (by simpa using h6)];rfl
 rw[e1,List.getD_eq_getElem?_getD,List.getElem?_eq_getElem U];exact hb _ (List.getElem_mem _)
theorem EbE(lo hi:Nat)(g:Nat->M)(gc gq gt gs:Nat)(c:EA)(ns:Nat)(rs:List Rec)(A:Option Et)(n cap:Nat)(xs:List Int)(k:Int)(w:H)(S:E4 lo hi g gc gq gt gs c ns rs w)(hk:1<=k/\k<=3)(hx:xs.length=n)(hnc:n<=cap)(hcap:cap<=9223372036854775807)(hr:Row w A xs)(hn:ns<800000)(hl:rs.length<800000): Ef EJ 86 #[V (X ⟨gs,0,Z⟩),E I k,u A n cap] w fun e w'=>e=Eg (Es #[])/\(∃m kd cd,m<=1/\E4 lo hi g gc gq gt gs c (ns+m) (rs++[⟨kd,k,0,c.tok.e,cd,0⟩]) w')/\Ev lo hi w w':=by
 obtain⟨j,hj,UC⟩: ∃j:Nat,k=(j:Int)+1/\j<3:=⟨(k-1).toNat,U,U⟩;have IX:=J<|fun W=>QV gc k j hj UC W;have SB:=J<|fun W=>sub_one k hk.1 hk.2 W;have HJ:=J UC;have HK:=J hk;have S1:=J S;have HN:=J hn;have HL:=J hl;have PI:=J<|fun i (h1:9<=i) (h2:i<56)=>S.core.U8.int i h2 (.inr U);have CT:=J<|fun W (h:Row W A xs)=>Cc xs A n cap hx hnc hcap W h;have RW:=J hr;clear S hn hl hk hj UC hx hnc hcap hr;go_enter Tryz.func86,Tryz.ntmps86;go_wp2_with fail;(with_reducible refine(CT.out _ RW.out).mono ?_);rintro e1 w1 h1
 obtain⟨l,iq,he,b1⟩: ∃(l:List Int) (iq:Int),e1=Eg (Es #[EU (ED l),E I iq])/\Eh w w1:=by
  obtain⟨h1,b1⟩:=h1;cases h2:cI xs with
  |none=>rw[h2] at h1;exact⟨_,_,h1,b1⟩
  |some l=>rw[h2] at h1;exact⟨_,_,h1,b1⟩
 subst he;replace S1:=J<|S1.out.B b1;have MM:=J<|Ev.Eu (lo:=lo) (hi:=hi) b1;obtain⟨v2,hv2⟩:=En (l.getD 2 0);have oT:Ea (∀W g,D W g (ED l) 183->W.cell? ⟨g,2,Z⟩=X (E I v2)):=J (fun W g K=>by rw[hv2];exact U_ K 2 U U);have dL:=J<|I4 l;have jC:=J<|XG l;clear h1 b1 CT RW hv2;generalize ED l=mv at*;have K0:=J<|D.new w1 (ED (IZ 0)) 183;have b2:=Eo w1 (EI (ED (IZ 0)) 183);go_wp2_with (with_reducible first|refine wA dn ?_|refine wS (cs:=mv) Oc K0 (Ed.mk ?_) (ho:=I4 _) (hn:=dL.out) (h1:=jC.out));refine Ed.in ?_;obtain⟨gm,hgm⟩:=En w1.heap.size;rw[<-hgm] at K0⊢;generalize w1.alloc (EI (ED (IZ 0)) 183)=w2 at*;have KM:=J<|K0.out.setRow mv;have b3:=E2 (g:=gm) b2 (Nat.le_of_eq hgm.symm) mv;generalize w2.setRow gm mv=w3 at*;clear K0 b2 hgm;replace S1:=J<|S1.out.B b3;replace MM:=J<|MM.out.trans (Ev.Eu b3);clear b3;by_cases sG:iq=0
 ·subst sG;go_wp2_with fail;obtain⟨d0,d1,d2,hd,KG,o0,o1,o2,-,-⟩:=S1.out.core.Em;have Up:=J<|J4 (c:=c) (gq:=gq) (gt:=gt) (hd:=hd) (Jj g) o0 o1 o2 0 U;have KG:=J KG;have PL:=J<|Jj g;have Ud:Ea ((EH 56 g).toList.toArray=EH 56 g):=J Ek;clear o0 o1 o2;have y0: ∀y:Ext w3,(Ex w3 y).cell? ⟨gs,0,Z⟩=X (V (X ⟨gc,0,Z⟩)):=fun y=>(S1.out.B (EC y)).Iu;have y2: ∀y:Ext w3,(Ex w3 y).cell? ⟨gm,2,Z⟩=X (E I v2):=fun y=>oT.out _ _ (D.B KM.out (EC y));refine Uv Ec Ec ?_
  repeat (first
   |go_big_quiet_skip
   |(go_big_quiet_want
     first
      |(refine Xa (T:=28) (g:=gc) (off:=0) UZ _ rfl rfl KG 0 rfl Up.out PL.out ?_;(try rw[Ud.out]);go_simp;go_big_quiet_on)
      |(go_big_quiet_op
        first
         |go_big_quiet_on
         |go_big_quiet_call (with_reducible refine X6 (PX g k v2 _ PI.out)))))
  refine wpQuiet_nil ?_;intro _ hw';obtain⟨y9,rfl⟩:=hw';have El:=EC y9;replace KM:=EN KM El;replace S1:=J<|S1.out.B El;replace MM:=J<|MM.out.trans (Ev.Eu El);clear y0 y2 El KG Up PL Ud;generalize Ex w3 y9=w4 at*;cases htk:hX g k v2 with
  |false=> go_wp2_with fail;(with_reducible refine(dx lo hi g gc gq gt gs c ns rs k 0 18 _ S1.out JP Ju).mono ?_);rintro e7 w7 ⟨rfl,s7,m7⟩;have S8:=J s7;replace MM:=J<|MM.out.trans m7;clear s7 m7;go_wp2_with fail;refine EQ (results_none O _ _ _) O ?_;exact⟨O,⟨1,7,_,U,S8.out⟩,MM.out⟩
  |true=>
   go_wp2_with fail;obtain⟨A5,n5,c5,ys,mn,hyl,hy1,D9,D_,hym,sH⟩:=(S1.out.core.keys 8 U U).row;obtain⟨dd,FE,od,bg,bx⟩:=QR S1.out.core j HJ.out;have BG:=J bg;have BX:=J bx;have RY:=J sH;obtain⟨d2,cd,mo,iu⟩:=Ea6 dd od A5 ys n5 c5 k hyl U;have DV:Ea ((It dd.n dd.op dd.nc).size=10):=J<|X2 _ _ _ od.len;have aK:Ea ((It d2.n d2.op d2.nc).size=10):=J<|X2 _ _ _ mo.len;have mq:Ea ((It d2.n d2.op d2.nc).all (·.oneCell')=G):=J<|mh _ _ _;have HD2:=J mo;obtain⟨dv,hdv⟩:=En (It dd.n dd.op dd.nc);obtain⟨OF,mr⟩:=En (It d2.n d2.op d2.nc);rw[<-hdv] at iu DV BX;rw[<-mr] at iu aK mq;have CH:=J iu;have xV:=DV;have sK:=J mr;obtain⟨key,hkey⟩:=En (Value.slice A5 n5 c5);rw[<-hkey] at CH mn;have xW:Ea (∀W,E4 lo hi g gc gq gt gs c ns rs W->W.cell? ⟨gc,8,Z⟩=X key):=J (fun W s=>by have h:W.cell? ⟨gc,8,Z⟩=(EH 56 g).toList[8]?:=s.core.cell 0 rfl 8 Ek;rw[h,show(EH 56 g).toList[8]?=X (g 8) from gK,mn]);clear od bg bx sH iu mo hdv mr hkey mn hyl hy1 D9 D_ hym DV htk;obtain⟨n0,hn0⟩:=En w4.heap.size;have U0:=J (show lo<=n0/\hi<=n0/\w.heap.size<=n0 from jw);refine fW (Ph:=fun p wq=>(n0<=wq.heap.size/\E4 lo hi g gc gq gt gs c ns rs wq/\Ev lo hi w wq/\(p=0->Row wq A5 ys/\Jc wq/\ ∃big:Array M,D wq gc big 120/\big.extract (65+j*10) (65+j*10+10)=dv))) (Rel:=Jr) (If:=jB 117 10 OF) [kp gs 0,kp gs 0,kp gs 0,kp gc 0,kq (E I k),kq (E I (k-1)),kp gc 0,kp gc 65,kq (V (X ⟨gc,65+j*10,Z⟩)),kq (EU dv),kp gs 0,kp gs 0,kp gs 0,kp gc 0,kp gc 0,kp gc 0,kp gc 8,kq key,kq (E I k),kq (Es #[EU OF,E I cd]),kq (Es #[EU OF,E I cd]),kq (EU OF),kq (E I cd),.dep (aH 117 10 n0) (fun v w w' h hr=>h.B hr) (fun v w w' h hr=>h.sz hr),.tie [23] (fun x w=> ∃b:Nat,x 23=V (X ⟨b,0,Z⟩)/\n0<=b/\D w b OF 117) (fun x w w' h hr=>oL) (fun x y w hq h=>by rw[hq 23 Ek] at h;exact h),kq (E I cd)] [Y,Y,Y,Y,Y,Y,Y,Y,Y,Y,Y,Y,Y,Y,Y,Y,Y,Y,Y,Y,Y,Y,Y,Y,G,Y] O [[],[],[],[],[],[],[],[],[],[],[],[],[],[],[],[],[],[],[],[],[],[],[],[],[23],[]] O [24] [(0,0),(0,0),(0,0),(0,0),(0,0),(0,0),(0,0),(0,0),(0,0),(0,0),(0,0),(0,0),(0,0),(0,0),(0,0),(0,0),(0,0),(0,0),(0,0),(0,0),(0,0),(0,0),(0,1),(0,0),(0,0),(1,1)] Ec Ec Ec Ec Ec Ec On Ec ?hPh ?h0 ?hstep ?hend;case hPh=> intro p w2 w3 h hr;exact⟨Ey h.1 (Below.size hr),h.2.1.B hr,h.2.2.1.trans (Ev.Eu hr),fun hp=>by obtain⟨a1,a2,big,a3,a4⟩:=h.2.2.2 hp;exact⟨Iq a1 hr,a2.B hr,big,D.B a3 hr,a4⟩⟩
   case h0=> have hb:=I1 w4;exact⟨Ey (Nat.le_of_eq hn0) (Below.size hb),S1.out.B hb,MM.out.trans (Ev.Eu hb),fun _=>⟨Iq RY.out hb,S1.out.core.roots.B hb,FE,D.B BG.out hb,BX.out⟩⟩
   case hstep=>
    refine⟨?_,?_,?_,?_,?_,?_,?_,?_,?_,?_,?_,?_,?_,?_,?_,?_,?_,?_,?_,?_,?_,?_,?_,?_,?_,?_,trivial⟩;all_goals first|intro xv wq p hlo hhi hp hd|intro xv wq hp hd
    all_goals simp only[EB,Ic,Ig,IJ,IU]
    ·exact EiE
    ·exact Eim
    ·exact Eil
    ·exact EiJ
    ·exact EiE
    ·exact Elt
    ·exact Eik
    ·exact ElS
    ·exact Ekp
    ·obtain rfl:p=0:=U;have d8:xv 8=V (X ⟨gc,65+j*10,Z⟩):=hd.at 8 rfl;obtain⟨-,-,big,KB,EX⟩:=hp.2.2.2 rfl;exact ah EF UN (Ei O) ⟨O,d8⟩ KB xV.out EX O
    ·exact EiE
    ·exact ElM
    ·exact ElL
    ·exact Ekm
    ·exact ElK
    ·obtain rfl:p=0:=U;have d14:xv 14=V (X ⟨gc,0,Z⟩):=hd.at 14 rfl;exact Ep DT O
    ·obtain rfl:p=0:=U;have d15:xv 15=V (X ⟨gc,0,Z⟩):=hd.at 15 rfl;exact Ep sy O
    ·obtain rfl:p=0:=U;have d16:xv 16=V (X ⟨gc,8,Z⟩):=hd.at 16 rfl;have cc:wq.cell? ⟨gc,8,Z⟩=X (key):=xW.out wq hp.2.1;exact Ep DW O
    ·exact EiE
    ·obtain rfl:p=0:=U;have d9:xv 9=EU dv:=hd.at 9 rfl;have d17:xv 17=key:=hd.at 17 rfl;have d18:xv 18=E I k:=hd.at 18 rfl;refine IY (f:=121) (args:= #[xv 9,xv 17,xv 18]) (Ei O) Ew ?_;rw[d9,d17,d18];exact(CH.out wq (hp.2.2.2 rfl).1 (hp.2.2.2 rfl).2.1).mono fun e w2 h=>⟨_,h.1,h.2,O⟩
    ·obtain rfl:p=0:=U;have d19:xv 19=Es #[EU OF,E I cd]:=hd.at 19 rfl;exact Ep (by simp[go_sem,d19]) O
    ·obtain rfl:p=0:=U;exact Emp
    ·exact Emp
    ·exact Eld
    ·have d21:xv 21=EU OF:=hd.at 21 rfl;obtain⟨b,c8,eA,lb,h8,kb⟩:aH 117 10 n0 (xv 23) wq:=hd.at 23 rfl;have nh:=U0.out;refine ag UN (Ei O) ⟨O,eA,d21⟩ kb h8 aK.out mq.out ⟨xR aK.out,?_⟩ ⟨b,eA,lb,kb.setRow _⟩;obtain⟨n1,s1,m1,-⟩:=hp;have ho:=Od (g:=b) (W:=wq) OF;exact⟨Ey n1 ho.size,s1.xS ho kb EZ U,m1.only ho U U kb.lt,fun h=>Uf⟩
    ·obtain rfl:p=1:=U;have d22:xv 22=E I cd:=hd.at 22 rfl;exact Ep (by simp[go_sem,d22]) O
   case hend=>
    intro xv W6 hp hd;simp only[EB,Ic,Ig,IJ,IU];obtain⟨b,eA,lb,kb⟩: ∃b:Nat,xv 23=V (X ⟨b,0,Z⟩)/\n0<=b/\D W6 b OF 117:=hd 24 EZ;have a25:xv 25=E I cd:=hd 25 EZ;obtain⟨-,s6,m6,-⟩:=hp;replace S1:=J s6;replace MM:=J m6;have KB:=J kb;rw[eA,a25];clear s6 m6 kb hd eA a25 KM;by_cases hcd:cd=0
    ·subst hcd;go_wp2_with fail;have y0: ∀y:Ext W6,(Ex W6 y).cell? ⟨gs,0,Z⟩=X (V (X ⟨gc,0,Z⟩)):=fun y=>(S1.out.B (EC y)).Iu;refine JB 10 Ec Ec ?_;simp only[Il,Ij,Iz,Ix]
     repeat (first
      |go_big_quiet_skip
      |(go_big_quiet_want
        first
         |(refine Oj (T:=117) (g:=b) UN _ rfl rfl KB ?_ ?_;(·exact aK.out);go_simp;go_big_quiet_on)
         |(refine xT (v:=E I (k-1)) (fun _=>oS rfl rfl rfl SB.out) ?_;go_simp;go_big_quiet_on)
         |(refine xT (v:=V (X ⟨gc,65+j*10,Z⟩)) (fun _=>mj rfl rfl rfl IX.out) ?_;go_simp;go_big_quiet_on)
         |(go_big_quiet_op
           first
            |go_big_quiet_on
            |go_big_quiet_call (fail))))
     refine wpQuiet_nil ?_;intro _ hw';obtain⟨y9,rfl⟩:=hw';have El:=EC y9;replace KB:=EN KB El;replace S1:=J<|S1.out.B El;replace MM:=J<|MM.out.trans (Ev.Eu El);clear y0 El;generalize Ex W6 y9=w9 at*;have TH:=J<|QS S1.out.core j HJ.out;go_wp2_with ((with_reducible refine JI 117 ?_);(with_reducible refine wpList_store_mid O 117 _ _ O gc (65+j*10) OF ?_ ?_ ?_ ?_ ?_ ?_);(·rfl);(·rfl);(·rw[aK.out];exact TH.out);(·rw[aK.out];exact UN.2);(·exact mq.out);refine Ed.mk ?_);refine Ed.in ?_;have S4:=S1.out.QT j HJ.out d2 HD2.out;rw[<-sK.out] at S4;obtain⟨d0,d1,d2',hd,KG,-⟩:=S1.out.core.Em;replace KB:=J<|(JX (g:=gc) OF.toList (65+j*10) w9).Em KB.out (E7 KB.out KG EZ);replace S1:=J S4.1;replace MM:=J<|MM.out.trans S4.2;clear S4 TH KG;generalize w9.setCells gc (65+j*10) OF.toList=UD at*;have NC:Ea (OF.extract 2 (2+8)=Ej d2.nc):=J (by rw[sK.out];exact D7 _ _ _ HD2.out.len);have NS:Ea ((Ej d2.nc).size=8):=J (by rw[JV];exact HD2.out.len);have BN:=J<|Ea9 d2.nc HD2.out.len;have IR:=J<|Ea_ 129 0 0 0 0 0 HD2.out.len HD2.out.bytes;generalize [129,0,0,0,0,0]++d2.nc=rl at*;generalize Ej d2.nc=nv at*;go_wp2_with (first|(with_reducible refine wM (off:=2) (cs:=nv) XT KB ?_ (hn:=NS.out) (he:=NC.out))|((with_reducible refine In 77 ?_);refine IP rfl 222 _ rfl (IW rl) BN.out ?_));(with_reducible refine(rH lo hi g gc gq gt gs c ns rs rl k _ S1.out IR.out JP).mono ?_);rintro e11 Zn ⟨rfl,s11,m11⟩;replace S1:=J s11;replace MM:=J<|MM.out.trans m11;clear s11 m11;go_wp2_with fail;(with_reducible refine(Xs lo hi g gc gq gt gs c (ns+1) rs 2 k 0 0 0 _ S1.out Ju).mono ?_);rintro e12 Xz ⟨rfl,s12,m12⟩;have S8:=J s12;replace MM:=J<|MM.out.trans m12;clear s12 m12;go_wp2_with fail;go_end0;exact⟨O,⟨1,2,_,U,S8.out⟩,MM.out⟩
    ·have t9:(cd !=0)=G:=aC;go_wp2_with fail;(with_reducible refine(dx lo hi g gc gq gt gs c ns rs k 0 cd _ S1.out JP Ju).mono ?_);rintro e7 w7 ⟨rfl,s7,m7⟩;have S8:=J s7;replace MM:=J<|MM.out.trans m7;clear s7 m7;go_wp2_with fail;refine EQ (results_none O _ _ _) O ?_;exact⟨O,⟨1,7,_,U,S8.out⟩,MM.out⟩
 ·have t9:(iq !=0)=G:=by simpa using sG
  go_wp2_with fail;(with_reducible refine(oh lo hi g gc gq gt gs c ns rs k 13 _ S1.out Ju).mono ?_);rintro e7 w7 ⟨rfl,s7,m7⟩;have S8:=J s7;replace MM:=J<|MM.out.trans m7;clear s7 m7;go_wp2_with fail;refine EQ (results_none O _ _ _) O ?_;exact⟨O,⟨0,1,_,U,S8.out⟩,MM.out⟩
end Go.Proofs.YtclmichaaiohjaaGreatDoor
