import Derived.Test.YtclmichaaiohjaaGreatDoorU07
import Derived.Lib.Walk
set_option maxRecDepth 100000
set_option linter.unusedVariables false
set_option linter.unusedSimpArgs false
set_option maxHeartbeats 6400000
namespace Go.Proofs.YtclmichaaiohjaaGreatDoor
open RowKit
open And renaming intro->JR
open Bool renaming true->EI,false->V
open Go renaming bits->Iu,World->M,Calls->Eg,TypeId->Ez,Value->G,Addr->Ev,Program->Jd,bodyPost_ret->EV,results->UW,Oper->EG,yielded->Ja,execOp->Ig,wpList->Ih,Operand->JN,below_setRow->E6,wpQuiet_nil->I2,wp_loop_rounds->OJ,rounds_succ->Ib,results_none->UC,Ending->Uv,wpList_store_mid->Um
open Act renaming put->Ic
open Ending renaming returned->Eh
open Instr renaming index->Ua
open IntKind renaming i64->I,u8->IT
open Lib renaming hid->J
open Obj renaming cells->Ec
open Go.Proofs.Tryz renaming prog->Ea
open Region renaming wanted->I8
open Result renaming andThen_ok->On
open RowKit renaming Hid->Ed,intOf->I5
open RowKit.Below renaming refl->E_,alloc->J1,setCell->J5,size->UQ
open Sem renaming run_bind->Om,run_pure->Oa
open Value renaming bool->EU,int->E,agg->EZ,slice->EJ,tuple->Es,pointer->Y,oneCell'->Ov
open World renaming alloc->XX,ownsRow_nil->bw,cell?->iA,ownsRow->bM
open Int renaming toNat_natCast->kL,eq_ofNat_of_zero_le->ib,le_refl->X6
open List renaming getElem?_eq_getElem->JY,range->UM,mem_cons_of_mem->Z5,getElem?_eq_some_iff->Xr,take_append_drop->dR,take_succ_cons->Is,drop_eq_getElem_cons->lO,length_take->ZJ,take_of_length_le->OV,getD_eq_getElem?_getD->Uj,getElem?_take_of_lt->bU,map_cons->Xs,map_nil->Zu,take_zero->Io,mem_map->bc,getElem?_toArray->J0,setIfInBounds_toArray->Ii,length_append->I1,mem_cons->OY,getElem?_map->ls,append_assoc->UY,set_cons_succ->IJ,set_cons_zero->IU,mem_append->Xt,map_append->jr,nil_append->cX,not_mem_nil->Uu,drop_succ_cons->IS,drop_zero->IM,append_nil->fX,take_add_one->lL,mem_of_getElem?->cG,mem_singleton->mw
open Nat renaming le_trans->EB,le_refl->E9,zero_add->J9,add_assoc->iq,le_of_lt->aM,le_of_eq->Ud
open Ne renaming symm->X1
open Option renaming some->X,none->Z
open KQ
variable{c c':EF}{x:Int}{n lo gc gq gt gs base i:Nat}{t t2 t' t1:EM}{g:Nat->G}{W w:M}{A:Option Ev}{new:List Rec}{h:List G}{xs:List Int}
def fy(m x:Int):Bool:=decide (x< -m)||decide (m<x)
def gP(m x0 x1 x2 x3:Int):Bool:=fy m x0||(fy m x1||(fy m x2||fy m x3))
theorem Ec8(m x0 x1 x2 x3:Int)(w:M)(hm:0<=m/\m<=32767): Eg Ea 136 #[E I m,EZ #[E I x0,E I x1,E I x2,E I x3]] w fun e w'=>e=Eh (EU (gP m x0 x1 x2 x3))/\Ek w w':=by
 have j0: ∀w,(Ua 25 (EZ #[E I x0,E I x1,E I x2,E I x3]) (E I 0)).run Ea w= .ok (E I x0) w:=fun _=>Ef;have j1: ∀w,(Ua 25 (EZ #[E I x0,E I x1,E I x2,E I x3]) (E I 1)).run Ea w= .ok (E I x1) w:=fun _=>Ef;have j2: ∀w,(Ua 25 (EZ #[E I x0,E I x1,E I x2,E I x3]) (E I 2)).run Ea w= .ok (E I x2) w:=fun _=>Ef;have j3: ∀w,(Ua 25 (EZ #[E I x0,E I x1,E I x2,E I x3]) (E I 3)).run Ea w= .ok (E I x3) w:=fun _=>Ef;go_enter Tryz.func136,Tryz.ntmps136;go_wp2_with fail;refine OJ 5 ?_;rw[Ib];cases a0:decide (x0< -m)
 ·cases b0:decide (m<x0)
  ·go_wp2_with fail;rw[Ib];cases a1:decide (x1< -m)
   ·cases b1:decide (m<x1)
    ·go_wp2_with fail;rw[Ib];cases a2:decide (x2< -m)
     ·cases b2:decide (m<x2)
      ·go_wp2_with fail;rw[Ib];cases a3:decide (x3< -m)
       ·cases b3:decide (m<x3);·go_wp2_with fail;rw[Ib];go_wp2;go_ret;exact⟨Tq,Er w _⟩
        ·go_wp2;go_ret;exact⟨Tq,Er w _⟩
       ·go_wp2;go_ret;exact⟨by simp[gP,fy,a0,b0,a1,b1,a2,b2,a3],Er w _⟩
      ·go_wp2;go_ret;exact⟨by simp[gP,fy,a0,b0,a1,b1,a2,b2],Er w _⟩
     ·go_wp2;go_ret;exact⟨by simp[gP,fy,a0,b0,a1,b1,a2],Er w _⟩
    ·go_wp2;go_ret;exact⟨by simp[gP,fy,a0,b0,a1,b1],Er w _⟩
   ·go_wp2;go_ret;exact⟨by simp[gP,fy,a0,b0,a1],Er w _⟩
  ·go_wp2;go_ret;exact⟨by simp[gP,fy,a0,b0],Er w _⟩
 ·go_wp2;go_ret;exact⟨by simp[gP,fy,a0],Er w _⟩
def mx(ms mb r:Int)(va:Bool)(x0 x1 x2 x3:Int):Int×Bool:=if(va&&gP mb x0 x1 x2 x3)=EI then(sat (max r 0) ms,decide (ms<=sat (max r 0) ms)) else(0,V)
theorem Ec9{ms mb r:Int}(hs:1<=ms/\ms<=1000)(hr:0<=r/\r<=1000)(va:Bool)(x0 x1 x2 x3:Int):0<=(mx ms mb r va x0 x1 x2 x3).1/\(mx ms mb r va x0 x1 x2 x3).1<=1000:=by
 unfold mx;split;·simp only[sat];split<;>omega
 ·exact⟨Eb,Eb⟩
theorem Ec_:IF Ea 25 4:=⟨⟨_,Tryz.underlying25,U⟩,Ef⟩
theorem EdE(g:Nat->G)(ms mb:Int)(hs:g 46=E I ms)(hb:g 47=E I mb)(hs2:1<=ms/\ms<=1000)(hb2:0<=mb/\mb<=32767)(r:Int)(hr:0<=r/\r<=1000)(va gv:Bool)(x0 x1 x2 x3:Int)(w:M): Eg Ea 92 #[EZ (EN 56 g),E I r,EZ #[EU va,E I x0,E I x1,E I x2,E I x3,EU gv]] w fun e w'=>e=Eh (Es #[E I (mx ms mb r va x0 x1 x2 x3).1,EU (mx ms mb r va x0 x1 x2 x3).2])/\Ek w w':=by
 have Tr:=J<|fun W=>Ec8 mb x0 x1 x2 x3 W hb2;obtain⟨bb,hby⟩:=Eo (gP mb x0 x1 x2 x3);have G9:Ed (mx ms mb r va x0 x1 x2 x3=if(va&&bb)=EI then(sat (max r 0) ms,decide (ms<=sat (max r 0) ms)) else(0,V)):=J (by rw[hby];rfl);rw[<-hby] at Tr;have HR:=J hr;have HS2:=J hs2;obtain⟨pv,hpv⟩:=Eo (EN 56 g);have Ts:Ed (pv[46]?=X (E I ms)):=J (by rw[hpv,<-hs];simp[EN]);have PC2:Ed (pv[47]?=X (E I mb)):=J (by rw[hpv,<-hb];simp[EN]);rw[<-hpv];clear hpv hs hb hs2 hb2 hr hby;go_enter Tryz.func92,Tryz.ntmps92;go_wp2_with (with_reducible refine JU 9 ?_);apply Et;generalize hW:XX _ _=w1 at*;have KP:Ed (H w1 (w.heap.size) pv 28):=J (by subst hW;repeat (first|exact H.new _ _ _|exact H.new' _ _ _ Ej|refine H.alloc ?_ _));have KS:Ed (H w1 (w.heap.size+1) #[EU va,E I x0,E I x1,E I x2,E I x3,EU gv] 46):=J (by subst hW;repeat (first|exact H.new _ _ _|exact H.new' _ _ _ Ej|refine H.alloc ?_ _));have b1:Ed (Ek w w1):=J (by subst hW;(repeat (first|exact E_ _ _|(refine J1 ?_ IC _)|(refine J5 ?_ IC _))));clear hW;obtain⟨gb,hgb⟩:=Eo (w.heap.size+1);obtain⟨gp,O8⟩:=Eo w.heap.size;rw[<-hgb] at KS⊢;rw[<-O8] at KP;rw[show w.heap.size=gp from O8.symm];clear hgb O8;have c0:w1.cell? ⟨gb,0,Z⟩=X (EU va):=(H.cell KS.out 0).trans U;have c47:w1.cell? ⟨gp,47,Z⟩=X (E I mb):=(H.cell KP.out 47).trans PC2.out;cases va with
 |false=> go_wp2;go_ret2;refine⟨?_,b1.out⟩;rw[G9.out];rfl
 |true=>
  go_wp2_with ((with_reducible refine jj 25 ?_);(with_reducible refine qk (g:=gb) (off:=1) (cs:= #[E I x0,E I x1,E I x2,E I x3]) Ec_ ?_ ?_ KS ?_ ?_ ?_);(·first|exact Ei rfl|(simp[I8,Ja];done));(·exact⟨U,U⟩);(·rfl);(·simp));refine(Tr.out _).mono ?_;rintro e w2 ⟨rfl,b2⟩;replace KP:=EP KP b2;replace b1:=EW b1 b2;clear b2 c0 c47 KS;cases bb with
  |false=> go_wp2;go_ret2;refine⟨?_,b1.out⟩;rw[G9.out];rfl
  |true=>
   have c46:w2.cell? ⟨gp,46,Z⟩=X (E I ms):=(H.cell KP.out 46).trans Ts.out;have h1:=HR.out;have h2:=HS2.out;go_wp2_with fail;refine(sF (max r 0) ms _ D D).mono ?_;rintro e w3 ⟨rfl,rfl⟩;go_wp2_with fail;have Tt: ∀y:Ext w2,(EA w2 y).cell? ⟨gp,46,Z⟩=X (E I ms):=fun y=>(H.cell (H.u KP.out (EL y)) 46).trans Ts.out;refine Zs Ef Ef ?_;repeat (go_big_quiet_step (fail))
   refine I2 ?_;intro _ hw';obtain⟨y9,rfl⟩:=hw';have En:=EL y9;replace b1:=EW b1 En;clear Tt KP En c46;generalize EA w2 y9=w4 at*;go_wp2;go_ret2;refine⟨?_,b1.out⟩;rw[G9.out];rfl
def Az(c c':EF)(new:List Rec):Prop:=
 (∃L' cd,c'={c with q:=L'}/\new=[⟨7,0,c.samples,c.tok.e,cd,0⟩])
 \/(∃L' t2 hw,t2.ok/\t2.e=c.tok.e+1/\t2.o= -1/\c'={c with tok:=t2,q:=L'}/\new=[⟨8,t2.h,c.samples,t2.e,0,hw⟩])
 \/(new=[⟨6,0,c.samples,c.tok.e,0,0⟩]/\ ∃p:Pt,p.b=⟨1,0,c.samples⟩/\c'={c with pt:=p})
theorem EdO(lo hi:Nat)(g:Nat->G)(gc gq gt gs:Nat)(c:EF)(ns:Nat)(rs:List Rec)(w:M)(S:E4 lo hi g gc gq gt gs c ns rs w)(hn:ns<800000)(hl:rs.length<800000): Eg Ea 93 #[Y (X ⟨gs,0,Z⟩)] w fun e w'=>e=Eh (Es #[])/\(∃c' m new,m<=3/\E4 lo hi g gc gq gt gs c' (ns+m) (rs++new) w'/\Az c c' new)/\Ex lo hi w w':=by
 have Zq:=fun W q=>RM lo gq c.q (pn g 48) 0 c.tok W S.core.lq q S.core.ok.q AZ;obtain⟨Im,Ug,U8,XV⟩: ∃Im,c.tok.a=EZ Im/\Ed (Im.size=8)/\Ed (c.tok.v.toArray=Im):=⟨_,U,J U,J U⟩;have S1:=J S;have HN:=J hn;have HL:=J hl;have MM:=J<|Ex.refl lo hi w;obtain⟨sm,hsm⟩:=Eo c.samples;replace hsm:=J hsm;clear S hn hl;have CA:Ed (∀W,Jk W lo gq c.q (pn g 48)->Eg Ea 137 #[EZ Im,Y (X ⟨gq,0,Z⟩),E I 0] W _):=J (fun W q=>Sj);obtain⟨PQ,hPQ⟩: ∃PQ:Array G->Int->Prop,PQ=fun rv cd=> ∃t2:EM,t2.a=EZ rv/\rv.size=8/\rv.all (·.oneCell')=EI/\rm c.tok c.q 0 t2 cd:=⟨_,U⟩;have pI:Ed (∀(t2:EM) (rv:Array G) (cd:Int),t2.a=EZ rv->rv.size=8->rv.all (·.oneCell')=EI->rm c.tok c.q 0 t2 cd->PQ rv cd):=J (fun t2 rv cd h1 h2 h3 h4=>Ac);have pJ:Ed (∀rv cd,PQ rv cd->rv.size=8/\rv.all (·.oneCell')=EI):=J (fun rv cd h=>Ad);replace hPQ:=J hPQ;clear Zq Ug;obtain⟨n0,hn0⟩:=Eo w.heap.size;have XA:=J (show lo<=n0/\hi<=n0/\w.heap.size<=n0 by have:=S1.out.bL;have:=S1.out.fo;omega);go_enter Tryz.func93,Tryz.ntmps93;go_wp2_with fail;refine gD (Ph:=fun p wq=>n0<=wq.heap.size/\(match p with|0=>(E4 lo hi g gc gq gt gs c ns rs wq/\Ex lo hi w wq)|_=>(∃L':List One,E4 lo hi g gc gq gt gs {c with q:=L'} ns rs wq/\Ex lo hi w wq))) (Rel:=Jn) (In:=j7) [kp gs 0,kp gs 0,kp gs 0,kp gc 0,kp gc 0,kp gc 56,kq (EZ Im),kp gs 0,kp gs 0,kp gs 0,kp gc 0,kp gc 0,kp gc 64,kp gq 0,.val (fun v=> ∃(rv:Array G) (cd:Int),PQ rv cd/\v=Es #[EZ rv,E I cd]),.val (fun v=> ∃(rv:Array G) (cd:Int),PQ rv cd/\v=Es #[EZ rv,E I cd]),.aW [15,16] (fun x=> ∃(rv:Array G) (cd:Int),PQ rv cd/\x 15=Es #[EZ rv,E I cd]/\x 16=EZ rv) (fun x y hq h=>by simpa only[hq 15 Ej,hq 16 Ej] using h),.aW [15,17] (fun x=> ∃(rv:Array G) (cd:Int),PQ rv cd/\x 15=Es #[EZ rv,E I cd]/\x 17=E I cd) (fun x y hq h=>by simpa only[hq 15 Ej,hq 17 Ej] using h),.dep (ZV n0) (fun v w w' h hr=>h.u hr) (fun v w w' h hr=>h.gF hr),.tie [18,16] (fun x w=> ∃(b:Nat) (rv:Array G),x 18=Y (X ⟨b,0,Z⟩)/\x 16=EZ rv/\n0<=b/\H w b rv 109) (fun x w w' h hr=>Af) (fun x y w hq h=>by rw[hq 18 Ej,hq 16 Ej] at h;exact h),.aW [17,20] (fun x=>x 20=x 17) (fun x y hq h=>by simpa only[hq 17 Ej,hq 20 Ej] using h)] [V,V,V,V,V,V,V,V,V,V,V,V,V,V,V,V,V,V,V,EI,V] U [[],[],[],[],[],[],[],[],[],[],[],[],[],[],[],[],[15,16],[15,17],[],[18,16],[17,20]] U [14,19] [(0,0),(0,0),(0,0),(0,0),(0,0),(0,0),(0,0),(0,0),(0,0),(0,0),(0,0),(0,0),(0,0),(0,0),(0,0),(1,1),(1,1),(1,2),(0,1),(1,1),(2,2)] Ef Ef Ef Ef Ef Ef O0 Ef ?hPh ?h0 ?hstep ?hend
 case hPh=>
  intro p w2 w3 h hr;match p,h with
  |0,h=>exact⟨EB h.1 (UQ hr),h.2.1.u hr,h.2.2.trans (Ex.EC hr)⟩
  |_+1,h=> obtain⟨nn,L',s,m⟩:=h;exact⟨EB nn (UQ hr),L',s.u hr,m.trans (Ex.EC hr)⟩
 case h0=> exact Em8
 case hstep=>
  refine⟨?_,?_,?_,?_,?_,?_,?_,?_,?_,?_,?_,?_,?_,?_,?_,?_,?_,?_,?_,?_,?_,trivial⟩;all_goals first|intro xv wq p hlo hhi hp hd|intro xv wq hp hd
  all_goals simp only[ED,Ic,Ii,IJ,IU]
  ·exact Ej_
  ·exact Eki
  ·exact Ekh
  ·exact EkI
  ·exact Ekg
  ·exact Ekw
  ·exact Eof
  ·exact Ej_
  ·exact EkY
  ·exact EkW
  ·exact Ekx
  ·exact EkR
  ·exact EkQ
  ·exact Elw
  ·have d6:xv 6=EZ Im:=hd.at 6 rfl;have d13:xv 13=Y (X ⟨gq,0,Z⟩):=hd.at 13 rfl;refine JE (f:=137) (args:= #[xv 6,xv 13,E I 0]) (Ei U) Ew ?_;rw[d6,d13];refine(CA.out wq hp.2.1.core.ZC).mono fun e w2 h=> ?_;obtain⟨⟨t2,cd,L2,he,hf,sq,q2⟩,m2⟩:=h;obtain⟨rv,IG,hs,ho⟩:=Zo t2;exact⟨_,he,⟨m2.gF,EB hp.1 m2.bel.size,L2,hp.2.1.fp m2 L2 q2 (hp.2.1.core.ok.sub sq),hp.2.2.trans (m2.iK hi)⟩,rv,cd,pI.out t2 rv cd IG hs ho hf,congrArg (fun v=>Value.tuple #[v,E I cd]) IG⟩
  ·obtain rfl:p=1:=D;obtain⟨rv,cd,hpq,e14⟩: ∃(rv:Array G) (cd:Int),PQ rv cd/\xv 14=Es #[EZ rv,E I cd]:=hd.at 14 rfl;exact Ep (by simp[go_sem,e14]) ⟨rv,cd,hpq,U⟩
  ·obtain rfl:p=1:=D;exact El1
  ·exact El1
  ·exact ElJ
  ·obtain⟨b,d0,eA,lb,h8,kb⟩:ZV n0 (xv 18) wq:=hd.at 18 rfl;have nh:=XA.out;obtain⟨rv,cd,hpq,-,e16⟩: ∃(rv:Array G) (cd:Int),PQ rv cd/\xv 15=Es #[EZ rv,E I cd]/\xv 16=EZ rv:=hd.at 16 rfl;have hsz:=pJ.out _ _ hpq;obtain⟨nn,L',s,m⟩:=hp;refine cO ER (Ei U) ⟨U,eA,e16⟩ kb h8 hsz.1 hsz.2 ⟨rB kb hsz.1,?_⟩ ⟨b,rv,eA,e16,lb,kb.setRow _⟩;exact EnF
  ·obtain rfl:p=2:=D;obtain⟨rv,cd,hpq,-,e17⟩: ∃(rv:Array G) (cd:Int),PQ rv cd/\xv 15=Es #[EZ rv,E I cd]/\xv 17=E I cd:=hd.at 17 rfl;exact Ep (by simp[go_sem,e17]) (e17.symm)
 case hend=>
  intro xv W6 hp hd;clear S1 MM;simp only[ED,Ic,Ii,IJ,IU];obtain⟨rv,cd,hpq,eM,e16⟩: ∃(rv:Array G) (cd:Int),PQ rv cd/\xv 15=Es #[EZ rv,E I cd]/\xv 16=EZ rv:=hd 16 Eb;obtain⟨b,gG,eA,eE,lb,kb⟩: ∃(b:Nat) (rv:Array G),xv 18=Y (X ⟨b,0,Z⟩)/\xv 16=EZ rv/\n0<=b/\H W6 b rv 109:=hd 19 Eb;have pO:gG=rv:=by rw[eE] at e16;injection e16
  subst pO;have a20:xv 20=E I cd:=by have h1:xv 20=xv 17:=hd 20 Eb;obtain⟨Ai,GD,-,f1,f2⟩: ∃(rv:Array G) (cd:Int),PQ rv cd/\xv 15=Es #[EZ rv,E I cd]/\xv 17=E I cd:=hd 17 Eb;exact ElQ
  obtain⟨-,L',s6,m6⟩:=hp;have S1:=J s6;have MM:=J m6;have KB:=J kb;rw[eA,a20];rw[hPQ.out] at hpq;obtain⟨t2,IG,hs,ho,hf⟩:=hpq;have Uf:=J IG;have RS:=J hs;have HF:=J hf;clear s6 m6 kb hd eA a20 CA IG hs ho hf eM eE;by_cases hcd:cd=0
  ·subst hcd
   have HT2:Ed (t2.ok/\t2.e=c.tok.e+1/\t2.o= -1):=J (by
    rcases HF.out with⟨a1,-⟩|⟨-,-,-,x,-,a2⟩;·exact absurd U a1
    ·exact⟨(ft S1.out.core.ok.tok a2).1,(ft S1.out.core.ok.tok a2).2.1,(ft S1.out.core.ok.tok a2).2.2.2⟩)
   go_wp2_with fail;have y0: ∀y:Ext W6,(EA W6 y).cell? ⟨gs,0,Z⟩=X (Y (X ⟨gc,0,Z⟩)):=fun y=>(S1.out.u (EL y)).Iy;have y96: ∀y:Ext W6,(EA W6 y).cell? ⟨gc,96,Z⟩=X (E I sm):=fun y=>by rw[hsm.out];exact(S1.out.u (EL y)).core.cell 7 rfl 0 Ej
   refine J_ 9 Ef Ef ?_;simp only[Is,Io,IS,IM]
   repeat (first
    |go_big_quiet_skip
    |(go_big_quiet_want
      first
       |(refine Og (T:=109) (g:=b) ER _ rfl rfl KB ?_ ?_;(·exact RS.out);go_simp;go_big_quiet_on)
       |(go_big_quiet_op
         first
          |go_big_quiet_on
          |go_big_quiet_call (fail))))
   refine I2 ?_;intro _ hw';obtain⟨y9,rfl⟩:=hw';have En:=EL y9;replace S1:=J<|S1.out.u En;replace MM:=J<|MM.out.trans (Ex.EC En);clear y0 y96 En KB;generalize EA W6 y9=w9 at*;go_wp2_with fail;rw[<-Uf.out];refine(mX lo hi g gc gq gt gs _ ns rs t2 2 sm _ S1.out HT2.out.1 J2 JK).mono ?_;rintro e7 w7 ⟨rfl,⟨L2,m7,Xv,sq,s7⟩,U9⟩;have S8:=J s7;replace MM:=J<|MM.out.trans U9;have mc:=J Xv;clear s7 U9 sq Xv;go_wp2;go_end0;refine⟨U,⟨_,m7,_,pE,S8.out,.inr (.inl ⟨L2,t2,2,HT2.out.1,HT2.out.2.1,HT2.out.2.2,U,?_⟩)⟩,MM.out⟩;rw[hsm.out]
  ·have t9:(cd !=0)=EI:=cW;have z0:=S1.out.Iy;have kh:W6.cell? ⟨gc,96,Z⟩=X (E I sm):=by rw[hsm.out];exact S1.out.core.cell 7 rfl 0 Ej
   go_wp2_with fail;refine(Zl lo hi g gc gq gt gs _ ns rs 7 0 sm cd 0 _ S1.out JK).mono ?_;rintro e7 w7 ⟨rfl,s7,m7⟩;have S8:=J s7;replace MM:=J<|MM.out.trans m7;clear s7 m7 z0 kh;go_wp2_with fail;refine EV (UC U _ _ _) U ?_;refine⟨U,⟨_,0,_,D,S8.out,.inl ⟨L',cd,U,?_⟩⟩,MM.out⟩;rw[hsm.out]
theorem EdU(lo hi:Nat)(g:Nat->G)(gc gq gt gs:Nat)(c:EF)(ns:Nat)(rs:List Rec)(w:M)(S:E4 lo hi g gc gq gt gs c ns rs w)(hn:ns<800000)(hl:rs.length<800000): Eg Ea 95 #[Y (X ⟨gs,0,Z⟩)] w fun e w'=>e=Eh (Es #[])/\(∃c' m new,m<=3/\E4 lo hi g gc gq gt gs c' (ns+m) (rs++new) w'/\Az c c' new)/\Ex lo hi w w':=by
 have Zq:=fun W=>qt c.tok 0 W AZ;obtain⟨Im,Ug,U8,XV⟩: ∃Im,c.tok.a=EZ Im/\Ed (Im.size=8)/\Ed (c.tok.v.toArray=Im):=⟨_,U,J U,J U⟩;have S1:=J S;have HN:=J hn;have HL:=J hl;have MM:=J<|Ex.refl lo hi w;obtain⟨sm,hsm⟩:=Eo c.samples;replace hsm:=J hsm;clear S hn hl;cases hr:c.tok.UZ 0 with|mk t2 cd=>
 obtain⟨rv,IG,RS,RO⟩:=Zo t2;have RS:=J RS;have RO:=J RO;have Uf:=J IG;have HR:=J hr;have CA:Ed (∀W,Eg Ea 140 #[EZ Im,E I 0] W fun x w'=>x=Eh (Es #[EZ rv,E I cd])/\Ek W w'):=J (fun W=>by have h:=Zq W;rw[hr,Ug] at h;rw[<-IG];exact h);clear hr IG Zq Ug;have z0:=S1.out.Iy;obtain⟨big,KB,OC⟩:=aT S1.out.core;have KB:=J KB;have c_:Ed (big.extract 56 (56+8)=Im):=J<|(OC 1 c.tok.v U).trans XV.out;clear OC;go_enter Tryz.func95,Tryz.ntmps95;go_wp2_with (with_reducible refine wM (off:=56) (cs:=Im) ER KB ?_ (hn:=U8.out) (he:=c_.out));refine(CA.out _).mono ?_;rintro e6 w6 ⟨rfl,b6⟩;replace S1:=J<|S1.out.u b6;replace MM:=J<|MM.out.trans (Ex.EC b6);clear b6 z0 KB;have K0:=J<|H.new w6 #[E I 0,E I 0,E I 0,E I 0,E I 0,E I 0,E I 0,EU V] 109;have b2:=Er w6 (Ec #[E I 0,E I 0,E I 0,E I 0,E I 0,E I 0,E I 0,EU V] 109);go_wp2_with (with_reducible first|refine wA j8 ?_|refine wS (cs:=rv) ER K0 (Ey.mk ?_) (hn:=RS.out) (h1:=RO.out));apply Et;obtain⟨b,hgm⟩:=Eo w6.heap.size;rw[<-hgm] at K0⊢;generalize w6.alloc (Ec #[E I 0,E I 0,E I 0,E I 0,E I 0,E I 0,E I 0,EU V] 109)=w7 at*;have KB:=J<|K0.out.setRow rv;have b3:=E6 (g:=b) b2 (Ud hgm.symm) rv;generalize w7.setRow b rv=w8 at*;clear K0 b2 hgm;replace S1:=J<|S1.out.u b3;replace MM:=J<|MM.out.trans (Ex.EC b3);clear b3;by_cases hcd:cd=0
 ·subst hcd;have HT2:=J<|ft S1.out.core.ok.tok HR.out;go_wp2_with fail;have y0: ∀y:Ext w8,(EA w8 y).cell? ⟨gs,0,Z⟩=X (Y (X ⟨gc,0,Z⟩)):=fun y=>(S1.out.u (EL y)).Iy;have y96: ∀y:Ext w8,(EA w8 y).cell? ⟨gc,96,Z⟩=X (E I sm):=fun y=>by rw[hsm.out];exact(S1.out.u (EL y)).core.cell 7 rfl 0 Ej
  refine J_ 9 Ef Ef ?_;simp only[Is,Io,IS,IM]
  repeat (first
   |go_big_quiet_skip
   |(go_big_quiet_want
     first
      |(refine Og (T:=109) (g:=b) ER _ rfl rfl KB ?_ ?_;(·exact RS.out);go_simp;go_big_quiet_on)
      |(go_big_quiet_op
        first
         |go_big_quiet_on
         |go_big_quiet_call (fail))))
  refine I2 ?_;intro _ hw';obtain⟨y9,rfl⟩:=hw';have En:=EL y9;replace S1:=J<|S1.out.u En;replace MM:=J<|MM.out.trans (Ex.EC En);clear y0 y96 En KB;generalize EA w8 y9=w9 at*;go_wp2_with fail;rw[<-Uf.out];refine(mX lo hi g gc gq gt gs _ ns rs t2 4 sm _ S1.out HT2.out.1 J2 JK).mono ?_;rintro e7 w7 ⟨rfl,⟨L2,m7,Xv,sq,s7⟩,U9⟩;have S8:=J s7;replace MM:=J<|MM.out.trans U9;have mc:=J Xv;clear s7 U9 sq Xv;go_wp2;go_end0;refine⟨U,⟨_,m7,_,pE,S8.out,.inr (.inl ⟨L2,t2,4,HT2.out.1,HT2.out.2.1,HT2.out.2.2.2,U,?_⟩)⟩,MM.out⟩;rw[hsm.out]
 ·have t9:(cd !=0)=EI:=cW;have z0:=S1.out.Iy;have kh:w8.cell? ⟨gc,96,Z⟩=X (E I sm):=by rw[hsm.out];exact S1.out.core.cell 7 rfl 0 Ej
  go_wp2_with fail;refine(Zl lo hi g gc gq gt gs _ ns rs 7 0 sm cd 0 _ S1.out JK).mono ?_;rintro e7 w7 ⟨rfl,s7,m7⟩;have S8:=J s7;replace MM:=J<|MM.out.trans m7;clear s7 m7 z0 kh;go_wp2_with fail;refine EV (UC U _ _ _) U ?_;refine⟨U,⟨_,0,_,D,S8.out,.inl ⟨c.q,cd,U,?_⟩⟩,MM.out⟩;rw[hsm.out]
theorem G_:Ow Ea 36 #[E I 0,E I 0,E I 0]:=by exact Ekv
theorem EdX(ep:Int):Tryz.prog.built 183 [(0,E I 11),(4,E I ep),(6,E I 1)]=X (EH [11,0,0,0,ep,0,1,0,0,0,0,0]):=Ef
theorem EdZ(a b c:Int):Tryz.prog.built 36 [(0,E I a),(1,E I b),(2,E I c)]=X #[E I a,E I b,E I c]:=Ef
theorem Eda(lo hi:Nat)(g:Nat->G)(gc gq gt gs:Nat)(c:EF)(ns:Nat)(rs:List Rec)(va gv:Bool)(x0 x1 x2 x3:Int)(w:M)(S:E4 lo hi g gc gq gt gs c ns rs w)(hx:I4 x0/\I4 x1/\I4 x2/\I4 x3)(hn:ns<800000)(hl:rs.length<800000): Eg Ea 94 #[Y (X ⟨gs,0,Z⟩),EZ #[EU va,E I x0,E I x1,E I x2,E I x3,EU gv]] w fun e w'=>e=Eh (Es #[])/\(∃c' m new,m<=3/\E4 lo hi g gc gq gt gs c' (ns+m) (rs++new) w'/\Az c c' new)/\Ex lo hi w w':=by
 obtain⟨ep,Tu⟩:=Eo c.tok.e;obtain⟨jd,rF⟩: ∃jd:Int,∀W,X5 W->Eg Ea 138 #[EZ (EN 56 g),EZ c.tok.v.toArray,E I 0,E I 0,E I c.mode,EZ (EH [11,0,0,0,ep,0,1,0,0,0,0,0])] W fun e w'=>e=Eh (E I jd)/\Ek W w':=⟨_,fun W hc=>QQ g c.tok.h c.tok.e 0 0 c.mode 11 ep 0 1 (E I c.tok.o) (E I c.tok.oa) (E I c.tok.om) (E I c.tok.la) (E I c.tok.lm) (EU c.tok.bad) (E I 0) (E I 0) (E I 0) (EU V) (E I 0) (E I 0) (E I 0) (E I 0) W (fun i h1 h2=>S.core.XQ.int i h2 (.inr D)) hc⟩;obtain⟨p,hpo,hpb,j9⟩: ∃p:Pt,p.ok/\p.b=⟨1,0,c.samples⟩/\ ∀W,Eg Ea 139 #[EZ (EN 56 g),EZ c.pt.v.toArray,E I 1,EZ #[E I x0,E I x1,E I x2,E I x3],EZ #[E I 1,E I 0,E I c.samples]] W fun e w'=>e=Eh (EZ p.v.toArray)/\Ek W w':=Su g c.pt S.core.XQ.fit S.core.ok.pt 0 c.samples 1 x0 x1 x2 x3 D hx.1 hx.2.1 hx.2.2.1 hx.2.2.2;have S0:=J S;have HN:=J hn;have HL:=J hl;have CJ:=J rF;have gC:=J hpo;have Z_:=J hpb;have Tv:=J<|EdX ep;have HEP:=J Tu;obtain⟨sm,hsm⟩:=Eo c.samples;replace hsm:=J hsm;have CS:=J j9;rw[<-hsm.out] at CS;have GV:=J<|EdZ 1 0 sm;have KS:=J<|H.new w #[EU va,E I x0,E I x1,E I x2,E I x3,EU gv] 46;have b1:=Er w (Ec #[EU va,E I x0,E I x1,E I x2,E I x3,EU gv] 46);have S1:=J<|S0.out.u b1;have MM:=J<|Ex.EC (lo:=lo) (hi:=hi) b1;have gN:=J<|JI [11,0,0,0,ep,0,1,0,0,0,0,0];have mn:=J<|Zy [11,0,0,0,ep,0,1,0,0,0,0,0];obtain⟨mv,hmv⟩:=Eo (EH [11,0,0,0,ep,0,1,0,0,0,0,0]);rw[<-hmv] at CJ Tv gN mn;clear S hn hl rF hpo hpb j9 Tu hmv hx S0;have z0:=S1.out.Iy;have z57:(w.alloc (Ec #[EU va,E I x0,E I x1,E I x2,E I x3,EU gv] 46)).cell? ⟨gc,57,Z⟩=X (E I ep):=by rw[HEP.out];exact S1.out.core.cell 1 rfl 1 Xx
 go_enter Tryz.func94,Tryz.ntmps94;go_wp2_with (with_reducible refine JU 15 ?_);apply Et;clear b1 z0 z57;generalize w.alloc (Ec #[EU va,E I x0,E I x1,E I x2,E I x3,EU gv] 46)=w1 at*;obtain⟨gb,hgb⟩:=Eo w.heap.size;rw[<-hgb] at KS⊢;clear hgb;have K0:=J<|H.new w1 (EH (IZ 0)) 183;have b2:=Er w1 (Ec (EH (IZ 0)) 183);go_wp2_with (first|((with_reducible refine It 15 ?_);refine JO rfl 183 _ rfl mv Tv.out ?_)|(with_reducible refine wA gO ?_)|(with_reducible refine wS (cs:=mv) Oz K0 (Ey.mk ?_) (ho:=JI _) (hn:=gN.out) (h1:=mn.out)));apply Et;obtain⟨gm,hgm⟩:=Eo w1.heap.size;rw[<-hgm] at K0⊢;generalize w1.alloc (Ec (EH (IZ 0)) 183)=w2 at*;have KM:=J<|K0.out.setRow mv;have b3:=E6 (g:=gm) b2 (Ud hgm.symm) mv;generalize w2.setRow gm mv=w3 at*;clear K0 b2 hgm;replace KS:=EP KS b3;replace S1:=J<|S1.out.u b3;replace MM:=J<|MM.out.trans (Ex.EC b3);clear b3;go_wp2_with fail;obtain⟨d0,d1,d2,hd,KG,o0,o1,o2,-,-⟩:=S1.out.core.El;have U_:=J<|Oj (c:=c) (gq:=gq) (gt:=gt) (hd:=hd) (Jw g) o0 o1 o2 0 D;have vd:=J<|Oj (c:=c) (gq:=gq) (gt:=gt) (hd:=hd) (Jw g) o0 o1 o2 1 D;have KG:=J KG;have PL:=J<|Jw g;have UT:Ed ((EN 56 g).toList.toArray=EN 56 g):=J Ej;clear o0 o1 o2;have Aq:=J S1.out.core.cmds;have y0: ∀y:Ext w3,(EA w3 y).cell? ⟨gs,0,Z⟩=X (Y (X ⟨gc,0,Z⟩)):=fun y=>(S1.out.u (EL y)).Iy;have y98: ∀y:Ext w3,(EA w3 y).cell? ⟨gc,98,Z⟩=X (E I c.mode):=fun y=>(S1.out.u (EL y)).core.cell 9 rfl 0 Ej;refine Zs Ef Ef ?_
 repeat (first
  |go_big_quiet_skip
  |(go_big_quiet_want
    first
     |(refine X7 (T:=28) (g:=gc) (off:=0) Up _ rfl rfl KG 0 rfl U_.out PL.out ?_;(try rw[UT.out]);go_simp;go_big_quiet_on)
     |(refine X7 (T:=109) (g:=gc) (off:=56) ER _ rfl rfl KG 1 rfl vd.out rfl ?_;(try rw[UT.out]);go_simp;go_big_quiet_on)
     |(refine Og (T:=183) (g:=gm) Ss _ rfl rfl KM ?_ ?_;(·exact gN.out);go_simp;go_big_quiet_on)
     |(go_big_quiet_op
       first
        |go_big_quiet_on
        |go_big_quiet_call (with_reducible refine IY (CJ.out _ (Aq.out.u (EL _)))))))
 refine I2 ?_;intro _ hw';obtain⟨y9,rfl⟩:=hw';have En:=EL y9;replace KS:=EP KS En;replace S1:=J<|S1.out.u En;replace MM:=J<|MM.out.trans (Ex.EC En);clear y0 y98 En KG U_ vd PL UT Aq KM CJ;generalize EA w3 y9=w4 at*;by_cases hjd:jd=0
 ·subst hjd;have z0:=S1.out.Iy;have kh:w4.cell? ⟨gc,96,Z⟩=X (E I sm):=by rw[hsm.out];exact S1.out.core.cell 7 rfl 0 Ej
  have K0:=J<|H.new w4 #[E I 0,E I 0,E I 0] 36;have b2:=Er w4 (Ec #[E I 0,E I 0,E I 0] 36);go_wp2_with (first|((with_reducible refine It 58 ?_);refine JO rfl 36 _ rfl #[E I 1,E I 0,E I sm] GV.out ?_)|(with_reducible refine wA G_ ?_)|(with_reducible refine wS (cs:= #[E I 1,E I 0,E I sm]) dD K0 (Ey.mk ?_) (h1:=UP)));apply Et;obtain⟨gl,hgl⟩:=Eo w4.heap.size;rw[<-hgl] at K0⊢;generalize w4.alloc (Ec #[E I 0,E I 0,E I 0] 36)=w5 at*;have KL:=J<|K0.out.setRow #[E I 1,E I 0,E I sm];have b3:=E6 (g:=gl) b2 (Ud hgl.symm) #[E I 1,E I 0,E I sm];generalize w5.setRow gl #[E I 1,E I 0,E I sm]=w6 at*;clear K0 b2 hgl z0 kh;replace KS:=EP KS b3;replace S1:=J<|S1.out.u b3;replace MM:=J<|MM.out.trans (Ex.EC b3);clear b3;go_wp2_with fail;obtain⟨d0,d1,d2,hd,KG,o0,o1,o2,-,-⟩:=S1.out.core.El;have U_:=J<|Oj (c:=c) (gq:=gq) (gt:=gt) (hd:=hd) (Jw g) o0 o1 o2 0 D;have gK:=J<|Oj (c:=c) (gq:=gq) (gt:=gt) (hd:=hd) (Jw g) o0 o1 o2 11 D;have KG:=J KG;have PL:=J<|Jw g;have UT:Ed ((EN 56 g).toList.toArray=EN 56 g):=J Ej;clear o0 o1 o2;have KX:Ed (Jh w6 gb [[EU va],[E I x0,E I x1,E I x2,E I x3],[EU gv]] 46):=J KS.out;have OX:Ed (aB [[EU va],[E I x0,E I x1,E I x2,E I x3],[EU gv]] 1=1):=J U;have y0: ∀y:Ext w6,(EA w6 y).cell? ⟨gs,0,Z⟩=X (Y (X ⟨gc,0,Z⟩)):=fun y=>(S1.out.u (EL y)).Iy;refine J_ 24 Ef Ef ?_;simp only[Is,Io,IS,IM]
  repeat (first
   |go_big_quiet_skip
   |(go_big_quiet_want
     first
      |(refine X7 (T:=28) (g:=gc) (off:=0) Up _ rfl rfl KG 0 rfl U_.out PL.out ?_;(try rw[UT.out]);go_simp;go_big_quiet_on)
      |(refine X7 (T:=50) (g:=gc) (off:=102) gB _ rfl rfl KG 11 rfl gK.out rfl ?_;(try rw[UT.out]);go_simp;go_big_quiet_on)
      |(refine X7 (T:=25) (g:=gb) (off:=1) vb _ rfl rfl KX 1 rfl OX.out rfl ?_;go_simp;go_big_quiet_on)
      |(refine Og (T:=36) (g:=gl) dD _ rfl rfl KL ?_ ?_;(·rfl);go_simp;go_big_quiet_on)
      |(go_big_quiet_op
        first
         |go_big_quiet_on
         |go_big_quiet_call (with_reducible refine IY (CS.out _)))))
  refine I2 ?_;intro _ hw';obtain⟨y9,rfl⟩:=hw';have En:=EL y9;replace S1:=J<|S1.out.u En;replace MM:=J<|MM.out.trans (Ex.EC En);clear y0 En KG U_ gK KX OX KL PL UT;generalize EA w6 y9=w7 at*;have TH:=J<|bS S1.out.core 11 rfl 12 vE;go_wp2_with ((with_reducible refine Jr 50 ?_);(with_reducible refine Um U 50 _ _ U gc 102 p.v.toArray ?_ ?_ ?_ ?_ ?_ ?_);(·rfl);(·rfl);(·exact TH.out);(·exact gB.2);(·simp[Pt.v,Ov]);refine Ey.mk ?_);apply Et;have S4:=S1.out.gA p (S1.out.core.ok.gA gC.out);replace S1:=J S4.1;replace MM:=J<|MM.out.trans S4.2;clear S4 TH KS;change Ih _ _ _ _ _ (w7.setCells gc 102 p.v);generalize w7.setCells gc 102 p.v=w8 at*;have z0:=S1.out.Iy;have kh:w8.cell? ⟨gc,96,Z⟩=X (E I sm):=by rw[hsm.out];exact S1.out.core.cell 7 rfl 0 Ej
  go_wp2_with fail;refine(Zl lo hi g gc gq gt gs _ ns rs 6 0 sm 0 0 _ S1.out JK).mono ?_;rintro e12 Xz ⟨rfl,s12,m12⟩;have S8:=J s12;replace MM:=J<|MM.out.trans m12;clear m12 s12 z0 kh;go_wp2;go_end0;refine⟨U,⟨_,0,_,D,S8.out,.inr (.inr ⟨?_,p,Z_.out,U⟩)⟩,MM.out⟩;rw[hsm.out]
 ·have t9:(jd !=0)=EI:=by simpa using hjd
  have z0:=S1.out.Iy;have kh:w4.cell? ⟨gc,96,Z⟩=X (E I sm):=by rw[hsm.out];exact S1.out.core.cell 7 rfl 0 Ej
  go_wp2_with fail;refine(Zl lo hi g gc gq gt gs _ ns rs 7 0 sm jd 0 _ S1.out JK).mono ?_;rintro e7 w7 ⟨rfl,s7,m7⟩;have S8:=J s7;replace MM:=J<|MM.out.trans m7;clear s7 m7 z0 kh;go_wp2_with fail;refine EV (UC U _ _ _) U ?_;refine⟨U,⟨_,0,_,D,S8.out,.inl ⟨c.q,jd,U,?_⟩⟩,MM.out⟩;rw[hsm.out]
def my(c c':EF)(new:List Rec):Prop:= ∃(a b:Int) (T1:ET),(c'={c with samples:=a,beyond:=b,T:=T1}/\new=[])\/Az {c with samples:=a,beyond:=b,T:=T1} c' new
theorem EF.ok.Gw(h:c.ok)(hx:0<=x/\x<=4294967295):({c with samples:=x}:EF).ok:=⟨h.tok,h.T,h.q,h.ones,h.src,h.nd,hx,h.iB,h.mode,h.En,h.pt,h.Iq⟩
theorem EF.ok.uV(h:c.ok)(hx:0<=x/\x<=1000):({c with beyond:=x}:EF).ok:=⟨h.tok,h.T,h.q,h.ones,h.src,h.nd,h.gh,hx,h.mode,h.En,h.pt,h.Iq⟩
theorem AA:IF Ea 46 6:=⟨⟨_,Tryz.underlying46,U⟩,Ef⟩
theorem Tw{n m:Int}(h0:0<=n/\n<=m):0<=sat n m/\sat n m<=m:=by unfold sat;split<;>omega
theorem Edc(lo hi:Nat)(g:Nat->G)(gc gq gt gs:Nat)(c:EF)(ns:Nat)(rs:List Rec)(va gv:Bool)(x0 x1 x2 x3:Int)(w:M)(S:E4 lo hi g gc gq gt gs c ns rs w)(hx:I4 x0/\I4 x1/\I4 x2/\I4 x3)(hn:ns<800000)(hl:rs.length<800000): Eg Ea 72 #[Y (X ⟨gs,0,Z⟩),EZ #[EU va,E I x0,E I x1,E I x2,E I x3,EU gv]] w fun e w'=>e=Eh (Es #[])/\(∃c' m new,m<=3/\E4 lo hi g gc gq gt gs c' (ns+m) (rs++new) w'/\my c c' new)/\Ex lo hi w w':=by
 obtain⟨ms,hms,HU⟩:=S.core.XQ.fit 46 D D;obtain⟨mb,hmb,Tx⟩:=S.core.XQ.fit 47 D D;have Ha:1<=(ms:Int)/\(ms:Int)<=1000:=by have h1:=HU.1;have h2:=HU.2.1;unfold qx at h1;unfold bz at h2;simp at h1 h2;omega
 have Ty:0<=(mb:Int)/\(mb:Int)<=32767:=by have h2:=Tx.2.1;unfold bz at h2;simp at h2;omega
 have CSE:=J<|fun(r:Int) (hr:0<=r/\r<=1000) W=>EdE g ms mb hms hmb Ha Ty r hr va gv x0 x1 x2 x3 W;have Tz:=J Ha;have S0:=J S;have HN:=J hn;have HL:=J hl;have HX:=J hx;have KS:=J<|H.new w #[EU va,E I x0,E I x1,E I x2,E I x3,EU gv] 46;have b1:=Er w (Ec #[EU va,E I x0,E I x1,E I x2,E I x3,EU gv] 46);have S1:=J<|S0.out.u b1;have MM:=J<|Ex.EC (lo:=lo) (hi:=hi) b1;clear S hn hl hx S0 hms hmb HU Tx Ha Ty;have c0:(w.alloc (Ec #[EU va,E I x0,E I x1,E I x2,E I x3,EU gv] 46)).cell? ⟨w.heap.size,0,Z⟩=X (EU va):=(H.cell KS.out 0).trans U;go_enter Tryz.func72,Tryz.ntmps72;cases va with
 |false=> have z0:=S1.out.Iy;have zm:(w.alloc (Ec #[EU V,E I x0,E I x1,E I x2,E I x3,EU gv] 46)).cell? ⟨gc,97,Z⟩=X (E I c.beyond):=S1.out.core.cell 8 rfl 0 Ej;have zf:=rz S1.out.core 97;go_wp2_with fail;refine EV (UC U _ _ _) U ?_;have S4:=S1.out.uV 0 (S1.out.core.ok.uV D);exact⟨U,⟨_,0,[],D,by rw[fX];exact S4.1,c.samples,0,c.T,.inl ⟨U,U⟩⟩,MM.out.trans S4.2⟩
 |true=>
  go_wp2_with fail;clear b1;generalize w.alloc (Ec #[EU EI,E I x0,E I x1,E I x2,E I x3,EU gv] 46)=w1 at*;obtain⟨gb,hgb⟩:=Eo w.heap.size;rw[<-hgb] at KS⊢;clear hgb;clear c0;have TD:=J<|Tw S1.out.core.ok.gh;have HS0:=S1.out.core.ok.gh;have y0: ∀y:Ext w1,(EA w1 y).cell? ⟨gs,0,Z⟩=X (Y (X ⟨gc,0,Z⟩)):=fun y=>(S1.out.u (EL y)).Iy;have y96: ∀y:Ext w1,(EA w1 y).cell? ⟨gc,96,Z⟩=X (E I c.samples):=fun y=>(S1.out.u (EL y)).core.cell 7 rfl 0 Ej;refine J_ 14 Ef Ef ?_;simp only[Is,Io,IS,IM];repeat (go_big_quiet_step (with_reducible refine Xp (sF c.samples 4294967295 _ D D)))
  refine I2 ?_;intro _ hw';obtain⟨y9,rfl⟩:=hw';have En:=EL y9;replace KS:=EP KS En;replace S1:=J<|S1.out.u En;replace MM:=J<|MM.out.trans (Ex.EC En);clear y0 y96 En HS0;generalize EA w1 y9=w2 at*;have zm:w2.cell? ⟨gc,96,Z⟩=X (E I c.samples):=S1.out.core.cell 7 rfl 0 Ej;have zf:=rz S1.out.core 96;obtain⟨sn,hsn⟩:=Eo (sat c.samples 4294967295);rw[<-hsn] at TD⊢;clear hsn;have SS:=S1.out.Gw sn (S1.out.core.ok.Gw TD.out);obtain⟨d0,d1,d2,hd,vl,-⟩:=S1.out.core.El;have rS:Ed (H (w2.setCell ⟨gc,96,Z⟩ (E I sn)) gb #[EU EI,E I x0,E I x1,E I x2,E I x3,EU gv] 46):=J<|(JS (g:=gc) (W:=w2) 96 (E I sn)).El KS.out (E7 KS.out vl Eb);have S2:Ed (E4 lo hi g gc gq gt gs {c with samples:=sn} ns rs (w2.setCell ⟨gc,96,Z⟩ (E I sn))):=J SS.1;have M2:Ed (Ex lo hi w (w2.setCell ⟨gc,96,Z⟩ (E I sn))):=J<|MM.out.trans SS.2;have z0:=S2.out.Iy;have UH:(w2.setCell ⟨gc,96,Z⟩ (E I sn)).cell? ⟨gc,95,Z⟩=X (Y (X ⟨gt,0,Z⟩)):=S2.out.core.cell 6 rfl 0 Ej;clear SS vl KS S1 MM;go_wp2_with fail;clear zm zf;generalize w2.setCell ⟨gc,96,Z⟩ (E I sn)=w3 at*;refine(EJs gt c.T _ S2.out.core.tab S2.out.core.ok.T).mono ?_;rintro e4 w4 ⟨rfl,kt,ot⟩;have hok:({c.T with Zv:=true,sa:=0,sm:=max c.T.Iq 0}:ET).ok:=⟨S2.out.core.ok.T.s0,S2.out.core.ok.T.s1,S2.out.core.ok.T.s2⟩;have Hb:({c.T with Zv:=true,sa:=0,sm:=max c.T.Iq 0}:ET).U4:=⟨S2.out.core.ok.Iq.Iq,(TM.start S2.out.core.ok.Iq:TM 0 (max c.T.Iq 0)),fun i=>match i with|0=>S2.out.core.ok.Iq.E5 0|1=>S2.out.core.ok.Iq.E5 1|_+2=>S2.out.core.ok.Iq.E5 2⟩;obtain⟨T1,hT1⟩:=Eo ({c.T with Zv:=true,sa:=0,sm:=max c.T.Iq 0}:ET);rw[<-hT1] at kt hok Hb;have hS:=S2.out.vJ ot T1 kt (S2.out.core.ok.vI hok Hb);have KS:=J<|ot.El rS.out (E7 rS.out S2.out.core.tab Eb);have S1:=J hS.1;have MM:=J<|M2.out.trans hS.2;clear kt ot hok Hb hT1 hS z0 UH rS S2 M2;go_wp2_with fail;obtain⟨d0,d1,d2,hd,KG,o0,o1,o2,-,-⟩:=S1.out.core.El;have U_:=J<|Oj (c:={c with samples:=sn,T:=T1}) (gq:=gq) (gt:=gt) (hd:=hd) (Jw g) o0 o1 o2 0 D;have KG:=J KG;have PL:=J<|Jw g;have UT:Ed ((EN 56 g).toList.toArray=EN 56 g):=J Ej;clear o0 o1 o2;have y0: ∀y:Ext w4,(EA w4 y).cell? ⟨gs,0,Z⟩=X (Y (X ⟨gc,0,Z⟩)):=fun y=>(S1.out.u (EL y)).Iy;have y97: ∀y:Ext w4,(EA w4 y).cell? ⟨gc,97,Z⟩=X (E I c.beyond):=fun y=>(S1.out.u (EL y)).core.cell 8 rfl 0 Ej;have rT:=J S1.out.core.ok.iB;refine Zs Ef Ef ?_
  repeat (first
   |go_big_quiet_skip
   |(go_big_quiet_want
     first
      |(refine X7 (T:=28) (g:=gc) (off:=0) Up _ rfl rfl KG 0 rfl U_.out PL.out ?_;(try rw[UT.out]);go_simp;go_big_quiet_on)
      |(refine Og (T:=46) (g:=gb) AA _ rfl rfl KS ?_ ?_;(·rfl);go_simp;go_big_quiet_on)
      |(go_big_quiet_op
        first
         |go_big_quiet_on
         |go_big_quiet_call (with_reducible refine IY (CSE.out c.beyond rT.out _)))))
  refine I2 ?_;intro _ hw';obtain⟨y9,rfl⟩:=hw';have En:=EL y9;replace KS:=EP KS En;replace S1:=J<|S1.out.u En;replace MM:=J<|MM.out.trans (Ex.EC En);clear y0 y97 En KG U_ PL UT;generalize EA w4 y9=w5 at*;have HR2:=J<|Ec9 (mb:=(mb:Int)) Tz.out rT.out EI x0 x1 x2 x3;obtain⟨rn,hrn⟩:=Eo ((mx (ms:Int) mb c.beyond EI x0 x1 x2 x3).1);obtain⟨ov,hov⟩:=Eo ((mx (ms:Int) mb c.beyond EI x0 x1 x2 x3).2);rw[<-hrn] at HR2⊢;rw[<-hov];clear hrn hov CSE Tz rT;have zm:w5.cell? ⟨gc,97,Z⟩=X (E I c.beyond):=S1.out.core.cell 8 rfl 0 Ej;have zf:=rz S1.out.core 97;have z0:=S1.out.Iy;have SS:=S1.out.uV rn (S1.out.core.ok.uV HR2.out);obtain⟨d0,d1,d2,hd,vl,-⟩:=S1.out.core.El;have rS:Ed (H (w5.setCell ⟨gc,97,Z⟩ (E I rn)) gb #[EU EI,E I x0,E I x1,E I x2,E I x3,EU gv] 46):=J<|(JS (g:=gc) (W:=w5) 97 (E I rn)).El KS.out (E7 KS.out vl Eb);have S2:Ed (E4 lo hi g gc gq gt gs {c with samples:=sn,T:=T1,beyond:=rn} ns rs (w5.setCell ⟨gc,97,Z⟩ (E I rn))):=J SS.1;have M2:Ed (Ex lo hi w (w5.setCell ⟨gc,97,Z⟩ (E I rn))):=J<|MM.out.trans SS.2;obtain⟨hh,iW⟩:=Eo c.tok.h;have y0:=S2.out.Iy;have Ay:(w5.setCell ⟨gc,97,Z⟩ (E I rn)).cell? ⟨gc,56,Z⟩=X (E I hh):=by rw[iW];exact S2.out.core.cell 1 rfl 0 Xx
  have y5:(w5.setCell ⟨gc,97,Z⟩ (E I rn)).cell? ⟨gb,5,Z⟩=X (EU gv):=(H.cell rS.out 5).trans U;clear SS vl KS S1 MM iW;by_cases h0:hh=0
  ·have t0:(hh==0)=EI:=rV;clear h0;cases gv with
   |true=> go_wp2_with fail;generalize w5.setCell ⟨gc,97,Z⟩ (E I rn)=w6 at*;have MM:=M2;refine(EdO lo hi g gc gq gt gs _ ns rs _ S2.out HN.out HL.out).mono ?_;rintro e9 w9 ⟨rfl,⟨c',m,new,h1,s9,h9⟩,m9⟩;have S8:=J s9;replace MM:=J<|MM.out.trans m9;clear s9 m9;go_wp2;go_end0;exact⟨U,⟨c',m,new,h1,S8.out,_,_,_,.inr h9⟩,MM.out⟩
   |false=> go_wp2_with (with_reducible refine wL AA rS ?_);generalize w5.setCell ⟨gc,97,Z⟩ (E I rn)=w6 at*;have MM:=M2;refine(Eda lo hi g gc gq gt gs _ ns rs EI V x0 x1 x2 x3 _ S2.out HX.out HN.out HL.out).mono ?_;rintro e9 w9 ⟨rfl,⟨c',m,new,h1,s9,h9⟩,m9⟩;have S8:=J s9;replace MM:=J<|MM.out.trans m9;clear s9 m9;go_wp2;go_end0;exact⟨U,⟨c',m,new,h1,S8.out,_,_,_,.inr h9⟩,MM.out⟩
  ·have t0:(hh==0)=V:=rV;clear h0;cases ov with
   |true=> go_wp2_with fail;generalize w5.setCell ⟨gc,97,Z⟩ (E I rn)=w6 at*;have MM:=M2;refine(EdU lo hi g gc gq gt gs _ ns rs _ S2.out HN.out HL.out).mono ?_;rintro e9 w9 ⟨rfl,⟨c',m,new,h1,s9,h9⟩,m9⟩;have S8:=J s9;replace MM:=J<|MM.out.trans m9;clear s9 m9;go_wp2;go_end0;exact⟨U,⟨c',m,new,h1,S8.out,_,_,_,.inr h9⟩,MM.out⟩
   |false=> go_wp2;go_end0;exact⟨U,⟨_,0,[],D,by rw[fX];exact S2.out,_,_,_,.inl ⟨U,U⟩⟩,M2.out⟩
theorem Hc:(⟨2,4,0⟩:Xh).ok:=⟨mg,mg,mg⟩
theorem Edg:(⟨3,4,0⟩:Xh).ok:=⟨mg,mg,mg⟩
theorem Hd(a b:Int):Tryz.prog.built 36 [(0,E I a),(1,E I b)]=X #[E I a,E I b,E I 0]:=Ef
def vm(c c':EF)(new:List Rec):Prop:=
 (∃L' a m,(c.tok.mU a m).ok/\c'={c with tok:=c.tok.mU a m,q:=L'}/\new=[])
 \/(∃L' t2 how md b,t2.ok/\t2.o= -1/\c.tok.e<=t2.e/\0<=md/\md<=4/\(b=⟨2,4,0⟩\/b=⟨3,4,0⟩)/\c'={c with tok:=t2,q:=L',mode:=md,En:=b,pt:=c.pt.hold b}/\new=[⟨8,t2.h,0,t2.e,0,how⟩])
theorem TF(h:t.ok):t.bh.ok/\t.bh.o= -1/\t.e<=t.bh.e:=by
 have he:=h.e;unfold EM.bh;refine⟨Gz h ⟨Eb,Eb⟩ ?_,U,?_⟩
 ·split;·exact Tw he
  ·exact he
 ·show t.e<=(if t.h≠4 then sat t.e 65535 else t.e);split;·unfold sat;split<;>omega
  ·exact X6 _
theorem Edh{how:Int}(ht:t.ok)(h:oS t t2 how):(how=0/\ ∃a m,t2=t.mU a m/\(t.mU a m).ok)\/((how=6\/how=5)/\t2.ok/\t2.o= -1/\t.e<=t2.e):=by
 rcases h with⟨rfl,a,m,h1,h2,h3,h4,rfl⟩|⟨rfl,-,-,rfl⟩|⟨rfl,-,h3,s,h4,h5,-,rfl⟩;·exact .inl ⟨U,a,m,U,⟨ht.h,ht.e,ht.o,ht.oa,ht.om,⟨h1,h2⟩,⟨h3,h4⟩,ht.off⟩⟩
 ·exact .inr ⟨.inl U,TF ht⟩
 ·exact .inr ⟨.inr U,Gz ht ⟨h4,D⟩ ⟨by have:=ht.e;omega,D⟩,U,by show t.e<=t.e+1;omega⟩
theorem vn(w:M):Eg Ea 44 #[] w fun e w'=>e=Eh (EZ #[E I 2,E I 4,E I 0])/\Ek w w':=by have BL:=J<|Hd 2 4;have K0:=J<|H.new w #[E I 0,E I 0,E I 0] 36;have b2:=Er w (Ec #[E I 0,E I 0,E I 0] 36);go_enter Tryz.func44,Tryz.ntmps44;go_wp2_with (first|((with_reducible refine It 1 ?_);refine JO rfl 36 _ rfl #[E I 2,E I 4,E I 0] BL.out ?_)|(with_reducible refine wA G_ ?_)|(with_reducible refine wS (cs:= #[E I 2,E I 4,E I 0]) dD K0 ?_ (h1:=UP)));refine EV (JB dD U _ _ w.heap.size _ U (K0.out.setRow #[E I 2,E I 4,E I 0]) U) U ⟨U,E6 (g:=w.heap.size) b2 (E9 _) _⟩
theorem TQ(lo hi:Nat)(g:Nat->G)(gc gq gt gs:Nat)(c:EF)(ns:Nat)(rs:List Rec)(w:M)(S:E4 lo hi g gc gq gt gs c ns rs w)(hn:ns<800000)(hl:rs.length<800000): Eg Ea 106 #[Y (X ⟨gs,0,Z⟩)] w fun e w'=>e=Eh (Es #[])/\(∃c' m new,m<=3/\E4 lo hi g gc gq gt gs c' (ns+m) (rs++new) w'/\vm c c' new)/\Ex lo hi w w':=by
 obtain⟨pl,hpl,uH⟩:=S.core.XQ.fit 43 D D;have TR:0<=(pl:Int)/\(pl:Int)<=1000:=by have h2:=uH.2.1;unfold bz at h2;simp at h2;omega
 obtain⟨th,hth⟩:=Eo (c.T.Zf c.tok.h);have Zq:=fun W q=>Ebr lo gq c.q (pn g 48) g pl hpl TR c.tok S.core.ok.tok th W S.core.lq q S.core.ok.q;obtain⟨md,hmd,AB⟩:=S.core.XQ.fit 40 D D;have vo:Ed (0<=(md:Int)/\(md:Int)<=4):=J TV;have rR:Ed (∀c ns rs W,E4 lo hi g gc gq gt gs c ns rs W->W.cell? ⟨gc,40,Z⟩=X (E I (md:Int))):=J (fun c ns rs W s=>by have h:W.cell? ⟨gc,40,Z⟩=(EN 56 g).toList[40]?:=s.core.cell 0 rfl 40 Ej;rw[h,show(EN 56 g).toList[40]?=X (g 40) from ju,hmd]);clear hmd AB;obtain⟨ml,hml,TY⟩:=S.core.XQ.fit 41 D D;have Hf:Ed (0<=(ml:Int)/\(ml:Int)<=4):=J (by have h2:=TY.2.1;unfold bz at h2;simp at h2;omega);have cS:Ed (∀c ns rs W,E4 lo hi g gc gq gt gs c ns rs W->W.cell? ⟨gc,41,Z⟩=X (E I (ml:Int))):=J (fun c ns rs W s=>by have h:W.cell? ⟨gc,41,Z⟩=(EN 56 g).toList[41]?:=s.core.cell 0 rfl 41 Ej;rw[h,show(EN 56 g).toList[41]?=X (g 41) from ju,hml]);clear hml TY;obtain⟨Im,Ug,U8,XV⟩: ∃Im,c.tok.a=EZ Im/\Ed (Im.size=8)/\Ed (c.tok.v.toArray=Im):=⟨_,U,J U,J U⟩;obtain⟨pv,hpv,vU,GG⟩: ∃pv,EN 56 g=pv/\Ed (pv.size=56)/\Ed ((EN 56 g).toList.toArray=pv):=⟨_,U,J ju,J Ej⟩;have rW:=vo;have S1:=J S;have HN:=J hn;have HL:=J hl;have MM:=J<|Ex.refl lo hi w;have HTH:=J hth;clear S hn hl hpl uH TR hth vo;have CA:Ed (∀W,Jk W lo gq c.q (pn g 48)->Eg Ea 151 #[EZ pv,EZ Im,Y (X ⟨gq,0,Z⟩),EU th] W _):=J (fun W q=>Sn);obtain⟨PQ,hPQ⟩: ∃PQ:Array G->Int->Prop,PQ=fun rv how=> ∃t2:EM,t2.a=EZ rv/\rv.size=8/\rv.all (·.oneCell')=EI/\oS c.tok t2 how:=⟨_,U⟩;have pI:Ed (∀(t2:EM) (rv:Array G) (how:Int),t2.a=EZ rv->rv.size=8->rv.all (·.oneCell')=EI->oS c.tok t2 how->PQ rv how):=J (fun t2 rv how h1 h2 h3 h4=>Ac);have pJ:Ed (∀rv how,PQ rv how->rv.size=8/\rv.all (·.oneCell')=EI):=J (fun rv how h=>Ad);replace hPQ:=J hPQ;clear Zq Ug hpv;go_enter Tryz.func106,Tryz.ntmps106;go_wp2_with fail;have y0: ∀y:Ext w,(EA w y).cell? ⟨gs,0,Z⟩=X (Y (X ⟨gc,0,Z⟩)):=fun y=>(S1.out.u (EL y)).Iy;have y95: ∀y:Ext w,(EA w y).cell? ⟨gc,95,Z⟩=X (Y (X ⟨gt,0,Z⟩)):=fun y=>(S1.out.u (EL y)).core.cell 6 rfl 0 Ej;have Ay: ∀y:Ext w,(EA w y).cell? ⟨gc,56,Z⟩=X (E I c.tok.h):=fun y=>(S1.out.u (EL y)).core.cell 1 rfl 0 Xx;have TB:=J S1.out.core.tab;have Ap:=J S1.out.core.ok.T;refine Zs Ef Ef ?_;repeat (go_big_quiet_step (with_reducible refine Xp (lC gt c.T c.tok.h _ (TB.out.u (EL _)) Ap.out)))
 refine I2 ?_;intro _ hw';obtain⟨y9,rfl⟩:=hw';have En:=EL y9;replace S1:=J<|S1.out.u En;replace MM:=J<|MM.out.trans (Ex.EC En);clear y0 y95 Ay En TB Ap;generalize EA w y9=w1 at*;rw[<-HTH.out];obtain⟨n0,hn0⟩:=Eo w1.heap.size;have XA:=J (show lo<=n0/\hi<=n0/\w.heap.size<=n0 from ma);go_wp2_with fail;refine gD (Ph:=fun p wq=>n0<=wq.heap.size/\(match p with|0=>(E4 lo hi g gc gq gt gs c ns rs wq/\Ex lo hi w wq)|_=>(∃L':List One,E4 lo hi g gc gq gt gs {c with q:=L'} ns rs wq/\Ex lo hi w wq))) (Rel:=Jn) (In:=j7) [kp gs 0,kp gs 0,kp gs 0,kp gc 0,kp gc 0,kp gc 0,kq (EZ pv),kp gs 0,kp gs 0,kp gs 0,kp gc 0,kp gc 0,kp gc 56,kq (EZ Im),kp gs 0,kp gs 0,kp gs 0,kp gc 0,kp gc 0,kp gc 64,kp gq 0,kq (EU th),.val (fun v=> ∃(rv:Array G) (how:Int),PQ rv how/\v=Es #[EZ rv,E I how]),.val (fun v=> ∃(rv:Array G) (how:Int),PQ rv how/\v=Es #[EZ rv,E I how]),.aW [23,24] (fun x=> ∃(rv:Array G) (how:Int),PQ rv how/\x 23=Es #[EZ rv,E I how]/\x 24=EZ rv) (fun x y hq h=>by simpa only[hq 23 Ej,hq 24 Ej] using h),.aW [23,25] (fun x=> ∃(rv:Array G) (how:Int),PQ rv how/\x 23=Es #[EZ rv,E I how]/\x 25=E I how) (fun x y hq h=>by simpa only[hq 23 Ej,hq 25 Ej] using h),.dep (ZV n0) (fun v w w' h hr=>h.u hr) (fun v w w' h hr=>h.gF hr),.tie [26,24] (fun x w=> ∃(b:Nat) (rv:Array G),x 26=Y (X ⟨b,0,Z⟩)/\x 24=EZ rv/\n0<=b/\H w b rv 109) (fun x w w' h hr=>Af) (fun x y w hq h=>by rw[hq 26 Ej,hq 24 Ej] at h;exact h),.aW [25,28] (fun x=>x 28=x 25) (fun x y hq h=>by simpa only[hq 25 Ej,hq 28 Ej] using h)] [V,V,V,V,V,V,V,V,V,V,V,V,V,V,V,V,V,V,V,V,V,V,V,V,V,V,V,EI,V] U [[],[],[],[],[],[],[],[],[],[],[],[],[],[],[],[],[],[],[],[],[],[],[],[],[23,24],[23,25],[],[26,24],[25,28]] U [22,27] [(0,0),(0,0),(0,0),(0,0),(0,0),(0,0),(0,0),(0,0),(0,0),(0,0),(0,0),(0,0),(0,0),(0,0),(0,0),(0,0),(0,0),(0,0),(0,0),(0,0),(0,0),(0,0),(0,0),(1,1),(1,1),(1,2),(0,1),(1,1),(2,2)] Ef Ef Ef Ef Ef Ef O0 Ef ?hPh ?h0 ?hstep ?hend
 case hPh=>
  intro p w2 w3 h hr;match p,h with
  |0,h=>exact⟨EB h.1 (UQ hr),h.2.1.u hr,h.2.2.trans (Ex.EC hr)⟩
  |_+1,h=> obtain⟨nn,L',s,m⟩:=h;exact⟨EB nn (UQ hr),L',s.u hr,m.trans (Ex.EC hr)⟩
 case h0=> exact Em8
 case hstep=>
  refine⟨?_,?_,?_,?_,?_,?_,?_,?_,?_,?_,?_,?_,?_,?_,?_,?_,?_,?_,?_,?_,?_,?_,?_,?_,?_,?_,?_,?_,?_,trivial⟩;all_goals first|intro xv wq p hlo hhi hp hd|intro xv wq hp hd
  all_goals simp only[ED,Ic,Ii,IJ,IU]
  ·exact Ej_
  ·exact Eki
  ·exact Ekh
  ·exact EkI
  ·exact Ekg
  ·exact Ekw
  ·exact Elo
  ·exact Ej_
  ·exact EkY
  ·exact EkW
  ·exact Ekx
  ·exact EkR
  ·exact EkQ
  ·exact ElZ
  ·exact Ej_
  ·exact Em3
  ·exact Em2
  ·exact ElN
  ·exact ElH
  ·exact Em1
  ·exact Elv
  ·exact Ej_
  ·have d6:xv 6=EZ pv:=hd.at 6 rfl;have d13:xv 13=EZ Im:=hd.at 13 rfl;have d20:xv 20=Y (X ⟨gq,0,Z⟩):=hd.at 20 rfl;have d21:xv 21=EU th:=hd.at 21 rfl;refine JE (f:=151) (args:= #[xv 6,xv 13,xv 20,xv 21]) (Ei U) Ew ?_;rw[d6,d13,d20,d21];refine(CA.out wq hp.2.1.core.ZC).mono fun e w2 h=> ?_;obtain⟨⟨t2,how,L2,he,hf,sq,q2⟩,m2⟩:=h;obtain⟨rv,IG,hs,ho⟩:=Zo t2;exact⟨_,he,⟨m2.gF,EB hp.1 m2.bel.size,L2,hp.2.1.fp m2 L2 q2 (hp.2.1.core.ok.sub sq),hp.2.2.trans (m2.iK hi)⟩,rv,how,pI.out t2 rv how IG hs ho hf,congrArg (fun v=>Value.tuple #[v,E I how]) IG⟩
  ·obtain rfl:p=1:=D;obtain⟨rv,how,hpq,e22⟩: ∃(rv:Array G) (how:Int),PQ rv how/\xv 22=Es #[EZ rv,E I how]:=hd.at 22 rfl;exact Ep (by simp[go_sem,e22]) ⟨rv,how,hpq,U⟩
  ·obtain rfl:p=1:=D;exact ElB
  ·exact ElB
  ·exact ElJ
  ·obtain⟨b,d0,eA,lb,h8,kb⟩:ZV n0 (xv 26) wq:=hd.at 26 rfl;have nh:=XA.out;obtain⟨rv,how,hpq,-,e24⟩: ∃(rv:Array G) (how:Int),PQ rv how/\xv 23=Es #[EZ rv,E I how]/\xv 24=EZ rv:=hd.at 24 rfl;have hsz:=pJ.out _ _ hpq;obtain⟨nn,L',s,m⟩:=hp;refine cO ER (Ei U) ⟨U,eA,e24⟩ kb h8 hsz.1 hsz.2 ⟨rB kb hsz.1,?_⟩ ⟨b,rv,eA,e24,lb,kb.setRow _⟩;exact EnF
  ·obtain rfl:p=2:=D;obtain⟨rv,how,hpq,-,e25⟩: ∃(rv:Array G) (how:Int),PQ rv how/\xv 23=Es #[EZ rv,E I how]/\xv 25=E I how:=hd.at 25 rfl;exact Ep Ak (e25.symm)
 case hend=>
  intro xv W6 hp hd;clear S1 MM;simp only[ED,Ic,Ii,IJ,IU];obtain⟨rv,how,hpq,eM,e24⟩: ∃(rv:Array G) (how:Int),PQ rv how/\xv 23=Es #[EZ rv,E I how]/\xv 24=EZ rv:=hd 24 Eb;obtain⟨b,gG,eA,eE,lb,kb⟩: ∃(b:Nat) (rv:Array G),xv 26=Y (X ⟨b,0,Z⟩)/\xv 24=EZ rv/\n0<=b/\H W6 b rv 109:=hd 27 Eb;have pO:gG=rv:=by rw[eE] at e24;injection e24
  subst pO;have a28:xv 28=E I how:=by have h1:xv 28=xv 25:=hd 28 Eb;obtain⟨Ai,Ei8,-,f1,f2⟩: ∃(rv:Array G) (how:Int),PQ rv how/\xv 23=Es #[EZ rv,E I how]/\xv 25=E I how:=hd 25 Eb;exact ElQ
  obtain⟨-,L',s6,m6⟩:=hp;have S1:=J s6;have MM:=J m6;have KB:=J kb;rw[eA,a28];rw[hPQ.out] at hpq;obtain⟨t2,IG,hs,ho,hf⟩:=hpq;have Uf:=J IG;have RS:=J hs;have RO:=J ho;have ZR:Ed (gG.toList=t2.v):=J Hg;have hcs:=Edh S1.out.core.ok.tok hf;clear s6 m6 kb hd eA a28 CA IG hs ho hf eM eE;rcases hcs with⟨rfl,a,m,ht2,hok2⟩|⟨Edj,hok2⟩
  ·have HT2:=J ht2;have Edk:Ed t2.ok:=J (by rw[ht2];exact hok2);have Edl:=J hok2;clear ht2 hok2;go_wp2_with fail;have y0: ∀y:Ext W6,(EA W6 y).cell? ⟨gs,0,Z⟩=X (Y (X ⟨gc,0,Z⟩)):=fun y=>(S1.out.u (EL y)).Iy;refine J_ 7 Ef Ef ?_;simp only[Is,Io,IS,IM]
   repeat (first
    |go_big_quiet_skip
    |(go_big_quiet_want
      first
       |(refine Og (T:=109) (g:=b) ER _ rfl rfl KB ?_ ?_;(·exact RS.out);go_simp;go_big_quiet_on)
       |(go_big_quiet_op
         first
          |go_big_quiet_on
          |go_big_quiet_call (fail))))
   refine I2 ?_;intro _ hw';obtain⟨y9,rfl⟩:=hw';have En:=EL y9;replace KB:=EP KB En;replace S1:=J<|S1.out.u En;replace MM:=J<|MM.out.trans (Ex.EC En);clear y0 En;generalize EA W6 y9=w9 at*;have TH:=J<|bS S1.out.core 1 rfl 8 Xx;go_wp2_with ((with_reducible refine Jr 109 ?_);(with_reducible refine Um U 109 _ _ U gc 56 gG ?_ ?_ ?_ ?_ ?_ ?_);(·rfl);(·rfl);(·rw[RS.out];exact TH.out);(·rw[RS.out];exact ER.2);(·exact RO.out);refine Ey.mk ?_);apply Et;rw[ZR.out];have S4:=S1.out.ac t2 (S1.out.core.ok.ac Edk.out);obtain⟨d0,d1,d2,hd,KG,-⟩:=S1.out.core.El;replace KB:=J<|(JG (g:=gc) t2.v 56 w9).El KB.out (E7 KB.out KG Eb);replace S1:=J S4.1;replace MM:=J<|MM.out.trans S4.2;clear S4 TH KG;generalize w9.setCells gc 56 t2.v=U0 at*;go_wp2_with fail;refine EV (UC U _ _ _) U ?_;refine⟨U,⟨_,0,D,[],rY,.inl ⟨L',a,m,Edl.out,?_,U⟩⟩,MM.out⟩;rw[HT2.out]
  ·have HT2:=J hok2;clear hok2;rcases Edj with rfl|rfl
   ·go_wp2_with (with_reducible refine wL ER KB ?_ (hn:=RS.out));rw[<-Uf.out];refine(mX lo hi g gc gq gt gs _ ns rs t2 6 0 _ S1.out HT2.out.1 J2 JK).mono ?_;rintro e7 w7 ⟨rfl,⟨L2,m7,Xv,sq,s7⟩,U9⟩;replace S1:=J s7;replace MM:=J<|MM.out.trans U9;have mc:=J Xv;clear s7 U9 sq Xv KB;go_wp2_with fail;have y0: ∀y:Ext w7,(EA w7 y).cell? ⟨gs,0,Z⟩=X (Y (X ⟨gc,0,Z⟩)):=fun y=>(S1.out.u (EL y)).Iy;have r_: ∀y:Ext w7,(EA w7 y).cell? ⟨gc,40,Z⟩=X (E I (md:Int)):=fun y=>rR.out _ _ _ _ (S1.out.u (EL y));refine J_ 10 Ef Ef ?_;simp only[Is,Io,IS,IM];repeat (go_big_quiet_step (with_reducible refine IY (vn _)))
    refine I2 ?_;intro _ hw';obtain⟨y9,rfl⟩:=hw';have En:=EL y9;replace S1:=J<|S1.out.u En;replace MM:=J<|MM.out.trans (Ex.EC En);clear y0 r_ En;generalize EA w7 y9=gQ at*;go_wp2_with fail;refine(AX lo hi g gc gq gt gs _ _ _ md ⟨2,4,0⟩ _ S1.out rW.out Hc).mono ?_;rintro e21 iY ⟨rfl,gR,m21⟩;have S8:=J gR;replace MM:=J<|MM.out.trans m21;clear gR m21;go_wp2;go_end0;exact⟨U,⟨_,m7,_,pE,S8.out,.inr ⟨L2,t2,6,md,_,HT2.out.1,HT2.out.2.1,HT2.out.2.2,rW.out.1,rW.out.2,.inl U,U,U⟩⟩,MM.out⟩
   ·go_wp2_with (with_reducible refine wL ER KB ?_ (hn:=RS.out));rw[<-Uf.out];refine(mX lo hi g gc gq gt gs _ ns rs t2 5 0 _ S1.out HT2.out.1 J2 JK).mono ?_;rintro e7 w7 ⟨rfl,⟨L2,m7,Xv,sq,s7⟩,U9⟩;replace S1:=J s7;replace MM:=J<|MM.out.trans U9;have mc:=J Xv;clear s7 U9 sq Xv KB;have z0:=S1.out.Iy;have z41:=cS.out _ _ _ _ S1.out;have BL:=J<|Hd 3 4;go_wp2_with ((with_reducible refine It 71 ?_);refine JO U 36 _ U #[E I 3,E I 4,E I 0] BL.out ?_);refine(AX lo hi g gc gq gt gs _ _ _ ml ⟨3,4,0⟩ _ S1.out Hf.out Edg).mono ?_;rintro e21 iY ⟨rfl,gR,m21⟩;have S8:=J gR;replace MM:=J<|MM.out.trans m21;clear gR m21;go_wp2;go_end0;exact⟨U,⟨_,m7,_,pE,S8.out,.inr ⟨L2,t2,5,ml,_,HT2.out.1,HT2.out.2.1,HT2.out.2.2,Hf.out.1,Hf.out.2,.inr U,U,U⟩⟩,MM.out⟩
def EM.v7(t:EM):List G:=[E I t.h,E I t.e,E I t.o,E I t.oa,E I t.om,E I t.la,E I t.lm]
theorem E4.Edm{hi:Nat}{ns:Nat}{rs:List Rec}(S:E4 lo hi g gc gq gt gs c ns rs W)(b:Bool):E4 lo hi g gc gq gt gs {c with tok:={c.tok with bad:=b}} ns rs (W.setCell ⟨gc,63,Z⟩ (EU b))/\Ex lo hi W (W.setCell ⟨gc,63,Z⟩ (EU b)):=
 S.set (JS _ _) U U (S.core.ok.ac ⟨S.core.ok.tok.h,S.core.ok.tok.e,S.core.ok.tok.o,S.core.ok.tok.oa,S.core.ok.tok.om,S.core.ok.tok.la,S.core.ok.tok.lm,S.core.ok.tok.off⟩) fun d0 d1 d2 hd K o0 o1 o2=>by
  have hl: ∀x:Bool,(aX (EN 56 g).toList {c with tok:={c.tok with bad:=x}} gq gt d0 d1 d2 hd).flatten=((EN 56 g).toList++c.tok.v7)++([EU x]++(aX (EN 56 g).toList c gq gt d0 d1 d2 hd).tail.tail.flatten):=fun x=>by simp[aX,EM.v,EM.v7]
  have K2:H W gc (((EN 56 g).toList++c.tok.v7)++([EU c.tok.bad]++(aX (EN 56 g).toList c gq gt d0 d1 d2 hd).tail.tail.flatten)).toArray 120:=by rw[<-hl];exact K
  have K3:=ZZ (post:=(aX (EN 56 g).toList c gq gt d0 d1 d2 hd).tail.tail.flatten) [EU b] [EU c.tok.bad] ((EN 56 g).toList++c.tok.v7) 63 W K2 U (by rw[I1,Jw];rfl);rw[<-hl] at K3;exact K3
theorem vp{c:Nat}{L:List One}{x:One}(h:w.ownsRow base 133 4 (EJ A n c) n (UF L))(hx:L[i]?=X x)(hn:L.length=n): ∃(g:Nat) (cur:Array G),A=X ⟨g,0,Z⟩/\H w g cur 133/\cur.extract (i*4) (i*4+4)= #[E I x.s,E I x.r,E I x.a,E I x.m]:=by
 have hi:=(Xr.1 hx).1;obtain⟨h1,⟨-,h2⟩|⟨g,cap,cur,hv,hg,hh,hnc,hcm,hcs,ht⟩⟩:=h;·omega
 ·injection hv with e1;refine⟨g,cur,e1,hh,?_⟩;have hs:cur.toList.take (n*4)=UF L:=ht
  have hsp:UF L=UF (L.take i)++([E I x.s,E I x.r,E I x.a,E I x.m]++UF (L.drop (i+1))):=by
   conv=>lhs;rw[<-dR i L,lO hi]
   have ex:L[i]=x:=(Xr.1 hx).2;simp[UF,ex]
  have Edn:cur.toList=UF (L.take i)++([E I x.s,E I x.r,E I x.a,E I x.m]++(UF (L.drop (i+1))++cur.toList.drop (n*4))):=by
   conv=>lhs;rw[<-dR (n*4) cur.toList,hs,hsp]
   simp
  have e:=Ft (UF (L.take i)) [E I x.s,E I x.r,E I x.a,E I x.m] (UF (L.drop (i+1))++cur.toList.drop (n*4)) (i*4) 4 (by rw[Ebd,ZJ];omega) U;rw[<-Edn] at e;simpa using e
theorem i6:IF Ea 133 4:=⟨⟨_,Tryz.underlying133,U⟩,Ef⟩
theorem vq:Ow Ea 133 #[E I 0,E I 0,E I 0,E I 0]:=by exact Ekv
def mA(b:Bool)(c c':EF)(new:List Rec):Prop:=
 (b=V/\c'={c with tok:={c.tok with bad:=false}}/\new=[])
 \/(b=EI/\ ∃L' t2 md,t2.ok/\t2.o= -1/\c.tok.e<=t2.e/\c'={c with tok:=t2,q:=L',mode:=md,En:=⟨2,4,0⟩,pt:=c.pt.hold ⟨2,4,0⟩}/\((new=[]/\c.tok.h=4)\/new=[⟨8,t2.h,0,t2.e,0,6⟩]))
theorem vm.len(h:vm c c' new):new.length<=1:=by rcases h with⟨_,_,_,_,_,rfl⟩|⟨_,_,_,_,_,_,_,_,_,_,_,_,rfl⟩<;>simp
theorem Edo(lo hi:Nat)(g:Nat->G)(gc gq gt gs:Nat)(c:EF)(ns:Nat)(rs:List Rec)(bad:Bool)(w:M)(S:E4 lo hi g gc gq gt gs c ns rs w)(hn:ns<800000)(hl:rs.length<800000): Eg Ea 73 #[Y (X ⟨gs,0,Z⟩),EU bad] w fun e w'=>e=Eh (Es #[])/\(∃c' m new,m<=9/\E4 lo hi g gc gq gt gs c' (ns+m) (rs++new) w'/\mA bad c c' new)/\Ex lo hi w w':=by
 obtain⟨md,hmd,AB⟩:=S.core.XQ.fit 40 D D;have vo:Ed (0<=(md:Int)/\(md:Int)<=4):=J TV;have rR:Ed (∀c ns rs W,E4 lo hi g gc gq gt gs c ns rs W->W.cell? ⟨gc,40,Z⟩=X (E I (md:Int))):=J (fun c ns rs W s=>by have h:W.cell? ⟨gc,40,Z⟩=(EN 56 g).toList[40]?:=s.core.cell 0 rfl 40 Ej;rw[h,show(EN 56 g).toList[40]?=X (g 40) from ju,hmd]);clear hmd AB;have rW:=vo;have S1:=J S;have HN:=J hn;have HL:=J hl;have z0:=S1.out.Iy;have z63:w.cell? ⟨gc,63,Z⟩=X (EU c.tok.bad):=S1.out.core.cell 1 rfl 7 Xx;have zf:=rz S1.out.core 63;have SB:=S1.out.Edm bad;replace S1:Ed (E4 lo hi g gc gq gt gs {c with tok:={c.tok with bad:=bad}} ns rs (w.setCell ⟨gc,63,Z⟩ (EU bad))):=J SB.1;have MM:Ed (Ex lo hi w (w.setCell ⟨gc,63,Z⟩ (EU bad))):=J SB.2;have zz0:=S1.out.Iy;have Edq:(w.setCell ⟨gc,63,Z⟩ (EU bad)).cell? ⟨gc,56,Z⟩=X (E I c.tok.h):=S1.out.core.cell 1 rfl 0 Xx;obtain⟨tk,htk⟩:=Eo ({c.tok with bad:=bad}:EM);have HE:Ed (tk.e=c.tok.e/\tk.h=c.tok.h):=J (by rw[htk];exact⟨U,U⟩);rw[<-htk] at S1;have fd:=J htk;have CZ:=J<|fun W=>tX tk W (by have h:0<=tk.e/\tk.e<=65535:=S1.out.core.ok.tok.e;omega);obtain⟨Im,Ug,U8,XV⟩: ∃Im,tk.a=EZ Im/\Ed (Im.size=8)/\Ed (tk.v.toArray=Im):=⟨_,U,J U,J U⟩;obtain⟨t2,ht2⟩:=Eo tk.bh;have HT2:Ed (t2.ok/\t2.o= -1/\tk.e<=t2.e):=J (by rw[ht2];exact TF S1.out.core.ok.tok);rw[<-ht2,Ug] at CZ;obtain⟨rv,IG,RS,RO⟩:=Zo t2;rw[IG] at CZ;have ZR:Ed (rv.toList=t2.v):=J Hg;have RS:=J RS;have RO:=J RO;have Uf:=J IG;obtain⟨big,ki,OC⟩:=aT S1.out.core;have ki:=J ki;have c_:Ed (big.extract 56 (56+8)=Im):=J<|(OC 1 tk.v U).trans XV.out;clear S hn hl vo SB htk Ug ht2 IG OC;go_enter Tryz.func73,Tryz.ntmps73;cases bad with
 |false=> go_wp2_with fail;refine EV (UC U _ _ _) U ?_;rw[fd.out] at S1;first|exact⟨rfl,⟨_,0,[],D,rY,.inl ⟨rfl,rfl,rfl⟩⟩,MM.out⟩|exact⟨rfl,⟨_,0,D,[],rY,.inl ⟨rfl,rfl,rfl⟩⟩,MM.out⟩
 |true=>
  go_wp2_with (with_reducible refine wM (off:=56) (cs:=Im) ER ki ?_ (hn:=U8.out) (he:=c_.out));clear z0 z63 zf zz0 Edq ki c_;generalize w.setCell ⟨gc,63,Z⟩ (EU EI)=w5 at*;refine(CZ.out _).mono ?_;rintro e6 w6 ⟨rfl,b6⟩;replace S1:=J<|S1.out.u b6;replace MM:=J<|MM.out.trans (Ex.EC b6);clear b6 CZ;have K0:=J<|H.new w6 #[E I 0,E I 0,E I 0,E I 0,E I 0,E I 0,E I 0,EU V] 109;have b2:=Er w6 (Ec #[E I 0,E I 0,E I 0,E I 0,E I 0,E I 0,E I 0,EU V] 109);go_wp2_with (with_reducible first|refine wA j8 ?_|refine wS (cs:=rv) ER K0 (Ey.mk ?_) (hn:=RS.out) (h1:=RO.out));apply Et;obtain⟨b,hgm⟩:=Eo w6.heap.size;rw[<-hgm] at K0⊢;generalize w6.alloc (Ec #[E I 0,E I 0,E I 0,E I 0,E I 0,E I 0,E I 0,EU V] 109)=w7 at*;have KB:=J<|K0.out.setRow rv;have b3:=E6 (g:=b) b2 (Ud hgm.symm) rv;generalize w7.setRow b rv=w8 at*;clear K0 b2 hgm;replace S1:=J<|S1.out.u b3;replace MM:=J<|MM.out.trans (Ex.EC b3);clear b3;have z0:=S1.out.Iy;have z56:w8.cell? ⟨gc,56,Z⟩=X (E I tk.h):=S1.out.core.cell 1 rfl 0 Xx;obtain⟨hh,iW⟩:=Eo tk.h;rw[<-iW] at z56;have Hh:=J iW;clear iW;by_cases h4:hh=4
  ·have H4:=J h4;have t4:(hh !=4)=V:=fR;clear h4;go_wp2_with fail;clear z0 z56;have y0: ∀y:Ext w8,(EA w8 y).cell? ⟨gs,0,Z⟩=X (Y (X ⟨gc,0,Z⟩)):=fun y=>(S1.out.u (EL y)).Iy;refine J_ 7 Ef Ef ?_;simp only[Is,Io,IS,IM]
   repeat (first
    |go_big_quiet_skip
    |(go_big_quiet_want
      first
       |(refine Og (T:=109) (g:=b) ER _ rfl rfl KB ?_ ?_;(·exact RS.out);go_simp;go_big_quiet_on)
       |(go_big_quiet_op
         first
          |go_big_quiet_on
          |go_big_quiet_call (fail))))
   refine I2 ?_;intro _ hw';obtain⟨y9,rfl⟩:=hw';have En:=EL y9;replace KB:=EP KB En;replace S1:=J<|S1.out.u En;replace MM:=J<|MM.out.trans (Ex.EC En);clear y0 En;generalize EA w8 y9=w9 at*;have TH:=J<|bS S1.out.core 1 rfl 8 Xx;go_wp2_with ((with_reducible refine Jr 109 ?_);(with_reducible refine Um U 109 _ _ U gc 56 rv ?_ ?_ ?_ ?_ ?_ ?_);(·rfl);(·rfl);(·rw[RS.out];exact TH.out);(·rw[RS.out];exact ER.2);(·exact RO.out);refine Ey.mk ?_);apply Et;rw[ZR.out];have S4:=S1.out.ac t2 (S1.out.core.ok.ac HT2.out.1);obtain⟨d0,d1,d2,hd,KG,-⟩:=S1.out.core.El;replace KB:=J<|(JG (g:=gc) t2.v 56 w9).El KB.out (E7 KB.out KG Eb);replace S1:=J S4.1;replace MM:=J<|MM.out.trans S4.2;clear S4 TH KG;generalize w9.setCells gc 56 t2.v=U0 at*;obtain⟨L',hL'⟩:=Eo (c.q:List One);obtain⟨m,hm⟩:=Eo (0:Nat);obtain⟨new,hnew⟩:=Eo ([]:List Rec);have s10:E4 lo hi g gc gq gt gs {c with tok:=t2,q:=L'} (ns+m) (rs++new) U0:=by rw[hL',hm,hnew,fX];exact S1.out
   replace S1:=J s10;have HM:Ed (m<=3):=J D;have HO:=J<|show t2.o= -1/\c.tok.e<=t2.e from⟨HT2.out.2.1,T5⟩;have Hi:Ed ((new=[]/\c.tok.h=4)\/new=[⟨8,t2.h,0,t2.e,0,6⟩]):=J (.inl ⟨hnew,by rw[<-HE.out.2,<-Hh.out];exact H4.out⟩);clear s10 hL' hm hnew KB HT2 ZR Uf RS RO fd HE Hh U8 XV H4 t4;have z0:=S1.out.Iy;have z64:iA _ ⟨gc,64,Z⟩=X (Y (X ⟨gq,0,Z⟩)):=S1.out.core.cell 2 rfl 0 Ej;go_wp2_with fail;refine(Gi lo gq _ (pn g 48) _ S1.out.core.ZC S1.out.core.ok.q).mono ?_;rintro e8 w8 ⟨⟨v8,rfl,o8⟩,b8⟩;obtain⟨A,c8,rfl,-⟩:=aZ o8;have ZQ:=J<|fP L';have sE:=J S1.out.core.ok.q;obtain⟨n,hn⟩:=Eo L'.length;obtain⟨SL,kj⟩:=Eo (Jt L');have pu:Ed (n<=3):=J Hj;rw[<-hn,<-kj] at o8 ZQ;rw[<-hn];have OA:=J o8;replace S1:=J<|S1.out.u b8;replace MM:=J<|MM.out.trans (Ex.EC b8);generalize World.heap _=hz at o8;clear o8 b8 z0 z64 hn kj sE;go_wp2_with fail;go_loopw[53] (fun y wr=> ∃(i:Nat) (L2:List One) (m2:Nat),i<=n/\y=E I i/\m2<=i/\E4 lo hi g gc gq gt gs {c with tok:=t2,q:=L2} (ns+m+m2) (rs++new) wr/\Ex lo hi w wr/\ ∃base,wr.ownsRow base 133 4 (EJ A n c8) n (UF SL)) (fun y _=>n-(I5 y).toNat);case atStart=>exact⟨0,L',0,D,U,D,S1.out,MM.out,_,OA.out⟩
   case round=>
    obtain⟨i,L2,m2,vr,rfl,hm2,s9,m9,base,o9⟩:=hrel;replace S1:=J s9;replace MM:=J m9;replace OA:=J o9;have iR:=J hm2;clear s9 m9 o9 hm2;by_cases hlt:i<n
    ·have t1:decide ((i:Int)<(n:Int))=EI:=IE D;obtain⟨x,hx⟩: ∃x,SL[i]?=X x:=⟨SL[i]' AC,JY _⟩;obtain⟨gg,cur,rfl,ka,dJ⟩:=vp OA.out hx ZQ.out;have KA:=J ka;have dO:=J dJ;clear ka dJ hx;have K0:=J<|H.new wr #[E I 0,E I 0,E I 0,E I 0] 133;have b2:=Er wr (Ec #[E I 0,E I 0,E I 0,E I 0] 133);go_wp2_with (with_reducible first|refine wM (off:=i*4) (cs:= #[E I x.s,E I x.r,E I x.a,E I x.m]) i6 KA ?_ (he:=dO.out)|refine wA vq ?_|refine wS (cs:= #[E I x.s,E I x.r,E I x.a,E I x.m]) i6 K0 (Ey.mk ?_) (h1:=UP));apply Et;obtain⟨gx,hgx⟩:=Eo wr.heap.size;rw[<-hgx] at K0⊢;generalize wr.alloc (Ec #[E I 0,E I 0,E I 0,E I 0] 133)=Xz at*;have KX:=J<|K0.out.setRow #[E I x.s,E I x.r,E I x.a,E I x.m];have b3:=E6 (g:=gx) b2 (Ud hgx.symm) #[E I x.s,E I x.r,E I x.a,E I x.m];generalize Xz.setRow gx #[E I x.s,E I x.r,E I x.a,E I x.m]=JQ at*;clear K0 b2 hgx KA dO;replace S1:=J<|S1.out.u b3;replace MM:=J<|MM.out.trans (Ex.EC b3);replace OA:=J<|EQ OA.out fun _ _ h=>H.u h b3;clear b3;go_wp2_with fail;have y0: ∀y:Ext JQ,(EA JQ y).cell? ⟨gs,0,Z⟩=X (Y (X ⟨gc,0,Z⟩)):=fun y=>(S1.out.u (EL y)).Iy;have Hk: ∀y:Ext JQ,(EA JQ y).cell? ⟨gc,64,Z⟩=X (Y (X ⟨gq,0,Z⟩)):=fun y=>(S1.out.u (EL y)).core.cell 2 rfl 0 Ej;have yx: ∀y:Ext JQ,(EA JQ y).cell? ⟨gx,0,Z⟩=X (E I x.s):=fun y=>(H.cell (H.u KX.out (EL y)) 0).trans U;refine J_ 9 Ef Ef ?_;simp only[Is,Io,IS,IM];repeat (go_big_quiet_step (fail))
     refine I2 ?_;exact Ej5
    ·obtain rfl:i=n:=D;have t1:decide ((i:Int)<(i:Int))=V:=Ia D;go_wp2_with fail;have y0: ∀y:Ext wr,(EA wr y).cell? ⟨gs,0,Z⟩=X (Y (X ⟨gc,0,Z⟩)):=fun y=>(S1.out.u (EL y)).Iy;have r_: ∀y:Ext wr,(EA wr y).cell? ⟨gc,40,Z⟩=X (E I (md:Int)):=fun y=>rR.out _ _ _ _ (S1.out.u (EL y));refine J_ 10 Ef Ef ?_;simp only[Is,Io,IS,IM];repeat (go_big_quiet_step (with_reducible refine IY (vn _)))
     refine I2 ?_;exact Ekr
  ·have t4:(hh !=4)=EI:=fR;clear h4;go_wp2_with (with_reducible refine wL ER KB ?_ (hn:=RS.out));have hgo:=fun W s=>mX lo hi g gc gq gt gs {c with tok:=tk} ns rs t2 6 0 W s HT2.out.1 J2 JK;rw[Uf.out] at hgo;refine(hgo _ S1.out).mono ?_;rintro e7 U0 ⟨rfl,⟨L',m,Xv,sq,s7⟩,U9⟩;replace S1:=J s7;replace MM:=J<|MM.out.trans U9;have HM:Ed (m<=3):=J D;obtain⟨new,hnew⟩:=Eo ([⟨8,t2.h,0,t2.e,0,6⟩]:List Rec);rw[<-hnew] at S1;have HO:=J<|show t2.o= -1/\c.tok.e<=t2.e from⟨HT2.out.2.1,T5⟩;have Hi:Ed ((new=[]/\c.tok.h=4)\/new=[⟨8,t2.h,0,t2.e,0,6⟩]):=J (.inr hnew);clear s7 U9 sq Xv KB z0 z56 hgo hnew HT2 ZR Uf RS RO fd HE Hh U8 XV t4;have z0:=S1.out.Iy;have z64:iA _ ⟨gc,64,Z⟩=X (Y (X ⟨gq,0,Z⟩)):=S1.out.core.cell 2 rfl 0 Ej;go_wp2_with fail;refine(Gi lo gq _ (pn g 48) _ S1.out.core.ZC S1.out.core.ok.q).mono ?_;rintro e8 w8 ⟨⟨v8,rfl,o8⟩,b8⟩;obtain⟨A,c8,rfl,-⟩:=aZ o8;have ZQ:=J<|fP L';have sE:=J S1.out.core.ok.q;obtain⟨n,hn⟩:=Eo L'.length;obtain⟨SL,kj⟩:=Eo (Jt L');have pu:Ed (n<=3):=J Hj;rw[<-hn,<-kj] at o8 ZQ;rw[<-hn];have OA:=J o8;replace S1:=J<|S1.out.u b8;replace MM:=J<|MM.out.trans (Ex.EC b8);generalize World.heap _=hz at o8;clear o8 b8 z0 z64 hn kj sE;go_wp2_with fail;go_loopw[53] (fun y wr=> ∃(i:Nat) (L2:List One) (m2:Nat),i<=n/\y=E I i/\m2<=i/\E4 lo hi g gc gq gt gs {c with tok:=t2,q:=L2} (ns+m+m2) (rs++new) wr/\Ex lo hi w wr/\ ∃base,wr.ownsRow base 133 4 (EJ A n c8) n (UF SL)) (fun y _=>n-(I5 y).toNat);case atStart=>exact⟨0,L',0,D,U,D,S1.out,MM.out,_,OA.out⟩
   case round=>
    obtain⟨i,L2,m2,vr,rfl,hm2,s9,m9,base,o9⟩:=hrel;replace S1:=J s9;replace MM:=J m9;replace OA:=J o9;have iR:=J hm2;clear s9 m9 o9 hm2;by_cases hlt:i<n
    ·have t1:decide ((i:Int)<(n:Int))=EI:=IE D;obtain⟨x,hx⟩: ∃x,SL[i]?=X x:=⟨SL[i]' AC,JY _⟩;obtain⟨gg,cur,rfl,ka,dJ⟩:=vp OA.out hx ZQ.out;have KA:=J ka;have dO:=J dJ;clear ka dJ hx;have K0:=J<|H.new wr #[E I 0,E I 0,E I 0,E I 0] 133;have b2:=Er wr (Ec #[E I 0,E I 0,E I 0,E I 0] 133);go_wp2_with (with_reducible first|refine wM (off:=i*4) (cs:= #[E I x.s,E I x.r,E I x.a,E I x.m]) i6 KA ?_ (he:=dO.out)|refine wA vq ?_|refine wS (cs:= #[E I x.s,E I x.r,E I x.a,E I x.m]) i6 K0 (Ey.mk ?_) (h1:=UP));apply Et;obtain⟨gx,hgx⟩:=Eo wr.heap.size;rw[<-hgx] at K0⊢;generalize wr.alloc (Ec #[E I 0,E I 0,E I 0,E I 0] 133)=Xz at*;have KX:=J<|K0.out.setRow #[E I x.s,E I x.r,E I x.a,E I x.m];have b3:=E6 (g:=gx) b2 (Ud hgx.symm) #[E I x.s,E I x.r,E I x.a,E I x.m];generalize Xz.setRow gx #[E I x.s,E I x.r,E I x.a,E I x.m]=JQ at*;clear K0 b2 hgx KA dO;replace S1:=J<|S1.out.u b3;replace MM:=J<|MM.out.trans (Ex.EC b3);replace OA:=J<|EQ OA.out fun _ _ h=>H.u h b3;clear b3;go_wp2_with fail;have y0: ∀y:Ext JQ,(EA JQ y).cell? ⟨gs,0,Z⟩=X (Y (X ⟨gc,0,Z⟩)):=fun y=>(S1.out.u (EL y)).Iy;have Hk: ∀y:Ext JQ,(EA JQ y).cell? ⟨gc,64,Z⟩=X (Y (X ⟨gq,0,Z⟩)):=fun y=>(S1.out.u (EL y)).core.cell 2 rfl 0 Ej;have yx: ∀y:Ext JQ,(EA JQ y).cell? ⟨gx,0,Z⟩=X (E I x.s):=fun y=>(H.cell (H.u KX.out (EL y)) 0).trans U;refine J_ 9 Ef Ef ?_;simp only[Is,Io,IS,IM];repeat (go_big_quiet_step (fail))
     refine I2 ?_;exact Ej5
    ·obtain rfl:i=n:=D;have t1:decide ((i:Int)<(i:Int))=V:=Ia D;go_wp2_with fail;have y0: ∀y:Ext wr,(EA wr y).cell? ⟨gs,0,Z⟩=X (Y (X ⟨gc,0,Z⟩)):=fun y=>(S1.out.u (EL y)).Iy;have r_: ∀y:Ext wr,(EA wr y).cell? ⟨gc,40,Z⟩=X (E I (md:Int)):=fun y=>rR.out _ _ _ _ (S1.out.u (EL y));refine J_ 10 Ef Ef ?_;simp only[Is,Io,IS,IM];repeat (go_big_quiet_step (with_reducible refine IY (vn _)))
     refine I2 ?_;exact Ekr
def Hl(t t':EM)(new:List Rec):Prop:=
 (0<=t.o->(t'.o=t.o/\t'.e=t.e/\t'.om=t.om/\t'.oa=sat t.oa t.om/\t'.oa<t.om)\/(t'.o<0/\ ∃x∈new,x.k=8\/(x.k=12/\x.s=t.o)))/\(t.o<0->t'.o<0)
def vy(c c':EF)(new:List Rec):Prop:=
 Hl c.tok c'.tok new/\c.tok.e<=c'.tok.e/\(c'.En=c.En\/c'.En=⟨2,4,0⟩\/c'.En=⟨3,4,0⟩)/\ ∃b0:Xh,(b0=c.pt.b\/b0=⟨2,4,0⟩\/b0=⟨3,4,0⟩)/\(c'.pt.b=b0\/c'.pt.b=⟨4,b0.s,b0.q⟩)
def i7(t t':EM)(new:List Rec):Prop:=t'=t\/(0<=t.o/\t'=t.end_/\ ∃x∈new,x.k=12/\x.s=t.o)
theorem i7.app(h:i7 t t' new)(r:List Rec):i7 t t' (new++r):=by
 rcases h with h|⟨h1,h2,x,hx,h3⟩;·exact .inl h
 ·exact .inr ⟨h1,h2,x,List.mem_append_left _ hx,h3⟩
theorem i7.drop(h:i7 t t' new)(s e:Int):i7 t (t'.drop s).1 (new++if(t'.drop s).2 then [⟨12,s,0,e,16,0⟩] else []):=by
 by_cases hc:t'.o<0\/t'.o≠s
 ·have e1:t'.drop s=(t',V):=by unfold EM.drop;rw[if_pos hc]
  rw[e1];exact h.app _
 ·have e1:t'.drop s=(t'.end_,EI):=by unfold EM.drop;rw[if_neg hc]
  rw[e1];rcases h with h|⟨h1,h2,-⟩;·subst h;exact .inr ⟨D,U,_,List.mem_append_right _ (mw.2 rfl),U,by show s=t'.o;omega⟩
  ·exfalso;rw[h2] at hc;simp[EM.end_] at hc
theorem Edr(t:EM):(t.o<0/\t.Uk=(t,-1))\/(0<=t.o/\sat t.oa t.om<t.om/\t.Uk=({t with oa:=sat t.oa t.om},-1))\/(0<=t.o/\t.Uk.1.o= -1/\t.Uk.1.e=t.e/\t.Uk.2=t.o):=by
 unfold EM.Uk;split;·exact .inl ⟨D,U⟩
 ·split;·exact .inr (.inl ⟨D,D,U⟩)
  ·exact .inr (.inr ⟨D,U,U,U⟩)
theorem VE(h:t.ok):t.Uk.1.ok/\t.Uk.1.e=t.e:=by
 have hs:0<=sat t.oa t.om/\sat t.oa t.om<=1000:=by have h1:=h.oa;have h2:=h.om;unfold sat;split<;>omega
 unfold EM.Uk;split;·exact⟨h,U⟩
 ·split;·exact⟨⟨h.h,h.e,h.o,hs,h.om,h.la,h.lm,h.off⟩,U⟩
  ·exact⟨⟨h.h,h.e,dF,dF,dF,h.la,h.lm,dF⟩,U⟩
theorem Eds(h:i7 t t' new)(ht:t.ok):t'.e=t.e:=by rcases h with rfl|⟨-,rfl,-⟩<;>rfl
theorem VI{t3:EM}{new1:List Rec}(h1:i7 t t1 new1)(h2: ∀x∈new1,x∈new)(hw:0<=t1.Uk.2-> ∃x∈new,x.k=12/\x.s=t1.Uk.2)(h3:(∃a m,t3=t1.Uk.1.mU a m)\/(t3.o= -1/\ ∃x∈new,x.k=8)):Hl t t3 new:=by
 rcases h3 with⟨a,m,rfl⟩|⟨ho,x,hx,hk⟩
 ·show Hl t (t1.Uk.1.mU a m) new;rcases h1 with rfl|⟨g1,rfl,x,hx,hk,hs⟩
  ·rcases Edr t1 with⟨h5,e5⟩|⟨h5,h6,e5⟩|⟨h5,h6,h7,h8⟩;·rw[e5];exact⟨fun h=>absurd h D,fun _=>h5⟩
   ·rw[e5];exact⟨fun _=> .inl ⟨U,U,U,U,h6⟩,fun h=>absurd h5 D⟩
   ·refine⟨fun _=> .inr ⟨by show t1.Uk.1.o<0;omega,?_⟩,fun h=>absurd h5 D⟩;obtain⟨x,hx,hk,hs⟩:=hw D;exact⟨x,hx,.inr ⟨hk,D⟩⟩
  ·have e5:t.end_.Uk=(t.end_,-1):=by unfold EM.Uk;rw[if_pos dF]
   rw[e5];exact⟨fun _=> .inr ⟨by simp[EM.mU,EM.end_],x,h2 x hx,.inr ⟨hk,hs⟩⟩,fun h=>absurd g1 D⟩
 ·exact⟨fun _=> .inr ⟨D,x,hx,.inl hk⟩,fun _=>D⟩
theorem Edt{x:One}(h:x.ok):(fk x).ok:=by refine⟨h.s,h.r,?_,h.m,h.n⟩;have h1:=h.a;have h2:=h.m;show 0<=sat x.a x.m/\sat x.a x.m<=1000;unfold sat;split<;>omega
theorem EF.ok.kept(h:c.ok):({c with q:=XS (Jt c.q)}:EF).ok:=by
 have pm:=Rv c.q;have hm: ∀x∈XS (Jt c.q),∃y∈c.q,x=fk y:=fun x hx=>by obtain⟨y,hy,e⟩:=bc.1 (List.mem_filter.1 hx).1;exact⟨y,pm.mem_iff.1 hy,e.symm⟩
 refine⟨h.tok,h.T,?_,fun x hx=> ?_,fun x hx=> ?_,?_,h.gh,h.iB,h.mode,h.En,h.pt,h.Iq⟩;·show(XS (Jt c.q)).length<=3;have:=Rw (Jt c.q);rw[fP] at this;have:=h.q;omega
 ·obtain⟨y,hy,rfl⟩:=hm x hx;exact Edt (h.ones y hy)
 ·obtain⟨y,hy,rfl⟩:=hm x hx;exact h.src y hy
 ·have h1:((Jt c.q).map One.s).Nodup:=(pm.map One.s).nodup_iff.2 h.nd;have h2:(((Jt c.q).map fk).map One.s)=(Jt c.q).map One.s:=by rw[List.map_map];rfl
  show((XS (Jt c.q)).map One.s).Nodup;refine List.Sublist.nodup (List.Sublist.map _ (List.filter_sublist (l:=(Jt c.q).map fk))) ?_;rw[h2];exact h1
theorem Edu{c:Nat}{L:List Int}(h:w.ownsRow base 3 1 (EJ A n c) n (UK L))(hx:L[i]?=X x)(hn:L.length=n): ∃(g:Nat),A=X ⟨g,0,Z⟩/\w.cell? ⟨g,i,Z⟩=X (E I x):=by
 have hi:=(Xr.1 hx).1;obtain⟨h1,⟨-,h2⟩|⟨g,cap,cur,hv,hg,hh,hnc,hcm,hcs,ht⟩⟩:=h;·omega
 ·injection hv with e1;refine⟨g,e1,?_⟩;have hb:H w g cur 3:=hh;rw[H.cell hb,<-Array.getElem?_toList];have e:(cur.toList.take (n*1))[i]?=X (E I x):=by rw[ht];unfold UK;rw[ls,hx];rfl
  rw[bU D] at e;exact e
def Pt.near(p:Pt)(r:Int)(b:Bool):Pt:=⟨p.c,p.a0,p.a1,p.a2,p.a3,Jp p.n0 p.a0 r,Jp p.n1 p.a1 r,Jp p.n2 p.a2 r,Jp p.n3 p.a3 r,⟨if b then p.b.r else 4,p.b.s,p.b.q⟩⟩
theorem VJ(g:Nat->G)(r:Int)(hr:g 54=E I r)(ir:aU r)(p:Pt)(hp:p.ok): ∃p':Pt,p'.ok/\(p'.b=p.b\/p'.b=⟨4,p.b.s,p.b.q⟩)/\ ∀W,Eg Ea 107 #[EZ (EN 56 g),EZ p.v.toArray] W fun e w'=>e=Eh (EZ p'.v.toArray)/\Ek W w':=by
 refine⟨p.near r _,⟨hp.c,hp.a0,hp.a1,hp.a2,hp.a3,zp hp.n0 hp.a0 ir,zp hp.n1 hp.a1 ir,zp hp.n2 hp.a2 ir,zp hp.n3 hp.a3 ir⟩,?_,fun W=>EZ5 g p.c p.a0 p.a1 p.a2 p.a3 p.n0 p.n1 p.n2 p.n3 p.b.r p.b.s p.b.q r W hr ir hp.a0 hp.a1 hp.a2 hp.a3 hp.n0 hp.n1 hp.n2 hp.n3 _ U⟩;unfold Pt.near;split;·exact .inl U
 ·exact .inr U
theorem Edv(h:vm c c' new):new.length<=1:=h.len
theorem VO(h:c.ok):(aQ (Jt c.q)).length<=3:=by have:=Rx (Jt c.q);rw[fP] at this;have:=h.q;omega
theorem VU(hc:c.tok.ok){n1 n4:List Rec}{c4:EF}(h1:i7 c.tok t1 n1)(h2: ∀x∈n1,x∈new)(hw:0<=t1.Uk.2-> ∃x∈new,x.k=12/\x.s=t1.Uk.2)(T1:ET)(KQ:List One)(ht2:t2=t1.Uk.1)(h4: ∀x∈n4,x∈new)(hl:vm {c with T:=T1,tok:=t2,q:=KQ} c4 n4)(p':Pt)(hp:p'.b=c4.pt.b\/p'.b=⟨4,c4.pt.b.s,c4.pt.b.q⟩):vy c {c4 with pt:=p'} new:=by
 subst ht2
 have ht1:t1.ok:=by
  rcases h1 with rfl|⟨-,rfl,-⟩;·exact hc
  ·exact So hc
 have e1:=Eds h1 hc;have e2:=(VE ht1).2;rcases hl with⟨L',a,m,-,rfl,rfl⟩|⟨L',t3,how,md,b,-,ho,he,-,-,hb,rfl,rfl⟩;·exact⟨VI h1 h2 hw (.inl ⟨a,m,U⟩),by show c.tok.e<=t1.Uk.1.e;omega,.inl U,c.pt.b,.inl U,hp⟩
 ·refine⟨VI h1 h2 hw (.inr ⟨ho,_,h4 _ (mw.2 rfl),U⟩),by show c.tok.e<=t3.e;have:t1.Uk.1.e<=t3.e:=he;omega,?_,b,?_,hp⟩
  ·rcases hb with rfl|rfl;·exact .inr (.inl U)
   ·exact .inr (.inr U)
  ·rcases hb with rfl|rfl;·exact .inr (.inl U)
   ·exact .inr (.inr U)
theorem Edw(lo hi:Nat)(g:Nat->G)(gc gq gt gs:Nat)(c:EF)(ns:Nat)(rs:List Rec)(w:M)(S:E4 lo hi g gc gq gt gs c ns rs w)(hn:ns<700000)(hl:rs.length<700000): Eg Ea 74 #[Y (X ⟨gs,0,Z⟩)] w fun e w'=>e=Eh (Es #[])/\(∃c' m new,m<=15/\new.length<=13/\E4 lo hi g gc gq gt gs c' (ns+m) (rs++new) w'/\vy c c' new)/\Ex lo hi w w':=by
 obtain⟨pr,hpr,VX⟩:=S.core.XQ.fit 54 D D;have VZ:Ed (aU (pr:Int)):=J (by have h2:=VX.2.1;unfold bz at h2;simp at h2;unfold aU;omega);have Va:=J hpr;have HT:=J S.core.ok.tok;have S1:=J S;have HN:=J hn;have HL:=J hl;have MM:=J<|Ex.refl lo hi w;clear S hn hl hpr VX;have z0:=S1.out.Iy;have UH:w.cell? ⟨gc,95,Z⟩=X (Y (X ⟨gt,0,Z⟩)):=S1.out.core.cell 6 rfl 0 Ej;go_enter Tryz.func74,Tryz.ntmps74;go_wp2_with fail;refine(Ec6 gt c.T _ S1.out.core.tab S1.out.core.ok.T S1.out.core.ok.Iq).mono ?_;rintro e1 w1 ⟨⟨L,A,c0,T1,rfl,o1,hl4,hl3,kt,Vb,Vc⟩,ot⟩;have hS:=S1.out.vJ ot T1 kt (S1.out.core.ok.vI Vb Vc);replace S1:=J hS.1;replace MM:=J<|MM.out.trans hS.2;have OI:=J o1;obtain⟨n,hn⟩:=Eo L.length;rw[<-hn] at OI hl4⊢;have ZQ:=J hn.symm;have Vd:=J hl4;clear o1 hl4 hl3 kt Vb Vc ot hS hn z0 UH;go_wp2_with fail;go_loopw[17] (fun y wr=> ∃(i:Nat) (t1:EM) (L1:List One) (m1:Nat) (n1:List Rec),i<=n/\y=E I i/\m1<=2*i/\n1.length<=2*i/\E4 lo hi g gc gq gt gs {c with T:=T1,tok:=t1,q:=L1} (ns+m1) (rs++n1) wr/\i7 c.tok t1 n1/\Ex lo hi w wr/\ ∃base,wr.ownsRow base 3 1 (EJ A n c0) n (UK L)) (fun y _=>n-(I5 y).toNat);case atStart=>exact⟨0,c.tok,c.q,0,[],D,U,D,Ej,rY,.inl U,MM.out,_,OI.out⟩
 case round=>
  obtain⟨i,t1,L1,m1,n1,vr,rfl,hm1,hn1,s9,ht1,m9,base,o9⟩:=hrel;replace S1:=J s9;replace MM:=J m9;replace OI:=J o9;have iQ:=J hm1;have mB:=J hn1;have HT1:=J ht1;clear s9 m9 o9 hm1 hn1 ht1;by_cases hlt:i<n
  ·have t1':decide ((i:Int)<(n:Int))=EI:=IE D;obtain⟨x,hx⟩: ∃x,L[i]?=X x:=⟨L[i]' AC,JY _⟩;obtain⟨gg,rfl,cx⟩:=Edu OI.out hx ZQ.out;have hn4:=Vd.out;clear hx;go_wp2_with fail;refine(Zl lo hi g gc gq gt gs _ (ns+m1) _ 5 x 0 0 0 _ S1.out Vf).mono ?_;rintro e3 w3 ⟨rfl,s3,oW⟩;replace S1:=J s3;replace MM:=J<|MM.out.trans oW;replace OI:=J<|EQ OI.out fun _ _ h=>oW.El h Eb Eb;clear s3 oW cx;go_wp2_with fail;refine(GU x _).mono ?_;rintro e4 w4 ⟨rfl,rfl⟩;cases hlk:decide (1<=x/\x<=3) with
   |false=> clear hlk;go_wp2_with fail;refine⟨⟨i+1,t1,L1,m1,n1++[⟨5,x,0,t1.e,0,0⟩],D,Ej,rA,by rw[I1];have:=mB.out;simp;omega,by rw[<-UY];exact S1.out,HT1.out.app _,MM.out,base,OI.out⟩,J6⟩
   |true=> clear hlk;go_wp2_with fail;refine(Sc lo hi g gc gq gt gs _ (ns+m1) _ x _ S1.out u_ (by have:=HL.out;have:=mB.out;simp only[I1,List.length_singleton];omega)).mono ?_;rintro e5 w5 ⟨rfl,⟨L2,m5,sI,sq5,s5⟩,pw⟩;have S8:=J s5;replace MM:=J<|MM.out.trans pw;replace OI:=J<|EQ OI.out fun _ _ h=>pw.El h Eb Eb;have HM5:=J sI;clear s5 pw sI sq5;obtain⟨N,hN⟩:=Eo (if(t1.drop x).2 then [⟨12,x,0,t1.e,16,0⟩] else []:List Rec);have Hm:Ed (N.length<=1):=J (by rw[hN];split<;>simp);have Vg:=J<|(HT1.out.app [⟨5,x,0,t1.e,0,0⟩]).drop x t1.e;have h8:=S8.out;rw[<-hN] at Vg h8;have S9:=J h8;clear h8 hN S8;go_wp2_with fail;refine⟨⟨i+1,(t1.drop x).1,L2,m1+m5,(n1++[⟨5,x,0,t1.e,0,0⟩])++N,D,Ej,by have:=iQ.out;have:=HM5.out;omega,by simp only[I1,List.length_singleton];have:=mB.out;have:=Hm.out;omega,?_,Vg.out,MM.out,base,OI.out⟩,J6⟩;rw[<-iq,<-UY,<-UY];exact S9.out
  ·obtain rfl:i=n:=D;have t1':decide ((i:Int)<(i:Int))=V:=Ia D;have z0:=S1.out.Iy;obtain⟨big,ki,OC⟩:=aT S1.out.core;have ki:=J ki;obtain⟨Im,Ug,U8,XV⟩: ∃Im,t1.a=EZ Im/\Ed (Im.size=8)/\Ed (t1.v.toArray=Im):=⟨_,U,J U,J U⟩;have c_:Ed (big.extract 56 (56+8)=Im):=J<|(OC 1 t1.v U).trans XV.out;have AG:=fun W=>EIg t1 W (by have h:0<=t1.oa/\t1.oa<=1000:=S1.out.core.ok.tok.oa;omega) (by have h:0<=t1.om/\t1.om<=1000:=S1.out.core.ok.tok.om;omega);have Vh:=VE S1.out.core.ok.tok;obtain⟨t2,ht2⟩:=Eo t1.Uk.1;obtain⟨who,hwho⟩:=Eo t1.Uk.2;have HT2:Ed t2.ok:=J (by rw[ht2];exact Vh.1);obtain⟨rv,IG,RS,RO⟩:=Zo t2;have ZR:Ed (rv.toList=t2.v):=J Hg;have CE:Ed (∀W g,H W g rv 109->W.cell? ⟨g,0,Z⟩=X (E I t2.h)):=J (fun W g K=>by have e:rv=O4 t2.h t2.e t2.o t2.oa t2.om t2.la t2.lm t2.bad:=Sr;subst e;exact(H.cell K 0).trans U);have CO:Ed (∀W,Eg Ea 104 #[EZ Im] W fun x w'=>x=Eh (Es #[EZ rv,E I who])/\Ek W w'):=J (fun W=>by have h:=AG W;rw[<-ht2,<-hwho,IG,Ug] at h;exact h);have RS:=J RS;have RO:=J RO;have Vi:=J ht2;have AH:=J hwho;clear OC AG Vh Ug ht2 hwho IG OI;go_wp2_with (with_reducible refine wM (off:=56) (cs:=Im) ER ki ?_ (hn:=U8.out) (he:=c_.out));refine(CO.out _).mono ?_;rintro e6 w6 ⟨rfl,b6⟩;replace S1:=J<|S1.out.u b6;replace MM:=J<|MM.out.trans (Ex.EC b6);clear b6 z0 ki c_ CO U8 XV;have K0:=J<|H.new w6 #[E I 0,E I 0,E I 0,E I 0,E I 0,E I 0,E I 0,EU V] 109;have b2:=Er w6 (Ec #[E I 0,E I 0,E I 0,E I 0,E I 0,E I 0,E I 0,EU V] 109);go_wp2_with (with_reducible first|refine wA j8 ?_|refine wS (cs:=rv) ER K0 (Ey.mk ?_) (hn:=RS.out) (h1:=RO.out));apply Et;obtain⟨b,hgm⟩:=Eo w6.heap.size;rw[<-hgm] at K0⊢;generalize w6.alloc (Ec #[E I 0,E I 0,E I 0,E I 0,E I 0,E I 0,E I 0,EU V] 109)=w7 at*;have KB:=J<|K0.out.setRow rv;have b3:=E6 (g:=b) b2 (Ud hgm.symm) rv;generalize w7.setRow b rv=w8 at*;clear K0 b2 hgm;replace S1:=J<|S1.out.u b3;replace MM:=J<|MM.out.trans (Ex.EC b3);clear b3;go_wp2_with fail;have y0: ∀y:Ext w8,(EA w8 y).cell? ⟨gs,0,Z⟩=X (Y (X ⟨gc,0,Z⟩)):=fun y=>(S1.out.u (EL y)).Iy;refine J_ 7 Ef Ef ?_;simp only[Is,Io,IS,IM]
   repeat (first
    |go_big_quiet_skip
    |(go_big_quiet_want
      first
       |(refine Og (T:=109) (g:=b) ER _ rfl rfl KB ?_ ?_;(·exact RS.out);go_simp;go_big_quiet_on)
       |(go_big_quiet_op
         first
          |go_big_quiet_on
          |go_big_quiet_call (fail))))
   refine I2 ?_;intro _ hw';obtain⟨y9,rfl⟩:=hw';have En:=EL y9;replace KB:=EP KB En;replace S1:=J<|S1.out.u En;replace MM:=J<|MM.out.trans (Ex.EC En);clear y0 En;generalize EA w8 y9=w9 at*;have TH:=J<|bS S1.out.core 1 rfl 8 Xx;go_wp2_with ((with_reducible refine Jr 109 ?_);(with_reducible refine Um U 109 _ _ U gc 56 rv ?_ ?_ ?_ ?_ ?_ ?_);(·rfl);(·rfl);(·rw[RS.out];exact TH.out);(·rw[RS.out];exact ER.2);(·exact RO.out);refine Ey.mk ?_);apply Et;rw[ZR.out];have S4:=S1.out.ac t2 (S1.out.core.ok.ac HT2.out);obtain⟨d0,d1,d2,hd,KG,-⟩:=S1.out.core.El;replace KB:=J<|(JG (g:=gc) t2.v 56 w9).El KB.out (E7 KB.out KG Eb);replace S1:=J S4.1;replace MM:=J<|MM.out.trans S4.2;clear S4 TH KG;generalize w9.setCells gc 56 t2.v=U0 at*;clear RS RO ZR;have HNI:=Vd.out;by_cases vz:0<=who
   ·have t0':decide (0<=who)=EI:=IE vz;have cb:=CE.out _ _ KB.out;go_wp2_with fail;refine(oF lo hi g gc gq gt gs _ (ns+m1) _ t2.h who 30 _ S1.out u_).mono ?_;rintro e11 cg ⟨rfl,⟨m11,Edz,s11⟩,Vj⟩;replace S1:=J s11;replace MM:=J<|MM.out.trans Vj;clear s11 Vj cb KB;go_wp2_with fail;refine(Zl lo hi g gc gq gt gs _ _ _ 12 who 0 30 0 _ S1.out Vf).mono ?_;rintro e12 Xz ⟨rfl,s12,Vk⟩;obtain⟨m2,hm2⟩:=Eo (m1+m11);obtain⟨n2,hn2⟩:=Eo (n1++[⟨12,who,0,t2.e,30,0⟩]:List Rec);rw[iq,<-hm2,UY,<-hn2] at s12;replace S1:=J s12;replace MM:=J<|MM.out.trans Vk;have iR:Ed (m2<=9):=J rA;have Hn:Ed (n2.length<=9):=J (by rw[hn2,I1];have:=mB.out;simp;omega);have Ho:Ed (∀x∈n1,x∈n2):=J (fun x hx=>by rw[hn2];exact List.mem_append_left _ hx);have Vl:Ed (0<=t1.Uk.2-> ∃x∈n2,x.k=12/\x.s=t1.Uk.2):=J<|fun _=>⟨_,by rw[hn2];exact List.mem_append_right _ (mw.2 rfl),U,AH.out⟩;clear s12 Vk hm2 hn2 Edz vz t0' iQ mB AH CE;have z0:=S1.out.Iy;have z64:iA _ ⟨gc,64,Z⟩=X (Y (X ⟨gq,0,Z⟩)):=S1.out.core.cell 2 rfl 0 Ej;go_wp2_with fail;refine(Rz lo gq _ (pn g 48) _ S1.out.core.lq S1.out.core.ZC S1.out.core.ok.q S1.out.core.ok.ones).mono ?_;rintro e8 w8 ⟨⟨v8,rfl,o8⟩,q8,m8⟩;obtain⟨A,c8,rfl,-⟩:=aZ o8;have kn:=J<|VO S1.out.core.ok;have vB:=S1.out.core.ok.kept;replace S1:=J<|S1.out.fp m8 _ q8 vB;replace MM:=J<|MM.out.trans (m8.iK hi);obtain⟨GQ,pA⟩:=Eo (aQ (Jt L1));obtain⟨KQ,vC⟩:=Eo (XS (Jt L1));obtain⟨n,hn⟩:=Eo GQ.length;rw[<-pA,<-hn] at kn o8;rw[<-vC] at S1;rw[<-pA,<-hn];have ku:=J hn.symm;have OA:=J o8;clear o8 q8 m8 vB z0 z64 pA vC hn;go_wp2_with fail;go_loopw[67] (fun y wr=> ∃(i m3:Nat) (n3:List Rec),i<=n/\y=E I i/\m3<=i/\n3.length<=i/\E4 lo hi g gc gq gt gs {c with T:=T1,tok:=t2,q:=KQ} (ns+m2+m3) (rs++(n2++n3)) wr/\Ex lo hi w wr/\ ∃base,wr.ownsRow base 133 4 (EJ A n c8) n (UF GQ)) (fun y _=>n-(I5 y).toNat);case atStart=>exact⟨0,0,[],D,U,D,Ej,rY,MM.out,_,OA.out⟩
    case round=>
     obtain⟨i,m3,n3,vr,rfl,mZ,vD,s9,m9,base,o9⟩:=hrel;replace S1:=J s9;replace MM:=J m9;replace OA:=J o9;have oY:=J mZ;have AK:=J vD;clear s9 m9 o9 mZ vD;by_cases hlt:i<n;·exact EjW
     ·obtain rfl:i=n:=D;have t1':decide ((i:Int)<(i:Int))=V:=Ia D;go_wp2_with fail;refine(TQ lo hi g gc gq gt gs _ (ns+m2+m3) _ _ S1.out AM AN).mono ?_;rintro e20 gQ ⟨rfl,⟨c4,m4,n4,vG,s20,gT⟩,vH⟩;replace S1:=J s20;replace MM:=J<|MM.out.trans vH;have Vo:=J vG;have kw:=J gT;clear s20 vH vG gT OA;obtain⟨p',hpo,hpb,hca⟩:=VJ g pr Va.out VZ.out c4.pt S1.out.core.ok.pt;have gC:=J hpo;have Z_:=J hpb;have CN:=J hca;clear hpo hpb hca;go_wp2_with fail;obtain⟨d0,d1,d2,hd,KG,o0,o1,o2,-,-⟩:=S1.out.core.El;have U_:=J<|Oj (c:=c4) (gq:=gq) (gt:=gt) (hd:=hd) (Jw g) o0 o1 o2 0 D;have gK:=J<|Oj (c:=c4) (gq:=gq) (gt:=gt) (hd:=hd) (Jw g) o0 o1 o2 11 D;have KG:=J KG;have PL:=J<|Jw g;have UT:Ed ((EN 56 g).toList.toArray=EN 56 g):=J Ej;clear o0 o1 o2;have y0: ∀y:Ext gQ,(EA gQ y).cell? ⟨gs,0,Z⟩=X (Y (X ⟨gc,0,Z⟩)):=fun y=>(S1.out.u (EL y)).Iy;refine J_ 21 Ef Ef ?_;simp only[Is,Io,IS,IM]
      repeat (first
       |go_big_quiet_skip
       |(go_big_quiet_want
         first
          |(refine X7 (T:=28) (g:=gc) (off:=0) Up _ rfl rfl KG 0 rfl U_.out PL.out ?_;(try rw[UT.out]);go_simp;go_big_quiet_on)
          |(refine X7 (T:=50) (g:=gc) (off:=102) gB _ rfl rfl KG 11 rfl gK.out rfl ?_;(try rw[UT.out]);go_simp;go_big_quiet_on)
          |(go_big_quiet_op
            first
             |go_big_quiet_on
             |go_big_quiet_call (with_reducible refine IY (CN.out _)))))
      refine I2 ?_;exact Ej8
   ·have t0':decide (0<=who)=V:=Ia vz;obtain⟨m2,hm2⟩:=Eo m1;obtain⟨n2,hn2⟩:=Eo (n1:List Rec);have s12:=S1.out;rw[<-hm2,<-hn2] at s12;replace S1:=J s12;have iR:Ed (m2<=9):=J rA;have Hn:Ed (n2.length<=9):=J (by rw[hn2];have:=mB.out;omega);have Ho:Ed (∀x∈n1,x∈n2):=J (fun x hx=>by rw[hn2];exact hx);have Vl:Ed (0<=t1.Uk.2-> ∃x∈n2,x.k=12/\x.s=t1.Uk.2):=J<|fun h=>absurd (by rw[AH.out];exact h) vz;clear s12 hm2 hn2 vz iQ mB AH CE KB;have z0:=S1.out.Iy;have z64:iA _ ⟨gc,64,Z⟩=X (Y (X ⟨gq,0,Z⟩)):=S1.out.core.cell 2 rfl 0 Ej;go_wp2_with fail;refine(Rz lo gq _ (pn g 48) _ S1.out.core.lq S1.out.core.ZC S1.out.core.ok.q S1.out.core.ok.ones).mono ?_;rintro e8 w8 ⟨⟨v8,rfl,o8⟩,q8,m8⟩;obtain⟨A,c8,rfl,-⟩:=aZ o8;have kn:=J<|VO S1.out.core.ok;have vB:=S1.out.core.ok.kept;replace S1:=J<|S1.out.fp m8 _ q8 vB;replace MM:=J<|MM.out.trans (m8.iK hi);obtain⟨GQ,pA⟩:=Eo (aQ (Jt L1));obtain⟨KQ,vC⟩:=Eo (XS (Jt L1));obtain⟨n,hn⟩:=Eo GQ.length;rw[<-pA,<-hn] at kn o8;rw[<-vC] at S1;rw[<-pA,<-hn];have ku:=J hn.symm;have OA:=J o8;clear o8 q8 m8 vB z0 z64 pA vC hn;go_wp2_with fail;go_loopw[67] (fun y wr=> ∃(i m3:Nat) (n3:List Rec),i<=n/\y=E I i/\m3<=i/\n3.length<=i/\E4 lo hi g gc gq gt gs {c with T:=T1,tok:=t2,q:=KQ} (ns+m2+m3) (rs++(n2++n3)) wr/\Ex lo hi w wr/\ ∃base,wr.ownsRow base 133 4 (EJ A n c8) n (UF GQ)) (fun y _=>n-(I5 y).toNat);case atStart=>exact⟨0,0,[],D,U,D,Ej,rY,MM.out,_,OA.out⟩
    case round=>
     obtain⟨i,m3,n3,vr,rfl,mZ,vD,s9,m9,base,o9⟩:=hrel;replace S1:=J s9;replace MM:=J m9;replace OA:=J o9;have oY:=J mZ;have AK:=J vD;clear s9 m9 o9 mZ vD;by_cases hlt:i<n;·exact EjW
     ·obtain rfl:i=n:=D;have t1':decide ((i:Int)<(i:Int))=V:=Ia D;go_wp2_with fail;refine(TQ lo hi g gc gq gt gs _ (ns+m2+m3) _ _ S1.out AM AN).mono ?_;rintro e20 gQ ⟨rfl,⟨c4,m4,n4,vG,s20,gT⟩,vH⟩;replace S1:=J s20;replace MM:=J<|MM.out.trans vH;have Vo:=J vG;have kw:=J gT;clear s20 vH vG gT OA;obtain⟨p',hpo,hpb,hca⟩:=VJ g pr Va.out VZ.out c4.pt S1.out.core.ok.pt;have gC:=J hpo;have Z_:=J hpb;have CN:=J hca;clear hpo hpb hca;go_wp2_with fail;obtain⟨d0,d1,d2,hd,KG,o0,o1,o2,-,-⟩:=S1.out.core.El;have U_:=J<|Oj (c:=c4) (gq:=gq) (gt:=gt) (hd:=hd) (Jw g) o0 o1 o2 0 D;have gK:=J<|Oj (c:=c4) (gq:=gq) (gt:=gt) (hd:=hd) (Jw g) o0 o1 o2 11 D;have KG:=J KG;have PL:=J<|Jw g;have UT:Ed ((EN 56 g).toList.toArray=EN 56 g):=J Ej;clear o0 o1 o2;have y0: ∀y:Ext gQ,(EA gQ y).cell? ⟨gs,0,Z⟩=X (Y (X ⟨gc,0,Z⟩)):=fun y=>(S1.out.u (EL y)).Iy;refine J_ 21 Ef Ef ?_;simp only[Is,Io,IS,IM]
      repeat (first
       |go_big_quiet_skip
       |(go_big_quiet_want
         first
          |(refine X7 (T:=28) (g:=gc) (off:=0) Up _ rfl rfl KG 0 rfl U_.out PL.out ?_;(try rw[UT.out]);go_simp;go_big_quiet_on)
          |(refine X7 (T:=50) (g:=gc) (off:=102) gB _ rfl rfl KG 11 rfl gK.out rfl ?_;(try rw[UT.out]);go_simp;go_big_quiet_on)
          |(go_big_quiet_op
            first
             |go_big_quiet_on
             |go_big_quiet_call (with_reducible refine IY (CN.out _)))))
      refine I2 ?_;exact Ej8
theorem EdC:Ow Ea 124 #[Y Z,EJ Z 0 0,EJ Z 0 0]:=by exact Ekv
theorem EdD(gc:Nat):Tryz.prog.built 124 [(0,Y (X ⟨gc,0,Z⟩))]=X #[Y (X ⟨gc,0,Z⟩),EJ Z 0 0,EJ Z 0 0]:=Ef
theorem Hp:IF Ea 74 2:=⟨⟨_,Tryz.underlying74,U⟩,Ef⟩
theorem EdF{hi:Nat}(C:I9 lo g gc gq gt c W)(K:H W gs #[Y (X ⟨gc,0,Z⟩),EJ Z 0 0,EJ Z 0 0] 124)(hc:gc<hi)(hq:gq<hi)(ht:gt<hi)(hl:lo<=hi)(hs:hi<=gs):E4 lo hi g gc gq gt gs c 0 [] W:=
 ⟨C,hc,hq,ht,hl,hs,_,_,⟨[],fun _ h=>absurd h Uu⟩,K,bw _ _ _ _,bw _ _ _ _⟩
theorem I9.uC(C:I9 lo g gc gq gt c W):gc<W.heap.size/\gq<W.heap.size/\gt<W.heap.size/\lo<=W.heap.size:=by obtain⟨_,_,_,_,k,_⟩:=C.El;obtain⟨_,_,k2,_⟩:=C.ZC;have kt:H W gt c.T.v.toArray 163:=C.tab;exact⟨k.lt,k2.lt,kt.lt,EB C.lc (aM k.lt)⟩
def i8(lo hi:Nat)(g:Nat->G)(gc gq gt:Nat)(R:EF->Nat->List Rec->Prop)(w:M)(e:Uv)(w':M):Prop:=
 ∃(c':EF) (ns:Nat) (new:List Rec) (sv rv:G) (sc:rJ) (hd:List Int),e=Eh (EZ (Jl (OM c') sv rv hd).toArray)/\hd.length=32/\(∀x∈hd,0<=x/\x<=255)/\w'.ownsRow hi 264 2 sv ns sc.l/\w'.ownsRow hi 58 6 rv new.length (Xi new)/\I9 lo g gc gq gt c' w'/\R c' ns new/\Ex lo hi w w'
theorem pC(act:List G)(sv rv:G)(hd:List Int)(h1:act.length=12)(h:hd.length=32):(Jl act sv rv hd).toArray.size=46:=by simp[Jl,h1,h]
theorem vK(c:EF)(A Y4:Option Ev)(n m d f:Nat)(hd:List Int):(Jl (OM c) (EJ A n d) (EJ Y4 m f) hd).toArray.all (·.oneCell')=EI:=by
 refine all_oneCell_toArray ?_;intro v hv;simp only[Jl,OM,Xt,OY,Uu,or_false,bc] at hv;rcases hv with hv|(rfl|rfl)|⟨x,-,rfl⟩;·exact Enl
 ·rfl
 ·rfl
 ·rfl
theorem Vt(lo:Nat)(g:Nat->G)(gc gq gt:Nat)(c:EF)(w:M)(C:I9 lo g gc gq gt c w): Eg Ea 53 #[Y (X ⟨gc,0,Z⟩)] w fun e w'=>e=Eh (EU EI)/\w=w':=by have UH:w.cell? ⟨gc,95,Z⟩=X (Y (X ⟨gt,0,Z⟩)):=C.cell 6 rfl 0 Ej;go_enter Tryz.func53,Tryz.ntmps53;exact Ej7
theorem vL(lo:Nat)(g:Nat->G)(gc gq gt:Nat)(c:EF)(w:M)(C:I9 lo g gc gq gt c w): (Eg Ea 25 #[Y (X ⟨gc,0,Z⟩)] w (i8 lo w.heap.size g gc gq gt (fun c2 ns new=>c2=c/\ns=0/\new=[]) w)) /\(Eg Ea 52 #[Y (X ⟨gc,0,Z⟩)] w (i8 lo w.heap.size g gc gq gt (fun c2 ns new=>ns<=15/\new.length<=13/\vy c c2 new) w)) /\(∀bad:Bool,Eg Ea 51 #[Y (X ⟨gc,0,Z⟩),EU bad] w (i8 lo w.heap.size g gc gq gt (fun c2 ns new=>ns<=9/\mA bad c c2 new) w)) /\(∀(va gv:Bool) (x0 x1 x2 x3:Int) (hx:I4 x0/\I4 x1/\I4 x2/\I4 x3),Eg Ea 50 #[Y (X ⟨gc,0,Z⟩),EZ #[EU va,E I x0,E I x1,E I x2,E I x3,EU gv]] w (i8 lo w.heap.size g gc gq gt (fun c2 ns new=>ns<=3/\my c c2 new) w)) /\(∀(code:Int) (A:Option Ev) (n cap:Nat) (xs:List Int) (k:Int) (hk:1<=k/\k<=3) (hx:xs.length=n) (hnc:n<=cap) (hcap:cap<=9223372036854775807) (mr:n<=1000) (hr:Row w A xs),Eg Ea 49 #[Y (X ⟨gc,0,Z⟩),E I k,EZ #[E I code,EJ A n cap]] w (i8 lo w.heap.size g gc gq gt (fun c2 ns new=>ns<=3/\mq g k code xs c c2 ns new) w)):=by
 have C0:=J C;have LT:=J C.uC;have BS:=J<|EdD gc;clear C;refine⟨?n,?t,fun bad=> ?h,fun va gv x0 x1 x2 x3 hx=> ?s,fun code A n cap xs k hk hx hnc hcap mr hr=> ?i⟩;case' n=>(go_enter Tryz.func25,Tryz.ntmps25;go_wp2_with (with_reducible refine JU 5 ?_))
 case' t=>(go_enter Tryz.func52,Tryz.ntmps52;go_wp2_with (with_reducible refine JU 5 ?_))
 case' h=>(go_enter Tryz.func51,Tryz.ntmps51;go_wp2_with (with_reducible refine JU 7 ?_))
 case' s=>(have HX:=J hx;clear hx;go_enter Tryz.func50,Tryz.ntmps50;go_wp2_with (with_reducible refine JU 7 ?_))
 case' i=>(have HX:=J (JR hk (JR hx (JR hnc (JR hcap mr))));have vk:=J hr;have HLK:Ed (decide (1<=k/\k<=3)=EI):=J (IE hk);clear hk hx hnc hcap mr hr;go_enter Tryz.func49,Tryz.ntmps49;go_wp2_with (with_reducible refine JU 9 ?_))
 all_goals
  apply Et
  generalize hW:XX _ _=w1 at*
  try have KI:Ed (H w1 (w.heap.size) #[EU va,E I x0,E I x1,E I x2,E I x3,EU gv] 46):=J (by subst hW;repeat (first|exact H.new _ _ _|exact H.new' _ _ _ Ej|refine H.alloc ?_ _))
  try have KI:Ed (H w1 (w.heap.size) #[E I code,EJ A n cap] 74):=J (by subst hW;repeat (first|exact H.new _ _ _|exact H.new' _ _ _ Ej|refine H.alloc ?_ _))
  have b1:Ed (Ek w w1):=J (by subst hW;(repeat (first|exact E_ _ _|(refine J1 ?_ IC _)|(refine J5 ?_ IC _))))
  obtain⟨hi,hhi⟩:=Eo w.heap.size
  obtain⟨gi,hgi⟩:=Eo hi
  first
  |(have vM:Ed (∃z:Array G,z.size=46/\H w1 (w.heap.size+1) z 43):=J (by subst hW;exact⟨_,rfl,H.new' _ _ _ Ej⟩)
    obtain⟨gz,hgz⟩:=Eo (w.heap.size+1)
    rw[<-hgz] at vM⊢
    rw[<-hhi] at KI⊢
    rw[show(Y (X ⟨hi,0,Z⟩))=Y (X ⟨gi,0,Z⟩) by rw[hgi]]
    rw[<-hgi] at KI)
  |(have vM:Ed (∃z:Array G,z.size=46/\H w1 (w.heap.size) z 43):=J (by subst hW;exact⟨_,rfl,H.new _ _ _⟩)
    obtain⟨gz,hgz⟩:=Eo w.heap.size
    rw[<-hhi]
    rw[<-hgz] at vM
    rw[show(Y (X ⟨hi,0,Z⟩))=Y (X ⟨gz,0,Z⟩) by rw[hgz,hhi]])
  rw[<-hhi] at LT
  clear hW
  have HZ:=J (show hi<=gz/\w.heap.size<=gz/\hi=w.heap.size from D)
  have C1:=J<|C0.out.u b1.out
  try have RW:=J<|IH vk.out b1.out
  have LW:=J (show hi<=w1.heap.size by have:=b1.out.size;omega)
  have MM:=J<|Ex.EC (lo:=lo) (hi:=hi) b1.out
  clear b1 hgz hhi hgi C0
  have K0:=J<|H.new w1 #[Y Z,EJ Z 0 0,EJ Z 0 0] 124
  have b2:=Er w1 (Ec #[Y Z,EJ Z 0 0,EJ Z 0 0] 124)
  go_wp2_with (first|((with_reducible first|refine It 5 ?_|refine It 7 ?_|refine It 9 ?_);refine JO rfl 124 _ rfl #[Y (X ⟨gc,0,Z⟩),EJ Z 0 0,EJ Z 0 0] BS.out ?_)|(with_reducible refine wA EdC ?_)|(with_reducible refine wS (cs:= #[Y (X ⟨gc,0,Z⟩),EJ Z 0 0,EJ Z 0 0]) EaI K0 (Ey.mk ?_) (h1:=UP)))
  apply Et
  obtain⟨gs,hgs⟩:=Eo w1.heap.size
  rw[<-hgs] at K0⊢
  generalize w1.alloc (Ec #[Y Z,EJ Z 0 0,EJ Z 0 0] 124)=w2 at*
  have KS:=J<|K0.out.setRow #[Y (X ⟨gc,0,Z⟩),EJ Z 0 0,EJ Z 0 0]
  have b3:=E6 (g:=gs) b2 (Ud hgs.symm) #[Y (X ⟨gc,0,Z⟩),EJ Z 0 0,EJ Z 0 0]
  generalize w2.setRow gs #[Y (X ⟨gc,0,Z⟩),EJ Z 0 0,EJ Z 0 0]=w3 at*
  replace C1:=J<|C1.out.u b3
  replace MM:=J<|MM.out.trans (Ex.EC b3)
  try replace KI:=EP KI b3
  try replace RW:=J<|IH RW.out b3
  have KZ:Ed (∃z:Array G,z.size=46/\H w3 gz z 43):=J (by obtain⟨z,h1,h2⟩:=vM.out;exact⟨z,h1,H.u h2 b3⟩)
  have SS:=J<|EdF C1.out KS.out LT.out.1 LT.out.2.1 LT.out.2.2.1 LT.out.2.2.2 (by have:=LW.out;omega)
  clear K0 b2 hgs b3 vM KS LW
  go_wp2_with fail
  first
  |(obtain⟨c',m,new,hm,s5,h5⟩: ∃c' m new,0+m=0/\E4 lo hi g gc gq gt gs c' (0+m) new w3/\c'=c/\0+m=0/\new=[]:=⟨c,0,[],rfl,SS.out,rfl,rfl,rfl⟩
    replace SS:=J s5
    clear s5
    refine(Rc lo hi g gc gq gt gs c' _ _ _ SS.out).mono ?_)
  |(try ((with_reducible refine(GU k _).mono ?_);rintro e4 w4 ⟨rfl,rfl⟩;rw[HLK.out];go_wp2_with fail)
    refine(Vt lo g gc gq gt c _ C1.out).mono ?_
    rintro e4 w4 ⟨rfl,rfl⟩
    go_wp2_with (with_reducible first|refine wL AA KI ?_|refine wL Hp KI ?_)
    first
    |(with_reducible refine(Edw lo hi g gc gq gt gs c 0 [] _ SS.out D Ej).mono ?_)
    |(with_reducible refine(Edo lo hi g gc gq gt gs c 0 [] bad _ SS.out D Ej).mono ?_)
    |(with_reducible refine(Edc lo hi g gc gq gt gs c 0 [] va gv x0 x1 x2 x3 _ SS.out HX.out D Ej).mono ?_)
    |(with_reducible refine(EcS lo hi g gc gq gt gs c 0 [] code A n cap xs k _ SS.out HX.out.1 HX.out.2.1 HX.out.2.2.1 HX.out.2.2.2.1 HX.out.2.2.2.2 RW.out D Ej).mono ?_)
    rintro e5 w5 ⟨rfl,⟨c',m,new,hm,h5⟩,pw⟩
    try replace h5:=and_left_comm.1 h5
    obtain⟨s5,h5⟩:=h5
    rw[cX] at s5
    replace SS:=J s5
    replace MM:=J<|MM.out.trans pw
    replace KZ:Ed (∃z:Array G,z.size=46/\H w5 gz z 43):=J (by obtain⟨z,h1,h2⟩:=KZ.out;exact⟨z,h1,pw.El h2 Eb Eb⟩)
    clear s5 pw
    go_wp2_with fail
    refine(Rc lo hi g gc gq gt gs c' _ _ _ SS.out).mono ?_)
  clear C1
  rintro e6 w6 ⟨sv,rv,sc,hd,rfl,UR,Xm,os,ZG,b6⟩
  obtain⟨z,hz,kz⟩:=KZ.out
  have pD:=J<|H.u kz b6
  have HZS:=J hz
  replace SS:=J<|SS.out.core.u b6
  replace MM:=J<|MM.out.trans (Ex.EC b6)
  have OS:=J os
  have OR:=J ZG
  have HD:=J<|JR UR Xm
  obtain⟨A1,e1,rfl,-⟩:=aZ os
  obtain⟨A2,e2,rfl,-⟩:=aZ ZG
  have TS:=J<|pC (OM c') (EJ A1 (0+m) e1) (EJ A2 new.length e2) hd U UR
  have TO:=J<|vK c' A1 A2 (0+m) new.length e1 e2 hd
  obtain⟨tv,Ik⟩: ∃tv,tv=(Jl (OM c') (EJ A1 (0+m) e1) (EJ A2 new.length e2) hd).toArray:=⟨_,U⟩
  rw[<-Ik] at TS TO⊢
  have Ok:=J Ik
  clear os ZG UR Xm Ik b6 kz hz KZ
  go_wp2_with (with_reducible refine wS (cs:=tv) go pD ?_ (ho:=HZS.out) (hn:=TS.out) (h1:=TO.out))
  refine EV (JB go U _ _ gz tv U (pD.out.setRow tv) TS.out) U ?_
  have ho:=O9 (g:=gz) (W:=w6) tv
  have hz2:=HZ.out
  obtain⟨hz3,zl,zn⟩:=hz2
  subst zn
  have hb:=ho.bel lo (by have:=LT.out;omega) (by have:=pD.out.lt;have:=LT.out;omega)
  refine⟨c',_,_,_,_,sc,hd,fl,HD.out.1,HD.out.2,EQ OS.out fun _ _ h=>ho.El h (E7 h pD.out Eb),EQ OR.out fun _ _ h=>ho.El h (E7 h pD.out Eb),?_,by first|exact h5|exact⟨D,h5⟩|exact⟨D,by rw[J9];exact h5⟩,?_⟩
  ·exact SS.out.via (fun k cs S hS hk=>ho.El hk (E7 hk pD.out ZN)) hb
  ·exact MM.out.only ho zl hz3 pD.out.lt
theorem EdK(lo:Nat)(g:Nat->G)(gc gq gt:Nat)(c:EF)(w:M)(C:I9 lo g gc gq gt c w): Eg Ea 25 #[Y (X ⟨gc,0,Z⟩)] w (i8 lo w.heap.size g gc gq gt (fun c2 ns new=>c2=c/\ns=0/\new=[]) w):=
 (vL lo g gc gq gt c w C).1
theorem EdL(lo:Nat)(g:Nat->G)(gc gq gt:Nat)(c:EF)(w:M)(C:I9 lo g gc gq gt c w): Eg Ea 52 #[Y (X ⟨gc,0,Z⟩)] w (i8 lo w.heap.size g gc gq gt (fun c2 ns new=>ns<=15/\new.length<=13/\vy c c2 new) w):=
 (vL lo g gc gq gt c w C).2.1
theorem EdM(lo:Nat)(g:Nat->G)(gc gq gt:Nat)(c:EF)(bad:Bool)(w:M)(C:I9 lo g gc gq gt c w): Eg Ea 51 #[Y (X ⟨gc,0,Z⟩),EU bad] w (i8 lo w.heap.size g gc gq gt (fun c2 ns new=>ns<=9/\mA bad c c2 new) w):=
 (vL lo g gc gq gt c w C).2.2.1 bad
theorem EdN(lo:Nat)(g:Nat->G)(gc gq gt:Nat)(c:EF)(va gv:Bool)(x0 x1 x2 x3:Int)(w:M)(C:I9 lo g gc gq gt c w)(hx:I4 x0/\I4 x1/\I4 x2/\I4 x3): Eg Ea 50 #[Y (X ⟨gc,0,Z⟩),EZ #[EU va,E I x0,E I x1,E I x2,E I x3,EU gv]] w (i8 lo w.heap.size g gc gq gt (fun c2 ns new=>ns<=3/\my c c2 new) w):=
 (vL lo g gc gq gt c w C).2.2.2.1 va gv x0 x1 x2 x3 hx
theorem EdP(lo:Nat)(g:Nat->G)(gc gq gt:Nat)(c:EF)(code:Int)(A:Option Ev)(n cap:Nat)(xs:List Int)(k:Int)(w:M)(C:I9 lo g gc gq gt c w)(hk:1<=k/\k<=3)(hx:xs.length=n)(hnc:n<=cap)(hcap:cap<=9223372036854775807)(mr:n<=1000)(hr:Row w A xs): Eg Ea 49 #[Y (X ⟨gc,0,Z⟩),E I k,EZ #[E I code,EJ A n cap]] w (i8 lo w.heap.size g gc gq gt (fun c2 ns new=>ns<=3/\mq g k code xs c c2 ns new) w):=
 (vL lo g gc gq gt c w C).2.2.2.2 code A n cap xs k hk hx hnc hcap mr hr
def Ui(c:EF):List G:=[E I c.tok.h,E I c.tok.e,E I c.tok.o,E I c.mode,E I c.En.r,E I c.En.s,E I c.En.q,E I c.pt.c,E I c.pt.a0,E I c.pt.a1,E I c.pt.a2,E I c.pt.a3,E I c.pt.n0,E I c.pt.n1,E I c.pt.n2,E I c.pt.n3,E I c.pt.b.r,E I c.pt.b.s,E I c.pt.b.q]
def X8(h:List G)(q:G)(o r:Nat->G)(b:G):List (List G):=[h,[q],[o 0],[o 1],[o 2],[o 3],[o 4],[r 0],[r 1],[r 2],[r 3],[r 4],[b]]
def mC(c:EF)(q:G):List G:=(X8 (Ui c) q (fun i=>EU (c.T.Zf i)) (fun i=>E I (c.T.fJ i)) (EU c.tok.bad)).flatten
theorem AQ(h:List G)(q:G)(o r:Nat->G)(b:G)(hl:h.length=19)(k:Nat)(hk:1<=k)(hk2:k<13):aB (X8 h q o r b) k=18+k:=by have h:k=1\/k=2\/k=3\/k=4\/k=5\/k=6\/k=7\/k=8\/k=9\/k=10\/k=11\/k=12:=D;rcases h with rfl|rfl|rfl|rfl|rfl|rfl|rfl|rfl|rfl|rfl|rfl|rfl<;>simp[aB,X8,hl]
theorem dG:IF Ea 54 31:=⟨⟨_,Tryz.underlying54,U⟩,Ef⟩
def XI:Array G:=(X8 ((UM 19).map fun _=>E I 0) (EJ Z 0 0) (fun _=>EU V) (fun _=>E I 0) (EU V)).flatten.toArray
theorem pF:Ow Ea 54 XI:=by exact Ekv
theorem EdQ(h e o m:Int)(br bs bq:Int)(pc a0 a1 a2 a3 n0 n1 n2 n3 qr qs qq:Int)(bad:Bool):Tryz.prog.built 54 [(0,E I h),(1,E I e),(2,E I o),(3,E I m),(4,EZ #[E I br,E I bs,E I bq]),(5,EZ #[E I pc,E I a0,E I a1,E I a2,E I a3,E I n0,E I n1,E I n2,E I n3,E I qr,E I qs,E I qq]),(9,EU bad)]=X (X8 [E I h,E I e,E I o,E I m,E I br,E I bs,E I bq,E I pc,E I a0,E I a1,E I a2,E I a3,E I n0,E I n1,E I n2,E I n3,E I qr,E I qs,E I qq] (EJ Z 0 0) (fun _=>EU V) (fun _=>E I 0) (EU bad)).flatten.toArray:=Ef
theorem Vu{q:G}{o r:Nat->G}{b:G}(h1: ∀v∈h,v.oneCell'=EI)(h2:q.oneCell'=EI)(h3: ∀i,(o i).oneCell'=EI)(h4: ∀i,(r i).oneCell'=EI)(h5:b.oneCell'=EI):(X8 h q o r b).flatten.toArray.all (·.oneCell')=EI:=by refine all_oneCell_toArray fun v hv=> ?_;simp only[X8,List.flatten_cons,List.flatten_nil,fX,Xt,OY,Uu,or_false] at hv;rcases hv with hv|rfl|rfl|rfl|rfl|rfl|rfl|rfl|rfl|rfl|rfl|rfl|rfl<;>first|exact h1 _ hv|exact h2|exact h3 _|exact h4 _|exact h5
theorem Vv(c:EF): ∀v∈Ui c,v.oneCell'=EI:=by intro v hv;simp only[Ui,OY,Uu,or_false] at hv;rcases hv with rfl|rfl|rfl|rfl|rfl|rfl|rfl|rfl|rfl|rfl|rfl|rfl|rfl|rfl|rfl|rfl|rfl|rfl|rfl<;>rfl
theorem Hq(q:G)(o r:Nat->G)(b:G)(hl:h.length=19):(X8 h q o r b).flatten.toArray.size=31:=by simp[X8,hl]
theorem Hr{P:Jd}{F:JN->G}{o:EG}{T:Ez}{parts:Array (Nat×JN)}{cs:Array G}(ho:o.op= .build T parts)(hb:P.built T (parts.toList.map fun(i,x)=>(i,F x))=X cs):(Ig F o).run P w= .ok (.value (EZ cs)) w:=by unfold Ig;simp only[ho,Om,run_build (P:=P) w T (parts.map fun(i,x)=>(i,F x)) cs (by rw[Array.toList_map];exact hb),On,Oa]
theorem EdR(lo:Nat)(g:Nat->G)(gc gq gt:Nat)(c:EF)(w:M)(C:I9 lo g gc gq gt c w): Eg Ea 27 #[Y (X ⟨gc,0,Z⟩)] w fun e w'=>(∃v,e=Eh (EZ (mC c v).toArray)/\w'.ownsRow w.heap.size 3 1 v c.q.length (UK ((Jt c.q).map One.s)))/\Ek w w':=by
 have C0:=J C;have LT:=J C.uC;have II:=J Td;clear C;have b1:=Er w (Ec XI 54);have C1:=J<|C0.out.u b1;have KR:=J<|H.new w XI 54;have B:=J b1;clear b1 C0;go_enter Tryz.func27,Tryz.ntmps27;go_wp2_with (with_reducible refine wA pF ?_);generalize w.alloc (Ec XI 54)=w1 at*;obtain⟨gr,hgr⟩:=Eo w.heap.size;have Hs:=J hgr;rw[<-hgr] at KR;refine(Vt lo g gc gq gt c _ C1.out).mono ?_;rintro e4 w4 ⟨rfl,rfl⟩;go_wp2_with fail;obtain⟨n0,hn0⟩:=Eo w1.heap.size;have XA:=J<|Ud hn0;have ZF:=J (show lo<=n0/\w.heap.size<=n0/\gr<n0/\w.heap.size<=gr by have:=LT.out;have:=B.out.size;have:=KR.out.lt;omega);clear hgr;refine gD (Ph:=fun _ wq=>I9 lo g gc gq gt c wq/\n0<=wq.heap.size/\Ek w wq/\H wq gr XI 54) (Rel:=Jn) (In:=kU 54 31 (X8 (Ui c) (EJ Z 0 0) (fun _=>EU V) (fun _=>E I 0) (EU c.tok.bad)).flatten.toArray) [.val (fun v=>v=Y (X ⟨gc,0,Z⟩)),.val (fun v=>v=Y (X ⟨gc,0,Z⟩)),.val (fun v=>v=Y (X ⟨gc,56,Z⟩)),.val (fun v=>v=Y (X ⟨gc,56,Z⟩)),.val (fun v=>v=E I c.tok.h),.val (fun v=>v=Y (X ⟨gc,0,Z⟩)),.val (fun v=>v=Y (X ⟨gc,0,Z⟩)),.val (fun v=>v=Y (X ⟨gc,56,Z⟩)),.val (fun v=>v=Y (X ⟨gc,57,Z⟩)),.val (fun v=>v=E I c.tok.e),.val (fun v=>v=Y (X ⟨gc,0,Z⟩)),.val (fun v=>v=Y (X ⟨gc,0,Z⟩)),.val (fun v=>v=Y (X ⟨gc,56,Z⟩)),.val (fun v=>v=Y (X ⟨gc,58,Z⟩)),.val (fun v=>v=E I c.tok.o),.val (fun v=>v=Y (X ⟨gc,0,Z⟩)),.val (fun v=>v=Y (X ⟨gc,0,Z⟩)),.val (fun v=>v=Y (X ⟨gc,98,Z⟩)),.val (fun v=>v=E I c.mode),.val (fun v=>v=Y (X ⟨gc,0,Z⟩)),.val (fun v=>v=Y (X ⟨gc,0,Z⟩)),.val (fun v=>v=Y (X ⟨gc,99,Z⟩)),.val (fun v=>v=EZ #[E I c.En.r,E I c.En.s,E I c.En.q]),.val (fun v=>v=Y (X ⟨gc,0,Z⟩)),.val (fun v=>v=Y (X ⟨gc,0,Z⟩)),.val (fun v=>v=Y (X ⟨gc,102,Z⟩)),.val (fun v=>v=EZ #[E I c.pt.c,E I c.pt.a0,E I c.pt.a1,E I c.pt.a2,E I c.pt.a3,E I c.pt.n0,E I c.pt.n1,E I c.pt.n2,E I c.pt.n3,E I c.pt.b.r,E I c.pt.b.s,E I c.pt.b.q]),.val (fun v=>v=Y (X ⟨gc,0,Z⟩)),.val (fun v=>v=Y (X ⟨gc,0,Z⟩)),.val (fun v=>v=Y (X ⟨gc,56,Z⟩)),.val (fun v=>v=Y (X ⟨gc,63,Z⟩)),.val (fun v=>v=EU c.tok.bad),.val (fun v=>v=EZ (X8 (Ui c) (EJ Z 0 0) (fun _=>EU V) (fun _=>E I 0) (EU c.tok.bad)).flatten.toArray),.dep (aY 54 31 n0) (fun v w w' h hr=>h.u hr) (fun v w w' h hr=>h.sz hr),.tie [33] (fun x w=> ∃b:Nat,x 33=Y (X ⟨b,0,Z⟩)/\n0<=b/\H w b (X8 (Ui c) (EJ Z 0 0) (fun _=>EU V) (fun _=>E I 0) (EU c.tok.bad)).flatten.toArray 54) (fun x w w' h hr=>o_) (fun x y w hq h=>by rw[hq 33 Ej] at h;exact h)] [V,V,V,V,V,V,V,V,V,V,V,V,V,V,V,V,V,V,V,V,V,V,V,V,V,V,V,V,V,V,V,V,V,V,EI] U [[],[],[],[],[],[],[],[],[],[],[],[],[],[],[],[],[],[],[],[],[],[],[],[],[],[],[],[],[],[],[],[],[],[],[33]] U [34] [(0,0),(0,0),(0,0),(0,0),(0,0),(0,0),(0,0),(0,0),(0,0),(0,0),(0,0),(0,0),(0,0),(0,0),(0,0),(0,0),(0,0),(0,0),(0,0),(0,0),(0,0),(0,0),(0,0),(0,0),(0,0),(0,0),(0,0),(0,0),(0,0),(0,0),(0,0),(0,0),(0,0),(0,0),(0,0)] Ef Ef Ef Ef Ef Ef O0 Ef ?hPh ?h0 ?hstep ?hend;case hPh=> intro p w2 w3 h hr;exact⟨h.1.u hr,EB h.2.1 (UQ hr),bt h.2.2.1 hr,H.u h.2.2.2 hr⟩
 case h0=> have hb:=JZ w1;exact⟨C1.out.u hb,EB (Ud hn0) (UQ hb),bt B.out hb,H.u KR.out hb⟩
 case hstep=>
  refine⟨?_,?_,?_,?_,?_,?_,?_,?_,?_,?_,?_,?_,?_,?_,?_,?_,?_,?_,?_,?_,?_,?_,?_,?_,?_,?_,?_,?_,?_,?_,?_,?_,?_,?_,?_,trivial⟩;all_goals first|intro xv wq p hlo hhi hp hd|intro xv wq hp hd
  all_goals try obtain rfl:p=0:=D
  all_goals simp only[ED,Ic,Ii,IJ,IU]
  ·exact EkN
  ·have d0:xv 0=Y (X ⟨gc,0,Z⟩):=hd.at 0 rfl;exact EnX
  ·have d1:xv 1=Y (X ⟨gc,0,Z⟩):=hd.at 1 rfl;exact Ep Xl U
  ·have d2:xv 2=Y (X ⟨gc,56,Z⟩):=hd.at 2 rfl;exact Ep GE U
  ·have d3:xv 3=Y (X ⟨gc,56,Z⟩):=hd.at 3 rfl;have cc:wq.cell? ⟨gc,56,Z⟩=X (E I c.tok.h):=hp.1.cell 1 rfl 0 Xx;exact Ep (by simp[go_sem,d3,cc]) U
  ·exact EkN
  ·have d5:xv 5=Y (X ⟨gc,0,Z⟩):=hd.at 5 rfl;exact Ep aJ U
  ·exact Emi
  ·have d7:xv 7=Y (X ⟨gc,56,Z⟩):=hd.at 7 rfl;exact Ep f_ U
  ·have d8:xv 8=Y (X ⟨gc,57,Z⟩):=hd.at 8 rfl;have cc:wq.cell? ⟨gc,57,Z⟩=X (E I c.tok.e):=hp.1.cell 1 rfl 1 Xx;exact Ep Aa U
  ·exact EkN
  ·have d10:xv 10=Y (X ⟨gc,0,Z⟩):=hd.at 10 rfl;exact Enr
  ·have d11:xv 11=Y (X ⟨gc,0,Z⟩):=hd.at 11 rfl;exact Em9
  ·have d12:xv 12=Y (X ⟨gc,56,Z⟩):=hd.at 12 rfl;exact Ep (by simp[go_sem,d12]) U
  ·have d13:xv 13=Y (X ⟨gc,58,Z⟩):=hd.at 13 rfl;have cc:wq.cell? ⟨gc,58,Z⟩=X (E I c.tok.o):=hp.1.cell 1 rfl 2 Xx;exact Ep Ht U
  ·exact EkN
  ·exact EnD
  ·exact Em0
  ·have d17:xv 17=Y (X ⟨gc,98,Z⟩):=hd.at 17 rfl;have cc:wq.cell? ⟨gc,98,Z⟩=X (E I c.mode):=hp.1.cell 9 rfl 0 Xx;exact Ep (by simp[go_sem,d17,cc]) U
  ·exact EkN
  ·have d19:xv 19=Y (X ⟨gc,0,Z⟩):=hd.at 19 rfl;exact Ep (by simp[go_sem,d19]) U
  ·exact EnB
  ·have d21:xv 21=Y (X ⟨gc,99,Z⟩):=hd.at 21 rfl;obtain⟨big,KB,OC⟩:=aT hp.1;have EX:big.extract 99 (99+3)= #[E I c.En.r,E I c.En.s,E I c.En.q]:=(OC 10 c.En.v U).trans U;exact aC EK dD (Ei U) ⟨U,d21⟩ KB U EX U
  ·exact EkN
  ·have d23:xv 23=Y (X ⟨gc,0,Z⟩):=hd.at 23 rfl;exact Ep (by simp[go_sem,d23]) U
  ·have d24:xv 24=Y (X ⟨gc,0,Z⟩):=hd.at 24 rfl;exact Ep (by simp[go_sem,d24]) U
  ·have d25:xv 25=Y (X ⟨gc,102,Z⟩):=hd.at 25 rfl;obtain⟨big,KB,OC⟩:=aT hp.1;have EX:big.extract 102 (102+12)= #[E I c.pt.c,E I c.pt.a0,E I c.pt.a1,E I c.pt.a2,E I c.pt.a3,E I c.pt.n0,E I c.pt.n1,E I c.pt.n2,E I c.pt.n3,E I c.pt.b.r,E I c.pt.b.s,E I c.pt.b.q]:=(OC 11 c.pt.v U).trans U;exact aC EK gB (Ei U) ⟨U,d25⟩ KB U EX U
  ·exact EkN
  ·have d27:xv 27=Y (X ⟨gc,0,Z⟩):=hd.at 27 rfl;exact Ep (by simp[go_sem,d27]) U
  ·have d28:xv 28=Y (X ⟨gc,0,Z⟩):=hd.at 28 rfl;exact Ep GT U
  ·have d29:xv 29=Y (X ⟨gc,56,Z⟩):=hd.at 29 rfl;exact Ep (by simp[go_sem,d29]) U
  ·have d30:xv 30=Y (X ⟨gc,63,Z⟩):=hd.at 30 rfl;have cc:wq.cell? ⟨gc,63,Z⟩=X (EU c.tok.bad):=hp.1.cell 1 rfl 7 Xx;exact Ep (by simp[go_sem,d30,cc]) U
  ·have d4:xv 4=E I c.tok.h:=hd.at 4 rfl;have d9:xv 9=E I c.tok.e:=hd.at 9 rfl;have d14:xv 14=E I c.tok.o:=hd.at 14 rfl;have d18:xv 18=E I c.mode:=hd.at 18 rfl;have d22:xv 22=EZ #[E I c.En.r,E I c.En.s,E I c.En.q]:=hd.at 22 rfl;have d26:xv 26=EZ #[E I c.pt.c,E I c.pt.a0,E I c.pt.a1,E I c.pt.a2,E I c.pt.a3,E I c.pt.n0,E I c.pt.n1,E I c.pt.n2,E I c.pt.n3,E I c.pt.b.r,E I c.pt.b.s,E I c.pt.b.q]:=hd.at 26 rfl;have d31:xv 31=EU c.tok.bad:=hd.at 31 rfl;exact Iw EK (Ei U) (Hr U (by simp only[Xs,Zu,d4,d9,d14,d18,d22,d26,d31];exact EdQ _ _ _ _ _ _ _ _ _ _ _ _ _ _ _ _ _ _ _ _)) U
  ·exact Za (Ei U) (pF _ _ _ U) (Er wq _) ⟨wq.heap.size,_,U,hp.2.1,Hq _ _ _ _ U,H.new _ _ _⟩
  ·have d32:xv 32=EZ (X8 (Ui c) (EJ Z 0 0) (fun _=>EU V) (fun _=>E I 0) (EU c.tok.bad)).flatten.toArray:=hd.at 32 rfl;obtain⟨b,c8,eA,lb,h8,kb⟩:aY 54 31 n0 (xv 33) wq:=hd.at 33 rfl;have nh:=XA.out;refine cO dG (Ei U) ⟨U,eA,d32⟩ kb h8 (Hq _ _ _ _ U) (Vu (Vv c) U (fun _=>rfl) (fun _=>rfl) U) ⟨vf (Hq _ _ _ _ U),?_⟩ ⟨b,eA,lb,kb.setRow _⟩;obtain⟨c1,n1,b1,kr⟩:=hp;have ho:=O9 (g:=b) (W:=wq) (X8 (Ui c) (EJ Z 0 0) (fun _=>EU V) (fun _=>E I 0) (EU c.tok.bad)).flatten.toArray;exact⟨c1.via (fun k cs S hS hk=>ho.El hk (E7 hk kb ZN)) (ho.bel lo vN vN),EB n1 ho.size,b1.trans (ho.bel w.heap.size vN b1.size),ho.El kr vN⟩
 case hend=>
  intro xv W6 hp hd;simp only[ED,Ic,Ii,IJ,IU];obtain⟨b,eA,lb,kb⟩: ∃b:Nat,xv 33=Y (X ⟨b,0,Z⟩)/\n0<=b/\H W6 b (X8 (Ui c) (EJ Z 0 0) (fun _=>EU V) (fun _=>E I 0) (EU c.tok.bad)).flatten.toArray 54:=hd 34 Eb;obtain⟨c6,-,b6,Vw⟩:=hp;replace C1:=J c6;replace B:=J b6;replace KR:=J Vw;have KB:Ed (Jh W6 b (X8 (Ui c) (EJ Z 0 0) (fun _=>EU V) (fun _=>E I 0) (EU c.tok.bad)) 54):=J kb;have XZ:=J (show b≠gr/\w.heap.size<=b from vN);rw[eA];clear c6 b6 Vw kb hd eA lb;have z64:W6.cell? ⟨gc,64,Z⟩=X (Y (X ⟨gq,0,Z⟩)):=C1.out.cell 2 rfl 0 Ej;go_wp2_with fail;refine(Gi lo gq c.q (pn g 48) _ C1.out.ZC C1.out.ok.q).mono ?_;rintro e8 w8 ⟨⟨v8,rfl,o8⟩,b8⟩;obtain⟨A,c8,rfl,-⟩:=aZ o8;have ZQ:=J<|fP c.q;have sE:=J C1.out.ok.q;obtain⟨n,hn⟩:=Eo c.q.length;obtain⟨SL,kj⟩:=Eo (Jt c.q);have Hm:=J hn;have cS:=J kj;have pu:Ed (n<=3):=J Hj;rw[<-hn,<-kj] at o8 ZQ;rw[show EJ A c.q.length c8= .slice A n c8 by rw[hn]];have OA:=J o8;replace C1:=J<|C1.out.u b8;replace B:=EW B b8;replace KR:=EP KR b8;replace KB:=J<|Jh.u KB.out b8;clear o8 b8 z64 hn kj sE;go_wp2_with fail;go_loopw[50] (fun y wr=> ∃(i:Nat) (A2:Option Ev) (c2:Nat),i<=n/\y=E I i/\Jh wr b (X8 (Ui c) (EJ A2 i c2) (fun _=>EU V) (fun _=>E I 0) (EU c.tok.bad)) 54/\wr.ownsRow w.heap.size 3 1 (EJ A2 i c2) i (UK ((SL.take i).map One.s))/\I9 lo g gc gq gt c wr/\H wr gr XI 54/\Ek w wr/\ ∃base,wr.ownsRow base 133 4 (EJ A n c8) n (UF SL)) (fun y _=>n-(I5 y).toNat);case atStart=>exact⟨0,Z,0,D,U,KB.out,bw _ _ _ _,C1.out,KR.out,B.out,_,OA.out⟩
  case round=>
   obtain⟨i,A2,c2,vr,rfl,Vx,o9,c9,Vy,b9,base,Vz⟩:=hrel;replace KB:=J Vx;have OI:=J o9;replace C1:=J c9;replace KR:=J Vy;replace B:=J b9;replace OA:=J Vz;clear Vx o9 c9 Vy b9 Vz;by_cases hlt:i<n;·have t1':decide ((i:Int)<(n:Int))=EI:=IE D;obtain⟨x,hx⟩: ∃x,SL[i]?=X x:=⟨SL[i]' AC,JY _⟩;obtain⟨gg,cur,rfl,ka,dJ⟩:=vp OA.out hx ZQ.out;have KA:=J ka;have dO:=J dJ;have fd:Ed ((SL.take (i+1)).map One.s=(SL.take i).map One.s++[x.s]):=J (by rw[lL,hx,jr];rfl);clear ka dJ hx;have K0:=J<|H.new wr #[E I 0,E I 0,E I 0,E I 0] 133;have b2:=Er wr (Ec #[E I 0,E I 0,E I 0,E I 0] 133);go_wp2_with (with_reducible first|refine wM (off:=i*4) (cs:= #[E I x.s,E I x.r,E I x.a,E I x.m]) i6 KA ?_ (he:=dO.out)|refine wA vq ?_|refine wS (cs:= #[E I x.s,E I x.r,E I x.a,E I x.m]) i6 K0 (Ey.mk ?_) (h1:=UP));apply Et;obtain⟨gx,hgx⟩:=Eo wr.heap.size;rw[<-hgx] at K0⊢;generalize wr.alloc (Ec #[E I 0,E I 0,E I 0,E I 0] 133)=Xz at*;have KX:=J<|K0.out.setRow #[E I x.s,E I x.r,E I x.a,E I x.m];have b3:=E6 (g:=gx) b2 (Ud hgx.symm) #[E I x.s,E I x.r,E I x.a,E I x.m];generalize Xz.setRow gx #[E I x.s,E I x.r,E I x.a,E I x.m]=JQ at*;clear K0 b2 hgx KA dO;replace C1:=J<|C1.out.u b3;replace B:=EW B b3;replace KR:=EP KR b3;replace KB:=J<|Jh.u KB.out b3;replace OA:=J<|EQ OA.out fun _ _ h=>H.u h b3;replace OI:=J<|EQ OI.out fun _ _ h=>H.u h b3;clear b3;have cq:JQ.cell? ⟨b,19,Z⟩=X (EJ A2 i c2):=(KB.out.cell 1 rfl (AQ _ _ _ _ _ U 1 D D) 0 Ej).trans U;have cx:JQ.cell? ⟨gx,0,Z⟩=X (E I x.s):=(H.cell KX.out 0).trans U;have p3:=pu.out;go_wp2_with (with_reducible refine JU 59 ?_);apply Et;have KI:=J<|H.new JQ #[E I x.s] 3;have b4:=J<|Er JQ (Ec #[E I x.s] 3);replace C1:=J<|C1.out.u b4.out;replace B:=EW B b4.out;replace KR:=EP KR b4.out;replace KB:=J<|Jh.u KB.out b4.out;replace OA:=J<|EQ OA.out fun _ _ h=>H.u h b4.out;replace OI:=J<|EQ OI.out fun _ _ h=>H.u h b4.out;clear b4 cq cx KX;generalize JQ.alloc (Ec #[E I x.s] 3)=kf at*;generalize JQ.heap.size=gb at*;obtain⟨qA,qc,qw,UG,XR,OU,-,-⟩:=cU (P:=Ea) kf w.heap.size w.heap.size 51 51 3 II.out.choose _ 1 8 Tryz.underlying51 II.out.choose_spec.1 II.out.choose_spec.2.1 II.out.choose_spec.2.2.1 II.out.choose_spec.2.2.2 rfl A2 c2 i (UK ((SL.take i).map One.s)) OI.out ⟨gb,0,Z⟩ 1 1 [E I x.s] U (fun j Y3 hu=>by rw[show(⟨gb,0,Z⟩:Ev).add j=⟨gb,j,Z⟩ from Xo];rw[H.cell KI.out,J0];exact hu) cR (fun _=>D) Oy D B.out.size (E9 _);have gw:=uA (P:=Ea) kf w.heap.size 51 51 3 II.out.choose _ 1 8 Tryz.underlying51 II.out.choose_spec.1 II.out.choose_spec.2.1 II.out.choose_spec.2.2.1 II.out.choose_spec.2.2.2 A2 c2 i (UK ((SL.take i).map One.s)) OI.out ⟨gb,0,Z⟩ 1 1 [E I x.s] U (fun j Y3 hu=>by rw[show(⟨gb,0,Z⟩:Ev).add j=⟨gb,j,Z⟩ from Xo];rw[H.cell KI.out,J0];exact hu) cR (fun _=>D) Oy D UG;go_wp2_with ((with_reducible refine It 59 ?_);(refine Jq (Ei U) (UU U U U UG) ?_);refine Ey.mk ?_);apply Et;replace OI:Ed (bM qw w.heap.size 3 1 (EJ qA (i+1) qc) (i+1) (UK ((SL.take (i+1)).map One.s))):=J (by rw[fd.out];unfold UK;rw[jr];exact XR);have Ol:Ed (Jh qw b (X8 (Ui c) (EJ A2 i c2) (fun _=>EU V) (fun _=>E I 0) (EU c.tok.bad)) 54):=J<|XN OU KB.out Eb;replace OA:=J<|EQ OA.out fun _ _ h=>XN OU h Eb;replace KR:=J<|XN OU KR.out Eb;have hbl:=OU.2.1 B.out.size;replace C1:=J<|C1.out.via (fun k cs S hS hk=>XN OU hk ZN) (hbl.mono (by have:=LT.out;omega));replace B:=J<|B.out.trans hbl;clear XR OU UG gw KI hbl KB;have cq:qw.cell? ⟨b,19,Z⟩=X (EJ A2 i c2):=(Ol.out.cell 1 rfl (AQ _ _ _ _ _ U 1 D D) 0 Ej).trans U;have fq:=Ol.out.I_ 19;have ho:=JS (g:=b) (W:=qw) 19 (EJ qA (i+1) qc);have KB3:Ed (Jh (qw.setCell ⟨b,19,Z⟩ (EJ qA (i+1) qc)) b (X8 (Ui c) (EJ qA (i+1) qc) (fun _=>EU V) (fun _=>E I 0) (EU c.tok.bad)) 54):=J<|Ol.out.set 1 rfl (AQ _ _ _ _ _ U 1 D D) [EJ qA (i+1) qc] U;have HO:=J ho;clear ho;go_wp2_with fail;refine⟨⟨i+1,qA,qc,D,Ej,KB3.out,EQ OI.out fun _ _ h=>HO.out.El h (E7 h Ol.out Eb),C1.out.via (fun k cs S hS hk=>HO.out.El hk (E7 hk Ol.out ZN)) (HO.out.bel lo gV gW),HO.out.El KR.out (X1 XZ.out.1),B.out.trans (HO.out.bel w.heap.size XZ.out.2 B.out.size),base,EQ OA.out fun _ _ h=>HO.out.El h (E7 h Ol.out Eb)⟩,J6⟩
   ·obtain rfl:i=n:=D;have t1':decide ((i:Int)<(i:Int))=V:=Ia D;have Gl:Ed (SL.take i=SL):=J<|OV (by rw[ZQ.out];exact E9 _);rw[Gl.out] at OI;clear OA;obtain⟨o0,ho0⟩:=Eo (c.T.Zf 0);obtain⟨r0,hr0⟩:=Eo (c.T.fJ 0);have AG:Ed (∀W,I9 lo g gc gq gt c W->Eg Ea 55 #[Y (X ⟨gt,0,Z⟩),E I 0] W fun e w'=>e=Eh (EU o0)/\W=w'):=J (fun W C=>by rw[ho0];exact lC gt c.T 0 W C.tab C.ok.T);have CR0:Ed (∀W,I9 lo g gc gq gt c W->Eg Ea 56 #[Y (X ⟨gt,0,Z⟩),E I 0] W fun e w'=>e=Eh (E I r0)/\W=w'):=J (fun W C=>by rw[hr0];exact qz gt c.T 0 W C.tab C.ok.T);replace ho0:=J ho0;replace hr0:=J hr0;obtain⟨o1,ho1⟩:=Eo (c.T.Zf 1);obtain⟨r1,hr1⟩:=Eo (c.T.fJ 1);have CO1:Ed (∀W,I9 lo g gc gq gt c W->Eg Ea 55 #[Y (X ⟨gt,0,Z⟩),E I 1] W fun e w'=>e=Eh (EU o1)/\W=w'):=J (fun W C=>by rw[ho1];exact lC gt c.T 1 W C.tab C.ok.T);have CR1:Ed (∀W,I9 lo g gc gq gt c W->Eg Ea 56 #[Y (X ⟨gt,0,Z⟩),E I 1] W fun e w'=>e=Eh (E I r1)/\W=w'):=J (fun W C=>by rw[hr1];exact qz gt c.T 1 W C.tab C.ok.T);replace ho1:=J ho1;replace hr1:=J hr1;obtain⟨o2,ho2⟩:=Eo (c.T.Zf 2);obtain⟨r2,hr2⟩:=Eo (c.T.fJ 2);have CO2:Ed (∀W,I9 lo g gc gq gt c W->Eg Ea 55 #[Y (X ⟨gt,0,Z⟩),E I 2] W fun e w'=>e=Eh (EU o2)/\W=w'):=J (fun W C=>by rw[ho2];exact lC gt c.T 2 W C.tab C.ok.T);have CR2:Ed (∀W,I9 lo g gc gq gt c W->Eg Ea 56 #[Y (X ⟨gt,0,Z⟩),E I 2] W fun e w'=>e=Eh (E I r2)/\W=w'):=J (fun W C=>by rw[hr2];exact qz gt c.T 2 W C.tab C.ok.T);replace ho2:=J ho2;replace hr2:=J hr2;obtain⟨o3,ho3⟩:=Eo (c.T.Zf 3);obtain⟨r3,hr3⟩:=Eo (c.T.fJ 3);have CO3:Ed (∀W,I9 lo g gc gq gt c W->Eg Ea 55 #[Y (X ⟨gt,0,Z⟩),E I 3] W fun e w'=>e=Eh (EU o3)/\W=w'):=J (fun W C=>by rw[ho3];exact lC gt c.T 3 W C.tab C.ok.T);have CR3:Ed (∀W,I9 lo g gc gq gt c W->Eg Ea 56 #[Y (X ⟨gt,0,Z⟩),E I 3] W fun e w'=>e=Eh (E I r3)/\W=w'):=J (fun W C=>by rw[hr3];exact qz gt c.T 3 W C.tab C.ok.T);replace ho3:=J ho3;replace hr3:=J hr3;obtain⟨o4,mo⟩:=Eo (c.T.Zf 4);obtain⟨r4,hr4⟩:=Eo (c.T.fJ 4);have CO4:Ed (∀W,I9 lo g gc gq gt c W->Eg Ea 55 #[Y (X ⟨gt,0,Z⟩),E I 4] W fun e w'=>e=Eh (EU o4)/\W=w'):=J (fun W C=>by rw[mo];exact lC gt c.T 4 W C.tab C.ok.T);have CR4:Ed (∀W,I9 lo g gc gq gt c W->Eg Ea 56 #[Y (X ⟨gt,0,Z⟩),E I 4] W fun e w'=>e=Eh (E I r4)/\W=w'):=J (fun W C=>by rw[hr4];exact qz gt c.T 4 W C.tab C.ok.T);replace mo:=J mo;replace hr4:=J hr4;go_wp2_with fail;refine OJ 6 ?_;obtain⟨qv,AR⟩:=Eo (EJ A2 i c2);rw[<-AR] at KB OI;replace AR:=J AR;replace KB:Ed (Jh wr b [Ui c,[qv],[EU V],[EU V],[EU V],[EU V],[EU V],[E I 0],[E I 0],[E I 0],[E I 0],[E I 0],[EU c.tok.bad]] 54):=J KB.out;have OFF:Ed (∀(x0 x1 x2 x3 x4 x5 x6 x7 x8 x9:G) (k:Nat),1<=k->k<13->aB [Ui c,[qv],[x0],[x1],[x2],[x3],[x4],[x5],[x6],[x7],[x8],[x9],[EU c.tok.bad]] k=18+k):=J<|fun x0 x1 x2 x3 x4 x5 x6 x7 x8 x9 k h1 h2=>AQ (Ui c) qv (fun i=>[x0,x1,x2,x3,x4].getD i x0) (fun i=>[x5,x6,x7,x8,x9].getD i x5) (EU c.tok.bad) U k h1 h2;have UH:wr.cell? ⟨gc,95,Z⟩=X (Y (X ⟨gt,0,Z⟩)):=C1.out.cell 6 rfl 0 Ej;rw[Ib];go_wp2_with fail;refine(AG.out _ C1.out).mono ?_;rintro e20 gQ ⟨rfl,rfl⟩;clear UH;have cs:wr.cell? ⟨b,20,Z⟩=X (EU V):=(KB.out.cell 2 rfl (OFF.out _ _ _ _ _ _ _ _ _ _ 2 D D) 0 Ej).trans U;have fs:=KB.out.I_ 20;have HO:=J<|JS (g:=b) (W:=wr) 20 (EU o0);have Ol:Ed (Jh (wr.setCell ⟨b,20,Z⟩ (EU o0)) b [Ui c,[qv],[EU o0],[EU V],[EU V],[EU V],[EU V],[E I 0],[E I 0],[E I 0],[E I 0],[E I 0],[EU c.tok.bad]] 54):=J<|KB.out.set 2 rfl (OFF.out _ _ _ _ _ _ _ _ _ _ 2 D D) [EU o0] U;have Uy:=J<|EQ OI.out fun _ _ h=>HO.out.El h (E7 h KB.out Eb);have C2:=J<|C1.out.via (fun k cs S hS hk=>HO.out.El hk (E7 hk KB.out ZN)) (HO.out.bel lo gV gW);have OP:=J<|HO.out.El KR.out (X1 XZ.out.1);have Jo:=J<|B.out.trans (HO.out.bel w.heap.size XZ.out.2 B.out.size);clear HO KB OI C1 KR B;have UH:(wr.setCell ⟨b,20,Z⟩ (EU o0)).cell? ⟨gc,95,Z⟩=X (Y (X ⟨gt,0,Z⟩)):=C2.out.cell 6 rfl 0 Ej;go_wp2_with fail;generalize wr.setCell ⟨b,20,Z⟩ (EU o0)=vP at*;have KB:=Ol;have OI:=Uy;have C1:=C2;have KR:=OP;have B:=Jo;clear Ol Uy C2 OP Jo cs fs UH;refine(CR0.out _ C1.out).mono ?_;rintro e30 w30 ⟨rfl,rfl⟩;have cs:vP.cell? ⟨b,25,Z⟩=X (E I 0):=(KB.out.cell 7 rfl (OFF.out _ _ _ _ _ _ _ _ _ _ 7 D D) 0 Ej).trans U;have fs:=KB.out.I_ 25;have HO:=J<|JS (g:=b) (W:=vP) 25 (E I r0);have Ol:Ed (Jh (vP.setCell ⟨b,25,Z⟩ (E I r0)) b [Ui c,[qv],[EU o0],[EU V],[EU V],[EU V],[EU V],[E I r0],[E I 0],[E I 0],[E I 0],[E I 0],[EU c.tok.bad]] 54):=J<|KB.out.set 7 rfl (OFF.out _ _ _ _ _ _ _ _ _ _ 7 D D) [E I r0] U;have Uy:=J<|EQ OI.out fun _ _ h=>HO.out.El h (E7 h KB.out Eb);have C2:=J<|C1.out.via (fun k cs S hS hk=>HO.out.El hk (E7 hk KB.out ZN)) (HO.out.bel lo gV gW);have OP:=J<|HO.out.El KR.out (X1 XZ.out.1);have Jo:=J<|B.out.trans (HO.out.bel w.heap.size XZ.out.2 B.out.size);clear HO KB OI C1 KR B;have UH:(vP.setCell ⟨b,25,Z⟩ (E I r0)).cell? ⟨gc,95,Z⟩=X (Y (X ⟨gt,0,Z⟩)):=C2.out.cell 6 rfl 0 Ej;go_wp2_with fail;rw[Ib];go_wp2_with fail;generalize vP.setCell ⟨b,25,Z⟩ (E I r0)=vQ at*;have KB:=Ol;have OI:=Uy;have C1:=C2;have KR:=OP;have B:=Jo;clear Ol Uy C2 OP Jo cs fs UH;refine(CO1.out _ C1.out).mono ?_;rintro e21 iY ⟨rfl,rfl⟩;have cs:vQ.cell? ⟨b,21,Z⟩=X (EU V):=(KB.out.cell 3 rfl (OFF.out _ _ _ _ _ _ _ _ _ _ 3 D D) 0 Ej).trans U;have fs:=KB.out.I_ 21;have HO:=J<|JS (g:=b) (W:=vQ) 21 (EU o1);have Ol:Ed (Jh (vQ.setCell ⟨b,21,Z⟩ (EU o1)) b [Ui c,[qv],[EU o0],[EU o1],[EU V],[EU V],[EU V],[E I r0],[E I 0],[E I 0],[E I 0],[E I 0],[EU c.tok.bad]] 54):=J<|KB.out.set 3 rfl (OFF.out _ _ _ _ _ _ _ _ _ _ 3 D D) [EU o1] U;have Uy:=J<|EQ OI.out fun _ _ h=>HO.out.El h (E7 h KB.out Eb);have C2:=J<|C1.out.via (fun k cs S hS hk=>HO.out.El hk (E7 hk KB.out ZN)) (HO.out.bel lo gV gW);have OP:=J<|HO.out.El KR.out (X1 XZ.out.1);have Jo:=J<|B.out.trans (HO.out.bel w.heap.size XZ.out.2 B.out.size);clear HO KB OI C1 KR B;have UH:(vQ.setCell ⟨b,21,Z⟩ (EU o1)).cell? ⟨gc,95,Z⟩=X (Y (X ⟨gt,0,Z⟩)):=C2.out.cell 6 rfl 0 Ej;go_wp2_with fail;generalize vQ.setCell ⟨b,21,Z⟩ (EU o1)=vR at*;have KB:=Ol;have OI:=Uy;have C1:=C2;have KR:=OP;have B:=Jo;clear Ol Uy C2 OP Jo cs fs UH;refine(CR1.out _ C1.out).mono ?_;rintro e31 w31 ⟨rfl,rfl⟩;have cs:vR.cell? ⟨b,26,Z⟩=X (E I 0):=(KB.out.cell 8 rfl (OFF.out _ _ _ _ _ _ _ _ _ _ 8 D D) 0 Ej).trans U;have fs:=KB.out.I_ 26;have HO:=J<|JS (g:=b) (W:=vR) 26 (E I r1);have Ol:Ed (Jh (vR.setCell ⟨b,26,Z⟩ (E I r1)) b [Ui c,[qv],[EU o0],[EU o1],[EU V],[EU V],[EU V],[E I r0],[E I r1],[E I 0],[E I 0],[E I 0],[EU c.tok.bad]] 54):=J<|KB.out.set 8 rfl (OFF.out _ _ _ _ _ _ _ _ _ _ 8 D D) [E I r1] U;have Uy:=J<|EQ OI.out fun _ _ h=>HO.out.El h (E7 h KB.out Eb);have C2:=J<|C1.out.via (fun k cs S hS hk=>HO.out.El hk (E7 hk KB.out ZN)) (HO.out.bel lo gV gW);have OP:=J<|HO.out.El KR.out (X1 XZ.out.1);have Jo:=J<|B.out.trans (HO.out.bel w.heap.size XZ.out.2 B.out.size);clear HO KB OI C1 KR B;have UH:(vR.setCell ⟨b,26,Z⟩ (E I r1)).cell? ⟨gc,95,Z⟩=X (Y (X ⟨gt,0,Z⟩)):=C2.out.cell 6 rfl 0 Ej;go_wp2_with fail;rw[Ib];go_wp2_with fail;generalize vR.setCell ⟨b,26,Z⟩ (E I r1)=vS at*;have KB:=Ol;have OI:=Uy;have C1:=C2;have KR:=OP;have B:=Jo;clear Ol Uy C2 OP Jo cs fs UH;refine(CO2.out _ C1.out).mono ?_;rintro e22 Vp ⟨rfl,rfl⟩;have cs:vS.cell? ⟨b,22,Z⟩=X (EU V):=(KB.out.cell 4 rfl (OFF.out _ _ _ _ _ _ _ _ _ _ 4 D D) 0 Ej).trans U;have fs:=KB.out.I_ 22;have HO:=J<|JS (g:=b) (W:=vS) 22 (EU o2);have Ol:Ed (Jh (vS.setCell ⟨b,22,Z⟩ (EU o2)) b [Ui c,[qv],[EU o0],[EU o1],[EU o2],[EU V],[EU V],[E I r0],[E I r1],[E I 0],[E I 0],[E I 0],[EU c.tok.bad]] 54):=J<|KB.out.set 4 rfl (OFF.out _ _ _ _ _ _ _ _ _ _ 4 D D) [EU o2] U;have Uy:=J<|EQ OI.out fun _ _ h=>HO.out.El h (E7 h KB.out Eb);have C2:=J<|C1.out.via (fun k cs S hS hk=>HO.out.El hk (E7 hk KB.out ZN)) (HO.out.bel lo gV gW);have OP:=J<|HO.out.El KR.out (X1 XZ.out.1);have Jo:=J<|B.out.trans (HO.out.bel w.heap.size XZ.out.2 B.out.size);clear HO KB OI C1 KR B;have UH:(vS.setCell ⟨b,22,Z⟩ (EU o2)).cell? ⟨gc,95,Z⟩=X (Y (X ⟨gt,0,Z⟩)):=C2.out.cell 6 rfl 0 Ej;go_wp2_with fail;generalize vS.setCell ⟨b,22,Z⟩ (EU o2)=vT at*;have KB:=Ol;have OI:=Uy;have C1:=C2;have KR:=OP;have B:=Jo;clear Ol Uy C2 OP Jo cs fs UH;refine(CR2.out _ C1.out).mono ?_;rintro e32 w32 ⟨rfl,rfl⟩;have cs:vT.cell? ⟨b,27,Z⟩=X (E I 0):=(KB.out.cell 9 rfl (OFF.out _ _ _ _ _ _ _ _ _ _ 9 D D) 0 Ej).trans U;have fs:=KB.out.I_ 27;have HO:=J<|JS (g:=b) (W:=vT) 27 (E I r2);have Ol:Ed (Jh (vT.setCell ⟨b,27,Z⟩ (E I r2)) b [Ui c,[qv],[EU o0],[EU o1],[EU o2],[EU V],[EU V],[E I r0],[E I r1],[E I r2],[E I 0],[E I 0],[EU c.tok.bad]] 54):=J<|KB.out.set 9 rfl (OFF.out _ _ _ _ _ _ _ _ _ _ 9 D D) [E I r2] U;have Uy:=J<|EQ OI.out fun _ _ h=>HO.out.El h (E7 h KB.out Eb);have C2:=J<|C1.out.via (fun k cs S hS hk=>HO.out.El hk (E7 hk KB.out ZN)) (HO.out.bel lo gV gW);have OP:=J<|HO.out.El KR.out (X1 XZ.out.1);have Jo:=J<|B.out.trans (HO.out.bel w.heap.size XZ.out.2 B.out.size);clear HO KB OI C1 KR B;have UH:(vT.setCell ⟨b,27,Z⟩ (E I r2)).cell? ⟨gc,95,Z⟩=X (Y (X ⟨gt,0,Z⟩)):=C2.out.cell 6 rfl 0 Ej;go_wp2_with fail;rw[Ib];go_wp2_with fail;generalize vT.setCell ⟨b,27,Z⟩ (E I r2)=vV at*;have KB:=Ol;have OI:=Uy;have C1:=C2;have KR:=OP;have B:=Jo;clear Ol Uy C2 OP Jo cs fs UH;refine(CO3.out _ C1.out).mono ?_;rintro e23 w23 ⟨rfl,rfl⟩;have cs:vV.cell? ⟨b,23,Z⟩=X (EU V):=(KB.out.cell 5 rfl (OFF.out _ _ _ _ _ _ _ _ _ _ 5 D D) 0 Ej).trans U;have fs:=KB.out.I_ 23;have HO:=J<|JS (g:=b) (W:=vV) 23 (EU o3);have Ol:Ed (Jh (vV.setCell ⟨b,23,Z⟩ (EU o3)) b [Ui c,[qv],[EU o0],[EU o1],[EU o2],[EU o3],[EU V],[E I r0],[E I r1],[E I r2],[E I 0],[E I 0],[EU c.tok.bad]] 54):=J<|KB.out.set 5 rfl (OFF.out _ _ _ _ _ _ _ _ _ _ 5 D D) [EU o3] U;have Uy:=J<|EQ OI.out fun _ _ h=>HO.out.El h (E7 h KB.out Eb);have C2:=J<|C1.out.via (fun k cs S hS hk=>HO.out.El hk (E7 hk KB.out ZN)) (HO.out.bel lo gV gW);have OP:=J<|HO.out.El KR.out (X1 XZ.out.1);have Jo:=J<|B.out.trans (HO.out.bel w.heap.size XZ.out.2 B.out.size);clear HO KB OI C1 KR B;have UH:(vV.setCell ⟨b,23,Z⟩ (EU o3)).cell? ⟨gc,95,Z⟩=X (Y (X ⟨gt,0,Z⟩)):=C2.out.cell 6 rfl 0 Ej;go_wp2_with fail;generalize vV.setCell ⟨b,23,Z⟩ (EU o3)=vW at*;have KB:=Ol;have OI:=Uy;have C1:=C2;have KR:=OP;have B:=Jo;clear Ol Uy C2 OP Jo cs fs UH;refine(CR3.out _ C1.out).mono ?_;rintro e33 w33 ⟨rfl,rfl⟩;have cs:vW.cell? ⟨b,28,Z⟩=X (E I 0):=(KB.out.cell 10 rfl (OFF.out _ _ _ _ _ _ _ _ _ _ 10 D D) 0 Ej).trans U;have fs:=KB.out.I_ 28;have HO:=J<|JS (g:=b) (W:=vW) 28 (E I r3);have Ol:Ed (Jh (vW.setCell ⟨b,28,Z⟩ (E I r3)) b [Ui c,[qv],[EU o0],[EU o1],[EU o2],[EU o3],[EU V],[E I r0],[E I r1],[E I r2],[E I r3],[E I 0],[EU c.tok.bad]] 54):=J<|KB.out.set 10 rfl (OFF.out _ _ _ _ _ _ _ _ _ _ 10 D D) [E I r3] U;have Uy:=J<|EQ OI.out fun _ _ h=>HO.out.El h (E7 h KB.out Eb);have C2:=J<|C1.out.via (fun k cs S hS hk=>HO.out.El hk (E7 hk KB.out ZN)) (HO.out.bel lo gV gW);have OP:=J<|HO.out.El KR.out (X1 XZ.out.1);have Jo:=J<|B.out.trans (HO.out.bel w.heap.size XZ.out.2 B.out.size);clear HO KB OI C1 KR B;have UH:(vW.setCell ⟨b,28,Z⟩ (E I r3)).cell? ⟨gc,95,Z⟩=X (Y (X ⟨gt,0,Z⟩)):=C2.out.cell 6 rfl 0 Ej;go_wp2_with fail;rw[Ib];go_wp2_with fail;generalize vW.setCell ⟨b,28,Z⟩ (E I r3)=vY at*;have KB:=Ol;have OI:=Uy;have C1:=C2;have KR:=OP;have B:=Jo;clear Ol Uy C2 OP Jo cs fs UH;refine(CO4.out _ C1.out).mono ?_;rintro e24 w24 ⟨rfl,rfl⟩;have cs:vY.cell? ⟨b,24,Z⟩=X (EU V):=(KB.out.cell 6 rfl (OFF.out _ _ _ _ _ _ _ _ _ _ 6 D D) 0 Ej).trans U;have fs:=KB.out.I_ 24;have HO:=J<|JS (g:=b) (W:=vY) 24 (EU o4);have Ol:Ed (Jh (vY.setCell ⟨b,24,Z⟩ (EU o4)) b [Ui c,[qv],[EU o0],[EU o1],[EU o2],[EU o3],[EU o4],[E I r0],[E I r1],[E I r2],[E I r3],[E I 0],[EU c.tok.bad]] 54):=J<|KB.out.set 6 rfl (OFF.out _ _ _ _ _ _ _ _ _ _ 6 D D) [EU o4] U;have Uy:=J<|EQ OI.out fun _ _ h=>HO.out.El h (E7 h KB.out Eb);have C2:=J<|C1.out.via (fun k cs S hS hk=>HO.out.El hk (E7 hk KB.out ZN)) (HO.out.bel lo gV gW);have OP:=J<|HO.out.El KR.out (X1 XZ.out.1);have Jo:=J<|B.out.trans (HO.out.bel w.heap.size XZ.out.2 B.out.size);clear HO KB OI C1 KR B;have UH:(vY.setCell ⟨b,24,Z⟩ (EU o4)).cell? ⟨gc,95,Z⟩=X (Y (X ⟨gt,0,Z⟩)):=C2.out.cell 6 rfl 0 Ej;go_wp2_with fail;generalize vY.setCell ⟨b,24,Z⟩ (EU o4)=v_ at*;have KB:=Ol;have OI:=Uy;have C1:=C2;have KR:=OP;have B:=Jo;clear Ol Uy C2 OP Jo cs fs UH;refine(CR4.out _ C1.out).mono ?_;rintro e34 w34 ⟨rfl,rfl⟩;have cs:v_.cell? ⟨b,29,Z⟩=X (E I 0):=(KB.out.cell 11 rfl (OFF.out _ _ _ _ _ _ _ _ _ _ 11 D D) 0 Ej).trans U;have fs:=KB.out.I_ 29;have HO:=J<|JS (g:=b) (W:=v_) 29 (E I r4);have Ol:Ed (Jh (v_.setCell ⟨b,29,Z⟩ (E I r4)) b [Ui c,[qv],[EU o0],[EU o1],[EU o2],[EU o3],[EU o4],[E I r0],[E I r1],[E I r2],[E I r3],[E I r4],[EU c.tok.bad]] 54):=J<|KB.out.set 11 rfl (OFF.out _ _ _ _ _ _ _ _ _ _ 11 D D) [E I r4] U;have Uy:=J<|EQ OI.out fun _ _ h=>HO.out.El h (E7 h KB.out Eb);have C2:=J<|C1.out.via (fun k cs S hS hk=>HO.out.El hk (E7 hk KB.out ZN)) (HO.out.bel lo gV gW);have OP:=J<|HO.out.El KR.out (X1 XZ.out.1);have Jo:=J<|B.out.trans (HO.out.bel w.heap.size XZ.out.2 B.out.size);clear HO KB OI C1 KR B;have UH:(v_.setCell ⟨b,29,Z⟩ (E I r4)).cell? ⟨gc,95,Z⟩=X (Y (X ⟨gt,0,Z⟩)):=C2.out.cell 6 rfl 0 Ej;go_wp2_with fail;rw[Ib];generalize v_.setCell ⟨b,29,Z⟩ (E I r4)=VA at*;have KB:=Ol;have OI:=Uy;have C1:=C2;have KR:=OP;have B:=Jo;clear Ol Uy C2 OP Jo cs fs UH;obtain⟨sv,hsv⟩: ∃sv,sv=([Ui c,[qv],[EU o0],[EU o1],[EU o2],[EU o3],[EU o4],[E I r0],[E I r1],[E I r2],[E I r3],[E I r4],[EU c.tok.bad]]:List (List G)).flatten.toArray:=⟨_,U⟩;have Hu:Ed (sv.size=31):=J (by rw[hsv];simp[Ui]);have SVO:Ed (sv.all (·.oneCell')=EI):=J (by rw[hsv];exact Vu (h:=Ui c) (q:=qv) (o:=fun i=>[EU o0,EU o1,EU o2,EU o3,EU o4].getD i (EU o0)) (r:=fun i=>[E .i64 r0,E I r1,E I r2,E I r3,E I r4].getD i (E I r0)) (b:=EU c.tok.bad) (Vv c) (by rw[AR.out];rfl) (fun i=>VB) (fun i=>VB) U);have KF:Ed (H VA b sv 54):=J (by rw[hsv];exact KB.out);have qM:=J hsv;clear hsv KB;have hgr:=Hs.out;subst hgr;go_wp2_with (with_reducible first|refine wL dG KF ?_ (hn:=Hu.out)|refine wS (cs:=sv) dG KR ?_ (hn:=Hu.out) (h1:=SVO.out));refine EV (JB dG U _ _ w.heap.size sv U (KR.out.setRow sv) Hu.out) U ?_;refine⟨⟨qv,?_,?_⟩,E6 (g:=w.heap.size) B.out ZF.out.2.2.2 sv⟩;·rw[qM.out,ho0.out,ho1.out,ho2.out,ho3.out,mo.out,hr0.out,hr1.out,hr2.out,hr3.out,hr4.out];rfl
    ·rw[<-Hm.out,<-cS.out];exact EQ OI.out fun _ _ h=>(O9 (g:=w.heap.size) (W:=VA) sv).El h (E7 h KR.out Eb)
theorem JV:IF Ea 101 4:=⟨⟨_,Tryz.underlying101,U⟩,Ef⟩
theorem Ed6(x z:Int)(h0:0<=x)(h1:x<=255)(x0:0<=z)(x1:z<=255):Iu .or .u16 (x*256) z=x*256+z:=by obtain⟨m,rfl⟩:=ib h0;obtain⟨y,rfl⟩:=ib x0;have e:((m:Int)*256)=((m*256:Nat):Int):=Ej;rw[e,u16_or_nat _ _ D D,nat_join 8 _ _ D D];simp
def pG(W:M)(base:Nat)(f:bN)(v:G):Prop:= ∃(A:Option Ev) (c:Nat),v=EZ #[E I f.kd,E I f.sz,E I f.cd,EJ A f.b.length c]/\Own W base A c f.b
theorem ag{gz:Nat}{c:Nat}{z:Array G}(h:Own W base A c xs)(K:H W gz z 101)(tv:Array G):Own (W.setRow gz tv) base A c xs:=
 ⟨EQ h.1 fun _ _ h2=>(O9 tv).El h2 (E7 h2 K Eb),h.2⟩
theorem sJ(W:M)(base:Nat)(f:bN)(h:f.b=[]):pG W base f (EZ #[E I f.kd,E I f.sz,E I f.cd,EJ Z 0 0]):=⟨Z,0,by rw[h];rfl,by rw[h];exact XY _ _⟩
theorem AV(cd:Int)(w:M): Eg Ea 116 #[E I cd] w fun e w'=>e=Eh (EZ #[E I 3,E I 1,E I cd,EJ Z 0 0])/\Ek w w':=by go_enter Tryz.func116,Tryz.ntmps116;go_wp2_with fail;refine EV (v:=EZ #[E I 3,E I 1,E I cd,EJ Z 0 0]) (by simp[UW,Tryz.results116,go_sem]) U ?_;exact⟨U,Er _ _⟩
theorem wE(A:Option Ev)(xs:List Int)(n c:Nat)(w:M)(hn:xs.length=n)(h1:1<=n)(hr:Row w A xs)(hm:n<=9223372036854775807): Eg Ea 117 #[EJ A n c] w fun e w'=>e=Eh (EZ #[E I 1,E I (Uw xs),E I 0,EJ Z 0 0])/\Ek w w':=by
 have hle:Uw xs<=n:=by rw[<-hn];exact GJ xs
 have HR:=J hr;have HN:=J hn;clear hr hn;generalize hz:Uw xs=z at*;replace hz:=J hz;go_enter Tryz.func117,Tryz.ntmps117;go_wp2_with fail;refine(Eao A xs n c _ HN.out h1 (HR.out.u (Er _ _))).mono ?_;rintro e w2 ⟨rfl,rfl⟩;rw[hz.out];by_cases hlt:z<n;·rw[if_pos hlt];have t1:decide ((z:Int)<0)=V:=Ia D;exact EmH
 ·rw[if_neg hlt];obtain rfl:z=n:=D;exact EmH
theorem Ed7(b off:Nat)(a v:Int)(k:Nat)(r:List Int)(n c:Nat)(w:M)(hn:r.length+3=n)(hr:Row w (X ⟨b,off,Z⟩) (a::v::(k:Int)::r))(hc:n<=c)(hm:c<=9223372036854775807): Eg Ea 115 #[EJ (X ⟨b,off,Z⟩) n c] w fun e w'=>(∃Y3,e=Eh Y3/\pG w' w.heap.size (dx v k r) Y3)/\Ek w w':=by
 have hk:k<=255:=by have:=hr.2 k Ej;omega
 have b1:=Er w (Ec #[E I 0,E I 0,E I 0,EJ Z 0 0] 101);replace hr:=IH hr b1;have HB1:=J b1
 have c2:(w.alloc (Ec #[E I 0,E I 0,E I 0,EJ Z 0 0] 101)).cell? ⟨b,off+2,Z⟩=X (E IT (k:Int)):=by
  rcases hr.1 with h|⟨b',off',e,h⟩;·cases h
  ·injection e with e;injection e with e1 e2 e3;subst e1 e2;exact h 2 Ej
 have i2:2<n:=D;have HR:=J hr;have HN:=J hn;clear hr hn b1;unfold dx;have K0:=J<|H.new w #[E I 0,E I 0,E I 0,EJ Z 0 0] 101;by_cases h32:(32:Int)<k;·rw[if_pos h32];have t1:decide ((32:Int)<(k:Int))=EI:=IE h32;go_enter Tryz.func115,Tryz.ntmps115;go_wp2_with fail;refine(AV 11 _).mono ?_;rintro e w2 ⟨rfl,b2⟩;replace K0:=EP K0 b2;replace HB1:=EW HB1 b2;obtain⟨tv,Ik⟩:=Eo (#[E I 3,E I 1,E I 11,EJ Z 0 0]:Array G);have TS:Ed (tv.size=4):=J dH;have TO:Ed (tv.all (·.oneCell')=EI):=J dK;rw[<-Ik];replace Ik:=J Ik;go_wp2_with (with_reducible refine wS (cs:=tv) JV K0 ?_ (hn:=TS.out) (h1:=TO.out));refine EV (JB JV U _ _ w.heap.size tv U (K0.out.setRow tv) TS.out) U ?_;rw[Ik.out];exact⟨⟨_,U,sJ _ _ (iC 11) U⟩,E6 HB1.out (E9 _) _⟩
 rw[if_neg h32];have t1:decide ((32:Int)<(k:Int))=V:=Ia h32;by_cases hw:(r.length:Int)<(k:Int)+2;·rw[if_pos hw];have t2:decide ((n:Int)<3+(k:Int)+2)=EI:=IE J2;go_enter Tryz.func115,Tryz.ntmps115;obtain⟨tv,Ik⟩:=Eo (#[E I 0,E I 0,E I 0,EJ Z 0 0]:Array G);have TS:Ed (tv.size=4):=J dH;have TO:Ed (tv.all (·.oneCell')=EI):=J dK;have BS:Ed (Tryz.prog.built 101 [(0,E I 0)]=X tv):=J (by rw[Ik];kernel_rfl);replace Ik:=J Ik;go_wp2_with (first|((with_reducible refine It 19 ?_);refine JO rfl 101 _ rfl tv BS.out ?_)|(with_reducible refine wS (cs:=tv) JV K0 ?_ (hn:=TS.out) (h1:=TO.out)));refine EV (JB JV U _ _ w.heap.size tv U (K0.out.setRow tv) TS.out) U ?_;rw[Ik.out];exact⟨⟨_,U,sJ _ _ bP U⟩,E6 HB1.out (E9 _) _⟩
 rw[if_neg D];have t2:decide ((n:Int)<3+(k:Int)+2)=V:=Ia J2;obtain⟨f,hf⟩: ∃f,f=if Xy (v::(k:Int)::r.take (k:Int).toNat)≠256*r.getD (k:Int).toNat 0+r.getD ((k:Int).toNat+1) 0 then iC 12 else oz (r.take (k:Int).toNat):=⟨_,U⟩
 rw[<-hf];rw[kL] at hf;go_enter Tryz.func115,Tryz.ntmps115;go_wp2_with fail;obtain⟨w1,hw1⟩: ∃w1,w1=w.alloc (Ec #[E I 0,E I 0,E I 0,EJ Z 0 0] 101):=⟨_,U⟩;rw[<-hw1] at HR HB1 K0⊢;clear c2 hw1;have i3:3+k<n:=J2;have i4:3+k+1<n:=J2;have i5:3+k<=c:=D;obtain⟨x,hx⟩: ∃x,r[k]?=X x:=⟨r[k]' D,JY _⟩;obtain⟨z,hz⟩: ∃z,r[k+1]?=X z:=⟨r[k+1]' D,JY _⟩
 have cellAt: ∀(i:Nat) (Y3:Int),(a::v::(k:Int)::r)[i]?=X Y3-> ∀y:Ext w1,(EA w1 y).cell? ⟨b,off+i,Z⟩=X (E IT Y3):=fun i Y3 h y=>by
  rcases(IH HR.out (EL y)).1 with h2|⟨b',off',e,h2⟩;·cases h2
  ·injection e with e;injection e with e1 e2 e3;subst e1 e2;obtain⟨hi,he⟩:=Xr.1 h;rw[h2 i hi,he]
 have yx:=cellAt (3+k) x (by rw[Nat.add_comm 3 k];exact hx);have yz:=cellAt (3+k+1) z (by rw[show 3+k+1=k+1+3 from D];exact hz);have xb:0<=x/\x<=255:=HR.out.2 x (Z5 _ (Z5 _ (Z5 _ (cG hx))));have zb:0<=z/\z<=255:=HR.out.2 z (Z5 _ (Z5 _ (Z5 _ (cG hz))));clear cellAt;have RC:Ed (Row w1 (X ⟨b,off+1,Z⟩) (v::(k:Int)::r.take k)):=J (by have:=qI (lN HR.out 1) (k+2);simpa using this);have LC:Ed ((v::(k:Int)::r.take k).length=2+k):=J (by have:=HN.out;simp;omega);obtain⟨cr,hcr⟩:=Eo (Xy (v::(k:Int)::r.take k));have CS:Ed (∀(y:Ext w1) (cc:Nat),Eg Ea 157 #[EJ (X ⟨b,off+1,Z⟩) (2+k) cc] (EA w1 y) fun e w'=>e=Eh (.int .u16 cr)/\EA w1 y=w'):=J (fun y cc=>by rw[hcr];exact Q8 _ _ _ _ _ LC.out (IH RC.out (EL y)) D);refine Zs Ef Ef ?_;repeat (go_big_quiet_step (go_loud (with_reducible refine Xp (CS.out _ _))))
 refine I2 ?_;intro _ hw';obtain⟨y9,rfl⟩:=hw';have En:=EL y9;have VD:(Xy (v::(k:Int)::r.take k) !=Iu .or .u16 (x*256) z)=(Xy (v::(k:Int)::r.take k) !=256*x+z):=by rw[Ed6 x z xb.1 xb.2 zb.1 zb.2,Int.mul_comm]
 simp only[VD];rw[Uj,Uj,hx,hz] at hf;simp only[Option.getD_some] at hf;replace K0:=EP K0 En;replace HB1:=EW HB1 En;replace HR:=J<|IH HR.out En;clear En VD CS RC LC yx yz xb zb hcr hx hz;generalize EA w1 y9=w2 at*;clear y9 w1;by_cases hq:Xy (v::(k:Int)::r.take k)=256*x+z
 ·rw[if_neg (by simp[hq])] at hf;subst hf;have tq:(Xy (v::(k:Int)::r.take k) !=256*x+z)=V:=by rw[hq];simp
  have hlen:(r.take k).length=k:=by rw[ZJ];have:=HN.out;omega
  have RD:Ed (Row w2 (X ⟨b,off+3,Z⟩) (r.take k)):=J (by have:=qI (lN HR.out 3) k;simpa using this);simp only[tq];go_wp2_with fail;refine(Ean (X ⟨b,off+3,Z⟩) (r.take k) k (c-3) _ hlen RD.out D).mono ?_;rintro e w3 ⟨⟨A',c',rfl,ow⟩,b2⟩;have OW:=J<|cB ow (show w.heap.size<=w2.heap.size from HB1.out.size);replace K0:=EP K0 b2;replace HB1:=EW HB1 b2;clear ow b2 RD;have eS:(3+(k:Int)+2)=((k+5:Nat):Int):=D;rw[eS];obtain⟨tv,Ik⟩:=Eo (#[E I 2,E I ((k+5:Nat):Int),E I 0,EJ A' k c']:Array G);have TS:Ed (tv.size=4):=J dH;have TO:Ed (tv.all (·.oneCell')=EI):=J dK;have BS:Ed (Tryz.prog.built 101 [(0,E I 2),(1,E I ((k+5:Nat):Int)),(3,EJ A' k c')]=X tv):=J (by rw[Ik];kernel_rfl);replace Ik:=J Ik;go_wp2_with (first|((with_reducible refine It 45 ?_);refine JO rfl 101 _ rfl tv BS.out ?_)|(with_reducible refine wS (cs:=tv) JV K0 ?_ (hn:=TS.out) (h1:=TO.out)));refine EV (JB JV U _ _ w.heap.size tv U (K0.out.setRow tv) TS.out) U ?_;rw[Ik.out];exact⟨⟨_,U,⟨A',c',by simp only[oz,hlen],ag OW.out K0.out _⟩⟩,E6 HB1.out (E9 _) _⟩
 ·rw[if_pos hq] at hf;subst hf;have tq:(Xy (v::(k:Int)::r.take k) !=256*x+z)=EI:=qn;simp only[tq];clear tq hq i3 i4 i5 i2;go_wp2_with fail;refine(AV 12 _).mono ?_;rintro e w3 ⟨rfl,b2⟩;replace K0:=EP K0 b2;replace HB1:=EW HB1 b2;obtain⟨tv,Ik⟩:=Eo (#[E I 3,E I 1,E I 12,EJ Z 0 0]:Array G);have TS:Ed (tv.size=4):=J dH;have TO:Ed (tv.all (·.oneCell')=EI):=J dK;rw[<-Ik];replace Ik:=J Ik;go_wp2_with (with_reducible refine wS (cs:=tv) JV K0 ?_ (hn:=TS.out) (h1:=TO.out));refine EV (JB JV U _ _ w.heap.size tv U (K0.out.setRow tv) TS.out) U ?_;rw[Ik.out];exact⟨⟨_,U,sJ _ _ (iC 12) U⟩,E6 HB1.out (E9 _) _⟩
theorem pH{b off:Nat}(h:Row W (X ⟨b,off,Z⟩) xs)(i:Nat){Y3:Int}(hi:xs[i]?=X Y3):W.cell? ⟨b,off+i,Z⟩=X (E IT Y3):=by
 obtain⟨hl,he⟩:=Xr.1 hi;rcases h.1 with h2|⟨b',off',e,h2⟩;·rw[h2] at hl;exact absurd hl Ej
 ·injection e with e;injection e with e1 e2 e3;subst e1 e2;rw[h2 i hl,he]
end Go.Proofs.YtclmichaaiohjaaGreatDoor
