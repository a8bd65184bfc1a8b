import Derived.Test.YtclmichaaiohjaaGreatDoorU11
import Derived.RangeFuncRecord
set_option maxRecDepth 100000
set_option linter.unusedVariables false
set_option linter.unusedSimpArgs false
set_option maxHeartbeats 6400000
namespace Go.Proofs.YtclmichaaiohjaaGreatDoor
open RowKit
open And renaming intro->Jp
open _root_.Array renaming replicate->bh,getElem?_eq_some_iff->J6
open Bool renaming true->EI,false->B,and_eq_true->Oc
open Go renaming World->H,Calls->Ef,TypeId->EB,Value->Y,Addr->Eu,Program->Jh,bodyPost_ret->EV,Exit->UM,Act->E6,Oper->EL,yielded->JO,execOp->If,undef->I2,Operand->J7,below_setRow->E2,wpQuiet_nil->I1,callFunc->Jd,results_none->UQ,Ending->Uh,wpList_store_mid->Ui,wpListIn->ax
open Act renaming put->Ig
open Code renaming region->aG
open Ending renaming returned->Eg
open Fence renaming wide->XT
open IntKind renaming i64->I
open Lib renaming hid->J
open Obj renaming cells->EJ
open Go.Proofs.Tryz renaming prog->Eb
open Region renaming wanted->I5
open RowKit renaming Hid->Ec,intOf->Ir
open RowKit.Below renaming refl->E9,size->U8
open Value renaming bool->EU,int->E,agg->EZ,slice->G,tuple->Et,pointer->M,oneCell'->OF
open World renaming block_lt_of_cell?->Xv
open List renaming getElem?_eq_getElem->J5,getElem?_eq_some_iff->Xx,mem_iff_getElem?->fC,take_succ_cons->Iq,length_take->aO,take_of_length_le->OY,getElem?_append_right->aX,map_cons->Uv,map_nil->Xn,take_zero->Io,mem_map->dU,getElem?_toArray->OE,setIfInBounds_toArray->Ii,length_append->IY,length_cons->ZC,mem_cons->UJ,append_assoc->XI,set_cons_succ->Ia,set_cons_zero->Ib,mem_append->XM,nil_append->ZV,not_mem_nil->UA,drop_succ_cons->IP,drop_zero->IH,take_add_one->nE,all_nil->ah,all_cons->Z0,mem_of_getElem?->dn
open Nat renaming le_trans->Ez,le_refl->E7,zero_add->OD,zero_le->bG,reduceAdd->ZK,le_of_lt->am,le_of_eq->Om
open Option renaming some->Z,none->X
open KQ
variable{ge gb d gm lo hi l b gs size n base g ga gr Y_ m k:Nat}{A:Option Eu}{W W' w w':H}{Q:UM->E6->H->Prop}{o o2:Obj}{a:E6}{v sv rv:Y}{R:Uh->H->Prop}{c c':Ey}{new:List Rec}{cs:Array Y}{xs act:List Y}{P:Jh}{rc:Loop}{hd:List Int}{S:EB}
theorem nN:IG Eb 48 10:=⟨⟨_,Tryz.underlying48,O⟩,Ed⟩
theorem JI.one(e:JI)(A:Option Eu)(d:Nat):(e.cells A d).toArray.all (·.oneCell')=EI:=by simp[JI.cells,JI.Y5,OF]
structure XV(ge gb:Nat)(e:JI)(A:Option Eu)(d gm:Nat)(W:H):Prop where
 ev:D W ge (e.cells A d).toArray 48
 mb:D W gb #[M (Z ⟨gm,0,X⟩)] 32
theorem XV.via{e:JI}(h:XV ge gb e A d gm W)(h1: ∀k c,D W k c 48->D W' k c 48)(h2: ∀k c,D W k c 32->D W' k c 32):XV ge gb e A d gm W':=⟨h1 _ _ h.ev,h2 _ _ h.mb⟩
theorem XV.mut{e:JI}(h:XV ge gb e A d gm W)(m:Ew lo hi W W'):XV ge gb e A d gm W':=h.via (fun _ _ hk=>m.Ek hk Ea Ea) (fun _ _ hk=>m.Ek hk Ea Ea)
theorem XV.y{e:JI}(h:XV ge gb e A d gm W)(m:dL hi W W'):XV ge gb e A d gm W':=h.via (fun _ _ hk=>m.Ek _ _ _ Ea hk) (fun _ _ hk=>m.Ek _ _ _ Ea hk)
theorem XV.V{e:JI}(h:XV ge gb e A d gm W)(m:El W W'):XV ge gb e A d gm W':=h.via (fun _ _ hk=>hk.V m) (fun _ _ hk=>hk.V m)
structure nP(lo hi l:Nat)(RA:Ey->Nat->List Rec->H->Prop):Prop where
 lh:lo<=hi
 gd: ∀c m new W,RA c m new W->hi<=W.heap.size
 V: ∀c m new W W',RA c m new W->El W W'->RA c m new W'
 mu: ∀c m new W W',RA c m new W->Ew lo W.heap.size W W'->RA c m new W'
 only: ∀c m new W W' gs cs,RA c m new W->D W gs cs 122->E3 gs W W'->RA c m new W'
 Dg: ∀(c c':Ey) (m:Nat) (new:List Rec) (W:H) (sv rv:Y) (ns:Nat) (nw:List Rec) (sc:sU) (hd:List Int) (b:Nat),RA c m new W->hd.length=32->(∀x∈hd,0<=x/\x<=255)->W.ownsRow b 264 2 sv ns sc.l->W.ownsRow b 58 6 rv nw.length (Uw nw)->m<=100000->new.length<=100000->ns<=15->nw.length<=13->
  YieldAt XT 8 Eb l #[EZ (I8 (Jo c') sv rv hd).toArray] W fun en W'=>en=Eg (EU EI)/\RA c' (m+ns) (new++nw) W'/\dL hi W W'
theorem Dh{ops:Array EL}{rest:List EL}{o:EL}(hw:I5 o (JO ops a.tmps)=EI)(hY:YieldAt XT 8 Eb l #[v] W R)(he: ∀nx,(Instr.yield l #[v]).run Eb W= .ok nx W->(If a.eval o).run Eb W= .ok nx W)(hd: ∀c,o.op≠ .defer c) (hk: ∀e W',R e W'-> ∃Y3,e=Eg Y3/\ax XT 9 Eb ops Q rest (a.put o.dst Y3) W'):ax XT 9 Eb ops Q (o::rest) a W:=by obtain⟨fn,tmps,assign,body,hy,hR⟩:=hY;unfold ax;rw[if_pos hw];refine⟨fun _ _=>trivial,?_⟩;rw[show o.semAt Fence.wide.round a.eval=If a.eval o from rfl,he _ hy];refine⟨fun _=>U,hR.mono ?_⟩;intro e W' h;obtain⟨Y3,rfl,h2⟩:=hk e W' h;exact h2
theorem qo.len{b:Bool}(h:qo b c c' new):new.length<=1:=by rcases h with⟨_,_,rfl⟩|⟨_,_,_,_,_,_,_,_,⟨rfl,_⟩|rfl⟩<;>simp
theorem qn.len(h:qn c c' new):new.length<=1:=by obtain⟨_,_,_,⟨_,rfl⟩|⟨_,_,_,rfl⟩|⟨_,_,_,_,_,_,_,rfl⟩|⟨rfl,_⟩⟩:=h<;>simp
def nQ(lo hi:Nat)(g:Nat->Y)(a:UK)(e:JI)(c:Ey)(rs:Int->List Int)(RA:Ey->Nat->List Rec->H->Prop)(W:H)(en:Uh)(W':H):Prop:=
 (∃v,en=Eg v)/\ ∃(c':Ey) (rs':Int->List Int) (m:Nat) (new:List Rec),Jq lo g a c' rs' W'/\RA c' m new W'/\CY g e c rs c' rs' m new/\new.length<=5000/\JF lo hi W W'
theorem Eg7(lo hi l ge gb:Nat)(g:Nat->Y)(a:UK)(c:Ey)(rs:Int->List Int)(e:JI)(A:Option Eu)(d:Nat)(RA:Ey->Nat->List Rec->H->Prop)(w:H)(Y7:nP lo hi l RA)(Y8:Jq lo g a c rs w)(K:XV ge gb e A d a.gm w)(R0:RA c 0 [] w)(hk:e.kind=3): Ef Eb 47 #[.func (.yield l) #[] #[],M (Z ⟨ge,0,X⟩),M (Z ⟨gb,0,X⟩)] w (nQ lo hi g a e c rs RA w):=by
 have ck:w.cell? ⟨ge,0,X⟩=Z (E I e.kind):=(D.cell K.ev 0).trans O;have cm:w.cell? ⟨gb,0,X⟩=Z (M (Z ⟨a.gm,0,X⟩)):=(D.cell K.mb 0).trans O;have cc:w.cell? ⟨a.gm,0,X⟩=Z (M (Z ⟨a.gc,0,X⟩)):=(D.cell Y8.Ek 0).trans O;have t0:(e.kind==0)=B:=iP;have t1:(e.kind==1)=B:=iP;have t2:(e.kind==2)=B:=iP;have t3:(e.kind==3)=EI:=iP;have YY:=J Y7;have MM:=J Y8;have KK:=J K;have RR:=J R0;have HK:=J hk;clear Y7 Y8 K R0;clear hk;go_enter Tryz.func47,Tryz.ntmps47;generalize hc:aG 13 _ _=c13;go_wp2_with fail;subst hc;refine(wpIn_wide (n:=9)).1 (wpIn_region_lit ?_);refine xI 6 (.inl O) xw Ed ?_;simp only[Iq,Io,IP,IH];go_wp2_with fail;refine(Ef7 lo g a.gc a.gq a.gt c _ MM.out.core).mono ?_;rintro e2 w2 ⟨c',ns,new,sv,rv,sc,hd,rfl,JT,Ol,os,Ob,C2,⟨hns,hnl,hR⟩,mm⟩;go_wp2_with fail;have RW:=YY.out.mu c 0 [] w w2 RR.out mm;refine Dh (Ei O) (YY.out.Dg c c' 0 [] w2 sv rv ns new sc hd w.heap.size RW JT Ol os Ob U Eh U U) (fun nx hy=> ?_) (fun _ h=>XE) ?_;·simp[go_sem,hy]
 rintro e3 w3 ⟨rfl,r3,y3⟩;refine⟨_,O,wpListIn_nil ?_⟩;go_wp2_with fail;go_end0;rw[ZV,OD] at r3;refine⟨⟨_,O⟩,c',rs,ns,new,(MM.out.mut mm C2).y y3 YY.out.lh,r3,?_,U,(JF.xt mm YY.out.lh (YY.out.gd _ _ _ _ RR.out) (E7 _)).trans (JF.ti y3 YY.out.lh)⟩;exact .inr (.inr (.inr (.inl ⟨HK.out,O,hR⟩)))
theorem Eg8(lo hi l ge gb:Nat)(g:Nat->Y)(a:UK)(c:Ey)(rs:Int->List Int)(e:JI)(A:Option Eu)(d:Nat)(RA:Ey->Nat->List Rec->H->Prop)(w:H)(Y7:nP lo hi l RA)(Y8:Jq lo g a c rs w)(K:XV ge gb e A d a.gm w)(R0:RA c 0 [] w)(hk:e.kind=2): Ef Eb 47 #[.func (.yield l) #[] #[],M (Z ⟨ge,0,X⟩),M (Z ⟨gb,0,X⟩)] w (nQ lo hi g a e c rs RA w):=by
 have ck:w.cell? ⟨ge,0,X⟩=Z (E I e.kind):=(D.cell K.ev 0).trans O;have cm:w.cell? ⟨gb,0,X⟩=Z (M (Z ⟨a.gm,0,X⟩)):=(D.cell K.mb 0).trans O;have cc:w.cell? ⟨a.gm,0,X⟩=Z (M (Z ⟨a.gc,0,X⟩)):=(D.cell Y8.Ek 0).trans O;have t0:(e.kind==0)=B:=iP;have t1:(e.kind==1)=B:=iP;have t2:(e.kind==2)=EI:=iP;have YY:=J Y7;have MM:=J Y8;have KK:=J K;have RR:=J R0;have HK:=J hk;clear Y7 Y8 K R0;clear hk;go_enter Tryz.func47,Tryz.ntmps47;go_wp2_with fail;have ym: ∀y:Ext w,(EC w y).cell? ⟨gb,0,X⟩=Z (M (Z ⟨a.gm,0,X⟩)):=fun y=>(D.cell (KK.out.V (EN y)).mb 0).trans O;have yc: ∀y:Ext w,(EC w y).cell? ⟨a.gm,0,X⟩=Z (M (Z ⟨a.gc,0,X⟩)):=fun y=>(D.cell (MM.out.V (EN y)).Ek 0).trans O;have yb: ∀y:Ext w,(EC w y).cell? ⟨ge,4+5,X⟩=Z (EU e.bad):=fun y=>(D.cell (KK.out.V (EN y)).ev 9).trans O;have yb2: ∀y:Ext w,(EC w y).cell? ⟨ge,9,X⟩=Z (EU e.bad):=fun y=>(D.cell (KK.out.V (EN y)).ev 9).trans O;refine Ma 7 Ed Ed O O O (fun _ _ _ h=>h) ?_;simp only[Iq,Io,IP,IH];repeat (go_big_quiet_step (fail))
 refine I1 ?_;intro _ hw';obtain⟨y9,rfl⟩:=hw';have Em:=EN y9;clear yb yb2;have MB:=J<|JF.EA (lo:=lo) (hi:=hi) Em (Ez MM.out.lm (am MM.out.Ek.lt));replace MM:=J<|MM.out.V Em;replace RR:=J<|YY.out.V _ _ _ _ _ RR.out Em;clear KK Em ym yc;generalize EC w y9=w1 at*;refine xI 1 (.inl O) xw Ed ?_;simp only[Iq,Io,IP,IH];go_wp2_with fail;refine(Ef8 lo g a.gc a.gq a.gt c e.bad _ MM.out.core).mono ?_;rintro e2 w2 ⟨c',ns,new,sv,rv,sc,hd,rfl,JT,Ol,os,Ob,C2,⟨hns,hR⟩,mm⟩;go_wp2_with fail;have RW:=YY.out.mu c 0 [] w1 w2 RR.out mm;refine Dh (Ei O) (YY.out.Dg c c' 0 [] w2 sv rv ns new sc hd w1.heap.size RW JT Ol os Ob U Eh U (by have:=qo.len hR;omega)) (fun nx hy=> ?_) (fun _ h=>XE) ?_;·simp[go_sem,hy]
 rintro e3 w3 ⟨rfl,r3,y3⟩;refine⟨_,O,wpListIn_nil ?_⟩;go_wp2_with fail;go_end0;rw[ZV,OD] at r3;refine⟨⟨_,O⟩,c',rs,ns,new,(MM.out.mut mm C2).y y3 YY.out.lh,r3,?_,by have:=(qo.len hR);omega,MB.out.trans ((JF.xt mm YY.out.lh (YY.out.gd _ _ _ _ RR.out) (E7 _)).trans (JF.ti y3 YY.out.lh))⟩;exact .inr (.inr (.inl ⟨HK.out,O,hR⟩))
theorem Eg_(lo hi l ge gb:Nat)(g:Nat->Y)(a:UK)(c:Ey)(rs:Int->List Int)(e:JI)(A:Option Eu)(d:Nat)(RA:Ey->Nat->List Rec->H->Prop)(w:H)(Y7:nP lo hi l RA)(Y8:Jq lo g a c rs w)(K:XV ge gb e A d a.gm w)(R0:RA c 0 [] w)(hk:e.kind=1)(hx:e.ok): Ef Eb 47 #[.func (.yield l) #[] #[],M (Z ⟨ge,0,X⟩),M (Z ⟨gb,0,X⟩)] w (nQ lo hi g a e c rs RA w):=by
 have ck:w.cell? ⟨ge,0,X⟩=Z (E I e.kind):=(D.cell K.ev 0).trans O;have cm:w.cell? ⟨gb,0,X⟩=Z (M (Z ⟨a.gm,0,X⟩)):=(D.cell K.mb 0).trans O;have cc:w.cell? ⟨a.gm,0,X⟩=Z (M (Z ⟨a.gc,0,X⟩)):=(D.cell Y8.Ek 0).trans O;have t0:(e.kind==0)=B:=iP;have t1:(e.kind==1)=EI:=iP;have YY:=J Y7;have MM:=J Y8;have KK:=J K;have RR:=J R0;have HK:=J hk;clear Y7 Y8 K R0;have HX:=J hx;clear hk hx;go_enter Tryz.func47,Tryz.ntmps47;go_wp2_with fail;have ym: ∀y:Ext w,(EC w y).cell? ⟨gb,0,X⟩=Z (M (Z ⟨a.gm,0,X⟩)):=fun y=>(D.cell (KK.out.V (EN y)).mb 0).trans O;have yc: ∀y:Ext w,(EC w y).cell? ⟨a.gm,0,X⟩=Z (M (Z ⟨a.gc,0,X⟩)):=fun y=>(D.cell (MM.out.V (EN y)).Ek 0).trans O;have KG:Ec (Jc w ge (e.Y5 A d) 48):=J KK.out.ev;have HF:Ec (aM (e.Y5 A d) 3=3):=J O;refine Ma 7 Ed Ed O O O (fun _ _ _ h=>h) ?_;simp only[Iq,Io,IP,IH]
 repeat (first
  |go_big_quiet_skip
  |(go_big_quiet_want
    first
     |(refine ZZ (T:=46) (g:=ge) (off:=3) Cp _ rfl rfl KG 3 rfl HF.out rfl ?_;go_simp;go_big_quiet_on)
     |(go_big_quiet_op
       go_big_quiet_on)))
 refine I1 ?_;intro _ hw';obtain⟨y9,rfl⟩:=hw';have Em:=EN y9;clear KG HF;have MB:=J<|JF.EA (lo:=lo) (hi:=hi) Em (Ez MM.out.lm (am MM.out.Ek.lt));replace MM:=J<|MM.out.V Em;replace RR:=J<|YY.out.V _ _ _ _ _ RR.out Em;clear KK Em ym yc;generalize EC w y9=w1 at*;refine xI 1 (.inl O) xw Ed ?_;simp only[Iq,Io,IP,IH];go_wp2_with fail;refine(Ef9 lo g a.gc a.gq a.gt c e.valid e.give e.x0 e.x1 e.x2 e.x3 _ MM.out.core ⟨HX.out.x0,HX.out.x1,HX.out.x2,HX.out.x3⟩).mono ?_;rintro e2 w2 ⟨c',ns,new,sv,rv,sc,hd,rfl,JT,Ol,os,Ob,C2,⟨hns,hR⟩,mm⟩;go_wp2_with fail;have RW:=YY.out.mu c 0 [] w1 w2 RR.out mm;refine Dh (Ei O) (YY.out.Dg c c' 0 [] w2 sv rv ns new sc hd w1.heap.size RW JT Ol os Ob U Eh U (by have:=qn.len hR;omega)) (fun nx hy=> ?_) (fun _ h=>XE) ?_;·simp[go_sem,hy]
 rintro e3 w3 ⟨rfl,r3,y3⟩;refine⟨_,O,wpListIn_nil ?_⟩;go_wp2_with fail;go_end0;rw[ZV,OD] at r3;refine⟨⟨_,O⟩,c',rs,ns,new,(MM.out.mut mm C2).y y3 YY.out.lh,r3,?_,by have:=(qn.len hR);omega,MB.out.trans ((JF.xt mm YY.out.lh (YY.out.gd _ _ _ _ RR.out) (E7 _)).trans (JF.ti y3 YY.out.lh))⟩;exact .inr (.inl ⟨HK.out,O,hR⟩)
theorem EhE(lo hi l ge gb:Nat)(g:Nat->Y)(a:UK)(c:Ey)(rs:Int->List Int)(e:JI)(A:Option Eu)(d:Nat)(RA:Ey->Nat->List Rec->H->Prop)(w:H)(Y7:nP lo hi l RA)(Y8:Jq lo g a c rs w)(K:XV ge gb e A d a.gm w)(R0:RA c 0 [] w)(hk:e.kind≠0/\e.kind≠1/\e.kind≠2/\e.kind≠3): Ef Eb 47 #[.func (.yield l) #[] #[],M (Z ⟨ge,0,X⟩),M (Z ⟨gb,0,X⟩)] w (nQ lo hi g a e c rs RA w):=by
 have ck:w.cell? ⟨ge,0,X⟩=Z (E I e.kind):=(D.cell K.ev 0).trans O;have cm:w.cell? ⟨gb,0,X⟩=Z (M (Z ⟨a.gm,0,X⟩)):=(D.cell K.mb 0).trans O;have cc:w.cell? ⟨a.gm,0,X⟩=Z (M (Z ⟨a.gc,0,X⟩)):=(D.cell Y8.Ek 0).trans O;have t0:(e.kind==0)=B:=by simpa using hk.1
 have t1:(e.kind==1)=B:=by simpa using hk.2.1
 have t2:(e.kind==2)=B:=by simpa using hk.2.2.1
 have t3:(e.kind==3)=B:=by simpa using hk.2.2.2
 clear cm cc;go_enter Tryz.func47,Tryz.ntmps47;go_wp2_with fail;go_end0;exact⟨⟨_,O⟩,c,rs,0,[],Y8,R0,.inr (.inr (.inr (.inr ⟨⟨hk.2.1,hk.2.2.1,hk.2.2.2,fun h=>absurd h hk.1⟩,O,O,O,O⟩))),Eh,.refl _ _ _⟩
theorem EhI(lo hi l ge gb:Nat)(g:Nat->Y)(a:UK)(c:Ey)(rs:Int->List Int)(e:JI)(A:Option Eu)(d:Nat)(RA:Ey->Nat->List Rec->H->Prop)(w:H)(Y7:nP lo hi l RA)(Y8:Jq lo g a c rs w)(K:XV ge gb e A d a.gm w)(R0:RA c 0 [] w)(hk:e.kind=0)(hs: ¬(1<=e.src/\e.src<=3)): Ef Eb 47 #[.func (.yield l) #[] #[],M (Z ⟨ge,0,X⟩),M (Z ⟨gb,0,X⟩)] w (nQ lo hi g a e c rs RA w):=by
 have ck:w.cell? ⟨ge,0,X⟩=Z (E I e.kind):=(D.cell K.ev 0).trans O;have cm:w.cell? ⟨gb,0,X⟩=Z (M (Z ⟨a.gm,0,X⟩)):=(D.cell K.mb 0).trans O;have cc:w.cell? ⟨a.gm,0,X⟩=Z (M (Z ⟨a.gc,0,X⟩)):=(D.cell Y8.Ek 0).trans O;have cs:w.cell? ⟨ge,1,X⟩=Z (E I e.src):=(D.cell K.ev 1).trans O;have t0:(e.kind==0)=EI:=iP;clear cm cc;have fin:nQ lo hi g a e c rs RA w (Eg (Et #[])) w:=⟨⟨_,O⟩,c,rs,0,[],Y8,R0,.inr (.inr (.inr (.inr ⟨⟨U,U,U,fun _=>hs⟩,O,O,O,O⟩))),Eh,.refl _ _ _⟩;by_cases h1:e.src<1;·have t1:decide (e.src<1)=EI:=IU h1;exact EnD
 ·have t1:decide (e.src<1)=B:=IJ h1;have t2:decide (3<e.src)=EI:=IU U;exact EnD
theorem YC(gm:Nat)(k:Int)(j:Nat)(hk:k=(j:Int)+1)(hj:j<3)(W:H):(Instr.indexAt 82 (M (Z ⟨gm,2,X⟩)) (E I (k-1))).run Eb W= .ok (M (Z ⟨gm,2+j,X⟩)) W:=by have h:j=0\/j=1\/j=2:=U;subst hk;rcases h with rfl|rfl|rfl<;>rfl
theorem JF.EhJ{r:List Int}{c:Nat}(ho:E3 gs w w')(K:D w gs cs 122)(K':D w' gs #[G A r.length c] 122)(hr:Own w' b A c r)(hh:hi<=b)(hl:lo<=gs)(hw:lo<=w.heap.size):JF lo hi w w':=
 ⟨ho.bel lo hl hw,fun _ _ _ _ _ hS hb=>ho.Ek hb (EW hb K hS),fun g _ _ _ _ hb=>by
  by_cases e:g=gs;·subst e;exact⟨_,_,_,K',fun k hk _ a ha=>by have:=EJF hr a ha;omega⟩
  ·exact⟨_,_,_,ho.Ek hb e,fun _ _ h=>h⟩⟩
theorem nR{T:EB}(h:W.ownsRow b T size v n xs): ∃(A:Option Eu) (c:Nat),v=G A n c:=by
 rcases h.2 with⟨rfl,rfl⟩|⟨g,cap,cur,rfl,_⟩;·exact⟨X,0,O⟩
 ·exact⟨_,_,O⟩
theorem EhO{c i:Nat}{vals:List Y}(h:W.ownsRow base 74 2 (G A n c) n vals)(hi:i<n): ∃ga,A=Z ⟨ga,0,X⟩/\n<=c/\c<=9223372036854775807/\ ∀j Y3,vals[i*2+j]?=Z Y3->W.cell? ⟨ga,i*2+j,X⟩=Z Y3:=by
 have h0:=h;rcases h.2 with⟨hv,h1⟩|⟨g,cap',cur,hv,hg,hh,hl,hm,hs,ht⟩;·omega
 ·injection hv with h1 h2 h3;subst h1;subst h3;refine⟨g,O,hl,by unfold maxLen at hm;exact hm,fun j Y3 hu=> ?_⟩;have:=h0.cells (g:=g) O _ Y3 hu;rwa [show(⟨g,0,X⟩:Eu).add (i*2+j)=⟨g,i*2+j,X⟩ from Xw] at this
theorem EhU:Oq Eb 74 #[E I 0,G X 0 0]:=by exact ElR
theorem EhX(lo hi l ge gb:Nat)(g:Nat->Y)(a:UK)(c:Ey)(rs:Int->List Int)(e:JI)(A:Option Eu)(d:Nat)(RA:Ey->Nat->List Rec->H->Prop)(w:H)(Y7:nP lo hi l RA)(Y8:Jq lo g a c rs w)(K:XV ge gb e A d a.gm w)(R0:RA c 0 [] w)(hk:e.kind=0)(hs:1<=e.src/\e.src<=3)(hb:e.b.length<=1000)(hr:Row w A e.b): Ef Eb 47 #[.func (.yield l) #[] #[],M (Z ⟨ge,0,X⟩),M (Z ⟨gb,0,X⟩)] w (nQ lo hi g a e c rs RA w):=by
 have ck:w.cell? ⟨ge,0,X⟩=Z (E I e.kind):=(D.cell K.ev 0).trans O;have cs:w.cell? ⟨ge,1,X⟩=Z (E I e.src):=(D.cell K.ev 1).trans O;have t0:(e.kind==0)=EI:=iP;have t1:decide (e.src<1)=B:=IJ U;have t2:decide (3<e.src)=B:=IJ U;have hbb:U3 e.b:=hr.2;have hbr:=Y8.qH e.src;obtain⟨its,r,hp⟩:=Xh.ex _ (rs e.src++e.b) (E7 _) (hbr.1.app hbb);have hok:=hp.ok (hbr.1.app hbb);have hlen:=hp.len (hbr.1.app hbb);rw[IY] at hlen;have HN:=J (show its.length<=1040 by have:=hbr.2;omega);have pN:=J hok.1;have HR2:=J<|Jp hok.2 (hp.Eg5 (hbr.1.app hbb));have HP:=J hp;have HS:=J hs;have HB:=J hb;have RW:=J hr;have SB:=J<|fun W=>sub_one e.src hs.1 hs.2 W;obtain⟨j,hj,Xy⟩: ∃j:Nat,e.src=(j:Int)+1/\j<3:=⟨(e.src-1).toNat,U,U⟩;have IX:=J<|fun W=>YC a.gm e.src j hj Xy W;have SC:=J (fun W (h:Jq lo g a c rs W)=>show W.cell? ⟨a.gm,2+j,X⟩=Z (M (Z ⟨a.s e.src,0,X⟩)) by have:=(h.str hs).2.2;rwa [show(e.src-1).toNat=j from U] at this);obtain⟨Mp,hrs⟩: ∃f:Int->List Int,f=fun s=>if s=e.src then r else rs s:=⟨_,O⟩
 have cg:=J hrs;have YY:=J Y7;have MM:=J Y8;have KK:=J K;have RR:=J R0;have HK:=J hk;clear Y7 Y8 K R0;clear hj Xy hk hs hb hr hbb hbr hp hok hlen hrs;go_enter Tryz.func47,Tryz.ntmps47;go_wp2_with fail;refine bH (Ph:=fun p wq=>(match p with|0=>Jq lo g a c rs wq/\XV ge gb e A d a.gm wq/\RA c 0 [] wq/\Row wq A e.b/\JF lo hi w wq|_=>Jq lo g a c Mp wq/\XV ge gb e A d a.gm wq/\RA c 0 [] wq/\JF lo hi w wq)) (Rel:=J0) (Is:=fun _ _=>True) [kq (M (Z ⟨a.gm,0,X⟩)),kp ge 1,kq (E I e.src),kq (E I (e.src-1)),kq (M (Z ⟨a.gm,0,X⟩)),kq (M (Z ⟨a.gm,2,X⟩)),kq (M (Z ⟨a.gm,2+j,X⟩)),kq (M (Z ⟨a.s e.src,0,X⟩)),kp ge 2,kq (G A e.b.length d),.late (fun v w=> ∃(vals:List Y),w.ownsRow lo 74 2 v its.length vals/\UH w lo its vals) (fun v w w' h hr=>by obtain⟨vals,h1,h2⟩:=h;exact⟨vals,EP h1 fun _ _ hk=>D.V hk hr,h2.keep fun _ _ hk=>D.V hk hr⟩),kq (E I its.length),kq (E I 0)] [B,B,B,B,B,B,B,B,B,B,EI,B,B] O [10] [(0,0),(0,0),(0,0),(0,0),(0,0),(0,0),(0,0),(0,0),(0,0),(0,0),(0,0),(1,1),(0,1)] Ed Ed Ed Ed Ed UP Ed ?hPh ?h0 ?hstep ?hend
 case hPh=>
  intro p w2 w3 h hr;match p,h with
  |0,h=>exact⟨h.1.V hr,h.2.1.V hr,YY.out.V _ _ _ _ _ h.2.2.1 hr,Ix h.2.2.2.1 hr,h.2.2.2.2.trans (JF.EA hr (Ez h.1.lm (am h.1.Ek.lt)))⟩
  |_+1,h=>exact⟨h.1.V hr,h.2.1.V hr,YY.out.V _ _ _ _ _ h.2.2.1 hr,h.2.2.2.trans (JF.EA hr (Ez h.1.lm (am h.1.Ek.lt)))⟩
 case h0=> have hb:=Jg w;exact⟨MM.out.V hb,KK.out.V hb,YY.out.V _ _ _ _ _ RR.out hb,Ix RW.out hb,JF.EA hb (Ez MM.out.lm (am MM.out.Ek.lt))⟩
 case hstep=>
  refine⟨?_,?_,?_,?_,?_,?_,?_,?_,?_,?_,?_,?_,?_,trivial⟩;all_goals first|intro xv wq p hlo hhi hp hd|intro xv wq hp hd
  all_goals simp only[EH,Ig,Ii,Ia,Ib]
  ·obtain rfl:p=0:=U;have cc:wq.cell? ⟨gb,0,X⟩=Z (M (Z ⟨a.gm,0,X⟩)):=(D.cell hp.2.1.mb 0).trans O;exact Es (by simp[go_sem,cc]) O
  ·exact Elk
  ·obtain rfl:p=0:=U;have d1:xv 1=M (Z ⟨ge,1,X⟩):=hd.at 1 rfl;have cc:wq.cell? ⟨ge,1,X⟩=Z (E I e.src):=(D.cell hp.2.1.ev 1).trans O;exact Es Di O
  ·obtain rfl:p=0:=U;have d2:xv 2=E I e.src:=hd.at 2 rfl;exact IM EF (Ei O) (sP O d2 O SB.out) O
  ·obtain rfl:p=0:=U;have d0:xv 0=M (Z ⟨a.gm,0,X⟩):=hd.at 0 rfl;exact EoF
  ·obtain rfl:p=0:=U;have d4:xv 4=M (Z ⟨a.gm,0,X⟩):=hd.at 4 rfl;exact Eo6
  ·obtain rfl:p=0:=U;have d5:xv 5=M (Z ⟨a.gm,2,X⟩):=hd.at 5 rfl;have d3:xv 3=E I (e.src-1):=hd.at 3 rfl;exact IM EF (Ei O) (qZ O d5 d3 IX.out) O
  ·obtain rfl:p=0:=U;have d6:xv 6=M (Z ⟨a.gm,2+j,X⟩):=hd.at 6 rfl;have cc:wq.cell? ⟨a.gm,2+j,X⟩=Z (M (Z ⟨a.s e.src,0,X⟩)):=SC.out wq hp.1;exact Es Bq O
  ·exact Elk
  ·obtain rfl:p=0:=U;have d8:xv 8=M (Z ⟨ge,2,X⟩):=hd.at 8 rfl;have cc:wq.cell? ⟨ge,2,X⟩=Z (G A e.b.length d):=(D.cell hp.2.1.ev 2).trans O;exact Es Bw O
  ·have d7:xv 7=M (Z ⟨a.s e.src,0,X⟩):=hd.at 7 rfl;have d9:xv 9=G A e.b.length d:=hd.at 9 rfl;refine JH (f:=48) (args:= #[xv 7,xv 9]) (Ei O) Ex ?_;rw[d7,d9];obtain⟨A0,c0,kb,o0⟩:=(hp.1.str HS.out).1;refine(Eg0 (a.s e.src) lo A0 c0 (rs e.src).length (rs e.src) A e.b.length d e.b wq kb o0 O hp.2.2.2.1 rfl (hp.1.str HS.out).2.1 (by have:=(hp.1.qH e.src).2;omega) vw).mono fun en w2 h=> ?_;obtain⟨Eky,r2,v,vals,A2,c2,w3,rfl,hp2,h1,h2,h3,h4,h5⟩:=h;obtain⟨rfl,rfl⟩:=HP.out.det hp2;have ht:=hp.1.take HS.out h3 h4 (b_ h5 (Ez hp.1.lm (am hp.1.Ek.lt))) HR2.out;exact⟨v,O,⟨trivial,by rw[cg.out];exact ht.1,hp.2.1.via (fun _ _ hk=>ht.2.Ek hk (EW hk kb Ea)) (fun _ _ hk=>ht.2.Ek hk (EW hk kb Ea)),YY.out.only _ _ _ _ _ _ _ hp.2.2.1 kb ht.2,JF.trans hp.2.2.2.2 (JF.EhJ ht.2 kb (by rw[h4];exact(kb.V h3).set 0 _) h5 (YY.out.gd _ _ _ _ hp.2.2.1) (hp.1.str HS.out).2.1 (Ez hp.1.lm (am hp.1.Ek.lt)))⟩,vals,nM h1 (Ez hp.1.lm (am hp.1.Ek.lt)),h2.mono (Ez hp.1.lm (am hp.1.Ek.lt))⟩
  ·obtain rfl:p=1:=U;obtain⟨vals,h1,h2⟩: ∃(vals:List Y),wq.ownsRow lo 74 2 (xv 10) its.length vals/\UH wq lo its vals:=hd.at 10 rfl;obtain⟨A3,c3,e3⟩:=nR h1;exact Es (by simp[go_sem,e3]) O
  ·exact EmZ
 case hend=>
  intro xv w2 hp hd;simp only[EH,Ig,Ii,Ia,Ib,ZK];obtain⟨vals,ow,iv⟩: ∃(vals:List Y),w2.ownsRow lo 74 2 (xv 10) its.length vals/\UH w2 lo its vals:=hd 10 Ea;obtain⟨A3,c3,e3⟩:=nR ow;have OU:xv 11=E I its.length:=hd 11 Ea;have a12:xv 12=E I 0:=hd 12 Ea;rw[OU,a12,e3];rw[e3] at ow;clear hd OU a12 e3;have I0:=J<|Jp hp (Jp ow iv);clear hp ow iv;go_wp2_with fail;go_loopw[30] (fun Y3 wr=> ∃(i:Nat) (ci:Ey) (mi:Nat) (ni:List Rec),Y3=E I i/\i<=its.length/\mi<=i*3/\cM g e.src (its.take i) c ci mi ni/\Jq lo g a ci Mp wr/\XV ge gb e A d a.gm wr/\RA ci mi ni wr/\JF lo hi w wr/\wr.ownsRow lo 74 2 (G A3 its.length c3) its.length vals/\UH wr lo its vals) (fun Y3 _=>its.length-(Ir Y3).toNat);case atStart=>exact⟨0,c,0,[],O,bG _,E7 _,.nil c,I0.out.1.1,I0.out.1.2.1,I0.out.1.2.2.1,I0.out.1.2.2.2,I0.out.2.1,I0.out.2.2⟩
  case round=>
   clear I0 MM KK RR;obtain⟨i,ci,mi,ni,rfl,hin,YD,hw,Y8,K,R0,MB,ow,iv⟩:=hrel;have HW:=J hw;have MM:=J Y8;have KK:=J K;have RR:=J R0;replace MB:=J MB;have jz:=J YD;clear hw Y8 K R0 YD;by_cases hlt:i<its.length
   ·have t8:decide ((i:Int)<(its.length:Int))=EI:=IU U;obtain⟨x,hx⟩: ∃x,its[i]?=Z x:=⟨_,J5 hlt⟩;obtain⟨A4,c4,e0,e1,ob⟩:=iv.get hx;obtain⟨ga,rfl,h1,h2,cells⟩:=EhO ow hlt;have l4:=Mk ob;obtain⟨-,hxo,-⟩:=pN.out x (dn hx)
    have Mq:Ec (wr.rangeAt ga (i*2) [E I x.1,.slice A4 x.2.length c4]):=J (by
     intro j v hj;match j,hj with
     |0,hj=>exact(cells 0 _ e0).trans hj
     |1,hj=>exact(cells 1 _ e1).trans hj
     |j+2,hj=>simp at hj)
    have OW:=J<|Jp ow iv;have OB:=J<|Jp ob.row (Jp l4 hxo);have HX:=J hx;clear ow iv ob l4 hxo cells e0 e1 hx;have ci0:wr.cell? ⟨ga,i*2,X⟩=Z (E I x.1):=Mq.out 0 _ O;have ci1:wr.cell? ⟨ga,i*2+1,X⟩=Z (.slice A4 x.2.length c4):=Mq.out 1 _ O;go_wp2_with (with_reducible refine wA EhU (Ev.mk ?_));apply Eo;clear ci0 ci1 Mq;obtain⟨gi,hgi⟩:=En wr.heap.size;have K0:=J<|D.new wr #[E I 0,G X 0 0] 74;have b2:=Er wr (EJ #[E I 0,G X 0 0] 74);rw[<-hgi] at K0⊢;generalize wr.alloc (EJ #[E I 0,G X 0 0] 74)=w4 at*;have YF:=J<|Om hgi.symm;clear hgi;go_wp2_with (with_reducible refine wS (cs:= #[E I x.1,.slice A4 x.2.length c4]) MJ K0 (Ev.mk ?_) (h1:=Ug));apply Eo;have KI:=J<|K0.out.setRow #[E I x.1,.slice A4 x.2.length c4];have b3:=E2 (g:=gi) b2 YF.out #[E I x.1,.slice A4 x.2.length c4];generalize w4.setRow gi #[E I x.1,.slice A4 x.2.length c4]=w5 at*;have iK:=Ez MM.out.lm (am MM.out.Ek.lt);replace MB:=J<|MB.out.trans (JF.EA b3 iK);replace MM:=J<|MM.out.V b3;replace KK:=J<|KK.out.V b3;replace RR:=J<|YY.out.V _ _ _ _ _ RR.out b3;replace OW:=J<|Jp (EP OW.out.1 fun _ _ hk=>D.V hk b3) (OW.out.2.keep fun _ _ hk=>D.V hk b3);replace OB:=J<|Jp (Ix OB.out.1 b3) OB.out.2;clear K0 b2 b3 YF iK;go_wp2_with fail;have ym: ∀y:Ext w5,(EC w5 y).cell? ⟨gb,0,X⟩=Z (M (Z ⟨a.gm,0,X⟩)):=fun y=>(D.cell (KK.out.V (EN y)).mb 0).trans O;have yc: ∀y:Ext w5,(EC w5 y).cell? ⟨a.gm,0,X⟩=Z (M (Z ⟨a.gc,0,X⟩)):=fun y=>(D.cell (MM.out.V (EN y)).Ek 0).trans O;have ys: ∀y:Ext w5,(EC w5 y).cell? ⟨ge,1,X⟩=Z (E I e.src):=fun y=>(D.cell (KK.out.V (EN y)).ev 1).trans O;refine Ma 8 Ed Ed O O O (fun _ _ _ h=>h) ?_;simp only[Iq,Io,IP,IH]
    repeat (first
     |go_big_quiet_skip
     |(go_big_quiet_want
       first
        |(refine UB (T:=74) (g:=gi) MJ _ rfl rfl KI ?_ ?_;(·rfl);go_simp;go_big_quiet_on)
        |(go_big_quiet_op
          go_big_quiet_on)))
    refine I1 ?_;intro _ hw';obtain⟨y9,rfl⟩:=hw';have Em:=EN y9;have iK:=Ez MM.out.lm (am MM.out.Ek.lt);replace MB:=J<|MB.out.trans (JF.EA Em iK);replace MM:=J<|MM.out.V Em;replace KK:=J<|KK.out.V Em;replace RR:=J<|YY.out.V _ _ _ _ _ RR.out Em;replace OW:=J<|Jp (EP OW.out.1 fun _ _ hk=>D.V hk Em) (OW.out.2.keep fun _ _ hk=>D.V hk Em);replace OB:=J<|Jp (Ix OB.out.1 Em) OB.out.2;clear Em iK ym yc ys KI;generalize EC w5 y9=w6 at*;refine xI 1 (.inl O) xw Ed ?_;simp only[Iq,Io,IP,IH];go_wp2_with fail;refine(Ef_ lo g a.gc a.gq a.gt ci x.1 A4 x.2.length c4 x.2 e.src _ MM.out.core HS.out O OB.out.2.1.1 OB.out.2.1.2 (by have:=OB.out.2.2;omega) OB.out.1).mono ?_;rintro e2 w7 ⟨c',ns,new,sv,rv,sc,hd,rfl,JT,Ol,os,Ob,C2,⟨hns,hR⟩,mm⟩;go_wp2_with fail;have RW:=YY.out.mu ci mi ni w6 w7 RR.out mm;have hl1:=(cM.len HW.out);rw[aO] at hl1;refine Dh (Ei O) (YY.out.Dg ci c' mi ni w7 sv rv ns new sc hd w6.heap.size RW JT Ol os Ob (by have:=jz.out;have:=HN.out;omega) J9 U (by have:=hR.len;omega)) (fun nx hy=> ?_) (fun _ h=>XE) ?_;·simp[go_sem,hy]
    rintro e3 w8 ⟨rfl,r3,y3⟩;refine⟨_,O,?_⟩;refine xI 1 (.inl O) xw Ed ?_;simp only[Iq,Io,IP,IH];go_wp2_with fail;refine wpListIn_nil ?_;go_wp2_with fail;go_roundw
    case rel=>
     have hhi:=YY.out.gd _ _ _ _ RR.out;have e9:its.take (i+1)=its.take i++[x]:=by rw[nE,HX.out];rfl
     refine⟨i+1,c',mi+ns,ni++new,O,U,by have:=jz.out;omega,?_,(MM.out.mut mm C2).y y3 YY.out.lh,(KK.out.mut mm).y y3,r3,MB.out.trans ((JF.xt mm YY.out.lh hhi (E7 _)).trans (JF.ti y3 YY.out.lh)),?_,?_⟩;·rw[e9];exact cM.snoc HW.out hR
     ·exact EP OW.out.1 fun _ _ hk=>y3.Ek _ _ _ Ea (mm.Ek hk Ea Ea)
     ·exact OW.out.2.keep fun _ _ hk=>y3.Ek _ _ _ Ea (mm.Ek hk Ea Ea)
    case measure=>simp[Ir];omega
   ·have t8:decide ((i:Int)<(its.length:Int))=B:=IJ U;go_wp2_with fail;go_end0;have hw:=HW.out;rw[OY U] at hw;have hl1:=hw.len;refine⟨⟨_,O⟩,ci,Mp,mi,ni,MM.out,RR.out,.inl ⟨HK.out,HS.out.1,HS.out.2,its,r,HP.out,cg.out,hw⟩,J9,MB.out⟩
theorem Ehb(lo hi l ge gb:Nat)(g:Nat->Y)(a:UK)(c:Ey)(rs:Int->List Int)(e:JI)(A:Option Eu)(d:Nat)(RA:Ey->Nat->List Rec->H->Prop)(w:H)(Y7:nP lo hi l RA)(Y8:Jq lo g a c rs w)(K:XV ge gb e A d a.gm w)(R0:RA c 0 [] w)(hx:e.ok)(hb:e.b.length<=1000)(hr:Row w A e.b): Ef Eb 47 #[.func (.yield l) #[] #[],M (Z ⟨ge,0,X⟩),M (Z ⟨gb,0,X⟩)] w (nQ lo hi g a e c rs RA w):=by
 by_cases h0:e.kind=0
 ·by_cases hs:1<=e.src/\e.src<=3;·exact EhX lo hi l ge gb g a c rs e A d RA w Y7 Y8 K R0 h0 hs hb hr
  ·exact EhI lo hi l ge gb g a c rs e A d RA w Y7 Y8 K R0 h0 hs
 ·by_cases h1:e.kind=1;·exact Eg_ lo hi l ge gb g a c rs e A d RA w Y7 Y8 K R0 h1 hx
  ·by_cases h2:e.kind=2;·exact Eg8 lo hi l ge gb g a c rs e A d RA w Y7 Y8 K R0 h2
   ·by_cases h3:e.kind=3;·exact Eg7 lo hi l ge gb g a c rs e A d RA w Y7 Y8 K R0 h3
    ·exact EhE lo hi l ge gb g a c rs e A d RA w Y7 Y8 K R0 ⟨h0,h1,h2,h3⟩
theorem Ehc{α:Type}(f:α->Tmp×Y->α)(p:Tmp)(v:Y)(t:α):(#[p].zip #[v]).foldl f t=f t (p,v):=by simp[Array.zip]
theorem Ehd{f:FuncId}{fn:Func}{c:Code}{args:Array Y}(hf:P.funcs[f]?=Z fn)(hb:fn.body=Z c) (h:c.wp P (bodyPostM XT 9 P fn R) {tmps:=args++bh (fn.ntmps-args.size) I2,defers:=[]} w):Ef P f args w R:=
 callsIn_wide.1 (callsIn_of_wp_marks (n:=9) hf hb trivial (wpIn_wide.2 h) O)
theorem Ehf{g:J7}{ps:Array Tmp}{assign body:Code}(gf:Nat)(lb:Array Y)(hg:a.eval g= .func (.func gf) #[] lb)(eg: ∀args w,(Jd gf args).run P w= .ok (.enter gf args) w) (h: ∀(fn:FuncId) (rc:Loop),rc={state:= .ready,pending:=X,fn,tmps:=a.tmps,params:=ps,assign,body,defers:=w.heap.size}-> Ef P gf (#[.func (.yield (w.heap.size+1)) #[] #[]]++lb) ((w.alloc (.deferred (Z []))).alloc (.loop rc)) (rangePost XT 9 P (w.heap.size+1) Q {a with defers:={target:= .collected w.heap.size,args:= #[]}::a.defers})):(Code.rangeFunc g ps assign body).wp P Q a w:=by
 refine(wpIn_wide (n:=9)).1 (wpIn_rangeFunc ?_);intro fn _;obtain⟨rc,hrc⟩:=En ({state:= .ready,pending:=X,fn,tmps:=a.tmps,params:=ps,assign,body,defers:=w.heap.size}:Loop);refine⟨w.heap.size+1,[{target:= .collected w.heap.size,args:= #[]}],(w.alloc (.deferred (Z []))).alloc (.loop rc),{target:= .fn (.func gf) lb,args:= #[.func (.yield (w.heap.size+1)) #[] #[]]},(w.alloc (.deferred (Z []))).alloc (.loop rc),gf,#[.func (.yield (w.heap.size+1)) #[] #[]]++lb,(w.alloc (.deferred (Z []))).alloc (.loop rc),?_,?_,fun _ _=>trivial,?_,fun _=>U,?_⟩;·rw[hrc];exact run_enterLoop_outer _ _ _ _ _
 ·simp only[resolve,hg];simp[go_sem]
 ·simp[invoke,go_sem,eg]
 ·exact callsIn_wide.2 (h fn rc hrc)
structure aA(lo hi ga gr l Y_:Nat)(rc:Loop)(c:Ey)(m:Nat)(new:List Rec)(W:H):Prop where
 all: ∃(A1 A2:Option Eu) (c1 c2:Nat) (sc:sU) (hd:List Int),D W ga (I8 (Jo c) (G A1 m c1) (G A2 new.length c2) hd).toArray 43/\hd.length=32/\(∀x∈hd,0<=x/\x<=255)/\W.ownsRow hi 264 2 (G A1 m c1) m sc.l/\W.ownsRow hi 58 6 (G A2 new.length c2) new.length (Uw new)
 res: ∃z:Array Y,z.size=46/\D W gr z 43
 ne:ga≠gr
 lp:W.heap[l]?=Z (.loop rc)
 df:W.heap[Y_]?=Z (.deferred (Z []))
 hga:hi<=ga
 hgr:hi<=gr
 hl:hi<=l
 hD:hi<=Y_
 lh:lo<=hi
theorem aA.gd(h:aA lo hi ga gr l Y_ rc c m new W):hi<=W.heap.size:=by obtain⟨z,-,k⟩:=h.res;have:=k.lt;have:=h.hgr;omega
theorem aA.via(h:aA lo hi ga gr l Y_ rc c m new W)(hb: ∀k cs S,S=43\/S=264\/S=58->D W k cs S->D W' k cs S)(ho: ∀(k:Nat) (o:Obj),W.heap[k]?=Z o->o.isCells=B->W'.heap[k]?=Z o):aA lo hi ga gr l Y_ rc c m new W':=by obtain⟨A1,A2,c1,c2,sc,hd,k,x1,x2,r1,r2⟩:=h.all;obtain⟨z,hz,kz⟩:=h.res;exact⟨⟨A1,A2,c1,c2,sc,hd,hb _ _ _ (.inl O) k,x1,x2,EP r1 fun _ _=>hb _ _ _ (.inr (.inl O)),EP r2 fun _ _=>hb _ _ _ (.inr (.inr O))⟩,⟨z,hz,hb _ _ _ (.inl O) kz⟩,h.ne,ho _ _ h.lp O,ho _ _ h.df O,h.hga,h.hgr,h.hl,h.hD,h.lh⟩
theorem aA.V(h:aA lo hi ga gr l Y_ rc c m new W)(hb:El W W'):aA lo hi ga gr l Y_ rc c m new W':=
 h.via (fun _ _ _ _ hk=>hk.V hb) fun k o ho _=>(hb.block k (J6.1 ho).1).trans ho
theorem aA.mu(h:aA lo hi ga gr l Y_ rc c m new W)(hb:Ew lo W.heap.size W W'):aA lo hi ga gr l Y_ rc c m new W':=
 h.via (fun _ _ _ hS hk=>hb.old hk YG hk.lt) fun k o ho hc=>hb.obj (J6.1 ho).1 ho hc
theorem aA.only(h:aA lo hi ga gr l Y_ rc c m new W)(K:D W gs cs 122)(ho:E3 gs W W'):aA lo hi ga gr l Y_ rc c m new W':=
 h.via (fun _ _ _ hS hk=>ho.Ek hk (EW hk K YG)) fun k o hk hc=>(ho.keep k (fun e=>by subst e;have K2:W.heap[k]?=Z (EJ cs 122 (0,0)):=K;rw[K2] at hk;injection hk with hk;subst hk;cases hc) (J6.1 hk).1).trans hk
theorem tj(K:D W g (I8 act sv rv hd).toArray 43)(h:act.length=12):W.cell? ⟨g,12,X⟩=Z sv/\W.cell? ⟨g,13,X⟩=Z rv:=by
 have e:=D.cell K;constructor;·rw[e,OE];unfold I8;rw[aX U,h];rfl
 ·rw[e,OE];unfold I8;rw[aX U,h];rfl
theorem Ehg(sv rv:Y)(hd:List Int)(h:act.length=12):(I8 act sv rv hd).toArray.extract 0 12=act.toArray:=by unfold I8;simp[h]
theorem Ehh(sv rv:Y)(hd:List Int)(h:act.length=12)(h32:hd.length=32):(I8 act sv rv hd).toArray.extract 14 (14+32)=(Ej hd):=by unfold I8 Ej;rw[List.extract_toArray];congr 1;rw[List.extract_eq_take_drop,<-XI,List.drop_left' (by simp[h])];exact OY (by simp[h32])
theorem iQ:IG Eb 38 12:=⟨⟨_,Tryz.underlying38,O⟩,Ed⟩
theorem iR(c:Ey):(Jo c).length=12:=rfl
theorem YH(c:Ey): ∀Y3∈Jo c,Y3.oneCell'=EI:=by intro Y3 hu;simp only[Jo,UJ,UA,or_false] at hu;rcases hu with rfl|rfl|rfl|rfl|rfl|rfl|rfl|rfl|rfl|rfl|rfl|rfl<;>rfl
theorem Ehi:Oq Eb 43 (I8 [E I 0,E I 0,E I 0,E I 0,E I 0,E I 0,E I 0,E I 0,E I 0,E I 0,E I 0,E I 0] (G X 0 0) (G X 0 0) (Ep 32)).toArray:=by exact ElR
theorem Ehj{xy:List Y}(K:D W g (I8 act sv rv hd).toArray 43)(h:act.length=12)(h2:xy.length=12):D (W.setCells g 0 xy) g (I8 xy sv rv hd).toArray 43:=
 Zd (post:=[sv,rv]++hd.map (E .u8)) xy act [] 0 W K U O
theorem Ehk(Y3:Y)(K:D W g (I8 act sv rv hd).toArray 43)(h:act.length=12):D (W.setCell ⟨g,12,X⟩ Y3) g (I8 act Y3 rv hd).toArray 43:=by have:=Zd (g:=g) (post:=[rv]++hd.map (E .u8)) (S:=43) [Y3] [sv] act 12 W Mr O h;simpa[I8,World.setCells] using this
theorem Ehl(Y3:Y)(K:D W g (I8 act sv rv hd).toArray 43)(h:act.length=12):D (W.setCell ⟨g,13,X⟩ Y3) g (I8 act sv Y3 hd).toArray 43:=by have:=Zd (g:=g) (post:=hd.map (E .u8)) (S:=43) [Y3] [rv] (act++[sv]) 13 W Mr O (by simp[h]);simpa[I8,World.setCells] using this
theorem Ehm{hd2:List Int}(K:D W g (I8 act sv rv hd).toArray 43)(h:act.length=12)(h1:hd.length=32)(h2:hd2.length=32):D (W.setCells g 14 (hd2.map (E .u8))) g (I8 act sv rv hd2).toArray 43:=by have:=Zd (g:=g) (post:=[]) (S:=43) (hd2.map (E .u8)) (hd.map (E .u8)) (act++[sv,rv]) 14 W Mr (by simp[h1,h2]) (by simp[h]);simpa[I8] using this
theorem ZP(h:W.heap[l]?=Z o)(hc:o.isCells=B)(K:D W k cs S):D (W.putObj l o2) k cs S:=by refine(World.putObj_heap_other fun e=> ?_).trans K;subst e;have K2:W.heap[k]?=Z (EJ cs S (0,0)):=K;rw[h] at K2;injection K2 with K2;subst K2;cases hc
theorem Dj(h:W.heap[l]?=Z o)(hc:o.isCells=B)(hl:hi<=l):dL hi W (W.putObj l o2):=
 ⟨⟨O,O,O,Eh,fun k hk=>World.putObj_heap_other U⟩,fun _ _ _ _ hk=>ZP h hc hk⟩
theorem xz(ho:E3 g W W')(K:D W g cs S)(hS:xr.contains S=EI)(hg:hi<=g)(hw:hi<=W.heap.size):dL hi W W':=
 ⟨ho.bel hi hg hw,fun k c T hT hk=>ho.Ek hk (EW hk K YK)⟩
theorem YM{e:EB}(hown:W.ownsRow base e size v n xs)(hg:W.grownBy W' v.ownBlock)(he:xr.contains e=EI)(hb:hi<=base)(hw:base<=W.heap.size):dL hi W W':=
 ⟨(Mo hown hg hw).mono hb,fun k c T hT hk=>qF hown hg hk (by rintro rfl;rw[he] at hT;cases hT)⟩
theorem Ehn(l:List Rec): ∀Y3∈Uw l,Y3.oneCell'=EI:=by intro Y3 hu;obtain⟨x,-,hx⟩:=List.mem_flatMap.1 hu;simp only[Rec.v,UJ,UA,or_false] at hx;rcases hx with rfl|rfl|rfl|rfl|rfl|rfl<;>rfl
theorem Eho(h1:rc.state= .ready)(h2:rc.pending=X):({({rc with state:= .busy}:Loop) with state:=if(X:Option Code).isNone=true then .ready else .done,pending:=X}:Loop)=rc:=by cases rc;simp at h1 h2;simp[h1,h2]
theorem Ehp(gm:Nat)(e:JI)(A:Option Eu)(d:Nat)(w:H): Ef Eb 26 #[M (Z ⟨gm,0,X⟩),EZ (e.cells A d).toArray] w fun en w'=> ∃ge gb,en=Eg (.func (.func 47) #[] #[M (Z ⟨ge,0,X⟩),M (Z ⟨gb,0,X⟩)])/\XV ge gb e A d gm w'/\El w w':=by
 obtain⟨cv,hcv⟩:=En ((e.cells A d).toArray);have HC:=J hcv;rw[<-hcv];clear hcv;go_enter Tryz.func26,Tryz.ntmps26;go_wp2_with fail;go_ret;refine⟨_,_,O,⟨?_,?_⟩,JV w _ _⟩;·rw[<-HC.out];have:=D.new (w.alloc (EJ #[M (Z ⟨gm,0,X⟩)] 32)) cv 48;exact EnV
 ·exact(D.new w _ _).V (Er _ _)
def Ms(lo hi:Nat)(g:Nat->Y)(a:UK)(e:JI)(c:Ey)(rs:Int->List Int)(w:H)(en:Uh)(w':H):Prop:=
 ∃(c':Ey) (rs':Int->List Int) (m:Nat) (new:List Rec) (A1 A2:Option Eu) (c1 c2:Nat) (sc:sU) (hd:List Int),en=Eg (EZ (I8 (Jo c') (G A1 m c1) (G A2 new.length c2) hd).toArray)/\hd.length=32/\(∀x∈hd,0<=x/\x<=255)/\w'.ownsRow hi 264 2 (G A1 m c1) m sc.l/\w'.ownsRow hi 58 6 (G A2 new.length c2) new.length (Uw new)/\Jq lo g a c' rs' w'/\CY g e c rs c' rs' m new/\new.length<=5000/\JF lo hi w w'
theorem YN(lo:Nat)(g:Nat->Y)(a:UK)(c:Ey)(rs:Int->List Int)(e:JI)(A:Option Eu)(d:Nat)(w:H)(Y8:Jq lo g a c rs w)(hx:e.ok)(ho:Own w 0 A d e.b)(hb:e.b.length<=1000): Ef Eb 12 #[M (Z ⟨a.gm,0,X⟩),EZ (e.cells A d).toArray] w (Ms lo w.heap.size g a e c rs w):=by
 have MM:=J Y8;have EE:=J hx;have OWN:=J ho;have HB:=J hb;obtain⟨cv,hcv⟩:=En ((e.cells A d).toArray);have HC:=J hcv;have CS:Ec (cv.size=10):=J (by rw[hcv];rfl);have CM:=J<|fun W=>Ehp a.gm e A d W;rw[<-hcv] at CM⊢;clear Y8 hx ho hb hcv;obtain⟨zt,jN⟩:=En ((I8 [E I 0,E I 0,E I 0,E I 0,E I 0,E I 0,E I 0,E I 0,E I 0,E I 0,E I 0,E I 0] (G X 0 0) (G X 0 0) (Ep 32)).toArray:Array Y);have HZT:=J jN;have ZT:Ec (Oq Eb 43 zt):=J Mt;have ZS:Ec (zt.size=46):=J (by rw[jN];rfl);clear jN;refine Ehd Tryz.func12 O ?_;simp only[Tryz.ntmps12,List.size_toArray,ZC,List.length_nil,ZK,Nat.reduceSub,Array.replicate_succ,Array.replicate_zero,List.push_toArray,List.append_toArray,ZV,List.cons_append];go_wp2_with (with_reducible refine wA ZT.out (Ev.mk ?_));apply Eo;have YP:=J<|D.new w cv 48;have b1:=JV w (EJ cv 48) (EJ zt 43);have iS:Ec (D ((w.alloc (EJ cv 48)).alloc (EJ zt 43)) (w.heap.size+1) zt 43):=J YQ;have KE:=J<|YP.out.V (Er (w.alloc (EJ cv 48)) (EJ zt 43));clear YP;obtain⟨gr,hgr⟩:=En (w.heap.size+1);rw[<-hgr] at iS⊢;obtain⟨ge,hge⟩:=En w.heap.size;obtain⟨hi,hhi⟩:=En w.heap.size;rw[show Ms lo w.heap.size g a e c rs w=Ms lo hi g a e c rs w by rw[hhi]];rw[<-hge] at KE⊢;have cC:=J (show hi<=gr/\hi<=w.heap.size/\w.heap.size<=hi from U);clear hgr hge hhi;generalize (w.alloc (EJ cv 48)).alloc (EJ zt 43)=w1 at*;have u:=J b1;clear b1;have M1:=J<|MM.out.V u.out;have cc:w1.cell? ⟨a.gm,0,X⟩=Z (M (Z ⟨a.gc,0,X⟩)):=(D.cell M1.out.Ek 0).trans O;go_wp2_with fail;refine(Ef6 lo g a.gc a.gq a.gt c _ M1.out.core).mono ?_;rintro e2 w2 ⟨c',ns,new,sv,rv,sc,hd,rfl,JT,Ol,os,Ob,C2,⟨hc',rfl,rfl⟩,mm⟩;rw[hc'] at C2⊢;clear hc' cc;obtain⟨A1,c1,rfl⟩:=nR os;obtain⟨A2,c2,rfl⟩:=nR Ob;have qK:=J (show hi<=w1.heap.size by have:=u.out.size;have:=cC.out;omega);have ZN:=J (show lo<=hi by have:=cC.out;have:=MM.out.lm;have:=MM.out.Ek.lt;omega);have M2:=J<|M1.out.mut mm C2;replace OWN:=J<|fk OWN.out fun _ _ hk=>mm.Ek (D.V hk u.out) Ea Ea;have MU:=J<|(JF.EA (lo:=lo) (hi:=hi) u.out (by have:=cC.out;have:=ZN.out;omega)).trans (JF.xt mm ZN.out qK.out (E7 _));have YR:=J<|mm.Ek KE.out Ea Ea;have O8:=J<|mm.old iS.out Ea iS.out.lt;obtain⟨tv,IE⟩: ∃tv,tv=(I8 (Jo c) (G A1 0 c1) (.slice A2 ([]:List Rec).length c2) hd).toArray:=⟨_,O⟩;have TS:=J<|iL (Jo c) (G A1 0 c1) (.slice A2 ([]:List Rec).length c2) hd O JT;have TO:=J<|lL c A1 A2 0 ([]:List Rec).length c1 c2 hd;rw[<-IE] at TS TO⊢;have J4:=J IE;have HD:=J<|Jp JT Ol;have OS:=J os;have OR:=J Ob;have qL:=J mm.size;clear os Ob JT Ol IE mm C2 KE iS M1 u;go_wp2_with (with_reducible refine wA ZT.out (Ev.mk ?_));apply Eo;have gB:=J<|D.new w2 zt 43;have b2:=Er w2 (EJ zt 43);obtain⟨ga,hga⟩:=En w2.heap.size;rw[<-hga] at gB⊢;have tp:=J (show w2.heap.size<=ga/\gr<ga by have:=O8.out.lt;omega);clear hga;generalize w2.alloc (EJ zt 43)=w3 at*;go_wp2_with (with_reducible refine wS (cs:=tv) Zq gB (Ev.mk ?_) (ho:=ZS.out) (hn:=TS.out) (h1:=TO.out));apply Eo;have KA:=J<|gB.out.setRow tv;have b3:=E2 (g:=ga) b2 tp.out.1 tv;generalize w3.setRow ga tv=w4 at*;have M4:=J<|M2.out.V b3;have YT:=J<|YR.out.V b3;have YV:=J<|O8.out.V b3;replace OS:=J<|EP OS.out fun _ _ hk=>D.V hk b3;replace OR:=J<|EP OR.out fun _ _ hk=>D.V hk b3;replace OWN:=J<|fk OWN.out fun _ _ hk=>D.V hk b3;replace MU:=J<|MU.out.trans (JF.EA b3 (by have:=ZN.out;have:=qK.out;have:=qL.out;omega));have Mu:=J<|Ez qL.out (U8 b3);clear gB b2 b3 M2 YR O8 qL;go_wp2_with (with_reducible refine wL nN YT ?_ (hn:=CS.out));refine(CM.out _).mono ?_;rintro e5 w5 ⟨Mv,gb,rfl,cap,b5⟩;have YW:=J cap;have M5:=J<|M4.out.V b5;have Y0:=J<|YV.out.V b5;have Y1:=J<|KA.out.V b5;replace OS:=J<|EP OS.out fun _ _ hk=>D.V hk b5;replace OR:=J<|EP OR.out fun _ _ hk=>D.V hk b5;replace OWN:=J<|fk OWN.out fun _ _ hk=>D.V hk b5;replace MU:=J<|MU.out.trans (JF.EA b5 (by have:=ZN.out;have:=qK.out;have:=Mu.out;omega));have Mw:=J<|Ez Mu.out (U8 b5);clear cap b5 M4 YT YV KA CM Mu;go_wp2_with fail;refine Ehf 47 #[M (Z ⟨Mv,0,X⟩),M (Z ⟨gb,0,X⟩)] O (fun _ _=>Ed) ?_;intro fn rc hrc;have nS:=J hrc;clear hrc;have b6:=JV w5 (.deferred (Z [])) (.loop rc);have lp:((w5.alloc (.deferred (Z []))).alloc (.loop rc)).heap[w5.heap.size+1]?=Z (.loop rc):=by have:=World.alloc_heap_new (w5.alloc (.deferred (Z []))) (.loop rc);rwa [World.size_alloc] at this
 have df:((w5.alloc (.deferred (Z []))).alloc (.loop rc)).heap[w5.heap.size]?=Z (.deferred (Z [])):=(Below.heap_alloc _ _ _ Eh).trans (World.alloc_heap_new w5 _);generalize (w5.alloc (.deferred (Z []))).alloc (.loop rc)=w6 at*;obtain⟨ll,hll⟩:=En (w5.heap.size+1);obtain⟨dd,hdd⟩:=En w5.heap.size;rw[<-hll] at lp⊢;rw[<-hdd] at df⊢;have Y2:=J (show hi<=ll/\hi<=dd by have:=qK.out;have:=Mw.out;omega);clear hll hdd;have M6:=J<|M5.out.V b6;have Mx:=J<|YW.out.V b6;have KR6:=J<|Y0.out.V b6;have KA6:=J<|Y1.out.V b6;replace OS:=J<|EP OS.out fun _ _ hk=>D.V hk b6;replace OR:=J<|EP OR.out fun _ _ hk=>D.V hk b6;replace OWN:=J<|fk OWN.out fun _ _ hk=>D.V hk b6;replace MU:=J<|MU.out.trans (JF.EA b6 (by have:=ZN.out;have:=qK.out;have:=Mw.out;omega));have R6:Ec (aA lo hi ga gr ll dd rc c 0 [] w6):=J (by have ka:=KA6.out;rw[J4.out] at ka;exact⟨⟨A1,A2,c1,c2,sc,hd,ka,HD.out.1,HD.out.2,nM OS.out qK.out,nM OR.out qK.out⟩,⟨zt,ZS.out,KR6.out⟩,by have:=tp.out.2;omega,lp,df,by have:=tp.out;have:=cC.out;omega,cC.out.1,Y2.out.1,Y2.out.2,ZN.out⟩);clear b6 lp df M5 YW Y0 Y1 Mw KA6 KR6 OS OR TS TO J4 HD;have e1:=congrArg Loop.assign nS.out;have e2:=congrArg Loop.body nS.out;have e3:=congrArg Loop.params nS.out;have e4:=congrArg Loop.tmps nS.out;have e5:=congrArg Loop.state nS.out;have e6:=congrArg Loop.pending nS.out;dsimp only at e1 e2 e3 e4 e5 e6
 have YL:nP lo hi ll (aA lo hi ga gr ll dd rc):=by
  refine⟨ZN.out,fun _ _ _ _ h=>h.gd,fun _ _ _ _ _ h hb=>h.V hb,fun _ _ _ _ _ h hb=>h.mu hb,fun _ _ _ _ _ _ _ h K ho=>h.only K ho,?_⟩;clear R6 M6 Mx MU HB EE MM HC CS;intro c0 cn m new W sv rv ns nw Dk hd2 b RA h32 Ol os Ob hm hnn hns hnw;have hy:=run_yield (P:=Eb) (args:= #[EZ (I8 (Jo cn) sv rv hd2).toArray]) RA.lp (by rw[e3];rfl);refine⟨rc.fn,rc.tmps.setIfInBounds 22 (EZ (I8 (Jo cn) sv rv hd2).toArray),rc.assign,rc.body,by rw[e3,Ehc] at hy;exact hy,roundIn_of_wpIn trivial ?_⟩;clear hy;rw[e1,e2,e4];obtain⟨B1,d1,rfl⟩:=nR os;obtain⟨B2,d2,rfl⟩:=nR Ob;obtain⟨tn,htn⟩: ∃tn,tn=(I8 (Jo cn) (G B1 ns d1) (G B2 nw.length d2) hd2).toArray:=⟨_,O⟩;have TNS:=J<|iL (Jo cn) (G B1 ns d1) (G B2 nw.length d2) hd2 O h32;have TNO:=J<|lL cn B1 B2 ns nw.length d1 d2 hd2;rw[<-htn] at TNS TNO⊢;have HTN:=J htn;have RR:=J RA;have NN:=J<|Jp h32 (Jp Ol (Jp hm (Jp hnn (Jp hns hnw))));have OS:=J os;have OR:=J Ob;clear e1 e2 e3 e4 nS RA h32 Ol os Ob hm hnn hns hnw htn;simp only[Ii,Ia,Ib];refine xJ tX Ed ?_;go_wp2_with (with_reducible refine wA ZT.out (Ev.mk ?_));apply Eo;have K0:=J<|D.new W zt 43;have b1:=Er W (EJ zt 43);obtain⟨gt,hgt⟩:=En W.heap.size;rw[<-hgt] at K0⊢;have HGT:=J<|Om hgt.symm;have NA:Ec (ga≠gt/\hi<=gt/\gr≠gt):=J (by obtain⟨_,_,_,_,_,_,ka,_⟩:=RR.out.all;obtain⟨_,_,kr⟩:=RR.out.res;have:=ka.lt;have:=kr.lt;have:=RR.out.hga;omega);clear hgt;generalize W.alloc (EJ zt 43)=V1 at*;go_wp2_with (with_reducible refine wS (cs:=tn) Zq K0 (Ev.mk ?_) (ho:=ZS.out) (hn:=TNS.out) (h1:=TNO.out));apply Eo;have KT:=J<|K0.out.setRow tn;have b2:=E2 (g:=gt) b1 HGT.out tn;generalize V1.setRow gt tn=V2 at*;have YS:=J<|dL.EA (hi:=hi) b2 RR.out.gd;replace RR:=J<|RR.out.V b2;replace OS:=J<|EP OS.out fun _ _ hk=>D.V hk b2;replace OR:=J<|EP OR.out fun _ _ hk=>D.V hk b2;clear K0 b1 b2 HGT;refine⟨_,run_beginRound RR.out.lp e5,?_⟩;obtain⟨rb,hrb⟩:=En ({rc with state:= .busy}:Loop);rw[<-hrb];have HRB:=J hrb;clear hrb;obtain⟨B3,B4,d3,d4,My,hd3,ka,x1,x2,r1,r2⟩:=RR.out.all;obtain⟨z,hz,kr⟩:=RR.out.res;have KA:=J<|ZP (o2:= .loop rb) RR.out.lp O ka;have KR:=J<|ZP (o2:= .loop rb) RR.out.lp O kr;replace KT:=J<|ZP (o2:= .loop rb) RR.out.lp O KT.out;have R1:=J<|EP r1 fun _ _ hk=>ZP (o2:= .loop rb) RR.out.lp O hk;have R2:=J<|EP r2 fun _ _ hk=>ZP (o2:= .loop rb) RR.out.lp O hk;replace OS:=J<|EP OS.out fun _ _ hk=>ZP (o2:= .loop rb) RR.out.lp O hk;replace OR:=J<|EP OR.out fun _ _ hk=>ZP (o2:= .loop rb) RR.out.lp O hk;have LP:Ec ((V2.putObj ll (.loop rb)).heap[ll]?=Z (.loop rb)/\(V2.putObj ll (.loop rb)).heap[dd]?=Z (.deferred (Z []))):=J ⟨World.putObj_heap_same (J6.1 RR.out.lp).1,(World.putObj_heap_other (fun e=>by have h1:=RR.out.lp;have h2:=RR.out.df;rw[e,h1] at h2;cases h2)).trans RR.out.df⟩;replace YS:=J<|YS.out.trans (Dj (o2:= .loop rb) RR.out.lp O RR.out.hl);have gC:Ec (hi<=(V2.putObj ll (.loop rb)).heap.size):=J (by rw[World.putObj_size];exact RR.out.gd);have Dl:=J RR.out.hga;have NR:Ec (ga≠gr):=J RR.out.ne;have HX3:=J<|Jp x1 x2;have HZ:=J hz;have R0:=J RR.out;have E56:=J<|Jp e5 e6;clear ka kr r1 r2 x1 x2 hz RR e5 e6;generalize V2.putObj ll (.loop rb)=V3 at*;obtain⟨av,fl⟩:=En ((Jo cn).toArray);have AE:Ec (tn.extract 0 (0+12)=av):=J (by rw[HTN.out,fl];exact Ehg _ _ _ O);have AS:Ec (av.size=12):=J (by rw[fl];rfl);have AO:Ec (av.all (·.oneCell')=EI):=J (by rw[fl];exact all_oneCell_toArray (YH cn));have lN:=J fl;have TH:Ec (V3.there ga 0 av.size):=J (by rw[AS.out];exact aZ KA.out EEb);have AI:Ec ((Tryz.prog.info? 38).map (·.size)=Z av.size):=J (by rw[AS.out];exact iQ.2);clear fl;refine wpIn_block (wpIn_seq ?_);refine xJ tX Ed ?_;go_wp2_with (first|(with_reducible refine wM (off:=0) (cs:=av) iQ KT ?_ (hn:=AS.out) (he:=AE.out))|((with_reducible refine JB 38 ?_);(with_reducible refine Ui rfl 38 _ _ rfl ga 0 av ?_ ?_ ?_ ?_ ?_ ?_);(·rfl);(·rfl);(·exact TH.out);(·exact AI.out);(·exact AO.out);refine Ev.mk ?_));apply Eo;rw[lN.out,List.toList_toArray];have ka:=Ehj (xy:=Jo cn) KA.out (iR c0) (iR cn);have on:=JG (g:=ga) (Jo cn) 0 V3;replace KT:=J<|on.Ek KT.out NA.out.1.symm;replace KR:=J<|on.Ek KR.out NR.out.symm;replace LP:=J<|Jp ((on.keep _ (fun e=>by rw[e] at LP;have:=LP.out.1;rw[show V3.heap[ga]?=_ from KA.out] at this;cases this) (J6.1 LP.out.1).1).trans LP.out.1) ((on.keep _ (fun e=>by rw[e] at LP;have:=LP.out.2;rw[show V3.heap[ga]?=_ from KA.out] at this;cases this) (J6.1 LP.out.2).1).trans LP.out.2);replace YS:=J<|YS.out.trans (xz on KA.out Ea Dl.out gC.out);replace OS:=J<|EP OS.out fun _ _ hk=>on.Ek hk (EW hk KA.out Ea);replace OR:=J<|EP OR.out fun _ _ hk=>on.Ek hk (EW hk KA.out Ea);replace R1:=J<|EP R1.out fun _ _ hk=>on.Ek hk (EW hk KA.out Ea);replace R2:=J<|EP R2.out fun _ _ hk=>on.Ek hk (EW hk KA.out Ea);replace gC:Ec (hi<=(V3.setCells ga 0 (Jo cn)).heap.size):=J<|Ez gC.out on.size;replace KA:=J ka;clear ka on TH AE AS AO AI lN;generalize V3.setCells ga 0 (Jo cn)=V4 at*;rw[HTN.out] at KT;go_wp2_with fail;refine wpIn_seq ?_;refine xJ tX Ed ?_;have cA:=(tj KA.out (iR _)).1;have cT:=(tj KT.out (iR _)).1;obtain⟨iE,hI1,hI2,iT,iV⟩:=Th;obtain⟨Dm,Dn,V5,hrun,nT,fm⟩:=Df (P:=Eb) (w:=V4) hi b 39 39 264 iE _ 2 32 Tryz.underlying39 hI1 hI2 iT iV O U (G B3 m d3) m (My.l) R1.out (G B1 ns d1) ns (Dk.l) OS.out Dk.one EEc (by have:=NN.out;omega) gC.out;go_wp2_with ((with_reducible refine It 30 ?_);(refine Jr (Ei O) (Ua O O O hrun) ?_);refine Ev.mk ?_);apply Eo;have y5:=YM R1.out fm Ea (E7 hi) gC.out;have o5: ∀{k:Nat} {o:Obj},V4.heap[k]?=Z o->o.isCells=B->V5.heap[k]?=Z o:=fun h1 h2=>YB R1.out fm h1 h2;have k5: ∀{k:Nat} {cs:Array Y} {S:EB},S≠264->D V4 k cs S->D V5 k cs S:=fun hS hk=>qF R1.out fm hk hS;replace KA:=J<|k5 Ea KA.out;replace KT:=J<|k5 Ea KT.out;replace KR:=J<|k5 Ea KR.out;replace LP:=J<|Jp (o5 LP.out.1 rfl) (o5 LP.out.2 rfl);replace YS:=J<|YS.out.trans y5;replace R2:=J<|EP R2.out fun _ _ hk=>k5 Ea hk;replace OR:=J<|EP OR.out fun _ _ hk=>k5 Ea hk;replace R1:=J nT;have qM:Ec (hi<=V5.heap.size):=J<|Ez gC.out y5.bel.size;clear hrun nT fm y5 o5 k5 cA cT hI1 hI2 iT iV;have cA:=(tj KA.out (iR _)).1;have fA:=D.JX KA.out 12;go_wp2_with fail;have ka:=Ehk (G Dm (m+ns) Dn) KA.out (iR _);have on:=J1 (g:=ga) (W:=V5) 12 (G Dm (m+ns) Dn);replace KT:=J<|on.Ek KT.out NA.out.1.symm;replace KR:=J<|on.Ek KR.out NR.out.symm;replace LP:=J<|Jp ((on.keep _ (fun e=>by rw[e] at LP;have:=LP.out.1;rw[show V5.heap[ga]?=_ from KA.out] at this;cases this) (J6.1 LP.out.1).1).trans LP.out.1) ((on.keep _ (fun e=>by rw[e] at LP;have:=LP.out.2;rw[show V5.heap[ga]?=_ from KA.out] at this;cases this) (J6.1 LP.out.2).1).trans LP.out.2);replace YS:=J<|YS.out.trans (xz on KA.out Ea Dl.out qM.out);replace R2:=J<|EP R2.out fun _ _ hk=>on.Ek hk (EW hk KA.out Ea);replace OR:=J<|EP OR.out fun _ _ hk=>on.Ek hk (EW hk KA.out Ea);replace R1:=J<|EP R1.out fun _ _ hk=>on.Ek hk (EW hk KA.out Ea);replace gC:=J<|Ez qM.out on.size;replace KA:=J ka;clear ka on cA fA qM;generalize V5.setCell ⟨ga,12,X⟩ (G Dm (m+ns) Dn)=V6 at*;refine wpIn_seq ?_;refine xJ tX Ed ?_;have cA:=(tj KA.out (iR _)).2;have cT:=(tj KT.out (iR _)).2;obtain⟨iE,hI1,hI2,iT,iV⟩:=TI;obtain⟨Do,c9b,V8,hrun,nT,fm⟩:=Df (P:=Eb) (w:=V6) hi b 40 40 58 iE _ 6 48 Tryz.underlying40 hI1 hI2 iT iV O U (G B4 new.length d4) new.length (Uw new) R2.out (G B2 nw.length d2) nw.length (Uw nw) OR.out (Ehn nw) EEc (by have:=NN.out;omega) gC.out;go_wp2_with ((with_reducible refine It 36 ?_);(refine Jr (Ei O) (Ua O O O hrun) ?_);refine Ev.mk ?_);apply Eo;have y5:=YM R2.out fm Ea (E7 hi) gC.out;have o5: ∀{k:Nat} {o:Obj},V6.heap[k]?=Z o->o.isCells=B->V8.heap[k]?=Z o:=fun h1 h2=>YB R2.out fm h1 h2;have k5: ∀{k:Nat} {cs:Array Y} {S:EB},S≠58->D V6 k cs S->D V8 k cs S:=fun hS hk=>qF R2.out fm hk hS;replace KA:=J<|k5 Ea KA.out;replace KT:=J<|k5 Ea KT.out;replace KR:=J<|k5 Ea KR.out;replace LP:=J<|Jp (o5 LP.out.1 rfl) (o5 LP.out.2 rfl);replace YS:=J<|YS.out.trans y5;replace R1:=J<|EP R1.out fun _ _ hk=>k5 Ea hk;replace R2:=J nT;have qM:Ec (hi<=V8.heap.size):=J<|Ez gC.out y5.bel.size;clear hrun nT fm y5 o5 k5 cA cT hI1 hI2 iT iV;have cA:=(tj KA.out (iR _)).2;have fA:=D.JX KA.out 13;go_wp2_with fail;have ka:=Ehl (G Do (new.length+nw.length) c9b) KA.out (iR _);have on:=J1 (g:=ga) (W:=V8) 13 (G Do (new.length+nw.length) c9b);replace KT:=J<|on.Ek KT.out NA.out.1.symm;replace KR:=J<|on.Ek KR.out NR.out.symm;replace LP:=J<|Jp ((on.keep _ (fun e=>by rw[e] at LP;have:=LP.out.1;rw[show V8.heap[ga]?=_ from KA.out] at this;cases this) (J6.1 LP.out.1).1).trans LP.out.1) ((on.keep _ (fun e=>by rw[e] at LP;have:=LP.out.2;rw[show V8.heap[ga]?=_ from KA.out] at this;cases this) (J6.1 LP.out.2).1).trans LP.out.2);replace YS:=J<|YS.out.trans (xz on KA.out Ea Dl.out qM.out);replace R1:=J<|EP R1.out fun _ _ hk=>on.Ek hk (EW hk KA.out Ea);replace R2:=J<|EP R2.out fun _ _ hk=>on.Ek hk (EW hk KA.out Ea);replace gC:=J<|Ez qM.out on.size;replace KA:=J ka;clear ka on cA fA qM;generalize V8.setCell ⟨ga,13,X⟩ (G Do (new.length+nw.length) c9b)=V9 at*;have UE:Ec ((I8 (Jo cn) (G B1 ns d1) (G B2 nw.length d2) hd2).toArray.extract 14 (14+32)=Ej hd2):=J<|Ehh _ _ _ O NN.out.1;have US:Ec ((Ej hd2).size=32):=J (by rw[Od,NN.out.1]);have UI:Ec ((Tryz.prog.info? 41).map (·.size)=Z (Ej hd2).size):=J (by rw[US.out];exact OZ.2);have UO:=J<|Xm hd2;have TH:Ec (V9.there ga 14 (Ej hd2).size):=J (by rw[US.out];exact aZ KA.out EEb);obtain⟨uv,huv⟩:=En (Ej hd2);rw[<-huv] at UE US UI UO TH;have HUV:=J huv;clear huv;refine xJ tX Ed ?_;go_wp2_with (first|(with_reducible refine wM (off:=14) (cs:=uv) OZ KT ?_ (hn:=US.out) (he:=UE.out))|((with_reducible refine JB 41 ?_);(with_reducible refine Ui rfl 41 _ _ rfl ga 14 uv ?_ ?_ ?_ ?_ ?_ ?_);(·rfl);(·rfl);(·exact TH.out);(·exact UI.out);(·exact UO.out);refine Ev.mk ?_));apply Eo;rw[HUV.out,show(Ej hd2).toList=hd2.map (E .u8) from rfl];have ka:=Ehm (hd2:=hd2) KA.out (iR _) HX3.out.1 NN.out.1;have on:=JG (g:=ga) (hd2.map (E .u8)) 14 V9;replace KR:=J<|on.Ek KR.out NR.out.symm;replace LP:=J<|Jp ((on.keep _ (fun e=>by rw[e] at LP;have:=LP.out.1;rw[show V9.heap[ga]?=_ from KA.out] at this;cases this) (J6.1 LP.out.1).1).trans LP.out.1) ((on.keep _ (fun e=>by rw[e] at LP;have:=LP.out.2;rw[show V9.heap[ga]?=_ from KA.out] at this;cases this) (J6.1 LP.out.2).1).trans LP.out.2);replace YS:=J<|YS.out.trans (xz on KA.out Ea Dl.out gC.out);replace R1:=J<|EP R1.out fun _ _ hk=>on.Ek hk (EW hk KA.out Ea);replace R2:=J<|EP R2.out fun _ _ hk=>on.Ek hk (EW hk KA.out Ea);replace KA:=J ka;clear ka on TH UE US UI UO HUV KT;generalize V9.setCells ga 14 (hd2.map (E .u8))=V10 at*;go_wp2_with fail;refine⟨_,_,run_endRound X LP.out.1,O,?_,?_⟩
  ·rw[HRB.out,Eho E56.out.1 E56.out.2];refine⟨⟨Dm,Do,Dn,c9b,⟨My.l++Dk.l,fun Y3 hu=>(XM.1 hu).elim (My.one Y3) (Dk.one Y3)⟩,hd2,?_,NN.out.1,NN.out.2.1,EP R1.out fun _ _ hk=>ZP LP.out.1 rfl hk,?_⟩,⟨z,HZ.out,ZP LP.out.1 rfl KR.out⟩,NR.out,World.putObj_heap_same (J6.1 LP.out.1).1,(World.putObj_heap_other (fun e=>by have h1:=LP.out.1;have h2:=LP.out.2;rw[e,h1] at h2;cases h2)).trans LP.out.2,R0.out.hga,R0.out.hgr,R0.out.hl,R0.out.hD,R0.out.lh⟩;·rw[IY];exact ZP LP.out.1 rfl KA.out
   ·rw[Pd,IY];exact EP R2.out fun _ _ hk=>ZP LP.out.1 rfl hk
  ·exact YS.out.trans (Dj LP.out.1 rfl R0.out.hl)
 change Ef _ _ #[.func (.yield ll) #[] #[],M (Z ⟨Mv,0,X⟩),M (Z ⟨gb,0,X⟩)] _ _;refine(Ehb lo hi ll Mv gb g a c rs e A d (aA lo hi ga gr ll dd rc) w6 YL M6.out Mx.out R6.out EE.out HB.out OWN.out.row).mono ?_;rintro e7 w7 ⟨⟨v7,rfl⟩,c7,rs7,m7,Dp,mb7,bZ,sw7,EEh,mu7⟩;obtain⟨A3,A4,c3,c4,sc4,hd4,ka,x1,x2,r1,r2⟩:=bZ.all;obtain⟨z,hz,kr⟩:=bZ.res;obtain⟨rx,hrx⟩:=En ({rc with state:= .exhausted}:Loop);have hend:(Instr.endLoop ll).run Eb w7= .ok X (w7.putObj ll (.loop rx)):=by have h:=run_endLoop (P:=Eb) bZ.lp (by rw[e5];simp);rw[<-hrx,e6] at h;exact h
 refine⟨X,_,hend,?_⟩;have y8:=Dj (o2:= .loop rx) bZ.lp O bZ.hl;have KA:=J<|ZP (o2:= .loop rx) bZ.lp O ka;have KR:=J<|ZP (o2:= .loop rx) bZ.lp O kr;have R1:=J<|EP r1 fun _ _ hk=>ZP (o2:= .loop rx) bZ.lp O hk;have R2:=J<|EP r2 fun _ _ hk=>ZP (o2:= .loop rx) bZ.lp O hk;have DF:Ec ((w7.putObj ll (.loop rx)).heap[dd]?=Z (.deferred (Z []))):=J<|(World.putObj_heap_other (fun e=>by have h1:=bZ.lp;have h2:=bZ.df;rw[e,h1] at h2;cases h2)).trans bZ.df;have MB:=J<|mb7.y y8 ZN.out;replace MU:=J<|MU.out.trans (mu7.trans (JF.ti y8 ZN.out));have HZ:=J hz;have RD:=J<|Jp bZ.hgr (Jp bZ.hD (Jp bZ.ne (Jp x1 (Jp x2 (Jp sw7 EEh)))));clear hend hrx y8 ka kr r1 r2 hz bZ mb7 mu7 x1 x2 sw7 EEh e1 e2 e3 e4 e5 e6 nS YL M6 Mx R6 EE HB OWN;have HW8:Ec (hi<=(w7.putObj ll (.loop rx)).heap.size):=J (by have:=KR.out.lt;have:=RD.out.1;omega);generalize w7.putObj ll (.loop rx)=w8 at*;obtain⟨tw,Mz⟩: ∃tw,tw=(I8 (Jo c7) (G A3 m7 c3) (G A4 Dp.length c4) hd4).toArray:=⟨_,O⟩;have WS:=J<|iL (Jo c7) (G A3 m7 c3) (G A4 Dp.length c4) hd4 O RD.out.2.2.2.1;have WO:=J<|lL c7 A3 A4 m7 Dp.length c3 c4 hd4;rw[<-Mz] at WS WO KA;have HTW:=J Mz;clear Mz;go_wp2_with (with_reducible first|refine wL Zq KA ?_ (hn:=WS.out)|refine wS (cs:=tw) Zq KR ?_ (ho:=HZ.out) (hn:=WS.out) (h1:=WO.out));have on:=J8 (g:=gr) (W:=w8) tw;have KF:=KR.out.setRow tw;have xA:(w8.setRow gr tw).heap[dd]?=Z (.deferred (Z [])):=(on.keep _ (fun e=>by have h1:=DF.out;rw[e,show w8.heap[gr]?=_ from KR.out] at h1;cases h1) (J6.1 DF.out).1).trans DF.out;refine⟨Eh,.inl ⟨_,_,O,run_takeDeferred xA,_,Jj Zq O _ _ gr tw O (ZP xA O KF) WS.out,?_⟩⟩;have yy:=(xz on KR.out Ea RD.out.1 HW8.out).trans (Dj (o2:= .deferred X) xA O RD.out.2.1);have hh:hi=w.heap.size:=by have:=cC.out;omega
 subst hh;refine⟨c7,rs7,m7,Dp,A3,A4,c3,c4,sc4,hd4,by rw[HTW.out],RD.out.2.2.2.1,RD.out.2.2.2.2.1,EP R1.out fun _ _ hk=>ZP xA O (on.Ek hk (EW hk KR.out Ea)),EP R2.out fun _ _ hk=>ZP xA O (on.Ek hk (EW hk KR.out Ea)),MB.out.y yy ZN.out,RD.out.2.2.2.2.2.1,RD.out.2.2.2.2.2.2,MU.out.trans (JF.ti yy ZN.out)⟩
def Xi(x lo hi:Int):Bool:=decide (lo<=x)&&decide (x<=hi)
theorem Ehv(lo hi:Int)(w:H): Ef Eb 66 #[E I lo,E I hi] w fun e w'=>e=Eg (.func (.func 80) #[] #[M (Z ⟨w.heap.size,0,X⟩),M (Z ⟨w.heap.size+1,0,X⟩)])/\w'=((w.alloc (EJ #[E I lo] 3)).alloc (EJ #[E I hi] 3)):=by go_enter Tryz.func66,Tryz.ntmps66;exact Eli
theorem qN(x lo hi:Int)(a b:Nat)(w:H)(ha:w.cell? ⟨a,0,X⟩=Z (E I lo))(hb:w.cell? ⟨b,0,X⟩=Z (E I hi)): Ef Eb 80 #[E I x,M (Z ⟨a,0,X⟩),M (Z ⟨b,0,X⟩)] w fun e w'=>e=Eg (EU (Xi x lo hi))/\w=w':=by
 unfold Xi;by_cases h1:lo<=x;·have t1:decide (lo<=x)=EI:=IU h1;go_enter Tryz.func80,Tryz.ntmps80;exact EnK
 ·have t1:decide (lo<=x)=B:=IJ h1;go_enter Tryz.func80,Tryz.ntmps80;exact EnK
def Ds(w:H)(f:FuncId)(cap:Array Y)(vs:List Y)(pr:Y->Bool):Prop:=
 jX f/\ ∀v∈vs,∀W,El w W->Ef Eb f (#[v]++cap) W fun e w'=>e=Eg (EU (pr v))/\El W w'
theorem MA{pr:Y->Bool}{L:List Y}(hv:L[k]?=Z v)(h:(L.take k).all pr=EI):((L.take (k+1)).all pr=pr v)/\(pr v=B->L.all pr=B):=by
 refine⟨?_,fun hf=> ?_⟩;·rw[nE,hv,List.all_append,h];simp
 ·rw[List.all_eq_false];exact⟨v,dn hv,by rw[hf];simp⟩
theorem Ehw:Oq Eb 25 #[E I 0,E I 0,E I 0,E I 0]:=by exact ElR
theorem nV(f:FuncId)(cap:Array Y)(L:List Y)(pr:Y->Bool)(b off n c:Nat)(w:H)(hn:L.length=n)(hs:n<=1000000)(hf:Ds w f cap L pr)(hl: ∀i v,L[i]?=Z v->w.cell? ⟨b,off+i,X⟩=Z v): Ef Eb 62 #[G (Z ⟨b,off,X⟩) n c,.func (.func f) #[] cap] w fun e w'=>e=Eg (EU (L.all pr))/\El w w':=by
 have HE:=hf.1;unfold jX at HE;have HC:=J hf.2;have HL:=J hl;have HN:=J hn;obtain⟨r,hr⟩:=En (L.all pr);rw[<-hr];replace hr:=J hr;clear hf hl hn;go_enter Tryz.func62,Tryz.ntmps62;go_wp2_with fail;go_loopw[9] (fun y wr=> ∃k:Nat,k<=n/\y=E I k/\El w wr/\(L.take k).all pr=EI) (fun y _=>n-(Ir y).toNat);case atStart=>exact⟨0,U,O,E9 _ _,O⟩
 case round=>
  obtain⟨k,hk,rfl,bb,ht⟩:=hrel;have u:=J bb;have HT:=J ht;clear bb ht;by_cases hlt:k<n
  ·have t1:decide ((k:Int)<(n:Int))=EI:=IU U;obtain⟨v,hv⟩: ∃v,L[k]?=Z v:=⟨L[k]' mD,J5 _⟩;have cv:wr.cell? ⟨b,off+k,X⟩=Z v:=(u.out.cell (Xv _ _ (HL.out k v hv))).trans (HL.out k v hv);have CV:=J<|HC.out _ (dn hv) wr u.out;have AT:=J<|MA hv HT.out;clear hv;go_wp2_with fail;refine CV.out.mono ?_;rintro e w2 ⟨rfl,b2⟩;replace u:=ET u b2;clear b2;cases hp:pr v with
   |true=> go_wp2_with fail;exact⟨⟨k+1,U,Eh,u.out,MC⟩,JM⟩
   |false=> go_wp2_with fail;go_ret;exact⟨MD,u.out⟩
  ·exact El5
theorem Ehx(f:FuncId)(cap:Array Y)(L:List Y)(pr:Y->Bool)(b off n c:Nat)(w:H)(hn:L.length=n)(hs:n<=1000000)(hf:Ds w f cap L pr)(hl: ∀i v,L[i]?=Z v->w.cell? ⟨b,off+i,X⟩=Z v): Ef Eb 60 #[G (Z ⟨b,off,X⟩) n c,.func (.func f) #[] cap] w fun e w'=>e=Eg (EU (L.all pr))/\El w w':=by
 have HE:=hf.1;unfold jX at HE;have HC:=J hf.2;have HL:=J hl;have HN:=J hn;obtain⟨r,hr⟩:=En (L.all pr);rw[<-hr];replace hr:=J hr;clear hf hl hn;go_enter Tryz.func60,Tryz.ntmps60;go_wp2_with fail;go_loopw[9] (fun y wr=> ∃k:Nat,k<=n/\y=E I k/\El w wr/\(L.take k).all pr=EI) (fun y _=>n-(Ir y).toNat);case atStart=>exact⟨0,U,O,E9 _ _,O⟩
 case round=>
  obtain⟨k,hk,rfl,bb,ht⟩:=hrel;have u:=J bb;have HT:=J ht;clear bb ht;by_cases hlt:k<n
  ·have t1:decide ((k:Int)<(n:Int))=EI:=IU U;obtain⟨v,hv⟩: ∃v,L[k]?=Z v:=⟨L[k]' mD,J5 _⟩;have cv:wr.cell? ⟨b,off+k,X⟩=Z v:=(u.out.cell (Xv _ _ (HL.out k v hv))).trans (HL.out k v hv);have CV:=J<|HC.out _ (dn hv) wr u.out;have AT:=J<|MA hv HT.out;clear hv;go_wp2_with fail;refine CV.out.mono ?_;rintro e w2 ⟨rfl,b2⟩;replace u:=ET u b2;clear b2;cases hp:pr v with
   |true=> go_wp2_with fail;exact⟨⟨k+1,U,Eh,u.out,MC⟩,JM⟩
   |false=> go_wp2_with fail;go_ret;exact⟨MD,u.out⟩
  ·exact El5
theorem Ehy(f:FuncId)(cap:Array Y)(L:List Y)(pr:Y->Bool)(b off n c:Nat)(w:H)(hn:L.length=n)(hs:n<=1000000)(hf:Ds w f cap L pr)(S:EB)(CS:Array Y)(kb:D w b CS S)(ho: ∀row:Array Y,EZ row∈L->row.all (·.oneCell')=EI)(hl: ∀i v,L[i]?=Z v-> ∃row:Array Y,v=EZ row/\row.size=4/\CS.extract (off+i*4) (off+i*4+4)=row): Ef Eb 64 #[G (Z ⟨b,off,X⟩) n c,.func (.func f) #[] cap] w fun e w'=>e=Eg (EU (L.all pr))/\El w w':=by
 have HE:=hf.1;have KB:=J kb;have HO:=J ho;unfold jX at HE;have HC:=J hf.2;have HL:=J hl;have HN:=J hn;obtain⟨r,hr⟩:=En (L.all pr);rw[<-hr];replace hr:=J hr;clear hf hl hn kb ho;go_enter Tryz.func64,Tryz.ntmps64;go_wp2_with fail;go_loopw[9] (fun y wr=> ∃k:Nat,k<=n/\y=E I k/\El w wr/\(L.take k).all pr=EI) (fun y _=>n-(Ir y).toNat);case atStart=>exact⟨0,U,O,E9 _ _,O⟩
 case round=>
  obtain⟨k,hk,rfl,bb,ht⟩:=hrel;have u:=J bb;have HT:=J ht;clear bb ht;by_cases hlt:k<n
  ·have t1:decide ((k:Int)<(n:Int))=EI:=IU U;obtain⟨v,hv⟩: ∃v,L[k]?=Z v:=⟨L[k]' mD,J5 _⟩;obtain⟨row,rfl,hrs,hre⟩:=HL.out k v hv;have KK:=EM KB u.out;have cg:=J hrs;have HRE:=J hre;clear hrs hre;have RO:Ec (row.all (·.oneCell')=EI):=J<|HO.out row (dn hv);have K0:=J<|D.new wr #[E I 0,E I 0,E I 0,E I 0] 25;have b3:=Er wr (EJ #[E I 0,E I 0,E I 0,E I 0] 25);have HV:=J<|dn hv;have AT:=J<|MA hv HT.out;clear hv;go_wp2_with (with_reducible first|refine wM (off:=off+k*4) (cs:=row) v_ KK ?_ (hn:=cg.out) (he:=HRE.out)|refine wA Ehw ?_|refine wS (cs:=row) v_ K0 (Ev.mk ?_) (hn:=cg.out) (h1:=RO.out));apply Eo;obtain⟨gx,hgx⟩:=En wr.heap.size;rw[<-hgx] at K0⊢;generalize wr.alloc (EJ #[E I 0,E I 0,E I 0,E I 0] 25)=Xc at*;have KX:=J<|K0.out.setRow row;have b4:=E2 (g:=gx) b3 (Om hgx.symm) row;generalize Xc.setRow gx row=JW at*;clear K0 b3 hgx;have CV:=J<|HC.out _ HV.out JW (bt u.out b4);replace u:=ET u b4;clear b4;go_wp2_with (with_reducible refine wL v_ KX ?_ (hn:=cg.out));refine CV.out.mono ?_;rintro e w2 ⟨rfl,b2⟩;replace u:=ET u b2;clear b2;cases hp:pr (EZ row) with
   |true=> go_wp2_with fail;exact⟨⟨k+1,U,Eh,u.out,MC⟩,JM⟩
   |false=> go_wp2_with fail;go_ret;exact⟨MD,u.out⟩
  ·exact El5
def Uo(lo hi:Int)(v:Y):Bool:=match v with
 | .int _ x=>Xi x lo hi
 |_=>B
def MF(v:Y):Bool:=match v with
 |G _ n _=>Xi n 1 64
 |_=>B
def qP(v:Y):Bool:=match v with
 | .int _ x=>Xi x 0 15&&x%2==0
 |_=>B
def tr(v:Y):Bool:=match v with
 |EZ a=>a.toList.all (Uo 0 15)
 |_=>B
def qQ(o1 o2 o3:Int)(v:Y):Bool:=match v with
 | .int _ x=>decide (x∈[o1,o2,o3])
 |_=>B
def UZ(lo hi:Int)(v:Y)(w:H):Prop:= ∃a b:Nat,v= .func (.func 80) #[] #[M (Z ⟨a,0,X⟩),M (Z ⟨b,0,X⟩)]/\w.cell? ⟨a,0,X⟩=Z (E I lo)/\w.cell? ⟨b,0,X⟩=Z (E I hi)
theorem UZ.V{lo hi:Int}(h:UZ lo hi v w)(hb:El w w'):UZ lo hi v w':=by obtain⟨a,b,e,ca,cb⟩:=h;exact⟨a,b,e,(hb.cell (Xv _ _ ca)).trans ca,(hb.cell (Xv _ _ cb)).trans cb⟩
theorem gD(lo hi:Int)(w:H):Ef Eb 66 #[E I lo,E I hi] w fun e w'=> ∃v,e=Eg v/\UZ lo hi v w'/\El w w':=by
 refine(Ehv lo hi w).mono ?_;rintro e w' ⟨rfl,rfl⟩;refine⟨_,O,⟨_,_,O,?_,?_⟩,JV _ _ _⟩;·exact(D.cell (D.V (D.new w #[E I lo] 3) (Er _ _)) 0).trans O
 ·simp
theorem UZ.ok{lo hi:Int}(h:UZ lo hi v w): ∃cap,v= .func (.func 80) #[] cap/\ ∀vs:List Y,(∀Y3∈vs,∃x,Y3=E I x)->Ds w 80 cap vs (Uo lo hi):=by obtain⟨a,b,e,ca,cb⟩:=h;refine⟨_,e,fun vs hvs=>⟨fun _ _=>Ed,fun Y3 hu W hW=> ?_⟩⟩;obtain⟨x,rfl⟩:=hvs Y3 hu;refine(qN x lo hi a b W ((hW.cell (Xv _ _ ca)).trans ca) ((hW.cell (Xv _ _ cb)).trans cb)).mono ?_;rintro e w' ⟨rfl,rfl⟩;exact⟨O,E9 _ _⟩
theorem EEj(A:Option Eu)(n c:Nat)(w:H): Ef Eb 61 #[G A n c] w fun e w'=>e=Eg (EU (Xi n 1 64))/\w=w':=by
 unfold Xi;by_cases h1:(1:Int)<=n;·have t1:decide ((1:Int)<=(n:Int))=EI:=IU h1;go_enter Tryz.func61,Tryz.ntmps61;exact EnK
 ·have t1:decide ((1:Int)<=(n:Int))=B:=IJ h1;go_enter Tryz.func61,Tryz.ntmps61;exact EnK
theorem EhA(x:Int)(w:H)(hx:I9 x): Ef Eb 63 #[E I x] w fun e w'=>e=Eg (EU (qP (E I x)))/\El w w':=by
 unfold qP;cases hb:Xi x 0 15 with
 |true=>
  have h0:0<=x/\x<=15:=by unfold Xi at hb;simpa using hb
  simp only[Bool.true_and];obtain⟨r,hr⟩:=En ((x%2==0));rw[<-hr];have hm:x.tmod 2=x%2:=Int.tmod_eq_emod_of_nonneg h0.1;have hr2:(x.tmod 2==0)=r:=by rw[hm,hr]
  have HB:=J hb;have HRR:=J hr;clear hr hm hb;go_enter Tryz.func63,Tryz.ntmps63;go_wp2_with fail;refine(gD 0 15 _).mono ?_;rintro e w1 ⟨v,rfl,⟨a,b,rfl,ca,cb⟩,b1⟩;go_wp2_with fail;refine(qN x 0 15 a b _ ca cb).mono ?_;rintro e w2 ⟨rfl,rfl⟩;rw[HB.out];go_wp2_with fail;go_ret;exact⟨by rw[HB.out,HRR.out];rfl,b1⟩
 |false=> simp only[Bool.false_and];have HB:=J hb;clear hb;go_enter Tryz.func63,Tryz.ntmps63;go_wp2_with fail;refine(gD 0 15 _).mono ?_;rintro e w1 ⟨v,rfl,⟨a,b,rfl,ca,cb⟩,b1⟩;go_wp2_with fail;refine(qN x 0 15 a b _ ca cb).mono ?_;rintro e w2 ⟨rfl,rfl⟩;rw[HB.out];go_wp2_with fail;go_ret;exact⟨by rw[HB.out];rfl,b1⟩
theorem EhB(L:List Int)(x:Int)(b off n c:Nat)(w:H)(hn:L.length=n)(hs:n<=1000000)(hl: ∀i v,L[i]?=Z v->w.cell? ⟨b,off+i,X⟩=Z (E I v)): Ef Eb 110 #[G (Z ⟨b,off,X⟩) n c,E I x] w fun e w'=>(∃r:Int,e=Eg (E I r)/\(0<=r↔x∈L))/\w=w':=by
 have HL:=J hl;have HN:=J hn;clear hl hn;go_enter Tryz.func110,Tryz.ntmps110;go_wp2_with fail;go_loop [8] (fun y=> ∃k:Nat,k<=n/\y=E I k/\ ∀j v,j<k->L[j]?=Z v->v≠x) (fun y=>n-(Ir y).toNat);case atStart=>exact⟨0,U,O,fun j v h=>U⟩
 case round=>
  obtain⟨k,hk,rfl,ht⟩:=hrel;have HT:=J ht;clear ht;by_cases hlt:k<n
  ·have t1:decide ((k:Int)<(n:Int))=EI:=IU U;obtain⟨v,hv⟩: ∃v,L[k]?=Z v:=⟨L[k]' mD,J5 _⟩;have cv:w.cell? ⟨b,off+k,X⟩=Z (E I v):=HL.out k v hv;have HV:=J hv;clear hv;by_cases hx:x=v;·have t2:(x==v)=EI:=ud;go_wp2_with fail;go_ret;refine⟨⟨(k:Int),O,?_⟩,O⟩;exact⟨fun _=>by first|exact dn HV.out|(rw[hx];exact dn HV.out),fun _=>U⟩
   ·have t2:(x==v)=B:=ud;go_wp2_with fail;refine⟨⟨k+1,U,Eh,fun j Y3 hj hu=> ?_⟩,JM⟩;by_cases hjk:j<k;·exact HT.out j Y3 hjk hu
    ·obtain rfl:j=k:=U;have:=HV.out.symm.trans hu;injection this with this;rw[<-this];exact fun e=>hx e.symm
  ·obtain rfl:k=n:=U;have t1:decide ((k:Int)<(k:Int))=B:=IJ U;go_wp2_with fail;go_ret;refine⟨⟨-1,O,?_⟩,O⟩;refine⟨fun h=>absurd h U,fun hm=> ?_⟩;exfalso;obtain⟨j,hj⟩:=fC.1 hm;exact HT.out j x (by have:=(Xx.1 hj).1;rw[HN.out] at this;exact this) hj O
theorem EhC(L:List Int)(x:Int)(bo:Bool)(Zb:bo=decide (x∈L))(b off n c:Nat)(w:H)(hn:L.length=n)(hs:n<=1000000)(hl: ∀i v,L[i]?=Z v->w.cell? ⟨b,off+i,X⟩=Z (E I v)): Ef Eb 79 #[G (Z ⟨b,off,X⟩) n c,E I x] w fun e w'=>e=Eg (EU bo)/\w=w':=by
 have CI:=J<|EhB L x b off n c w hn hs hl;clear hl hn;go_enter Tryz.func79,Tryz.ntmps79;go_wp2_with fail;refine CI.out.mono ?_;rintro e w2 ⟨⟨r,rfl,hr⟩,rfl⟩;have tb:decide (0<=r)=bo:=by rw[Zb];exact decide_eq_decide.2 hr
 clear Zb hr;exact Eli
theorem EhD(x o0 o1 o2 o3 o4:Int)(b:Nat)(w:H)(kb:D w b #[E I o0,E I o1,E I o2,E I o3,E I o4] 22): Ef Eb 78 #[E I x,M (Z ⟨b,0,X⟩)] w fun e w'=>e=Eg (EU (qQ o1 o2 o3 (E I x)))/\w=w':=by
 obtain⟨bo,Zb⟩: ∃bo,bo=qQ o1 o2 o3 (E I x):=⟨_,O⟩;rw[<-Zb]
 have CT:=J (EhC [o1,o2,o3] x bo Zb b 1 3 4 w O U (fun i v hi=>by
  match i,hi with
  |0,hi=>injection hi with hi;rw[<-hi];exact(D.cell kb 1).trans O
  |1,hi=>injection hi with hi;rw[<-hi];exact(D.cell kb 2).trans O
  |2,hi=>injection hi with hi;rw[<-hi];exact(D.cell kb 3).trans O))
 clear Zb kb;go_enter Tryz.func78,Tryz.ntmps78;go_wp2_with fail;refine CT.out.mono ?_;rintro e w2 ⟨rfl,rfl⟩;exact Eli
def Dt(o0 o1 o2 o3 o4:Int):Bool:=(o0==0&&o4==4)&&[E .i64 1,E I 2,E I 3].all (qQ o1 o2 o3)
theorem EhF(o0 o1 o2 o3 o4:Int)(w:H): Ef Eb 59 #[EZ #[E I o0,E I o1,E I o2,E I o3,E I o4]] w fun e w'=>e=Eg (EU (Dt o0 o1 o2 o3 o4))/\El w w':=by
 unfold Dt;obtain⟨bo,Zb⟩: ∃bo,bo=[E .i64 1,E I 2,E I 3].all (qQ o1 o2 o3):=⟨_,O⟩;rw[<-Zb];replace Zb:=J Zb;by_cases h0:o0=0
 ·have t0:(o0 !=0)=B:=sW;by_cases h4:o4=4
  ·have t4:(o4 !=4)=B:=hU;have eb:((o0==0&&o4==4)&&bo)=bo:=by rw[h0,h4];rfl
   rw[eb];clear eb h0 h4;have KB:=J<|D.new w #[E I o0,E I o1,E I o2,E I o3,E I o4] 22;have b1:=Er w (EJ #[E I o0,E I o1,E I o2,E I o3,E I o4] 22);have b2:=Er (w.alloc (EJ #[E I o0,E I o1,E I o2,E I o3,E I o4] 22)) (EJ #[E I 1,E I 2,E I 3] 3);have KA:=EM KB b2;have KI:=D.new (w.alloc (EJ #[E I o0,E I o1,E I o2,E I o3,E I o4] 22)) #[E I 1,E I 2,E I 3] 3;rw[World.size_alloc] at KI
   have AL:=J (nV 78 #[M (Z ⟨w.heap.size,0,X⟩)] [E I 1,E I 2,E I 3] (qQ o1 o2 o3) (w.heap.size+1) 0 3 3 _ O U ⟨fun _ _=>Ed,fun v hv W hW=>by
    obtain⟨x,rfl⟩: ∃x,v=E I x:=by simp only[UJ,UA,or_false] at hv;rcases hv with rfl|rfl|rfl<;>exact⟨_,rfl⟩
    refine(EhD x o0 o1 o2 o3 o4 w.heap.size W (D.V KA.out hW)).mono ?_;rintro e w' ⟨rfl,rfl⟩;exact⟨O,E9 _ _⟩⟩ (fun i v hi=>by
    match i,hi with
    |0,hi=>injection hi with hi;rw[<-hi];exact(D.cell KI 0).trans O
    |1,hi=>injection hi with hi;rw[<-hi];exact(D.cell KI 1).trans O
    |2,hi=>injection hi with hi;rw[<-hi];exact(D.cell KI 2).trans O))
   have u:=J<|bt b1 b2;clear KB b1 b2 KA KI;go_enter Tryz.func59,Tryz.ntmps59;go_wp2_with fail;refine AL.out.mono ?_;rintro e w3 ⟨rfl,b3⟩;rw[<-Zb.out];go_wp2_with fail;go_ret;exact⟨O,bt u.out b3⟩
  ·have t4:(o4 !=4)=EI:=hU;have eb:((o0==0&&o4==4)&&bo)=B:=hU;rw[eb];clear eb h0 h4;exact Epx
 ·have t0:(o0 !=0)=EI:=sW;have eb:((o0==0&&o4==4)&&bo)=B:=sW;rw[eb];clear eb h0;exact Epx
theorem tu{vs:List Y}{L:List Int}(h:vs=L.map (E .i64)): ∀Y3∈vs,∃x,Y3=E .i64 x:=by subst h;intro Y3 hu;obtain⟨x,-,e⟩:=dU.1 hu;exact⟨x,e.symm⟩
theorem EhG(r0 r1 r2 r3:Int)(w:H): Ef Eb 65 #[EZ #[E I r0,E I r1,E I r2,E I r3]] w fun e w'=>e=Eg (EU (tr (EZ #[E I r0,E I r1,E I r2,E I r3])))/\El w w':=by
 obtain⟨bo,Zb⟩: ∃bo,bo=tr (EZ #[E I r0,E I r1,E I r2,E I r3]):=⟨_,O⟩;rw[<-Zb];have HBO:Ec (bo=([r0,r1,r2,r3].map (E .i64)).all (Uo 0 15)):=J (by rw[Zb];rfl);have K0:=J<|D.new w #[E I r0,E I r1,E I r2,E I r3] 25;have b1:=Er w (EJ #[E I r0,E I r1,E I r2,E I r3] 25);clear Zb;go_enter Tryz.func65,Tryz.ntmps65;go_wp2_with fail;obtain⟨gb,hgb⟩:=En w.heap.size;rw[<-hgb] at K0⊢;have KB:=J K0.out;have u:=J b1;clear K0 b1;generalize w.alloc (EJ #[E I r0,E I r1,E I r2,E I r3] 25)=w1 at*;refine bH (Ph:=fun _ wq=>El w1 wq) (Rel:=J0) (Is:=fun w w'=>w=w') [kq (G (Z ⟨gb,0,X⟩) 4 4),.dep (UZ 0 15) (fun v w w' h hr=>h.V hr) (fun v w w' h hr=>Z8),kq (EU bo),kq (EU bo)] [B,B,B,B] O [] [(0,0),(0,0),(0,0),(0,0)] Ed Ed Ed Ed Ed UP Ed ?hPh ?h0 ?hstep ?hend;case hPh=> intro p w2 w3 h hr;exact bt h hr
 case h0=> exact Jg w1
 case hstep=>
  refine⟨?_,?_,?_,?_,trivial⟩;all_goals intro xv wq p hlo hhi hp hd
  all_goals simp only[EH,Ig,Ii,Ia,Ib]
  ·exact EmZ
  ·refine JH (f:=66) (args:= #[E I 0,E I 15]) (Ei O) Ex ?_;exact(gD 0 15 wq).mono fun e w2 ⟨v,he,hv,hb⟩=>⟨v,he,hb,hv⟩
  ·have d0:xv 0=G (Z ⟨gb,0,X⟩) 4 4:=hd.at 0 rfl;obtain⟨cap,e1,hok⟩:=UZ.ok (hd.at 1 rfl:UZ 0 15 (xv 1) wq);refine JH (f:=62) (args:= #[G (Z ⟨gb,0,X⟩) 4 4,.func (.func 80) #[] cap]) (Ei O) (by simp[go_sem,e1,d0]) ?_;exact(nV _ cap ([r0,r1,r2,r3].map (E .i64)) (Uo 0 15) gb 0 4 4 wq O U (hok _ (tu O)) (fun i v hi=>(D.cell (D.V KB.out hp) i).trans U5|>fun h=>Up)).mono fun e w2 ⟨he,hb⟩=>⟨EU bo,he.trans (by rw[HBO.out]),hb,O⟩
  ·have d2:xv 2=EU bo:=hd.at 2 rfl;exact Es Kb O
 case hend=> intro xv W6 hp hd;simp only[EH,Ig,Ii,Ia,Ib];have a2:xv 2=EU bo:=hd 2 Ea;have a3:xv 3=EU bo:=hd 3 Ea;rw[a2,a3];clear hd a2 a3;replace u:=ET u hp;clear hp;go_wp2_with fail;go_ret;exact EoJ
def tx(p:Nat->Int):Bool:=Dt (p 0) (p 1) (p 2) (p 3) (p 4)
def tz(kl:Nat->Nat):Bool:=((Xi (kl 5) 1 64&&Xi (kl 6) 1 64)&&Xi (kl 7) 1 64)&&Xi (kl 8) 1 64
def xB(p:Nat->Int):Bool:=(p 9==1&&p 13==0)&&([p 10,p 11,p 12].map (E .i64)).all qP
def gF(p:Nat->Int)(k:Nat):Y:=EZ #[E I (p (14+k*4)),E I (p (15+k*4)),E I (p (16+k*4)),E I (p (17+k*4))]
def xC(p:Nat->Int):Bool:=[gF p 0,gF p 1,gF p 2,gF p 3,gF p 4].all tr
def xD(p:Nat->Int):Bool:=([p 34,p 35,p 36,p 37,p 38].map (E .i64)).all (Uo 0 31)
def xF(p:Nat->Int):Bool:=([p 39,p 40,p 41].map (E .i64)).all (Uo 0 4)
def xG(p:Nat->Int):Bool:=([p 42,p 43,p 44,p 45].map (E .i64)).all (Uo 1 1000)
def xH(p:Nat->Int):Bool:=Xi (p 46) 1 1000&&Xi (p 47) 0 1000
def xK(p:Nat->Int):Bool:=([p 48,p 49].map (E .i64)).all (Uo 1 3)
def xL(p:Nat->Int):Bool:=(p 50==0&&([p 51,p 52,p 53].map (E .i64)).all (Uo 0 1000))&&Xi (p 54) 1 1000
def Du(p:Nat->Int):Bool:=Xi (p 55) 0 65535
def xM(b1 b2 b3 b4 b5 b6 b7 b8 b9 b10 b11:Bool):Int:=
 bif b1 then bif b2 then bif b3 then bif b4 then bif b5 then bif b6 then bif b7 then bif b8 then bif b9 then bif b10 then bif b11 then 0 else 50 else 49 else 48 else 47 else 46 else 45 else 44 else 43 else 42 else 41 else 40
def U_(p:Nat->Int)(kl:Nat->Nat):Int:=xM (tx p) (tz kl) (xB p) (xC p) (xD p) (xF p) (xG p) (xH p) (xK p) (xL p) (Du p)
structure xN(g:Nat->Y)(p:Nat->Int)(kl:Nat->Nat):Prop where
 int: ∀i,i<56->i<5\/8<i->g i=E I (p i)/\I9 (p i)
 key: ∀i,5<=i->i<=8-> ∃(A:Option Eu) (c:Nat),g i=G A (kl i) c
 ok:tx p=B\/U_ p kl=0
theorem EhK: ∀b2 b3 b4 b5 b6 b7 b8 b9 b10 b11,xM EI b2 b3 b4 b5 b6 b7 b8 b9 b10 b11=0->b2=EI/\b3=EI/\b4=EI/\b5=EI/\b6=EI/\b7=EI/\b8=EI/\b9=EI/\b10=EI/\b11=EI:=by intro b2 b3 b4 b5 b6 b7 b8 b9 b10 b11 h;unfold xM at h;cases b2<;>cases b3<;>cases b4<;>cases b5<;>cases b6<;>cases b7<;>cases b8<;>cases b9<;>cases b10<;>cases b11<;>first|(cases h;done)|simp
theorem EhL:IG Eb 22 5:=⟨⟨_,Tryz.underlying22,O⟩,Ed⟩
theorem EhM(g:Nat->Y)(p:Nat->Int)(kl:Nat->Nat)(w:H)(hv:xN g p kl): Ef Eb 39 #[EZ (EG 56 g)] w fun e w'=>e=Eg (E I (U_ p kl))/\El w w':=by
 obtain⟨r,hr⟩:=En (U_ p kl);have hok:tx p=B\/r=0:=by rw[hr];exact hv.ok
 rw[<-hr];unfold U_ at hr;obtain⟨b1,hb1⟩:=En (tx p);rw[<-hb1] at hr hok;replace hb1:=J hb1;obtain⟨b2,hb2⟩:=En (tz kl);rw[<-hb2] at hr;replace hb2:=J hb2;obtain⟨b3,hb3⟩:=En (xB p);rw[<-hb3] at hr;replace hb3:=J hb3;obtain⟨b4,hb4⟩:=En (xC p);rw[<-hb4] at hr;replace hb4:=J hb4;obtain⟨b5,hb5⟩:=En (xD p);rw[<-hb5] at hr;replace hb5:=J hb5;obtain⟨b6,hb6⟩:=En (xF p);rw[<-hb6] at hr;replace hb6:=J hb6;obtain⟨b7,qU⟩:=En (xG p);rw[<-qU] at hr;replace qU:=J qU;obtain⟨b8,Dv⟩:=En (xH p);rw[<-Dv] at hr;replace Dv:=J Dv;obtain⟨b9,Dw⟩:=En (xK p);rw[<-Dw] at hr;replace Dw:=J Dw;obtain⟨b10,Dx⟩:=En (xL p);rw[<-Dx] at hr;replace Dx:=J Dx;obtain⟨b11,Dy⟩:=En (Du p);rw[<-Dy] at hr;replace Dy:=J Dy;have HRR:=J hr;have K0:=J<|D.new w (EG 56 g) 28;have tA:=Er w (EJ (EG 56 g) 28);have PV:=J hv;have pN:=J hok;clear hr hv hok;go_enter Tryz.func39,Tryz.ntmps39;go_wp2_with (with_reducible refine I7 4 ?_);apply Eo;obtain⟨gp,UD⟩:=En w.heap.size;rw[<-UD] at K0⊢;have KP:=J K0.out;have B1:=J tA;clear K0 tA UD;generalize w.alloc (EJ (EG 56 g) 28)=w1 at*;have u:=J<|E9 w1.heap.size w1;have PC:Ec (∀W,El w1 W-> ∀i,i<56->i<5\/8<i->W.cell? ⟨gp,i,X⟩=Z (E I (p i))):=J (fun W hW i h1 h2=>by rw[D.cell (D.V KP.out hW) i,d_,if_pos h1,(PV.out.int i h1 h2).1]);have dC:Ec ((EG 56 g).extract 0 (0+5)= #[E I (p 0),E I (p 1),E I (p 2),E I (p 3),E I (p 4)]):=J (by have e:(EG 56 g).extract 0 (0+5)= #[g 0,g 1,g 2,g 3,g 4]:=hI;rw[e,(PV.out.int 0 U U).1,(PV.out.int 1 U U).1,(PV.out.int 2 U U).1,(PV.out.int 3 U U).1,(PV.out.int 4 U U).1]);have CO:Ec (∀W,Ef Eb 59 #[EZ #[E I (p 0),E I (p 1),E I (p 2),E I (p 3),E I (p 4)]] W fun e w'=>e=Eg (EU b1)/\El W w'):=J (fun W=>by rw[hb1.out];exact EhF _ _ _ _ _ W);go_wp2_with (with_reducible refine wM (off:=0) (cs:= #[E I (p 0),E I (p 1),E I (p 2),E I (p 3),E I (p 4)]) EhL KP ?_ (he:=dC.out));refine(CO.out _).mono ?_;rintro e W1 ⟨rfl,bb⟩;replace u:=ET u bb;clear bb CO dC;cases b1 with
 |false=> go_wp2_with fail;go_ret;exact⟨by rw[HRR.out];rfl,bt B1.out u.out⟩
 |true=>
 obtain⟨t2,t3,t4,t5,t6,t7,t8,t9,t10,t11⟩:=EhK _ _ _ _ _ _ _ _ _ _ (by rw[<-HRR.out];exact pN.out.resolve_left Ea);have T2:=J t2;have T3:=J t3;have T4:=J t4;have T5:=J t5;have T6:=J t6;have T7:=J t7;have T8:=J t8;have T9:=J t9;have MH:=J t10;have T11:=J t11;clear t2 t3 t4 t5 t6 t7 t8 t9 t10 t11 pN;obtain⟨A5,c5,e5⟩:=PV.out.key 5 U U;obtain⟨A6,c6,e6⟩:=PV.out.key 6 U U;obtain⟨A7,c7,e7⟩:=PV.out.key 7 U U;obtain⟨A8,c8,e8⟩:=PV.out.key 8 U U;obtain⟨Dz,MK⟩:=En ([G A5 (kl 5) c5,G A6 (kl 6) c6,G A7 (kl 7) c7].all MF);obtain⟨DA,ML⟩:=En (Xi (kl 8) 1 64);obtain rfl:b2=(Dz&&DA):=by rw[hb2.out,MK,ML];unfold tz;simp[MF,Bool.and_assoc]
 have CK:Ec (∀W,El w1 W->Ef Eb 60 #[G (Z ⟨gp,5,X⟩) 3 3,.func (.func 61) #[] #[]] W fun e w'=>e=Eg (EU Dz)/\El W w'):=J (fun W hW=>by
  rw[MK];refine Ehx 61 #[] _ MF gp 5 3 3 W O U ⟨fun _ _=>Ed,fun v hv W2 hW2=> ?_⟩ (fun i v hi=> ?_)
  ·obtain⟨A,n,c,rfl⟩: ∃A n c,v=G A n c:=by simp only[UJ,UA,or_false] at hv;rcases hv with rfl|rfl|rfl<;>exact⟨_,_,_,rfl⟩
   refine(EEj A n c W2).mono ?_;rintro e w' ⟨rfl,rfl⟩;exact⟨O,E9 _ _⟩
  ·have hc: ∀i,i<56->W.cell? ⟨gp,i,X⟩=Z (g i):=fun i h=>by rw[D.cell (D.V KP.out hW) i,d_,if_pos h]
   match i,hi with
   |0,hi=>injection hi with hi;rw[<-hi,<-e5];exact hc 5 U
   |1,hi=>injection hi with hi;rw[<-hi,<-e6];exact hc 6 U
   |2,hi=>injection hi with hi;rw[<-hi,<-e7];exact hc 7 U)
 have CK8:Ec (∀W,Ef Eb 61 #[G A8 (kl 8) c8] W fun e w'=>e=Eg (EU DA)/\W=w'):=J (fun W=>by rw[ML];exact EEj _ _ _ W);have C8:Ec (∀W,El w1 W->W.cell? ⟨gp,8,X⟩=Z (G A8 (kl 8) c8)):=J (fun W hW=>by rw[D.cell (D.V KP.out hW) 8,d_,if_pos U,e8]);clear e5 e6 e7 e8 MK ML;go_wp2_with fail;refine(CK.out _ u.out).mono ?_;rintro e W2 ⟨rfl,bb⟩;replace u:=ET u bb;clear bb CK;have cc8:=C8.out _ u.out;obtain rfl:Dz=EI:=by have h:=T2.out;revert h;cases Dz<;>simp
 go_wp2_with fail;refine(CK8.out _).mono ?_;rintro e W2' ⟨rfl,rfl⟩;obtain rfl:DA=EI:=by have h:=T2.out;revert h;cases DA<;>simp
 clear CK8 C8 cc8;have c9:=PC.out _ u.out 9 U U;have c13:=PC.out _ u.out 13 U U;obtain⟨MN,MP⟩: ∃b,b=([p 10,p 11,p 12].map (E .i64)).all qP:=⟨_,O⟩
 have EEl:Ec (∀W,El w1 W-> ∀i v,([p 10,p 11,p 12].map (E .i64))[i]?=Z v->W.cell? ⟨gp,10+i,X⟩=Z v):=J (fun W hW i v hi=>by
  match i,hi with
  |0,hi=>injection hi with hi;rw[<-hi];exact PC.out W hW 10 U U
  |1,hi=>injection hi with hi;rw[<-hi];exact PC.out W hW 11 U U
  |2,hi=>injection hi with hi;rw[<-hi];exact PC.out W hW 12 U U
  )
 have CR:Ec (∀W,El w1 W->Ef Eb 62 #[G (Z ⟨gp,10,X⟩) 3 4,.func (.func 63) #[] #[]] W fun e w'=>e=Eg (EU MN)/\El W w'):=J (fun W hW=>by
  rw[MP];refine nV 63 #[] _ qP gp 10 3 4 W O U ⟨fun _ _=>Ed,fun v hv W2 hW2=> ?_⟩ (EEl.out W hW)
  obtain⟨x,rfl,hx⟩: ∃x,v=E I x/\I9 x:=by
   simp only[Uv,Xn,UJ,UA,or_false] at hv;rcases hv with rfl|rfl|rfl;·exact⟨_,O,(PV.out.int 10 U U).2⟩
   ·exact⟨_,O,(PV.out.int 11 U U).2⟩
   ·exact⟨_,O,(PV.out.int 12 U U).2⟩
  exact EhA x W2 hx)
 have e3:Ec (b3=((p 9==1&&p 13==0)&&MN)):=J (by rw[hb3.out,MP];rfl);clear MP EEl;have h9:p 9=1:=by have h:=T3.out;rw[e3.out] at h;simp at h;exact h.1.1
 have t9:(p 9 !=1)=B:=by simp[h9]
 have ii:p 13=0:=by have h:=T3.out;rw[e3.out] at h;simp at h;exact h.1.2
 have t13:(p 13 !=0)=B:=by simp[ii]
 obtain rfl:b3=MN:=by rw[e3.out];simp[h9,ii]
 clear h9 ii e3;go_wp2_with fail;refine(CR.out _ u.out).mono ?_;rintro e W3 ⟨rfl,bb⟩;replace u:=ET u bb;clear bb CR c9 c13 t9 t13;obtain rfl:b3=EI:=by have h:=T3.out;revert h;cases b3<;>simp
 have CR:Ec (∀W,El w1 W->Ef Eb 64 #[G (Z ⟨gp,14,X⟩) 5 5,.func (.func 65) #[] #[]] W fun e w'=>e=Eg (EU b4)/\El W w'):=J (fun W hW=>by
  rw[hb4.out];have hrow: ∀v∈[gF p 0,gF p 1,gF p 2,gF p 3,gF p 4],∃r0 r1 r2 r3:Int,v=EZ #[E I r0,E I r1,E I r2,E I r3]:=fun v hv=>by simp only[UJ,UA,or_false] at hv;rcases hv with rfl|rfl|rfl|rfl|rfl<;>exact⟨_,_,_,_,rfl⟩
  refine Ehy 65 #[] _ tr gp 14 5 5 W O U ⟨fun _ _=>Ed,fun v hv W2 hW2=> ?_⟩ 28 (EG 56 g) (D.V KP.out hW) (fun row hr=> ?_) (fun i v hi=> ?_);·obtain⟨r0,r1,r2,r3,rfl⟩:=hrow v hv;exact EhG r0 r1 r2 r3 W2
  ·obtain⟨r0,r1,r2,r3,e⟩:=hrow _ hr;injection e with e;rw[e];simp[OF]
  ·match i,hi with
   |0,hi=> injection hi with hi;refine⟨_,hi.symm,O,?_⟩;have e:(EG 56 g).extract (14) (14+4)= #[g 14,g 15,g 16,g 17]:=hI;rw[show 14+0*4=14 from rfl,e,(PV.out.int 14 U U).1,(PV.out.int 15 U U).1,(PV.out.int 16 U U).1,(PV.out.int 17 U U).1]
   |1,hi=> injection hi with hi;refine⟨_,hi.symm,O,?_⟩;have e:(EG 56 g).extract (18) (18+4)= #[g 18,g 19,g 20,g 21]:=hI;rw[show 14+1*4=18 from rfl,e,(PV.out.int 18 U U).1,(PV.out.int 19 U U).1,(PV.out.int 20 U U).1,(PV.out.int 21 U U).1]
   |2,hi=> injection hi with hi;refine⟨_,hi.symm,O,?_⟩;have e:(EG 56 g).extract (22) (22+4)= #[g 22,g 23,g 24,g 25]:=hI;rw[show 14+2*4=22 from rfl,e,(PV.out.int 22 U U).1,(PV.out.int 23 U U).1,(PV.out.int 24 U U).1,(PV.out.int 25 U U).1]
   |3,hi=> injection hi with hi;refine⟨_,hi.symm,O,?_⟩;have e:(EG 56 g).extract (26) (26+4)= #[g 26,g 27,g 28,g 29]:=hI;rw[show 14+3*4=26 from rfl,e,(PV.out.int 26 U U).1,(PV.out.int 27 U U).1,(PV.out.int 28 U U).1,(PV.out.int 29 U U).1]
   |4,hi=> injection hi with hi;refine⟨_,hi.symm,O,?_⟩;have e:(EG 56 g).extract (30) (30+4)= #[g 30,g 31,g 32,g 33]:=hI;rw[show 14+4*4=30 from rfl,e,(PV.out.int 30 U U).1,(PV.out.int 31 U U).1,(PV.out.int 32 U U).1,(PV.out.int 33 U U).1]
   )
 go_wp2_with fail;refine(CR.out _ u.out).mono ?_;rintro e W4 ⟨rfl,bb⟩;replace u:=ET u bb;clear bb CR;obtain rfl:b4=EI:=by have h:=T4.out;revert h;cases b4<;>simp
 have u7:Ec (b5=([p 34,p 35,p 36,p 37,p 38].map (E .i64)).all (Uo 0 31)):=J hb5.out
 have EEm:Ec (∀W,El w1 W-> ∀i v,([p 34,p 35,p 36,p 37,p 38].map (E .i64))[i]?=Z v->W.cell? ⟨gp,34+i,X⟩=Z v):=J (fun W hW i v hi=>by
  match i,hi with
  |0,hi=>injection hi with hi;rw[<-hi];exact PC.out W hW 34 U U
  |1,hi=>injection hi with hi;rw[<-hi];exact PC.out W hW 35 U U
  |2,hi=>injection hi with hi;rw[<-hi];exact PC.out W hW 36 U U
  |3,hi=>injection hi with hi;rw[<-hi];exact PC.out W hW 37 U U
  |4,hi=>injection hi with hi;rw[<-hi];exact PC.out W hW 38 U U
  )
 go_wp2_with fail;refine bH (Ph:=fun _ wq=>El w1 wq) (Rel:=J0) (Is:=fun w w'=>w=w') [kp gp 34,kq (G (Z ⟨gp,34,X⟩) 5 5),.dep (UZ 0 31) (fun v w w' h hr=>h.V hr) (fun v w w' h hr=>Z8),kq (EU b5),kq (EU (!b5)),kq (EU (!b5))] [B,B,B,B,B,B] O [] [(0,0),(0,0),(0,0),(0,0),(0,0),(0,0)] Ed Ed Ed Ed Ed UP Ed ?hPh ?h0 ?hstep ?hend;case hPh=> intro p_ w2 w3 h hr;exact bt h hr
 case h0=> exact bt u.out (Jg W4)
 case hstep=>
  refine⟨?_,?_,?_,?_,?_,?_,trivial⟩;all_goals intro xv wq p_ hlo hhi hp hd
  all_goals simp only[EH,Ig,Ii,Ia,Ib]
  ·exact EmZ
  ·have d0:xv 0=M (Z ⟨gp,34,X⟩):=hd.at 0 rfl;exact EoF
  ·refine JH (f:=66) (args:= #[E I 0,E I 31]) (Ei O) Ex ?_;exact(gD 0 31 wq).mono fun e w2 ⟨v,he,hv,hb⟩=>⟨v,he,hb,hv⟩
  ·have d1:xv 1=G (Z ⟨gp,34,X⟩) 5 5:=hd.at 1 rfl;obtain⟨cap,e1,hok⟩:=UZ.ok (hd.at 2 rfl:UZ 0 31 (xv 2) wq);refine JH (f:=62) (args:= #[G (Z ⟨gp,34,X⟩) 5 5,.func (.func 80) #[] cap]) (Ei O) (by simp[go_sem,e1,d1]) ?_;exact(nV _ cap ([p 34,p 35,p 36,p 37,p 38].map (E .i64)) (Uo 0 31) gp 34 5 5 wq O U (hok _ (tu O)) (EEm.out wq hp)).mono fun e w2 ⟨he,hb⟩=>⟨EU b5,he.trans (by rw[u7.out]),hb,O⟩
  ·have d3:xv 3=EU b5:=hd.at 3 rfl;exact EoD
  ·have d4:xv 4=EU (!b5):=hd.at 4 rfl;exact Eo6
 case hend=>
  intro xv W5 hp hd;simp only[EH,Ig,Ii,Ia,Ib];have a4:xv 4=EU (!b5):=hd 4 Ea;have a5:xv 5=EU (!b5):=hd 5 Ea;rw[a4,a5];clear hd a4 a5;replace u:=J hp;clear hp;clear EEm u7;obtain rfl:b5=EI:=by have h:=T5.out;revert h;cases b5<;>simp
  have u9:Ec (b6=([p 39,p 40,p 41].map (E .i64)).all (Uo 0 4)):=J hb6.out;go_wp2_with fail;refine bH (Ph:=fun _ wq=>El w1 wq) (Rel:=J0) (Is:=fun w w'=>w=w') [kp gp 39,kq (E I (p 39)),kp gp 40,kq (E I (p 40)),kp gp 41,kq (E I (p 41)),.dep (fun v w=> ∃b:Nat,v=G (Z ⟨b,0,X⟩) 3 3/\D w b #[E I (p 39),E I (p 40),E I (p 41)] 3) (fun v w w' h hr=>MQ) (fun v w w' h hr=>Z8),.dep (UZ 0 4) (fun v w w' h hr=>h.V hr) (fun v w w' h hr=>Z8),kq (EU b6),kq (EU (!b6)),kq (EU (!b6))] [B,B,B,B,B,B,B,B,B,B,B] O [] [(0,0),(0,0),(0,0),(0,0),(0,0),(0,0),(0,0),(0,0),(0,0),(0,0),(0,0)] Ed Ed Ed Ed Ed UP Ed ?hPh ?h0 ?hstep ?hend;case hPh=> intro p_ w2 w3 h hr;exact bt h hr
  case h0=> exact bt u.out (Jg W5)
  case hstep=>
   refine⟨?_,?_,?_,?_,?_,?_,?_,?_,?_,?_,?_,trivial⟩;all_goals intro xv wq p_ hlo hhi hp hd
   all_goals simp only[EH,Ig,Ii,Ia,Ib]
   ·exact EmZ
   ·have d0:xv 0=M (Z ⟨gp,39,X⟩):=hd.at 0 rfl;have cc:wq.cell? ⟨gp,39,X⟩=Z (E I (p 39)):=(PC.out _ hp 39 U U);exact Es MR O
   ·exact EmZ
   ·have d2:xv 2=M (Z ⟨gp,40,X⟩):=hd.at 2 rfl;have cc:wq.cell? ⟨gp,40,X⟩=Z (E I (p 40)):=(PC.out _ hp 40 U U);exact EoW
   ·exact EmZ
   ·have d4:xv 4=M (Z ⟨gp,41,X⟩):=hd.at 4 rfl;have cc:wq.cell? ⟨gp,41,X⟩=Z (E I (p 41)):=(PC.out _ hp 41 U U);exact Es Hd O
   ·have d1:xv 1=E I (p 39):=hd.at 1 rfl;have d3:xv 3=E I (p 40):=hd.at 3 rfl;have d5:xv 5=E I (p 41):=hd.at 5 rfl;exact Zg (w':=wq.alloc (EJ #[E I (p 39),E I (p 40),E I (p 41)] 3)) (Ei O) (by simp[go_sem,d1,d3,d5]) (Er wq _) ⟨wq.heap.size,O,D.new _ _ _⟩
   ·refine JH (f:=66) (args:= #[E I 0,E I 4]) (Ei O) Ex ?_;exact(gD 0 4 wq).mono fun e w2 ⟨v,he,hv,hb⟩=>⟨v,he,hb,hv⟩
   ·obtain⟨cap,e1,hok⟩:=UZ.ok (hd.at 7 rfl:UZ 0 4 (xv 7) wq);obtain⟨b,e2,kb⟩: ∃b:Nat,xv 6=G (Z ⟨b,0,X⟩) 3 3/\D wq b #[E I (p 39),E I (p 40),E I (p 41)] 3:=hd.at 6 rfl;refine JH (f:=62) (args:= #[G (Z ⟨b,0,X⟩) 3 3,.func (.func 80) #[] cap]) (Ei O) MS ?_;exact(nV _ cap ([p 39,p 40,p 41].map (E .i64)) (Uo 0 4) b 0 3 3 wq O U (hok _ (tu O)) (fun i v hi=>by have:=(D.cell kb i).trans U5;simpa using this)).mono fun e w2 ⟨he,hb⟩=>⟨EU b6,he.trans (by rw[u9.out]),hb,O⟩
   ·have d8:xv 8=EU b6:=hd.at 8 rfl;exact Es fV O
   ·have d9:xv 9=EU (!b6):=hd.at 9 rfl;exact Es rP O
  case hend=>
   intro xv W6 hp hd;simp only[EH,Ig,Ii,Ia,Ib];have a9:xv 9=EU (!b6):=hd 9 Ea;have UX:xv 10=EU (!b6):=hd 10 Ea;rw[a9,UX];clear hd a9 UX;replace u:=J hp;clear hp;clear u9;obtain rfl:b6=EI:=by have h:=T6.out;revert h;cases b6<;>simp
   have u_:Ec (b7=([p 42,p 43,p 44,p 45].map (E .i64)).all (Uo 1 1000)):=J qU.out;go_wp2_with fail;refine bH (Ph:=fun _ wq=>El w1 wq) (Rel:=J0) (Is:=fun w w'=>w=w') [kp gp 42,kq (E I (p 42)),kp gp 43,kq (E I (p 43)),kp gp 44,kq (E I (p 44)),kp gp 45,kq (E I (p 45)),.dep (fun v w=> ∃b:Nat,v=G (Z ⟨b,0,X⟩) 4 4/\D w b #[E I (p 42),E I (p 43),E I (p 44),E I (p 45)] 3) (fun v w w' h hr=>MQ) (fun v w w' h hr=>Z8),.dep (UZ 1 1000) (fun v w w' h hr=>h.V hr) (fun v w w' h hr=>Z8),kq (EU b7),kq (EU (!b7)),kq (EU (!b7))] [B,B,B,B,B,B,B,B,B,B,B,B,B] O [] [(0,0),(0,0),(0,0),(0,0),(0,0),(0,0),(0,0),(0,0),(0,0),(0,0),(0,0),(0,0),(0,0)] Ed Ed Ed Ed Ed UP Ed ?hPh ?h0 ?hstep ?hend;case hPh=> intro p_ w2 w3 h hr;exact bt h hr
   case h0=> exact bt u.out (Jg W6)
   case hstep=>
    refine⟨?_,?_,?_,?_,?_,?_,?_,?_,?_,?_,?_,?_,?_,trivial⟩;all_goals intro xv wq p_ hlo hhi hp hd
    all_goals simp only[EH,Ig,Ii,Ia,Ib]
    ·exact EmZ
    ·have d0:xv 0=M (Z ⟨gp,42,X⟩):=hd.at 0 rfl;have cc:wq.cell? ⟨gp,42,X⟩=Z (E I (p 42)):=(PC.out _ hp 42 U U);exact Es MR O
    ·exact EmZ
    ·have d2:xv 2=M (Z ⟨gp,43,X⟩):=hd.at 2 rfl;have cc:wq.cell? ⟨gp,43,X⟩=Z (E I (p 43)):=(PC.out _ hp 43 U U);exact EoW
    ·exact EmZ
    ·have d4:xv 4=M (Z ⟨gp,44,X⟩):=hd.at 4 rfl;have cc:wq.cell? ⟨gp,44,X⟩=Z (E I (p 44)):=(PC.out _ hp 44 U U);exact Es Hd O
    ·exact EmZ
    ·have d6:xv 6=M (Z ⟨gp,45,X⟩):=hd.at 6 rfl;have cc:wq.cell? ⟨gp,45,X⟩=Z (E I (p 45)):=(PC.out _ hp 45 U U);exact Es Bq O
    ·have d1:xv 1=E I (p 42):=hd.at 1 rfl;have d3:xv 3=E I (p 43):=hd.at 3 rfl;have d5:xv 5=E I (p 44):=hd.at 5 rfl;have d7:xv 7=E I (p 45):=hd.at 7 rfl;exact Zg (w':=wq.alloc (EJ #[E I (p 42),E I (p 43),E I (p 44),E I (p 45)] 3)) (Ei O) (by simp[go_sem,d1,d3,d5,d7]) (Er wq _) ⟨wq.heap.size,O,D.new _ _ _⟩
    ·exact Epv
    ·obtain⟨cap,e1,hok⟩:=UZ.ok (hd.at 9 rfl:UZ 1 1000 (xv 9) wq);obtain⟨b,e2,kb⟩: ∃b:Nat,xv 8=G (Z ⟨b,0,X⟩) 4 4/\D wq b #[E I (p 42),E I (p 43),E I (p 44),E I (p 45)] 3:=hd.at 8 rfl;refine JH (f:=62) (args:= #[G (Z ⟨b,0,X⟩) 4 4,.func (.func 80) #[] cap]) (Ei O) MS ?_;exact(nV _ cap ([p 42,p 43,p 44,p 45].map (E .i64)) (Uo 1 1000) b 0 4 4 wq O U (hok _ (tu O)) (fun i v hi=>by have:=(D.cell kb i).trans U5;simpa using this)).mono fun e w2 ⟨he,hb⟩=>⟨EU b7,he.trans (by rw[u_.out]),hb,O⟩
    ·have d10:xv 10=EU b7:=hd.at 10 rfl;exact Eo5
    ·have d11:xv 11=EU (!b7):=hd.at 11 rfl;exact EoC
   case hend=>
    intro xv W7 hp hd;simp only[EH,Ig,Ii,Ia,Ib];have OU:xv 11=EU (!b7):=hd 11 Ea;have a12:xv 12=EU (!b7):=hd 12 Ea;rw[OU,a12];clear hd OU a12;replace u:=J hp;clear hp;clear u_;obtain rfl:b7=EI:=by have h:=T7.out;revert h;cases b7<;>simp
    obtain⟨MT,DB⟩:=En (Xi (p 46) 1 1000);obtain⟨MV,DC⟩:=En (Xi (p 47) 0 1000);obtain rfl:b8=(MT&&MV):=by rw[Dv.out,DB,DC];rfl
    replace DB:=J DB;replace DC:=J DC;obtain rfl:MT=EI:=by have h:=T8.out;revert h;cases MT<;>simp
    obtain rfl:MV=EI:=by have h:=T8.out;revert h;cases MV<;>simp
    go_wp2_with fail;refine bH (Ph:=fun _ wq=>El w1 wq) (Rel:=J0) (Is:=fun w w'=>w=w') [.dep (UZ 1 1000) (fun v w w' h hr=>h.V hr) (fun v w w' h hr=>Z8),kp gp 46,kq (E I (p 46)),kq (EU EI),kq (EU B),kq (EU B),.dep (UZ 0 1000) (fun v w w' h hr=>h.V hr) (fun v w w' h hr=>Z8),kp gp 47,kq (E I (p 47)),kq (EU EI),kq (EU B),kq (EU B),kq (EU B)] [B,B,B,B,B,B,B,B,B,B,B,B,B] O [] [(0,0),(0,0),(0,0),(0,0),(0,0),(0,0),(0,0),(0,0),(0,0),(0,0),(0,0),(0,0),(0,0)] Ed Ed Ed Ed Ed UP Ed ?hPh ?h0 ?hstep ?hend;case hPh=> intro p_ w2 w3 h hr;exact bt h hr
    case h0=> exact bt u.out (Jg W7)
    case hstep=>
     refine⟨?_,?_,?_,?_,?_,?_,?_,?_,?_,?_,?_,?_,?_,trivial⟩;all_goals intro xv wq p_ hlo hhi hp hd
     all_goals simp only[EH,Ig,Ii,Ia,Ib]
     ·exact Epv
     ·exact EmZ
     ·have d1:xv 1=M (Z ⟨gp,46,X⟩):=hd.at 1 rfl;have cc:wq.cell? ⟨gp,46,X⟩=Z (E I (p 46)):=(PC.out _ hp 46 U U);exact Es Di O
     ·have d2:xv 2=E I (p 46):=hd.at 2 rfl;obtain⟨wa,wb,e1,ca,cb⟩:UZ 1 1000 (xv 0) wq:=hd.at 0 rfl;refine JH (f:=80) (args:= #[E I (p 46),M (Z ⟨wa,0,X⟩),M (Z ⟨wb,0,X⟩)]) (Ei O) (by simp[go_sem,e1,d2]) ?_;exact(qN (p 46) 1 1000 wa wb wq ca cb).mono fun e w2 ⟨he,hb⟩=>⟨EU EI,he.trans (by rw[DB.out]),DD,O⟩
     ·have d3:xv 3=EU EI:=hd.at 3 rfl;exact EoD
     ·have d4:xv 4=EU B:=hd.at 4 rfl;exact Eo6
     ·have d5:xv 5=EU B:=hd.at 5 rfl;refine JH (f:=66) (args:= #[E I 0,E I 1000]) (bP O O (congrArg Z d5)) Ex ?_;exact Eot
     ·have d5:xv 5=EU B:=hd.at 5 rfl;exact IM EF (bP O O (congrArg Z d5)) Ex O
     ·have d5:xv 5=EU B:=hd.at 5 rfl;have d7:xv 7=M (Z ⟨gp,47,X⟩):=hd.at 7 rfl;have cc:wq.cell? ⟨gp,47,X⟩=Z (E I (p 47)):=(PC.out _ hp 47 U U);exact IM EF (bP O O (congrArg Z d5)) (by simp[go_sem,d7,cc]) O
     ·have d5:xv 5=EU B:=hd.at 5 rfl;have d8:xv 8=E I (p 47):=hd.at 8 rfl;obtain⟨wa,wb,e1,ca,cb⟩:UZ 0 1000 (xv 6) wq:=hd.at 6 rfl;refine JH (f:=80) (args:= #[E I (p 47),M (Z ⟨wa,0,X⟩),M (Z ⟨wb,0,X⟩)]) (bP O O (congrArg Z d5)) (by simp[go_sem,e1,d8]) ?_;exact(qN (p 47) 0 1000 wa wb wq ca cb).mono fun e w2 ⟨he,hb⟩=>⟨EU EI,he.trans (by rw[DC.out]),DD,O⟩
     ·have d5:xv 5=EU B:=hd.at 5 rfl;have d9:xv 9=EU EI:=hd.at 9 rfl;exact IM EF (bP O O (congrArg Z d5)) rP O
     ·have d5:xv 5=EU B:=hd.at 5 rfl;have d10:xv 10=EU B:=hd.at 10 rfl;exact Es (by simp[go_sem,d5,d10]) O
     ·have d11:xv 11=EU B:=hd.at 11 rfl;exact EoC
    case hend=>
     intro xv W8 hp hd;simp only[EH,Ig,Ii,Ia,Ib];have OU:xv 11=EU B:=hd 11 Ea;have a12:xv 12=EU B:=hd 12 Ea;rw[OU,a12];clear hd OU a12;replace u:=J hp;clear hp;have HB9:Ec (b9=([p 48,p 49].map (E .i64)).all (Uo 1 3)):=J Dw.out;go_wp2_with fail;refine bH (Ph:=fun _ wq=>El w1 wq) (Rel:=J0) (Is:=fun w w'=>w=w') [kp gp 48,kq (E I (p 48)),kp gp 49,kq (E I (p 49)),.dep (fun v w=> ∃b:Nat,v=G (Z ⟨b,0,X⟩) 2 2/\D w b #[E I (p 48),E I (p 49)] 3) (fun v w w' h hr=>MQ) (fun v w w' h hr=>Z8),.dep (UZ 1 3) (fun v w w' h hr=>h.V hr) (fun v w w' h hr=>Z8),kq (EU b9),kq (EU (!b9)),kq (EU (!b9))] [B,B,B,B,B,B,B,B,B] O [] [(0,0),(0,0),(0,0),(0,0),(0,0),(0,0),(0,0),(0,0),(0,0)] Ed Ed Ed Ed Ed UP Ed ?hPh ?h0 ?hstep ?hend;case hPh=> intro p_ w2 w3 h hr;exact bt h hr
     case h0=> exact bt u.out (Jg W8)
     case hstep=>
      refine⟨?_,?_,?_,?_,?_,?_,?_,?_,?_,trivial⟩;all_goals intro xv wq p_ hlo hhi hp hd
      all_goals simp only[EH,Ig,Ii,Ia,Ib]
      ·exact EmZ
      ·have d0:xv 0=M (Z ⟨gp,48,X⟩):=hd.at 0 rfl;have cc:wq.cell? ⟨gp,48,X⟩=Z (E I (p 48)):=(PC.out _ hp 48 U U);exact Es MR O
      ·exact EmZ
      ·have d2:xv 2=M (Z ⟨gp,49,X⟩):=hd.at 2 rfl;have cc:wq.cell? ⟨gp,49,X⟩=Z (E I (p 49)):=(PC.out _ hp 49 U U);exact EoW
      ·have d1:xv 1=E I (p 48):=hd.at 1 rfl;have d3:xv 3=E I (p 49):=hd.at 3 rfl;exact Zg (w':=wq.alloc (EJ #[E I (p 48),E I (p 49)] 3)) (Ei O) (by simp[go_sem,d1,d3]) (Er wq _) ⟨wq.heap.size,O,D.new _ _ _⟩
      ·refine JH (f:=66) (args:= #[E I 1,E I 3]) (Ei O) Ex ?_;exact(gD 1 3 wq).mono fun e w2 ⟨v,he,hv,hb⟩=>⟨v,he,hb,hv⟩
      ·obtain⟨cap,e1,hok⟩:=UZ.ok (hd.at 5 rfl:UZ 1 3 (xv 5) wq);obtain⟨b,e2,kb⟩: ∃b:Nat,xv 4=G (Z ⟨b,0,X⟩) 2 2/\D wq b #[E I (p 48),E I (p 49)] 3:=hd.at 4 rfl;refine JH (f:=62) (args:= #[G (Z ⟨b,0,X⟩) 2 2,.func (.func 80) #[] cap]) (Ei O) MS ?_;exact(nV _ cap ([p 48,p 49].map (E .i64)) (Uo 1 3) b 0 2 2 wq O U (hok _ (tu O)) (fun i v hi=>by have:=(D.cell kb i).trans U5;simpa using this)).mono fun e w2 ⟨he,hb⟩=>⟨EU b9,he.trans (by rw[HB9.out]),hb,O⟩
      ·have d6:xv 6=EU b9:=hd.at 6 rfl;exact Es mW O
      ·have d7:xv 7=EU (!b9):=hd.at 7 rfl;exact Es fW O
     case hend=>
      intro xv W9 hp hd;simp only[EH,Ig,Ii,Ia,Ib];have a7:xv 7=EU (!b9):=hd 7 Ea;have a8:xv 8=EU (!b9):=hd 8 Ea;rw[a7,a8];clear hd a7 a8;replace u:=J hp;clear hp;clear HB9;obtain rfl:b9=EI:=by have h:=T9.out;revert h;cases b9<;>simp
      obtain⟨DH,DK⟩: ∃b,b=([p 51,p 52,p 53].map (E .i64)).all (Uo 0 1000):=⟨_,O⟩;obtain⟨DL,DM⟩:=En (Xi (p 54) 1 1000);have e10:Ec (b10=((p 50==0&&DH)&&DL)):=J (by rw[Dx.out,DK,DM];rfl);replace DK:=J DK;replace DM:=J DM
      have EhQ:Ec (∀W,El w1 W-> ∀i v,([p 51,p 52,p 53].map (E .i64))[i]?=Z v->W.cell? ⟨gp,51+i,X⟩=Z v):=J (fun W hW i v hi=>by
       match i,hi with
       |0,hi=>injection hi with hi;rw[<-hi];exact PC.out W hW 51 U U
       |1,hi=>injection hi with hi;rw[<-hi];exact PC.out W hW 52 U U
       |2,hi=>injection hi with hi;rw[<-hi];exact PC.out W hW 53 U U
       )
      have h50:p 50=0:=by have h:=MH.out;rw[e10.out] at h;simp at h;exact h.1.1
      have t50:(p 50 !=0)=B:=by simp[h50]
      obtain rfl:b10=(DH&&DL):=by rw[e10.out];simp[h50]
      clear e10 h50;obtain rfl:DH=EI:=by have h:=MH.out;revert h;cases DH<;>simp
      obtain rfl:DL=EI:=by have h:=MH.out;revert h;cases DL<;>simp
      go_wp2_with fail;refine bH (Ph:=fun _ wq=>El w1 wq) (Rel:=J0) (Is:=fun w w'=>w=w') [kp gp 50,kp gp 50,kq (E I (p 50)),kq (EU B),kq (EU B),kp gp 50,kq (G (Z ⟨gp,51,X⟩) 3 3),.dep (UZ 0 1000) (fun v w w' h hr=>h.V hr) (fun v w w' h hr=>Z8),kq (EU EI),kq (EU B),kq (EU B),kq (EU B),.dep (UZ 1 1000) (fun v w w' h hr=>h.V hr) (fun v w w' h hr=>Z8),kp gp 54,kq (E I (p 54)),kq (EU EI),kq (EU B),kq (EU B),kq (EU B)] [B,B,B,B,B,B,B,B,B,B,B,B,B,B,B,B,B,B,B] O [] [(0,0),(0,0),(0,0),(0,0),(0,0),(0,0),(0,0),(0,0),(0,0),(0,0),(0,0),(0,0),(0,0),(0,0),(0,0),(0,0),(0,0),(0,0),(0,0)] Ed Ed Ed Ed Ed UP Ed ?hPh ?h0 ?hstep ?hend;case hPh=> intro p_ w2 w3 h hr;exact bt h hr
      case h0=> exact bt u.out (Jg W9)
      case hstep=>
       refine⟨?_,?_,?_,?_,?_,?_,?_,?_,?_,?_,?_,?_,?_,?_,?_,?_,?_,?_,?_,trivial⟩;all_goals intro xv wq p_ hlo hhi hp hd
       all_goals simp only[EH,Ig,Ii,Ia,Ib]
       ·exact EmZ
       ·have d0:xv 0=M (Z ⟨gp,50,X⟩):=hd.at 0 rfl;exact EoF
       ·have d1:xv 1=M (Z ⟨gp,50,X⟩):=hd.at 1 rfl;have cc:wq.cell? ⟨gp,50,X⟩=Z (E I (p 50)):=(PC.out _ hp 50 U U);exact Es Di O
       ·have d2:xv 2=E I (p 50):=hd.at 2 rfl;exact Es (by simp[go_sem,d2,t50]) O
       ·have d3:xv 3=EU B:=hd.at 3 rfl;exact EoD
       ·have d4:xv 4=EU B:=hd.at 4 rfl;exact IM EF (bP O O (congrArg Z d4)) Ex O
       ·have d4:xv 4=EU B:=hd.at 4 rfl;have d5:xv 5=M (Z ⟨gp,50,X⟩):=hd.at 5 rfl;exact IM EF (bP O O (congrArg Z d4)) dk O
       ·have d4:xv 4=EU B:=hd.at 4 rfl;refine JH (f:=66) (args:= #[E I 0,E I 1000]) (bP O O (congrArg Z d4)) Ex ?_;exact Eot
       ·have d4:xv 4=EU B:=hd.at 4 rfl;have d6:xv 6=G (Z ⟨gp,51,X⟩) 3 3:=hd.at 6 rfl;obtain⟨cap,e1,hok⟩:=UZ.ok (hd.at 7 rfl:UZ 0 1000 (xv 7) wq);refine JH (f:=62) (args:= #[G (Z ⟨gp,51,X⟩) 3 3,.func (.func 80) #[] cap]) (bP O O (congrArg Z d4)) (by simp[go_sem,e1,d6]) ?_;exact(nV _ cap ([p 51,p 52,p 53].map (E .i64)) (Uo 0 1000) gp 51 3 3 wq O U (hok _ (tu O)) (EhQ.out wq hp)).mono fun e w2 ⟨he,hb⟩=>⟨EU EI,he.trans (by rw[DK.out]),hb,O⟩
       ·have d4:xv 4=EU B:=hd.at 4 rfl;have d8:xv 8=EU EI:=hd.at 8 rfl;exact IM EF (bP O O (congrArg Z d4)) fV O
       ·have d4:xv 4=EU B:=hd.at 4 rfl;have d9:xv 9=EU B:=hd.at 9 rfl;exact Es (by simp[go_sem,d4,d9]) O
       ·have d10:xv 10=EU B:=hd.at 10 rfl;exact Eo5
       ·have d11:xv 11=EU B:=hd.at 11 rfl;refine JH (f:=66) (args:= #[E I 1,E I 1000]) (bP O O (congrArg Z d11)) Ex ?_;exact Enf
       ·have d11:xv 11=EU B:=hd.at 11 rfl;exact IM EF (bP O O (congrArg Z d11)) Ex O
       ·have d11:xv 11=EU B:=hd.at 11 rfl;have d13:xv 13=M (Z ⟨gp,54,X⟩):=hd.at 13 rfl;have cc:wq.cell? ⟨gp,54,X⟩=Z (E I (p 54)):=(PC.out _ hp 54 U U);exact IM EF (bP O O (congrArg Z d11)) (by simp[go_sem,d13,cc]) O
       ·have d11:xv 11=EU B:=hd.at 11 rfl;have d14:xv 14=E I (p 54):=hd.at 14 rfl;obtain⟨wa,wb,e1,ca,cb⟩:UZ 1 1000 (xv 12) wq:=hd.at 12 rfl;refine JH (f:=80) (args:= #[E I (p 54),M (Z ⟨wa,0,X⟩),M (Z ⟨wb,0,X⟩)]) (bP O O (congrArg Z d11)) (by simp[go_sem,e1,d14]) ?_;exact(qN (p 54) 1 1000 wa wb wq ca cb).mono fun e w2 ⟨he,hb⟩=>⟨EU EI,he.trans (by rw[DM.out]),DD,O⟩
       ·have d11:xv 11=EU B:=hd.at 11 rfl;have d15:xv 15=EU EI:=hd.at 15 rfl;exact IM EF (bP O O (congrArg Z d11)) vT O
       ·have d11:xv 11=EU B:=hd.at 11 rfl;have d16:xv 16=EU B:=hd.at 16 rfl;exact Es (by simp[go_sem,d11,d16]) O
       ·have d17:xv 17=EU B:=hd.at 17 rfl;exact Es vV O
      case hend=>
       intro xv W10 hp hd;simp only[EH,Ig,Ii,Ia,Ib];have a17:xv 17=EU B:=hd 17 Ea;have a18:xv 18=EU B:=hd 18 Ea;rw[a17,a18];clear hd a17 a18;replace u:=J hp;clear hp;have EEp:Ec (b11=Xi (p 55) 0 65535):=J Dy.out;go_wp2_with fail;refine bH (Ph:=fun _ wq=>El w1 wq) (Rel:=J0) (Is:=fun w w'=>w=w') [.dep (UZ 0 65535) (fun v w w' h hr=>h.V hr) (fun v w w' h hr=>Z8),kp gp 55,kq (E I (p 55)),kq (EU b11),kq (EU (!b11)),kq (EU (!b11))] [B,B,B,B,B,B] O [] [(0,0),(0,0),(0,0),(0,0),(0,0),(0,0)] Ed Ed Ed Ed Ed UP Ed ?hPh ?h0 ?hstep ?hend;case hPh=> intro p_ w2 w3 h hr;exact bt h hr
       case h0=> exact bt u.out (Jg W10)
       case hstep=>
        refine⟨?_,?_,?_,?_,?_,?_,trivial⟩;all_goals intro xv wq p_ hlo hhi hp hd
        all_goals simp only[EH,Ig,Ii,Ia,Ib]
        ·refine JH (f:=66) (args:= #[E I 0,E I 65535]) (Ei O) Ex ?_;exact(gD 0 65535 wq).mono fun e w2 ⟨v,he,hv,hb⟩=>⟨v,he,hb,hv⟩
        ·exact EmZ
        ·have d1:xv 1=M (Z ⟨gp,55,X⟩):=hd.at 1 rfl;have cc:wq.cell? ⟨gp,55,X⟩=Z (E I (p 55)):=(PC.out _ hp 55 U U);exact Es Di O
        ·have d2:xv 2=E I (p 55):=hd.at 2 rfl;obtain⟨wa,wb,e1,ca,cb⟩:UZ 0 65535 (xv 0) wq:=hd.at 0 rfl;refine JH (f:=80) (args:= #[E I (p 55),M (Z ⟨wa,0,X⟩),M (Z ⟨wb,0,X⟩)]) (Ei O) (by simp[go_sem,e1,d2]) ?_;exact(qN (p 55) 0 65535 wa wb wq ca cb).mono fun e w2 ⟨he,hb⟩=>⟨EU b11,he.trans (by rw[EEp.out]),DD,O⟩
        ·have d3:xv 3=EU b11:=hd.at 3 rfl;exact EoD
        ·have d4:xv 4=EU (!b11):=hd.at 4 rfl;exact Eo6
       case hend=>
        intro xv W11 hp hd;simp only[EH,Ig,Ii,Ia,Ib];have a4:xv 4=EU (!b11):=hd 4 Ea;have a5:xv 5=EU (!b11):=hd 5 Ea;rw[a4,a5];clear hd a4 a5;replace u:=J hp;clear hp;clear EEp;obtain rfl:b11=EI:=by have h:=T11.out;revert h;cases b11<;>simp
        go_wp2_with fail;go_ret;exact⟨by rw[HRR.out];rfl,bt B1.out u.out⟩
def c0(p:Nat->Int):Ey:=⟨⟨4,p 55,-1,0,0,0,0,B⟩,[],iZ (p 42) (p 49),0,0,p 39,Fv,⟨1,0,0,0,0,0,0,0,0,Fv⟩⟩
def qR:Dr:=⟨0,B,[0,0,0,0,0,0,0,0]⟩
theorem MW:qR.ok:=⟨Ea,O,Ea⟩
def core0(g:Nat->Y)(p:Nat->Int)(gq gt:Nat):Array Y:=(ak (EG 56 g).toList (c0 p) gq gt qR qR qR (Ep 32)).flatten.toArray
theorem EhS(g:Nat->Y)(p:Nat->Int)(gq gt:Nat):Tryz.prog.built 120 [(0,EZ (EG 56 g)),(1,EZ #[E I 4,E I (p 55),E I (-1),E I 0,E I 0,E I 0,E I 0,EU B]),(2,M (Z ⟨gq,0,X⟩)),(4,M (Z ⟨gt,0,X⟩)),(7,E I (p 39)),(8,EZ #[E I 2,E I 4,E I 0]),(9,EZ #[E I 1,E I 0,E I 0,E I 0,E I 0,E I 0,E I 0,E I 0,E I 0,E I 2,E I 4,E I 0]),(10,EZ (Ej (Ep 32)))]=Z (core0 g p gq gt):=Ed
theorem DN{cap:Nat}{ys:List Int}(h:Own W lo A cap ys)(hn:ys.length=n)(h1:1<=n)(h64:n<=64):ig W lo (G A n cap):=by obtain⟨g,cur,e,hg,hk,ht,hc⟩:=SY h U;have:=Mk h;subst hn;exact⟨g,_,cap,cur,ys,by rw[e],hg,O,h1,h64,hc,this.2,hk,ht,h.2⟩
theorem EhT{b1 b2 b3 b4 b5 b6 b7 b8 b9 b10 b11:Bool}(h:xM b1 b2 b3 b4 b5 b6 b7 b8 b9 b10 b11=0):b1=EI/\b2=EI/\b3=EI/\b4=EI/\b5=EI/\b6=EI/\b7=EI/\b8=EI/\b9=EI/\b10=EI/\b11=EI:=by revert h;unfold xM;cases b1<;>cases b2<;>cases b3<;>cases b4<;>cases b5<;>cases b6<;>cases b7<;>cases b8<;>cases b9<;>cases b10<;>cases b11<;>simp
theorem gG{x lo hi:Int}:Xi x lo hi=EI↔lo<=x/\x<=hi:=by unfold Xi;simp
theorem EhV{p:Nat->Int}{kl:Nat->Nat}(h:U_ p kl=0):(∀i,9<=i->i<56->(Zi i:Int)<=p i/\p i<=U6 i/\(9<i->i<13->p i%2=0))/\ ∀i,5<=i->i<=8->1<=kl i/\kl i<=64:=by
 obtain⟨h1,h2,h3,h4,h5,h6,h7,h8,h9,h10,h11⟩:=EhT h;refine⟨fun i hi1 hi2=> ?_,fun i hi1 hi2=> ?_⟩;·simp only[xB,Oc,beq_iff_eq,Uv,Xn,Z0,ah,qP,gG] at h3;simp only[xC,gF,Z0,ah,tr,Uo,gG,Oc,Nat.reduceMul,ZK,Nat.zero_mul,Nat.add_zero] at h4;simp only[xD,Oc,Uv,Xn,Z0,ah,Uo,gG] at h5;simp only[xF,Oc,Uv,Xn,Z0,ah,Uo,gG] at h6;simp only[xG,Oc,Uv,Xn,Z0,ah,Uo,gG] at h7;simp only[xH,Oc,gG] at h8;simp only[xK,Oc,Uv,Xn,Z0,ah,Uo,gG] at h9;simp only[xL,Oc,beq_iff_eq,Uv,Xn,Z0,ah,Uo,gG] at h10;simp only[Du,gG] at h11;have hc:i=9\/i=10\/i=11\/i=12\/i=13\/i=14\/i=15\/i=16\/i=17\/i=18\/i=19\/i=20\/i=21\/i=22\/i=23\/i=24\/i=25\/i=26\/i=27\/i=28\/i=29\/i=30\/i=31\/i=32\/i=33\/i=34\/i=35\/i=36\/i=37\/i=38\/i=39\/i=40\/i=41\/i=42\/i=43\/i=44\/i=45\/i=46\/i=47\/i=48\/i=49\/i=50\/i=51\/i=52\/i=53\/i=54\/i=55:=U;rcases hc with rfl|rfl|rfl|rfl|rfl|rfl|rfl|rfl|rfl|rfl|rfl|rfl|rfl|rfl|rfl|rfl|rfl|rfl|rfl|rfl|rfl|rfl|rfl|rfl|rfl|rfl|rfl|rfl|rfl|rfl|rfl|rfl|rfl|rfl|rfl|rfl|rfl|rfl|rfl|rfl|rfl|rfl|rfl|rfl|rfl|rfl|rfl<;>simp[Zi,U6]<;>omega
 ·simp only[tz,Oc,gG] at h2;have hc:i=5\/i=6\/i=7\/i=8:=U;rcases hc with rfl|rfl|rfl|rfl<;>omega
end Go.Proofs.YtclmichaaiohjaaGreatDoor
