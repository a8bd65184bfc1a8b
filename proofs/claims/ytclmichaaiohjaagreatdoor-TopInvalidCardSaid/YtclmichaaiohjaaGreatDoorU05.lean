import Derived.Test.YtclmichaaiohjaaGreatDoorU04
import Derived.Lib.BytesEntry
set_option maxRecDepth 100000
set_option linter.unusedVariables false
set_option linter.unusedSimpArgs false
set_option maxHeartbeats 6400000
namespace Go.Proofs.YtclmichaaiohjaaGreatDoor
open RowKit
open _root_.Array renaming getElem?_eq_none->fD
open Bool renaming true->EI,false->V
open Go renaming bits->Iu,World->M,Calls->Eg,TypeId->Ez,Value->G,Addr->Ev,Program->Jd,bodyPost_ret->EV,binOp->XG,Act->E2,Oper->EG,execOp->Ig,Operand->JN,info_parts->bZ,madeCells->az,below_setRow->E6,wpQuiet_nil->I2,method->XM,callFunc->Ji,wp_loop_rounds->OJ,rounds_succ->Ib,Ending->Uv,wpList_store_mid->Um
open Act renaming put->Ic
open Builtin renaming append_->bX
open Ending renaming returned->Eh
open Instr renaming loadAt->dZ,sureAddr->bI
open IntKind renaming wrap->na,bits->jZ,signed->ja,i64->I,u8->IT,u64->Il
open Lib renaming hid->J
open Obj renaming cells->Ec
open Oper renaming quietAt->ik
open Go.Proofs.Tryz renaming prog->Ea,underlying23->ba
open Result renaming andThen_ok->On
open RowKit renaming Below->Ir,Hid->Ed,intOf->I5
open RowKit.Below renaming refl->E_
open Sem renaming run_bind->Om,run_pure->Oa,run->Ul
open Value renaming bool->EU,int->E,agg->EZ,slice->EJ,tuple->Es,pointer->Y,oneCell'->Ov
open World renaming alloc->XX,ownsRow_nil->bw,cell?->iA,ownsRow->bM
open Int renaming toNat_natCast->kL,le_refl->X6
open List renaming getElem?_eq_none->am,mem_of_mem_take->fC,eq_nil_of_length_eq_zero->ao,getElem?_eq_getElem->JY,mem_cons_of_mem->Z5,mem_cons_self->fG,getElem?_eq_some_iff->Xr,take_append_drop->dR,take_succ_cons->Is,take_of_length_le->OV,getD_eq_getElem?_getD->Uj,getElem?_take_of_lt->bU,getElem?_append_right->ay,map_cons->Xs,map_nil->Zu,take_zero->Io,mem_map->bc,getElem?_toArray->J0,setIfInBounds_toArray->Ii,length_append->I1,flatMap_cons->nA,length_cons->Zw,mem_cons->OY,getElem_mem->dW,set_cons_succ->IJ,set_cons_zero->IU,mem_append->Xt,map_append->jr,length_drop->ly,not_mem_nil->Uu,drop_succ_cons->IS,drop_zero->IM,take_add_one->lL,Perm->iH
open List.Perm renaming refl->aN,swap->aP,cons->us
open Nat renaming lt_or_ge->JW,le_trans->EB,le_refl->E9,zero_add->J9,zero_le->fL,le_of_lt->aM,le_of_eq->Ud
open Option renaming some->X,none->Z
open KQ
variable{lo g N gq gt base gc gs ns g2 b0 h:Nat}{a w w' W W':M}{c:EF}{cs cs2:Array G}{S S2:Ez}{ys rest:List G}{hd:List Int}{rs:List Rec}{P:Jd}{A:Option Ev}{L L':List One}{x:One}{most:Int}
def F9:List Ez:=[58,264]
def gd(lo hi k:Nat)(T:Ez):Bool:=(decide (lo<=k)&&jo.contains T)||(decide (hi<=k)&&F9.contains T)
structure Ex(lo hi:Nat)(w w':M):Prop where
 os:w'.os=w.os
 tape:w'.tape=w.tape
 output:w'.output=w.output
 size:w.heap.size<=w'.heap.size
 low: ∀k,k<hi->k<w.heap.size->(∀c T p,w.heap[k]?=X (Ec c T p)->gd lo hi k T=V)->w'.heap[k]?=w.heap[k]?
 high: ∀k c T,H w k c T->gd lo hi k T=V->H w' k c T
 stay: ∀k c T,H w k c T-> ∃c',H w' k c' T
 zr: ∀k c T p,k<hi->w.heap[k]?=X (Ec c T p)-> ∃c' p',w'.heap[k]?=X (Ec c' T p')
theorem Ex.refl(lo hi:Nat)(w:M):Ex lo hi w w:=⟨U,U,U,E9 _,fun _ _ _ _=>rfl,fun _ _ _ h _=>h,fun _ c _ h=>⟨c,h⟩,fun _ c _ p _ h=>⟨c,p,h⟩⟩
theorem Ex.trans{hi:Nat}{b c:M}(h:Ex lo hi a b)(k:Ex lo hi b c):Ex lo hi a c:=by
 refine⟨k.os.trans h.os,k.tape.trans h.tape,k.output.trans h.output,EB h.size k.size,fun i hi' hl hm=> ?_,fun i d T hb hm=>k.high i d T (h.high i d T hb hm) hm,fun i d T hb=> ?_,fun i d T p hi' hb=> ?_⟩;·have e:=h.low i hi' hl hm;refine(k.low i hi' (Nat.lt_of_lt_of_le hl h.size) fun d T p hb=>hm d T p ?_).trans e;rw[<-e];exact hb
 ·obtain⟨d',hd⟩:=h.stay i d T hb;exact k.stay i d' T hd
 ·obtain⟨d',p',hd⟩:=h.zr i d T p hi' hb;exact k.zr i d' T p' hi' hd
theorem Ex.EC{hi:Nat}(h:Ek w w'):Ex lo hi w w':=
 ⟨h.os,h.tape,h.output,h.size,fun k _ hl _=>h.block k hl,fun _ _ _ hb _=>hb.u h,fun _ c _ hb=>⟨c,hb.u h⟩,fun _ c _ p _ hb=>⟨c,p,ZE hb h⟩⟩
theorem Ex.El{hi:Nat}(h:Ex lo hi w w')(K:H w g cs S)(hS:jo.contains S=V)(hR:F9.contains S=V):H w' g cs S:=
 h.high g cs S K (by unfold gd;rw[hS,hR];simp)
theorem Ex.old{hi:Nat}(h:Ex lo hi w w')(K:H w g cs S)(hS:jo.contains S=V)(hg:g<hi):H w' g cs S:=
 h.high g cs S K (by unfold gd;rw[hS,Ia (show¬hi<=g from D)];simp)
theorem Ex.um{hi:Nat}{cs':Array G}(h:E3 g w w')(K:H w g cs S)(K':H w' g cs' S)(hS:jo.contains S=EI)(hl:lo<=g):Ex lo hi w w':=by
 have hb:=h.bel 0 (fL _) (fL _);refine⟨hb.os,hb.tape,hb.output,h.size,fun k _ hk hm=> ?_,fun k c T hk hm=> ?_,fun k c T hk=> ?_,fun k c T p _ hk=> ?_⟩;·refine h.keep k (fun e=> ?_) hk;subst e;have:=hm cs S (0,0) K;unfold gd at this;rw[hS,IE hl] at this;simp at this
 ·refine h.El hk (fun e=> ?_);subst e;have e2:=(show X (Ec c T (0,0))=X (Ec cs S (0,0)) from hk.symm.trans K);injection e2 with e2;injection e2 with e3 e4;subst e4;unfold gd at hm;rw[hS,IE hl] at hm;simp at hm
 ·by_cases e:k=g;·subst e;have e2:=(show X (Ec c T (0,0))=X (Ec cs S (0,0)) from hk.symm.trans K);injection e2 with e2;injection e2 with e3 e4;subst e4;exact⟨cs',K'⟩
  ·exact⟨c,h.El hk e⟩
 ·by_cases e:k=g;·subst e;have e2:=(show X (Ec c T p)=X (Ec cs S (0,0)) from hk.symm.trans K);injection e2 with e2;injection e2 with e3 e4 e5;subst e4;exact⟨cs',(0,0),K'⟩
  ·exact⟨c,p,(h.keep k e (xZ hk)).trans hk⟩
theorem Ex.QS{hi:Nat}{T:Ez}(h:ia hi T N ys w w')(hT:F9.contains T=EI)(hh:hi<=w.heap.size):Ex lo hi w w':=by
 have hb:=h.2.1 hh;refine⟨hb.os,hb.tape,hb.output,hb.size,fun k hk _ _=>hb.block k hk,fun k c S hk hm=> ?_,fun k c S hk=> ?_,fun k c S p hlt hk=>⟨c,p,(hb.block k hlt).trans hk⟩⟩
 ·by_cases hkh:k<hi;·exact(hb.block k hkh).trans hk
  ·obtain⟨c',e,-,hS,-⟩:=h.2.2 k c S hk;by_cases eS:S=T;·subst eS;unfold gd at hm;rw[hT,IE (D:hi<=k)] at hm;simp at hm
   ·rw[hS eS] at e;exact e
 ·obtain⟨c',e,-⟩:=h.2.2 k c S hk;exact⟨c',e⟩
theorem Ex.EZ8{hi:Nat}(h:Ex lo hi w w')(hh:hi<=w.heap.size):DJ lo hi w w':=by
 refine⟨h.os,h.tape,h.output,h.size,fun k hk hm=> ?_,fun k h1 h2 h3=> ?_⟩
 ·refine h.low k hk D fun c T p hc=> ?_;unfold gd;rw[Ia (D: ¬hi<=k)];by_cases hl:lo<=k;·have:=hm hl;unfold tE DI at this;rw[hc] at this;simp at this⊢;exact fun _=>this
  ·simp;omega
 ·unfold tE DI at h3⊢;cases e:w.heap[k]? with
  |none=>rw[e] at h3;cases h3
  |some o=>
   rw[e] at h3;cases o with
   |cells c T p=> obtain⟨c',p',hc'⟩:=h.zr k c T p h2 e;rw[hc'];exact h3
   |_=>cases h3
structure Dr where
 n:Int
 op:Bool
 nc:List Int
def Dr.v(d:Dr):List G:=[E I d.n,EU d.op]++d.nc.map (E .u8)
structure Dr.ok(d:Dr):Prop where
 n:0<=d.n/\d.n<=4294967295
 len:d.nc.length=8
 bytes: ∀x∈d.nc,0<=x/\x<=255
theorem Dr.len'{d:Dr}(h:d.ok):d.v.length=10:=by simp[Dr.v,h.len]
def aX(p:List G)(c:EF)(gq gt:Nat)(d0 d1 d2:Dr)(hd:List Int):List (List G):=
 [p,c.tok.v,[Y (X ⟨gq,0,Z⟩)],d0.v,d1.v,d2.v,[Y (X ⟨gt,0,Z⟩)],[E I c.samples],[E I c.beyond],[E I c.mode],c.En.v,c.pt.v,hd.map (E .u8)]
def jP(k:Nat):Nat:=[0,56,64,65,75,85,95,96,97,98,99,102,114].getD k 146
theorem Oj{p:List G}{d0 d1 d2:Dr}(hp:p.length=56)(h0:d0.ok)(h1:d1.ok)(h2:d2.ok)(k:Nat)(hk:k<13):aB (aX p c gq gt d0 d1 d2 hd) k=jP k:=by have e0:=Dr.len' h0;have e1:=Dr.len' h1;have e2:=Dr.len' h2;rcases(show k=0\/k=1\/k=2\/k=3\/k=4\/k=5\/k=6\/k=7\/k=8\/k=9\/k=10\/k=11\/k=12 from D) with rfl|rfl|rfl|rfl|rfl|rfl|rfl|rfl|rfl|rfl|rfl|rfl|rfl<;>simp[aB,aX,jP,hp,e0,e1,e2,EM.v,Xh.v,Pt.v]
def TM(a m:Int):Prop:=0<=a/\a<=1000/\0<=m/\m<=1000
structure ET.U4(T:ET):Prop where
 Iq:0<=T.Iq/\T.Iq<=1000
 st:TM T.sa T.sm
 E5: ∀i,TM (T.E5 i).a (T.E5 i).m
theorem ET.U4.put{T:ET}(h:T.U4)(k:Nat){s:JC}(hs:TM s.a s.m):(T.put k s).U4:=by
 match k with
 |0=>exact⟨h.Iq,h.st,fun i=>match i with|0=>hs|1=>h.E5 1|_+2=>h.E5 2⟩
 |1=>exact⟨h.Iq,h.st,fun i=>match i with|0=>h.E5 0|1=>hs|_+2=>h.E5 2⟩
 |_+2=>exact⟨h.Iq,h.st,fun i=>match i with|0=>h.E5 0|1=>h.E5 1|_+2=>hs⟩
theorem TM.start{T:ET}(h:T.U4):TM 0 (max T.Iq 0):=by have:=h.Iq;exact⟨X6 _,D,D,D⟩
structure EF.ok(c:EF):Prop where
 tok:c.tok.ok
 T:c.T.ok
 q:c.q.length<=3
 ones: ∀x∈c.q,x.ok
 src: ∀x∈c.q,1<=x.s/\x.s<=3
 nd:(c.q.map One.s).Nodup
 gh:0<=c.samples/\c.samples<=4294967295
 iB:0<=c.beyond/\c.beyond<=1000
 mode:0<=c.mode/\c.mode<=4
 En:c.En.ok
 pt:c.pt.ok
 Iq:c.T.U4
def gj(W:M)(lo:Nat)(v:G):Prop:= ∃(gk n cap:Nat) (cur:Array G) (ys:List Int),v=EJ (X ⟨gk,0,Z⟩) n cap/\lo<=gk/\ys.length=n/\1<=n/\n<=64/\n<=cap/\cap<=9223372036854775807/\H W gk cur 5/\cur.toList.take n=ys.map (E .u8)/\ ∀x∈ys,0<=x/\x<=255
theorem gj.El{v:G}(h:gj W lo v)(hb: ∀g cs,H W g cs 5->H W' g cs 5):gj W' lo v:=by obtain⟨gk,n,cap,cur,ys,h1,h2,h3,h4,h5,h6,h7,h8,h9⟩:=h;exact⟨gk,n,cap,cur,ys,h1,h2,h3,h4,h5,h6,h7,hb _ _ h8,h9⟩
theorem gj.row{v:G}(h:gj W lo v): ∃(A:Option Ev) (n cap:Nat) (ys:List Int),v=EJ A n cap/\ys.length=n/\1<=n/\n<=64/\n<=cap/\cap<=9223372036854775807/\Row W A ys:=by obtain⟨gk,n,cap,cur,ys,h1,-,h3,h4,h5,h6,h7,h8,h9,h10⟩:=h;subst h3;have:=EZ6 h8 h9 h10 0 ys.length;rw[IM,OV (E9 _)] at this;exact⟨_,_,cap,ys,h1,U,h4,h5,h6,h7,this⟩
def Jk(W:M)(lo gq:Nat)(L:List One)(most:Int):Prop:= ∃(v:G) (came:Nat),H W gq #[v,E I most,E Il came] 152/\came<18446744073709551616/\W.ownsRow lo 171 5 v L.length (IB L)
structure EZ9(g:Nat->G):Prop where
 int: ∀i,i<56->i<5\/8<i->ZA (g i)
 fit: ∀i,9<=i->i<56-> ∃n:Nat,g i=E I n/\Nl i n
structure I9(lo:Nat)(g:Nat->G)(gc gq gt:Nat)(c:EF)(W:M):Prop where
 lo2:2<=lo
 XQ:EZ9 g
 ok:c.ok
 lc:lo<=gc
 lq:lo<=gq
 lt:lo<=gt
 El: ∃(d0 d1 d2:Dr) (hd:List Int),Jh W gc (aX (EN 56 g).toList c gq gt d0 d1 d2 hd) 120/\d0.ok/\d1.ok/\d2.ok/\hd.length=32/\ ∀x∈hd,0<=x/\x<=255
 tab:Ip W gt c.T
 ZC:Jk W lo gq c.q (pn g 48)
 keys: ∀i,5<=i->i<=8->gj W lo (g i)
 roots:JH W
 cmds:X5 W
structure rJ where
 l:List G
 one: ∀Y3∈l,Y3.oneCell'=EI
structure E4(lo hi:Nat)(g:Nat->G)(gc gq gt gs:Nat)(c:EF)(ns:Nat)(rs:List Rec)(W:M):Prop where
 core:I9 lo g gc gq gt c W
 hc:gc<hi
 hq:gq<hi
 ht:gt<hi
 bL:lo<=hi
 his:hi<=gs
 dw: ∃(sv rv:G) (sc:rJ),H W gs #[Y (X ⟨gc,0,Z⟩),sv,rv] 124/\W.ownsRow hi 264 2 sv ns sc.l/\W.ownsRow hi 58 6 rv rs.length (Xi rs)
theorem EQ{T:Ez}{size n:Nat}{v:G}{xs:List G}(h:W.ownsRow base T size v n xs)(hb: ∀g cs,H W g cs T->H W' g cs T):W'.ownsRow base T size v n xs:=by
 obtain⟨h1,h2|⟨gg,cap,cur,hv,hg,hh,r⟩⟩:=h;·exact⟨h1,.inl h2⟩
 ·exact⟨h1,.inr ⟨gg,cap,cur,hv,hg,hb _ _ hh,r⟩⟩
theorem I9.u{g:Nat->G}(h:I9 lo g gc gq gt c W)(hb:Ek W W'):I9 lo g gc gq gt c W':=by obtain⟨d0,d1,d2,hd,k,r⟩:=h.El;obtain⟨v,came,k2,r2,r3⟩:=h.ZC;exact⟨h.lo2,h.XQ,h.ok,h.lc,h.lq,h.lt,⟨d0,d1,d2,hd,k.u hb,r⟩,h.tab.u hb,⟨v,came,k2.u hb,r2,EQ r3 fun _ _ hk=>hk.u hb⟩,fun i h1 h2=>(h.keys i h1 h2).El fun _ _ hk=>hk.u hb,h.roots.u hb,h.cmds.u hb⟩
theorem E4.u{hi:Nat}{g:Nat->G}(h:E4 lo hi g gc gq gt gs c ns rs W)(hb:Ek W W'):E4 lo hi g gc gq gt gs c ns rs W':=by obtain⟨sv,rv,sc,k,r1,r2⟩:=h.dw;exact⟨h.core.u hb,h.hc,h.hq,h.ht,h.bL,h.his,sv,rv,sc,k.u hb,EQ r1 fun _ _ hk=>hk.u hb,EQ r2 fun _ _ hk=>hk.u hb⟩
def zu:List Ez:=[120,152,171,163,5]
theorem I9.via{g:Nat->G}(h:I9 lo g gc gq gt c W)(hb: ∀k cs S,zu.contains S=EI->H W k cs S->H W' k cs S)(hl:Ir lo W W'):I9 lo g gc gq gt c W':=by
 obtain⟨d0,d1,d2,hd,k,r⟩:=h.El;obtain⟨v,came,k2,r2,r3⟩:=h.ZC;refine⟨h.lo2,h.XQ,h.ok,h.lc,h.lq,h.lt,⟨d0,d1,d2,hd,hb _ _ _ Eb k,r⟩,hb _ _ _ Eb h.tab,⟨v,came,hb _ _ _ Eb k2,r2,EQ r3 fun _ _ hk=>hb _ _ _ Eb hk⟩,fun i h1 h2=>(h.keys i h1 h2).El fun _ _ hk=>hb _ _ _ Eb hk,fun i hi=> ?_,fun i hi=> ?_⟩;·exact EmK
 ·exact EmN
theorem E7(h:H W g cs S)(k:H W g2 cs2 S2)(hne:S≠S2):g≠g2:=fun e=>by subst e;have e2:=(show X (Ec cs S (0,0))=X (Ec cs2 S2 (0,0)) from h.symm.trans k);injection e2 with e2;injection e2 with e3 e4;exact hne e4
theorem I9.set{g:Nat->G}{c':EF}(h:I9 lo g gc gq gt c W)(ho:E3 gc W W')(hT:c'.T=c.T)(hq:c'.q=c.q)(hok:c'.ok) (hb: ∃(d0 d1 d2:Dr) (hd:List Int),Jh W' gc (aX (EN 56 g).toList c' gq gt d0 d1 d2 hd) 120/\d0.ok/\d1.ok/\d2.ok/\hd.length=32/\ ∀x∈hd,0<=x/\x<=255):I9 lo g gc gq gt c' W':=by
 obtain⟨e0,e1,e2,ehd,k,r⟩:=h.El;obtain⟨v,came,k2,r2,r3⟩:=h.ZC;have hl:=ho.bel lo h.lc (EB h.lc (aM k.lt));refine⟨h.lo2,h.XQ,hok,h.lc,h.lq,h.lt,hb,?_,⟨v,came,ho.El k2 (E7 k2 k Eb),r2,?_⟩,fun i h1 h2=>(h.keys i h1 h2).El fun _ _ hk=>ho.El hk (E7 hk k Eb),fun i hi=> ?_,fun i hi=> ?_⟩;·rw[hT];exact ho.El h.tab (E7 h.tab k Eb)
 ·rw[hq];exact EQ r3 fun _ _ hk=>ho.El hk (E7 hk k Eb)
 ·exact EmK
 ·exact EmN
theorem X7{a:E2}{o:EG}{K:E2->Prop}{T TB:Ez}{off n:Nat}{Gs:List (List G)}{old:List G}(hT:IF P T n)(x:JN)(ho:o.op= .load T x)(hx:a.eval x=Y (X ⟨g,off,Z⟩))(hg:Ed (Jh W g Gs TB))(k:Nat)(hk:Gs[k]?=X old)(hf:aB Gs k=off)(hn:old.length=n) (h:K (a.put o.dst (EZ old.toArray))):o.quiet P a (fun w'=> ∃x,w'=EA W x) K:=by obtain⟨⟨d,hu,hd⟩,hi⟩:=hT;refine⟨_,fun w hw=> ?_,h⟩;obtain⟨y,rfl⟩:=hw;have hb:(EA W y).heap[g]?=X (Ec Gs.flatten.toArray TB (0,0)):=hg.out.u (EL y);have hrun:=run_loadVar_mid (EA W y) g off T _ d (World.rangeAt_of_block hb off n) hu jm (by rw[hi,Array.length_toList,Jh.extract k hk hf n hn];simp[hn]);rw[Array.toArray_toList,Jh.extract k hk hf n hn] at hrun;unfold ik Ig;simp only[ho,hx,dZ,bI,Om,Oa,On,hrun];first|exact⟨rfl,rfl⟩|exact⟨rfl,y,rfl⟩
theorem Jw(g:Nat->G):(EN 56 g).toList.length=56:=Ej
theorem F_{g:Nat->G}{d0 d1 d2:Dr}(K:Jh W gc (aX (EN 56 g).toList c gq gt d0 d1 d2 hd) 120)(h0:d0.ok)(h1:d1.ok)(h2:d2.ok)(k:Nat)(hk:k<13){old:List G}(ho:(aX (EN 56 g).toList c gq gt d0 d1 d2 hd)[k]?=X old)(j:Nat)(hj:j<old.length):W.cell? ⟨gc,jP k+j,Z⟩=old[j]?:=
 K.cell k ho (Oj (Jw g) h0 h1 h2 k hk) j hj
theorem un{T:Ez}(h:ia b0 T N ys w w')(hk:H w g ys.toArray S)(hN:N=0\/ys.length<=N):H w' g ys.toArray S:=by
 obtain⟨cs',e,s,-,hj⟩:=h.2.2 g ys.toArray S hk
 have:cs'=ys.toArray:=by
  apply Array.ext_getElem?;intro j;rcases hj j with h1|⟨h1,h2,h3⟩;·exact h1
  ·rcases hN with rfl|hN;·rw[h3];simp
   ·rw[h3];have hl:cs'.size=ys.length:=by simpa using s
    rw[J0];by_cases hlt:j<ys.length;·omega
    ·have e1:cs'[j]?=Z:=fD D;rw[<-h3,e1,am D]
 rw[this] at e;exact e
theorem EaE:(Tryz.prog.info? 58).map (fun i=>(i.zero,i.size,i.bytes))=X (X (EZ #[E I 0,E I 0,E I 0,E I 0,E I 0,E I 0]),6,48):=Ef
theorem QT:IF Ea 58 6:=⟨⟨_,Tryz.underlying58,U⟩,Ef⟩
theorem EaI:IF Ea 124 3:=⟨⟨_,Tryz.underlying124,U⟩,Ef⟩
def zw(hi:Nat)(T:Ez)(size n:Nat)(xs:List G)(v:G)(w:M):Prop:= ∃(A:Option Ev) (c:Nat),v=EJ A n c/\w.ownsRow hi T size v n xs
theorem aZ{T:Ez}{size n:Nat}{v:G}{xs:List G}(h:w.ownsRow base T size v n xs): ∃(A:Option Ev) (c:Nat),v=EJ A n c/\(A=Z->n=0):=by
 rcases h.2 with⟨e,hn⟩|⟨g,cap,cur,hv,-⟩;·exact⟨Z,0,by rw[e,hn],fun _=>hn⟩
 ·exact⟨_,cap,hv,fun h=>Uq⟩
theorem cM(h:H W g cs S)(k:H W g2 cs2 S2)(hne:S≠S2):g≠g2:=fun e=>by subst e;have e2:=(show X (Ec cs S (0,0))=X (Ec cs2 S2 (0,0)) from h.symm.trans k);injection e2 with e2;injection e2 with e3 e4;exact hne e4
theorem EaJ{a b c:G}(K:H w gs #[a,b,c] S)(v:G):H (w.setCell ⟨gs,2,Z⟩ v) gs #[a,b,v] S:=by have:=K.set 2 v;exact Emu
theorem EaO{a b c:G}(K:H w gs #[a,b,c] S)(v:G):H (w.setCell ⟨gs,1,Z⟩ v) gs #[a,v,c] S:=by have:=K.set 1 v;exact Emu
theorem QV{i:Nat}(h:lo<=g)(v:G):Ir lo w (w.setCell ⟨g,i,Z⟩ v):=(E_ lo w).setCell (p:=⟨g,i,Z⟩) h v
theorem Ex.setCell{hi:Nat}(K:H w g cs S)(hS:jo.contains S=EI)(hl:lo<=g)(i:Nat)(v:G):Ex lo hi w (w.setCell ⟨g,i,Z⟩ v):=
 Ex.um (JS i v) K (K.set i v) hS hl
theorem QW: ∃i,Tryz.prog.info? 58=X i/\i.zero=X (EZ #[E I 0,E I 0,E I 0,E I 0,E I 0,E I 0])/\i.size=6/\i.bytes=48:=by obtain⟨i,h1,h2,h3,h4⟩:=bZ EaE;exact⟨i,h1,h2,h3,h4⟩
theorem Zl(lo hi:Nat)(g:Nat->G)(gc gq gt gs:Nat)(c:EF)(ns:Nat)(rs:List Rec)(k s q cd hw:Int)(w:M)(S:E4 lo hi g gc gq gt gs c ns rs w)(hl:rs.length<1000000): Eg Ea 102 #[Y (X ⟨gs,0,Z⟩),E I k,E I s,E I q,E I cd,E I hw] w fun e w'=>e=Eh (Es #[])/\E4 lo hi g gc gq gt gs c ns (rs++[⟨k,s,q,c.tok.e,cd,hw⟩]) w'/\Ex lo hi w w':=by
 obtain⟨sv,rv,sc,KS,OS,OR⟩:=S.dw;obtain⟨A0,c0,rfl,hnil⟩:=aZ OR;obtain⟨d0,d1,d2,hd,KG,o0,o1,o2,UR,Xm⟩:=S.core.El;have c0':w.cell? ⟨gs,0,Z⟩=X (Y (X ⟨gc,0,Z⟩)):=(H.cell KS 0).trans U;have c1':w.cell? ⟨gc,57,Z⟩=X (E I c.tok.e):=F_ KG o0 o1 o2 1 D U 1 Xx;have HL:=J hl;have HH:=J (show hi<=w.heap.size by have:=S.his;have:=KS.lt;omega);have uo:=J<|show lo<=gs from EB S.bL S.his;have IR:=J QW;have QY:=J S;have CB:=J S.core;have KS:=J KS;have OS:=J OS;have OR:=J OR;have EiV:=J hnil;clear S hl hnil KG o0 o1 o2 UR Xm;generalize c.tok.e=ep at*;go_enter Tryz.func102,Tryz.ntmps102;go_wp2_with fail;have iy:=J<|H.new w #[E I k,E I s,E I q,E I ep,E I cd,E I hw] 58;have b1:=Er w (Ec #[E I k,E I s,E I q,E I ep,E I cd,E I hw] 58);replace KS:=J<|KS.out.u b1;replace OS:=J<|EQ OS.out fun _ _ h=>H.u h b1;replace OR:=J<|EQ OR.out fun _ _ h=>H.u h b1;replace CB:=J<|CB.out.u b1;have MM:Ed (Ex lo hi w (w.alloc (Ec #[E I k,E I s,E I q,E I ep,E I cd,E I hw] 58))):=J<|Ex.EC b1;clear b1 c0' c1';generalize w.alloc (Ec #[E I k,E I s,E I q,E I ep,E I cd,E I hw] 58)=w1 at*;obtain⟨gr,hgr⟩:=Eo w.heap.size;rw[<-hgr] at iy⊢;replace hgr:=J hgr;have HN:Ed (rs.length*6=0\/(Rec.mk k s q ep cd hw).v.length<=rs.length*6):=J (by simp[Rec.v];omega);have HX:Ed (∀j,rs.length*6<=j->j<rs.length*6+(Rec.mk k s q ep cd hw).v.length->j<(Xi rs++(Rec.mk k s q ep cd hw).v).length->(Xi rs++(Rec.mk k s q ep cd hw).v)[j]?=((Rec.mk k s q ep cd hw).v)[j-rs.length*6]?):=J (fun j h1 h2 h3=>by rw[ay (by rw[DU];exact h1),DU]);refine Zx (Ph:=fun p wq=>match p with|0=>(H wq gs #[Y (X ⟨gc,0,Z⟩),sv,EJ A0 rs.length c0] 124/\H wq gr (Rec.mk k s q ep cd hw).v.toArray 58/\bM wq hi 58 6 (EJ A0 rs.length c0) rs.length (Xi rs)/\(I9 lo g gc gq gt c wq/\bM wq hi 264 2 sv ns sc.l/\Ex lo hi w wq))|_=>(∃(A:Option Ev) (cp:Nat),H wq gs #[Y (X ⟨gc,0,Z⟩),sv,EJ A (rs.length+1) cp] 124/\H wq gr (Rec.mk k s q ep cd hw).v.toArray 58/\bM wq hi 58 6 (EJ A (rs.length+1) cp) (rs.length+1) (Xi rs++(Rec.mk k s q ep cd hw).v)/\(I9 lo g gc gq gt c wq/\bM wq hi 264 2 sv ns sc.l/\Ex lo hi w wq))) (Rel:=(ia hi 58 (rs.length*6) (Rec.mk k s q ep cd hw).v)) (In:=(fun w w'=> ∀g2 c2,H w g2 c2 58->H w' g2 c2 58)) [kp gs 0,kp gs 0,kp gs 0,kp gs 2,kq (EJ A0 rs.length c0),kq (EZ (Rec.mk k s q ep cd hw).v.toArray),.dep (fun v w=> ∃b:Nat,v=EJ (X ⟨b,0,Z⟩) 1 1/\H w b (Rec.mk k s q ep cd hw).v.toArray 58) (fun v w w' h hr=>by obtain⟨b,e,hk⟩:=h;exact⟨b,e,un hr hk HN.out⟩) (fun v w w' h hr=>Q3),.dep (zw hi 58 6 (rs.length+1) (Xi rs++(Rec.mk k s q ep cd hw).v)) (fun v w w' h hr=>by obtain⟨A,c,e,ho⟩:=h;exact⟨A,c,e,lx hr ho HX.out⟩) (fun v w w' h hr=>Q5),kp gs 0,kp gs 2,.val (fun _=>True)] _ U [10] [(0,0),(0,0),(0,0),(0,0),(0,0),(0,0),(0,0),(0,0),(0,0),(0,0),(0,0)] Ef Ef Ef Ef Ef O0 Ef ?hPh ?h0 ?hstep ?hend
 case hPh=>
  intro p w2 w3 h hr;have keep: ∀g2 c2 S2,S2≠58->H w2 g2 c2 S2->H w3 g2 c2 S2:=fun g2 c2 S2 hS k2=>XN hr k2 hS;have rest:(I9 lo g gc gq gt c w2/\bM w2 hi 264 2 sv ns sc.l/\Ex lo hi w w2)->(I9 lo g gc gq gt c w3/\bM w3 hi 264 2 sv ns sc.l/\Ex lo hi w w3):=fun⟨a1,a2,a3⟩=>⟨a1.via (fun k2 c2 S hS h2=>keep _ _ _ ZN h2) ((hr.2.1 (EB HH.out a3.size)).mono (EB (by exact QY.out.bL) (E9 _))),EQ a2 (fun g2 c2 h2=>keep _ _ _ Eb h2),a3.trans (Ex.QS hr Eb (EB HH.out a3.size))⟩;match p,h with
  |0,h=>exact⟨keep _ _ _ Eb h.1,un hr h.2.1 HN.out,lx hr h.2.2.1 (fun j h1 h2 h3=>by rw[DU] at h3;omega),rest h.2.2.2⟩
  |_+1,h=> obtain⟨A,cp,h1,h2,h3,h4⟩:=h;exact⟨A,cp,keep _ _ _ Eb h1,un hr h2 HN.out,lx hr h3 HX.out,rest h4⟩
 case h0=> exact⟨KS.out.drew,iy.out.drew,OR.out,CB.out.u (JZ _),OS.out,MM.out.trans (Ex.EC (JZ _))⟩
 case hstep=>
  refine⟨?_,?_,?_,?_,?_,?_,?_,?_,?_,?_,?_,trivial⟩;all_goals first|intro xv wq p hlo hhi hp hd|intro xv wq hp hd
  all_goals try obtain rfl:p=0:=D
  all_goals simp only[ED,Ic,Ii,IJ,IU]
  ·exact Iw fS (Ei U) Ew U
  ·exact Iw fS (Ei U) Ew U
  ·have d1:xv 1=Y (X ⟨gs,0,Z⟩):=hd.at 1 rfl;exact Iw fS (Ei U) Xl U
  ·have d2:xv 2=Y (X ⟨gs,0,Z⟩):=hd.at 2 rfl;exact Iw fS (Ei U) GE U
  ·have d3:xv 3=Y (X ⟨gs,2,Z⟩):=hd.at 3 rfl;have cc:wq.cell? ⟨gs,2,Z⟩=X (EJ A0 rs.length c0):=(H.cell hp.1 2).trans U;exact Iw fS (Ei U) (by simp[go_sem,d3,cc]) U
  ·exact lX fS QT (Ei U) ⟨U,U⟩ (hp.2.1) U U
  ·have d5:xv 5=EZ (Rec.mk k s q ep cd hw).v.toArray:=hd.at 5 rfl;exact Za (Ei U) (by simp[go_sem,d5];rfl) (tZ (Er wq _)) ⟨wq.heap.size,U,H.new _ _ _⟩
  ·have d4:xv 4=EJ A0 rs.length c0:=hd.at 4 rfl;obtain⟨b,e6,k6⟩: ∃b:Nat,xv 6=EJ (X ⟨b,0,Z⟩) 1 1/\H wq b (Rec.mk k s q ep cd hw).v.toArray 58:=hd.at 6 rfl;obtain⟨A',c',w',hrun,hown,hgr,-,-⟩:=cU (P:=Ea) wq hi hi 40 _ 58 IR.out.choose _ 6 48 Tryz.underlying40 IR.out.choose_spec.1 IR.out.choose_spec.2.1 IR.out.choose_spec.2.2.1 IR.out.choose_spec.2.2.2 rfl A0 c0 rs.length (Xi rs) hp.2.2.1 ⟨b,0,Z⟩ 1 1 (Rec.mk k s q ep cd hw).v U (fun j Y3 hu=>by rw[show(⟨b,0,Z⟩:Ev).add j=⟨b,j,Z⟩ from Xo];rw[H.cell k6,J0];exact hu) (by simp[Rec.v,Ov]) (fun _=>D) (by have:=HL.out;unfold maxLen;omega) JK (EB HH.out hp.2.2.2.2.2.size) (E9 _);exact Za (Ei U) (UU U (show xv 4=_ from d4) (show xv 6=_ from e6) hrun) hgr ⟨A',c',U,hown⟩
  ·have d0:xv 0=Y (X ⟨gs,0,Z⟩):=hd.at 0 rfl;exact Iw fS (Ei U) Uc U
  ·have d8:xv 8=Y (X ⟨gs,0,Z⟩):=hd.at 8 rfl;exact Iw fS (Ei U) cu U
  ·have d9:xv 9=Y (X ⟨gs,2,Z⟩):=hd.at 9 rfl;obtain⟨A,cp,e7,ho⟩:zw hi 58 6 (rs.length+1) (Xi rs++(Rec.mk k s q ep cd hw).v) (xv 7) wq:=hd.at 7 rfl;have cc:wq.cell? ⟨gs,2,Z⟩=X (EJ A0 rs.length c0):=(H.cell hp.1 2).trans U;have ff:wq.frozen? ⟨gs,2,Z⟩=V:=H.I_ hp.1 2;rw[e7] at ho;have kk:=EaJ hp.1 (EJ A (rs.length+1) cp);refine Db (w':=wq.setCell ⟨gs,2,Z⟩ (EJ A (rs.length+1) cp)) (Ei U) (by simp[go_sem,d9,e7,cc,ff]) ⟨fun g2 c2 h2=>h2.other gs 2 _ (cM h2 hp.1 Eb),?_⟩ trivial;exact⟨A,cp,kk,hp.2.1.other gs 2 _ (cM hp.2.1 hp.1 Eb),EQ ho (fun g2 c2 h2=>h2.other gs 2 _ (cM h2 hp.1 Eb)),hp.2.2.2.1.via (fun k2 c2 S hS h2=>h2.other gs 2 _ (cM h2 hp.1 ZN)) (QV uo.out _),EQ hp.2.2.2.2.1 (fun g2 c2 h2=>h2.other gs 2 _ (cM h2 hp.1 Eb)),hp.2.2.2.2.2.trans (Ex.setCell hp.1 Eb uo.out 2 _)⟩
 case hend=>
  intro xv W6 hp hr;clear hr;simp only[ED,Ic,Ii,IJ,IU];obtain⟨A,cp,h1,h2,h3,h4,h5,h6⟩:=hp;replace KS:=J h1;replace iy:=J h2;replace OR:=J h3;replace CB:=J h4;replace OS:=J h5;replace MM:=J h6;clear h1 h2 h3 h4 h5 h6 HN HX;obtain⟨d0,d1,d2,hd,KG,o0,o1,o2,UR,Xm⟩:=CB.out.El;have KG:=J KG;have HF:=J<|Oj (c:=c) (gq:=gq) (gt:=gt) (hd:=hd) (Jw g) o0 o1 o2 12 D;have CN:Ed (∀W,JH W->Eg Ea 68 #[EZ (hd.map (E .u8)).toArray,EZ (Rec.mk k s q ep cd hw).v.toArray] W fun e' w'=>e'=Eh (EZ (Em (Zh (hd++fg k s q ep cd hw))))/\Ek W w'):=J<|fun W (r:JH W)=>EXL hd k s q ep cd hw UR Xm W r;have RT:=J CB.out.roots;have cs: ∀y:Ext W6,(EA W6 y).cell? ⟨gs,0,Z⟩=X (Y (X ⟨gc,0,Z⟩)):=fun y=>(H.cell (KS.out.u (EL y)) 0).trans U;obtain⟨nh,GI⟩:=Eo (Zh (hd++fg k s q ep cd hw));rw[<-GI] at CN;have oq:=J (show nh.length=32/\ ∀x∈nh,0<=x/\x<=255 by rw[GI];exact⟨nL _,tx _⟩);have ou:=J (show(hd.map (E .u8)).length=32 by simp[UR]);clear GI UR Xm;go_wp2_with fail;refine J_ 15 Ef Ef ?_;simp only[Is,Io,IS,IM]
  repeat (first
   |go_big_quiet_skip
   |(go_big_quiet_want
     first
      |(refine Og (T:=58) (g:=gr) QT _ rfl rfl iy ?_ ?_;(·rfl);go_simp;go_big_quiet_on)
      |(refine X7 (T:=41) (g:=gc) (off:=114) OF _ rfl rfl KG 12 rfl HF.out ou.out ?_;go_simp;go_big_quiet_on)
      |(go_big_quiet_op
        first
         |go_big_quiet_on
         |go_big_quiet_call (with_reducible refine IY (CN.out _ (RT.out.u (EL _)))))))
  refine I2 ?_;intro _ hw';obtain⟨y9,rfl⟩:=hw';have En:=EL y9;replace KS:=J<|KS.out.u En;replace OR:=J<|EQ OR.out fun _ _ h=>H.u h En;replace OS:=J<|EQ OS.out fun _ _ h=>H.u h En;replace CB:=J<|CB.out.u En;replace KG:=J<|KG.out.u En;replace MM:=J<|MM.out.trans (Ex.EC En);clear cs En iy;generalize EA W6 y9=W7 at*;have KF:=J<|KG.out.set 12 rfl HF.out (nh.map (E .u8)) (by rw[ou.out];simp[oq.out.1]);have TH:=J<|KG.out.there 12 rfl HF.out 32 (Ud ou.out.symm);have ON:=J<|JG (g:=gc) (nh.map (E .u8)) 114 W7;go_wp2_with ((with_reducible refine Jr 41 ?_);(with_reducible refine Um U 41 _ _ U gc 114 (Em nh) ?_ ?_ ?_ ?_ ?_ ?_);(·rfl);(·rfl);(·rw[Oc,oq.out.1];exact TH.out);(·rw[Oc,oq.out.1];exact OF.2);(·exact XK _));go_end0;have CB2:=CB.out.set ON.out U U CB.out.ok ⟨d0,d1,d2,nh,KF.out,o0,o1,o2,oq.out.1,oq.out.2⟩;have S2:=QY.out;refine⟨U,⟨CB2,S2.hc,S2.hq,S2.ht,S2.bL,S2.his,sv,EJ A (rs.length+1) cp,sc,ON.out.El KS.out (E7 KS.out KG.out Eb),EQ OS.out fun _ _ h=>ON.out.El h (E7 h KG.out Eb),?_⟩,MM.out.trans (Ex.um ON.out KG.out KF.out Eb CB.out.lc)⟩;have:=EQ OR.out fun _ _ h=>ON.out.El h (E7 h KG.out Eb);rw[Mw,I1,show Xi [Rec.mk k s q ep cd hw]=(Rec.mk k s q ep cd hw).v from by simp[Xi]];exact this
def ox(z:Int):Int:=if(Iu .and .u16 z 32768 !=0)=EI then Iu .xor .u16 (IntKind.u16.wrap (z*2)) 4129 else IntKind.u16.wrap (z*2)
def rU:Nat->Int->Int
 |0,z=>z
 |k+1,z=>ox (rU k z)
def oy(s c:Int):Int:=rU 8 (Iu .xor .u16 s (c*256))
def Xy(xs:List Int):Int:=xs.foldl oy 65535
theorem EaX(op:BinOp)(a b:Int):0<=Iu op .u16 a b/\Iu op .u16 a b<=65535:=by
 unfold Iu;have h: ∀x:Int,0<=IntKind.u16.wrap x/\IntKind.u16.wrap x<=65535:=fun x=>by exact Emj
 exact h _
theorem EaZ(x:Int):0<=IntKind.u16.wrap x/\IntKind.u16.wrap x<=65535:=by exact Emj
theorem Eaa(z:Int):0<=ox z/\ox z<=65535:=by
 unfold ox;split;·exact EaX _ _ _
 ·exact EaZ _
theorem Eab(s c:Int):0<=oy s c/\oy s c<=65535:=Eaa _
theorem Q6(xs:List Int)(x:Int):Xy (xs++[x])=oy (Xy xs) x:=by unfold Xy;rw[List.foldl_append];rfl
theorem Q7(xs:List Int):0<=Xy xs/\Xy xs<=65535:=by refine NU (P:=fun xs=>0<=Xy xs/\Xy xs<=65535) Eb (fun l x _=> ?_) xs;rw[Q6];exact Eab _ _
theorem Eac(s c:Int)(w:M)(h1:0<=s/\s<=65535)(h2:0<=c/\c<=255): Eg Ea 200 #[.int .u16 s,E IT c] w fun e w'=>e=Eh (.int .u16 (oy s c))/\w=w':=by
 obtain⟨r,hr⟩:=Eo (oy s c);rw[<-hr];replace hr:=J hr;go_enter Tryz.func200,Tryz.ntmps200;go_wp2_with fail;go_loop [0,10] (fun x y=> ∃i:Nat,i<=8/\y=E I i/\x= .int .u16 (rU i (Iu .xor .u16 s (c*256)))) (fun _ y=>8-(I5 y).toNat);case atStart=>exact⟨0,D,U,U⟩
 case round=>
  obtain⟨i,hi,rfl,rfl⟩:=hrel;by_cases hlt:i<8
  ·have t1:decide ((i:Int)<8)=EI:=IE D;obtain⟨z,hz⟩: ∃z,z=rU i (Iu .xor .u16 s (c*256)):=⟨_,U⟩;rw[<-hz];have HZ:Ed (rU (i+1) (Iu .xor .u16 s (c*256))=ox z):=J (by rw[hz];rfl);clear hz;cases hb:(Iu .and .u16 z 32768 !=0) with
   |true=> go_wp2_with fail;refine⟨⟨i+1,D,Ej,?_⟩,J6⟩;rw[HZ.out];unfold ox;rw[if_pos hb]
   |false=> go_wp2_with fail;refine⟨⟨i+1,D,Ej,?_⟩,J6⟩;rw[HZ.out];unfold ox;rw[if_neg (by rw[hb];decide)]
  ·have t1:decide ((i:Int)<8)=V:=Ia D;obtain rfl:i=8:=D;rw[show rU 8 (Iu .xor .u16 s (c*256))=r from hr.out.symm];exact Ej7
theorem Q8(a:Option Ev)(xs:List Int)(n c:Nat)(w:M)(hn:xs.length=n)(hr:Row w a xs)(hm:n<=9223372036854775807): Eg Ea 157 #[EJ a n c] w fun e w'=>e=Eh (.int .u16 (Xy xs))/\w=w':=by
 obtain⟨hr,hb⟩:=hr;have HR:=J hr;have HB:=J hb;have HN:=J hn;clear hr hb hn;obtain⟨r,hr⟩:=Eo (Xy xs);rw[<-hr];replace hr:=J hr;go_enter Tryz.func157,Tryz.ntmps157;go_wp2_with fail;go_loop [3,8] (fun x y=> ∃i:Nat,i<=n/\y=E I i/\x= .int .u16 (Xy (xs.take i))) (fun _ y=>n-(I5 y).toNat);case atStart=>exact⟨0,D,U,U⟩
 case round=>
  obtain⟨i,hi,rfl,rfl⟩:=hrel;by_cases hlt:i<n
  ·have t1:decide ((i:Int)<(n:Int))=EI:=IE D;rcases HR.out with e|⟨b,off,rfl,hc⟩;·have:=HN.out;rw[e] at this;simp at this;omega
   ·have hil:i<xs.length:=lB;have hc:=hc i hil;have hx:=HB.out xs[i] (dW _);have HS:Ed (Xy (xs.take (i+1))=oy (Xy (xs.take i)) xs[i]):=J (by rw[<-Q6,List.take_append_getElem hil]);have hin:=Q7 (xs.take i);generalize Xy (xs.take i)=z at*;go_wp2_with fail;refine(Eac z xs[i] _ hin hx).mono ?_;rintro e w2 ⟨rfl,rfl⟩;go_wp2_with fail;exact⟨⟨i+1,D,Ej,by rw[HS.out]⟩,J6⟩
  ·obtain rfl:i=n:=D;have t1:decide ((i:Int)<(i:Int))=V:=Ia D;rw[show xs.take i=xs from OV zx,show Xy xs=r from hr.out.symm];exact Ej7
theorem Q9(x:Int)(k:Nat)(hx:x=k)(hk:k<=1000000000000)(W:M): (Instr.makeSlice 23 (E I 0) (E I x)).run Ea W= .ok (EJ (X ⟨W.heap.size,0,Z⟩) 0 k) (W.alloc (Ec (az #[E .u8 0] k) 5)):=by subst hx;obtain⟨i0,hi,hz0,hz1,hz2⟩:=bZ kK;have h:=run_make (P:=Ea) W 23 5 i0 _ ba hi hz0 .i64 .i64 0 k D D (by rw[hz2];omega) D;rw[h,hz1,kL,Nat.mul_one];rfl
theorem Q_(w:M)(base k:Nat)(hb:base<=w.heap.size)(hk:k<=1000000000000):Own (w.alloc (Ec (az #[E .u8 0] k) 5)) base (X ⟨w.heap.size,0,Z⟩) k []:=by refine⟨⟨U,.inr ⟨w.heap.size,k,az #[E .u8 0] k,U,hb,?_,fL _,Oy,by simp[az],Ej⟩⟩,fun x hx=>sH⟩;exact H.new w _ _
theorem RE(w:M)(xs:List Int)(h: ∀x∈xs,0<=x/\x<=255)(cs:Array G)(hc:cs=(xs.map (E .u8)).toArray):Row (w.alloc (Ec cs 5)) (X ⟨w.heap.size,0,Z⟩) xs:=by subst hc;refine⟨.inr ⟨w.heap.size,0,U,fun i hi=> ?_⟩,h⟩;rw[H.cell (H.new w (xs.map (E .u8)).toArray 5),J0,J9];simp[hi]
theorem Ead{xs:List Int}(h:Row w A xs)(g:Nat)(hg:A=X ⟨g,0,Z⟩)(k:Nat):Row w (X ⟨g,k,Z⟩) (xs.drop k):=by
 obtain⟨h1,h2⟩:=h;refine⟨?_,fun x hx=>h2 x (List.mem_of_mem_drop hx)⟩;rcases h1 with e|⟨b,off,e,hc⟩;·left;rw[e];simp
 ·right;rw[hg] at e;injection e with e;injection e with e1 e2 e3;subst e1 e2;refine⟨g,k,U,fun i hi=> ?_⟩;have hil:i<xs.length-k:=XO;have hh:=hc (k+i) D;rw[show 0+(k+i)=k+i from D] at hh;rw[hh];simp
theorem Eaf(n:Nat)(h:n<=255):IntKind.u8.wrap (n:Int)=n:=Df
theorem Eag(A:Option Ev)(xs:List Int)(n c:Nat)(w:M)(hn:xs.length=n)(hr:Row w A xs)(hm:n<=9223372036854775807): Eg Ea 166 #[EJ A n c] w fun e w'=>(∃A' n' c' x,e=Eh (Es #[EJ A' n' c',E I x]))/\Ek w w':=by
 have HR:=J hr;have HN:=J hn;clear hr hn;by_cases h:n<=32
 ·have t1:decide ((32:Int)<(n:Int))=V:=Ia D;have hmk: ∀W:M,(Instr.makeSlice 23 (E I 0) (E I (3+(n:Int)+2))).run Ea W= .ok (EJ (X ⟨W.heap.size,0,Z⟩) 0 (n+5)) (W.alloc (Ec (az #[E .u8 0] (n+5)) 5)):=Q9 _ _ D D;have cv:IntKind.u8.wrap (n:Int)=n:=Eaf n D;have O1:=J<|Q_ w w.heap.size (n+5) (E9 _) D;have B1:=J<|Er w (Ec (az #[E .u8 0] (n+5)) 5);go_enter Tryz.func166,Tryz.ntmps166;go_wp2_with (with_reducible refine JU 18 ?_);apply Et;generalize w.alloc (Ec (az #[E .u8 0] (n+5)) 5)=w1 at*;have R2:=J<|RE w1 [165,1,(n:Int)] (by intro x hx;simp at hx;omega) _ U;have BL:=J<|Er w1 (Ec ([165,1,(n:Int)].map (E .u8)).toArray 5);replace O1:=J<|Z8 O1.out BL.out;replace B1:=EW B1 BL.out;simp only[Xs,Zu] at O1 R2 B1;clear BL;go_wp2_with ((with_reducible refine It 19 ?_);(with_reducible refine lv _ (Ei U) (.tmp 14) (.tmp 18) U w.heap.size (X ⟨w.heap.size,0,Z⟩) (n+5) 0 [] U ?_ O1.out (X ⟨w1.heap.size,0,Z⟩) 3 3 [165,1,(n:Int)] U ?_ R2.out D B1.out.size ?_);(·rfl);(·rfl);intro A2 c2 w3 o3 b3 k3;refine Ey.mk ?_);apply Et;replace O1:Ed (Own w3 w.heap.size A2 c2 [165,1,(n:Int)]):=J o3;replace B1:=J<|B1.out.trans b3;clear b3 k3 o3 R2;go_wp2_with ((with_reducible refine It 22 ?_);(with_reducible refine lv _ (Ei U) (.tmp 20) (.tmp 21) U w.heap.size A2 c2 3 [165,1,(n:Int)] U ?_ O1.out A c n xs HN.out ?_ (HR.out.u B1.out) D B1.out.size ?_);(·rfl);(·rfl);intro A3 c3 w4 o4 b4 k4;refine Ey.mk ?_);apply Et;replace O1:=J o4;replace B1:=J<|B1.out.trans b4;clear b4 k4 o4;have HL:Ed (([165,1,(n:Int)]++xs).length=n+3):=J rX;rw[show 3+n=n+3 from D];generalize [165,1,(n:Int)]++xs=ys at*;obtain⟨g3,EiW,rfl,lg3,kg3,cu3,RI⟩:=QR O1.out DB;have hc3:n+3<=c3:=by rw[<-HL.out];exact RI
  have HRW:=J<|Ead O1.out.row g3 U 1;have ou:Ed ((ys.drop 1).length=n+2):=J (by rw[ly,HL.out];omega);generalize ys.drop 1=zs at*;clear kg3 cu3 RI;go_wp2_with fail;refine(Q8 (X ⟨g3,1,Z⟩) zs (n+2) _ _ ou.out HRW.out D).mono ?_;rintro e w5 ⟨rfl,rfl⟩;have hci:=Q7 zs;generalize Xy zs=s at*;go_wp2_with (with_reducible refine JU 32 ?_);apply Et;have R5:=J<|RE w4 [s/256,s%256] (by intro x hx;simp at hx;omega) _ U;have BL:=J<|Er w4 (Ec ([s/256,s%256].map (E .u8)).toArray 5);replace O1:=J<|Z8 O1.out BL.out;replace B1:=EW B1 BL.out;simp only[Xs,Zu] at O1 R5 B1;clear BL;go_wp2_with ((with_reducible refine It 33 ?_);(with_reducible refine lv _ (Ei U) (.tmp 26) (.tmp 32) U w.heap.size (X ⟨g3,0,Z⟩) c3 (n+3) ys HL.out ?_ O1.out (X ⟨w4.heap.size,0,Z⟩) 2 2 [s/256,s%256] U ?_ R5.out D B1.out.size ?_);(·rfl);(·rfl);intro A6 c6 w6 o6 b6 k6;refine Ey.mk ?_);apply Et;replace B1:=J<|B1.out.trans b6;clear b6 k6 o6;go_wp2;go_ret2;exact⟨⟨_,_,_,_,U⟩,B1.out⟩
 ·have t1:decide ((32:Int)<(n:Int))=EI:=IE D;go_enter Tryz.func166,Tryz.ntmps166;go_wp2;go_ret2;exact⟨⟨_,_,_,_,U⟩,E_ _ _⟩
def Uw:List Int->Nat
 |[]=>0
 |x::r=>if x=165 then 0 else Uw r+1
theorem GJ: ∀xs,Uw xs<=xs.length
 |[]=>E9 _
 |x::r=>by
  unfold Uw;split;·exact fL _
  ·have:=GJ r;simp;exact this
structure bN where
 kd:Int
 sz:Nat
 cd:Int
 b:List Int
def bP:bN:=⟨0,0,0,[]⟩
def iC(c:Int):bN:=⟨3,1,c,[]⟩
def iD(n:Nat):bN:=⟨1,n,0,[]⟩
def oz(xs:List Int):bN:=⟨2,xs.length+5,0,xs⟩
def dx(v n:Int)(r:List Int):bN:=
 if 32<n then iC 11 else if(r.length:Int)<n+2 then bP else if Xy (v::n::r.take n.toNat)≠256*r.getD n.toNat 0+r.getD (n.toNat+1) 0 then iC 12 else oz (r.take n.toNat)
def zy:List Int->bN
 |[]=>bP
 |n::r=>dx 1 n r
def mE:List Int->bN
 |[]=>bP
 |v::r=>if v≠1 then iC 10 else zy r
def nx:List Int->bN
 |[]=>bP
 |a::r=>if a≠165 then iD (Uw (a::r)) else mE r
theorem iF(a:Int)(r:List Int):nx (a::r)=if a≠165 then iD (Uw (a::r)) else mE r:=rfl
theorem oA(v:Int)(r:List Int):mE (v::r)=if v≠1 then iC 10 else zy r:=rfl
def bN.item(f:bN):List (Int×List Int):=if f.kd=2 then [(0,f.b)] else if f.kd=3 then [(f.cd,[])] else []
def UD(xs:List Int):Prop:= ∀x∈xs,0<=x/\x<=255
theorem UD.dr{xs:List Int}(h:UD xs)(k:Nat):UD (xs.drop k):=fun y hy=>h y (List.mem_of_mem_drop hy)
theorem UD.tk{xs:List Int}(h:UD xs)(k:Nat):UD (xs.take k):=fun y hy=>h y (fC hy)
theorem UD.app{xs ys:List Int}(h:UD xs)(k:UD ys):UD (xs++ys):=fun y hy=>by
 rcases Xt.1 hy with h1|h1;·exact h y h1
 ·exact k y h1
inductive RU(xs:List Int)(f:bN):Prop
 |wait (h:f=bP)
 |oB (c:Int) (h:f=iC c) (hc:c=10\/c=11\/c=12) (hl:1<=xs.length)
 |skip (h:f=iD (Uw xs)) (h1:1<=Uw xs)
 |frame (n:Nat) (h:f=oz ((xs.drop 3).take n)) (hl:n+5<=xs.length) (hn:n<=32)
theorem zA(xs:List Int)(hb:UD xs):RU xs (nx xs):=by
 match xs,hb with
 |[],_=>exact .wait U
 |a::r,hb=>
  by_cases h1:a≠165;·refine .skip (by rw[iF,if_pos h1]) ?_;unfold Uw;rw[if_neg h1];omega
  ·have e1:nx (a::r)=mE r:=by rw[iF,if_neg h1]
   rw[e1];match r,hb with
   |[],_=>exact .wait U
   |v::r2,hb=>
    by_cases h2:v≠1;·exact .oB 10 (by rw[oA,if_pos h2]) (.inl U) Ej
    ·have e2:mE (v::r2)=zy r2:=by rw[oA,if_neg h2]
     rw[e2];match r2,hb with
     |[],_=>exact .wait U
     |n::r3,hb=>
      show RU _ (dx 1 n r3);have hn:=hb n Ej;unfold dx;split;·exact .oB 11 rfl (.inr (.inl U)) Ej
      ·split;·exact .wait U
       ·split;·exact .oB 12 rfl (.inr (.inr U)) Ej
        ·exact .frame n.toNat Ej Jm D
theorem Eaj(ys:List Int)(n:Nat)(h:n<=ys.length):(oz (ys.take n)).sz=n+5:=by simp[oz];omega
theorem GO{xs:List Int}(hb:UD xs)(h:(nx xs).kd≠0):1<=(nx xs).sz/\(nx xs).sz<=xs.length:=by
 cases zA xs hb with
 |wait e=>rw[e] at h;exact absurd U h
 |oB c e _ hl=>rw[e];exact⟨E9 _,hl⟩
 |skip e h1=>rw[e];exact⟨h1,GJ _⟩
 |frame n e hl hn=>rw[e,Eaj _ _ Jm];omega
theorem Eak{xs:List Int}(hb:UD xs):(nx xs).b.length<=32/\UD (nx xs).b:=by
 cases zA xs hb with
 |wait e=>rw[e];exact⟨by simp[bP],by intro y hy;simp[bP] at hy⟩
 |oB c e _ hl=>rw[e];exact⟨by simp[iC],by intro y hy;simp[iC] at hy⟩
 |skip e h1=>rw[e];exact⟨by simp[iD],by intro y hy;simp[iD] at hy⟩
 |frame n e hl hn=>rw[e];exact⟨by simp[oz];omega,(hb.dr 3).tk n⟩
inductive U5:List Int->List (Int×List Int)->List Int->Prop
 |wait {xs} (h:(nx xs).kd=0):U5 xs [] xs
 |step {xs its r} (h:(nx xs).kd≠0) (t:U5 (xs.drop (nx xs).sz) its r):U5 xs ((nx xs).item++its) r
theorem U5.det{xs i r}(h:U5 xs i r): ∀{i' r'},U5 xs i' r'->i=i'/\r=r':=by
 induction h with
 |wait h=>
  intro i' r' k;cases k with
  |wait=>exact⟨U,U⟩
  |step h' _=>exact absurd h h'
 |step h t ih=>
  intro i' r' k;cases k with
  |wait h'=>exact absurd h' h
  |step _ t'=>obtain⟨rfl,rfl⟩:=ih t';exact⟨U,U⟩
theorem U5.ex: ∀(n:Nat) (xs:List Int),xs.length<=n->UD xs-> ∃i r,U5 xs i r
 |0,xs,h,_=>⟨[],xs,.wait (by have:xs=[]:=ao D;subst this;rfl)⟩
 |n+1,xs,h,hb=>by
  by_cases h0:(nx xs).kd=0;·exact⟨_,_,.wait h0⟩
  ·have hs:=GO hb h0;obtain⟨i,r,t⟩:=U5.ex n (xs.drop (nx xs).sz) (by rw[ly];omega) (hb.dr _);exact⟨_,_,.step h0 t⟩
theorem U5.left{xs i r}(h:U5 xs i r): ∃k,r=xs.drop k:=by
 induction h with
 |wait h=>exact⟨0,U⟩
 |step h t ih=>obtain⟨k,e⟩:=ih;exact⟨_,by rw[e,List.drop_drop]⟩
def RZ(i:Int×List Int):Prop:=UD i.2/\i.2.length<=32/\(i.1=0\/i.1=10\/i.1=11\/i.1=12)
theorem Eam{xs:List Int}(hb:UD xs): ∀i∈(nx xs).item,RZ i:=by
 intro i hi;have hbd:=Eak hb;unfold bN.item at hi;split at hi;·simp at hi;subst hi;exact⟨hbd.2,hbd.1,.inl U⟩
 ·split at hi
  ·rename_i h3;simp at hi;subst hi;refine⟨by intro y hy;simp at hy,Ej,?_⟩;cases zA xs hb with
   |wait e=>rw[e] at h3;cases h3
   |oB c e hc hl=>rw[e];exact .inr hc
   |skip e h1=>rw[e] at h3;cases h3
   |frame n e hl hn=>rw[e] at h3;cases h3
  ·simp at hi
theorem U5.ok{xs i r}(h:U5 xs i r):UD xs->(∀x∈i,RZ x)/\UD r:=by
 induction h with
 |wait h=>exact fun hb=>⟨Ej,hb⟩
 |step h t ih=>
  intro hb;obtain⟨h1,h2⟩:=ih (hb.dr _);refine⟨fun x hx=> ?_,h2⟩;rcases Xt.1 hx with h3|h3;·exact Eam hb x h3
  ·exact h1 x h3
theorem U5.len{xs i r}(h:U5 xs i r):UD xs->i.length+r.length<=xs.length:=by
 induction h with
 |wait h=>exact fun hb=>Ej
 | @step xs its r h t ih=>
   intro hb;have h1:=ih (hb.dr _);have h2:=GO hb h;have h3:(nx xs).item.length<=1:=by unfold bN.item;split<;>(try split)<;>simp
   rw[I1];rw[ly] at h1;omega
theorem zB(A:Option Ev)(n c:Nat)(w:M):(XG .eql 23 (EJ A n c) (EJ Z 0 0)).run Ea w= .ok (EU (match A with|none=>true|some _=>false)) w:=by cases A<;>kernel_rfl
theorem Ra(w:M)(base:Nat)(h:base<=w.heap.size):Own (w.alloc (Ec #[] 5)) base (X ⟨w.heap.size,0,Z⟩) 0 []:=
 ⟨World.ownsRow_lit (base:=base) (size:=1) (e:=5) w #[] 0 h Oy U,fun _ h=>qX⟩
theorem Ean(A:Option Ev)(xs:List Int)(n c:Nat)(w:M)(hn:xs.length=n)(hr:Row w A xs)(hm:n<=1000000): Eg Ea 158 #[EJ A n c] w fun e w'=>(∃A' c',e=Eh (EJ A' n c')/\Own w' w.heap.size A' c' xs)/\Ek w w':=by
 cases A with
 |none=>
  have hx:xs=[]:=by
   rcases hr.1 with h|⟨b,o,h,-⟩;·exact h
   ·cases h
  subst hx;obtain rfl:n=0:=hn.symm;have hne0:=zB Z 0 c w;go_enter Tryz.func158,Tryz.ntmps158;exact En3
 |some ad=> have hne0:=zB (X ad) n c w;have HR:=J hr;have O1:=J<|Ra w w.heap.size (E9 _);have b1:=J<|Er w (Ec #[] 5);clear hr;go_enter Tryz.func158,Tryz.ntmps158;go_wp2_with (with_reducible refine JU 7 ?_);apply Et;obtain⟨A7,c7,w7,hrun,hown,hbel,-⟩:=xH (w.alloc (Ec #[] 5)) w.heap.size (X ⟨w.heap.size,0,Z⟩) 0 [] O1.out (X ad) c xs (IH HR.out b1.out) Jm b1.out.size 23;rw[List.length_nil,J9,hn] at hrun;have uq:=J hown;have B7:=J<|b1.out.trans hbel;clear hown hbel;go_wp2_with ((with_reducible refine It 7 ?_);(refine Jq (Ei U) (UU U U U hrun) ?_));go_ret;exact⟨⟨A7,c7,U,uq.out⟩,B7.out⟩
theorem zC(A:Option Ev)(xs:List Int)(n c:Nat)(w:M)(hn:xs.length=n)(hr:Row w A xs)(hm:n<=1000000): Eg Ea 41 #[EJ A n c] w fun e w'=>(∃A' c',e=Eh (EJ A' n c')/\Own w' w.heap.size A' c' xs)/\Ek w w':=by
 cases A with
 |none=>
  have hx:xs=[]:=by
   rcases hr.1 with h|⟨b,o,h,-⟩;·exact h
   ·cases h
  subst hx;obtain rfl:n=0:=hn.symm;have hne0:=zB Z 0 c w;go_enter Tryz.func41,Tryz.ntmps41;exact En3
 |some ad=> have hne0:=zB (X ad) n c w;have HR:=J hr;have O1:=J<|Ra w w.heap.size (E9 _);have b1:=J<|Er w (Ec #[] 5);clear hr;go_enter Tryz.func41,Tryz.ntmps41;go_wp2_with (with_reducible refine JU 7 ?_);apply Et;obtain⟨A7,c7,w7,hrun,hown,hbel,-⟩:=xH (w.alloc (Ec #[] 5)) w.heap.size (X ⟨w.heap.size,0,Z⟩) 0 [] O1.out (X ad) c xs (IH HR.out b1.out) Jm b1.out.size 23;rw[List.length_nil,J9,hn] at hrun;have uq:=J hown;have B7:=J<|b1.out.trans hbel;clear hown hbel;go_wp2_with ((with_reducible refine It 7 ?_);(refine Jq (Ei U) (UU U U U hrun) ?_));go_ret;exact⟨⟨A7,c7,U,uq.out⟩,B7.out⟩
theorem Rb: ∀(xs:List Int),(∀x∈xs,0<=x/\x<=255)->Lib.indexByte (Lib.bytesOf xs) (165:Int).toNat.toUInt8=if Uw xs<xs.length then(Uw xs:Int) else-1
 |[],_=>rfl
 |x::r,h=>by
  have hx:=h x (fG ..);have ih:=Rb r (fun y hy=>h y (Z5 _ hy));unfold Lib.bytesOf at*;rw[Xs];unfold Lib.indexByte Uw
  have hb:(UInt8.ofNat x.toNat==(165:Int).toNat.toUInt8)=decide (x=165):=by
   obtain⟨k,rfl⟩: ∃k:Nat,x=k:=⟨x.toNat,D⟩;have hk:k<=255:=D;rw[show(UInt8.ofNat ((k:Int).toNat)==(165:Int).toNat.toUInt8)=decide (UInt8.ofNat k=165) from rfl];by_cases h5:k=165;·subst h5;rfl
   ·rw[Ia (p:=(k:Int)=165) D];refine Ia ?_;intro he;have:=congrArg UInt8.toNat he;simp at this;omega
  rw[hb,ih];by_cases h5:x=165;·simp[h5]
  ·rw[Ia h5,if_neg Eb,if_neg h5];by_cases h6:Uw r<r.length;·rw[if_pos h6,if_neg IC,if_pos IC];all_goals (try simp)
   ·rw[if_neg h6,if_pos Eb,if_neg IC]
theorem Eao(A:Option Ev)(xs:List Int)(n c:Nat)(w:M)(hn:xs.length=n)(h1:1<=n)(hr:Row w A xs): Eg Ea 159 #[EJ A n c,E IT 165] w fun e w'=>e=Eh (E I (if Uw xs<n then(Uw xs:Int) else-1))/\w=w':=by
 have hi:=Rb xs hr.2;subst hn;obtain⟨z,hz⟩:=Eo ((if Uw xs<xs.length then(Uw xs:Int) else-1));rw[<-hz] at hi⊢
 have HX:(Extern.BytealgIndexByte.indexByte #[EJ A xs.length c,E IT 165]).run Ea w= .ok (E I z) w:=by
  rcases hr.1 with h|⟨b,o,h,hc⟩;·subst h;simp at h1
  ·subst h;rw[<-hi];exact Lib.run_indexByteSlice (P:=Ea) w b o xs.length c xs U (fun i h2=>by rw[hc i h2,Uj,JY h2];rfl) 165
 clear hi hz hr h1;go_enter Tryz.func159,Tryz.ntmps159;go_wp2;rw[run_callFunc_extern Tryz.func201 Ef Ef Ef (e:=Extern.BytealgIndexByte.indexByte) Ef,HX];simp only[Result.andThen];rw[Oper.upon_value];exact Ej7
def OM(c:EF):List G:=[E I c.mode,E I c.pt.c,E I c.pt.n0,E I c.pt.n1,E I c.pt.n2,E I c.pt.n3,E I c.En.r,E I c.En.s,E I c.En.q,E I c.pt.b.r,E I c.pt.b.s,E I c.pt.b.q]
def Jl(act:List G)(sv rv:G)(hd:List Int):List G:=act++([sv,rv]++hd.map (E .u8))
theorem go:IF Ea 43 46:=⟨⟨_,Tryz.underlying43,U⟩,Ef⟩
theorem Eap(c:EF)(A Y4:Option Ev)(n m d f:Nat)(h0 h1 h2 h3 h4 h5 h6 h7 h8 h9 h10 h11 h12 dy jK zD h16 mI h18 h19 h20 h21 h22 h23 zF oC zG h27 zH zK zL h31:Int):Tryz.prog.built 43 [(0,EZ #[E I c.mode,E I c.pt.c,E I c.pt.n0,E I c.pt.n1,E I c.pt.n2,E I c.pt.n3,E I c.En.r,E I c.En.s,E I c.En.q,E I c.pt.b.r,E I c.pt.b.s,E I c.pt.b.q]),(1,EJ A n d),(2,EJ Y4 m f),(3,EZ ([h0,h1,h2,h3,h4,h5,h6,h7,h8,h9,h10,h11,h12,dy,jK,zD,h16,mI,h18,h19,h20,h21,h22,h23,zF,oC,zG,h27,zH,zK,zL,h31].map (E .u8)).toArray)]=X (Jl (OM c) (EJ A n d) (EJ Y4 m f) [h0,h1,h2,h3,h4,h5,h6,h7,h8,h9,h10,h11,h12,dy,jK,zD,h16,mI,h18,h19,h20,h21,h22,h23,zF,oC,zG,h27,zH,zK,zL,h31]).toArray:=Ef
theorem Eaq(c:EF)(A Y4:Option Ev)(n m d f:Nat)(hd:List Int)(h:hd.length=32):Tryz.prog.built 43 [(0,EZ #[E I c.mode,E I c.pt.c,E I c.pt.n0,E I c.pt.n1,E I c.pt.n2,E I c.pt.n3,E I c.En.r,E I c.En.s,E I c.En.q,E I c.pt.b.r,E I c.pt.b.s,E I c.pt.b.q]),(1,EJ A n d),(2,EJ Y4 m f),(3,EZ (hd.map (E .u8)).toArray)]=X (Jl (OM c) (EJ A n d) (EJ Y4 m f) hd).toArray:=by
 match hd,h with
 |[h0,h1,h2,h3,h4,h5,h6,h7,h8,h9,h10,h11,h12,dy,jK,zD,h16,mI,h18,h19,h20,h21,h22,h23,zF,oC,zG,h27,zH,zK,zL,h31],_=>exact Eap c A Y4 n m d f h0 h1 h2 h3 h4 h5 h6 h7 h8 h9 h10 h11 h12 dy jK zD h16 mI h18 h19 h20 h21 h22 h23 zF oC zG h27 zH zK zL h31
theorem Rc(lo hi:Nat)(g:Nat->G)(gc gq gt gs:Nat)(c:EF)(ns:Nat)(rs:List Rec)(w:M)(S:E4 lo hi g gc gq gt gs c ns rs w): Eg Ea 46 #[Y (X ⟨gs,0,Z⟩)] w fun e w'=> ∃(sv rv:G) (sc:rJ) (hd:List Int),e=Eh (EZ (Jl (OM c) sv rv hd).toArray)/\hd.length=32/\(∀x∈hd,0<=x/\x<=255)/\w'.ownsRow hi 264 2 sv ns sc.l/\w'.ownsRow hi 58 6 rv rs.length (Xi rs)/\Ek w w':=by
 obtain⟨sv,rv,sc,KS,OS,OR⟩:=S.dw;obtain⟨d0,d1,d2,hd,KG,o0,o1,o2,UR,Xm⟩:=S.core.El;have HF:=J<|Oj (c:=c) (gq:=gq) (gt:=gt) (hd:=hd) (Jw g) o0 o1 o2 12 D;have ou:=J (show(hd.map (E .u8)).length=32 by simp[UR]);obtain⟨A1,e1,rfl,-⟩:=aZ OS;obtain⟨A2,e2,rfl,-⟩:=aZ OR;have BT:=J<|Eaq c A1 A2 ns rs.length e1 e2 hd UR;have SZ:=J (show(Jl (OM c) (EJ A1 ns e1) (EJ A2 rs.length e2) hd).toArray.size=46 by simp[Jl,OM,UR]);have ONE:=J<|show(Jl (OM c) (EJ A1 ns e1) (EJ A2 rs.length e2) hd).toArray.all (·.oneCell')=EI from all_oneCell_toArray (by intro v hv;simp only[Jl,OM,Xt,OY,Uu,or_false,bc] at hv;rcases hv with hv|(rfl|rfl)|⟨x,-,rfl⟩<;>first|rfl|(rcases hv with rfl|rfl|rfl|rfl|rfl|rfl|rfl|rfl|rfl|rfl|rfl|rfl<;>rfl));have KS:=J KS;have KG:=J KG;have CC:=J<|fun(W:M) (K:Jh W gc (aX (EN 56 g).toList c gq gt d0 d1 d2 hd) 120) (k:Nat) (hk:k<13) (old:List G) (ho:(aX (EN 56 g).toList c gq gt d0 d1 d2 hd)[k]?=X old) (j:Nat) (hj:j<old.length)=>F_ K o0 o1 o2 k hk ho j hj;have HB:=J (show hd.length=32/\ ∀x∈hd,0<=x/\x<=255 from⟨UR,Xm⟩);have OS:=J OS;have OR:=J OR;clear S o0 o1 o2 UR Xm;go_enter Tryz.func46,Tryz.ntmps46;go_wp2_with fail;generalize hW:XX _ _=w1 at*;have K2:Ed (∃z:Array G,z.size=46/\H w1 w.heap.size z 43):=J ⟨_,U,hW▸H.new _ _ _⟩;have b1:Ek w w1:=hW▸Er w _;replace KS:=J<|KS.out.u b1;replace KG:=J<|KG.out.u b1;replace OS:=J<|EQ OS.out fun _ _ h=>H.u h b1;replace OR:=J<|EQ OR.out fun _ _ h=>H.u h b1;have B:=J b1;clear hW b1;have cs0: ∀y:Ext w1,(EA w1 y).cell? ⟨gs,0,Z⟩=X (Y (X ⟨gc,0,Z⟩)):=fun y=>(H.cell (KS.out.u (EL y)) 0).trans U;have cs1: ∀y:Ext w1,(EA w1 y).cell? ⟨gs,1,Z⟩=X (EJ A1 ns e1):=fun y=>(H.cell (KS.out.u (EL y)) 1).trans U;have cs2: ∀y:Ext w1,(EA w1 y).cell? ⟨gs,2,Z⟩=X (EJ A2 rs.length e2):=fun y=>(H.cell (KS.out.u (EL y)) 2).trans U;have Ear: ∀y:Ext w1,(EA w1 y).cell? ⟨gc,98,Z⟩=X (E I c.mode):=fun y=>CC.out _ (KG.out.u (EL y)) 9 D _ U 0 fj;have Eas: ∀y:Ext w1,(EA w1 y).cell? ⟨gc,99,Z⟩=X (E I c.En.r):=fun y=>CC.out _ (KG.out.u (EL y)) 10 D _ U 0 fj;have Eat: ∀y:Ext w1,(EA w1 y).cell? ⟨gc,100,Z⟩=X (E I c.En.s):=fun y=>CC.out _ (KG.out.u (EL y)) 10 D _ U 1 fj;have Eau: ∀y:Ext w1,(EA w1 y).cell? ⟨gc,101,Z⟩=X (E I c.En.q):=fun y=>CC.out _ (KG.out.u (EL y)) 10 D _ U 2 fj;have Eav: ∀y:Ext w1,(EA w1 y).cell? ⟨gc,102,Z⟩=X (E I c.pt.c):=fun y=>CC.out _ (KG.out.u (EL y)) 11 D _ U 0 fj;have Eaw: ∀y:Ext w1,(EA w1 y).cell? ⟨gc,107,Z⟩=X (E I c.pt.n0):=fun y=>CC.out _ (KG.out.u (EL y)) 11 D _ U 5 fj;have Eax: ∀y:Ext w1,(EA w1 y).cell? ⟨gc,108,Z⟩=X (E I c.pt.n1):=fun y=>CC.out _ (KG.out.u (EL y)) 11 D _ U 6 fj;have Eay: ∀y:Ext w1,(EA w1 y).cell? ⟨gc,109,Z⟩=X (E I c.pt.n2):=fun y=>CC.out _ (KG.out.u (EL y)) 11 D _ U 7 fj;have Eaz: ∀y:Ext w1,(EA w1 y).cell? ⟨gc,110,Z⟩=X (E I c.pt.n3):=fun y=>CC.out _ (KG.out.u (EL y)) 11 D _ U 8 fj;have EaA: ∀y:Ext w1,(EA w1 y).cell? ⟨gc,111,Z⟩=X (E I c.pt.b.r):=fun y=>CC.out _ (KG.out.u (EL y)) 11 D _ U 9 fj;have EaB: ∀y:Ext w1,(EA w1 y).cell? ⟨gc,112,Z⟩=X (E I c.pt.b.s):=fun y=>CC.out _ (KG.out.u (EL y)) 11 D _ U 10 fj;have EaC: ∀y:Ext w1,(EA w1 y).cell? ⟨gc,113,Z⟩=X (E I c.pt.b.q):=fun y=>CC.out _ (KG.out.u (EL y)) 11 D _ U 11 fj;refine J_ 54 Ef Ef ?_;simp only[Is,Io,IS,IM]
 repeat (first
  |go_big_quiet_skip
  |(go_big_quiet_want
    first
     |(refine X7 (T:=41) (g:=gc) (off:=114) OF _ rfl rfl KG 12 rfl HF.out ou.out ?_;go_simp;go_big_quiet_on)
     |(go_big_quiet_op
       first
        |go_big_quiet_on
        |go_big_quiet_call (fail))))
 refine I2 ?_;intro _ hw';obtain⟨y9,rfl⟩:=hw';have En:=EL y9;replace OS:=J<|EQ OS.out fun _ _ h=>H.u h En;replace OR:=J<|EQ OR.out fun _ _ h=>H.u h En;replace B:=EW B En;obtain⟨z,hz,kz⟩:=K2.out;have KZ:=J<|H.u kz En;have HZ:=J hz;clear cs0 cs1 cs2 En kz hz K2 KG KS Ear Eas Eat Eau Eav Eaw Eax Eay Eaz EaA EaB EaC;generalize EA w1 y9=w2 at*;obtain⟨tv,Ik⟩: ∃tv,tv=(Jl (OM c) (EJ A1 ns e1) (EJ A2 rs.length e2) hd).toArray:=⟨_,U⟩;rw[<-Ik] at BT SZ ONE;replace Ik:=J Ik;go_wp2_with (first|((with_reducible refine It 57 ?_);refine JO rfl 43 _ rfl tv BT.out ?_)|(with_reducible refine wS (cs:=tv) go KZ ?_ (ho:=HZ.out) (hn:=SZ.out) (h1:=ONE.out)));refine EV (JB go U _ _ w.heap.size tv U (KZ.out.setRow tv) SZ.out) U ?_;refine⟨EJ A1 ns e1,EJ A2 rs.length e2,sc,hd,by rw[Ik.out],HB.out.1,HB.out.2,?_,?_,E6 (g:=w.heap.size) B.out (E9 _) tv⟩;·exact EQ OS.out fun _ _ h=>H.setRow_other h _ _ (E7 h KZ.out Eb)
 ·exact EQ OR.out fun _ _ h=>H.setRow_other h _ _ (E7 h KZ.out Eb)
theorem EaD(l:List Int)(w:M)(hl:cL l):Eg Ea 165 #[EZ (I7 l)] w fun e w'=> ∃(A:Option Ev) (n c:Nat) (x:Int) (xs:List Int),e=Eh (Es #[EJ A n c,E I x])/\xs.length=n/\Row w' A xs/\n<=9223372036854775807/\Ek w w':=by
 refine(EZA l w hl).mono fun e w' ⟨h,hb⟩=> ?_;cases hp:lY l with
 |none=> rw[hp] at h;exact⟨Z,0,0,1,[],h,U,⟨.inl U,Ej⟩,D,hb⟩
 |some bs=>
  rw[hp] at h;obtain⟨A,c,base,he,ho⟩:=h;refine⟨A,bs.length,c,0,bs,he,U,ho.row,?_,hb⟩;rcases ho.1.2 with⟨hv,hn⟩|⟨g,cap',cur,hv,hg,hh,hl,hm,hs,ht⟩;·omega
  ·unfold maxLen at hm;omega
theorem Rd: ∃i,Tryz.prog.info? 264=X i/\i.zero=X (EZ #[E I 0,EJ Z 0 0])/\i.size=2/\i.bytes=32:=by have h:(Tryz.prog.info? 264).map (fun i=>(i.zero,i.size,i.bytes))=X (X (EZ #[E I 0,EJ Z 0 0]),2,32):=Ef;exact Elh
theorem ur(lo hi:Nat)(g:Nat->G)(gc gq gt gs:Nat)(c:EF)(ns:Nat)(rs:List Rec)(l:List Int)(k:Int)(w:M)(S:E4 lo hi g gc gq gt gs c ns rs w)(hl:cL l)(hn:ns<1000000): Eg Ea 122 #[Y (X ⟨gs,0,Z⟩),E I k,EZ (I7 l)] w fun e w'=>e=Eh (Es #[])/\E4 lo hi g gc gq gt gs c (ns+1) rs w'/\Ex lo hi w w':=by have jQ:=J S;have HH:=J (show hi<=w.heap.size by obtain⟨_,_,_,KS,_⟩:=S.dw;have:=S.his;have:=KS.lt;omega);have uo:=J<|show lo<=gs from EB S.bL S.his;have IR:=J Rd;have CP:=J<|fun W=>EaD l W hl;have hsz:Ed ((I7 l).size=14):=J<|oO l;have hone:=J<|FM l;clear hl S;obtain⟨mv,hmv⟩:=Eo (I7 l);rw[<-hmv] at hsz hone CP⊢;clear hmv;go_enter Tryz.func122,Tryz.ntmps122;go_wp2_with (((with_reducible refine XU 222 ?_);(with_reducible refine ZU (g:=w.heap.size) za ?_ ?_ (J (H.new w mv 222)) ?_ ?_);(·exact Ei U);(·exact⟨U,U⟩);(·exact hsz.out)));have b1:=Er w (Ec mv 222);generalize w.alloc (Ec mv 222)=w1 at*;refine(CP.out _).mono ?_;rintro e w2 ⟨A,n,cp,x,xs,rfl,hxl,hrow,hnm,b2⟩;replace b2:=b1.trans (b2.mono b1.size);clear b1;go_wp2_with fail;refine(Eag A xs n cp _ hxl hrow hnm).mono ?_;rintro e w3 ⟨⟨A',n',c',x',rfl⟩,b3⟩;replace b3:=b2.trans (b3.mono b2.size);clear b2 hxl hrow hnm CP;have S3:=jQ.out.u b3;obtain⟨sv,rv,sc,KS,OS,OR⟩:=S3.dw;obtain⟨A0,c0,rfl,hnil⟩:=aZ OS;have MM:=J<|Ex.EC (lo:=lo) (hi:=hi) b3;have CB:=J S3.core;have HI3:=J<|EB HH.out b3.size;replace KS:=J KS;replace OS:=J OS;replace OR:=J OR;clear S3 hnil b3;have cs1:w3.cell? ⟨gs,1,Z⟩=X (EJ A0 ns c0):=(H.cell KS.out 1).trans U;go_wp2_with (with_reducible refine JU 29 ?_);apply Et;have KB:=J<|H.new w3 #[E I k,EJ A' n' c'] 264;have bl:=Er w3 (Ec #[E I k,EJ A' n' c'] 264);replace KS:=J<|KS.out.u bl;replace OS:=J<|EQ OS.out fun _ _ h=>H.u h bl;replace OR:=J<|EQ OR.out fun _ _ h=>H.u h bl;replace CB:=J<|CB.out.u bl;replace MM:=J<|MM.out.trans (Ex.EC bl);replace HI3:=J<|EB HI3.out bl.size;clear cs1 bl;generalize w3.alloc (Ec #[E I k,EJ A' n' c'] 264)=w4 at*;generalize w3.heap.size=gb at*;obtain⟨A7,c7,w7,hrun,hown,hgr,-,-⟩:=cU (P:=Ea) w4 hi hi 39 39 264 IR.out.choose _ 2 32 Tryz.underlying39 IR.out.choose_spec.1 IR.out.choose_spec.2.1 IR.out.choose_spec.2.2.1 IR.out.choose_spec.2.2.2 rfl A0 c0 ns sc.l OS.out ⟨gb,0,Z⟩ 1 1 [E I k,EJ A' n' c'] U (fun j Y3 hu=>by rw[show(⟨gb,0,Z⟩:Ev).add j=⟨gb,j,Z⟩ from Xo];rw[H.cell KB.out,J0];exact hu) cR (fun _=>D) Oy D HI3.out (E9 _);go_wp2_with ((with_reducible refine It 29 ?_);(refine Jq (Ei U) (UU U U U hrun) ?_);refine Ey.mk ?_);apply Et;have keep: ∀g2 c2 S2,S2≠264->H w4 g2 c2 S2->H w7 g2 c2 S2:=fun g2 c2 S2 hS k2=>XN hgr k2 hS;replace KS:=J<|keep _ _ _ Eb KS.out;replace OR:=J<|EQ OR.out fun g2 c2 h2=>keep _ _ _ Eb h2;replace CB:=J<|CB.out.via (fun k2 c2 S hS h2=>keep _ _ _ ZN h2) ((hgr.2.1 HI3.out).mono (by exact jQ.out.bL));replace MM:=J<|MM.out.trans (Ex.QS hgr Eb HI3.out);replace OS:=J hown;clear keep hgr hown hrun KB HI3;have cs1:w7.cell? ⟨gs,1,Z⟩=X (EJ A0 ns c0):=(H.cell KS.out 1).trans U;have ff:w7.frozen? ⟨gs,1,Z⟩=V:=H.I_ KS.out 1;go_wp2;go_end0;have kk:=EaO KS.out (EJ A7 (ns+1) c7);have S2:=jQ.out;refine⟨U,⟨CB.out.via (fun k2 c2 S hS h2=>h2.other gs 1 _ (cM h2 KS.out ZN)) (QV uo.out _),S2.hc,S2.hq,S2.ht,S2.bL,S2.his,EJ A7 (ns+1) c7,rv,⟨sc.l++[E I k,EJ A' n' c'],fun Y3 hu=>by rcases Xt.1 hu with hu|hu;(·exact sc.one Y3 hu);(·simp at hu;rcases hu with rfl|rfl<;>rfl)⟩,kk,EQ OS.out (fun g2 c2 h2=>h2.other gs 1 _ (cM h2 KS.out Eb)),EQ OR.out (fun g2 c2 h2=>h2.other gs 1 _ (cM h2 KS.out Eb))⟩,MM.out.trans (Ex.setCell KS.out Eb uo.out 1 _)⟩
theorem E4.Iy{hi:Nat}{g:Nat->G}(S:E4 lo hi g gc gq gt gs c ns rs w):w.cell? ⟨gs,0,Z⟩=X (Y (X ⟨gc,0,Z⟩)):=by obtain⟨sv,rv,sc,KS,-,-⟩:=S.dw;exact(H.cell KS 0).trans U
def coreC(p:List G)(c:EF)(gq gt:Nat)(k:Nat):Option (List G):=match k with
 |0=>X p
 |1=>X c.tok.v
 |2=>X [Y (X ⟨gq,0,Z⟩)]
 |6=>X [Y (X ⟨gt,0,Z⟩)]
 |7=>X [E I c.samples]
 |8=>X [E I c.beyond]
 |9=>X [E I c.mode]
 |10=>X c.En.v
 |11=>X c.pt.v
 |_=>Z
theorem I9.cell{g:Nat->G}(C:I9 lo g gc gq gt c w)(k:Nat){old:List G}(ho:coreC (EN 56 g).toList c gq gt k=X old)(j:Nat)(hj:j<old.length):w.cell? ⟨gc,jP k+j,Z⟩=old[j]?:=by
 obtain⟨d0,d1,d2,hd,KG,o0,o1,o2,-,-⟩:=C.El
 have hk:k<13:=by
  rcases JW k 13 with h|h;·exact h
  ·unfold coreC at ho;split at ho<;>first|omega|cases ho
 refine F_ KG o0 o1 o2 k hk ?_ j hj;unfold coreC at ho;split at ho<;>first|exact ho|cases ho
theorem GU(s:Int)(w:M):Eg Ea 70 #[E I s] w fun e w'=>e=Eh (EU (decide (1<=s/\s<=3)))/\w=w':=by
 by_cases h1:1<=s
 ·by_cases h2:s<=3;·rw[IE (⟨h1,h2⟩:1<=s/\s<=3)];have t1:decide (1<=s)=EI:=IE h1;have t2:decide (s<=3)=EI:=IE h2;go_enter Tryz.func70,Tryz.ntmps70;go_wp2;go_ret;exact⟨U,U⟩
  ·rw[Ia (D: ¬(1<=s/\s<=3))];have t1:decide (1<=s)=EI:=IE h1;have t2:decide (s<=3)=V:=Ia h2;go_enter Tryz.func70,Tryz.ntmps70;exact Ej7
 ·rw[Ia (D: ¬(1<=s/\s<=3))];have t1:decide (1<=s)=V:=Ia h1;go_enter Tryz.func70,Tryz.ntmps70;exact Ej7
theorem zM(lo hi:Nat)(g:Nat->G)(gc gq gt gs:Nat)(c:EF)(ns:Nat)(rs:List Rec)(l:List Int)(k:Int)(w:M)(S:E4 lo hi g gc gq gt gs c ns rs w)(hl:cL l)(hn:ns<1000000): Eg Ea 141 #[Y (X ⟨gs,0,Z⟩),E I k,EZ (I7 l)] w fun e w'=>e=Eh (Es #[])/\(∃m,m<=1/\E4 lo hi g gc gq gt gs c (ns+m) rs w')/\Ex lo hi w w':=by
 have jQ:=J S;have TL:=J<|fun W (s:E4 lo hi g gc gq gt gs c ns rs W)=>ur lo hi g gc gq gt gs c ns rs l k W s hl hn;have hsz:Ed ((I7 l).size=14):=J<|oO l;have hone:=J<|FM l;clear hl S;obtain⟨mv,hmv⟩:=Eo (I7 l);rw[<-hmv] at hsz hone TL⊢;clear hmv;go_enter Tryz.func141,Tryz.ntmps141;go_wp2_with fail;have KM:=J<|H.new w mv 222;have b1:=Er w (Ec mv 222);have S1:=J<|jQ.out.u b1;have MM:=J<|Ex.EC (lo:=lo) (hi:=hi) b1;clear b1;generalize w.alloc (Ec mv 222)=w1 at*;generalize w.heap.size=gm at*;have c0:=S1.out.Iy;have c95:w1.cell? ⟨gc,95,Z⟩=X (Y (X ⟨gt,0,Z⟩)):=S1.out.core.cell 6 rfl 0 Ej;refine(GU k _).mono ?_;rintro e w2 ⟨rfl,rfl⟩;cases hlk:decide (1<=k/\k<=3) with
 |false=> go_wp2;go_end0;exact⟨U,⟨0,D,S1.out⟩,MM.out⟩
 |true=>
  go_wp2_with fail;refine(lC gt c.T k _ S1.out.core.tab S1.out.core.ok.T).mono ?_;rintro e w2 ⟨rfl,rfl⟩;cases hon:c.T.Zf k with
  |false=> go_wp2;go_end0;exact⟨U,⟨0,D,S1.out⟩,MM.out⟩
  |true=> go_wp2_with (with_reducible refine wL za KM ?_ (hn:=hsz.out));refine(TL.out _ S1.out).mono ?_;rintro e w2 ⟨rfl,S2,M2⟩;go_wp2;go_end0;exact⟨U,⟨1,D,S2⟩,MM.out.trans M2⟩
theorem oD(a b c d e f:Int):cL [a,b,c,d,e,f,0,0,0,0,0,0,0,0]:=by exact Ell
theorem iG(lo hi:Nat)(g:Nat->G)(gc gq gt gs:Nat)(c:EF)(ns:Nat)(rs:List Rec)(k n:Int)(w:M)(S:E4 lo hi g gc gq gt gs c ns rs w)(hn:ns<1000000): Eg Ea 175 #[Y (X ⟨gs,0,Z⟩),E I k,E I n] w fun e w'=>e=Eh (Es #[])/\E4 lo hi g gc gq gt gs c (ns+1) rs w'/\Ex lo hi w w':=by have BR:Tryz.prog.built 222 [(0,E I 131),(1,E I n)]=X (I7 [131,n,0,0,0,0,0,0,0,0,0,0,0,0]):=Ef;have TL:=J<|fun W (s:E4 lo hi g gc gq gt gs c ns rs W)=>ur lo hi g gc gq gt gs c ns rs [131,n,0,0,0,0,0,0,0,0,0,0,0,0] k W s (oD _ _ _ _ _ _) hn;have S:=J S;generalize I7 [131,n,0,0,0,0,0,0,0,0,0,0,0,0]=rv at*;go_enter Tryz.func175,Tryz.ntmps175;go_wp2_with ((with_reducible refine It 9 ?_);refine JO U 222 _ U rv BR ?_);refine(TL.out _ S.out).mono ?_;exact Emb
theorem oF(lo hi:Nat)(g:Nat->G)(gc gq gt gs:Nat)(c:EF)(ns:Nat)(rs:List Rec)(k who cd:Int)(w:M)(S:E4 lo hi g gc gq gt gs c ns rs w)(hn:ns<1000000): Eg Ea 99 #[Y (X ⟨gs,0,Z⟩),E I k,E I who,E I cd] w fun e w'=>e=Eh (Es #[])/\(∃m,m<=1/\E4 lo hi g gc gq gt gs c (ns+m) rs w')/\Ex lo hi w w':=by have BR:Tryz.prog.built 222 [(0,E I 136),(3,E I who),(5,E I cd)]=X (I7 [136,0,0,who,0,cd,0,0,0,0,0,0,0,0]):=Ef;have TL:=J<|fun W (s:E4 lo hi g gc gq gt gs c ns rs W)=>zM lo hi g gc gq gt gs c ns rs [136,0,0,who,0,cd,0,0,0,0,0,0,0,0] k W s (oD _ _ _ _ _ _) hn;have S:=J S;generalize I7 [136,0,0,who,0,cd,0,0,0,0,0,0,0,0]=rv at*;go_enter Tryz.func99,Tryz.ntmps99;go_wp2_with ((with_reducible refine It 12 ?_);refine JO U 222 _ U rv BR ?_);refine(TL.out _ S.out).mono ?_;exact Emb
theorem rZ(lo hi:Nat)(g:Nat->G)(gc gq gt gs:Nat)(c:EF)(ns:Nat)(rs:List Rec)(k cd:Int)(w:M)(S:E4 lo hi g gc gq gt gs c ns rs w)(hl:rs.length<1000000): Eg Ea 84 #[Y (X ⟨gs,0,Z⟩),E I k,E I cd] w fun e w'=>e=Eh (Es #[])/\E4 lo hi g gc gq gt gs c ns (rs++[⟨1,k,0,c.tok.e,cd,0⟩]) w'/\Ex lo hi w w':=by have S:=J S;go_enter Tryz.func84,Tryz.ntmps84;go_wp2_with fail;refine(Zl lo hi g gc gq gt gs c ns rs 1 k 0 cd 0 _ S.out hl).mono ?_;exact Emb
theorem gu(lo hi:Nat)(g:Nat->G)(gc gq gt gs:Nat)(c:EF)(ns:Nat)(rs:List Rec)(k n cd:Int)(w:M)(S:E4 lo hi g gc gq gt gs c ns rs w)(hn:ns<1000000)(hl:rs.length<1000000): Eg Ea 120 #[Y (X ⟨gs,0,Z⟩),E I k,E I n,E I cd] w fun e w'=>e=Eh (Es #[])/\E4 lo hi g gc gq gt gs c (ns+1) (rs++[⟨7,k,n,c.tok.e,cd,0⟩]) w'/\Ex lo hi w w':=by have BR:Tryz.prog.built 222 [(0,E I 132),(1,E I n),(5,E I cd)]=X (I7 [132,n,0,0,0,cd,0,0,0,0,0,0,0,0]):=Ef;have TL:=J<|fun W (s:E4 lo hi g gc gq gt gs c ns rs W)=>ur lo hi g gc gq gt gs c ns rs [132,n,0,0,0,cd,0,0,0,0,0,0,0,0] k W s (oD _ _ _ _ _ _) hn;have S:=J S;generalize I7 [132,n,0,0,0,cd,0,0,0,0,0,0,0,0]=rv at*;go_enter Tryz.func120,Tryz.ntmps120;go_wp2_with ((with_reducible refine It 12 ?_);refine JO U 222 _ U rv BR ?_);refine(TL.out _ S.out).mono ?_;rintro e w2 ⟨rfl,S2,M2⟩;go_wp2_with fail;refine(Zl lo hi g gc gq gt gs c (ns+1) rs 7 k n cd 0 _ S2 hl).mono ?_;rintro e w3 ⟨rfl,S3,M3⟩;go_wp2;go_end0;exact⟨U,S3,M2.trans M3⟩
theorem EaF(gq:Nat)(W:M):Ul Ea (XM 460 236 (Y (X ⟨gq,0,Z⟩)) "Len") W=Ul Ea (do let v<-load ⟨gq,0,Z⟩;pure (272,v)) W:=Ef
theorem jR(gq:Nat)(v:G)(W:M)(h:W.cell? ⟨gq,0,Z⟩=X v):Ul Ea (XM 460 236 (Y (X ⟨gq,0,Z⟩)) "Len") W= .ok (272,v) W:=by rw[EaF];simp[go_sem,h]
theorem EaG(gq:Nat)(W:M):Ul Ea (XM 460 236 (Y (X ⟨gq,0,Z⟩)) "Less") W=Ul Ea (do let v<-load ⟨gq,0,Z⟩;pure (273,v)) W:=Ef
theorem zN(gq:Nat)(v:G)(W:M)(h:W.cell? ⟨gq,0,Z⟩=X v):Ul Ea (XM 460 236 (Y (X ⟨gq,0,Z⟩)) "Less") W= .ok (273,v) W:=by rw[EaG];simp[go_sem,h]
theorem EaH(gq:Nat)(W:M):Ul Ea (XM 460 236 (Y (X ⟨gq,0,Z⟩)) "Swap") W=Ul Ea (do let v<-load ⟨gq,0,Z⟩;pure (274,v)) W:=Ef
theorem oG(gq:Nat)(v:G)(W:M)(h:W.cell? ⟨gq,0,Z⟩=X v):Ul Ea (XM 460 236 (Y (X ⟨gq,0,Z⟩)) "Swap") W= .ok (274,v) W:=by rw[EaH];simp[go_sem,h]
theorem E3.cell(h:E3 g w w')(hne:g2≠g)(hl:g2<w.heap.size)(i:Nat):w'.cell? ⟨g2,i,Z⟩=w.cell? ⟨g2,i,Z⟩:=by unfold iA;rw[h.keep g2 hne hl]
theorem rd{i:Nat}{v:G}(h:w.cell? ⟨g,i,Z⟩=X v):g<w.heap.size:=by
 rcases JW g w.heap.size with k|k;·exact k
 ·unfold iA at h;rw[fD k] at h;cases h
theorem EaK(gq g cap:Nat)(a:One)(rest:List G)(w:M)(HC:w.cell? ⟨gq,0,Z⟩=X (EJ (X ⟨g,0,Z⟩) 1 cap))(K:Ln w g [a] rest)(hne:gq≠g): Eg Ea 188 #[.iface 236 (Y (X ⟨gq,0,Z⟩)),E I 0] w fun e w'=>e=Eh (Es #[])/\(∃L',L'.Perm [a]/\Ln w' g L' rest)/\E3 g w w':=by exact EkB
theorem EaL(gq g cap:Nat)(a b:One)(rest:List G)(w:M)(HC:w.cell? ⟨gq,0,Z⟩=X (EJ (X ⟨g,0,Z⟩) 2 cap))(K:Ln w g [a,b] rest)(hne:gq≠g): Eg Ea 188 #[.iface 236 (Y (X ⟨gq,0,Z⟩)),E I 0] w fun e w'=>e=Eh (Es #[])/\(∃L',L'.Perm [a,b]/\Ln w' g L' rest)/\E3 g w w':=by exact EkB
theorem EaM(gq g cap:Nat)(a b d:One)(rest:List G)(w:M)(HC:w.cell? ⟨gq,0,Z⟩=X (EJ (X ⟨g,0,Z⟩) 3 cap))(K:Ln w g [a,b,d] rest)(hne:gq≠g): Eg Ea 188 #[.iface 236 (Y (X ⟨gq,0,Z⟩)),E I 0] w fun e w'=>e=Eh (Es #[])/\(∃L',L'.Perm [a,b,d]/\Ln w' g L' rest)/\E3 g w w':=by exact EkB
theorem EaN(gq g cap:Nat)(a b:One)(rest:List G)(w:M)(HC:w.cell? ⟨gq,0,Z⟩=X (EJ (X ⟨g,0,Z⟩) 2 cap))(K:Ln w g [a,b] rest)(hne:gq≠g): Eg Ea 188 #[.iface 236 (Y (X ⟨gq,0,Z⟩)),E I 1] w fun e w'=>e=Eh (Es #[])/\(∃L',L'.Perm [a,b]/\Ln w' g L' rest)/\E3 g w w':=by
 have K:=J K;have HC:=J HC;have Jg:=J hne;clear hne;have GX: ∀(args:Array G) (W:M),(Ji 273 args).run Ea W= .ok (.enter 273 args) W:=fun _ _=>Ef;have jS: ∀(args:Array G) (W:M),(Ji 274 args).run Ea W= .ok (.enter 274 args) W:=fun _ _=>Ef;have oH:=zN gq _ w HC.out;have C1:Eg Ea 273 #[EJ (X ⟨g,0,Z⟩) 2 cap,E I 1,E I 0] w _:=iZ g [a,b] rest 2 cap 1 0 b a U U U w K.out;replace C1:=J C1;go_enter Tryz.func188,Tryz.ntmps188;go_wp2_with fail;refine OJ 2 ?_;rw[Ib];go_wp2_with fail;refine C1.out.mono ?_;rintro e w1 ⟨rfl,b1⟩;replace K:Ed (Ln w1 g [a,b] rest):=EP K b1;have ON:=J<|E3.EC (g:=g) b1;have lq:=rd HC.out;replace HC:Ed (w1.cell? ⟨gq,0,Z⟩=_):=J<|(ON.out.cell Jg.out lq 0).trans HC.out;clear b1 lq C1 oH;cases l1:less b a with
 |false=> go_wp2;go_end0;exact⟨U,⟨_,aN _,K.out⟩,ON.out⟩
 |true=> have dz:=oG gq _ w1 HC.out;have C2:Eg Ea 274 #[EJ (X ⟨g,0,Z⟩) 2 cap,E I 0,E I 1] w1 _:=di g [a,b] rest 2 cap 0 1 a b U U U w1 K.out;replace C2:=J C2;clear l1;go_wp2_with fail;refine C2.out.mono ?_;rintro e w2 ⟨rfl,k2,o2⟩;replace K:Ed (Ln w2 g [b,a] rest):=J k2;replace ON:=J<|ON.out.trans o2;clear C2 dz k2 o2;go_wp2_with fail;rw[Ib];go_wp2;go_end0;exact⟨U,⟨_,aP _ _ _,K.out⟩,ON.out⟩
theorem EaP(gq g cap:Nat)(a b d:One)(rest:List G)(w:M)(HC:w.cell? ⟨gq,0,Z⟩=X (EJ (X ⟨g,0,Z⟩) 3 cap))(K:Ln w g [a,b,d] rest)(hne:gq≠g): Eg Ea 188 #[.iface 236 (Y (X ⟨gq,0,Z⟩)),E I 1] w fun e w'=>e=Eh (Es #[])/\(∃L',L'.Perm [a,b,d]/\Ln w' g L' rest)/\E3 g w w':=by
 have K:=J K;have HC:=J HC;have Jg:=J hne;clear hne;have GX: ∀(args:Array G) (W:M),(Ji 273 args).run Ea W= .ok (.enter 273 args) W:=fun _ _=>Ef;have jS: ∀(args:Array G) (W:M),(Ji 274 args).run Ea W= .ok (.enter 274 args) W:=fun _ _=>Ef;have oH:=zN gq _ w HC.out;have C1:Eg Ea 273 #[EJ (X ⟨g,0,Z⟩) 3 cap,E I 1,E I 0] w _:=iZ g [a,b,d] rest 3 cap 1 0 b a U U U w K.out;replace C1:=J C1;go_enter Tryz.func188,Tryz.ntmps188;go_wp2_with fail;refine OJ 2 ?_;rw[Ib];go_wp2_with fail;refine C1.out.mono ?_;rintro e w1 ⟨rfl,b1⟩;replace K:Ed (Ln w1 g [a,b,d] rest):=EP K b1;have ON:=J<|E3.EC (g:=g) b1;have lq:=rd HC.out;replace HC:Ed (w1.cell? ⟨gq,0,Z⟩=_):=J<|(ON.out.cell Jg.out lq 0).trans HC.out;clear b1 lq C1 oH;cases l1:less b a with
 |false=> go_wp2;go_end0;exact⟨U,⟨_,aN _,K.out⟩,ON.out⟩
 |true=> have dz:=oG gq _ w1 HC.out;have C2:Eg Ea 274 #[EJ (X ⟨g,0,Z⟩) 3 cap,E I 0,E I 1] w1 _:=di g [a,b,d] rest 3 cap 0 1 a b U U U w1 K.out;replace C2:=J C2;clear l1;go_wp2_with fail;refine C2.out.mono ?_;rintro e w2 ⟨rfl,k2,o2⟩;replace K:Ed (Ln w2 g [b,a,d] rest):=J k2;replace ON:=J<|ON.out.trans o2;clear C2 dz k2 o2;go_wp2_with fail;rw[Ib];go_wp2;go_end0;exact⟨U,⟨_,aP _ _ _,K.out⟩,ON.out⟩
theorem EaQ(gq g cap:Nat)(a b d:One)(rest:List G)(w:M)(HC:w.cell? ⟨gq,0,Z⟩=X (EJ (X ⟨g,0,Z⟩) 3 cap))(K:Ln w g [a,b,d] rest)(hne:gq≠g): Eg Ea 188 #[.iface 236 (Y (X ⟨gq,0,Z⟩)),E I 2] w fun e w'=>e=Eh (Es #[])/\(∃L',L'.Perm [a,b,d]/\Ln w' g L' rest)/\E3 g w w':=by
 have K:=J K;have HC:=J HC;have Jg:=J hne;clear hne;have GX: ∀(args:Array G) (W:M),(Ji 273 args).run Ea W= .ok (.enter 273 args) W:=fun _ _=>Ef;have jS: ∀(args:Array G) (W:M),(Ji 274 args).run Ea W= .ok (.enter 274 args) W:=fun _ _=>Ef;have oH:=zN gq _ w HC.out;have C1:Eg Ea 273 #[EJ (X ⟨g,0,Z⟩) 3 cap,E I 2,E I 0] w _:=iZ g [a,b,d] rest 3 cap 2 0 d a U U U w K.out;replace C1:=J C1;go_enter Tryz.func188,Tryz.ntmps188;go_wp2_with fail;refine OJ 2 ?_;rw[Ib];go_wp2_with fail;refine C1.out.mono ?_;rintro e w1 ⟨rfl,b1⟩;replace K:Ed (Ln w1 g [a,b,d] rest):=EP K b1;have ON:=J<|E3.EC (g:=g) b1;have lq:=rd HC.out;replace HC:Ed (w1.cell? ⟨gq,0,Z⟩=_):=J<|(ON.out.cell Jg.out lq 0).trans HC.out;clear b1 lq C1 oH;cases l1:less d a with
 |false=> go_wp2;go_end0;exact⟨U,⟨_,aN _,K.out⟩,ON.out⟩
 |true=> have dz:=oG gq _ w1 HC.out;have C2:Eg Ea 274 #[EJ (X ⟨g,0,Z⟩) 3 cap,E I 0,E I 2] w1 _:=di g [a,b,d] rest 3 cap 0 2 a d U U U w1 K.out;replace C2:=J C2;clear l1;go_wp2_with fail;refine C2.out.mono ?_;rintro e w2 ⟨rfl,k2,o2⟩;replace K:Ed (Ln w2 g [d,b,a] rest):=J k2;replace ON:=J<|ON.out.trans o2;clear C2 dz k2 o2;go_wp2_with fail;rw[Ib];go_wp2;go_end0;exact⟨U,⟨_,(List.Perm.trans (aP b d [a]) (List.Perm.trans (us b (aP a d [])) (aP a b [d]))),K.out⟩,ON.out⟩
theorem EaR(gq g cap:Nat)(a b:One)(rest:List G)(w:M)(HC:w.cell? ⟨gq,0,Z⟩=X (EJ (X ⟨g,0,Z⟩) 2 cap))(K:Ln w g [a,b] rest)(hne:gq≠g): Eg Ea 187 #[.iface 236 (Y (X ⟨gq,0,Z⟩)),E I 0,E I 1] w fun e w'=>(∃b,e=Eh (EU b))/\(∃L',L'.Perm [a,b]/\Ln w' g L' rest)/\E3 g w w':=by exact Eln
theorem EaS(gq g cap:Nat)(a b d:One)(rest:List G)(w:M)(HC:w.cell? ⟨gq,0,Z⟩=X (EJ (X ⟨g,0,Z⟩) 3 cap))(K:Ln w g [a,b,d] rest)(hne:gq≠g): Eg Ea 187 #[.iface 236 (Y (X ⟨gq,0,Z⟩)),E I 0,E I 2] w fun e w'=>(∃b,e=Eh (EU b))/\(∃L',L'.Perm [a,b,d]/\Ln w' g L' rest)/\E3 g w w':=by
 have K:=J K;have HC:=J HC;have Jg:=J hne;clear hne;have GX: ∀(args:Array G) (W:M),(Ji 273 args).run Ea W= .ok (.enter 273 args) W:=fun _ _=>Ef;have jS: ∀(args:Array G) (W:M),(Ji 274 args).run Ea W= .ok (.enter 274 args) W:=fun _ _=>Ef;have oH:=zN gq _ w HC.out;have C1:Eg Ea 273 #[EJ (X ⟨g,0,Z⟩) 3 cap,E I 1,E I 0] w _:=iZ g [a,b,d] rest 3 cap 1 0 b a U U U w K.out;replace C1:=J C1;go_enter Tryz.func187,Tryz.ntmps187;go_wp2_with fail;refine OJ 2 ?_;rw[Ib];go_wp2_with fail;refine C1.out.mono ?_;rintro e w1 ⟨rfl,b1⟩;replace K:Ed (Ln w1 g [a,b,d] rest):=EP K b1;have ON:=J<|E3.EC (g:=g) b1;have lq:=rd HC.out;replace HC:Ed (w1.cell? ⟨gq,0,Z⟩=_):=J<|(ON.out.cell Jg.out lq 0).trans HC.out;clear b1 lq C1 oH;cases l1:less b a with
 |false=> go_wp2;go_ret;exact⟨⟨_,U⟩,⟨_,aN _,K.out⟩,ON.out⟩
 |true=> have dz:=oG gq _ w1 HC.out;have C2:Eg Ea 274 #[EJ (X ⟨g,0,Z⟩) 3 cap,E I 0,E I 1] w1 _:=di g [a,b,d] rest 3 cap 0 1 a b U U U w1 K.out;replace C2:=J C2;clear l1;go_wp2_with fail;refine C2.out.mono ?_;rintro e w2 ⟨rfl,k2,o2⟩;replace K:Ed (Ln w2 g [b,a,d] rest):=J k2;replace ON:=J<|ON.out.trans o2;clear C2 dz k2 o2;go_wp2_with fail;rw[Ib];go_wp2;go_ret;exact⟨⟨_,U⟩,⟨_,aP _ _ _,K.out⟩,ON.out⟩
theorem EaT(gq g cap:Nat)(a b d:One)(rest:List G)(w:M)(HC:w.cell? ⟨gq,0,Z⟩=X (EJ (X ⟨g,0,Z⟩) 3 cap))(K:Ln w g [a,b,d] rest)(hne:gq≠g): Eg Ea 187 #[.iface 236 (Y (X ⟨gq,0,Z⟩)),E I 1,E I 2] w fun e w'=>(∃b,e=Eh (EU b))/\(∃L',L'.Perm [a,b,d]/\Ln w' g L' rest)/\E3 g w w':=by exact Eln
theorem jT(gq g n cap:Nat)(L:List One)(rest:List G)(x:One)(hx:L[n]?=X x)(m k:G)(w:M)(KQ:H w gq #[EJ (X ⟨g,0,Z⟩) (n+1) cap,m,k] 152)(K:Ln w g L rest)(hc:n+1<=cap)(hcm:cap<=9223372036854775807): Eg Ea 275 #[Y (X ⟨gq,0,Z⟩)] w fun e w'=>e=Eh (.iface 171 (EZ x.v.toArray))/\H w' gq #[EJ (X ⟨g,0,Z⟩) n cap,m,k] 152/\E3 gq w w':=by have cq:w.cell? ⟨gq,0,Z⟩=X (EJ (X ⟨g,0,Z⟩) (n+1) cap):=(H.cell KQ 0).trans U;have EX:=J<|Ln.ext (rest:=rest) n hx;have KK:Ed (H w g (IB L++rest).toArray 171):=J K;have KQ:=J KQ;have hsz:Ed (x.v.toArray.size=5):=J U;have hon:=J<|One.one x;clear K hx;generalize x.v.toArray=xv at*;go_enter Tryz.func275,Tryz.ntmps275;go_wp2_with (with_reducible first|refine wM (off:=n*5) (cs:=xv) bj KK ?_ (hn:=hsz.out) (he:=EX.out)|refine dc 171 ?_);apply Et;generalize hW:XX _ _=w1 at*;have KN:Ed (H w1 (w.heap.size) #[E I 0,E I 0,E I 0,E I 0,E Il 0] 171):=J (by subst hW;repeat (first|exact H.new _ _ _|exact H.new' _ _ _ Ej|refine H.alloc ?_ _));have b1:Ed (Ek w w1):=J GZ;clear hW;go_wp2_with (with_reducible refine wS (cs:=xv) bj KN (Ey.mk ?_) (hn:=hsz.out) (h1:=hon.out));apply Et;replace KN:=J<|KN.out.setRow xv;replace b1:=J<|E6 (g:=w.heap.size) b1.out (E9 _) xv;generalize w1.setRow w.heap.size xv=w2 at*;replace KQ:=J<|KQ.out.u b1.out;have lq:=J<|H.lt KQ.out;clear cq;have cq:w2.cell? ⟨gq,0,Z⟩=X (EJ (X ⟨g,0,Z⟩) (n+1) cap):=(H.cell KQ.out 0).trans U;have ff:w2.frozen? ⟨gq,0,Z⟩=V:=H.I_ KQ.out 0;have ON:=J<|(E3.EC (g:=gq) b1.out).trans (JS 0 (EJ (X ⟨g,0,Z⟩) n cap));have KS:=J<|KQ.out.set 0 (EJ (X ⟨g,0,Z⟩) n cap);have KM:=J<|KN.out.other gq 0 (EJ (X ⟨g,0,Z⟩) n cap) (E7 KN.out KQ.out Eb);go_wp2_with (with_reducible refine wL bj KM ?_ (hn:=hsz.out));go_ret;exact⟨U,KS.out,ON.out⟩
structure Jb(g h:Nat)(W w':M):Prop where
 size:W.heap.size<=w'.heap.size
 keep: ∀k,k≠g->k≠h->k<W.heap.size->w'.heap[k]?=W.heap[k]?
 bel: ∀lo,lo<=g->lo<=h->lo<=W.heap.size->Ir lo W w'
theorem Jb.ZP(k:E3 g W w'):Jb g h W w':=⟨k.size,fun i h1 _ h3=>k.keep i h1 h3,fun lo h1 _ h3=>k.bel lo h1 h3⟩
theorem Jb.jV(k:E3 h W w'):Jb g h W w':=⟨k.size,fun i _ h2 h3=>k.keep i h2 h3,fun lo _ h2 h3=>k.bel lo h2 h3⟩
theorem Jb.trans{b c:M}(k:Jb g h a b)(l:Jb g h b c):Jb g h a c:=
 ⟨EB k.size l.size,fun i h1 h2 h3=>(l.keep i h1 h2 (Nat.lt_of_lt_of_le h3 k.size)).trans (k.keep i h1 h2 h3),fun lo h1 h2 h3=>(k.bel lo h1 h2 h3).trans (l.bel lo h1 h2 (EB h3 k.size))⟩
theorem Ln.cut(K:Ln W g (L++[x]) rest):Ln W g L (x.v++rest):=by unfold Ln at*;rw[show IB L++(x.v++rest)=IB (L++[x])++rest by simp[IB]];exact K
theorem jW{n:Nat}(h:L'.Perm L)(hn:L.length=n+1): ∃Zm x,L'=Zm++[x]/\Zm.length=n/\L'[n]?=X x:=by
 have hl:L'.length=n+1:=by rw[h.length_eq,hn]
 refine⟨L'.take n,L'[n]' D,?_,Jm,JY _⟩;rw[List.take_append_getElem,OV D]
theorem EaV(gq g cap:Nat)(a:One)(rest:List G)(m k:G)(w:M)(KQ:H w gq #[EJ (X ⟨g,0,Z⟩) 1 cap,m,k] 152)(K:Ln w g [a] rest)(hc:1<=cap)(hcm:cap<=9223372036854775807): Eg Ea 143 #[.iface 236 (Y (X ⟨gq,0,Z⟩)),E I 0] w fun e w'=>(∃v,e=Eh v)/\(∃L' x,(L'++[x]).Perm [a]/\L'.length=0/\Ln w' g L' (x.v++rest)/\H w' gq #[EJ (X ⟨g,0,Z⟩) 0 cap,m,k] 152)/\Jb g gq w w':=by have Jg:=J<|E7 KQ K Eb;have K:=J K;have KQ:=J KQ;have HC:Ed (w.cell? ⟨gq,0,Z⟩=X (EJ (X ⟨g,0,Z⟩) 1 cap)):=J<|(H.cell KQ.out 0).trans U;have TT:Ed (Jb g gq w w):=J<|Jb.ZP (E3.refl g w);have aa:=jR gq _ w HC.out;have mJ: ∀(args:Array G) (W:M),(Ji 272 args).run Ea W= .ok (.enter 272 args) W:=fun _ _=>Ef;have jS: ∀(args:Array G) (W:M),(Ji 274 args).run Ea W= .ok (.enter 274 args) W:=fun _ _=>Ef;have ut: ∀(args:Array G) (W:M),(Ji 275 args).run Ea W= .ok (.enter 275 args) W:=fun _ _=>Ef;have uu: ∀W,Ul Ea (XM 460 236 (Y (X ⟨gq,0,Z⟩)) "Pop") W= .ok (275,Y (X ⟨gq,0,Z⟩)) W:=fun _=>Ef;go_enter Tryz.func143,Tryz.ntmps143;go_wp2_with fail;refine(dh _ 1 cap _).mono ?_;rintro e w0 ⟨rfl,rfl⟩;rw[show((1:Nat):Int)=1 from rfl];clear aa;obtain⟨L3,hp3,k3⟩: ∃L3:List One,L3.Perm [a]/\Ln w g L3 rest:=⟨_,aN _,K.out⟩;have HP:=J hp3;replace K:=J k3;clear hp3 k3;obtain⟨Zm,x,rfl,hl2,hx⟩:=jW (n:=0) HP.out U;have CP:=J<|jT gq g 0 cap _ rest x hx m k _ KQ.out K.out D hcm;exact Ekp
theorem EaW(gq g cap:Nat)(a b:One)(rest:List G)(m k:G)(w:M)(KQ:H w gq #[EJ (X ⟨g,0,Z⟩) 2 cap,m,k] 152)(K:Ln w g [a,b] rest)(hc:2<=cap)(hcm:cap<=9223372036854775807): Eg Ea 143 #[.iface 236 (Y (X ⟨gq,0,Z⟩)),E I 0] w fun e w'=>(∃v,e=Eh v)/\(∃L' x,(L'++[x]).Perm [a,b]/\L'.length=1/\Ln w' g L' (x.v++rest)/\H w' gq #[EJ (X ⟨g,0,Z⟩) 1 cap,m,k] 152)/\Jb g gq w w':=by
 have Jg:=J<|E7 KQ K Eb;have K:=J K;have KQ:=J KQ;have HC:Ed (w.cell? ⟨gq,0,Z⟩=X (EJ (X ⟨g,0,Z⟩) 2 cap)):=J<|(H.cell KQ.out 0).trans U;have TT:Ed (Jb g gq w w):=J<|Jb.ZP (E3.refl g w);have aa:=jR gq _ w HC.out;have mJ: ∀(args:Array G) (W:M),(Ji 272 args).run Ea W= .ok (.enter 272 args) W:=fun _ _=>Ef;have jS: ∀(args:Array G) (W:M),(Ji 274 args).run Ea W= .ok (.enter 274 args) W:=fun _ _=>Ef;have ut: ∀(args:Array G) (W:M),(Ji 275 args).run Ea W= .ok (.enter 275 args) W:=fun _ _=>Ef;have uu: ∀W,Ul Ea (XM 460 236 (Y (X ⟨gq,0,Z⟩)) "Pop") W= .ok (275,Y (X ⟨gq,0,Z⟩)) W:=fun _=>Ef;go_enter Tryz.func143,Tryz.ntmps143;go_wp2_with fail;refine(dh _ 2 cap _).mono ?_;rintro e w0 ⟨rfl,rfl⟩;rw[show((2:Nat):Int)=2 from rfl];clear aa;have dz:=oG gq _ w HC.out;have C2:Eg Ea 274 #[EJ (X ⟨g,0,Z⟩) 2 cap,E I 0,E I 1] w _:=di g [a,b] rest 2 cap 0 1 a b U U U w K.out;replace C2:=J C2;go_wp2_with fail;refine C2.out.mono ?_;rintro e w2 ⟨rfl,k2,o2⟩;replace K:Ed (Ln w2 g [b,a] rest):=J k2;replace TT:=J<|TT.out.trans (Jb.ZP o2);replace KQ:=J<|o2.El KQ.out Jg.out;clear dz C2 HC k2 o2;have HC:Ed (w2.cell? ⟨gq,0,Z⟩=X (EJ (X ⟨g,0,Z⟩) 2 cap)):=J<|(H.cell KQ.out 0).trans U;have HP:Ed (iH [b,a] [a,b]):=J<|aP _ _ _;go_wp2_with fail;refine(EaR gq g cap b a rest _ HC.out K.out Jg.out).mono ?_;rintro e w3 ⟨⟨b3,rfl⟩,⟨L3,hp3,k3⟩,o3⟩;replace K:=J k3;replace HP:=J<|hp3.trans HP.out;replace TT:=J<|TT.out.trans (Jb.ZP o3);replace KQ:=J<|o3.El KQ.out Jg.out;clear HC k3 hp3 o3;cases b3 with
 |true=> obtain⟨Zm,x,rfl,hl2,hx⟩:=jW (n:=1) HP.out U;have CP:=J<|jT gq g 1 cap _ rest x hx m k _ KQ.out K.out D hcm;have HL2:=J hl2;clear hl2 hx;go_wp2_with fail;refine CP.out.mono ?_;rintro e w9 ⟨rfl,ab,o9⟩;replace TT:=J<|TT.out.trans (Jb.jV o9);replace K:=J<|o9.El K.out Jg.out.symm;go_wp2;go_ret;exact⟨⟨_,U⟩,⟨Zm,x,HP.out,HL2.out,Ln.cut K.out,ab⟩,TT.out⟩
 |false=>
  have HC:Ed (w3.cell? ⟨gq,0,Z⟩=X (EJ (X ⟨g,0,Z⟩) 2 cap)):=J<|(H.cell KQ.out 0).trans U;have hl3:L3.length=2:=HP.out.length_eq;match L3,hl3,K,HP with
  |[a,b],_,K,HP=> go_wp2_with fail;refine(EaL gq g cap a b rest _ HC.out K.out Jg.out).mono ?_;rintro e w4 ⟨rfl,⟨L4,Zn,k4⟩,o4⟩;replace K:=J k4;replace HP:=J<|Zn.trans HP.out;replace TT:=J<|TT.out.trans (Jb.ZP o4);replace KQ:=J<|o4.El KQ.out Jg.out;clear HC k4 Zn o4;obtain⟨Zm,x,rfl,hl2,hx⟩:=jW (n:=1) HP.out U;have CP:=J<|jT gq g 1 cap _ rest x hx m k _ KQ.out K.out D hcm;have HL2:=J hl2;clear hl2 hx;go_wp2_with fail;refine CP.out.mono ?_;rintro e w9 ⟨rfl,ab,o9⟩;replace TT:=J<|TT.out.trans (Jb.jV o9);replace K:=J<|o9.El K.out Jg.out.symm;go_wp2;go_ret;exact⟨⟨_,U⟩,⟨Zm,x,HP.out,HL2.out,Ln.cut K.out,ab⟩,TT.out⟩
theorem EaY(gq g cap:Nat)(a b:One)(rest:List G)(m k:G)(w:M)(KQ:H w gq #[EJ (X ⟨g,0,Z⟩) 2 cap,m,k] 152)(K:Ln w g [a,b] rest)(hc:2<=cap)(hcm:cap<=9223372036854775807): Eg Ea 143 #[.iface 236 (Y (X ⟨gq,0,Z⟩)),E I 1] w fun e w'=>(∃v,e=Eh v)/\(∃L' x,(L'++[x]).Perm [a,b]/\L'.length=1/\Ln w' g L' (x.v++rest)/\H w' gq #[EJ (X ⟨g,0,Z⟩) 1 cap,m,k] 152)/\Jb g gq w w':=by have Jg:=J<|E7 KQ K Eb;have K:=J K;have KQ:=J KQ;have HC:Ed (w.cell? ⟨gq,0,Z⟩=X (EJ (X ⟨g,0,Z⟩) 2 cap)):=J<|(H.cell KQ.out 0).trans U;have TT:Ed (Jb g gq w w):=J<|Jb.ZP (E3.refl g w);have aa:=jR gq _ w HC.out;have mJ: ∀(args:Array G) (W:M),(Ji 272 args).run Ea W= .ok (.enter 272 args) W:=fun _ _=>Ef;have jS: ∀(args:Array G) (W:M),(Ji 274 args).run Ea W= .ok (.enter 274 args) W:=fun _ _=>Ef;have ut: ∀(args:Array G) (W:M),(Ji 275 args).run Ea W= .ok (.enter 275 args) W:=fun _ _=>Ef;have uu: ∀W,Ul Ea (XM 460 236 (Y (X ⟨gq,0,Z⟩)) "Pop") W= .ok (275,Y (X ⟨gq,0,Z⟩)) W:=fun _=>Ef;go_enter Tryz.func143,Tryz.ntmps143;go_wp2_with fail;refine(dh _ 2 cap _).mono ?_;rintro e w0 ⟨rfl,rfl⟩;rw[show((2:Nat):Int)=2 from rfl];clear aa;obtain⟨L3,hp3,k3⟩: ∃L3:List One,L3.Perm [a,b]/\Ln w g L3 rest:=⟨_,aN _,K.out⟩;have HP:=J hp3;replace K:=J k3;clear hp3 k3;obtain⟨Zm,x,rfl,hl2,hx⟩:=jW (n:=1) HP.out U;have CP:=J<|jT gq g 1 cap _ rest x hx m k _ KQ.out K.out D hcm;exact Ekp
theorem Ea0(gq g cap:Nat)(a b d:One)(rest:List G)(m k:G)(w:M)(KQ:H w gq #[EJ (X ⟨g,0,Z⟩) 3 cap,m,k] 152)(K:Ln w g [a,b,d] rest)(hc:3<=cap)(hcm:cap<=9223372036854775807): Eg Ea 143 #[.iface 236 (Y (X ⟨gq,0,Z⟩)),E I 0] w fun e w'=>(∃v,e=Eh v)/\(∃L' x,(L'++[x]).Perm [a,b,d]/\L'.length=2/\Ln w' g L' (x.v++rest)/\H w' gq #[EJ (X ⟨g,0,Z⟩) 2 cap,m,k] 152)/\Jb g gq w w':=by
 have Jg:=J<|E7 KQ K Eb;have K:=J K;have KQ:=J KQ;have HC:Ed (w.cell? ⟨gq,0,Z⟩=X (EJ (X ⟨g,0,Z⟩) 3 cap)):=J<|(H.cell KQ.out 0).trans U;have TT:Ed (Jb g gq w w):=J<|Jb.ZP (E3.refl g w);have aa:=jR gq _ w HC.out;have mJ: ∀(args:Array G) (W:M),(Ji 272 args).run Ea W= .ok (.enter 272 args) W:=fun _ _=>Ef;have jS: ∀(args:Array G) (W:M),(Ji 274 args).run Ea W= .ok (.enter 274 args) W:=fun _ _=>Ef;have ut: ∀(args:Array G) (W:M),(Ji 275 args).run Ea W= .ok (.enter 275 args) W:=fun _ _=>Ef;have uu: ∀W,Ul Ea (XM 460 236 (Y (X ⟨gq,0,Z⟩)) "Pop") W= .ok (275,Y (X ⟨gq,0,Z⟩)) W:=fun _=>Ef;go_enter Tryz.func143,Tryz.ntmps143;go_wp2_with fail;refine(dh _ 3 cap _).mono ?_;rintro e w0 ⟨rfl,rfl⟩;rw[show((3:Nat):Int)=3 from rfl];clear aa;have dz:=oG gq _ w HC.out;have C2:Eg Ea 274 #[EJ (X ⟨g,0,Z⟩) 3 cap,E I 0,E I 2] w _:=di g [a,b,d] rest 3 cap 0 2 a d U U U w K.out;replace C2:=J C2;go_wp2_with fail;refine C2.out.mono ?_;rintro e w2 ⟨rfl,k2,o2⟩;replace K:Ed (Ln w2 g [d,b,a] rest):=J k2;replace TT:=J<|TT.out.trans (Jb.ZP o2);replace KQ:=J<|o2.El KQ.out Jg.out;clear dz C2 HC k2 o2;have HC:Ed (w2.cell? ⟨gq,0,Z⟩=X (EJ (X ⟨g,0,Z⟩) 3 cap)):=J<|(H.cell KQ.out 0).trans U;have HP:Ed (iH [d,b,a] [a,b,d]):=J<|(List.Perm.trans (aP b d [a]) (List.Perm.trans (us b (aP a d [])) (aP a b [d])));go_wp2_with fail;refine(EaS gq g cap d b a rest _ HC.out K.out Jg.out).mono ?_;rintro e w3 ⟨⟨b3,rfl⟩,⟨L3,hp3,k3⟩,o3⟩;replace K:=J k3;replace HP:=J<|hp3.trans HP.out;replace TT:=J<|TT.out.trans (Jb.ZP o3);replace KQ:=J<|o3.El KQ.out Jg.out;clear HC k3 hp3 o3;cases b3 with
 |true=> obtain⟨Zm,x,rfl,hl2,hx⟩:=jW (n:=2) HP.out U;have CP:=J<|jT gq g 2 cap _ rest x hx m k _ KQ.out K.out D hcm;have HL2:=J hl2;clear hl2 hx;go_wp2_with fail;refine CP.out.mono ?_;rintro e w9 ⟨rfl,ab,o9⟩;replace TT:=J<|TT.out.trans (Jb.jV o9);replace K:=J<|o9.El K.out Jg.out.symm;go_wp2;go_ret;exact⟨⟨_,U⟩,⟨Zm,x,HP.out,HL2.out,Ln.cut K.out,ab⟩,TT.out⟩
 |false=>
  have HC:Ed (w3.cell? ⟨gq,0,Z⟩=X (EJ (X ⟨g,0,Z⟩) 3 cap)):=J<|(H.cell KQ.out 0).trans U;have hl3:L3.length=3:=HP.out.length_eq;match L3,hl3,K,HP with
  |[a,b,d],_,K,HP=> go_wp2_with fail;refine(EaM gq g cap a b d rest _ HC.out K.out Jg.out).mono ?_;rintro e w4 ⟨rfl,⟨L4,Zn,k4⟩,o4⟩;replace K:=J k4;replace HP:=J<|Zn.trans HP.out;replace TT:=J<|TT.out.trans (Jb.ZP o4);replace KQ:=J<|o4.El KQ.out Jg.out;clear HC k4 Zn o4;obtain⟨Zm,x,rfl,hl2,hx⟩:=jW (n:=2) HP.out U;have CP:=J<|jT gq g 2 cap _ rest x hx m k _ KQ.out K.out D hcm;have HL2:=J hl2;clear hl2 hx;go_wp2_with fail;refine CP.out.mono ?_;rintro e w9 ⟨rfl,ab,o9⟩;replace TT:=J<|TT.out.trans (Jb.jV o9);replace K:=J<|o9.El K.out Jg.out.symm;go_wp2;go_ret;exact⟨⟨_,U⟩,⟨Zm,x,HP.out,HL2.out,Ln.cut K.out,ab⟩,TT.out⟩
theorem Ea1(gq g cap:Nat)(a b d:One)(rest:List G)(m k:G)(w:M)(KQ:H w gq #[EJ (X ⟨g,0,Z⟩) 3 cap,m,k] 152)(K:Ln w g [a,b,d] rest)(hc:3<=cap)(hcm:cap<=9223372036854775807): Eg Ea 143 #[.iface 236 (Y (X ⟨gq,0,Z⟩)),E I 1] w fun e w'=>(∃v,e=Eh v)/\(∃L' x,(L'++[x]).Perm [a,b,d]/\L'.length=2/\Ln w' g L' (x.v++rest)/\H w' gq #[EJ (X ⟨g,0,Z⟩) 2 cap,m,k] 152)/\Jb g gq w w':=by
 have Jg:=J<|E7 KQ K Eb;have K:=J K;have KQ:=J KQ;have HC:Ed (w.cell? ⟨gq,0,Z⟩=X (EJ (X ⟨g,0,Z⟩) 3 cap)):=J<|(H.cell KQ.out 0).trans U;have TT:Ed (Jb g gq w w):=J<|Jb.ZP (E3.refl g w);have aa:=jR gq _ w HC.out;have mJ: ∀(args:Array G) (W:M),(Ji 272 args).run Ea W= .ok (.enter 272 args) W:=fun _ _=>Ef;have jS: ∀(args:Array G) (W:M),(Ji 274 args).run Ea W= .ok (.enter 274 args) W:=fun _ _=>Ef;have ut: ∀(args:Array G) (W:M),(Ji 275 args).run Ea W= .ok (.enter 275 args) W:=fun _ _=>Ef;have uu: ∀W,Ul Ea (XM 460 236 (Y (X ⟨gq,0,Z⟩)) "Pop") W= .ok (275,Y (X ⟨gq,0,Z⟩)) W:=fun _=>Ef;go_enter Tryz.func143,Tryz.ntmps143;go_wp2_with fail;refine(dh _ 3 cap _).mono ?_;rintro e w0 ⟨rfl,rfl⟩;rw[show((3:Nat):Int)=3 from rfl];clear aa;have dz:=oG gq _ w HC.out;have C2:Eg Ea 274 #[EJ (X ⟨g,0,Z⟩) 3 cap,E I 1,E I 2] w _:=di g [a,b,d] rest 3 cap 1 2 b d U U U w K.out;replace C2:=J C2;go_wp2_with fail;refine C2.out.mono ?_;rintro e w2 ⟨rfl,k2,o2⟩;replace K:Ed (Ln w2 g [a,d,b] rest):=J k2;replace TT:=J<|TT.out.trans (Jb.ZP o2);replace KQ:=J<|o2.El KQ.out Jg.out;clear dz C2 HC k2 o2;have HC:Ed (w2.cell? ⟨gq,0,Z⟩=X (EJ (X ⟨g,0,Z⟩) 3 cap)):=J<|(H.cell KQ.out 0).trans U;have HP:Ed (iH [a,d,b] [a,b,d]):=J<|us _ (aP _ _ _);go_wp2_with fail;refine(EaT gq g cap a d b rest _ HC.out K.out Jg.out).mono ?_;rintro e w3 ⟨⟨b3,rfl⟩,⟨L3,hp3,k3⟩,o3⟩;replace K:=J k3;replace HP:=J<|hp3.trans HP.out;replace TT:=J<|TT.out.trans (Jb.ZP o3);replace KQ:=J<|o3.El KQ.out Jg.out;clear HC k3 hp3 o3;cases b3 with
 |true=> obtain⟨Zm,x,rfl,hl2,hx⟩:=jW (n:=2) HP.out U;have CP:=J<|jT gq g 2 cap _ rest x hx m k _ KQ.out K.out D hcm;have HL2:=J hl2;clear hl2 hx;go_wp2_with fail;refine CP.out.mono ?_;rintro e w9 ⟨rfl,ab,o9⟩;replace TT:=J<|TT.out.trans (Jb.jV o9);replace K:=J<|o9.El K.out Jg.out.symm;go_wp2;go_ret;exact⟨⟨_,U⟩,⟨Zm,x,HP.out,HL2.out,Ln.cut K.out,ab⟩,TT.out⟩
 |false=>
  have HC:Ed (w3.cell? ⟨gq,0,Z⟩=X (EJ (X ⟨g,0,Z⟩) 3 cap)):=J<|(H.cell KQ.out 0).trans U;have hl3:L3.length=3:=HP.out.length_eq;match L3,hl3,K,HP with
  |[a,b,d],_,K,HP=> go_wp2_with fail;refine(EaP gq g cap a b d rest _ HC.out K.out Jg.out).mono ?_;rintro e w4 ⟨rfl,⟨L4,Zn,k4⟩,o4⟩;replace K:=J k4;replace HP:=J<|Zn.trans HP.out;replace TT:=J<|TT.out.trans (Jb.ZP o4);replace KQ:=J<|o4.El KQ.out Jg.out;clear HC k4 Zn o4;obtain⟨Zm,x,rfl,hl2,hx⟩:=jW (n:=2) HP.out U;have CP:=J<|jT gq g 2 cap _ rest x hx m k _ KQ.out K.out D hcm;have HL2:=J hl2;clear hl2 hx;go_wp2_with fail;refine CP.out.mono ?_;rintro e w9 ⟨rfl,ab,o9⟩;replace TT:=J<|TT.out.trans (Jb.jV o9);replace K:=J<|o9.El K.out Jg.out.symm;go_wp2;go_ret;exact⟨⟨_,U⟩,⟨Zm,x,HP.out,HL2.out,Ln.cut K.out,ab⟩,TT.out⟩
theorem Ea2(gq g cap:Nat)(a b d:One)(rest:List G)(m k:G)(w:M)(KQ:H w gq #[EJ (X ⟨g,0,Z⟩) 3 cap,m,k] 152)(K:Ln w g [a,b,d] rest)(hc:3<=cap)(hcm:cap<=9223372036854775807): Eg Ea 143 #[.iface 236 (Y (X ⟨gq,0,Z⟩)),E I 2] w fun e w'=>(∃v,e=Eh v)/\(∃L' x,(L'++[x]).Perm [a,b,d]/\L'.length=2/\Ln w' g L' (x.v++rest)/\H w' gq #[EJ (X ⟨g,0,Z⟩) 2 cap,m,k] 152)/\Jb g gq w w':=by have Jg:=J<|E7 KQ K Eb;have K:=J K;have KQ:=J KQ;have HC:Ed (w.cell? ⟨gq,0,Z⟩=X (EJ (X ⟨g,0,Z⟩) 3 cap)):=J<|(H.cell KQ.out 0).trans U;have TT:Ed (Jb g gq w w):=J<|Jb.ZP (E3.refl g w);have aa:=jR gq _ w HC.out;have mJ: ∀(args:Array G) (W:M),(Ji 272 args).run Ea W= .ok (.enter 272 args) W:=fun _ _=>Ef;have jS: ∀(args:Array G) (W:M),(Ji 274 args).run Ea W= .ok (.enter 274 args) W:=fun _ _=>Ef;have ut: ∀(args:Array G) (W:M),(Ji 275 args).run Ea W= .ok (.enter 275 args) W:=fun _ _=>Ef;have uu: ∀W,Ul Ea (XM 460 236 (Y (X ⟨gq,0,Z⟩)) "Pop") W= .ok (275,Y (X ⟨gq,0,Z⟩)) W:=fun _=>Ef;go_enter Tryz.func143,Tryz.ntmps143;go_wp2_with fail;refine(dh _ 3 cap _).mono ?_;rintro e w0 ⟨rfl,rfl⟩;rw[show((3:Nat):Int)=3 from rfl];clear aa;obtain⟨L3,hp3,k3⟩: ∃L3:List One,L3.Perm [a,b,d]/\Ln w g L3 rest:=⟨_,aN _,K.out⟩;have HP:=J hp3;replace K:=J k3;clear hp3 k3;obtain⟨Zm,x,rfl,hl2,hx⟩:=jW (n:=2) HP.out U;have CP:=J<|jT gq g 2 cap _ rest x hx m k _ KQ.out K.out D hcm;exact Ekp
def uw(T:Ez)(w w':M):Prop:=w.heap.size<=w'.heap.size/\ ∀k,k<w.heap.size->(∀cs,w.heap[k]?≠X (Ec cs T (0,0)))->w'.heap[k]?=w.heap[k]?
theorem Ga{T:Ez}:Kept (uw T):=by refine⟨fun w=>⟨E9 _,fun _ _ _=>rfl⟩,?_,fun w=>⟨E9 _,fun k h _=>(E_ w.heap.size w).drew.block k h⟩⟩;rintro a b c ⟨h1,h2⟩ ⟨k1,k2⟩;refine⟨EB h1 k1,fun k hk hn=> ?_⟩;have e:=h2 k hk hn;exact(k2 k D (fun cs=>by rw[e];exact hn cs)).trans e
theorem Rf{T:Ez}(h:Ek w w'):uw T w w':=⟨h.size,fun k hk _=>h.block k hk⟩
theorem Ea3(w:M)(base:Nat)(t ty e:Ez)(i:TypeInfo)(z:G)(size bytes:Nat)(ht:P.underlying t=X (.slice e))(hi:P.info? e=X i)(hz:i.zero=X z) (hsize:i.size=size) (hby:i.bytes=bytes) (A:Option Ev) (cap n:Nat) (xs:List G) (hown:w.ownsRow base e size (EJ A n cap) n xs) (a:Ev) (m c:Nat) (news:List G) (hl:news.length=m*size) (hnews: ∀j Y3,news[j]?=X Y3->w.cell? (a.add j)=X Y3) (h1: ∀Y3∈news,Y3.oneCell'=EI) (hm:A=Z->0<m) (h63:n+m<=maxLen) (hbytes:(n+m)*bytes<=140737488355328) {v':G}  (hrun:(bX #[t,t] ty #[EJ A n cap,EJ (X a) m c]).run P w= .ok v' w'):uw e w w':=by
 subst hsize;subst hby;have hsmall:n+m<=9223372036854775807:=Dl;have bel: ∀o:Obj,uw e w (w.drew.alloc o):=fun o=>Rf (((E_ _ w).drew).alloc (E9 _) o);rcases hown.2 with⟨hv,hn⟩|⟨g,cap',cur,hv,hbg,hg,hnc,hcm,hcs,htake⟩;·subst hn;have hx:xs=[]:=ao Dm;subst hx;rw[hv] at hrun;have hr:=run_append_nil (P:=P) w t ty e i z ht hi hz a m c news hl hnews (hm xK) D Dn;exact EnN
 ·rw[hv] at hrun;by_cases hroom:n+m<=cap';·have hfit:n*i.size+news.length<=cur.size:=Do;have hr:=run_append_room (P:=P) w t ty e i ht hi g n cap' cur hg a m c news hl hnews h1 hroom hfit;rw[hrun] at hr;injection hr with _ hr;rw[hr];refine⟨Ej,fun k hk hn=>setRow_other w g k _ (fun e1=>hn cur ?_)⟩;rw[e1];exact hg
  ·have holds: ∀j Y3,xs[j]?=X Y3->w.cell? ((⟨g,0,Z⟩:Ev).add j)=X Y3:=by have h5:=hown;rw[hv] at h5;exact h5.cells (g:=g) U
   have hr:=run_append_grow (P:=P) w t ty e i z ht hi hz ⟨g,0,Z⟩ n cap' xs hown.1 holds a m c news hl hnews D D (growslice_fits D hbytes);exact EnN
def ux(b0:Nat)(T:Ez)(N:Nat)(ys:List G)(w w':M):Prop:=ia b0 T N ys w w'/\uw T w w'
theorem rf{T:Ez}:Kept (ux b0 T N ys):=
 ⟨fun w=>⟨fS.1 w,Ga.1 w⟩,fun a b c h k=>⟨fS.2.1 a b c h.1 k.1,Ga.2.1 a b c h.2 k.2⟩,fun w=>⟨fS.2.2 w,Ga.2.2 w⟩⟩
theorem Ea4{T:Ez}(h:Ek w w'):ux b0 T N ys w w':=⟨tZ h,Rf h⟩
def Rg(o:Option Obj):Prop:= ∀cs,o≠X (Ec cs 171 (0,0))/\o≠X (Ec cs 152 (0,0))
structure Ix(lo:Nat)(W w':M):Prop where
 bel:Ir lo W w'
 keep: ∀k,k<W.heap.size->Rg W.heap[k]?->w'.heap[k]?=W.heap[k]?
 stay: ∀k cs S,H W k cs S-> ∃cs',H w' k cs' S
theorem Ix.trans{b c:M}(h:Ix lo a b)(k:Ix lo b c):Ix lo a c:=by
 refine⟨h.bel.trans k.bel,fun i hi hn=> ?_,fun i cs S hb=> ?_⟩;·have e:=h.keep i hi hn;exact(k.keep i (by have:=h.bel.size;omega) (by rw[e];exact hn)).trans e
 ·obtain⟨cs',h'⟩:=h.stay i cs S hb;exact k.stay i cs' S h'
theorem Ix.EC(h:Ek W w')(hl:lo<=W.heap.size):Ix lo W w':=
 ⟨h.mono hl,fun k hk _=>h.block k hk,fun _ cs _ hb=>⟨cs,hb.u h⟩⟩
theorem Ix.El(h:Ix lo W w'){k:Nat}(hb:H W k cs S)(h1:S≠171)(h2:S≠152):H w' k cs S:=by refine(h.keep k hb.lt fun c=> ?_).trans hb;unfold H at hb;rw[hb];exact⟨fun e=>h1 zP,fun e=>h2 zP⟩
theorem Ix.iK(hi:Nat)(h:Ix lo W w'):Ex lo hi W w':=by
 have nq: ∀k,lo<=k->(∀c T p,W.heap[k]?=X (Ec c T p)->gd lo hi k T=V)->Rg W.heap[k]?:=fun k hk hm cs=>by
  constructor;·intro e;have:=hm _ _ _ e;unfold gd at this;rw[IE hk] at this;rw[show jo.contains 171=EI from Eb] at this;simp at this
  ·intro e;have:=hm _ _ _ e;unfold gd at this;rw[IE hk] at this;rw[show jo.contains 152=EI from Eb] at this;simp at this
 refine⟨h.bel.os,h.bel.tape,h.bel.output,h.bel.size,fun k _ hk hm=> ?_,fun k c T hb hm=> ?_,fun k c T hb=>h.stay k c T hb,fun k c T p _ hb=> ?_⟩
 ·by_cases hl:k<lo;·exact h.bel.block k hl
  ·exact h.keep k hk (nq k D hm)
 ·by_cases hl:k<lo;·exact(h.bel.block k hl).trans hb
  ·refine(h.keep k hb.lt (nq k D fun c2 T2 p2 e=> ?_)).trans hb;have e2:=(show X (Ec c T (0,0))=X (Ec c2 T2 p2) from hb.symm.trans e);injection e2 with e2;injection e2 with e3 e4 e5;subst e4;exact hm
 ·by_cases hp:p=(0,0);·subst hp;obtain⟨c',h'⟩:=h.stay k c T hb;exact⟨c',(0,0),h'⟩
  ·refine⟨c,p,(h.keep k (by rcases JW k W.heap.size with h3|h3;exact h3;rw[fD h3] at hb;cases hb) fun cs=> ?_).trans hb⟩;rw[hb];exact⟨fun e=>hp zP,fun e=>hp zP⟩
theorem Jb.oK(k:Jb g h W w'){c1 c2 c3 c4:Array G}(K1:H W g c1 171)(K2:H W h c2 152)(K3:H w' g c3 171)(K4:H w' h c4 152)(h1:lo<=g)(h2:lo<=h):Ix lo W w':=by
 refine⟨k.bel lo h1 h2 (by have:=K1.lt;omega),fun i hi hn=>k.keep i (fun e=> ?_) (fun e=> ?_) hi,fun i cs S hb=> ?_⟩;·subst e;exact(hn c1).1 K1
 ·subst e;exact(hn c2).2 K2
 ·by_cases e1:i=g;·subst e1;have e2:=(show X (Ec cs S (0,0))=X (Ec c1 _ (0,0)) from hb.symm.trans K1);injection e2 with e2;injection e2 with e3 e4;subst e4;exact⟨c3,K3⟩
  ·by_cases e1:i=h;·subst e1;have e2:=(show X (Ec cs S (0,0))=X (Ec c2 _ (0,0)) from hb.symm.trans K2);injection e2 with e2;injection e2 with e3 e4;subst e4;exact⟨c4,K4⟩
   ·exact⟨cs,(k.keep i (by assumption) e1 hb.lt).trans hb⟩
theorem ux.oK(h:ux lo 171 N ys W w')(hl:lo<=W.heap.size):Ix lo W w':=by refine⟨h.1.2.1 hl,fun k hk hn=>h.2.2 k hk fun cs=>(hn cs).1,fun k cs S hb=> ?_⟩;obtain⟨c',e,-⟩:=h.1.2.2 k cs S hb;exact⟨c',e⟩
theorem Gb: ∃i,Tryz.prog.info? 171=X i/\i.zero=X (EZ #[E I 0,E I 0,E I 0,E I 0,E Il 0])/\i.size=5/\i.bytes=40:=by have h:(Tryz.prog.info? 171).map (fun i=>(i.zero,i.size,i.bytes))=X (X (EZ #[E I 0,E I 0,E I 0,E I 0,E Il 0]),5,40):=Ef;exact Elh
theorem Rh(L:List One)(x:One):IB (L++[x])=IB L++x.v:=by simp[IB]
theorem Ri{a b c:G}(K:H w gq #[a,b,c] S)(v:G):H (w.setCell ⟨gq,0,Z⟩ v) gq #[v,b,c] S:=by have:=K.set 0 v;exact Emu
theorem Ix.cell(K:H W gq cs 152)(hl:lo<=gq)(i:Nat)(v:G):Ix lo W (W.setCell ⟨gq,i,Z⟩ v):=by
 have ho:=JS (g:=gq) (W:=W) i v;refine⟨ho.bel lo hl Gc,fun k hk hn=>ho.keep k (fun e=> ?_) hk,fun k c S hb=> ?_⟩;·subst e;exact(hn cs).2 K
 ·by_cases e:k=gq;·subst e;have e2:=(show X (Ec c S (0,0))=X (Ec cs _ (0,0)) from hb.symm.trans K);injection e2 with e2;injection e2 with e3 e4;subst e4;exact⟨_,K.set i v⟩
  ·exact⟨c,ho.El hb e⟩
theorem Ea5(v:G)(w:M):(Instr.typeAssert (.iface 171 v) 20 171 EI).run Ea w= .ok (Es #[v,EU EI]) w:=Ef
theorem Gd(lo gq n c0:Nat)(A0:Option Ev)(L:List One)(x:One)(m k:G)(w:M)(lq:lo<=gq)(KQ:H w gq #[EJ A0 n c0,m,k] 152)(KO:bM w lo 171 5 (EJ A0 n c0) n (IB L))(hn:n<=1000000): Eg Ea 276 #[Y (X ⟨gq,0,Z⟩),.iface 171 (EZ x.v.toArray)] w fun e w'=>e=Eh (Es #[])/\(∃(A:Option Ev) (cp:Nat),H w' gq #[EJ A (n+1) cp,m,k] 152/\bM w' lo 171 5 (EJ A (n+1) cp) (n+1) (IB (L++[x])))/\Ix lo w w':=by
 have hta:=Ea5 (EZ x.v.toArray) w;have LQ:=J lq;have HH:=J (show lo<=w.heap.size by have:=KQ.lt;omega);have IR:=J Gb;have hsz:Ed (x.v.toArray.size=5):=J U;have hon:=J<|One.one x;have Gf:=J KO.1;have HN:Ed (n*5=0\/x.v.length<=n*5):=J xB;have HX:Ed (∀j,n*5<=j->j<n*5+x.v.length->j<(IB L++x.v).length->(IB L++x.v)[j]?=(x.v)[j-n*5]?):=J (fun j h1 h2 h3=>by rw[ay (by rw[KO.1];exact h1),KO.1]);have KQ:=J KQ;have KO:=J KO;clear lq;go_enter Tryz.func276,Tryz.ntmps276;go_wp2_with (with_reducible refine dc 171 ?_);apply Et;generalize hW:XX _ _=w1 at*;have KX:Ed (H w1 (w.heap.size) #[E I 0,E I 0,E I 0,E I 0,E Il 0] 171):=J (by subst hW;repeat (first|exact H.new _ _ _|exact H.new' _ _ _ Ej|refine H.alloc ?_ _));have b1:Ed (Ek w w1):=J GZ;clear hW;go_wp2_with (with_reducible refine wS (cs:=x.v.toArray) bj KX (Ey.mk ?_) (hn:=hsz.out) (h1:=hon.out));apply Et;replace KX:=J<|KX.out.setRow x.v.toArray;replace b1:=J<|E6 (g:=w.heap.size) b1.out (E9 _) x.v.toArray;generalize w1.setRow w.heap.size x.v.toArray=w2 at*;replace KQ:=J<|KQ.out.u b1.out;replace KO:=J<|EQ KO.out fun _ _ h=>H.u h b1.out;have MM:=J<|Ix.EC b1.out HH.out;obtain⟨gx,hgx⟩:=Eo w.heap.size;rw[<-hgx] at KX⊢;clear b1 hgx;go_wp2_with fail;refine Zx (Ph:=fun p wq=>match p with|0=>(H wq gq #[EJ A0 n c0,m,k] 152/\H wq gx x.v.toArray 171/\bM wq lo 171 5 (EJ A0 n c0) n (IB L)/\Ix lo w wq)|_=>(∃(A:Option Ev) (cp:Nat),H wq gq #[EJ A (n+1) cp,m,k] 152/\bM wq lo 171 5 (EJ A (n+1) cp) (n+1) (IB L++x.v)/\Ix lo w wq)) (Rel:=(ux lo 171 (n*5) x.v)) (In:=(fun w w'=> ∀g2 c2,H w g2 c2 171->H w' g2 c2 171)) [kp gq 0,kp gq 0,kp gq 0,kq (EJ A0 n c0),kq (EZ x.v.toArray),.dep (fun v w=> ∃b:Nat,v=EJ (X ⟨b,0,Z⟩) 1 1/\H w b x.v.toArray 171) (fun v w w' h hr=>by obtain⟨b,e,hk⟩:=h;exact⟨b,e,un hr.1 hk HN.out⟩) (fun v w w' h hr=>Q3),.dep (zw lo 171 5 (n+1) (IB L++x.v)) (fun v w w' h hr=>by obtain⟨A,c,e,ho⟩:=h;exact⟨A,c,e,lx hr.1 ho HX.out⟩) (fun v w w' h hr=>Q5),kp gq 0,.val (fun _=>True)] _ U [8] [(0,0),(0,0),(0,0),(0,0),(0,0),(0,0),(0,0),(0,0),(0,0)] Ef Ef Ef Ef Ef O0 Ef ?hPh ?h0 ?hstep ?hend
 case hPh=>
  intro p w2 w3 h hr;have keep: ∀g2 c2 S2,S2≠171->H w2 g2 c2 S2->H w3 g2 c2 S2:=fun g2 c2 S2 hS k2=>XN hr.1 k2 hS;match p,h with
  |0,h=>exact⟨keep _ _ _ Eb h.1,un hr.1 h.2.1 HN.out,lx hr.1 h.2.2.1 (fun j h1 h2 h3=>by have:=Gf.out;omega),h.2.2.2.trans (hr.oK (EB HH.out h.2.2.2.bel.size))⟩
  |_+1,h=> obtain⟨A,cp,h1,h3,h4⟩:=h;exact⟨A,cp,keep _ _ _ Eb h1,lx hr.1 h3 HX.out,h4.trans (hr.oK (EB HH.out h4.bel.size))⟩
 case h0=> exact⟨KQ.out.drew,KX.out.drew,EQ KO.out fun _ _ h=>H.u h (JZ _),MM.out.trans (Ix.EC (JZ _) (EB HH.out MM.out.bel.size))⟩
 case hstep=>
  refine⟨?_,?_,?_,?_,?_,?_,?_,?_,?_,trivial⟩;all_goals first|intro xv wq p hlo hhi hp hd|intro xv wq hp hd
  all_goals try obtain rfl:p=0:=D
  all_goals simp only[ED,Ic,Ii,IJ,IU]
  ·exact Iw rf (Ei U) Ew U
  ·exact Iw rf (Ei U) Ew U
  ·have d1:xv 1=Y (X ⟨gq,0,Z⟩):=hd.at 1 rfl;exact Iw rf (Ei U) Xl U
  ·have d2:xv 2=Y (X ⟨gq,0,Z⟩):=hd.at 2 rfl;have cc:wq.cell? ⟨gq,0,Z⟩=X (EJ A0 n c0):=(H.cell hp.1 0).trans U;exact Iw rf (Ei U) bv U
  ·exact lX rf bj (Ei U) ⟨U,U⟩ (hp.2.1) U U
  ·have d4:xv 4=EZ x.v.toArray:=hd.at 4 rfl;exact Za (Ei U) (by simp[go_sem,d4];rfl) (Ea4 (Er wq _)) ⟨wq.heap.size,U,H.new _ _ _⟩
  ·have d3:xv 3=EJ A0 n c0:=hd.at 3 rfl;obtain⟨b,e5,k5⟩: ∃b:Nat,xv 5=EJ (X ⟨b,0,Z⟩) 1 1/\H wq b x.v.toArray 171:=hd.at 5 rfl;have hnews: ∀(j:Nat) (Y3:G),x.v[j]?=X Y3->wq.cell? ((⟨b,0,Z⟩:Ev).add j)=X Y3:=fun j Y3 hu=>by rw[show(⟨b,0,Z⟩:Ev).add j=⟨b,j,Z⟩ from Xo];rw[H.cell k5,J0];exact hu
   obtain⟨A',c',w',hrun,hown,hgr,-,-⟩:=cU (P:=Ea) wq lo lo 149 149 171 IR.out.choose _ 5 40 Tryz.underlying149 IR.out.choose_spec.1 IR.out.choose_spec.2.1 IR.out.choose_spec.2.2.1 IR.out.choose_spec.2.2.2 rfl A0 c0 n (IB L) hp.2.2.1 ⟨b,0,Z⟩ 1 1 x.v U hnews Dc (fun _=>D) Oy D (EB HH.out hp.2.2.2.bel.size) (E9 _);have hkp:=Ea3 (P:=Ea) wq lo 149 149 171 IR.out.choose _ 5 40 Tryz.underlying149 IR.out.choose_spec.1 IR.out.choose_spec.2.1 IR.out.choose_spec.2.2.1 IR.out.choose_spec.2.2.2 A0 c0 n (IB L) hp.2.2.1 ⟨b,0,Z⟩ 1 1 x.v U hnews Dc (fun _=>D) Oy D hrun;exact Za (Ei U) (UU U (show xv 3=_ from d3) (show xv 5=_ from e5) hrun) ⟨hgr,hkp⟩ ⟨A',c',U,hown⟩
  ·have d0:xv 0=Y (X ⟨gq,0,Z⟩):=hd.at 0 rfl;exact Iw rf (Ei U) Uc U
  ·have d7:xv 7=Y (X ⟨gq,0,Z⟩):=hd.at 7 rfl;obtain⟨A,cp,e6,ho⟩:zw lo 171 5 (n+1) (IB L++x.v) (xv 6) wq:=hd.at 6 rfl;have cc:wq.cell? ⟨gq,0,Z⟩=X (EJ A0 n c0):=(H.cell hp.1 0).trans U;have ff:wq.frozen? ⟨gq,0,Z⟩=V:=H.I_ hp.1 0;rw[e6] at ho;have kk:=Ri hp.1 (EJ A (n+1) cp);refine Db (w':=wq.setCell ⟨gq,0,Z⟩ (EJ A (n+1) cp)) (Ei U) (by simp[go_sem,d7,e6,cc,ff]) ⟨fun g2 c2 h2=>h2.other gq 0 _ (cM h2 hp.1 Eb),?_⟩ trivial;exact⟨A,cp,kk,EQ ho (fun g2 c2 h2=>h2.other gq 0 _ (cM h2 hp.1 Eb)),hp.2.2.2.trans (Ix.cell hp.1 LQ.out 0 _)⟩
 case hend=> intro xv W6 hp hr;clear hr;simp only[ED,Ic,Ii,IJ,IU];obtain⟨A,cp,h1,h3,h4⟩:=hp;rw[<-Rh] at h3;go_wp2;go_end0;exact⟨U,⟨A,cp,h1,h3⟩,h4⟩
theorem iL{n c:Nat}(h:w.ownsRow lo 171 5 (EJ A n c) n (IB L))(hn:0<n): ∃g rest,A=X ⟨g,0,Z⟩/\lo<=g/\n<=c/\c<=maxLen/\Ln w g L rest/\(IB L++rest).length=c*5:=by
 obtain⟨h1,h2|⟨g,cap,cur,hv,hg,hh,hnc,hm,hs,ht⟩⟩:=h;·omega
 ·injection hv with e1 _ e3;subst e1 e3;have e:IB L++cur.toList.drop (n*5)=cur.toList:=by rw[<-ht];exact dR _ _
  refine⟨g,cur.toList.drop (n*5),U,hg,hnc,hm,?_,?_⟩;·unfold Ln;rw[e];simpa[H] using hh
  ·rw[e];simpa using hs
theorem rg{n c:Nat}(K:Ln w g L rest)(hl:(IB L++rest).length=c*5)(hn:L.length=n)(hg:lo<=g)(hnc:n<=c)(hm:c<=maxLen):w.ownsRow lo 171 5 (EJ (X ⟨g,0,Z⟩) n c) n (IB L):=by subst hn;refine⟨bi L,.inr ⟨g,c,(IB L++rest).toArray,U,hg,K,hnc,hm,by simpa using hl,?_⟩⟩;rw[List.toList_toArray,<-bi L];exact List.take_left
theorem Ea6(lo gq c0:Nat)(A0:Option Ev)(x:One)(m k:G)(w:M)(lq:lo<=gq)(KQ:H w gq #[EJ A0 0 c0,m,k] 152)(KO:w.ownsRow lo 171 5 (EJ A0 0 c0) 0 (IB [])): Eg Ea 246 #[.iface 236 (Y (X ⟨gq,0,Z⟩)),.iface 171 (EZ x.v.toArray)] w fun e w'=>e=Eh (Es #[])/\(∃L' A cp,iH L' [x]/\H w' gq #[EJ A 1 cp,m,k] 152/\w'.ownsRow lo 171 5 (EJ A 1 cp) 1 (IB L'))/\Ix lo w w':=by
 have LQ:=J lq;have KQ:=J KQ;have KO:=J KO;have CP:=J<|Gd lo gq 0 c0 A0 [] x m k w lq KQ.out KO.out D;have uy: ∀W,Ul Ea (XM 460 236 (Y (X ⟨gq,0,Z⟩)) "Push") W= .ok (276,Y (X ⟨gq,0,Z⟩)) W:=fun _=>Ef;have Rj: ∀(args:Array G) (W:M),(Ji 276 args).run Ea W= .ok (.enter 276 args) W:=fun _ _=>Ef;have mJ: ∀(args:Array G) (W:M),(Ji 272 args).run Ea W= .ok (.enter 272 args) W:=fun _ _=>Ef;clear lq;go_enter Tryz.func246,Tryz.ntmps246;go_wp2_with fail;refine CP.out.mono ?_;rintro e w1 ⟨rfl,⟨A,cp,kq,ko⟩,mm⟩;obtain⟨g,rest,rfl,lg,hnc,hcm,kl,hll⟩:=iL ko D;replace KQ:=J kq;have K:Ed (Ln w1 g [x] rest):=J kl;have MM:=J mm;have ZQ:=J hll;have HCM:=J hcm;have Jg:=J<|E7 KQ.out K.out Eb;clear kq ko mm kl hll hcm CP uy;have HC:Ed (w1.cell? ⟨gq,0,Z⟩=X (EJ (X ⟨g,0,Z⟩) 1 cp)):=J<|(H.cell KQ.out 0).trans U;have aa:=jR gq _ w1 HC.out;go_wp2_with fail;refine(dh _ 1 cp _).mono ?_;rintro e w0 ⟨rfl,rfl⟩;rw[show((1:Nat):Int)=1 from rfl];clear aa;go_wp2_with fail;refine(EaK gq g cp x rest _ HC.out K.out Jg.out).mono ?_;rintro e w4 ⟨rfl,⟨L4,Zn,k4⟩,o4⟩;have uz:(IB L4++rest).length=cp*5:=by exact EnI
 have mO:=o4.El KQ.out Jg.out;have OW:=rg (lo:=lo) (n:=1) k4 uz Zn.length_eq lg hnc HCM.out;exact ElE
theorem Ea7(lo gq c0:Nat)(A0:Option Ev)(a:One)(x:One)(m k:G)(w:M)(lq:lo<=gq)(KQ:H w gq #[EJ A0 1 c0,m,k] 152)(KO:w.ownsRow lo 171 5 (EJ A0 1 c0) 1 (IB [a])): Eg Ea 246 #[.iface 236 (Y (X ⟨gq,0,Z⟩)),.iface 171 (EZ x.v.toArray)] w fun e w'=>e=Eh (Es #[])/\(∃L' A cp,iH L' [a,x]/\H w' gq #[EJ A 2 cp,m,k] 152/\w'.ownsRow lo 171 5 (EJ A 2 cp) 2 (IB L'))/\Ix lo w w':=by
 have LQ:=J lq;have KQ:=J KQ;have KO:=J KO;have CP:=J<|Gd lo gq 1 c0 A0 [a] x m k w lq KQ.out KO.out D;have uy: ∀W,Ul Ea (XM 460 236 (Y (X ⟨gq,0,Z⟩)) "Push") W= .ok (276,Y (X ⟨gq,0,Z⟩)) W:=fun _=>Ef;have Rj: ∀(args:Array G) (W:M),(Ji 276 args).run Ea W= .ok (.enter 276 args) W:=fun _ _=>Ef;have mJ: ∀(args:Array G) (W:M),(Ji 272 args).run Ea W= .ok (.enter 272 args) W:=fun _ _=>Ef;clear lq;go_enter Tryz.func246,Tryz.ntmps246;go_wp2_with fail;refine CP.out.mono ?_;rintro e w1 ⟨rfl,⟨A,cp,kq,ko⟩,mm⟩;obtain⟨g,rest,rfl,lg,hnc,hcm,kl,hll⟩:=iL ko D;replace KQ:=J kq;have K:Ed (Ln w1 g [a,x] rest):=J kl;have MM:=J mm;have ZQ:=J hll;have HCM:=J hcm;have Jg:=J<|E7 KQ.out K.out Eb;clear kq ko mm kl hll hcm CP uy;have HC:Ed (w1.cell? ⟨gq,0,Z⟩=X (EJ (X ⟨g,0,Z⟩) 2 cp)):=J<|(H.cell KQ.out 0).trans U;have aa:=jR gq _ w1 HC.out;go_wp2_with fail;refine(dh _ 2 cp _).mono ?_;rintro e w0 ⟨rfl,rfl⟩;rw[show((2:Nat):Int)=2 from rfl];clear aa;go_wp2_with fail;refine(EaN gq g cp a x rest _ HC.out K.out Jg.out).mono ?_;rintro e w4 ⟨rfl,⟨L4,Zn,k4⟩,o4⟩;have uz:(IB L4++rest).length=cp*5:=by exact EnI
 have mO:=o4.El KQ.out Jg.out;have OW:=rg (lo:=lo) (n:=2) k4 uz Zn.length_eq lg hnc HCM.out;exact ElE
theorem Ea8(lo gq c0:Nat)(A0:Option Ev)(a b:One)(x:One)(m k:G)(w:M)(lq:lo<=gq)(KQ:H w gq #[EJ A0 2 c0,m,k] 152)(KO:w.ownsRow lo 171 5 (EJ A0 2 c0) 2 (IB [a,b])): Eg Ea 246 #[.iface 236 (Y (X ⟨gq,0,Z⟩)),.iface 171 (EZ x.v.toArray)] w fun e w'=>e=Eh (Es #[])/\(∃L' A cp,iH L' [a,b,x]/\H w' gq #[EJ A 3 cp,m,k] 152/\w'.ownsRow lo 171 5 (EJ A 3 cp) 3 (IB L'))/\Ix lo w w':=by
 have LQ:=J lq;have KQ:=J KQ;have KO:=J KO;have CP:=J<|Gd lo gq 2 c0 A0 [a,b] x m k w lq KQ.out KO.out D;have uy: ∀W,Ul Ea (XM 460 236 (Y (X ⟨gq,0,Z⟩)) "Push") W= .ok (276,Y (X ⟨gq,0,Z⟩)) W:=fun _=>Ef;have Rj: ∀(args:Array G) (W:M),(Ji 276 args).run Ea W= .ok (.enter 276 args) W:=fun _ _=>Ef;have mJ: ∀(args:Array G) (W:M),(Ji 272 args).run Ea W= .ok (.enter 272 args) W:=fun _ _=>Ef;clear lq;go_enter Tryz.func246,Tryz.ntmps246;go_wp2_with fail;refine CP.out.mono ?_;rintro e w1 ⟨rfl,⟨A,cp,kq,ko⟩,mm⟩;obtain⟨g,rest,rfl,lg,hnc,hcm,kl,hll⟩:=iL ko D;replace KQ:=J kq;have K:Ed (Ln w1 g [a,b,x] rest):=J kl;have MM:=J mm;have ZQ:=J hll;have HCM:=J hcm;have Jg:=J<|E7 KQ.out K.out Eb;clear kq ko mm kl hll hcm CP uy;have HC:Ed (w1.cell? ⟨gq,0,Z⟩=X (EJ (X ⟨g,0,Z⟩) 3 cp)):=J<|(H.cell KQ.out 0).trans U;have aa:=jR gq _ w1 HC.out;go_wp2_with fail;refine(dh _ 3 cp _).mono ?_;rintro e w0 ⟨rfl,rfl⟩;rw[show((3:Nat):Int)=3 from rfl];clear aa;go_wp2_with fail;refine(EaQ gq g cp a b x rest _ HC.out K.out Jg.out).mono ?_;rintro e w4 ⟨rfl,⟨L4,Zn,k4⟩,o4⟩;have uz:(IB L4++rest).length=cp*5:=by exact EnI
 have mO:=o4.El KQ.out Jg.out;have OW:=rg (lo:=lo) (n:=3) k4 uz Zn.length_eq lg hnc HCM.out;exact ElE
theorem Ea9(gb:Nat)(s:Int)(x:One)(w:M)(c:w.cell? ⟨gb,0,Z⟩=X (E I s)): Eg Ea 186 #[EZ x.v.toArray,Y (X ⟨gb,0,Z⟩)] w fun e w'=>e=Eh (EU (x.s==s))/\Ek w w':=by
 have lb:=J<|rd c;show Eg _ _ #[EZ #[E I x.s,E I x.r,E I x.a,E I x.m,E Il x.n],_] _ _;go_enter Tryz.func186,Tryz.ntmps186;have K1:=J<|H.new w #[E I x.s,E I x.r,E I x.a,E I x.m,E Il x.n] 171;have b1:=J<|Er w (Ec #[E I x.s,E I x.r,E I x.a,E I x.m,E Il x.n] 171);have c2:(w.alloc (Ec #[E I x.s,E I x.r,E I x.a,E I x.m,E Il x.n] 171)).cell? ⟨gb,0,Z⟩=X (E I s):=by rw[b1.out.cell (p:=⟨gb,0,Z⟩) lb.out];exact c
 go_wp2;go_ret;exact⟨U,b1.out⟩
theorem Ea_(lo gb n c0:Nat)(A0:Option Ev)(L:List One)(s:Int)(w:M)(cb:w.cell? ⟨gb,0,Z⟩=X (E I s))(KO:w.ownsRow lo 171 5 (EJ A0 n c0) n (IB L))(hn:L.length=n)(hn2:n<=1000000): Eg Ea 185 #[EJ A0 n c0,.func (.func 186) #[] #[Y (X ⟨gb,0,Z⟩)]] w fun e w'=>(∃r:Int,e=Eh (E I r)/\((r= -1/\ ∀x∈L,x.s≠s)\/ ∃i:Nat,i<n/\r=i))/\Ek w w':=by
 have lb:=J<|rd cb;have CB:=J cb;have KO:=J KO;have HN:=J hn;have eF: ∀(args:Array G) (W:M),(Ji 186 args).run Ea W= .ok (.enter 186 args) W:=fun _ _=>Ef;clear cb hn;go_enter Tryz.func185,Tryz.ntmps185;go_wp2_with fail;go_loopw[8] (fun y wr=> ∃i:Nat,i<=n/\y=E I i/\(∀x∈L.take i,x.s≠s)/\Ek w wr) (fun y _=>n-(I5 y).toNat);case atStart=>exact⟨0,D,U,Ej,E_ _ _⟩
 case round=>
  obtain⟨i,hi,rfl,hall,B⟩:=hrel;replace B:=J B;have Rk:=J hall;clear hall;by_cases hlt:i<n
  ·have t1:decide ((i:Int)<(n:Int))=EI:=IE D;have hil:i<L.length:=lB;obtain⟨x,hx⟩: ∃x,L[i]?=X x:=⟨L[i],JY hil⟩;obtain⟨g,rest,rfl,lg,hnc,hcm,kl,hll⟩:=iL KO.out D;have EX:=J<|Ln.ext (rest:=rest) i hx;have KK:Ed (H wr g (IB L++rest).toArray 171):=J<|H.u kl B.out;have Rl:wr.cell? ⟨gb,0,Z⟩=X (E I s):=by rw[B.out.cell (p:=⟨gb,0,Z⟩) lb.out];exact CB.out
   have CF:=J<|Ea9 gb s x wr Rl;have HX:=J hx;have hc0:n<=c0:=hnc;have hsz:Ed (x.v.toArray.size=5):=J U;clear kl hll hcm hx Rl;generalize x.v.toArray=xv at*;go_wp2_with (with_reducible refine wM (off:=i*5) (cs:=xv) bj KK ?_ (hn:=hsz.out) (he:=EX.out));refine CF.out.mono ?_;rintro e w2 ⟨rfl,b2⟩;replace B:=J<|B.out.trans (b2.mono B.out.size);clear b2 CF;cases hxs:(x.s==s) with
   |true=> go_wp2;go_ret;exact⟨⟨_,U,.inr ⟨i,hlt,U⟩⟩,B.out⟩
   |false=>
    have Jg:=J hxs;clear hxs;go_wp2_with fail;refine⟨⟨i+1,D,Ej,?_,B.out⟩,J6⟩;intro y hy;rw[lL,HX.out] at hy;rcases Xt.1 hy with h|h;·exact Rk.out y h
    ·simp at h;subst h;simpa using Jg.out
  ·have t1:decide ((i:Int)<(n:Int))=V:=Ia D;go_wp2;go_ret;refine⟨⟨_,U,.inl ⟨U,?_⟩⟩,B.out⟩;have h:=Rk.out;rw[OV qu] at h;exact h
theorem Rm(lo gq:Nat)(L:List One)(most:Int)(s:Int)(w:M)(Q:Jk w lo gq L most)(hl:L.length<=3): Eg Ea 142 #[Y (X ⟨gq,0,Z⟩),E I s] w fun e w'=>(∃r:Int,e=Eh (E I r)/\((r= -1/\ ∀x∈L,x.s≠s)\/ ∃i:Nat,i<L.length/\r=i))/\Ek w w':=by
 obtain⟨v,came,KQ,hc,KO⟩:=Q;obtain⟨A0,c0,rfl,-⟩:=aZ KO;have HL:=J hl;have cq:w.cell? ⟨gq,0,Z⟩=X (EJ A0 L.length c0):=(H.cell KQ 0).trans U;have lq:=J KQ.lt;have KO:=J KO;clear KQ hc;go_enter Tryz.func142,Tryz.ntmps142;have b1:=J<|Er w (Ec #[E I s] 3);have c2:(w.alloc (Ec #[E I s] 3)).cell? ⟨gq,0,Z⟩=X (EJ A0 L.length c0):=by rw[b1.out.cell (p:=⟨gq,0,Z⟩) lq.out];exact cq
 have CB:=J<|H.cell (H.new w #[E I s] 3) 0;go_wp2_with fail;refine(Ea_ lo w.heap.size L.length c0 A0 L s _ CB.out (EQ KO.out fun _ _ h=>H.u h b1.out) U JK).mono ?_;rintro e w2 ⟨⟨r,rfl,hr⟩,b2⟩;have B:=EW b1 b2;clear b2;go_wp2;go_ret;exact⟨⟨r,U,hr⟩,B.out⟩
theorem iM:IF Ea 133 4:=⟨⟨_,Tryz.underlying133,U⟩,Ef⟩
theorem EbE:Tryz.prog.built 133 []=X #[E I 0,E I 0,E I 0,E I 0]:=Ef
def Rn(L:List One)(e:Uv):Prop:=(L=[]/\e=Eh (Es #[EZ #[E I 0,E I 0,E I 0,E I 0],E I 2]))\/ ∃x,L[0]?=X x/\e=Eh (Es #[EZ #[E I x.s,E I x.r,E I x.a,E I x.m],E I 0])
theorem EbI(lo gq:Nat)(L:List One)(most:Int)(w:M)(Q:Jk w lo gq L most)(hl:L.length<=3): Eg Ea 228 #[Y (X ⟨gq,0,Z⟩)] w fun e w'=>Rn L e/\Ek w w':=by
 obtain⟨v,came,KQ,hc,KO⟩:=Q;obtain⟨A0,c0,rfl,-⟩:=aZ KO;have HL:=J hl;have KQ:=J KQ;have KO:=J KO;have BZ:=EbE;clear hc;go_enter Tryz.func228,Tryz.ntmps228;go_wp2_with (with_reducible refine JU 7 ?_);apply Et;generalize hW:XX _ _=w1 at*;have KN:Ed (H w1 (w.heap.size) #[E I 0,E I 0,E I 0,E I 0] 133):=J (by subst hW;repeat (first|exact H.new _ _ _|exact H.new' _ _ _ Ej|refine H.alloc ?_ _));have b1:Ed (Ek w w1):=J GZ;clear hW;replace KQ:=J<|KQ.out.u b1.out;replace KO:=J<|EQ KO.out fun _ _ h=>H.u h b1.out;obtain⟨ga,hga⟩:=Eo w.heap.size;rw[<-hga] at KN⊢;have LG:=J (show w.heap.size<=ga from D);clear hga;cases L with
 |nil=> have cq:w1.cell? ⟨gq,0,Z⟩=X (EJ A0 0 c0):=(H.cell KQ.out 0).trans U;go_wp2_with (first|((with_reducible refine It 10 ?_);refine JO rfl 133 _ rfl #[E I 0,E I 0,E I 0,E I 0] BZ ?_)|(with_reducible refine wS (cs:= #[E I 0,E I 0,E I 0,E I 0]) iM KN ?_ (h1:=UP)));refine EV (Us iM U _ _ ga #[E I 0,E I 0,E I 0,E I 0] (E I 2) U U (KN.out.setRow _) U) U ?_;exact⟨.inl ⟨U,U⟩,E6 (g:=ga) b1.out LG.out _⟩
 |cons x r=>
  obtain⟨g,rest,rfl,lg,hnc,hcm,kl,hll⟩:=iL KO.out Ej;have cq:w1.cell? ⟨gq,0,Z⟩=X (EJ (X ⟨g,0,Z⟩) (r.length+1) c0):=(H.cell KQ.out 0).trans U;have KK:Ed (H w1 g (IB (x::r)++rest).toArray 171):=J kl;have EX:Ed ((IB (x::r)++rest).toArray.extract 0 (0+4)= #[E I x.s,E I x.r,E I x.a,E I x.m]):=J (by simp[IB,One.v]);have hr3:r.length<=2:=by have:=HL.out;exact Emu
  clear kl hll hcm hnc;go_wp2_with (with_reducible first|refine wM (off:=0) (cs:= #[E I x.s,E I x.r,E I x.a,E I x.m]) iM KK ?_ (he:=EX.out)|refine wS (cs:= #[E I x.s,E I x.r,E I x.a,E I x.m]) iM KN ?_ (h1:=UP));refine EV (Us iM U _ _ ga #[E I x.s,E I x.r,E I x.a,E I x.m] (E I 0) U U (KN.out.setRow _) U) U ?_;exact⟨.inr ⟨x,U,U⟩,E6 (g:=ga) b1.out LG.out _⟩
structure Ux(L' L:List One):Prop where
 len:L'.length<=L.length
 mem: ∀x∈L',x∈L
 nd:(L.map One.s).Nodup->(L'.map One.s).Nodup
theorem Ux.refl(L:List One):Ux L L:=⟨E9 _,fun _ h=>h,fun h=>h⟩
theorem Ux.EbJ(h:(L'++[x]).Perm L):Ux L' L:=
 ⟨by have:=h.length_eq;simp at this;omega,fun y hy=>h.mem_iff.1 (List.mem_append_left _ hy),fun hn=>by have h2:=(h.map One.s).nodup_iff.2 hn;rw[jr] at h2;exact(List.nodup_append.1 h2).1⟩
theorem Jk.u(h:Jk W lo gq L most)(hb:Ek W W'):Jk W' lo gq L most:=by obtain⟨v,came,k2,r2,r3⟩:=h;exact⟨v,came,k2.u hb,r2,EQ r3 fun _ _ hk=>hk.u hb⟩
theorem rh{cap n came:Nat}(KQ:H w gq #[EJ (X ⟨g,0,Z⟩) (n+1) cap,E I most,E Il came] 152)(K:Ln w g L rest)(hc:n+1<=cap)(hcm:cap<=maxLen)(hll:(IB L++rest).length=cap*5)(lg:lo<=g)(lq:lo<=gq)(EbO:came<18446744073709551616) (h1: ∃L' x,(L'++[x]).Perm L/\L'.length=n/\Ln w' g L' (x.v++rest)/\H w' gq #[EJ (X ⟨g,0,Z⟩) n cap,E I most,E Il came] 152) (tt:Jb g gq w w'):(∃L',Jk w' lo gq L' most/\Ux L' L)/\Ix lo w w':=by
 obtain⟨L',x,hp,hl',kl,kq⟩:=h1;have e:(IB L'++(x.v++rest)).length=cap*5:=by have h1:=hp.length_eq;simp only[I1,bi,Zw,List.length_nil] at*;simp only[One.v,Zw,List.length_nil];omega
 exact⟨⟨L',⟨_,came,kq,EbO,by rw[hl'];exact rg kl e hl' lg D hcm⟩,Ux.EbJ hp⟩,Jb.oK tt K KQ kl kq lg lq⟩
theorem EbU(lo gq:Nat)(L:List One)(most:Int)(i:Nat)(hi:i<L.length)(hl:L.length<=3)(w:M)(lq:lo<=gq)(Q:Jk w lo gq L most): Eg Ea 143 #[.iface 236 (Y (X ⟨gq,0,Z⟩)),E I i] w fun e w'=>(∃v,e=Eh v)/\(∃L',Jk w' lo gq L' most/\Ux L' L)/\Ix lo w w':=by
 obtain⟨v,came,KQ,hc,KO⟩:=Q;obtain⟨A0,c0,rfl,-⟩:=aZ KO;obtain⟨g,rest,rfl,lg,hnc,hcm,kl,hll⟩:=iL KO D;have hcm2:c0<=9223372036854775807:=by unfold maxLen at hcm;omega
 match L,i,hi,hl,KQ,KO,hnc,kl,hll with
 |[a],0,_,_,KQ,KO,hnc,kl,hll=> exact(EaV gq g c0 a rest _ _ w KQ kl hnc hcm2).mono fun e w' ⟨h1,h2,h3⟩=>by have r:=rh (lo:=lo) (n:=0) KQ kl hnc hcm hll lg lq hc h2 h3;exact⟨h1,r.1,r.2⟩
 |[a,b],0,_,_,KQ,KO,hnc,kl,hll=> exact(EaW gq g c0 a b rest _ _ w KQ kl hnc hcm2).mono fun e w' ⟨h1,h2,h3⟩=>by have r:=rh (lo:=lo) (n:=1) KQ kl hnc hcm hll lg lq hc h2 h3;exact⟨h1,r.1,r.2⟩
 |[a,b],1,_,_,KQ,KO,hnc,kl,hll=> exact(EaY gq g c0 a b rest _ _ w KQ kl hnc hcm2).mono fun e w' ⟨h1,h2,h3⟩=>by have r:=rh (lo:=lo) (n:=1) KQ kl hnc hcm hll lg lq hc h2 h3;exact⟨h1,r.1,r.2⟩
 |[a,b,d],0,_,_,KQ,KO,hnc,kl,hll=> exact(Ea0 gq g c0 a b d rest _ _ w KQ kl hnc hcm2).mono fun e w' ⟨h1,h2,h3⟩=>by have r:=rh (lo:=lo) (n:=2) KQ kl hnc hcm hll lg lq hc h2 h3;exact⟨h1,r.1,r.2⟩
 |[a,b,d],1,_,_,KQ,KO,hnc,kl,hll=> exact(Ea1 gq g c0 a b d rest _ _ w KQ kl hnc hcm2).mono fun e w' ⟨h1,h2,h3⟩=>by have r:=rh (lo:=lo) (n:=2) KQ kl hnc hcm hll lg lq hc h2 h3;exact⟨h1,r.1,r.2⟩
 |[a,b,d],2,_,_,KQ,KO,hnc,kl,hll=> exact(Ea2 gq g c0 a b d rest _ _ w KQ kl hnc hcm2).mono fun e w' ⟨h1,h2,h3⟩=>by have r:=rh (lo:=lo) (n:=2) KQ kl hnc hcm hll lg lq hc h2 h3;exact⟨h1,r.1,r.2⟩
 |[_],_+1,h,_,_,_,_,_,_=>exact absurd h Gg
 |[_,_],_+2,h,_,_,_,_,_,_=>exact absurd h Gg
 |[_,_,_],_+3,h,_,_,_,_,_,_=>exact absurd h Gg
 |_::_::_::_::_,_,_,h,_,_,_,_,_=>simp at h
theorem oL(lo gq:Nat)(L:List One)(most:Int)(s:Int)(w:M)(lq:lo<=gq)(Q:Jk w lo gq L most)(hl:L.length<=3): Eg Ea 98 #[Y (X ⟨gq,0,Z⟩),E I s] w fun e w'=>(∃b,e=Eh (EU b))/\(∃L',Jk w' lo gq L' most/\Ux L' L)/\Ix lo w w':=by
 have HQ:=J Q;have HL:=J hl;have LQ:=J lq;have lw:=J (show lo<=w.heap.size from oM);clear Q hl lq;go_enter Tryz.func98,Tryz.ntmps98;go_wp2_with fail;refine(Rm lo gq L most s _ HQ.out HL.out).mono ?_;rintro e w1 ⟨⟨r,rfl,hr⟩,b1⟩;have Q1:=J<|HQ.out.u b1;have MM:=J<|Ix.EC b1 lw.out;clear b1;rcases hr with⟨rfl,-⟩|⟨i,hi,rfl⟩;·go_wp2;go_ret;exact⟨⟨_,U⟩,⟨L,Q1.out,Ux.refl L⟩,MM.out⟩
 ·have t1:decide ((i:Int)<0)=V:=Ia D;go_wp2_with fail;refine(EbU lo gq L most i hi HL.out _ LQ.out Q1.out).mono ?_;rintro e w2 ⟨⟨v,rfl⟩,hq,m2⟩;go_wp2;go_ret;exact⟨⟨_,U⟩,hq,MM.out.trans m2⟩
theorem EbX(lo gq:Nat)(L:List One)(x:One)(most:Int)(came:Nat)(hl:L.length<=2)(w:M)(lq:lo<=gq)(v:G)(KQ:H w gq #[v,E I most,E Il came] 152)(KO:w.ownsRow lo 171 5 v L.length (IB L)): Eg Ea 246 #[.iface 236 (Y (X ⟨gq,0,Z⟩)),.iface 171 (EZ x.v.toArray)] w fun e w'=>e=Eh (Es #[])/\(∃(L':List One) (v':G),L'.Perm (L++[x])/\H w' gq #[v',E I most,E Il came] 152/\w'.ownsRow lo 171 5 v' L'.length (IB L'))/\Ix lo w w':=by
 obtain⟨A0,c0,rfl,-⟩:=aZ KO;match L,hl,KQ,KO with
 |[],_,KQ,KO=> exact(Ea6 lo gq c0 A0 x _ _ w lq KQ KO).mono fun e w' ⟨h1,⟨L',A,cp,hp,k1,k2⟩,h3⟩=>⟨h1,⟨L',_,hp,k1,Gh⟩,h3⟩
 |[a],_,KQ,KO=> exact(Ea7 lo gq c0 A0 a x _ _ w lq KQ KO).mono fun e w' ⟨h1,⟨L',A,cp,hp,k1,k2⟩,h3⟩=>⟨h1,⟨L',_,hp,k1,Gh⟩,h3⟩
 |[a,b],_,KQ,KO=> exact(Ea8 lo gq c0 A0 a b x _ _ w lq KQ KO).mono fun e w' ⟨h1,⟨L',A,cp,hp,k1,k2⟩,h3⟩=>⟨h1,⟨L',_,hp,k1,Gh⟩,h3⟩
 |_::_::_::_,h,_,_=>simp at h
def ri(lo gq:Nat)(L:List One)(most:Int)(s r a m:Int)(e:Uv)(w':M):Prop:=
 (∃cd:Int,cd≠0/\e=Eh (E I cd)/\Jk w' lo gq L most)\/
 (e=Eh (E I 0)/\(∀x∈L,x.s≠s)/\ ∃(L':List One) (came:Nat),came<18446744073709551616/\L'.Perm (L++[⟨s,r,a,m,came⟩])/\Jk w' lo gq L' most)
theorem EbZ(n:Nat):IntKind.u64.wrap ((n:Int)+1)=(((n+1)%18446744073709551616:Nat):Int):=by simp[na,jZ,ja]
theorem Eba(lo gq:Nat)(L:List One)(most:Int)(s r a m:Int)(w:M)(lq:lo<=gq)(Q:Jk w lo gq L most)(hl:L.length<=3)(hsub:(∀x∈L,x.s≠s)->L.length<=2): Eg Ea 218 #[Y (X ⟨gq,0,Z⟩),EZ #[E I s,E I r,E I a,E I m]] w fun e w'=>ri lo gq L most s r a m e w'/\Ix lo w w':=by
 have HQ:=J Q;have HL:=J hl;have LQ:=J lq;have HS:=J hsub;have lw:=J (show lo<=w.heap.size from oM);clear Q hl lq hsub;go_enter Tryz.func218,Tryz.ntmps218;have KA:=J<|H.new w #[E I s,E I r,E I a,E I m] 133;have b1:=J<|Er w (Ec #[E I s,E I r,E I a,E I m] 133);have Q1:=J<|HQ.out.u b1.out;go_wp2_with fail;refine(Rm lo gq L most s _ Q1.out HL.out).mono ?_;rintro e w1 ⟨⟨r1,rfl,hr⟩,b2⟩;replace Q1:=J<|Q1.out.u b2;replace KA:=EP KA b2;have MM:=J<|Ix.EC (bt b1.out b2) lw.out;clear b1 b2;obtain⟨ga,hga⟩:=Eo w.heap.size;rw[<-hga] at KA⊢;clear hga;rcases hr with⟨rfl,hno⟩|⟨i,hi,rfl⟩
 ·obtain⟨v,came,KQ,hc,KO⟩:=Q1.out;obtain⟨A0,c0,rfl,-⟩:=aZ KO;have KQ:=J KQ;have KO:=J KO;have Ro:=J hno;have HC:=J hc;clear hno hc;have cs0: ∀y:Ext w1,(EA w1 y).cell? ⟨gq,0,Z⟩=X (EJ A0 L.length c0):=fun y=>(H.cell (KQ.out.u (EL y)) 0).trans U;have cs1: ∀y:Ext w1,(EA w1 y).cell? ⟨gq,1,Z⟩=X (E I most):=fun y=>(H.cell (KQ.out.u (EL y)) 1).trans U;go_wp2_with fail;refine Zs Ef Ef ?_;repeat (go_big_quiet_step (fail))
  refine I2 ?_;intro _ hw';obtain⟨y9,rfl⟩:=hw';have En:=EL y9;replace Q1:=J<|Q1.out.u En;replace KA:=EP KA En;replace KQ:=EP KQ En;replace KO:=J<|EQ KO.out fun _ _ h=>H.u h En;replace MM:=J<|MM.out.trans (Ix.EC En (EB lw.out (by have:=MM.out.bel.size;omega)));clear cs0 cs1 En;generalize EA w1 y9=w2 at*;cases hfull:decide (most<=(L.length:Int)) with
  |true=> go_wp2;go_ret;exact⟨.inl ⟨_,Eb,U,Q1.out⟩,MM.out⟩
  |false=>
   have cs0: ∀y:Ext w2,(EA w2 y).cell? ⟨gq,0,Z⟩=X (EJ A0 L.length c0):=fun y=>(H.cell (KQ.out.u (EL y)) 0).trans U;have cs2: ∀y:Ext w2,(EA w2 y).cell? ⟨gq,2,Z⟩=X (E Il came):=fun y=>(H.cell (KQ.out.u (EL y)) 2).trans U;go_wp2_with fail;refine J_ 11 Ef Ef ?_;simp only[Is,Io,IS,IM]
   repeat (first
    |go_big_quiet_skip
    |(go_big_quiet_want
      first
       |(refine Og (T:=133) (g:=ga) iM _ rfl rfl KA ?_ ?_;(·rfl);go_simp;go_big_quiet_on)
       |(go_big_quiet_op
         first
          |go_big_quiet_on
          |go_big_quiet_call (fail))))
   refine I2 ?_;intro _ hw';obtain⟨y9,rfl⟩:=hw';have En:=EL y9;replace Q1:=J<|Q1.out.u En;replace KQ:=EP KQ En;replace KO:=J<|EQ KO.out fun _ _ h=>H.u h En;replace MM:=J<|MM.out.trans (Ix.EC En (EB lw.out (by have:=MM.out.bel.size;omega)));clear cs0 cs2 En KA;generalize EA w2 y9=w3 at*;have CP:Ed (Eg Ea 246 #[.iface 236 (Y (X ⟨gq,0,Z⟩)),.iface 171 (EZ #[E I s,E I r,E I a,E I m,E Il came])] w3 _):=J<|EbX lo gq L ⟨s,r,a,m,came⟩ most came (HS.out Ro.out) w3 LQ.out _ KQ.out KO.out;go_wp2_with fail;refine CP.out.mono ?_;rintro e w4 ⟨rfl,⟨L',v',hp,k1,k2⟩,m4⟩;replace MM:=J<|MM.out.trans m4;replace KQ:=J k1;replace KO:=J k2;have HP:=J hp;clear CP m4 k1 k2 hp;have c2:w4.cell? ⟨gq,2,Z⟩=X (E Il came):=(H.cell KQ.out 2).trans U;have ff:w4.frozen? ⟨gq,2,Z⟩=V:=H.I_ KQ.out 2;have e64:=EbZ came;have KS:=KQ.out.set 2 (E Il (((came+1)%18446744073709551616:Nat):Int));have M5:=MM.out.trans (Ix.cell KQ.out LQ.out 2 (E Il (((came+1)%18446744073709551616:Nat):Int)));have O5:=EQ KO.out (fun g2 c2 h2=>h2.other gq 2 (E Il (((came+1)%18446744073709551616:Nat):Int)) (cM h2 KQ.out Eb));replace KS:=J KS;replace M5:=J M5;replace O5:=J O5;generalize hz:(((came+1)%18446744073709551616:Nat):Int)=z at*;go_wp2;go_ret;subst hz;refine⟨.inr ⟨U,Ro.out,L',came,HC.out,HP.out,⟨_,(came+1)%18446744073709551616,?_,Nat.mod_lt _ Eb,O5.out⟩⟩,M5.out⟩;simpa using KS.out
 ·have t1:decide (0<=(i:Int))=EI:=IE D;go_wp2;go_ret;exact⟨.inl ⟨_,Eb,U,Q1.out⟩,MM.out⟩
theorem Ebb(T:Ez)(hT:T=149)(A:Option Ev)(n c:Nat)(w:M):(XG .eql T (EJ A n c) (EJ Z 0 0)).run Ea w= .ok (EU (match A with|none=>true|some _=>false)) w:=by subst hT;cases A<;>kernel_rfl
theorem Ebc(lo n c0:Nat)(A0:Option Ev)(L:List One)(w:M)(KO:w.ownsRow lo 171 5 (EJ A0 n c0) n (IB L))(hn:n<=1000000): Eg Ea 108 #[EJ A0 n c0] w fun e w'=>(∃A c,e=Eh (EJ A n c)/\w'.ownsRow w.heap.size 171 5 (EJ A n c) n (IB L))/\Ek w w':=by
 have IR:=J Gb;have hne:=Ebb 149 rfl;have KO:=J KO;rcases A0 with _|ad
 ·have h0:n=0:=by
   obtain⟨-,h2|⟨g,cap,cur,hv,-⟩⟩:=KO.out;·exact h2.2
   ·cases hv
  subst h0;have hL:IB L=[]:=ao (by simpa using KO.out.1);rw[hL];have hne0:=hne Z 0 c0 w;go_enter Tryz.func108,Tryz.ntmps108;go_wp2;go_ret;exact⟨⟨_,_,U,bw _ _ _ _⟩,E_ _ _⟩
 ·obtain⟨g,cap,cur,hv,hg,hh,hnc,hcm,hcs,ht⟩:=KO.out.2.resolve_left (fun h=>by cases h.1);injection hv with e1 _ e3;injection e1 with e1;subst e1 e3;have CL:Ed (∀W,H W g cur 171-> ∀(j:Nat) (Y3:G),(IB L)[j]?=X Y3->W.cell? ((⟨g,0,Z⟩:Ev).add j)=X Y3):=J (fun W hk j Y3 hu=>by rw[show(⟨g,0,Z⟩:Ev).add j=⟨g,j,Z⟩ from Xo];rw[H.cell hk,<-Array.getElem?_toList];rw[<-ht] at hu;rw[<-hu,bU];have:=(Xr.1 hu).1;simp at this;omega);have HK:Ed (H w g cur 171):=J hh;have Gf:Ed ((IB L).length=n*5):=J KO.out.1;have H1:Ed (∀Y3∈IB L,Y3.oneCell'=EI):=J (by intro Y3 hu;simp only[IB,List.mem_flatMap] at hu;obtain⟨x,-,hx⟩:=hu;simp only[One.v,OY,Uu,or_false] at hx;rcases hx with rfl|rfl|rfl|rfl|rfl<;>rfl);have hne0:=hne (X ⟨g,0,Z⟩) n c0 w;clear hh hcs ht;go_enter Tryz.func108,Tryz.ntmps108;go_wp2_with (with_reducible refine JU 7 ?_);apply Et;have OW:=J<|World.ownsRow_lit (base:=w.heap.size) (size:=5) (e:=171) w #[] 0 (E9 _) Oy U;have b1:=J<|Er w (Ec #[] 171);have K1:=EP HK b1.out;obtain⟨w1,hw1⟩: ∃w1,w1=w.alloc (Ec #[] 171):=⟨_,U⟩;rw[<-hw1] at OW b1 K1⊢;clear hw1;obtain⟨A7,c7,w7,hrun,hown,hgr,-,-⟩:=cU (P:=Ea) w1 w.heap.size w.heap.size 149 149 171 IR.out.choose _ 5 40 Tryz.underlying149 IR.out.choose_spec.1 IR.out.choose_spec.2.1 IR.out.choose_spec.2.2.1 IR.out.choose_spec.2.2.2 rfl _ 0 0 [] OW.out ⟨g,0,Z⟩ n c0 (IB L) Gf.out (CL.out _ K1.out) H1.out (fun h=>Uq) Oy D b1.out.size (E9 _);have uq:=J hown;have B7:=J<|b1.out.trans (hgr.2.1 b1.out.size);clear hgr hown;go_wp2_with ((with_reducible refine It 7 ?_);(refine Jq (Ei U) (UU U U U hrun) ?_));go_ret;refine⟨⟨A7,c7,?_,?_⟩,B7.out⟩;·rfl
  ·have:=uq.out;exact EmM
def UF(l:List One):List G:=l.flatMap fun x=>[E I x.s,E I x.r,E I x.a,E I x.m]
theorem Ebd(l:List One):(UF l).length=l.length*4:=by
 induction l with
 |nil=>rfl
 |cons x r ih=>simp only[UF,nA,I1,Zw] at*;rw[ih];simp;omega
theorem Rp(L:List One)(x:One):UF (L++[x])=UF L++[E I x.s,E I x.r,E I x.a,E I x.m]:=by simp[UF]
theorem Ebf(base n c:Nat)(A:Option Ev)(L:List One)(w:M)(hl:L.length=n)(h3:n<=3)(KO:w.ownsRow base 171 5 (EJ A n c) n (IB L))(hb:base<=w.heap.size): Eg Ea 109 #[.iface 149 (EJ A n c)] w fun e w'=>e=Eh (Es #[])/\w'.ownsRow base 171 5 (EJ A n c) n (IB (Jt L))/\Ir base w w':=by
 subst hl;match L,h3,KO with
 |[],_,KO=>exact(EIZ A c w).mono fun e w' ⟨h1,h2⟩=>Rq
 |[a],_,KO=>exact(sort_1 A c w).mono fun e w' ⟨h1,h2⟩=>Rq
 |[a,b],_,KO=> obtain⟨g,rest,rfl,lg,hnc,hcm,kl,hll⟩:=iL KO Ej;refine(EIa g a b rest c w kl).mono fun e w' ⟨h1,h2,h3⟩=>⟨h1,?_,h3.bel base lg hb⟩;refine rg h2 ?_ (fP _) lg hnc hcm;rw[<-hll,I1,I1,bi,bi,fP]
 |[a,b,d],_,KO=> obtain⟨g,rest,rfl,lg,hnc,hcm,kl,hll⟩:=iL KO Ej;refine(EIb g a b d rest c w kl).mono fun e w' ⟨h1,h2,h3⟩=>⟨h1,?_,h3.bel base lg hb⟩;refine rg h2 ?_ (fP _) lg hnc hcm;rw[<-hll,I1,I1,bi,bi,fP]
 |_::_::_::_::_,h,_=>simp at h
theorem Rr(lo gq:Nat)(L:List One)(most:Int)(w:M)(Q:Jk w lo gq L most)(hl:L.length<=3): Eg Ea 75 #[Y (X ⟨gq,0,Z⟩)] w fun e w'=>(∃A c,e=Eh (EJ A L.length c)/\w'.ownsRow w.heap.size 171 5 (EJ A L.length c) L.length (IB (Jt L)))/\Ek w w':=by obtain⟨v,came,KQ,hc,KO⟩:=Q;obtain⟨A0,c0,rfl,-⟩:=aZ KO;have HL:=J hl;have cq:w.cell? ⟨gq,0,Z⟩=X (EJ A0 L.length c0):=(H.cell KQ 0).trans U;have KO:=J KO;clear KQ hc;go_enter Tryz.func75,Tryz.ntmps75;go_wp2_with fail;refine(Ebc lo L.length c0 A0 L _ KO.out JK).mono ?_;rintro e w1 ⟨⟨A1,c1,rfl,o1⟩,b1⟩;have O1:=J o1;have B1:=J b1;clear o1 b1;go_wp2_with fail;refine(Ebf w.heap.size L.length c1 A1 L _ U HL.out O1.out B1.out.size).mono ?_;rintro e w2 ⟨rfl,o2,b2⟩;have O2:=J o2;replace B1:=J<|B1.out.trans b2;clear o2 b2;go_wp2;go_ret;exact⟨⟨A1,c1,U,O2.out⟩,B1.out⟩
theorem Rs: ∃i,Tryz.prog.info? 133=X i/\i.zero=X (EZ #[E I 0,E I 0,E I 0,E I 0])/\i.size=4/\i.bytes=32:=by have h:(Tryz.prog.info? 133).map (fun i=>(i.zero,i.size,i.bytes))=X (X (EZ #[E I 0,E I 0,E I 0,E I 0]),4,32):=Ef;exact Elh
theorem Gi(lo gq:Nat)(L:List One)(most:Int)(w:M)(Q:Jk w lo gq L most)(hl:L.length<=3): Eg Ea 54 #[Y (X ⟨gq,0,Z⟩)] w fun e w'=>(∃v,e=Eh v/\w'.ownsRow w.heap.size 133 4 v L.length (UF (Jt L)))/\Ek w w':=by
 have HQ:=J Q;have HL:=J hl;have IR:=J Rs;have cS:=J<|fP L;have CS:=J<|Rr lo gq L most w Q hl;clear Q hl HQ;obtain⟨S,hS⟩:=Eo (Jt L);obtain⟨n,hn⟩:=Eo L.length;rw[<-hS] at cS CS⊢;rw[<-hn] at cS HL CS⊢;clear hS hn;go_enter Tryz.func54,Tryz.ntmps54;go_wp2_with fail;refine CS.out.mono ?_;rintro e w1 ⟨⟨A1,c1,rfl,o1⟩,b1⟩;have O1:=J o1;have B1:=J b1;clear o1 b1 CS;go_wp2_with fail;go_loopw[3,9] (fun v y wr=> ∃(i:Nat) (A:Option Ev) (c:Nat),i<=n/\y=E I i/\v=EJ A i c/\wr.ownsRow w.heap.size 133 4 (EJ A i c) i (UF (S.take i))/\wr.ownsRow w.heap.size 171 5 (EJ A1 n c1) n (IB S)/\Ek w wr) (fun _ y _=>n-(I5 y).toNat);case atStart=>exact⟨0,Z,0,D,U,U,bw _ _ _ _,O1.out,B1.out⟩
 case round=>
  obtain⟨i,A2,c2,hi,rfl,rfl,o2,o1,B⟩:=hrel;replace B:=J B;have OL:=J o2;have OO:=J o1;clear o1 o2;by_cases hlt:i<n
  ·have t1:decide ((i:Int)<(n:Int))=EI:=IE D;have hil:i<S.length:=by rw[cS.out];exact hlt
   obtain⟨x,hx⟩: ∃x,S[i]?=X x:=⟨S[i],JY hil⟩;obtain⟨g,rest,rfl,lg,hnc,hcm,kl,hll⟩:=iL OO.out D;have EX:Ed ((IB S++rest).toArray.extract (i*5) (i*5+5)= #[E I x.s,E I x.r,E I x.a,E I x.m,E Il x.n]):=J<|Ln.ext (rest:=rest) i hx;have KK:Ed (H wr g (IB S++rest).toArray 171):=J kl;have HT:Ed (S.take (i+1)=S.take i++[x]):=J (by rw[lL,hx];rfl);have Gj:=HL.out;clear kl hll hx hcm;go_wp2_with (with_reducible first|refine wM (off:=i*5) (cs:= #[E I x.s,E I x.r,E I x.a,E I x.m,E Il x.n]) bj KK ?_ (he:=EX.out)|refine dc 171 ?_);apply Et;clear KK EX;generalize hW:XX _ _=w2 at*;have KX:Ed (H w2 (wr.heap.size) #[E I 0,E I 0,E I 0,E I 0,E Il 0] 171):=J (by subst hW;repeat (first|exact H.new _ _ _|exact H.new' _ _ _ Ej|refine H.alloc ?_ _));have b2:Ed (Ek wr w2):=J Rt;clear hW;have lw:=B.out.size;obtain⟨gx,hgx⟩:=Eo wr.heap.size;rw[<-hgx] at KX⊢;have LX:=J (show wr.heap.size<=gx from D);clear hgx;go_wp2_with (with_reducible refine wS (cs:= #[E I x.s,E I x.r,E I x.a,E I x.m,E Il x.n]) bj KX (Ey.mk ?_) (h1:=UP));apply Et;replace KX:=J<|KX.out.setRow #[E I x.s,E I x.r,E I x.a,E I x.m,E Il x.n];replace b2:=J<|E6 (g:=gx) b2.out LX.out #[E I x.s,E I x.r,E I x.a,E I x.m,E Il x.n];generalize w2.setRow gx #[E I x.s,E I x.r,E I x.a,E I x.m,E Il x.n]=w3 at*;replace OL:=J<|EQ OL.out fun _ _ h=>H.u h b2.out;replace OO:=J<|EQ OO.out fun _ _ h=>H.u h b2.out;replace B:=EW B b2.out;clear b2 LX lw;go_wp2_with (with_reducible first|refine wM (off:=0) (cs:= #[E I x.s,E I x.r,E I x.a,E I x.m]) iM KX ?_ (he:=zQ)|refine JU 17 ?_);apply Et;have KB:=J<|H.new w3 #[E I x.s,E I x.r,E I x.a,E I x.m] 133;have b4:=J<|Er w3 (Ec #[E I x.s,E I x.r,E I x.a,E I x.m] 133);replace OL:=J<|EQ OL.out fun _ _ h=>H.u h b4.out;replace OO:=J<|EQ OO.out fun _ _ h=>H.u h b4.out;replace B:=EW B b4.out;clear b4 KX;generalize w3.alloc (Ec #[E I x.s,E I x.r,E I x.a,E I x.m] 133)=w4 at*;generalize w3.heap.size=gb at*;obtain⟨qA,qc,qw,UG,XR,OU,-,-⟩:=cU (P:=Ea) _ w.heap.size w.heap.size 130 130 133 IR.out.choose _ 4 32 Tryz.underlying130 IR.out.choose_spec.1 IR.out.choose_spec.2.1 IR.out.choose_spec.2.2.1 IR.out.choose_spec.2.2.2 rfl A2 c2 i (UF (S.take i)) OL.out ⟨gb,0,Z⟩ 1 1 [E I x.s,E I x.r,E I x.a,E I x.m] U (fun j Y3 hu=>by rw[show(⟨gb,0,Z⟩:Ev).add j=⟨gb,j,Z⟩ from Xo];rw[H.cell KB.out,J0];exact hu) cR (fun _=>D) Oy D B.out.size (E9 _);go_wp2_with ((with_reducible refine It 17 ?_);(refine Jq (Ei U) (UU U U U UG) ?_);refine Ey.mk ?_);apply Et;have rj:=J XR;rw[<-Rp,<-HT.out] at rj;replace OO:=J<|EQ OO.out fun g2 c2 h2=>XN OU h2 Eb;replace B:=J<|B.out.trans (OU.2.1 B.out.size);clear XR OU UG OL KB;go_wp2_with fail;refine⟨⟨i+1,qA,qc,D,Ej,U,rj.out,OO.out,B.out⟩,J6⟩
  ·obtain rfl:i=n:=D;have t1:decide ((i:Int)<(i:Int))=V:=Ia D;go_wp2;go_ret;refine⟨⟨_,U,?_⟩,B.out⟩;have:=OL.out;rw[OV Ru] at this;exact this
end Go.Proofs.YtclmichaaiohjaaGreatDoor
