import Derived.Test.YtclmichaaiohjaaGreatDoorU01
import Derived.Laws.BytesArg
import Derived.Laws.EntriesVeiled
import Derived.Lib.BitFns
import Derived.Lib.Slices
import Derived.Lib.Small
import Derived.Lib.Strings
import Derived.Maps.AppendAt
import Derived.OwnWalk
set_option maxRecDepth 100000
set_option linter.unusedVariables false
set_option linter.unusedSimpArgs false
set_option maxHeartbeats 6400000
namespace Go.Proofs.YtclmichaaiohjaaGreatDoor
open RowKit
open _root_.Array renaming getElem?_eq_none->gQ
open Bool renaming true->EI,false->B,false_eq_true->kO
open Go renaming bits->Iu,World->H,Calls->Ef,TypeId->EB,Value->Y,Addr->Eu,Program->Jh,heap_alloc_new->fz,bodyPost_ret->EV,results->UL,Exit->UM,Act->E6,Oper->EL,yielded->JO,execOp->If,wpList->Ic,undef->I2,Operand->J7,info_parts->bz,madeCells->aL,below_setRow->E2,wpQuiet_nil->I1,method->XY,callFunc->Jd,wp_loop_rounds->Ud,rounds_succ->Ij,results_none->UQ,Ending->Uh
open Act renaming put->Ig
open Builtin renaming append_->bv
open Code renaming region->aG
open DataW renaming trod->Zx
open Ending renaming returned->Eg
open Instr renaming loadAt->fB,sureAddr->dJ
open IntKind renaming wrap->oI,bits->jV,signed->jW,i64->I,u8->IL,u64->Im
open Lib renaming hid->J
open Obj renaming cells->EJ
open Oper renaming wp->dI
open Go.Proofs.Tryz renaming prog->Eb,underlying23->bA
open Region renaming wanted->I5,binds->UN
open Result renaming andThen_ok->OC
open RowKit renaming Below->Ik,Hid->Ec,intOf->Ir
open RowKit.Below renaming refl->E9,heap_setCell->XK,alloc->JQ,setCell->JR
open Sem renaming run_bind->Oz,run_pure->Og,run->Us
open Value renaming bool->EU,int->E,agg->EZ,slice->G,tuple->Et,pointer->M,oneCell'->OF,ownBlock->mx
open World renaming setCell->dN,alloc->Uz,ownsRow_nil->bN,ownsRow_lit->oC
open Int renaming toNat_natCast->mO,eq_ofNat_of_zero_le->jU
open List renaming getElem?_eq_none->bf,eq_nil_of_length_eq_zero->aF,getElem?_eq_getElem->J5,range->U4,mem_range->aH,mem_filterMap->ma,nodup_cons->mc,all_eq_true->Xk,getElem?_eq_some_iff->Xx,mem_iff_getElem?->fC,take_append_drop->gT,drop_eq_getElem_cons->mg,length_take->aO,replicate->dT,getD_eq_getElem?_getD->Uq,getElem?_append_left->bi,getElem?_take_of_lt->bj,getElem?_append_right->aX,map_cons->Uv,map_nil->Xn,mem_map->dU,getElem?_toArray->OE,setIfInBounds_toArray->Ii,length_append->IY,flatMap_cons->kI,mem_cons->UJ,getElem_mem->gY,append_assoc->XI,set_cons_succ->Ia,set_cons_zero->Ib,mem_append->XM,map_append->kU,nil_append->ZV,length_drop->mB,getElem?_cons_zero->kZ,not_mem_nil->UA
open Nat renaming lt_or_ge->JY,le_trans->Ez,le_refl->E7,zero_add->OD
open Ne renaming symm->ZE
open Option renaming some->Z,none->X,map_some->jY
open KQ
variable{g hi n0 n i id base cap lo:Nat}{cs:Array Y}{S:EB}{ops:Array EL}{F:(Nat->Y)->E6}{R:Nat->(Nat->Y)->H->Prop}{o:EL}{x:One}{w w0 w' W:H}{Ph:Nat->H->Prop}{l:List EL}{a0:E6}{L:List One}{rest:List Y}{A:Option Eu}{xs:List Int}{Q:UM->E6->H->Prop}{P:Jh}{gp:Y}
structure JP(Y8:Nat->EB->Option (Array Y))(w w':H):Prop where
 os:w'.os=w.os
 tape:w'.tape=w.tape
 output:w'.output=w.output
 size:w.heap.size<=w'.heap.size
 keep: ∀k,k<w.heap.size->(∀c S,D w k c S->Y8 k S=X)->w'.heap[k]?=w.heap[k]?
 rp: ∀k c S,D w k c S->D w' k c S\/ ∃cs,Y8 k S=Z cs/\cs.size=c.size/\D w' k cs S
section
variable{Y8:Nat->TypeId->Option (Array Value)}{w w' w'':World}
theorem JP.refl(w:H):JP Y8 w w:=⟨O,O,O,E7 _,fun _ _ _=>rfl,fun _ _ _ h=> .inl h⟩
theorem JP.trans(h:JP Y8 w w')(k:JP Y8 w' w''):JP Y8 w w'':=by
 refine⟨k.os.trans h.os,k.tape.trans h.tape,k.output.trans h.output,Ez h.size k.size,fun i hi hm=> ?_,fun i c S hb=> ?_⟩;·have e:=h.keep i hi hm;refine(k.keep i (Nat.lt_of_lt_of_le hi h.size) fun c S hb=>hm c S ?_).trans e;unfold D at*;rw[<-e];exact hb
 ·rcases h.rp i c S hb with h1|⟨cs,e,s,h1⟩;·exact k.rp i c S h1
  ·rcases k.rp i cs S h1 with h2|⟨cs',e',s',h2⟩;·exact .inr ⟨cs,e,s,h2⟩
   ·exact .inr ⟨cs',e',s'.trans s,h2⟩
theorem JP.kept:Kept (JP Y8):=⟨JP.refl,fun _ _ _ h k=>h.trans k,fun w=>⟨O,O,O,E7 _,fun _ _ _=>rfl,fun _ _ _ h=> .inl h⟩⟩
theorem JP.V(h:El w w'):JP Y8 w w':=⟨h.os,h.tape,h.output,h.size,fun k hk _=>h.block k hk,fun _ _ _ hb=> .inl (hb.V h)⟩
theorem JP.Ek(h:JP Y8 w w'){g:Nat}{c:Array Y}{S:EB}(k:D w g c S)(hm:Y8 g S=X):D w' g c S:=by
 rcases h.rp g c S k with h1|⟨cs,e,-⟩;·exact h1
 ·rw[hm] at e;cases e
theorem JP.same(h:JP Y8 w w'){g:Nat}{c:Array Y}{S:EB}(k:D w g c S)(hm: ∀cs,Y8 g S=Z cs->cs=c):D w' g c S:=by
 rcases h.rp g c S k with h1|⟨cs,e,-,h1⟩;·exact h1
 ·rw[hm cs e] at h1;exact h1
theorem JP.some(h:JP Y8 w w'){g:Nat}{c:Array Y}{S:EB}(k:D w g c S): ∃c',c'.size=c.size/\D w' g c' S:=by
 rcases h.rp g c S k with h1|⟨cs,-,s,h1⟩;·exact⟨c,O,h1⟩
 ·exact⟨cs,s,h1⟩
theorem JP.setRow{old:Array Y}(k:D w g old S)(hm:Y8 g S=Option.some cs)(hs:cs.size=old.size):JP Y8 w (w.setRow g cs):=by
 refine⟨O,O,O,Eh,fun i hi hn=>setRow_other w g i cs fun e=> ?_,fun i c T hb=> ?_⟩;·subst e;have:=hn old S k;rw[hm] at this;cases this
 ·by_cases e:i=g;·subst e;have e2:=(show Option.some (EJ c T (0,0))=Option.some (EJ old S (0,0)) from hb.symm.trans k);injection e2 with e2;injection e2 with e3 e4;subst e3 e4;exact .inr ⟨cs,hm,hs,k.setRow cs⟩
  ·exact .inl (hb.setRow_other g cs e)
theorem JP.Pp(h:JP Y8 w w')(hh:hi<=w.heap.size)(hm: ∀k S cs,Y8 k S=Option.some cs->hi<=k):Ik hi w w':=
 ⟨h.os,h.tape,h.output,h.size,fun k hk=>h.keep k U fun c S _=>by
  cases e:Y8 k S with
  |none=>rfl
  |some cs=>have:=hm k S cs e;omega⟩
end
def EJl(n0:Nat)(T:EB)(n:Nat)(v:Y)(w:H):Prop:= ∃(b:Nat) (c:Array Y),v=M (Z ⟨b,0,X⟩)/\n0<=b/\c.size=n/\D w b c T
def EJm(n0:Nat)(T:EB)(cs:Array Y)(v:Y)(w:H):Prop:= ∃b:Nat,v=M (Z ⟨b,0,X⟩)/\n0<=b/\D w b cs T
inductive Kn where
 |val (p:Y->Prop)
 |made (T:EB) (n:Nat)
 |into (k:Nat) (T:EB) (cs:Array Y)
 |onto (g:Nat) (T:EB) (cs:Array Y)
instance(x):CoeDep KQ (KQ.kq x) Kn:=⟨.val fun v=>v=x⟩
instance(g i):CoeDep KQ (KQ.kp g i) Kn:=⟨.val fun v=>v=M (Z ⟨g,i,X⟩)⟩
def RK(n0:Nat)(K:Nat->Kn)(i:Nat)(x:Nat->Y)(w:H):Prop:=match K i with
 | .val p=>p (x i)
 | .made T n=>EJl n0 T n (x i) w
 | .into k T cs=>EJm n0 T cs (x k) w
 | .onto g T cs=>D w g cs T
theorem RK.keep{K:Nat->Kn}{Rel:H->H->Prop}(h1: ∀i T m,i<n->K i= .made T m-> ∀b c w w',D w b c T->Rel w w'-> ∃c',c'.size=c.size/\D w' b c' T) (h2: ∀i k T cs,i<n->K i= .into k T cs-> ∀b w w',n0<=b->D w b cs T->Rel w w'->D w' b cs T) (h3: ∀i g T cs,i<n->K i= .onto g T cs-> ∀w w',D w g cs T->Rel w w'->D w' g cs T): ∀i x w w',i<n->RK n0 K i x w->Rel w w'->RK n0 K i x w':=by
 intro i x w w' hi h hr;unfold RK at*;cases e:K i with
 |val p=>rw[e] at h;exact h
 |made T m=> rw[e] at h;obtain⟨b,c,hv,hb,hs,hk⟩:=h;obtain⟨c',hs',hk'⟩:=h1 i T m hi e b c w w' hk hr;exact⟨b,c',hv,hb,hs'.trans hs,hk'⟩
 |into k T cs=> rw[e] at h;obtain⟨b,hv,hb,hk⟩:=h;exact⟨b,hv,hb,h2 i k T cs hi e b w w' hb hk hr⟩
 |onto g T cs=>rw[e] at h;exact h3 i g T cs hi e w w' h hr
def kM(n0:Nat)(Ks:List Kn)(b:Nat)(S:EB):Option (Array Y):=Ks.findSome? fun k=>match k with
 | .into _ T cs=>if n0<=b/\S=T then Z cs else X
 | .onto g T cs=>if b=g/\S=T then Z cs else X
 |_=>X
theorem Pq{Ks:List Kn}{b:Nat}(h:kM n0 Ks b S=Z cs): ∃k∈Ks,(∃j,k= .into j S cs/\n0<=b)\/(k= .onto b S cs):=by
 unfold kM at h;obtain⟨k,hk,hv⟩:=List.exists_of_findSome?_eq_some h;refine⟨k,hk,?_⟩;cases k with
 |val p=>cases hv
 |made T n=>cases hv
 |into j T c=>
  simp only at hv;split at hv;·rename_i he;obtain⟨h1,rfl⟩:=he;injection hv with hv;subst hv;exact .inl ⟨j,rfl,h1⟩
  ·cases hv
 |onto g T c=>
  simp only at hv;split at hv;·rename_i he;obtain⟨rfl,rfl⟩:=he;injection hv with hv;subst hv;exact .inr rfl
  ·cases hv
theorem EJn{Ks:List Kn}{b:Nat}(h:kM n0 Ks b S=Z cs)(hon: ∀g T c,Kn.onto g T c∈Ks->hi<=g)(hn:hi<=n0):hi<=b:=by
 obtain⟨k,hk,⟨j,-,h1⟩|e⟩:=Pq h;·exact Ez hn h1
 ·subst e;exact hon b S cs hk
def Kn.st:Kn->Option EB
 | .into _ T _=>Z T
 | .onto _ T _=>Z T
 |_=>X
def Kn.ty:Kn->Option EB
 | .made T _=>Z T
 | .into _ T _=>Z T
 | .onto _ T _=>Z T
 |_=>X
theorem Pr: ∀{Ks:List Kn},(Ks.filterMap Kn.st).Nodup-> ∀{b:Nat} {T:EB} {cs c':Array Y} {k:Kn},k∈Ks->(k.st=Z T)->(∀c,(∃j,k= .into j T c)\/(∃g,k= .onto g T c)->c=cs)->kM n0 Ks b T=Z c'->c'=cs:=by
 intro Ks hn b T cs c' k hk ht hc h;obtain⟨k',hk',h'⟩:=Pq h;have ht':k'.st=Z T:=by rcases h' with⟨j,rfl,-⟩|rfl<;>rfl
 have e:k=k':=by
  obtain⟨i,hi⟩:=fC.1 hk;obtain⟨i',hi'⟩:=fC.1 hk';clear hc h h' hk hk';induction Ks generalizing i i' with
  |nil=>simp at hi
  |cons a r ih=>
   have hr:(r.filterMap Kn.st).Nodup:=by
    cases ha:a.st with
    |none=>rw[List.filterMap_cons_none ha] at hn;exact hn
    |some s=>rw[List.filterMap_cons_some ha] at hn;exact(mc.1 hn).2
   have hmem: ∀(q:Kn) (Y3:Nat),r[Y3]?=Z q->q.st=Z T->a.st≠Z T:=by intro q Y3 hu hq ha;rw[List.filterMap_cons_some ha] at hn;exact(mc.1 hn).1 (ma.2 ⟨q,fC.2 ⟨Y3,hu⟩,hq⟩)
   cases i with
   |zero=>
    cases i' with
    |zero=>simp at hi hi';exact hi.symm.trans hi'
    |succ Y3=>simp at hi hi';subst hi;exact absurd ht (hmem k' Y3 hi' ht')
   |succ v=>
    cases i' with
    |zero=>simp at hi hi';subst hi';exact absurd ht' (hmem k v hi ht)
    |succ Y3=>exact ih hr v U5 Y3 (by simpa using hi')
 subst e;rcases h' with⟨j,e,-⟩|e;·exact hc c' (.inl ⟨j,e⟩)
 ·exact hc c' (.inr ⟨b,e⟩)
def kN(Ks:List Kn)(i:Nat):Kn:=Ks.getD i (.val fun _=>True)
theorem uJ{Ks:List Kn}(h:i<Ks.length):kN Ks i∈Ks:=by unfold kN;rw[Uq,J5 h];exact gY h
section
variable{P:Program}{Q:Exit->Act->World->Prop}
def Ps(o:EL)(a:E6)(T:EB)(g off:Nat)(cs:Array Y):Prop:=match o.op with| .store t x y=>t=T/\a.eval x=M (Z ⟨g,off,X⟩)/\a.eval y=EZ cs|_=>False
theorem Pu{Rel:H->H->Prop}{x:Nat->Y}{T:EB}{off:Nat}(hA:IG P T n)(hw:I5 o (JO ops (F x).tmps)=EI)(hl:Ps o (F x) T g off cs)(ht:w.there g off n)(hn:cs.size=n) (h1:cs.all (·.oneCell')=EI) (hb:Rel w (w.setCells g off cs.toList)) (h:R i (Oo x i I2) (w.setCells g off cs.toList)):Zf Rel P ops Q F R i o x w:=by
 obtain⟨-,hi⟩:=hA;unfold Ps at hl;split at hl
 ·rename_i t a b hop;obtain⟨rfl,hx,hy⟩:=hl;unfold Zf;rw[if_pos hw];subst hn;have hrun:(If (F x).eval o).run P w= .ok .skip (w.setCells g off cs.toList):=by unfold If;simp only[hop,hx,hy,Oz,run_storeAt_mid w g off t cs ht hi h1,Og,OC]
  unfold dI;rw[hrun];exact⟨I2,rfl,hb,h⟩
 ·exact hl.elim
theorem Pv{Is:H->H->Prop}(n0:Nat)(Ks:List Kn)(cs:List Nat)(ks:List (Nat×Nat))(hm:P.follows .mixedOrders=EI)(hB:mn l.toArray=EI)(hK:kJ l.toArray cs ks=EI)(hlk:(ks.all fun p=>decide (p.1<=cs.length))=EI)(hnd:(O9 l).Nodup) (hcg:(cs.all fun c=>match l[c]? with|some o=>o.guard.isNone|none=>false)=EI) (hlen:Ks.length=l.length) (hst:(Ks.filterMap Kn.st).Nodup) (hwt:((U4 Ks.length).all fun i=>match kN Ks i with| .into k _ _=>(match l.toArray[i]? with|some o=>o.after.toList.any (fun e=>UN .any e&&e.on==k)|none=>false)|_=>true)=EI) (hPh: ∀b w w',Ph b w->JP (kM n0 Ks) w w'->Ph b w') (hR2: ∀T,T∈Ks.filterMap Kn.ty-> ∀b c w w',D w b c T->Is w w'->D w' b c T) (h0:Ph 0 w0.drew) (hstep:gW Ph (JP (kM n0 Ks)) Is P l.toArray Q (fun x=>EH l 0 x a0) (RK n0 (kN Ks)) cs 0 l ks) (hend: ∀x w,Ph cs.length w->(∀i,i<l.length->RK n0 (kN Ks) i x w)->Ic P l.toArray Q [] (EH l 0 x a0) w):(aG id l.toArray EI).wp P Q a0 w0:=by
 refine EJj cs ks hm hB hK hlk hnd (RK n0 (kN Ks)) hcg hPh (RK.keep ?_ ?_ ?_) (RK.keep ?_ ?_ ?_) ?_ h0 hstep hend;·intro i T m _ _ b c w w' hb hr;exact hr.some hb
 ·intro i k T c hi he b w w' _ hb hr;refine hr.same hb fun c' hc'=> ?_
  exact Pr hst (uJ (U:i<Ks.length)) mr (fun c2 h=>by
   rw[he] at h;rcases h with⟨j,e⟩|⟨g,e⟩;·cases e;rfl
   ·cases e) hc'
 ·intro i g T c hi he w w' hb hr;refine hr.same hb fun c' hc'=> ?_
  exact Pr hst (uJ (U:i<Ks.length)) mr (fun c2 h=>by
   rw[he] at h;rcases h with⟨j,e⟩|⟨g,e⟩;·cases e
   ·cases e;rfl) hc'
 ·intro i T m hi he b c w w' hb hr;exact⟨c,O,hR2 T (ma.2 ⟨_,uJ (U:i<Ks.length),mr⟩) b c w w' hb hr⟩
 ·intro i k T c hi he b w w' _ hb hr;exact hR2 T (ma.2 ⟨_,uJ (U:i<Ks.length),mr⟩) b c w w' hb hr
 ·intro i g T c hi he w w' hb hr;exact hR2 T (ma.2 ⟨_,uJ (U:i<Ks.length),mr⟩) g c w w' hb hr
 ·intro i x y w hi hq h;unfold RK at*;cases e:kN Ks i with
  |val p=>rw[e] at h;simp only at h⊢;rw[<-hq i (.inl O)];exact h
  |made T m=>rw[e] at h;simp only at h⊢;rw[<-hq i (.inl O)];exact h
  |into k T c=> rw[e] at h;simp only at h⊢;have h1:=Xk.1 hwt i (aH.2 U);rw[e] at h1;rw[<-hq k (.inr (uE h1))];exact h
  |onto g T c=>rw[e] at h;exact h
theorem Fy{Rel:H->H->Prop}{x:Nat->Y}(hw:I5 o (JO ops (F x).tmps)=EI) (hr:(If (F x).eval o).run P w= .ok .skip w') (hb:Rel w w') (h:R i (Oo x i I2) w'):Zf Rel P ops Q F R i o x w:=by unfold Zf;rw[if_pos hw];unfold dI;rw[hr];exact⟨I2,O,hb,h⟩
inductive g_(Rel Is:H->H->Prop) where
 |val (p:Y->Prop)
 |dep (s:Y->H->Prop) (h1: ∀v w w',s v w->Rel w w'->s v w') (h2: ∀v w w',s v w->Is w w'->s v w')
 |late (s:Y->H->Prop) (h1: ∀v w w',s v w->Rel w w'->s v w')
instance{Rel Is}(x):CoeDep KQ (KQ.kq x) (g_ Rel Is):=⟨.val fun v=>v=x⟩
instance{Rel Is}(g i):CoeDep KQ (KQ.kp g i) (g_ Rel Is):=⟨.val fun v=>v=M (Z ⟨g,i,X⟩)⟩
def g_.mw{Rel Is:H->H->Prop}:g_ Rel Is->Bool
 | .late _ _=>EI
 |_=>B
def RQ{Rel Is:H->H->Prop}(K:Nat->g_ Rel Is)(i:Nat)(x:Nat->Y)(w:H):Prop:=match K i with
 | .val p=>p (x i)
 | .dep s _ _=>s (x i) w
 | .late s _=>s (x i) w
def kQ{Rel Is:H->H->Prop}(Ks:List (g_ Rel Is))(i:Nat):g_ Rel Is:=Ks.getD i (.val fun _=>True)
def Pw(ops:Array EL)(cs:List Nat)(tags:List Bool):Bool:=(U4 tags.length).all fun i=> !(tags.getD i B)||cs.all fun c=>decide (i=c)||fH ops ops.size i c
theorem EJo{Rel Is:H->H->Prop}{Ks:List (g_ Rel Is)}{tags:List Bool}(h:Ks.map g_.mw=tags)(i:Nat)(hl:(kQ Ks i).mw=EI):i<tags.length/\tags.getD i B=EI:=by
 subst h;unfold kQ at hl;by_cases hi:i<Ks.length;·exact En1
 ·rw[Uq,bf U] at hl;cases hl
theorem bH{Rel Is:H->H->Prop}(Ks:List (g_ Rel Is))(tags:List Bool)(htag:Ks.map g_.mw=tags)(cs:List Nat)(ks:List (Nat×Nat))(hm:P.follows .mixedOrders=EI)(hB:mn l.toArray=EI)(hK:kJ l.toArray cs ks=EI)(hlt:Pw l.toArray cs tags=EI)(hlk:(ks.all fun p=>decide (p.1<=cs.length))=EI)(hnd:(O9 l).Nodup) (hcg:(cs.all fun c=>match l[c]? with|some o=>o.guard.isNone|none=>false)=EI) (hPh: ∀b w w',Ph b w->Rel w w'->Ph b w') (h0:Ph 0 w0.drew) (hstep:gW Ph Rel Is P l.toArray Q (fun x=>EH l 0 x a0) (RQ (kQ Ks)) cs 0 l ks) (hend: ∀x w,Ph cs.length w->(∀i,i<l.length->RQ (kQ Ks) i x w)->Ic P l.toArray Q [] (EH l 0 x a0) w):(aG id l.toArray EI).wp P Q a0 w0:=by
 refine yQ cs ks hm hB hK hlk hnd (RQ (kQ Ks)) hcg hPh ?_ ?_ ?_ h0 hstep hend
 ·intro i x w w' _ h hr;unfold RQ at*;split at h;·exact h
  ·rename_i s h1 h2 _;exact EoT
  ·rename_i s h1 _;exact EoT
 ·intro i x w w' c hi hc hne hrb h hr;unfold RQ at*;split at h;·exact h
  ·rename_i s h1 h2 _;exact h2 _ _ _ h hr
  ·rename_i s h1 he;exfalso;obtain⟨h3,h4⟩:=EJo htag i mr;have h5:=Xk.1 hlt i (aH.2 h3);rw[h4] at h5;simp only[Bool.not_true,Bool.false_or] at h5;have h6:=Xk.1 h5 c hc;rw[hrb] at h6;simp at h6;exact hne h6
 ·intro i x y w _ hq h;unfold RQ at*;exact Eo2
end
def Ln(W:H)(g:Nat)(L:List One)(rest:List Y):Prop:=D W g (IC L++rest).toArray 171
def less(a b:One):Bool:=if a.r=b.r then decide (a.n<b.n) else decide (a.r<b.r)
theorem EJp(pre old post:List Y)(o n:Nat)(ho:pre.length=o)(hn:old.length=n):(pre++(old++post)).toArray.extract o (o+n)=old.toArray:=by subst ho hn;simp
theorem EJq(L:List One)(i:Nat)(h:i<L.length)(rest:List Y)(j:Nat)(hj:j<5):(IC L++rest)[i*5+j]?=(L[i]).v[j]?:=by
 induction L generalizing i with
 |nil=>simp at h
 |cons x r ih=>
  cases i with
  |zero=> simp only[IC,kI,XI,Nat.zero_mul,OD,List.getElem_cons_zero];rw[bi yR]
  |succ i=> have:=ih i Up;simp only[IC,kI,XI,List.getElem_cons_succ] at*;rw[aX yR,show(i+1)*5+j-x.v.length=i*5+j from yR];exact this
theorem Ln.cell(K:Ln W g L rest)(i:Nat)(h:L[i]?=Z x):W.cell? ⟨g,i*5,X⟩=Z (E I x.s)/\W.cell? ⟨g,i*5+1,X⟩=Z (E I x.r)/\W.cell? ⟨g,i*5+2,X⟩=Z (E I x.a)/\W.cell? ⟨g,i*5+3,X⟩=Z (E I x.m)/\W.cell? ⟨g,i*5+4,X⟩=Z (E Im x.n):=by
 obtain⟨hl,rfl⟩:=Xx.1 h;have hk: ∀j,j<5->W.cell? ⟨g,i*5+j,X⟩=(L[i]).v[j]?:=fun j hj=>by rw[D.cell K,OE];exact EJq L i hl rest j hj
 exact⟨hk 0 U,hk 1 U,hk 2 U,hk 3 U,hk 4 U⟩
theorem dV(A:Option Eu)(n c:Nat)(w:H): Ef Eb 272 #[G A n c] w fun e w'=>e=Eg (E I n)/\w=w':=by go_enter Tryz.func272,Tryz.ntmps272;exact Eli
theorem jJ(g:Nat)(L:List One)(rest:List Y)(n c:Nat)(i j:Nat)(x z:One)(hi:L[i]?=Z x)(hj:L[j]?=Z z)(hn:L.length=n)(w:H)(K:Ln w g L rest): Ef Eb 273 #[G (Z ⟨g,0,X⟩) n c,E I i,E I j] w fun e w'=>e=Eg (EU (less x z))/\El w w':=by
 have hi2:i<n:=Px;have hj2:j<n:=Py;have CI:Ec (∀W,Ln W g L rest->W.cell? ⟨g,i*5+1,X⟩=Z (E I x.r)/\W.cell? ⟨g,i*5+4,X⟩=Z (E Im x.n)):=J fun W k=>by have:=Ln.cell k i hi;exact⟨this.2.1,this.2.2.2.2⟩
 have CJ:Ec (∀W,Ln W g L rest->W.cell? ⟨g,j*5+1,X⟩=Z (E I z.r)/\W.cell? ⟨g,j*5+4,X⟩=Z (E Im z.n)):=J fun W k=>by have:=Ln.cell k j hj;exact⟨this.2.1,this.2.2.2.2⟩
 have KK:=J K;have u:=J<|E9 w.heap.size w;clear K hi hj hn;by_cases hr:x.r=z.r
 ·have d1:(x.r !=z.r)=B:=by rw[hr];simp
  have ci: ∀y:Ext w,(EC w y).cell? ⟨g,i*5+1,X⟩=Z (E I x.r):=fun y=>(CI.out _ (D.V KK.out (EN y))).1;have cj: ∀y:Ext w,(EC w y).cell? ⟨g,j*5+1,X⟩=Z (E I z.r):=fun y=>(CJ.out _ (D.V KK.out (EN y))).1;have er:less x z=decide (x.n<z.n):=by unfold less;rw[if_pos hr]
  rw[er];clear er hr;go_enter Tryz.func273,Tryz.ntmps273;go_wp2_with fail;refine Zy Ed Ed ?_
  repeat (first
   |go_big_quiet_skip
   |(go_big_quiet_want
     first
      |(go_big_quiet_op
        first
         |go_big_quiet_on
         |go_big_quiet_call (fail))))
  refine I1 ?_;intro _ hw';obtain⟨y9,rfl⟩:=hw';have Em:=EN y9;replace KK:Ec (Ln (EC w y9) g L rest):=EM KK Em;replace u:=ET u Em;clear ci cj;generalize EC w y9=w1 at*;go_wp2_with fail;have ci: ∀y:Ext w1,(EC w1 y).cell? ⟨g,i*5+4,X⟩=Z (E Im x.n):=fun y=>(CI.out _ (D.V KK.out (EN y))).2;have cj: ∀y:Ext w1,(EC w1 y).cell? ⟨g,j*5+4,X⟩=Z (E Im z.n):=fun y=>(CJ.out _ (D.V KK.out (EN y))).2;clear Em;refine Zy Ed Ed ?_
  repeat (first
   |go_big_quiet_skip
   |(go_big_quiet_want
     first
      |(go_big_quiet_op
        first
         |go_big_quiet_on
         |go_big_quiet_call (fail))))
  refine I1 ?_;exact EmP
 ·have d1:(x.r !=z.r)=EI:=by simp[hr]
  have ci: ∀y:Ext w,(EC w y).cell? ⟨g,i*5+1,X⟩=Z (E I x.r):=fun y=>(CI.out _ (D.V KK.out (EN y))).1;have cj: ∀y:Ext w,(EC w y).cell? ⟨g,j*5+1,X⟩=Z (E I z.r):=fun y=>(CJ.out _ (D.V KK.out (EN y))).1;have er:less x z=decide (x.r<z.r):=by unfold less;rw[if_neg hr]
  rw[er];clear er hr;go_enter Tryz.func273,Tryz.ntmps273;go_wp2_with fail;refine Zy Ed Ed ?_
  repeat (first
   |go_big_quiet_skip
   |(go_big_quiet_want
     first
      |(go_big_quiet_op
        first
         |go_big_quiet_on
         |go_big_quiet_call (fail))))
  refine I1 ?_;intro _ hw';obtain⟨y9,rfl⟩:=hw';have Em:=EN y9;replace KK:Ec (Ln (EC w y9) g L rest):=EM KK Em;replace u:=ET u Em;clear ci cj;generalize EC w y9=w1 at*;go_wp2_with fail;have ci: ∀y:Ext w1,(EC w1 y).cell? ⟨g,i*5+1,X⟩=Z (E I x.r):=fun y=>(CI.out _ (D.V KK.out (EN y))).1;have cj: ∀y:Ext w1,(EC w1 y).cell? ⟨g,j*5+1,X⟩=Z (E I z.r):=fun y=>(CJ.out _ (D.V KK.out (EN y))).1;clear Em;refine Zy Ed Ed ?_
  repeat (first
   |go_big_quiet_skip
   |(go_big_quiet_want
     first
      |(go_big_quiet_op
        first
         |go_big_quiet_on
         |go_big_quiet_call (fail))))
  refine I1 ?_;exact EmP
theorem bK:IG Eb 171 5:=⟨⟨_,Tryz.underlying171,O⟩,Ed⟩
theorem Pz(L:List One)(i:Nat){x:One}(h:L[i]?=Z x)(y:One):IC L=IC (L.take i)++(x.v++IC (L.drop (i+1)))/\IC (L.set i y)=IC (L.take i)++(y.v++IC (L.drop (i+1))):=by
 obtain⟨hl,rfl⟩:=Xx.1 h;have e: ∀(Y8:List One) (z:One),IC (Y8++z::L.drop (i+1))=IC Y8++(z.v++IC (L.drop (i+1))):=fun Y8 z=>by simp[IC]
 refine⟨?_,?_⟩;·rw[<-e,<-mg hl,gT]
 ·rw[<-e,List.set_eq_take_append_cons_drop,if_pos hl]
theorem Ln.set(K:Ln W g L rest)(i:Nat)(h:L[i]?=Z x)(y:One):Ln (W.setCells g (i*5) y.v) g (L.set i y) rest:=by have hl:=(Xx.1 h).1;obtain⟨e1,e2⟩:=Pz L i h y;unfold Ln at*;rw[e1,XI,XI] at K;rw[e2,XI,XI];exact Zd y.v x.v _ (i*5) W K O PA
theorem Ln.there(K:Ln W g L rest)(i:Nat)(h:i<L.length):W.there g (i*5) 5:=by refine aZ K ?_;rw[List.size_toArray,IY,bD];omega
theorem Ln.ext(i:Nat)(h:L[i]?=Z x):(IC L++rest).toArray.extract (i*5) (i*5+5)=x.v.toArray:=by have hl:=(Xx.1 h).1;obtain⟨e1,-⟩:=Pz L i h x;rw[e1,XI,XI];exact EJp _ _ _ _ _ PA O
theorem One.one(x:One):x.v.toArray.all (·.oneCell')=EI:=Fz
theorem dW(g:Nat)(L:List One)(rest:List Y)(n c:Nat)(i j:Nat)(x z:One)(hi:L[i]?=Z x)(hj:L[j]?=Z z)(hn:L.length=n)(w:H)(K:Ln w g L rest): Ef Eb 274 #[G (Z ⟨g,0,X⟩) n c,E I i,E I j] w fun e w'=>e=Eg (Et #[])/\Ln w' g ((L.set i z).set j x) rest/\E3 g w w':=by
 have hi2:i<n:=Px;have hj2:j<n:=Py;have LI:=J (show i<L.length from U);have LJ:=J (show j<L.length from U);have HI:=J hi;have HJ:=J hj;obtain⟨z2,hz2⟩: ∃z2,(L.set i z)[j]?=Z z2:=⟨_,J5 (by simpa using LJ.out)⟩;have HJ2:=J hz2;have KK:=J K;clear K hi hj hn hz2;go_enter Tryz.func274,Tryz.ntmps274;refine Pv (Ph:=fun p wq=>match p with|0=>Ln wq g L rest/\E3 g w wq|1=>Ln wq g (L.set i z) rest/\E3 g w wq|_=>Ln wq g ((L.set i z).set j x) rest/\E3 g w wq) (Is:=fun _ _=>True) (w.heap.size) [kq (G (Z ⟨g,0,X⟩) n c),kq (E I (i:Int)),kq (G (Z ⟨g,0,X⟩) n c),kq (E I (j:Int)),kq (G (Z ⟨g,0,X⟩) n c),kq (E I (j:Int)),kq (M (Z ⟨g,j*5,X⟩)),kq (EZ z.v.toArray),kq (G (Z ⟨g,0,X⟩) n c),kq (E I (i:Int)),kq (M (Z ⟨g,i*5,X⟩)),kq (EZ x.v.toArray),kq (M (Z ⟨g,i*5,X⟩)),.val (fun _=>True),kq (M (Z ⟨g,j*5,X⟩)),.val (fun _=>True)] [13,15] [(0,0),(0,0),(0,1),(0,1),(0,0),(0,0),(0,0),(0,0),(0,0),(0,0),(0,0),(0,0),(0,0),(0,0),(1,1),(1,1)] Ed Ed Ed Ed UP Ed O (show List.Nodup ([]:List EB) from Ea) hI ?hPh ?hR2 ?h0 ?hstep ?hend
 case hPh=>
  exact fun p w1 w2 h hr=>by
   have hb:=hr.Pp (E7 _) (fun k S cs hk=>by simp[kM] at hk);match p,h with
   |0,h=>exact⟨D.V h.1 hb,h.2.trans (E3.EA hb)⟩
   |1,h=>exact⟨D.V h.1 hb,h.2.trans (E3.EA hb)⟩
   |_+2,h=>exact⟨D.V h.1 hb,h.2.trans (E3.EA hb)⟩
 case hR2=> intro T hT;simp[Kn.ty] at hT
 case h0=> exact⟨KK.out.drew,E3.EA (Jg w)⟩
 case hstep=>
  refine⟨?_,?_,?_,?_,?_,?_,?_,?_,?_,?_,?_,?_,?_,?_,?_,?_,trivial⟩;all_goals first|intro xv wq p hlo hhi hp hd|intro xv wq hp hd
  all_goals simp only[EH,Ig,Ii,Ia,Ib]
  ·exact Emv
  ·exact Emv
  ·exact EmN
  ·exact EmN
  ·exact Emv
  ·exact Emv
  ·obtain rfl:p=0:=U;have d4:xv 4=G (Z ⟨g,0,X⟩) n c:=hd.at 4 rfl;have d5:xv 5=E I (j:Int):=hd.at 5 rfl;exact IM JP.kept (Ei O) (by simp[go_sem,d4,d5,hj2]) O
  ·obtain rfl:p=0:=U;have d6:xv 6=M (Z ⟨g,j*5,X⟩):=hd.at 6 rfl;exact aN JP.kept bK (Ei O) ⟨O,d6⟩ (hp.1) O (Ln.ext j HJ.out) O
  ·exact Emv
  ·exact Emv
  ·obtain rfl:p=0:=U;have d8:xv 8=G (Z ⟨g,0,X⟩) n c:=hd.at 8 rfl;have d9:xv 9=E I (i:Int):=hd.at 9 rfl;exact IM JP.kept (Ei O) (by simp[go_sem,d8,d9,hi2]) O
  ·obtain rfl:p=0:=U;have d10:xv 10=M (Z ⟨g,i*5,X⟩):=hd.at 10 rfl;exact aN JP.kept bK (Ei O) ⟨O,d10⟩ (hp.1) O (Ln.ext i HI.out) O
  ·obtain rfl:p=0:=U;have d0:xv 0=G (Z ⟨g,0,X⟩) n c:=hd.at 0 rfl;have d1:xv 1=E I (i:Int):=hd.at 1 rfl;exact IM JP.kept (Ei O) (by simp[go_sem,d0,d1,hi2]) O
  ·have d12:xv 12=M (Z ⟨g,i*5,X⟩):=hd.at 12 rfl;have d7:xv 7=EZ z.v.toArray:=hd.at 7 rfl;exact Pu bK (Ei O) ⟨O,d12,d7⟩ (Ln.there hp.1 i (by simpa using LI.out)) O (One.one _) ⟨trivial,⟨Ln.set hp.1 i HI.out z,hp.2.trans (JG _ _ _)⟩⟩ trivial
  ·obtain rfl:p=1:=U;have d2:xv 2=G (Z ⟨g,0,X⟩) n c:=hd.at 2 rfl;have d3:xv 3=E I (j:Int):=hd.at 3 rfl;exact IM JP.kept (Ei O) (by simp[go_sem,d2,d3,hj2]) O
  ·have d14:xv 14=M (Z ⟨g,j*5,X⟩):=hd.at 14 rfl;have d11:xv 11=EZ x.v.toArray:=hd.at 11 rfl;exact Pu bK (Ei O) ⟨O,d14,d11⟩ (Ln.there hp.1 j (by simpa using LJ.out)) O (One.one _) ⟨trivial,⟨Ln.set hp.1 j HJ2.out x,hp.2.trans (JG _ _ _)⟩⟩ trivial
 case hend=> intro x2 W6 hp hr;clear hr;simp only[EH,Ig,Ii,Ia,Ib];have HP:=J hp;clear hp;go_wp2_with fail;go_end0;exact⟨O,HP.out⟩
def Js:List One->List One
 |[a,b]=>if less b a then [b,a] else [a,b]
 |[a,b,c]=>if less b a then(if less c a then(if less c b then [c,b,a] else [b,c,a]) else [b,a,c]) else(if less c b then(if less c a then [c,a,b] else [a,c,b]) else [a,b,c])
 |l=>l
theorem hO: ∀(L:List One),(Js L).length=L.length
 |[]=>rfl
 |[_]=>rfl
 |[a,b]=>by simp only[Js];split<;>rfl
 |[a,b,c]=>by
  simp only[Js];repeat' split
  all_goals rfl
 |_::_::_::_::_=>rfl
theorem EJr(g:Nat)(a b:One)(rest:List Y)(c:Nat)(w:H)(K:Ln w g [a,b] rest): Ef Eb 191 #[.iface 149 (G (Z ⟨g,0,X⟩) 2 c),E I 0,E I 2] w fun e w'=>e=Eg (Et #[])/\Ln w' g (Js [a,b]) rest/\E3 g w w':=by
 have mL: ∀w,Us Eb (XY 460 149 (G (Z ⟨g,0,X⟩) 2 c) "Less") w= .ok (273,G (Z ⟨g,0,X⟩) 2 c) w:=fun _=>Ed;have mS: ∀w,Us Eb (XY 460 149 (G (Z ⟨g,0,X⟩) 2 c) "Swap") w= .ok (274,G (Z ⟨g,0,X⟩) 2 c) w:=fun _=>Ed;have eL: ∀(args:Array Y) (W:H),(Jd 273 args).run Eb W= .ok (.enter 273 args) W:=fun _ _=>Ed;have eS: ∀(args:Array Y) (W:H),(Jd 274 args).run Eb W= .ok (.enter 274 args) W:=fun _ _=>Ed;have K:=J K;have ON:=J<|E3.refl g w;go_enter Tryz.func191,Tryz.ntmps191;(iterate 2 go_wp2_with fail;refine Ud 3 ?_;rw[Ij]);go_wp2_with fail;have C1:Ef Eb 273 #[G (Z ⟨g,0,X⟩) 2 c,E I 1,E I 0] w _:=jJ g [a,b] rest 2 c 1 0 b a O O O w K.out;replace C1:=J C1;cases l1:less b a;·rw[l1] at C1;refine C1.out.mono ?_;rintro e w1 ⟨rfl,b1⟩;replace K:Ec (Ln w1 g [a,b] rest):=EM K b1;replace ON:=J<|ON.out.trans (E3.EA b1);have h1:=J l1;clear b1 C1 l1;go_wp2_with fail;rw[Ij];exact EnH
 ·rw[l1] at C1;refine C1.out.mono ?_;rintro e w1 ⟨rfl,b1⟩;replace K:Ec (Ln w1 g [a,b] rest):=EM K b1;replace ON:=J<|ON.out.trans (E3.EA b1);have h1:=J l1;clear b1 C1 l1;go_wp2_with fail;have C2:Ef Eb 274 #[G (Z ⟨g,0,X⟩) 2 c,E I 1,E I 0] w1 _:=dW g [a,b] rest 2 c 1 0 b a O O O w1 K.out;refine C2.mono ?_;rintro e w2 ⟨rfl,k2,o2⟩;replace K:Ec (Ln w2 g [b,a] rest):=J k2;replace ON:=J<|ON.out.trans o2;clear k2 o2 C2;(iterate 2 go_wp2_with fail;rw[Ij]);exact EnH
theorem EJs(g:Nat)(a b d:One)(rest:List Y)(c:Nat)(w:H)(K:Ln w g [a,b,d] rest): Ef Eb 191 #[.iface 149 (G (Z ⟨g,0,X⟩) 3 c),E I 0,E I 3] w fun e w'=>e=Eg (Et #[])/\Ln w' g (Js [a,b,d]) rest/\E3 g w w':=by
 have mL: ∀w,Us Eb (XY 460 149 (G (Z ⟨g,0,X⟩) 3 c) "Less") w= .ok (273,G (Z ⟨g,0,X⟩) 3 c) w:=fun _=>Ed;have mS: ∀w,Us Eb (XY 460 149 (G (Z ⟨g,0,X⟩) 3 c) "Swap") w= .ok (274,G (Z ⟨g,0,X⟩) 3 c) w:=fun _=>Ed;have eL: ∀(args:Array Y) (W:H),(Jd 273 args).run Eb W= .ok (.enter 273 args) W:=fun _ _=>Ed;have eS: ∀(args:Array Y) (W:H),(Jd 274 args).run Eb W= .ok (.enter 274 args) W:=fun _ _=>Ed;have K:=J K;have ON:=J<|E3.refl g w;go_enter Tryz.func191,Tryz.ntmps191;go_wp2_with fail;refine Ud 4 ?_;rw[Ij];go_wp2_with fail;refine Ud 3 ?_;rw[Ij];go_wp2_with fail;have C1:Ef Eb 273 #[G (Z ⟨g,0,X⟩) 3 c,E I 1,E I 0] w _:=jJ g [a,b,d] rest 3 c 1 0 b a O O O w K.out;replace C1:=J C1;cases l1:less b a
 ·
   rw[l1] at C1;refine C1.out.mono ?_;rintro e w1 ⟨rfl,b1⟩;replace K:Ec (Ln w1 g [a,b,d] rest):=EM K b1;replace ON:=J<|ON.out.trans (E3.EA b1);have h1:=J l1;clear b1 C1 l1;go_wp2_with fail;rw[Ij];go_wp2_with fail;refine Ud 3 ?_;rw[Ij];go_wp2_with fail;have C2:Ef Eb 273 #[G (Z ⟨g,0,X⟩) 3 c,E I 2,E I 1] w1 _:=jJ g [a,b,d] rest 3 c 2 1 d b O O O w1 K.out;replace C2:=J C2;cases l2:less d b;·rw[l2] at C2;refine C2.out.mono ?_;rintro e w2 ⟨rfl,b2⟩;replace K:Ec (Ln w2 g [a,b,d] rest):=EM K b2;replace ON:=J<|ON.out.trans (E3.EA b2);have h2:=J l2;clear b2 C2 l2;go_wp2_with fail;rw[Ij];go_wp2_with fail;go_end0;refine⟨O,?_,ON.out⟩;simp only[Js,h1.out,h2.out,if_true,kO,if_false];exact K.out
   ·
     rw[l2] at C2;refine C2.out.mono ?_;rintro e w2 ⟨rfl,b2⟩;replace K:Ec (Ln w2 g [a,b,d] rest):=EM K b2;replace ON:=J<|ON.out.trans (E3.EA b2);have h2:=J l2;clear b2 C2 l2;go_wp2_with fail;have C3:Ef Eb 274 #[G (Z ⟨g,0,X⟩) 3 c,E I 2,E I 1] w2 _:=dW g [a,b,d] rest 3 c 2 1 d b O O O w2 K.out;refine C3.mono ?_;rintro e w3 ⟨rfl,k3,o3⟩;replace K:Ec (Ln w3 g [a,d,b] rest):=J k3;replace ON:=J<|ON.out.trans o3;clear k3 o3 C3;go_wp2_with fail;rw[Ij];go_wp2_with fail;have C4:Ef Eb 273 #[G (Z ⟨g,0,X⟩) 3 c,E I 1,E I 0] w3 _:=jJ g [a,d,b] rest 3 c 1 0 d a O O O w3 K.out;replace C4:=J C4;cases l4:less d a;·rw[l4] at C4;refine C4.out.mono ?_;rintro e w4 ⟨rfl,b4⟩;replace K:Ec (Ln w4 g [a,d,b] rest):=EM K b4;replace ON:=J<|ON.out.trans (E3.EA b4);have h4:=J l4;clear b4 C4 l4;go_wp2_with fail;rw[Ij];exact Enq
     ·rw[l4] at C4;refine C4.out.mono ?_;rintro e w4 ⟨rfl,b4⟩;replace K:Ec (Ln w4 g [a,d,b] rest):=EM K b4;replace ON:=J<|ON.out.trans (E3.EA b4);have h4:=J l4;clear b4 C4 l4;go_wp2_with fail;have C5:Ef Eb 274 #[G (Z ⟨g,0,X⟩) 3 c,E I 1,E I 0] w4 _:=dW g [a,d,b] rest 3 c 1 0 d a O O O w4 K.out;refine C5.mono ?_;rintro e w5 ⟨rfl,k5,o5⟩;replace K:Ec (Ln w5 g [d,a,b] rest):=J k5;replace ON:=J<|ON.out.trans o5;clear k5 o5 C5;(iterate 2 go_wp2_with fail;rw[Ij]);exact Enq
 ·
   rw[l1] at C1;refine C1.out.mono ?_;rintro e w1 ⟨rfl,b1⟩;replace K:Ec (Ln w1 g [a,b,d] rest):=EM K b1;replace ON:=J<|ON.out.trans (E3.EA b1);have h1:=J l1;clear b1 C1 l1;go_wp2_with fail;have C6:Ef Eb 274 #[G (Z ⟨g,0,X⟩) 3 c,E I 1,E I 0] w1 _:=dW g [a,b,d] rest 3 c 1 0 b a O O O w1 K.out;refine C6.mono ?_;rintro e w6 ⟨rfl,k6,o6⟩;replace K:Ec (Ln w6 g [b,a,d] rest):=J k6;replace ON:=J<|ON.out.trans o6;clear k6 o6 C6;(iterate 2 go_wp2_with fail;rw[Ij]);go_wp2_with fail;refine Ud 3 ?_;rw[Ij];go_wp2_with fail;have C7:Ef Eb 273 #[G (Z ⟨g,0,X⟩) 3 c,E I 2,E I 1] w6 _:=jJ g [b,a,d] rest 3 c 2 1 d a O O O w6 K.out;replace C7:=J C7;cases l7:less d a;·rw[l7] at C7;refine C7.out.mono ?_;rintro e w7 ⟨rfl,b7⟩;replace K:Ec (Ln w7 g [b,a,d] rest):=EM K b7;replace ON:=J<|ON.out.trans (E3.EA b7);have h7:=J l7;clear b7 C7 l7;go_wp2_with fail;rw[Ij];go_wp2_with fail;go_end0;refine⟨O,?_,ON.out⟩;simp only[Js,h1.out,h7.out,if_true,kO,if_false];exact K.out
   ·
     rw[l7] at C7;refine C7.out.mono ?_;rintro e w7 ⟨rfl,b7⟩;replace K:Ec (Ln w7 g [b,a,d] rest):=EM K b7;replace ON:=J<|ON.out.trans (E3.EA b7);have h7:=J l7;clear b7 C7 l7;go_wp2_with fail;have C8:Ef Eb 274 #[G (Z ⟨g,0,X⟩) 3 c,E I 2,E I 1] w7 _:=dW g [b,a,d] rest 3 c 2 1 d a O O O w7 K.out;refine C8.mono ?_;rintro e w8 ⟨rfl,k8,o8⟩;replace K:Ec (Ln w8 g [b,d,a] rest):=J k8;replace ON:=J<|ON.out.trans o8;clear k8 o8 C8;go_wp2_with fail;rw[Ij];go_wp2_with fail;have C9:Ef Eb 273 #[G (Z ⟨g,0,X⟩) 3 c,E I 1,E I 0] w8 _:=jJ g [b,d,a] rest 3 c 1 0 d b O O O w8 K.out;replace C9:=J C9;cases l9:less d b;·rw[l9] at C9;refine C9.out.mono ?_;rintro e w9 ⟨rfl,b9⟩;replace K:Ec (Ln w9 g [b,d,a] rest):=EM K b9;replace ON:=J<|ON.out.trans (E3.EA b9);have h9:=J l9;clear b9 C9 l9;go_wp2_with fail;rw[Ij];exact Enp
     ·rw[l9] at C9;refine C9.out.mono ?_;rintro e w9 ⟨rfl,b9⟩;replace K:Ec (Ln w9 g [b,d,a] rest):=EM K b9;replace ON:=J<|ON.out.trans (E3.EA b9);have h9:=J l9;clear b9 C9 l9;go_wp2_with fail;have PB:Ef Eb 274 #[G (Z ⟨g,0,X⟩) 3 c,E I 1,E I 0] w9 _:=dW g [b,d,a] rest 3 c 1 0 d b O O O w9 K.out;refine PB.mono ?_;rintro e Uy ⟨rfl,k10,oB⟩;replace K:Ec (Ln Uy g [d,b,a] rest):=J k10;replace ON:=J<|ON.out.trans oB;clear k10 oB PB;(iterate 2 go_wp2_with fail;rw[Ij]);exact Enp
theorem EJt(w:H):Ef Eb 190 #[E Im 2] w fun e w'=>e=Eg (E I 2)/\w=w':=by go_enter Tryz.func190,Tryz.ntmps190;go_wp2;go_ret;refine⟨congrArg Eg (congrArg (E IntKind.i64) ?_),O⟩;show wrap64 (wrap64 (Lib.len8 2))=2;rw[Lib.len8_of 2 U U];have e:Lib.bitLenAux 64 2=2:=hI;simp[Lib.bitLen,wrap64,e]
theorem EJu(w:H):Ef Eb 190 #[E Im 3] w fun e w'=>e=Eg (E I 2)/\w=w':=by go_enter Tryz.func190,Tryz.ntmps190;go_wp2;go_ret;refine⟨congrArg Eg (congrArg (E IntKind.i64) ?_),O⟩;show wrap64 (wrap64 (Lib.len8 3))=2;rw[Lib.len8_of 3 U U];have e:Lib.bitLenAux 64 3=2:=hI;simp[Lib.bitLen,wrap64,e]
theorem EJv(A:Option Eu)(c:Nat)(w:H): Ef Eb 109 #[.iface 149 (G A 0 c)] w fun e w'=>e=Eg (Et #[])/\w=w':=by have mL: ∀w,Us Eb (XY 460 149 (G A 0 c) "Len") w= .ok (272,G A 0 c) w:=fun _=>Ed;have eL: ∀(args:Array Y) (W:H),(Jd 272 args).run Eb W= .ok (.enter 272 args) W:=fun _ _=>Ed;go_enter Tryz.func109,Tryz.ntmps109;go_wp2_with fail;refine(dV A 0 c _).mono ?_;rintro e w2 ⟨rfl,rfl⟩;rw[show((0:Nat):Int)=0 from rfl];exact EpI
theorem sort_1(A:Option Eu)(c:Nat)(w:H): Ef Eb 109 #[.iface 149 (G A 1 c)] w fun e w'=>e=Eg (Et #[])/\w=w':=by have mL: ∀w,Us Eb (XY 460 149 (G A 1 c) "Len") w= .ok (272,G A 1 c) w:=fun _=>Ed;have eL: ∀(args:Array Y) (W:H),(Jd 272 args).run Eb W= .ok (.enter 272 args) W:=fun _ _=>Ed;go_enter Tryz.func109,Tryz.ntmps109;go_wp2_with fail;refine(dV A 1 c _).mono ?_;rintro e w2 ⟨rfl,rfl⟩;rw[show((1:Nat):Int)=1 from rfl];exact EpI
theorem EJw(g:Nat)(a b:One)(rest:List Y)(c:Nat)(w:H)(K:Ln w g [a,b] rest): Ef Eb 109 #[.iface 149 (G (Z ⟨g,0,X⟩) 2 c)] w fun e w'=>e=Eg (Et #[])/\Ln w' g (Js [a,b]) rest/\E3 g w w':=by have K:=J K;have mL: ∀w,Us Eb (XY 460 149 (G (Z ⟨g,0,X⟩) 2 c) "Len") w= .ok (272,G (Z ⟨g,0,X⟩) 2 c) w:=fun _=>Ed;have eL: ∀(args:Array Y) (W:H),(Jd 272 args).run Eb W= .ok (.enter 272 args) W:=fun _ _=>Ed;go_enter Tryz.func109,Tryz.ntmps109;go_wp2_with fail;refine(dV _ 2 c _).mono ?_;rintro e w2 ⟨rfl,rfl⟩;go_wp2_with (first|(go_at_call 190;(with_reducible refine(EJt _).mono ?_);rintro e w2 ⟨rfl,rfl⟩)|(go_at_call 153;go_in)|(go_at_call 154;go_in));refine Ud 1 ?_;rw[Ij];go_wp2_with fail;refine(EJr g a b rest c _ K.out).mono ?_;exact Eno
theorem EJx(g:Nat)(a b d:One)(rest:List Y)(c:Nat)(w:H)(K:Ln w g [a,b,d] rest): Ef Eb 109 #[.iface 149 (G (Z ⟨g,0,X⟩) 3 c)] w fun e w'=>e=Eg (Et #[])/\Ln w' g (Js [a,b,d]) rest/\E3 g w w':=by have K:=J K;have mL: ∀w,Us Eb (XY 460 149 (G (Z ⟨g,0,X⟩) 3 c) "Len") w= .ok (272,G (Z ⟨g,0,X⟩) 3 c) w:=fun _=>Ed;have eL: ∀(args:Array Y) (W:H),(Jd 272 args).run Eb W= .ok (.enter 272 args) W:=fun _ _=>Ed;go_enter Tryz.func109,Tryz.ntmps109;go_wp2_with fail;refine(dV _ 3 c _).mono ?_;rintro e w2 ⟨rfl,rfl⟩;go_wp2_with (first|(go_at_call 190;(with_reducible refine(EJu _).mono ?_);rintro e w2 ⟨rfl,rfl⟩)|(go_at_call 153;go_in)|(go_at_call 154;go_in));refine Ud 1 ?_;rw[Ij];go_wp2_with fail;refine(EJs g a b d rest c _ K.out).mono ?_;exact Eno
theorem ER:IG Eb 109 8:=⟨⟨_,Tryz.underlying109,O⟩,Ed⟩
def UU(h e o oa om la lm:Int)(b:Bool):Array Y:= #[E I h,E I e,E I o,E I oa,E I om,E I la,E I lm,EU b]
def EK.a(t:EK):Y:=EZ (UU t.h t.e t.o t.oa t.om t.la t.lm t.bad)
theorem fK(h e o oa om la lm:Int)(b:Bool):(UU h e o oa om la lm b).all (·.oneCell')=EI:=by simp[UU,OF]
theorem FG(t:EK)(IT e2:Int)(w:H): Ef Eb 67 #[t.a,E I IT,E I e2] w fun x w'=>x=Eg (t.pass IT e2).a/\El w w':=by unfold EK.a EK.pass UU;obtain⟨h,e,o,oa,om,la,lm,b⟩:=t;simp only;go_enter Tryz.func67,Tryz.ntmps67;go_wp2_with fail;refine EV (by simp[UL,Tryz.results67,go_sem]) O ⟨O,?_⟩;exact Z_ _ _ _ _
theorem rq(t:EK)(IT:Int)(w:H)(he: -9223372036854775808<=t.e): Ef Eb 140 #[t.a,E I IT] w fun x w'=>x=Eg (Et #[(t.Uc IT).1.a,E I (t.Uc IT).2])/\El w w':=by
 have CP:=J<|fun e2 W=>FG t IT e2 W;unfold EK.Uc;unfold EK.a at*;obtain⟨h,e,o,oa,om,la,lm,b⟩:=t;simp only[EK.pass] at*;by_cases h1:IT<0;·rw[if_pos (.inl h1)];have d1:decide (IT<0)=EI:=IU h1;clear CP;exact El9
 have d1:decide (IT<0)=B:=IJ h1;by_cases h2:5<=IT;·rw[if_pos (.inr h2)];have d2:decide (5<=IT)=EI:=IU h2;clear h1 h2 CP;exact El9
 have d2:decide (5<=IT)=B:=IJ h2;rw[if_neg U];by_cases h3:IT=h
 ·rw[if_pos h3];have d3:(IT==h)=EI:=by rw[h3];exact beq_self_eq_true _
  clear h1 h2 h3 CP;exact El9
 have d3:(IT==h)=B:=beq_eq_false_iff_ne.2 h3;rw[if_neg h3];by_cases h4:65535<=e;·rw[if_pos h4];have d4:decide (65535<=e)=EI:=IU h4;clear h1 h2 h3 h4 CP;exact El9
 have d4:decide (65535<=e)=B:=IJ h4;rw[if_neg h4];have we:IntKind.i64.wrap (e+1)=e+1:=FH;clear h1 h2 h3 h4 he;replace CP:=J<|CP.out (e+1);obtain⟨r,hr⟩:=En (UU IT (e+1) (-1) 0 0 0 0 b);rw[<-hr] at CP⊢;have SR:Ec (r.size=8):=J uO;have OR:Ec (r.all (·.oneCell')=EI):=J yT;clear hr;unfold UU at*;go_enter Tryz.func140,Tryz.ntmps140;go_wp2_with fail;have K4:=J<|D.new' (w.alloc (EJ #[E I h,E I e,E I o,E I oa,E I om,E I la,E I lm,EU b] 109)) #[E I 0,E I 0,E I 0,E I 0,E I 0,E I 0,E I 0,EU B] 109 (g:=w.heap.size+1) Eh;have u:=J<|JV w (EJ #[E I h,E I e,E I o,E I oa,E I om,E I la,E I lm,EU b] 109) (EJ #[E I 0,E I 0,E I 0,E I 0,E I 0,E I 0,E I 0,EU B] 109);generalize (w.alloc (EJ #[E I h,E I e,E I o,E I oa,E I om,E I la,E I lm,EU b] 109)).alloc (EJ #[E I 0,E I 0,E I 0,E I 0,E I 0,E I 0,E I 0,EU B] 109)=w1 at*;refine(CP.out _).mono ?_;rintro x w2 ⟨rfl,b2⟩;replace K4:=J<|K4.out.V b2;replace u:=ET u b2;clear b2;go_wp2_with (with_reducible refine wS (cs:=r) ER K4 ?_ (hn:=SR.out) (h1:=OR.out));refine EV (Ux ER O _ _ (w.heap.size+1) r _ O O (K4.out.setRow r) SR.out) O ⟨O,?_⟩;exact Eoz
theorem uU(t:EK)(w:H)(h1: -9223372036854775808<=t.e): Ef Eb 96 #[t.a] w fun x w'=>x=Eg t.bC.a/\El w w':=by
 have CP:=J<|fun e2 W=>FG t 4 e2 W;have CS:=J<|fun W=>tK t.e 65535 W h1 U;unfold EK.bC;unfold EK.a at*;obtain⟨h,e,o,oa,om,la,lm,b⟩:=t;simp only[EK.pass] at*;clear h1;by_cases h4:h=4
 ·rw[if_neg hU];have d4:(h !=4)=B:=by rw[h4];rfl
  clear CS;subst h4;replace CP:=J<|CP.out e;obtain⟨r,hr⟩:=En (UU 4 e (-1) 0 0 0 0 b);rw[<-hr] at CP⊢;have SR:Ec (r.size=8):=J uO;have OR:Ec (r.all (·.oneCell')=EI):=J yT;clear hr;unfold UU at*;go_enter Tryz.func96,Tryz.ntmps96;go_wp2_with fail;have K4:=J<|D.new' (w.alloc (EJ #[E I 4,E I e,E I o,E I oa,E I om,E I la,E I lm,EU b] 109)) #[E I 0,E I 0,E I 0,E I 0,E I 0,E I 0,E I 0,EU B] 109 (g:=w.heap.size+1) Eh;have u:=J<|JV w (EJ #[E I 4,E I e,E I o,E I oa,E I om,E I la,E I lm,EU b] 109) (EJ #[E I 0,E I 0,E I 0,E I 0,E I 0,E I 0,E I 0,EU B] 109);generalize (w.alloc (EJ #[E I 4,E I e,E I o,E I oa,E I om,E I la,E I lm,EU b] 109)).alloc (EJ #[E I 0,E I 0,E I 0,E I 0,E I 0,E I 0,E I 0,EU B] 109)=w1 at*;exact El6
 ·rw[if_pos h4];have d4:(h !=4)=EI:=hU;generalize sat e 65535=e2 at*;replace CP:=J<|CP.out e2;obtain⟨r,hr⟩:=En (UU 4 e2 (-1) 0 0 0 0 b);rw[<-hr] at CP⊢;have SR:Ec (r.size=8):=J uO;have OR:Ec (r.all (·.oneCell')=EI):=J yT;clear hr h4;unfold UU at*;go_enter Tryz.func96,Tryz.ntmps96;go_wp2_with fail;refine(CS.out _).mono ?_;rintro x w2 ⟨rfl,rfl⟩;go_wp2_with fail;have K4:=J<|D.new' (w.alloc (EJ #[E I h,E I e,E I o,E I oa,E I om,E I la,E I lm,EU b] 109)) #[E I 0,E I 0,E I 0,E I 0,E I 0,E I 0,E I 0,EU B] 109 (g:=w.heap.size+1) Eh;have u:=J<|JV w (EJ #[E I h,E I e,E I o,E I oa,E I om,E I la,E I lm,EU b] 109) (EJ #[E I 0,E I 0,E I 0,E I 0,E I 0,E I 0,E I 0,EU B] 109);generalize (w.alloc (EJ #[E I h,E I e,E I o,E I oa,E I om,E I la,E I lm,EU b] 109)).alloc (EJ #[E I 0,E I 0,E I 0,E I 0,E I 0,E I 0,E I 0,EU B] 109)=w1 at*;exact El6
theorem EJy(t:EK)(s:Int)(w:H): Ef Eb 146 #[t.a,E I s] w fun x w'=>x=Eg (Et #[(t.drop s).1.a,EU (t.drop s).2])/\El w w':=by
 unfold EK.drop;unfold EK.a;obtain⟨h,e,o,oa,om,la,lm,b⟩:=t;simp only[EK.end_];by_cases h1:o<0;·rw[if_pos (.inl h1)];have d1:decide (0<=o)=B:=IJ U;unfold UU;clear h1;exact Epr
 have d1:decide (0<=o)=EI:=IU U;by_cases h2:o=s;·rw[if_neg U];have d2:(o !=s)=B:=yV;unfold UU;clear h1;subst h2;go_enter Tryz.func146,Tryz.ntmps146;go_wp2;refine EV (v:=EZ #[E I h,E I e,E I (-1),E I 0,E I 0,E I la,E I lm,EU b]) FN O ?_;exact Ept
 ·rw[if_pos (.inr h2)];have d2:(o !=s)=EI:=by simp[h2]
  unfold UU;clear h1 h2;exact Epr
theorem EJz(t:EK)(s:Int)(w:H): Ef Eb 180 #[t.a,E I s] w fun x w'=>x=Eg (Et #[(t.oy s).1.a,E I (t.oy s).2])/\El w w':=by
 unfold EK.oy;unfold EK.a;obtain⟨h,e,o,oa,om,la,lm,b⟩:=t;simp only[EK.end_];by_cases h1:o<0;·rw[if_pos (.inl h1)];have d1:decide (0<=o)=B:=IJ U;unfold UU;clear h1;exact Epq
 have d1:decide (0<=o)=EI:=IU U;by_cases h2:o=s;·rw[if_neg U];have d2:(o !=s)=B:=yV;unfold UU;clear h1;subst h2;go_enter Tryz.func180,Tryz.ntmps180;go_wp2;refine EV (v:=EZ #[E I h,E I e,E I (-1),E I 0,E I 0,E I la,E I lm,EU b]) FN O ?_;exact Eps
 ·rw[if_pos (.inr h2)];have d2:(o !=s)=EI:=by simp[h2]
  unfold UU;clear h1 h2;exact Epq
theorem EJA(t:EK)(w:H):Ef Eb 150 #[t.a] w fun x w'=>x=Eg t.end_.a/\El w w':=by unfold EK.a;obtain⟨h,e,o,oa,om,la,lm,b⟩:=t;simp only[EK.end_];unfold UU;go_enter Tryz.func150,Tryz.ntmps150;go_wp2;refine EV FN O ⟨O,?_⟩;exact Elx
theorem EJB(t:EK)(w:H)(h1: -9223372036854775808<=t.oa)(h3:t.om<=9223372036854775807): Ef Eb 104 #[t.a] w fun x w'=>x=Eg (Et #[t.Ur.1.a,E I t.Ur.2])/\El w w':=by
 have CS:=J<|fun W=>tK t.oa t.om W h1 h3;have CE:=J<|fun W=>EJA {t with oa:=sat t.oa t.om} W;unfold EK.Ur;unfold EK.a at*;obtain⟨h,e,o,oa,om,la,lm,b⟩:=t;simp only[EK.end_] at*;clear h1 h3;by_cases h1:o<0;·rw[if_pos h1];have d1:decide (0<=o)=B:=IJ U;unfold UU;clear h1 CS CE;go_enter Tryz.func104,Tryz.ntmps104;go_wp2;refine EV PD O ⟨O,?_⟩;exact Elx
 have d1:decide (0<=o)=EI:=IU U;rw[if_neg h1];generalize sat oa om=a2 at*;clear h1;by_cases h2:a2<om;·rw[if_pos h2];have d2:decide (om<=a2)=B:=IJ U;clear h2 CE;unfold UU at*;go_enter Tryz.func104,Tryz.ntmps104;go_wp2_with (first|(go_at_call 90;(with_reducible refine(CS.out _).mono ?_);rintro x w9 ⟨rfl,rfl⟩)|go_in);refine EV (v:=EZ #[E I a2,E I om]) Fr O ?_;go_wp2;refine EV PD O ⟨O,?_⟩;exact Elx
 ·rw[if_neg h2];have d2:decide (om<=a2)=EI:=IU U;clear h2;obtain⟨r,hr⟩:=En (UU h e (-1) 0 0 la lm b);rw[<-hr] at CE⊢;have SR:Ec (r.size=8):=J uO;have OR:Ec (r.all (·.oneCell')=EI):=J yT;clear hr;unfold UU at*;go_enter Tryz.func104,Tryz.ntmps104;go_wp2_with (first|(go_at_call 90;(with_reducible refine(CS.out _).mono ?_);rintro x w9 ⟨rfl,rfl⟩)|go_in);refine EV (v:=EZ #[E I a2,E I om]) Fr O ?_;go_wp2_with (first|(go_at_call 90;(with_reducible refine(CS.out _).mono ?_);rintro x w9 ⟨rfl,rfl⟩)|go_in);generalize hW:Uz _ _=W at*;have K1:Ec (D W w.heap.size #[E I h,E I e,E I o,E I a2,E I om,E I la,E I lm,EU b] 109):=J (by subst hW;repeat (first|exact D.new _ _ _|refine D.alloc ?_ _));have K2:Ec (D W (w.heap.size+1) #[E I 0,E I 0,E I 0,E I 0,E I 0,E I 0,E I 0,EU B] 109):=J (by subst hW;repeat (first|exact D.new' (w.alloc _) _ _ Eh|refine D.alloc ?_ _));have u:Ec (El w W):=J (by subst hW;(repeat (first|exact E9 _ _|(refine JQ ?_ Iv _)|(refine JR ?_ Iv _))));clear hW;refine Pv (Ph:=fun _ wq=>D wq w.heap.size #[E I h,E I e,E I o,E I a2,E I om,E I la,E I lm,EU b] 109/\(∃c,c.size=8/\D wq (w.heap.size+1) c 109)/\El w wq) (Is:=fun w w'=>w=w') (W.heap.size) [kq (EZ #[E I h,E I e,E I o,E I a2,E I om,E I la,E I lm,EU b]),kq (EZ r),kq (M (Z ⟨w.heap.size,2,X⟩)),kq (E I o),.onto (w.heap.size+1) 109 (r),kq (E I o)] [] [(0,0),(0,0),(0,0),(0,0),(0,0),(0,0)] Ed Ed Ed Ed UP Ed O (show List.Nodup ([109]:List EB) from Ea) hI ?hPh ?hR2 ?h0 ?hstep ?hend;case hPh=>exact fun _ w1 w2 h hr=>⟨hr.Ek h.1 (by simp[kM]),by obtain⟨c,hs,hk⟩:=h.2.1;obtain⟨c2,hs2,hk2⟩:=hr.some hk;exact⟨c2,hs2.trans hs,hk2⟩,h.2.2.trans (hr.Pp h.2.2.size (fun k S cs hk=>EJn hk (by intro g T c hm;simp at hm;obtain⟨rfl,-⟩:=hm;omega) FT))⟩
  case hR2=>exact fun _ _ _ _ _ _ h k=>k▸h
  case h0=>exact⟨K1.out.drew,⟨_,O,K2.out.drew⟩,u.out.drew⟩
  case hstep=>
   refine⟨?_,?_,?_,?_,?_,?_,trivial⟩;·intro x wq p hlo hhi hp hd;simp only[EH,Ig,Ii,Ia,Ib];exact jI JP.kept ER (Ei O) ⟨O,O⟩ (hp.1) O O
   ·intro x wq p hlo hhi hp hd;simp only[EH,Ig,Ii,Ia,Ib];have d0:x 0=EZ #[E I h,E I e,E I o,E I a2,E I om,E I la,E I lm,EU b]:=hd.at 0 rfl;refine JH (f:=150) (args:= #[x 0]) (Ei O) Ex ?_;rw[d0];exact(CE.out wq).mono fun e w2 ⟨he,hb⟩=>⟨_,he,JP.V hb,O⟩
   ·intro x wq p hlo hhi hp hd;simp only[EH,Ig,Ii,Ia,Ib];exact EmN
   ·intro x wq p hlo hhi hp hd;simp only[EH,Ig,Ii,Ia,Ib];have d2:x 2=M (Z ⟨w.heap.size,2,X⟩):=hd.at 2 rfl;have cc:wq.cell? ⟨w.heap.size,2,X⟩=Z (E I o):=(D.cell hp.1 2).trans O;exact IM JP.kept (Ei O) bL O
   ·intro x wq p hlo hhi hp hd;simp only[EH,Ig,Ii,Ia,Ib];have d1:x 1=EZ r:=hd.at 1 rfl;obtain⟨cz,hz,kz⟩:=hp.2.1;exact bF ER (Ei O) ⟨O,O,d1⟩ (kz) hz SR.out OR.out (JP.setRow (kz) (by simp[kM]) (by rw[SR.out,hz])) (D.setRow (kz) _)
   ·intro x wq p hlo hhi hp hd;simp only[EH,Ig,Ii,Ia,Ib];have d3:x 3=E I o:=hd.at 3 rfl;exact IM JP.kept (Ei O) bM O
  case hend=> intro x W6 hp hr;have d5:x 5=E I o:=hr 5 Ea;have k4:D W6 (w.heap.size+1) r 109:=hr 4 Ea;simp only[EH,Ig,Ii,Ia,Ib];rw[d5];have yW:=J hp.2.2;clear hr hp d5 K1 K2;go_wp2_with fail;refine EV (Ux ER O _ _ (w.heap.size+1) r _ O O k4 SR.out) O ⟨O,yW.out⟩
def Own(w:H)(base:Nat)(A:Option Eu)(cap:Nat)(xs:List Int):Prop:=
 w.ownsRow base 5 1 (G A xs.length cap) xs.length (xs.map (E .u8))/\ ∀x∈xs,0<=x/\x<=255
theorem Own.row(h:Own w base A cap xs):Row w A xs:=by
 obtain⟨h,hb⟩:=h;refine⟨?_,hb⟩;rcases h.2 with⟨hv,hn⟩|⟨g,cap',cur,hv,hg,hh,hl,hm,hs,ht⟩;·exact .inl (aF hn)
 ·right;injection hv with h1 h2 h3;refine⟨g,0,h1,fun i hi=> ?_⟩;subst h1;have:=h.cellAt i U;rw[OD,this];simp[hi]
theorem Own.EJC(h:Own w base A cap xs):yj w (G A xs.length cap):=by
 refine⟨A,xs,cap,O,?_,?_,h.row,?_⟩
 all_goals
  rcases h.1.2 with⟨hv,hn⟩|⟨g,cap',cur,hv,hg,hh,hl,hm,hs,ht⟩
  ·simp at hv;first|omega|(intro _;exact hv.2.2)
  ·injection hv with h1 h2 h3;subst h1 h3;unfold maxLen at hm;first|omega|(intro h;cases h)
theorem X0(w:H)(base:Nat):Own w base X 0 []:=⟨bN _ _ _ _,fun x hx=>tM⟩
theorem FW(w:H)(base:Nat)(hb:base<=w.heap.size):Own (w.alloc (EJ #[] 5)) base (Z ⟨w.heap.size,0,X⟩) 0 []:=
 ⟨oC w #[] 0 hb Ot O,fun x hx=>tM⟩
theorem ZD(h:Own w base A cap xs)(hb:El w w'):Own w' base A cap xs:=by
 refine⟨?_,h.2⟩;obtain⟨h1,h2⟩:=h.1;refine⟨h1,?_⟩;rcases h2 with h2|⟨g,cap',cur,hv,hg,hh,hl⟩;·exact .inl h2
 ·refine .inr ⟨g,cap',cur,hv,hg,?_,hl⟩;rw[hb.block g ?_];·exact hh
  ·rcases JY g w.heap.size with h|h;·exact h
   ·rw[gQ h] at hh;cases hh
theorem EJD(w:H)(base:Nat)(A:Option Eu)(cap:Nat)(xs:List Int)(hown:Own w base A cap xs)(Y4:Option Eu)(c:Nat)(ys:List Int)(hr:Row w Y4 ys) (hsmall:xs.length+ys.length<=1000000000) (hbase:base<=w.heap.size) (ty:EB): ∃A' cap' w',(bv #[23,23] ty #[G A xs.length cap,G Y4 ys.length c]).run Eb w= .ok (G A' (xs.length+ys.length) cap') w'/\ Own w' base A' cap' (xs++ys)/\Ik base w w':=by
 obtain⟨i0,hi,hz0,hz1,hz2⟩:=bz mJ
 have hbb: ∀x∈xs++ys,0<=x/\x<=255:=by
  intro x hx;rcases XM.1 hx with h|h;·exact hown.2 x h
  ·exact hr.2 x h
 rcases Y4 with _|ad
 ·have hy:ys=[]:=by
   rcases hr.1 with h|⟨b,off,h,_⟩;·exact h
   ·cases h
  subst hy;refine⟨A,cap,w,?_,FY,E9 _ _⟩;rcases hown.1.2 with⟨hv,hn⟩|⟨g,cap',cur,hv,_,_,hnc,_⟩;·exact EnU
  ·exact EnX
 ·have hcells: ∀(j:Nat) Y3,(ys.map (E .u8))[j]?=Z Y3->w.cell? (ad.add j)=Z Y3:=by
   intro j Y3 hu
   have hj:j<ys.length:=by
    rcases JY j ys.length with h|h;·exact h
    ·rw[bf Up] at hu;cases hu
   rcases hr.1 with h|⟨b,off,h,hc⟩;·subst h;simp at hj
   ·exact Ent
  obtain⟨v',w',hrun,h2,h3,_,h5⟩:=run_append_own_at (P:=Eb) w base 23 ty 5 i0 (E IL 0) 1 1 bA hi hz0 hz1 hz2 O U _ _ _ hown.1 ad ys.length c (ys.map (E .u8)) Eh hcells
   PG Ot U hbase
  have hbel:Ik base w w':=by refine(E9 _ _).grown h3 hbase (fun k hk=> ?_);exact(hown.1.lt k hk).1
  rcases h2.2 with⟨hv,hn⟩|⟨g,cap',cur,hv,hrest⟩
  ·refine⟨X,0,w',?_,⟨?_,hbb⟩,hbel⟩;·rw[hrun,hv,hn]
   ·have e:(xs++ys).length=0:=by simpa using hn
    have e2:xs++ys=[]:=aF e;rw[e2];exact bN _ _ _ _
  ·refine⟨Z ⟨g,0,X⟩,cap',w',by rw[hrun,hv],⟨?_,hbb⟩,hbel⟩;rw[hv] at h2;rw[IY,kU];exact h2
theorem uX{rest:List EL}{a:E6}(w:H)(hgd:o.guard=X)(s x:J7) (ho:o.op= .call {callee:= .builtin .append,args:= #[s,x],argTypes:= #[23,23]}) (base:Nat) (A:Option Eu) (cap n:Nat) (xs:List Int) (hn:xs.length=n) (hs:a.eval s=G A n cap) (hown:Own w base A cap xs) (Y4:Option Eu) (c m:Nat) (ys:List Int) (hm:ys.length=m) (hx:a.eval x=G Y4 m c) (hr:Row w Y4 ys) (hsmall:n+m<=1000000000) (hbase:base<=w.heap.size) (h: ∀A' cap' w',Own w' base A' cap' (xs++ys)->Ik base w w'->Ic Eb ops Q rest (a.put o.dst (G A' (n+m) cap')) w'):Ic Eb ops Q (o::rest) a w:=by subst hn hm;refine wpList_plain hgd fun K hK=> ?_;obtain⟨A',cap',w',hrun,h2,h3⟩:=EJD w base A cap xs hown Y4 c ys hr hsmall hbase o.type;unfold dI If;simp only[ho,resolve,invoke,builtin,Oz,Og,OC,List.map_toArray,Uv,Xn,hs,hx,hrun];exact hK _ _ (h A' cap' w' h2 h3)
def oD(A:Option Eu)(k:Nat):Prop:= ∀a,A=Z a->a.block≠k
theorem EJF(h:Own w base A cap xs): ∀a,A=Z a->base<=a.block/\a.block<w.heap.size:=by
 intro a ha;subst ha;rcases h.1.2 with⟨hv,hn⟩|⟨g,cap',cur,hv,hg,hh,hl⟩;·simp at hv
 ·injection hv with h1 h2 h3;injection h1 with h1;subst h1;exact⟨hg,mE hh⟩
theorem yY(w:H)(base:Nat)(A:Option Eu)(cap:Nat)(xs:List Int)(hown:Own w base A cap xs)(Y4:Option Eu)(c:Nat)(ys:List Int)(hr:Row w Y4 ys) (hsmall:xs.length+ys.length<=1000000000) (hbase:base<=w.heap.size) (ty:EB): ∃A' cap' w',(bv #[23,23] ty #[G A xs.length cap,G Y4 ys.length c]).run Eb w= .ok (G A' (xs.length+ys.length) cap') w'/\ Own w' base A' cap' (xs++ys)/\Ik base w w'/\(∀k,k<w.heap.size->oD A k->w'.heap[k]?=w.heap[k]?/\oD A' k):=by
 obtain⟨i0,hi,hz0,hz1,hz2⟩:=bz mJ
 have hbb: ∀x∈xs++ys,0<=x/\x<=255:=by
  intro x hx;rcases XM.1 hx with h|h;·exact hown.2 x h
  ·exact hr.2 x h
 rcases Y4 with _|ad
 ·have hy:ys=[]:=by
   rcases hr.1 with h|⟨b,off,h,_⟩;·exact h
   ·cases h
  subst hy;refine⟨A,cap,w,?_,FY,E9 _ _,fun k _ hA=>⟨O,hA⟩⟩;rcases hown.1.2 with⟨hv,hn⟩|⟨g,cap',cur,hv,_,_,hnc,_⟩;·exact EnU
  ·exact EnX
 ·have hcells: ∀(j:Nat) Y3,(ys.map (E .u8))[j]?=Z Y3->w.cell? (ad.add j)=Z Y3:=by
   intro j Y3 hu
   have hj:j<ys.length:=by
    rcases JY j ys.length with h|h;·exact h
    ·rw[bf Up] at hu;cases hu
   rcases hr.1 with h|⟨b,off,h,hc⟩;·subst h;simp at hj
   ·exact Ent
  obtain⟨v',w',hrun,h2,h3,h4,h5⟩:=run_append_own_at (P:=Eb) w base 23 ty 5 i0 (E IL 0) 1 1 bA hi hz0 hz1 hz2 O U _ _ _ hown.1 ad ys.length c (ys.map (E .u8)) Eh hcells
   PG Ot U hbase
  have hbel:Ik base w w':=(E9 _ _).grown h3 hbase (fun k hk=>(hown.1.lt k hk).1)
  have hblk: ∀k,k<w.heap.size->oD A k->w'.heap[k]?=w.heap[k]?:=by
   intro k hk hA;refine h3.block k hk ?_;cases A with
   |none=>simp[mx]
   |some a=>simpa[mx] using ZE (hA a O)
  rcases h2.2 with⟨hv,hn⟩|⟨g,cap',cur,hv,hrest⟩
  ·refine⟨X,0,w',?_,⟨?_,hbb⟩,hbel,fun k hk hA=>⟨hblk k hk hA,fun a ha=>by cases ha⟩⟩;·rw[hrun,hv,hn]
   ·have e:(xs++ys).length=0:=by simpa using hn
    have e2:xs++ys=[]:=aF e;rw[e2];exact bN _ _ _ _
  ·refine⟨Z ⟨g,0,X⟩,cap',w',by rw[hrun,hv],⟨?_,hbb⟩,hbel,fun k hk hA=>⟨hblk k hk hA,?_⟩⟩;·rw[hv] at h2;rw[IY,kU];exact h2
   ·intro a ha;injection ha with ha;subst ha;rw[hv] at h5;rcases h5 with h5|h5
    ·cases A with
     |none=>simp[mx] at h5
     |some a=>simp[mx] at h5;rw[h5];exact hA a O
    ·simp[mx] at h5;rw[h5];show w.heap.size≠k;omega
theorem my{rest:List EL}{a:E6}(w:H)(hgd:I5 o (JO ops a.tmps)=EI)(s x:J7) (ho:o.op= .call {callee:= .builtin .append,args:= #[s,x],argTypes:= #[23,23]}) (base:Nat) (A:Option Eu) (cap n:Nat) (xs:List Int) (hn:xs.length=n) (hs:a.eval s=G A n cap) (hown:Own w base A cap xs) (Y4:Option Eu) (c m:Nat) (ys:List Int) (hm:ys.length=m) (hx:a.eval x=G Y4 m c) (hr:Row w Y4 ys) (hsmall:n+m<=1000000000) (hbase:base<=w.heap.size) (h: ∀A' cap' w',Own w' base A' cap' (xs++ys)->Ik base w w'->(∀k,k<w.heap.size->oD A k->w'.heap[k]?=w.heap[k]?/\oD A' k)->Ic Eb ops Q rest (a.put o.dst (G A' (n+m) cap')) w'):Ic Eb ops Q (o::rest) a w:=by subst hn hm;obtain⟨A',cap',w',hrun,h2,h3,h4⟩:=yY w base A cap xs hown Y4 c ys hr hsmall hbase o.type;refine Jr hgd (v:=G A' (xs.length+ys.length) cap') (w':=w') ?_ (h A' cap' w' h2 h3 h4);exact En7
def jO(b0:Nat)(T:EB)(N:Nat)(ys:List Y)(w w':H):Prop:=
 w.heap.size<=w'.heap.size/\(b0<=w.heap.size->Ik b0 w w')/\
 ∀(g:Nat) (cs:Array Y) (S:EB),w.heap[g]?=Z (EJ cs S (0,0))-> ∃cs':Array Y,w'.heap[g]?=Z (EJ cs' S (0,0))/\cs'.size=cs.size/\(S≠T->cs'=cs)/\ ∀j:Nat,cs'[j]?=cs[j]?\/(N<=j/\j<N+ys.length/\cs'[j]?=ys[j-N]?)
section
variable{b0:Nat}{T:TypeId}{N:Nat}{ys:List Value}
theorem hX:Kept (jO b0 T N ys):=by
 refine⟨fun w=>⟨E7 _,fun _=>E9 _ _,fun g cs S h=>⟨cs,h,O,fun _=>rfl,fun j=> .inl O⟩⟩,?_,fun w=>⟨E7 _,fun _=>(E9 _ _).drew,fun g cs S h=>⟨cs,h,O,fun _=>rfl,fun j=> .inl O⟩⟩⟩;rintro a b c ⟨h1,h2,h3⟩ ⟨k1,k2,k3⟩;refine⟨Ez h1 k1,fun h=>(h2 h).trans (k2 (Ez h h1)),fun g cs S h=> ?_⟩;obtain⟨cs1,e1,s1,t1,j1⟩:=h3 g cs S h;obtain⟨cs2,e2,s2,t2,j2⟩:=k3 g cs1 S e1;refine⟨cs2,e2,s2.trans s1,fun hS=>(t2 hS).trans (t1 hS),fun j=> ?_⟩;rcases j2 j with h|h
 ·rcases j1 j with h'|⟨p,q,r⟩;·exact .inl (h.trans h')
  ·exact .inr ⟨p,q,h.trans r⟩
 ·exact .inr h
theorem uZ(hb:El w w'):jO b0 T N ys w w':=
 ⟨hb.size,fun h=>hb.mono h,fun g cs S h=>⟨cs,Xj h hb,O,fun _=>rfl,fun j=> .inl O⟩⟩
theorem X1(h:jO b0 T N ys w w')(hk:D w g cs S)(hS:S≠T):D w' g cs S:=by obtain⟨cs',e,-,t,-⟩:=h.2.2 g cs S hk;rw[t hS] at e;exact e
theorem mA(h:jO b0 T N ys w w'){size:Nat}{v:Y}{xs:List Y}(ho:w.ownsRow base T size v n xs) (hx: ∀j,N<=j->j<N+ys.length->j<xs.length->xs[j]?=ys[j-N]?):w'.ownsRow base T size v n xs:=by
 obtain⟨h1,h2⟩:=ho;refine⟨h1,?_⟩;rcases h2 with h2|⟨g,cap,cur,rfl,hg,hh,hnc,hm,hs,ht⟩;·exact .inl h2
 ·obtain⟨cs',e,s,-,hj⟩:=h.2.2 g cur T hh;refine .inr ⟨g,cap,cs',O,hg,e,hnc,hm,s.trans hs,?_⟩;apply List.ext_getElem?;intro j;by_cases hlt:j<xs.length
  ·have h3:xs[j]?=cur[j]?:=by rw[<-ht,bj U];simp
   rw[bj U,Array.getElem?_toList];rcases hj j with h4|⟨p,q,r⟩;·rw[h4,h3]
   ·rw[r,hx j p q hlt]
  ·rw[bf Ji,bf U]
end
theorem dX(w:H)(b0 base:Nat)(t ty e:EB)(i:TypeInfo)(z:Y)(size bytes:Nat)(ht:P.underlying t=Z (.slice e))(hi:P.info? e=Z i)(hz:i.zero=Z z) (hsize:i.size=size) (hby:i.bytes=bytes) (hzs:z.cells.size=size) (A:Option Eu) (cap n:Nat) (xs:List Y) (hown:w.ownsRow base e size (G A n cap) n xs) (a:Eu) (m c:Nat) (news:List Y) (hl:news.length=m*size) (hnews: ∀j Y3,news[j]?=Z Y3->w.cell? (a.add j)=Z Y3) (h1: ∀Y3∈news,Y3.oneCell'=EI) (hm:A=X->0<m) (h63:n+m<=maxLen) (hbytes:(n+m)*bytes<=140737488355328) (hbase:base<=w.heap.size) (hb0:b0<=base): ∃A' cap' w',(bv #[t,t] ty #[G A n cap,G (Z a) m c]).run P w= .ok (G A' (n+m) cap') w'/\w'.ownsRow base e size (G A' (n+m) cap') (n+m) (xs++news)/\jO b0 e (n*size) news w w'/\A'≠X/\(cap<n+m->El w w'):=by
 subst hsize;subst hby;have hsmall:n+m<=9223372036854775807:=F0;have hlen:(xs++news).length=(n+m)*i.size:=by rw[IY,hown.1,hl,Nat.add_mul]
 have made: ∀old:Nat,(w.drew.alloc (EJ (xs.toArray++news.toArray++Builtin.zeroCells z.cells (grownCap w (n+m) old e-(n+m))) e)).ownsRow base e i.size (G (Z ⟨w.heap.size,0,X⟩) (n+m) (grownCap w (n+m) old e)) (n+m) (xs++news):=by
  intro old;have hge:=grownCap_ge w (n+m) old e;refine⟨hlen,.inr ⟨w.heap.size,_,_,O,hbase,fz w.drew _,hge,grownCap_le_maxLen w (n+m) old e h63,?_,?_⟩⟩;·simp only[Array.size_append,List.size_toArray,size_zeroCells,hzs,hown.1,hl,<-Nat.add_mul];congr 1;omega
  ·simp only[Array.toList_append];rw[<-hlen];exact List.take_left
 have PH: ∀o:Obj,El w (w.drew.alloc o):=fun o=>((E9 _ w).drew).alloc (E7 _) o;have bel: ∀o:Obj,jO b0 e (n*i.size) news w (w.drew.alloc o):=fun o=>uZ (((E9 _ w).drew).alloc (E7 _) o);rcases hown.2 with⟨hv,hn⟩|⟨g,cap',cur,hv,hbg,hg,hnc,hcm,hcs,htake⟩;·subst hn;have hx:xs=[]:=aF F1;subst hx;rw[hv];have hr:=run_append_nil (P:=P) w t ty e i z ht hi hz a m c news hl hnews (hm y_) U F2;have hmd:=made 0;simp only[OD,ZV,Array.empty_append] at hmd⊢;exact⟨_,_,_,hr,hmd,bel _,fun h=>XE,fun _=>PH _⟩
 ·rw[hv];by_cases hroom:n+m<=cap'
  ·have hfit:n*i.size+news.length<=cur.size:=F3;have hr:=run_append_room (P:=P) w t ty e i ht hi g n cap' cur hg a m c news hl hnews h1 hroom hfit;have hnew:=setRow_heap w g cur (cur.toList.take (n*i.size)++news++cur.toList.drop (n*i.size+news.length)).toArray e _ hg;have hsz:(cur.toList.take (n*i.size)++news++cur.toList.drop (n*i.size+news.length)).toArray.size=cur.size:=by simp only[List.size_toArray,IY,aO,mB,Array.length_toList];omega
   refine⟨_,_,_,hr,⟨hlen,.inr ⟨g,cap',_,O,hbg,hnew,hroom,hcm,hsz.trans hcs,?_⟩⟩,⟨?_,?_,?_⟩,fun h=>XE,fun h=>absurd h (by injection hv with _ _ h3;omega)⟩;·rw[htake,<-hlen];exact List.take_left
   ·simp
   ·intro _;exact(E9 _ _).trans ⟨O,O,O,Eh,fun k hk=>setRow_other w g k _ U⟩
   ·intro k cs S hk;by_cases e1:k=g
    ·subst e1;rw[hg] at hk;injection hk with hk;injection hk with k1 k2 k3;subst k1 k2;refine⟨_,hnew,hsz,fun hS=>absurd O hS,fun j=> ?_⟩;have tl:(cur.toList.take (n*i.size)).length=n*i.size:=Ji;simp only[OE];rcases JY j (n*i.size) with h|h;·left;rw[XI,bi U,bj h];simp
     ·rcases JY j (n*i.size+news.length) with h2|h2;·right;refine⟨h,h2,?_⟩;rw[bi PK,aX U,tl]
      ·left;rw[aX PK,List.getElem?_drop,IY,tl,<-Array.getElem?_toList];congr 1;omega
    ·exact⟨cs,(setRow_other w g k _ U).trans hk,O,fun _=>rfl,fun j=> .inl O⟩
  ·have holds: ∀j Y3,xs[j]?=Z Y3->w.cell? ((⟨g,0,X⟩:Eu).add j)=Z Y3:=by have h5:=hown;rw[hv] at h5;exact h5.cells (g:=g) O
   have hr:=run_append_grow (P:=P) w t ty e i z ht hi hz ⟨g,0,X⟩ n cap' xs hown.1 holds a m c news hl hnews U U (growslice_fits U hbytes);exact⟨_,_,_,hr,made cap',bel _,fun h=>XE,fun _=>PH _⟩
def be(n:Int)(k:Nat):List Int:=(U4 k).map fun i=>n/2^(8*(k-1-i))%256
def aa(n:Int)(k i:Nat):Array Y:=((U4 k).map fun j=>E .u8 (if j<i then n/2^(8*(k-1-j))%256 else 0)).toArray
theorem EJG(n:Int)(k i:Nat):(aa n k i).size=k:=by simp[aa]
theorem EJH(n:Int)(k i:Nat)(h:i<k):(aa n k i)[i]?=Z (E IL 0):=by simp[aa,h]
theorem EJK(n:Int)(k:Nat):aL #[E IL 0] k=aa n k 0:=by
 apply Array.ext;·simp[aL,aa]
 ·intro i h1 h2;simp[aL,aa,Nat.mod_one]
theorem EJL(n:Int)(k i:Nat)(h:i<k):(aa n k i).setIfInBounds i (E IL (n/2^(8*(k-1-i))%256))=aa n k (i+1):=by
 apply Array.ext;·simp[aa]
 ·intro j h1 h2;have hj:j<k:=by simpa[aa] using h2
  rw[Array.getElem_setIfInBounds (by simpa[aa] using hj)];simp only[aa,List.getElem_toArray,List.getElem_map,List.getElem_range];by_cases e:i=j;·subst e;simp
  ·rw[if_neg e];by_cases e2:j<i;·rw[if_pos e2,if_pos U]
   ·rw[if_neg e2,if_neg U]
theorem EJM(n:Int)(k:Nat):aa n k k=((be n k).map (E .u8)).toArray:=by unfold aa be;rw[List.map_map];congr 1;apply List.map_congr_left;intro j hj;simp at hj;simp[hj]
theorem EJN(n:Int)(k:Nat)(hk:k<=1000)(W:H): (Instr.makeSlice 23 (E I (k:Int)) (E I (k:Int))).run Eb W= .ok (G (Z ⟨W.heap.size,0,X⟩) k k) (W.alloc (EJ (aa n k 0) 5)):=by obtain⟨i0,hi,hz0,hz1,hz2⟩:=bz mJ;have h:=run_make (P:=Eb) W 23 5 i0 _ bA hi hz0 .i64 .i64 k k U U (by rw[hz2];omega) U;rw[h,hz1,mO,Nat.mul_one];have e:(E IntKind.u8 0).cells= #[E IL 0]:=rfl;rw[e,EJK n]
theorem PM(n:Int)(k:Nat)(w:H)(h0:0<=n)(h1:n<=18446744073709551615)(hk:k<=8)(hn:n/2^(8*k)=0): Ef Eb 111 #[E Im n,E I k] w fun e w'=>e=Eg (Et #[G (Z ⟨w.heap.size,0,X⟩) k k,E I 0])/\w.alloc (EJ ((be n k).map (E .u8)).toArray 5)=w':=by
 have hmk:=EJN n k U;have hn':(n/2^(8*k) !=0)=B:=by rw[hn];rfl
 go_enter Tryz.func111,Tryz.ntmps111;go_wp2;clear hmk hn';go_loopw[24] (fun y wr=> ∃i:Nat,i<=k/\y=E I i/\wr=w.alloc (EJ (aa n k i) 5)) (fun y _=>k-(Ir y).toNat);case atStart=>exact⟨0,U,O,O⟩
 case round=>
  obtain⟨i,hi,rfl,rfl⟩:=hrel;by_cases hlt:i<k
  ·have hc:=EJH n k i hlt;have hs:=EJG n k i;have hp:=EJL n k i hlt;go_wp2;go_roundw;case rel=>exact⟨i+1,U,by go_num,by first|rfl|rw[hp]⟩
   case measure=>simp[Ir];omega
  ·obtain rfl:i=k:=U;have hp:=EJM n i;go_wp2;go_ret2;exact⟨O,by first|rfl|rw[hp]⟩
def num(xs:List Int):Int:=xs.foldl (fun n x=>n*256+x) 0
theorem PN(xs:List Int)(x:Int):num (xs++[x])=num xs*256+x:=by simp[num]
theorem PR(xs:List Int)(i:Nat)(h:i<xs.length):num (xs.take (i+1))=num (xs.take i)*256+xs[i]:=by rw[List.take_succ_eq_append_getElem h,PN]
theorem ua(xs:List Int)(h: ∀x∈xs,0<=x/\x<=255)(i:Nat)(hi:i<=xs.length):0<=num (xs.take i)/\num (xs.take i)<256^i:=by
 induction i with
 |zero=>simp[num]
 |succ i ih=> have:=ih U;have hx:=h xs[i] (gY _);rw[PR xs i U,Int.pow_succ];omega
theorem EJP(n x:Int)(h0:0<=n)(h1:n<72057594037927936)(x0:0<=x)(x1:x<=255):Iu .or .u64 (n*256) x=n*256+x:=by obtain⟨m,rfl⟩:=jU h0;obtain⟨y,rfl⟩:=jU x0;have e:((m:Int)*256)=((m*256:Nat):Int):=Eh;rw[e,u64_or_nat _ _ U U,nat_join 8 _ _ U U];simp
theorem EJQ(xs:List Int)(i:Nat)(h:i<xs.length)(h8:xs.length<=8)(nb:0<=num (xs.take i)/\num (xs.take i)<256^i)(hx:0<=xs[i]/\xs[i]<=255): Iu .or .u64 (IntKind.u64.wrap (num (xs.take i)*256)) xs[i]=num (xs.take (i+1)):=by
 have hp:(256:Int)^i<=72057594037927936:=by
  have h1:256^i<=256^7:=Nat.pow_le_pow_right U U;have h2:(256:Int)^i=((256^i:Nat):Int):=by rw[Int.natCast_pow];rfl
  rw[show(256:Nat)^7=72057594037927936 from Ea] at h1;rw[h2];exact Int.ofNat_le.2 h1
 rw[PR xs i h,IntWalk.u64_in _ U,EJP _ _ nb.1 U hx.1 hx.2]
theorem PT(a:Option Eu)(xs:List Int)(c:Nat)(w:H)(hr:Row w a xs)(hl:xs.length<=8): Ef Eb 239 #[G a xs.length c] w fun e w'=>e=Eg (Et #[E Im (num xs),E I 0])/\w=w':=by
 obtain⟨hr,hb⟩:=hr;have NB:=J<|ua xs hb;have HR:=J hr;have HB:=J hb;clear hr hb;go_enter Tryz.func239,Tryz.ntmps239;go_wp2;go_loop [4,11] (fun x y=> ∃i:Nat,i<=xs.length/\y=E I i/\x=E Im (num (xs.take i))) (fun _ y=>xs.length-(Ir y).toNat);case atStart=>exact⟨0,U,O,O⟩
 case round=>
  obtain⟨i,hi,rfl,rfl⟩:=hrel;by_cases hlt:i<xs.length
  ·rcases HR.out with e|⟨b,off,rfl,hc⟩;·rw[e] at hlt;simp at hlt
   ·have hc:=hc i hlt;have nb:=NB.out i hi;have hx:=HB.out xs[i] (gY _);have STEP:=J<|EJQ xs i hlt hl nb hx;go_wp2;go_round;case rel=>exact⟨i+1,U,by go_num,by rw[STEP.out]⟩
    case measure=>simp[Ir];omega
  ·obtain rfl:i=xs.length:=U;rw[List.take_length];go_wp2;exact EoG
theorem EJR(n:Int)(w:H)(h0: -32768<=n)(h1:n<=32767): Ef Eb 252 #[E I n] w fun e w'=>e=Eg (Et #[G (Z ⟨w.heap.size,0,X⟩) 2 2,E I 0])/\w.alloc (EJ ((be (n%65536) 2).map (E .u8)).toArray 5)=w':=by
 have hp:=J<|PM (n%65536) 2 w U U U (by show n%65536/65536=0;omega);by_cases c:n<0;·have e:n%65536=n+65536:=U;exact EmM
 ·have e:n%65536=n:=U;exact EmM
def sig(xs:List Int):Int:=if 32767<num xs then num xs-65536 else num xs
theorem EJS(a:Option Eu)(xs:List Int)(c:Nat)(w:H)(hr:Row w a xs)(hl:xs.length=2): Ef Eb 238 #[G a 2 c] w fun e w'=>e=Eg (Et #[E I (sig xs),E I 0])/\w=w':=by
 have h:=PT a xs c w hr U;rw[hl] at h;have Y9:=J h;have hb:=ua xs hr.2 xs.length U;rw[List.take_length,hl] at hb;obtain⟨hb1,hb2⟩:=hb;have hb3:num xs<65536:=hb2;clear h hr hl hb2;go_enter Tryz.func238,Tryz.ntmps238;go_wp2_with (go_at_call 239;refine(Y9.out).mono ?_;rintro e w' ⟨rfl,rfl⟩)
 all_goals
  go_ret2
  refine⟨?_,O⟩
  unfold sig
  first|(rw[if_pos (by assumption)];rfl)|(rw[if_neg U];rfl)
theorem O0(n:Int)(k:Nat):(be n k).length=k:=by simp[be]
theorem ub(n:Int)(k:Nat): ∀x∈be n k,0<=x/\x<=255:=by intro x hx;simp only[be,dU] at hx;obtain⟨i,_,rfl⟩:=hx;omega
theorem F4(n:Int)(k:Nat):be n (k+1)=n/2^(8*k)%256::be n k:=by unfold be;rw[List.range_succ_eq_map,Uv,List.map_map];congr 1;apply List.map_congr_left;intro i hi;simp only[Function.comp_apply,Nat.add_sub_cancel];rw[show k-(i+1)=k-1-i from U]
theorem EJT(n:Int):be n 0=[]:=rfl
theorem EJV(n a b:Int)(ha:0<=a):n/a/b=n/(a*b):=by rw[Int.ediv_ediv,if_neg U];simp
theorem EJW(n:Int)(k:Nat):be n (k+1)=be (n/256) k++[n%256]:=by
 induction k with
 |zero=>simp[be]
 |succ k ih=> rw[F4,ih,F4 (n/256) k,List.cons_append];congr 2;rw[EJV _ _ _ U,Nat.mul_add,Int.pow_add,Int.mul_comm];rfl
theorem PW{P:List Int->Prop}(h0:P [])(h1: ∀l x,P l->P (l++[x]))(l:List Int):P l:=by
 have: ∀l:List Int,P l.reverse:=by
  intro l;induction l with
  |nil=>exact h0
  |cons x l ih=>rw[List.reverse_cons];exact h1 _ _ ih
 have:=this l.reverse;rwa [List.reverse_reverse] at this
theorem EJY(xs:List Int):(∀x∈xs,0<=x/\x<=255)->be (num xs) xs.length=xs:=by refine PW (P:=fun xs=>(∀x∈xs,0<=x/\x<=255)->be (num xs) xs.length=xs) (fun _=>rfl) (fun l x ih h=> ?_) xs;have hx:=h x Eh;have hl:=ih (fun y hy=>h y (by simp[hy]));rw[IY,List.length_singleton,EJW,PN];have e1:(num l*256+x)/256=num l:=U;have e2:(num l*256+x)%256=x:=U;rw[e1,e2,hl]
theorem PY(k:Nat)(hk:k<=63)(n:Int)(h0:0<=n)(h1:n<=18446744073709551615): Iu .and .u64 n (IntKind.u64.wrap (IntKind.u64.wrap (2^k)-1))=n%2^k:=by
 obtain⟨m,rfl⟩:=jU h0;have hp:2^k<=2^63:=Nat.pow_le_pow_right U hk;have hp0:0<2^k:=Nat.two_pow_pos k;have c1:((2:Int)^k)=((2^k:Nat):Int):=Eh;have w1:IntKind.u64.wrap ((2^k:Nat):Int)=((2^k:Nat):Int):=IntWalk.u64_in _ ⟨U,U⟩;have w2:IntKind.u64.wrap (((2^k:Nat):Int)-1)=((2^k-1:Nat):Int):=by rw[IntWalk.u64_in _ ⟨U,U⟩];omega
 rw[c1,w1,w2,u64_and_nat _ _ U U,Nat.and_two_pow_sub_one_eq_mod];simp
theorem kX(n:Int)(k:Nat)(w:H)(h0:0<=n)(h1:n<=18446744073709551615)(hk:k<=8)(hn:n/2^(8*k)=0): Ef Eb 111 #[E Im n,E I k] w fun e w'=>e=Eg (Et #[G (Z ⟨w.heap.size,0,X⟩) k k,E I 0])/\Row w' (Z ⟨w.heap.size,0,X⟩) (be n k)/\El w w':=
 (PM n k w h0 h1 hk hn).mono fun _ _ ⟨he,hw⟩=>⟨he,by subst hw;exact Fb (fz w _) O (ub n k),P1⟩
theorem EJ0(n:Int)(w:H)(h0: -32768<=n)(h1:n<=32767): Ef Eb 252 #[E I n] w fun e w'=>e=Eg (Et #[G (Z ⟨w.heap.size,0,X⟩) 2 2,E I 0])/\Row w' (Z ⟨w.heap.size,0,X⟩) (be (n%65536) 2)/\El w w':=
 (EJR n w h0 h1).mono fun _ _ ⟨he,hw⟩=>⟨he,by subst hw;exact Fb (fz w _) O (ub _ 2),P1⟩
theorem F5{a:Option Eu}(n c:Nat)(hn:xs.length=n)(hr:Row w a xs)(hl:n<=8): Ef Eb 239 #[G a n c] w fun e w'=>e=Eg (Et #[E Im (num xs),E I 0])/\w=w':=by subst hn;exact PT a xs c w hr hl
def ED(l:List Int):Array Y:=((U4 12).map fun i=>if i=7 then EU (l.getD 7 0==1) else E I (l.getD i 0)).toArray
theorem I_(l:List Int):(ED l).size=12:=by simp[ED]
theorem Zh(l:List Int)(i:Nat)(h:i<12):(ED l)[i]?=Z (if i=7 then EU (l.getD 7 0==1) else E I (l.getD i 0)):=by simp[ED,h]
theorem ZF(l:List Int):(ED l).all (·.oneCell')=EI:=by rw[Array.all_eq_true];intro i hi;simp only[ED,List.getElem_toArray,List.getElem_map];split<;>rfl
theorem EJ1(l:List Int)(hl:l.length=12)(o:Nat)(ho:o<12)(n:Int):(ED l).setIfInBounds o (if o=7 then EU (n==1) else E I n)=ED (l.set o n):=by
 apply Array.ext_getElem?;intro j;rw[Array.getElem?_setIfInBounds];by_cases h:o=j
 ·subst h;rw[if_pos O,if_pos (by rw[I_];exact ho),Zh _ _ ho];by_cases h7:o=7;·subst h7;simp[hl]
  ·rw[if_neg h7,if_neg h7];simp[hl,ho]
 ·rw[if_neg h];by_cases hj:j<12
  ·rw[Zh _ _ hj,Zh _ _ hj];have e1: ∀k,k≠o->(l.set o n).getD k 0=l.getD k 0:=fun k hk=>by simp[Uq,List.getElem?_set_ne (ZE hk)]
   by_cases h7:j=7;·subst h7;rw[if_pos O,if_pos O,e1 7 (ZE h)]
   ·rw[if_neg h7,if_neg h7,e1 j (ZE h)]
  ·rw[gQ (by rw[I_];omega),gQ (by rw[I_];omega)]
structure FD where
 kd:Nat
 (size lo hi:Int)
 off:Nat
def FD.get(d:FD):Nat:=if d.kd=1 then 234 else
 if d.kd=2 then 250 else
 if d.kd=3 then 248 else
 236
def FD.set(d:FD):Nat:=if d.kd=1 then 235 else
 if d.kd=2 then 251 else
 if d.kd=3 then 249 else
 237
def FD.box(d:FD):EB:=if d.kd=1 then 302 else
 if d.kd=2 then 333 else
 if d.kd=3 then 331 else
 300
def FD.ok(d:FD):Prop:=d.off<12/\d.kd<=1/\(d.kd=1↔d.off=7)
theorem FD.P2{d:FD}(h:d.kd=0):d.get=236:=F6
theorem FD.F7{d:FD}(h:d.kd=0):d.set=237:=zE
theorem FD.zI{d:FD}(h:d.kd=0):d.box=300:=zJ
theorem FD.EJ2{d:FD}(h:d.kd=1):d.set=235:=zE
theorem FD.EJ3{d:FD}(h:d.kd=1):d.box=302:=zJ
def ID(d:FD)(gb:Nat):Array Y:= #[E I d.size,E I d.lo,E I d.hi,.func (.func d.get) #[] #[M (Z ⟨gb,0,X⟩)],.func (.func d.set) #[] #[M (Z ⟨gb,0,X⟩)]]
theorem hZ(d:FD)(gb:Nat):(ID d gb).all (·.oneCell')=EI:=by simp[ID,OF]
def ZI(w:H)(d:FD)(gm gb:Nat):Prop:=D w gb #[M (Z ⟨gm,d.off,X⟩)] d.box
theorem XA:IG Eb 298 5:=⟨⟨_,Tryz.underlying298,O⟩,Ed⟩
theorem OM:IG Eb 183 12:=⟨⟨_,Tryz.underlying183,O⟩,Ed⟩
def Jx:Array Y:= #[E I 0,E I 0,E I 0,.nilFunc,.nilFunc]
theorem fL:Oq Eb 298 Jx:=by intro ev o w ho;unfold If;simp only[ho];simp[go_sem];exact congrArg (fun c=>w.alloc (EJ c 298)) Ed
theorem EJ4:Oq Eb 183 (ED (dT 12 0)):=by intro ev o w ho;unfold If;simp only[ho];simp[go_sem];exact congrArg (fun c=>w.alloc (EJ c 183)) Ed
theorem EJ5(gb gm o:Nat)(n:Int)(w:H)(hb:D w gb #[M (Z ⟨gm,o,X⟩)] 300)(hc:w.cell? ⟨gm,o,X⟩=Z (E I n)): Ef Eb 236 #[M (Z ⟨gb,0,X⟩)] w fun e w'=>e=Eg (E I n)/\w=w':=by have c0:=hb.cell 0;simp only[OE,kZ] at c0;clear hb;go_enter Tryz.func236,Tryz.ntmps236;exact Eli
def mC(l:List Int):Prop:=l.length=12/\(l.getD 7 0=0\/l.getD 7 0=1)
theorem P4(gb gm o:Nat)(n m:Int)(w:H)(hb:D w gb #[M (Z ⟨gm,o,X⟩)] 300)(hc:w.cell? ⟨gm,o,X⟩=Z (E I m))(hf:w.frozen? ⟨gm,o,X⟩=B): Ef Eb 237 #[E I n,M (Z ⟨gb,0,X⟩)] w fun e w'=>e=Eg (Et #[])/\w.setCell ⟨gm,o,X⟩ (E I n)=w':=by have c0:=hb.cell 0;simp only[OE,kZ] at c0;clear hb;go_enter Tryz.func237,Tryz.ntmps237;exact EnL
theorem EJ6(gb gm o:Nat)(n:Int)(b:Bool)(w:H)(hb:D w gb #[M (Z ⟨gm,o,X⟩)] 302)(hc:w.cell? ⟨gm,o,X⟩=Z (EU b))(hf:w.frozen? ⟨gm,o,X⟩=B): Ef Eb 235 #[E I n,M (Z ⟨gb,0,X⟩)] w fun e w'=>e=Eg (Et #[])/\w.setCell ⟨gm,o,X⟩ (EU (n==1))=w':=by have c0:=hb.cell 0;simp only[OE,kZ] at c0;clear hb;go_enter Tryz.func235,Tryz.ntmps235;exact EnL
theorem EJ7(d:FD)(gb gm:Nat)(l:List Int)(n:Int)(w:H)(hd:d.ok)(hl:mC l)(hb:ZI w d gm gb)(hm:D w gm (ED l) 183): Ef Eb d.set #[E I n,M (Z ⟨gb,0,X⟩)] w fun e w'=>e=Eg (Et #[])/\D w' gm (ED (l.set d.off n)) 183/\(∀k,k≠gm->w'.heap[k]?=w.heap[k]?)/\w'.heap.size=w.heap.size/\Ik gm w w':=by
 have hc:=hm.cell d.off;have hf:=hm.JX d.off;rw[Zh _ _ hd.1] at hc;have fin: ∀v,v=(if d.off=7 then EU (n==1) else E I n)->D (w.setCell ⟨gm,d.off,X⟩ v) gm (ED (l.set d.off n)) 183/\(∀k,k≠gm->(w.setCell ⟨gm,d.off,X⟩ v).heap[k]?=w.heap[k]?)/\(w.setCell ⟨gm,d.off,X⟩ v).heap.size=w.heap.size/\Ik gm w (w.setCell ⟨gm,d.off,X⟩ v):=by intro v hv;subst hv;refine⟨?_,fun k hk=>XK _ _ _ _ hk,Fq,(E9 gm w).setCell (p:=⟨gm,d.off,X⟩) (E7 _) _⟩;have h:=hm.set d.off (if d.off=7 then EU (n==1) else E I n);rw[EJ1 l hl.1 _ hd.1] at h;exact h
 unfold ZI at hb;by_cases hn:d.kd=1;·have h7:=hd.2.2.1 hn;rw[FD.EJ3 hn] at hb;rw[FD.EJ2 hn];have P5:=fin (EU (n==1)) (by rw[if_pos h7]);rw[h7] at hc hb hf P5⊢;rw[if_pos O] at hc;exact(EJ6 gb gm 7 n _ w hb hc hf).mono fun e w' ⟨he,hw⟩=>⟨he,by rw[<-hw];exact P5⟩
 ·have h7:d.off≠7:=fun h=>hn (hd.2.2.2 h);have h0:d.kd=0:=by have:=hd.2.1;omega
  rw[FD.zI h0] at hb;rw[FD.F7 h0];rw[if_neg h7] at hc;have zO:=fin (E I n) (by rw[if_neg h7]);exact Eoj
def FV(w:H)(base gm:Nat)(d:FD)(v:Y):Prop:= ∃gb,v=EZ (ID d gb)/\base<=gb/\ZI w d gm gb
theorem FV.V{gm:Nat}{d:FD}{v:Y}(h:FV w base gm d v)(hb:El w w'):FV w' base gm d v:=by obtain⟨gb,e,l,k⟩:=h;exact⟨gb,e,l,k.V hb⟩
theorem EJ8(d:FD)(gb:Nat):Tryz.prog.built 298 [(0,E I d.size),(1,E I d.lo),(2,E I d.hi),(3,.func (.func d.get) #[] #[M (Z ⟨gb,0,X⟩)]),(4,.func (.func d.set) #[] #[M (Z ⟨gb,0,X⟩)])]=Z (ID d gb):=Ed
theorem F8(d:FD)(gb:Nat)(h0:d.lo=0):Tryz.prog.built 298 [(0,E I d.size),(2,E I d.hi),(3,.func (.func d.get) #[] #[M (Z ⟨gb,0,X⟩)]),(4,.func (.func d.set) #[] #[M (Z ⟨gb,0,X⟩)])]=Z (ID d gb):=by unfold ID;rw[h0];kernel_rfl
theorem oF(d:FD)(hd:d.kd=0)(gm:Nat)(w:H): Ef Eb 207 #[M (Z ⟨gm,d.off,X⟩),E I d.size,E I d.lo,E I d.hi] w fun e w'=> ∃v,e=Eg v/\FV w' w.heap.size gm d v/\El w w':=by have hg:=FD.P2 hd;have hs:=FD.F7 hd;have hx:=FD.zI hd;have BF:=EJ8 d w.heap.size;rw[hg,hs] at BF;have O1:=J<|hZ d w.heap.size;have OP:Ec ((ID d w.heap.size).size=5):=J O;have HV:Ec (ID d w.heap.size=ID d w.heap.size):=J O;generalize Uf:ID d w.heap.size=fv at*;replace Uf:=J Uf;replace BF:=J BF;clear HV hg hs;have HX:=J hx;clear hx;have HB:Ec (∀W:H,D W w.heap.size #[M (Z ⟨gm,d.off,X⟩)] 300->FV W w.heap.size gm d (EZ fv)):=J fun W h=>⟨w.heap.size,by rw[Uf.out],E7 _,by unfold ZI;rw[HX.out];exact h⟩;clear HX Uf;generalize d.size=sz at*;generalize d.lo=lo at*;generalize d.hi=hi at*;generalize d.off=of at*;go_enter Tryz.func207,Tryz.ntmps207;go_wp2_with (with_reducible refine wA fL (Ev.mk ?_));apply Eo;have K4:=J<|(D.new w #[M (Z ⟨gm,of,X⟩)] 300).alloc (EJ Jx 298);have K8:=J<|D.new' (w.alloc (EJ #[M (Z ⟨gm,of,X⟩)] 300)) Jx 298 (g:=w.heap.size+1) Eh;have u:=J<|JV w (EJ #[M (Z ⟨gm,of,X⟩)] 300) (EJ Jx 298);generalize (w.alloc (EJ #[M (Z ⟨gm,of,X⟩)] 300)).alloc (EJ Jx 298)=w1 at*;go_wp2_with (first|((with_reducible refine It 14 ?_);refine I3 rfl 298 _ rfl fv BF.out ?_)|(with_reducible refine wS (cs:=fv) XA K8 ?_ (hn:=OP.out) (h1:=O1.out)));refine EV (v:=EZ fv) (Jj XA O _ _ (w.heap.size+1) _ O (K8.out.setRow _) OP.out) O ⟨_,O,HB.out _ (K4.out.setRow_other _ _ U),E2 u.out U _⟩
def jX(Y5:Nat):Prop:= ∀(args:Array Y) (w:H),(Jd Y5 args).run Eb w= .ok (.enter Y5 args) w
def dY(w:H)(Y5:Nat)(gp:Y)(n:Int):Prop:=jX Y5/\ ∀W,El w W->Ef Eb Y5 #[gp] W fun e w'=>e=Eg (E I n)/\W=w'
theorem dY.V{Y5:Nat}{n:Int}(h:dY w Y5 gp n)(hb:El w w'):dY w' Y5 gp n:=⟨h.1,fun W hW=>h.2 W (bt hb hW)⟩
theorem dY.call{Y5:Nat}{n:Int}(h:dY w Y5 gp n)(W:H)(hW:El w W):Ef Eb Y5 #[gp] W fun e w'=>e=Eg (E I n)/\W=w':=h.2 W hW
theorem EJ9(d:FD):jX d.get:=by
 intro args w;unfold FD.get;repeat' split
 all_goals kernel_rfl
theorem P6(d:FD):jX d.set:=by
 intro args w;unfold FD.set;repeat' split
 all_goals kernel_rfl
theorem EJ_(sz lo hi n:Int)(Y5 S:Nat)(gp:Y)(w:H)(HG:dY w Y5 gp n)(h:n<lo): Ef Eb 242 #[EZ #[E I sz,E I lo,E I hi,.func (.func Y5) #[] #[gp],.func (.func S) #[] #[gp]]] w fun e w'=>e=Eg (Et #[G X 0 0,EU B])/\El w w':=by have C:=J HG;have HE: ∀(args:Array Y) (w:H),(Jd Y5 args).run Eb w= .ok (.enter Y5 args) w:=HG.1;clear HG;go_enter Tryz.func242,Tryz.ntmps242;go_wp2_with fail;have B1:=Er w (EJ #[E I sz,E I lo,E I hi,.func (.func Y5) #[] #[gp],.func (.func S) #[] #[gp]] 298);refine(C.out.call _ B1).mono ?_;rintro e w1 ⟨rfl,rfl⟩;clear C HE;have hd:decide (n<lo)=EI:=IU h;go_wp2_with fail;go_ret2;exact⟨O,B1⟩
theorem EOE(sz lo hi n:Int)(Y5 S:Nat)(gp:Y)(w:H)(HG:dY w Y5 gp n)(h0:lo<=n)(h:hi<n): Ef Eb 242 #[EZ #[E I sz,E I lo,E I hi,.func (.func Y5) #[] #[gp],.func (.func S) #[] #[gp]]] w fun e w'=>e=Eg (Et #[G X 0 0,EU B])/\El w w':=by have C:=J HG;have HE: ∀(args:Array Y) (w:H),(Jd Y5 args).run Eb w= .ok (.enter Y5 args) w:=HG.1;clear HG;go_enter Tryz.func242,Tryz.ntmps242;go_wp2_with fail;have B1:=Er w (EJ #[E I sz,E I lo,E I hi,.func (.func Y5) #[] #[gp],.func (.func S) #[] #[gp]] 298);refine(C.out.call _ B1).mono ?_;rintro e w1 ⟨rfl,rfl⟩;clear C HE;have hd:decide (n<lo)=B:=IJ U;have hd2:decide (hi<n)=EI:=IU h;go_wp2_with fail;go_ret2;exact⟨O,B1⟩
theorem EOI(sz lo hi n:Int)(Y5 S:Nat)(gp:Y)(w:H)(HG:dY w Y5 gp n)(h0:lo<=n)(h:n<=hi)(hl:lo<0)(hl2: -32768<=lo)(hh:hi<=32767): Ef Eb 242 #[EZ #[E I sz,E I lo,E I hi,.func (.func Y5) #[] #[gp],.func (.func S) #[] #[gp]]] w fun e w'=> ∃g,e=Eg (Et #[G (Z ⟨g,0,X⟩) 2 2,EU EI])/\Row w' (Z ⟨g,0,X⟩) (be (n%65536) 2)/\El w w':=by have C:=J HG;have HE: ∀(args:Array Y) (w:H),(Jd Y5 args).run Eb w= .ok (.enter Y5 args) w:=HG.1;clear HG;go_enter Tryz.func242,Tryz.ntmps242;go_wp2_with fail;have B1:=Er w (EJ #[E I sz,E I lo,E I hi,.func (.func Y5) #[] #[gp],.func (.func S) #[] #[gp]] 298);refine(C.out.call _ B1).mono ?_;rintro e w1 ⟨rfl,rfl⟩;clear C HE;have hd:decide (n<lo)=B:=IJ U;have hd2:decide (hi<n)=B:=IJ U;have hd3:decide (lo<0)=EI:=IU hl;have n1: -32768<=n:=U;have n2:n<=32767:=U;go_wp2_with fail;refine(EJ0 n _ n1 n2).mono ?_;exact EnT
theorem EOJ(lo hi n:Int)(Y5 S:Nat)(gp:Y)(w:H)(HG:dY w Y5 gp n)(k:Nat)(hk8:k<=8)(h0:lo<=n)(h:n<=hi)(hl:0<=lo)(hn:n/2^(8*k)=0)(hh:hi<=9223372036854775807): Ef Eb 242 #[EZ #[E I (k:Int),E I lo,E I hi,.func (.func Y5) #[] #[gp],.func (.func S) #[] #[gp]]] w fun e w'=> ∃g,e=Eg (Et #[G (Z ⟨g,0,X⟩) k k,EU EI])/\Row w' (Z ⟨g,0,X⟩) (be n k)/\El w w':=by have C:=J HG;have HE: ∀(args:Array Y) (w:H),(Jd Y5 args).run Eb w= .ok (.enter Y5 args) w:=HG.1;clear HG;go_enter Tryz.func242,Tryz.ntmps242;go_wp2_with fail;have B1:=Er w (EJ #[E I (k:Int),E I lo,E I hi,.func (.func Y5) #[] #[gp],.func (.func S) #[] #[gp]] 298);refine(C.out.call _ B1).mono ?_;rintro e w1 ⟨rfl,rfl⟩;clear C HE;have hd:decide (n<lo)=B:=IJ U;have hd2:decide (hi<n)=B:=IJ U;have hd3:decide (lo<0)=B:=IJ U;have n1:0<=n:=U;have n2:n<=18446744073709551615:=U;have n3:n<=9223372036854775807:=U;have CP:=J<|fun W=>kX n k W n1 n2 hk8 hn;clear hn;go_wp2_with fail;refine(CP.out _).mono ?_;exact EnT
structure fM where
 code:Int
 Y5:Nat
 lb:Array Y
 b:Bool
def fM.v(c:fM):List Y:=[E I c.code,.func (.func c.Y5) #[] c.lb]
def EOU(w:H)(c:fM):Prop:=jX c.Y5/\ ∀W,El w W->Ef Eb c.Y5 c.lb W fun e w'=>e=Eg (EU c.b)/\El W w'
def jZ:List fM->Int
 |[]=>0
 |c::r=>if c.b then c.code else jZ r
theorem P7(L:List fM)(i:Nat)(h:i<L.length):(L.flatMap fM.v)[i*2]?=Z (E I L[i].code)/\(L.flatMap fM.v)[i*2+1]?=Z (.func (.func L[i].Y5) #[] L[i].lb):=by
 induction L generalizing i with
 |nil=>simp at h
 |cons c r ih=>
  cases i with
  |zero=>simp[fM.v]
  |succ i=> have:=ih i Up;rw[kI,show(i+1)*2=i*2+2 from U,show i*2+2+1=i*2+1+2 from U];simpa[fM.v] using this
theorem EOX(L:List fM)(i:Nat)(h:i<L.length):jZ (L.drop i)=if L[i].b then L[i].code else jZ (L.drop (i+1)):=by rw[mg h];rfl
theorem EOZ:IG Eb 317 2:=⟨⟨_,Tryz.underlying317,O⟩,Ed⟩
theorem P8(L:List fM)(g n:Nat)(w:H)(hn:L.length=n)(hL:n<=10)(K:D w g (L.flatMap fM.v).toArray 317)(HT: ∀c∈L,EOU w c): Ef Eb 220 #[G (Z ⟨g,0,X⟩) n n] w fun e w'=>e=Eg (E I (jZ L))/\El w w':=by
 have HT:=J HT;have K:=J K;have HN:=J hn;obtain⟨r,hr⟩:=En (jZ L);rw[<-hr];have HR:=J<|show r=jZ (L.drop 0) from hr;clear hr hn;go_enter Tryz.func220,Tryz.ntmps220;go_wp2_with fail;go_loopw[7] (fun y wr=> ∃i:Nat,i<=n/\y=E I i/\r=jZ (L.drop i)/\El w wr) (fun y _=>n-(Ir y).toNat);case atStart=>exact⟨0,U,O,HR.out,E9 _ _⟩
 case round=>
  obtain⟨i,hi,rfl,zX,u⟩:=hrel;replace u:=J u;by_cases hlt:i<n
  ·have t1:decide ((i:Int)<(n:Int))=EI:=IU U;have hil:i<L.length:=mD;obtain⟨c,hc⟩:=En (L[i]);have KW:=K.out.V (u.out.mono (E7 _));have c0:wr.cell? ⟨g,i*2,X⟩=Z (E I c.code):=by rw[hc,KW.cell,OE];exact(P7 L i hil).1
   have c1:wr.cell? ⟨g,i*2+1,X⟩=Z (.func (.func c.Y5) #[] c.lb):=by rw[hc,KW.cell,OE];exact(P7 L i hil).2
   have TC:=HT.out c (by rw[hc];exact gY hil);have HE: ∀(args:Array Y) (w:H),(Jd c.Y5 args).run Eb w= .ok (.enter c.Y5 args) w:=TC.1;have CC:=J<|TC.2;have P9:Ec (r=if c.b then c.code else jZ (L.drop (i+1))):=J (by rw[hc,zX];exact EOX L i hil);clear TC zX hc KW;obtain⟨code,Y5,lb,b⟩:=c;simp only at*;go_wp2_with (first|(with_reducible refine EI7 317 ?_));apply Eo;clear c0 c1 t1;have lw:=u.out.size;have KC:=J<|D.new wr #[E I 0,.nilFunc] 317;have B1:=Er wr (EJ #[E I 0,.nilFunc] 317);replace u:=J<|u.out.trans (B1.mono u.out.size);clear B1;generalize wr.alloc (EJ #[E I 0,.nilFunc] 317)=w1 at*;generalize wr.heap.size=gc at*;go_wp2_with (with_reducible refine wS (cs:= #[E I code,.func (.func Y5) #[] lb]) EOZ KC (Ev.mk ?_) (h1:=Ug));apply Eo;replace KC:=J<|KC.out.setRow #[E I code,.func (.func Y5) #[] lb];replace u:=J<|E2 (g:=gc) u.out lw #[E I code,.func (.func Y5) #[] lb];generalize w1.setRow gc #[E I code,.func (.func Y5) #[] lb]=w2 at*;have cc1:w2.cell? ⟨gc,1,X⟩=Z (.func (.func Y5) #[] lb):=(KC.out.cell 1).trans O;go_wp2_with fail;refine(CC.out _ u.out).mono ?_;rintro x w3 ⟨rfl,b3⟩;replace KC:=J<|KC.out.V b3;replace u:=J<|u.out.trans (b3.mono u.out.size);clear b3 cc1 CC HE;have cc0:w3.cell? ⟨gc,0,X⟩=Z (E I code):=(KC.out.cell 0).trans O;cases b with
   |true=> have er:r=code:=P9.out;go_wp2_with fail;go_ret;exact⟨by rw[er];rfl,u.out⟩
   |false=> go_wp2_with fail;exact⟨⟨i+1,U,Eh,P9.out,u.out⟩,JM⟩
  ·have t1:decide ((i:Int)<(n:Int))=B:=IJ U;have er:r=0:=by rw[zX,List.drop_of_length_le ry];rfl
   clear zX;go_wp2_with fail;go_ret;exact⟨by rw[er];rfl,u.out⟩
section
open Go.ChangeShapes Go.WideShapes
def EG(n:Nat)(f:Nat->Y):Array Y:=((U4 n).map f).toArray
def UR(f:Nat->Y)(j:Nat)(v:Y):Nat->Y:=fun x=>if x=j then v else f x
@[simp] theorem oG(n:Nat)(f:Nat->Y):(EG n f).size=n:=kf
theorem d_(n:Nat)(f:Nat->Y)(i:Nat):(EG n f)[i]?=if i<n then Z (f i) else X:=by
 unfold EG;by_cases h:i<n;·simp[h]
 ·simp[h]
theorem rz(n:Nat)(f:Nat->Y)(i:Nat)(h:i<(EG n f).size):(EG n f)[i]=f i:=kf
theorem zZ(n:Nat)(f:Nat->Y)(j:Nat)(v:Y):(EG n f).setIfInBounds j v=EG n (UR f j v):=by
 apply Array.ext;·simp[EG]
 ·intro i h1 h2;have hi:i<n:=by simpa[EG] using h2
  rw[Array.getElem_setIfInBounds (by simpa[EG] using hi),rz,rz];unfold UR;by_cases e:j=i;·subst e;simp
  ·rw[if_neg e,if_neg (fun h=>e h.symm)]
theorem P_(cs:Array Y)(n:Nat)(h:cs.size=n):cs=EG n (fun i=>cs.getD i I2):=by
 apply Array.ext;·simp[EG,h]
 ·intro i h1 h2;rw[rz];simp[h1]
theorem F9(f:Nat->Y)(j:Nat)(v:Y):UR f j v j=v:=by simp[UR]
theorem oH(f:Nat->Y)(j:Nat)(v:Y)(x:Nat)(h:x≠j):UR f j v x=f x:=by simp[UR,h]
attribute [go_sem] d_ rz oG
def ZG(v:Y):Prop:=v=E I (Ir v)/\ -9223372036854775808<=Ir v/\Ir v<=9223372036854775807
structure rA(w:H)(f:Nat->Y):Prop where
 int: ∀i,i<56->i<5\/8<i->ZG (f i)
 key: ∀i,5<=i->i<=8->yj w (f i)
def QE(w:H)(v:Y):Prop:= ∃f,v=EZ (EG 56 f)/\rA w f
def F_:List EB:=dT 5 3++dT 4 23++dT 47 3
theorem mk_pol{r:Reach}{Y9:Type}{enc:EB×Y->Y9}{v:Y}{d:DataW Y9}{p:List MemPlace} (hv:Value.okWide Eb w r base 28 v) (hd:DataW.Trod enc Eb w 0 (fun _=>EI) EI 28 v d p):QE w v:=by
 obtain⟨cs,rfl,hs,hc⟩:=flat (ts:=F_) (.inl ⟨_,Tryz.underlying28⟩) Ed Ed hv;have hs:cs.size=56:=hs;have hget: ∀i,i<56->cs[i]?=Z (cs.getD i I2):=fun i hi=>by simp[show i<cs.size from U]
 refine⟨fun i=>cs.getD i I2,by rw[<-P_ cs 56 hs],⟨fun i hi h=> ?_,fun i h1 h2=> ?_⟩⟩
 ·have ht:F_[i]?=Z 3:=by have: ∀i:Fin 56,(i.1<5\/8<i.1)->F_[i.1]?=Z 3:=Ea;exact this ⟨i,hi⟩ h
  obtain⟨n,hn,b1,b2⟩:=EIH Tryz.underlying3 (hc i _ _ ht (hget i hi));unfold ZG;rw[hn];exact⟨O,b1,b2⟩
 ·obtain⟨fuel,hf⟩:=hd;obtain⟨xs,n,_,_,_,hl,hg⟩:=DataW.trod_struct Tryz.underlying28 hf;have hcl:(Value.agg cs).cells.toList=cs.toList:=rfl;rw[hcl] at hg;have c3:Tryz.prog.cellsOf 24=3:=Ed;have c1:Tryz.prog.cellsOf 23=1:=Ed;have one: ∀j,j<56->(cs.toList.drop j).take 1=[cs.getD j I2]:=by intro j hj;rw[mg Ji];simp[show j<cs.size from U]
  rcases JY i 8 with h8|h8
  ·have h:Zx enc Eb w 0 (fun _=>EI) EI n 24 ((cs.toList.drop 5).take (Tryz.prog.cellsOf 24))=xs[1]?:=hg 1 _ O;rw[c3] at h;have hx:1<xs.length:=by rw[hl];show 1<20;omega
   rw[J5 hx] at h;obtain⟨ys,m,_,_,_,_,hj⟩:=DataW.trod_array Tryz.underlying24 h;have:=hj (i-5) U;rw[c1] at this;have e:((List.take 3 (List.drop 5 cs.toList)).drop ((i-5)*1)).take 1=[cs.getD i I2]:=by rw[Nat.mul_one,List.drop_take,List.drop_drop,List.take_take,show 5+(i-5)=i from U,show min 1 (3-(i-5))=1 from U];exact one i U
   rw[e] at this;have hy:i-5<ys.length:=U;rw[J5 hy] at this;exact Nz bA Tryz.underlying5 Ed this
  ·obtain rfl:i=8:=U;have h:Zx enc Eb w 0 (fun _=>EI) EI n 23 ((cs.toList.drop 8).take (Tryz.prog.cellsOf 23))=xs[2]?:=hg 2 _ O;rw[c1] at h;have hx:2<xs.length:=by rw[hl];show 2<20;omega
   rw[J5 hx,one 8 U] at h;exact Nz bA Tryz.underlying5 Ed h
end
theorem EOb(W:H)(h e o oa om la lm:Int)(b:Bool)(g3:Nat)(KT:D W g3 #[E I h,E I e,E I o,E I oa,E I om,E I la,E I lm,EU b] 109)(g4:Nat)(s:Int)(K4:D W g4 #[E I s] 3): Ef Eb 226 #[M (Z ⟨g3,0,X⟩),M (Z ⟨g4,0,X⟩)] W fun x w'=>x=Eg (EU (decide (o<0\/o≠s)))/\El W w':=by
 have zc:g3<W.heap.size:=D.lt KT;have zd:W.cell? ⟨g3,0,X⟩=Z (E I h):=(D.cell KT 0).trans O;have c31:W.cell? ⟨g3,1,X⟩=Z (E I e):=(D.cell KT 1).trans O;have c32:W.cell? ⟨g3,2,X⟩=Z (E I o):=(D.cell KT 2).trans O;have zg:W.cell? ⟨g3,3,X⟩=Z (E I oa):=(D.cell KT 3).trans O;have c34:W.cell? ⟨g3,4,X⟩=Z (E I om):=(D.cell KT 4).trans O;have zi:W.cell? ⟨g3,5,X⟩=Z (E I la):=(D.cell KT 5).trans O;have zj:W.cell? ⟨g3,6,X⟩=Z (E I lm):=(D.cell KT 6).trans O;have c37:W.cell? ⟨g3,7,X⟩=Z (EU b):=(D.cell KT 7).trans O;have Ejr:g4<W.heap.size:=D.lt K4;have ci4:W.cell? ⟨g4,0,X⟩=Z (E I s):=(D.cell K4 0).trans O;by_cases h1:o<0;·rw[IU (.inl h1)];have d1:decide (0<=o)=B:=IJ U;clear KT K4 h1;exact Epp
 have d1:decide (0<=o)=EI:=IU U;by_cases h2:o=s;·rw[IJ U];have d2:(o !=s)=B:=yV;clear KT K4 h1 h2;exact Epp
 ·rw[IU (.inr h2)];have d2:(o !=s)=EI:=by simp[h2]
  clear KT K4 h1 h2;exact Epp
theorem EOc(W:H)(h e o oa om la lm:Int)(b:Bool)(g3:Nat)(KT:D W g3 #[E I h,E I e,E I o,E I oa,E I om,E I la,E I lm,EU b] 109)(g5:Nat)(ep:Int)(K5:D W g5 #[E I ep] 3): Ef Eb 227 #[M (Z ⟨g5,0,X⟩),M (Z ⟨g3,0,X⟩)] W fun x w'=>x=Eg (EU (decide (ep≠e)))/\El W w':=by
 have zc:g3<W.heap.size:=D.lt KT;have zd:W.cell? ⟨g3,0,X⟩=Z (E I h):=(D.cell KT 0).trans O;have c31:W.cell? ⟨g3,1,X⟩=Z (E I e):=(D.cell KT 1).trans O;have c32:W.cell? ⟨g3,2,X⟩=Z (E I o):=(D.cell KT 2).trans O;have zg:W.cell? ⟨g3,3,X⟩=Z (E I oa):=(D.cell KT 3).trans O;have c34:W.cell? ⟨g3,4,X⟩=Z (E I om):=(D.cell KT 4).trans O;have zi:W.cell? ⟨g3,5,X⟩=Z (E I la):=(D.cell KT 5).trans O;have zj:W.cell? ⟨g3,6,X⟩=Z (E I lm):=(D.cell KT 6).trans O;have c37:W.cell? ⟨g3,7,X⟩=Z (EU b):=(D.cell KT 7).trans O;have Ejt:g5<W.heap.size:=D.lt K5;have ci5:W.cell? ⟨g5,0,X⟩=Z (E I ep):=(D.cell K5 0).trans O;by_cases h2:ep=e;·rw[IJ U];have d2:(ep !=e)=B:=yV;clear KT K5 h2;go_enter Tryz.func227,Tryz.ntmps227;exact Elc
 ·rw[IU h2];have d2:(ep !=e)=EI:=by simp[h2]
  clear KT K5 h2;go_enter Tryz.func227,Tryz.ntmps227;exact Elc
theorem EOd(t:EK)(s ep:Int)(w:H)(he: -9223372036854775808<=t.e): Ef Eb 179 #[t.a,E I s,E I ep] w fun x w'=>x=Eg (Et #[(t.accept s ep).1.a,E I (t.accept s ep).2])/\El w w':=by
 have CG:=J<|fun W=>rq t s W he;obtain⟨r,hr⟩:=En (t.Uc s);have HE:Ec (t.accept s ep=if t.o<0\/t.o≠s then(t,28) else if ep≠t.e then(t,21) else r):=J uO;rw[<-hr] at CG;clear hr he;unfold EK.a at*;obtain⟨h,e,o,oa,om,la,lm,b⟩:=t;simp only at*;obtain⟨⟨h',e',o',oa',om',la',lm',b'⟩,k⟩:=r;simp only at CG;unfold UU at CG⊢;go_enter Tryz.func179,Tryz.ntmps179;go_wp2_with fail;generalize hW:Uz _ _=W at*;have K3:Ec (D W (w.heap.size) #[E I h,E I e,E I o,E I oa,E I om,E I la,E I lm,EU b] 109):=J (by subst hW;repeat (first|exact D.new _ _ _|exact D.new' _ _ _ Eh|refine D.alloc ?_ _));have K4:Ec (D W (w.heap.size+1) #[E I s] 3):=J (by subst hW;repeat (first|exact D.new _ _ _|exact D.new' _ _ _ Eh|refine D.alloc ?_ _));have K5:Ec (D W (w.heap.size+1+1) #[E I ep] 3):=J (by subst hW;repeat (first|exact D.new _ _ _|exact D.new' _ _ _ Eh|refine D.alloc ?_ _));have K6:Ec (D W (w.heap.size+1+1+1) #[E I 0,E I 0,E I 0,E I 0,E I 0,E I 0,E I 0,EU B] 109):=J (by subst hW;repeat (first|exact D.new _ _ _|exact D.new' _ _ _ Eh|refine D.alloc ?_ _));have KA:Ec (D W (w.heap.size+1+1+1+1) #[E I 28,.func (.func 226) #[] #[M (Z ⟨w.heap.size,0,X⟩),M (Z ⟨w.heap.size+1,0,X⟩)],E I 21,.func (.func 227) #[] #[M (Z ⟨w.heap.size+1+1,0,X⟩),M (Z ⟨w.heap.size,0,X⟩)]] 317):=J (by subst hW;repeat (first|exact D.new _ _ _|exact D.new' _ _ _ Eh|refine D.alloc ?_ _));have u:Ec (El w W):=J (by subst hW;(repeat (first|exact E9 _ _|(refine JQ ?_ Iv _)|(refine JR ?_ Iv _))));clear hW
 have CF:=P8 [⟨28,226,#[M (Z ⟨w.heap.size,0,X⟩),M (Z ⟨w.heap.size+1,0,X⟩)],decide (o<0\/o≠s)⟩,⟨21,227,#[M (Z ⟨w.heap.size+1+1,0,X⟩),M (Z ⟨w.heap.size,0,X⟩)],decide (ep≠e)⟩] (w.heap.size+1+1+1+1) 2 W O U KA.out (by
  intro c hc;simp only[UJ,UA,or_false] at hc;rcases hc with rfl|rfl;·exact⟨fun _ _=>Ed,fun W2 hW2=>EOb W2 h e o oa om la lm b _ (K3.out.V hW2) _ s (K4.out.V hW2)⟩
  ·exact⟨fun _ _=>Ed,fun W2 hW2=>EOc W2 h e o oa om la lm b _ (K3.out.V hW2) _ ep (K5.out.V hW2)⟩)
 simp only[jZ,decide_eq_true_eq] at CF;replace CF:=J CF;clear KA;by_cases h1:o<0\/o≠s;·rw[if_pos h1] at CF HE;exact ElN
 rw[if_neg h1] at CF HE;by_cases h2:ep≠e;·rw[if_pos h2] at CF HE;exact ElN
 rw[if_neg h2] at CF HE;refine CF.out.mono ?_;rintro x W2 ⟨rfl,b2⟩;replace K3:=J<|K3.out.V b2;replace K4:=J<|K4.out.V b2;replace K5:=J<|K5.out.V b2;replace K6:=J<|K6.out.V b2;replace u:=ET u b2;clear b2 CF h1 h2;have c4:W2.cell? ⟨w.heap.size+1,0,X⟩=Z (E I s):=(K4.out.cell 0).trans O;go_wp2_with (first|(with_reducible refine wL ER K3 ?_));refine(CG.out _).mono ?_;rintro x W3 ⟨rfl,b3⟩;replace K3:=J<|K3.out.V b3;replace K4:=J<|K4.out.V b3;replace K5:=J<|K5.out.V b3;replace K6:=J<|K6.out.V b3;replace u:=ET u b3;clear b3 CG c4;go_wp2_with (first|(with_reducible refine wS (cs:= #[E I h',E I e',E I o',E I oa',E I om',E I la',E I lm',EU b']) ER K6 ?_ (h1:=Ug)));exact Emc
theorem EOi{rest:List EL}{a:E6}(hw:I5 o (JO ops a.tmps)=EI) {v:Y}  (hr:(If a.eval o).run P w= .ok (.value v) w') (h:Ic P ops Q rest (a.put o.dst v) w'):Ic P ops Q (o::rest) a w:=by exact EmW
def pz:Nat->Y:=fun i=>if i<5 then E I 0 else if i<=8 then .slice X 0 0 else E I 0
theorem EOj:(Tryz.prog.info? 28).map (·.size)=Z 56:=Ed
section
variable{ops:Array Oper}{rest:List Oper}{o:Oper}{a:Act}{w:World}{Q:Exit->Act->World->Prop}
theorem oK(hw:I5 o (JO ops a.tmps)=EI)(x:J7)(ho:o.op= .load 28 x)(g:Nat)(q:Nat->Y)(hg:Ec (w.heap[g]?=Z (EJ (EG 56 q) 28 (0,0)))) (hx:a.eval x=M (Z ⟨g,0,X⟩)) (h:Ic Eb ops Q rest (a.put o.dst (EZ (EG 56 q))) w):Ic Eb ops Q (o::rest) a w:=by refine EOi hw ?_ h;unfold If;simp only[ho,hx,fB,dJ,Oz,Og,OC,run_loadVar_row w g 28 28 (EG 56 q) (0,0) _ hg.out Tryz.underlying28 O (by rw[EOj,oG])]
theorem bP{o:EL}{ops:Array EL}{tmps:Array Y}{j d:Nat}{want:Bool}(h:o.guard=Z (j,want))(hd:(ops[j]?).bind (·.dst)=Z d)(hv:tmps[d]?=Z (EU want)):I5 o (JO ops tmps)=EI:=by unfold I5 JO;simp[h,hd,hv]
end
theorem EOk(n m:Int)(hm:1<=m)(hm2:m<=1000000)(h1: -9223372036854775808<=n)(h2:n<=9223372036854775807):(n.tmod m+m)%m=n%m:=by have e:=Int.mul_tdiv_add_tmod n m;rw[Int.add_emod_right];conv=>rhs;rw[<-e,Int.mul_add_emod_self_left]
theorem bQ(n m:Int)(w:H)(h1: -9223372036854775808<=n)(h2:n<=9223372036854775807)(hm:1<=m)(hm2:m<=1000000): Ef Eb 22 #[E I n,E I m] w fun e w'=>e=Eg (E I (n%m))/\w=w':=by
 have b1:=Int.tmod_lt_of_pos n (b:=m) U;have b2:=Int.lt_tmod_of_pos n (b:=m) U;have HM:=J<|EOk n m hm hm2 h1 h2;have hz:(m==0)=B:=Ji;go_enter Tryz.func22,Tryz.ntmps22;go_wp2
 all_goals
  go_ret
  exact⟨by first|(rw[<-HM.out];rfl)|skip,rfl⟩
theorem EOl(w:H):Own (w.alloc (EJ #[E IL 7] 5)) w.heap.size (Z ⟨w.heap.size,0,X⟩) 1 [7]:=
 ⟨oC w #[E IL 7] 1 (E7 _) Ot O,fun x hx=>by simp at hx;omega⟩
def EOm(w:H)(base:Nat)(e:Uh):Prop:= ∃(Y4:Option Eu) (n c:Nat) (ys:List Int),e=Eg (G Y4 n c)/\ys.length=n/\Own w base Y4 c ys/\1<=n/\n<=64
theorem zk(A:Option Eu)(xs:List Int)(cap:Nat)(w:H)(hr:Row w A xs)(hl:xs.length<=cap)(hc:cap<=9223372036854775807): Ef Eb 21 #[G A xs.length cap] w fun e w'=>EOm w' w.heap.size e/\El w w':=by
 have ba: ∀o,El w (w.alloc o):=fun o=>(E9 _ _).alloc (E7 _) o;by_cases h0:xs=[];·subst h0;go_enter Tryz.func21,Tryz.ntmps21;go_wp2;go_ret;exact⟨⟨_,1,1,[7],O,O,EOl w,U,U⟩,ba _⟩
 ·have hpos:0<xs.length:=by cases xs<;>simp_all
  have hz:((xs.length:Int)==0)=B:=Ji;by_cases h64:64<xs.length
  ·have BA:=J ba;have HR:=J<|oO hr 64;have hlen:(xs.take 64).length=64:=l_;have HL:=J hlen;clear ba hr hlen h0;go_enter Tryz.func21,Tryz.ntmps21
   go_wp2_with (at_builtin
                refine uX _ O (.tmp 7) (.tmp 12) O w.heap.size _ 0 0 [] O O (FW w _ (E7 _)) A cap 64 (xs.take 64) HL.out O (Ix HR.out (BA.out _)) U (BA.out _).size ?_
                intro A1 mF w4 o1 b4)
   go_ret;rw[ZV] at o1;exact⟨⟨A1,64,mF,_,O,HL.out,o1,U,U⟩,(BA.out _).trans b4⟩
  ·have BA:=J ba;have HR:=J hr;clear ba hr h0;go_enter Tryz.func21,Tryz.ntmps21
   go_wp2_with (at_builtin
                refine uX _ O (.tmp 7) (.tmp 12) O w.heap.size _ 0 0 [] O O (FW w _ (E7 _)) A cap xs.length xs O O (Ix HR.out (BA.out _)) U (BA.out _).size ?_
                intro A1 mF w4 o1 b4)
   go_ret;rw[ZV] at o1;exact⟨⟨A1,xs.length,mF,xs,by first|rfl|simp,rfl,o1,U,U⟩,(BA.out _).trans b4⟩
def XB(w:H)(lo o:Nat)(v:Y):Prop:= ∃(A:Option Eu) (n cap:Nat) (ys:List Int) (base:Nat),v=G A n cap/\ys.length=n/\Own w base A cap ys/\1<=n/\n<=64/\(∀x,A=Z x->x.block≠o)/\lo<=base
theorem XB.V{o:Nat}{v:Y}(h:XB w lo o v)(hb:El w w'):XB w' lo o v:=by obtain⟨A,n,cap,ys,base,e,l,ho,r⟩:=h;exact⟨A,n,cap,ys,base,e,l,ZD ho hb,r⟩
theorem XB.keep{o:Nat}{v:Y}(h:XB w lo o v)(hw: ∀k,k≠o->w'.heap[k]?=w.heap[k]?):XB w' lo o v:=by
 obtain⟨A,n,cap,ys,base,e,l,ho,h1,h2,hx,hlo⟩:=h;refine⟨A,n,cap,ys,base,e,l,⟨?_,ho.2⟩,h1,h2,hx,hlo⟩;obtain⟨k1,k2⟩:=ho.1;refine⟨k1,?_⟩;rcases k2 with k2|⟨g,cap',cur,hv,hg,hh,hl⟩;·exact .inl k2
 ·refine .inr ⟨g,cap',cur,hv,hg,?_,hl⟩;rw[hw];·exact hh
  ·injection hv with e1 e2 e3;exact hx _ e1
theorem XB.set{o:Nat}{v:Y}(h:XB w lo o v)(i:Nat)(Y3:Y):XB (w.setCell ⟨o,i,X⟩ Y3) lo o v:=
 h.keep fun k hk=>XK _ _ _ _ hk
theorem XB.other{o p:Nat}{v:Y}(h:XB w lo o v)(hp:p<lo):XB w lo p v:=by
 obtain⟨A,n,cap,ys,base,e,l,ho,h1,h2,hx,hlo⟩:=h;refine⟨A,n,cap,ys,base,e,l,ho,h1,h2,?_,hlo⟩;rintro x rfl;rcases ho.1.2 with⟨k2,-⟩|⟨g,cap',cur,hv,hg,hh,hl⟩;·cases k2
 ·injection hv with e1 e2 e3;injection e1 with e1;subst e1;simp only;omega
theorem XB.new{o:Nat}{Y4:Option Eu}{c:Nat}{ys:List Int}(hl:ys.length=n)(ho:Own w base Y4 c ys)(h1:1<=n)(h2:n<=64)(h:o<base\/w.heap.size<=o)(hlo:lo<=base):XB w lo o (G Y4 n c):=by
 refine⟨Y4,n,c,ys,base,O,hl,ho,h1,h2,?_,hlo⟩;rintro x rfl;rcases ho.1.2 with⟨k2,-⟩|⟨g,cap',cur,hv,hg,hh,hl⟩;·cases k2
 ·injection hv with e1 e2 e3;injection e1 with e1;subst e1;have:=mE hh;simp only;omega
end Go.Proofs.YtclmichaaiohjaaGreatDoor
