import Derived.Test.YtclmichaaiohjaaGreatDoorS07
import Derived.Lib.BytesEntry
import Derived.OrdersIn
import Derived.RangeFuncLeaves
import Derived.RangeFuncNested
import Derived.RangeFuncRecord
import Derived.WalkMore
set_option maxRecDepth 100000
set_option linter.unusedVariables false
set_option linter.unusedSimpArgs false
set_option maxHeartbeats 6400000
namespace Go.Proofs.YtclmichaaiohjaaGreatDoor
open RowKit
open And renaming intro->JD
open _root_.Array renaming replicate->b_,getElem?_eq_some_iff->J3,getElem?_eq_getElem->kA
open Bool renaming true->EJ,false->EI,or_eq_true->nJ,and_eq_true->Oj
open Classical renaming byContradiction->sd
open Go renaming bits->Ir,World->M,Calls->Eg,TypeId->EB,Value->Y,Addr->Ep,Program->Jq,bodyPost_ret->ET,binOp->X5,results->UA,Exit->UM,Act->E_,Oper->EP,yielded->Jg,execOp->Ig,wpList->Ib,undef->I6,getD_set_ne->aq,mem_ready->ZR,Operand->J5,info_parts->au,madeCells->bZ,below_setRow->EY,wpQuiet_nil->I5,callFunc->Jm,wp_loop_rounds->Uk,rounds_succ->Il,results_none->UQ,Ending->Ud,wpListIn->aS
open Act renaming put->Ih
open Builtin renaming append_->ZX
open Code renaming region->bU
open Ending renaming returned->Ei
open Fence renaming wide->X0
open Instr renaming indexAt->qY
open IntKind renaming i64->I,u8->Ix
open Lib renaming hid->J
open Obj renaming cells->Eb
open Oper renaming wp->dn
open Go.Proofs.Tryz renaming prog->EZ
open Region renaming wanted->JO,binds->UN,ready->ky
open Result renaming andThen_ok->OM
open RowKit renaming Below->Ij,Hid->Ed,intOf->In
open RowKit.Below renaming refl->IU,size->XE
open Sem renaming run_bind->OH,run_pure->Oi
open Value renaming bool->Ec,int->E,agg->Ea,slice->G,tuple->Eu,pointer->V,oneCell'->Oc,ownBlock->np
open World renaming ownsRow_nil->cu,ownsRow_lit->nm,ownsRow->dU
open Int renaming toNat_natCast->kn,eq_ofNat_of_zero_le->fm
open List renaming eq_nil_of_length_eq_zero->ZP,getElem?_eq_getElem->JV,range->U4,mem_range->bX,mem_cons_of_mem->XU,mem_cons_self->dq,all_eq_true->Xw,getElem?_eq_some_iff->Xx,mem_iff_getElem?->gO,cons_append->ku,take_append_drop->iU,take_succ_cons->Is,drop_eq_getElem_cons->nO,length_take->ar,take_of_length_le->OP,getD_eq_getElem?_getD->OE,getElem?_append_right->aE,map_cons->UB,map_nil->Xn,take_zero->Iq,getElem?_toArray->J2,setIfInBounds_toArray->Ik,length_append->IY,length_cons->Zn,mem_cons->UJ,append_assoc->U7,set_cons_succ->Ic,set_cons_zero->If,mem_append->Xp,map_append->ik,nil_append->ZZ,length_drop->il,not_mem_nil->Um,drop_succ_cons->IT,drop_zero->IM,append_nil->dy,take_add_one->nG,all_cons->aC,mem_of_getElem?->aD,drop_eq_nil_of_le->pT,length_nil->jP
open Nat renaming lt_or_ge->JW,le_trans->Ew,le_refl->E3,zero_add->Ox,zero_le->aO,add_assoc->jx,reduceAdd->Z3,le_of_lt->aH,le_of_eq->OC
open Ne renaming symm->XA
open Option renaming some->D,none->Z
open Option.some renaming inj->fb
open KQ
variable{o o0:EP}{F:Fence}{a a0:E_}{K:E_->M->Prop}{l id m k b base gs size n lo d ge gb gm ga gr Y_:Nat}{w0 W W' w':M}{x:J5}{P:Jq}{T S:EB}{cs z:Array Y}{A:Option Ep}{c c':Ey}{v sv rv:Y}{g:Nat->Y}{rs:Int->List Int}{Q:UM->E_->M->Prop}{rc:Loop}{act:List Y}{hd:List Int}{o2:Obj}
section
variable{P:Program}{ops:Array Oper}{Q:Exit->Act->World->Prop}{C:World->Prop}{n:Nat}
theorem Eh0{ro:Option Nat}(hd: ∀c,o.op≠ .defer c)(ρ:J5->Y):o.semAt ro ρ=Ig ρ o:=Oper.semAt_eq ro ρ o hd
theorem EEq{row:String}{args:Array Y}{w:M}{R:Y->M->Prop}(h:Rows P row args w R):RowsIn X0 n P row args w R:=
 fun c cs _=>let ⟨v,w',r,s⟩:=h c cs;⟨v,w',r,stepsIn_wide.2 s⟩
theorem EEr(hF:F=X0\/ ∃l,F=Fence.wide.inRound l)(hd:F=X0\/ ∀c,o.op≠ .defer c){w:M}(hq: ¬LetsOut Q)(h:o.wp P a w K Q):o.wpIn F n P a w K Q:=by
 have hs:o.semAt F.round a.eval=Ig a.eval o:=by
  rcases hd with rfl|hd;·rfl
  ·exact Eh0 hd _
 have hf: ∀f,F.fn f:=fun f=>EEs
 have hc: ∀{f args w R},Eg P f args w R->CallsIn F (n-1) P f args w R:=fun h=>by
  rcases hF with rfl|⟨l,rfl⟩;·exact callsIn_wide.2 h
  ·exact CallsIn.inRound (F:=X0) l (callsIn_wide.2 h)
 have hr: ∀{row args w R},Rows P row args w R->RowsIn F (n-1) P row args w R:=fun h=>by
  rcases hF with rfl|⟨l,rfl⟩;·exact EEq h
  ·exact EEq (n:=n-1) h
 have hdp:F.depth.isSome=EJ->1<=n:=fun h=>by rcases hF with rfl|⟨l,rfl⟩<;>cases h
 refine⟨fun f _=>hf f,?_⟩;rw[hs];unfold dn at h;generalize (Ig a.eval o).run P w=r at*;cases r with
 |ok x w'=>
  cases x<;>simp only[Oper.upon,Oper.uponIn] at h⊢ <;>
   first
    |exact h
    |exact⟨hdp,hc h⟩
    |exact⟨hdp,hr h⟩
    |exact h.elim
 |halt x w'=>cases x<;>simp only[Oper.upon,Oper.uponIn] at h⊢ <;>exact h
theorem Eh1{w:M}(h:o.wp P a w K (fun _ _ _=>False)):o.wpIn X0 n P a w K Q:=by
 have h1:=EEr (n:=n) (F:=X0) (.inl O) (.inl O) ub h;unfold Oper.wpIn at*;refine⟨h1.1,?_⟩;have h1:=h1.2;generalize (o.semAt Fence.wide.round a.eval).run P w=r at*;cases r with
 |ok x w'=>
  cases x<;>simp only[Oper.uponIn] at h1⊢ <;>
   first
    |exact h1
    |exact⟨h1.1,CallsIn.mono h1.2 (fun e w'' he=>by cases e<;>first|exact he|exact he.elim|exact EEt)⟩
    |exact⟨h1.1,RoundIn.mono h1.2 (fun e w'' he=>by cases e<;>first|exact he|exact he.elim|exact EEt)⟩
 |halt x w'=>cases x<;>simp only[Oper.uponIn] at h1⊢ <;>exact h1.elim
def uc(l:List EP):Bool:=l.all fun o=>match o.op with| .defer _=>false|_=>true
theorem Eh2{l:List EP}(h:uc l=EJ)(ho:o∈l): ∀c,o.op≠ .defer c:=fun c e=>by have:=Xw.1 h o ho;rw[e] at this;cases this
theorem D6{F:Fence}(hF:F=X0\/ ∃l,F=Fence.wide.inRound l)(hq: ¬LetsOut Q): ∀(l1 l2:List EP) (a:E_) (w:M),uc l1=EJ-> Ib P ops (Exit.then (aS F n P ops Q l2) Q) l1 a w->aS F n P ops Q (l1++l2) a w
 |[],_,_,_,_,h=>h
 |o::l1,l2,a,w,hd,h=>by
  have hd2:uc l1=EJ:=by unfold uc at*;rw[aC,Oj] at hd;exact hd.2
  have hq': ¬LetsOut (Exit.then (aS F n P ops Q l2) Q):=fun⟨a,w,h⟩=>hq ⟨a,w,h⟩;unfold Ib at h;rw[ku];unfold aS;split
  ·rename_i hw;rw[if_pos hw] at h;rcases h with h|⟨_,h⟩
   ·have h1:=EEr (n:=n) hF (.inr (Eh2 hd (dq ..))) hq' h;unfold Oper.wpIn at*;refine⟨h1.1,?_⟩;have h1:=h1.2;generalize (o.semAt F.round a.eval).run P w=r at*;have ih:=fun a w h=>D6 hF hq l1 l2 a w hd2 h;cases r with
    |ok x w'=>
     cases x<;>simp only[Oper.uponIn] at h1⊢ <;>
      first
       |exact ih _ _ h1
       |exact⟨h1.1,CallsIn.mono h1.2 (fun e w'' he=>EEu)⟩
       |exact⟨h1.1,RowsIn.mono h1.2 (fun _ _ he=>ih _ _ he)⟩
       |exact⟨h1.1,RoundIn.mono h1.2 (fun e w'' he=>EEu)⟩
    |halt x w'=>cases x<;>simp only[Oper.uponIn] at h1⊢ <;>exact h1
   ·exact absurd h hq'
  ·rename_i hw;rw[if_neg hw] at h;exact⟨fun f _=>EEs,D6 hF hq l1 l2 _ w hd2 h⟩
theorem xS(m:Nat){l:List EP}{w:M}(hF:F=X0\/ ∃l,F=Fence.wide.inRound l)(hq: ¬LetsOut Q)(hd:uc (l.take m)=EJ)(h:Ib P ops (Exit.then (aS F n P ops Q (l.drop m)) Q) (l.take m) a w):aS F n P ops Q l a w:=by have:=D6 (n:=n) hF hq (l.take m) (l.drop m) a w hd h;rwa [iU] at this
theorem xT{os:List EP}{w:M}(hq: ¬LetsOut Q)(hd:uc os=EJ)(h:Ib P os.toArray Q os a w):(bU id os.toArray EI).wpIn (Fence.wide.inRound l) n P Q a w:=by
 refine wpIn_region_lit ?_;have:=D6 (P:=P) (F:=Fence.wide.inRound l) (n:=n) (ops:=os.toArray) (.inr ⟨l,O⟩) hq os [] a w hd ?_;·rwa [dy] at this
 ·have hm: ∀e a w,Q e a w->Exit.then (aS (Fence.wide.inRound l) n P os.toArray Q []) Q e a w:=fun e a w h=>by cases e<;>exact h
  have hqq:(Exit.then (aS (Fence.wide.inRound l) n P os.toArray Q []) Q)=Q:=by funext e a w;cases e<;>rfl
  rw[hqq];exact h
def xV(ops:Array EP)(m:Nat):Bool:=
 (U4 ops.size).all fun i=>match ops[i]? with
  |none=>EI
  |some o=>o.after.all (fun e=>decide (e.on<i))&&(decide (i<m)||(U4 i).all fun j=>decide (j=0)||(U4 (i+1)).any fun k=>decide (j<k)&&match ops[k]? with
   |some p=>p.after.any fun e=>UN .any e&&e.on==j
   |none=>EI)
theorem xW(h:xV ops m=EJ){i:Nat}(ho:ops[i]?=D o):(∀e∈o.after,e.on<i)/\(m<=i-> ∀j,j<i->j≠0-> ∃k p,j<k/\k<=i/\ops[k]?=D p/\ ∃e∈p.after,UN .any e=EJ/\e.on=j):=by
 have hi:=(J3.1 ho).1;have h1:=Xw.1 h i (bX.2 hi);simp only[ho,Oj,nJ,decide_eq_true_eq] at h1;refine⟨fun e he=> ?_,fun hm j hj h0=> ?_⟩;·exact ErL
 ·rcases h1.2 with h2|h2;·omega
  ·have h3:=Xw.1 h2 j (bX.2 hj);simp only[nJ,decide_eq_true_eq] at h3;rcases h3 with h3|h3;·exact absurd h3 h0
   ·obtain⟨k,hk,hk2⟩:=List.any_eq_true.1 h3;have hk1:=bX.1 hk;simp only[Oj,decide_eq_true_eq] at hk2;obtain⟨hjk,hk3⟩:=hk2;cases hp:ops[k]? with
    |none=>rw[hp] at hk3;cases hk3
    |some p=> rw[hp] at hk3;obtain⟨e,he,hb⟩:=Array.any_eq_true'.1 hk3;simp only[Oj,beq_iff_eq] at hb;exact⟨k,p,hjk,U,hp,e,he,hb.1,hb.2⟩
theorem EEv(hB:xV ops m=EJ){listed:Array Bool}(hs:listed.size=ops.size)(hc:fa ops listed)(h0:listed.getD 0 EJ=EJ){i:Nat}(hi:i∈ky .any ops listed)(hm:m<=i): ∀j,j<i->listed.getD j EJ=EJ:=by
 obtain⟨h1,o,ho,hall⟩:=ZR.1 hi;have hin:=(J3.1 ho).1
 have key: ∀d j,i-j=d->j<i->listed.getD j EJ=EJ:=by
  intro d;induction d using Nat.strongRecOn with
  |ind d ih=>
   intro j hd hj;by_cases hj0:j=0;·subst hj0;exact h0
   ·obtain⟨k,p,hjk,hki,hp,e,he,hb,heq⟩:=(xW hB ho).2 hm j hj hj0;by_cases h:k=i;·subst h;have:p=o:=fb (hp.symm.trans ho);subst this;have h3:=hall e he hb;rw[heq] at h3;have h5:j<listed.size:=U;simpa[h5] using h3
    ·exact Eq0
 exact fun j hj=>key _ j O hj
theorem Eh3(ho:ops[k]?=D o)(rest:List EP)(a:E_)(w:M)(h:aS X0 n P ops Q (o::rest) a w):wpOpIn X0 n P ops Q k (aS X0 n P ops Q rest) a w:=by unfold wpOpIn;simp only[ho];unfold aS at h;exact h
theorem EEw(hB:xV ops m=EJ)(hm0:1<=m): ∀(fuel k:Nat) (listed:Array Bool) (a:E_) (w:M),m<=k->k<=ops.size->ops.size-k<=fuel->listed.size=ops.size-> (∀j,j<ops.size->listed.getD j EJ=decide (j<k))->fa ops listed->aS X0 n P ops Q (ops.toList.drop k) a w->wpAnyIn X0 n P .any ops Q fuel listed a w:=by
 intro fuel;induction fuel with
 |zero=> intro k listed a w hm hk hf hs hl hc h;have hkn:k=ops.size:=U;subst hkn;rw[List.drop_of_length_le Ej] at h;refine wpAnyIn_done ?_ h 0;rw[List.eq_nil_iff_forall_not_mem];intro j hj;obtain⟨h1,o,ho,-⟩:=ZR.1 hj;have hjn:=(J3.1 ho).1;rw[hl j hjn] at h1;simp at h1;omega
 |succ fuel ih=>
  intro k listed a w hm hk hf hs hl hc h;rcases JW k ops.size with hlt|hge
  ·have ho:ops[k]?=D ops[k]:=kA hlt;have hd:ops.toList.drop k=ops[k]::ops.toList.drop (k+1):=by rw[nO (by simpa using hlt)];simp
   rw[hd] at h;have hmem:k∈ky .any ops listed:=by refine ZR.2 ⟨by rw[hl k hlt];simp,_,ho,fun e he _=> ?_⟩;have h1:=(xW hB ho).1 e he;exact EqZ
   refine⟨fun h0=>(by rw[h0] at hmem;cases hmem),fun i hi=> ?_⟩;obtain⟨h1,o,hoi,hall⟩:=ZR.1 hi;have hin:=(J3.1 hoi).1;have hki:k<=i:=by rw[hl i hin] at h1;simp at h1;exact h1
   have hik:i=k:=by
    rcases JW k i with h2|h2;·have h3:=EEv hB hs hc (by rw[hl 0 U];exact IJ U) hi U k h2;rw[hl k hlt] at h3;simp at h3
    ·omega
   subst hik;refine wpOpIn_mono (fun a' w' h'=>ih (i+1) (listed.setIfInBounds i EJ) a' w' U U U pX (fun j hj=> ?_) (hc.set hs hi) h') (Eh3 ho _ a w h);by_cases e:i=j;·subst e;exact EpC
   ·exact Erk
  ·have hkn:k=ops.size:=U;subst hkn;rw[List.drop_of_length_le Ej] at h;refine wpAnyIn_done ?_ h _;exact Epb
theorem Eh4{i:Nat}{K:E_->Prop}{K':E_->M->Prop}{w:M}(hC:C w)(h: ∀a w',C w'->K a->K' a w')(hh:qOp P ops C i K a):wpOpIn X0 n P ops Q i K' a w:=by
 have h1:=wpOp_of_qOp (Q':=fun _ _ _=>False) hC h hh;unfold wpOp at h1;unfold wpOpIn;split;·rename_i ho;rw[ho] at h1;exact h1
 ·rename_i o ho;rw[ho] at h1;simp only at h1;split
  ·rename_i hw;rw[if_pos hw] at h1;rcases h1 with h1|⟨_,_,_,h1⟩;·exact Eh1 h1
   ·exact h1.elim
  ·rename_i hw;rw[if_neg hw] at h1;exact⟨fun _ _=>trivial,h1⟩
theorem Eh5(hB:xV ops m=EJ)(hm0:1<=m)(hmn:m<=ops.size){F:(Nat->Y)->E_}{y:Nat->Y} (hF: ∀i o x v,i<m->ops[i]?=D o->(F x).put o.dst v=F (Ow x i v)) (hstep: ∀i o x,i<m->ops[i]?=D o->(∀e∈o.after,UN .any e=EJ->x e.on=y e.on)->YieldsIn P ops C o (y i) (F x)) (hend: ∀x w,C w->(∀i,i<m->x i=y i)->aS X0 n P ops Q (ops.toList.drop m) (F x) w): ∀(fuel:Nat) (listed:Array Bool) (x:Nat->Y) (w:M),(XH ops listed).length<=fuel->listed.size=ops.size->listed.getD 0 EJ=EJ->(∀j,m<=j->j<ops.size->listed.getD j EJ=EI)->fa ops listed->C w-> (∀i,i<m->listed.getD i EJ=EJ->x i=y i)->wpAnyIn X0 n P .any ops Q fuel listed (F x) w:=by
 intro fuel;induction fuel with
 |zero=>
  intro listed x w hf hs hl0 ht hc hb hr
  have hall: ∀j,j<ops.size->listed.getD j EJ=EJ:=by
   intro j hj;cases hc:listed.getD j EJ;·exact Eow
   ·rfl
  have hm:m=ops.size:=by
   rcases JW m ops.size with h|h;·exact Ep1
   ·omega
  refine EEw hB hm0 0 m listed _ w (E3 _) hmn U hs (fun j hj=>by rw[hall j hj,IJ U]) hc (hend x w hb fun i hi=>hr i hi (hall i U))
 |succ fuel ih=>
  intro listed x w hf hs hl0 ht hc hb hr;by_cases hall: ∀j,j<m->listed.getD j EJ=EJ
  ·have hlen:ops.size-m<=fuel+1:=by
    have hsub:(List.range' m (ops.size-m)).length<=(XH ops listed).length:=by
     apply List.Nodup.length_le_of_subset;·exact List.nodup_range'
     ·exact EoB
    simp at hsub;omega
   refine EEw hB hm0 (fuel+1) m listed _ w (E3 _) hmn hlen hs (fun j hj=> ?_) hc (hend x w hb fun i hi=>hr i hi (hall i hi));rcases JW j m with h|h;·rw[hall j h,IJ h]
   ·rw[ht j h hj,IZ U]
  ·refine⟨fun h0=> ?_,fun i hi=> ?_⟩
   ·exfalso
    have hex: ∃j,j<m/\listed.getD j EJ=EI:=by
     apply sd;intro hno
     exact hall fun j hj=>by
      cases hc:listed.getD j EJ;·exact Erb
      ·rfl
    have hmin: ∃j,(j<m/\listed.getD j EJ=EI)/\ ∀k,k<j-> ¬(k<m/\listed.getD k EJ=EI):=by
     obtain⟨j,hj⟩:=hex;induction j using Nat.strongRecOn with
     |ind j pZ=>
      by_cases h: ∃k,k<j/\(k<m/\listed.getD k EJ=EI);·exact EpD
      ·exact Epn
    obtain⟨j,⟨hjm,hj⟩,hlt⟩:=hmin;have hjn:j<ops.size:=U;have ho:ops[j]?=D ops[j]:=kA hjn
    have:j∈ky .any ops listed:=by
     refine ZR.2 ⟨hj,_,ho,fun e he _=> ?_⟩;have h1:=(xW hB ho).1 e he;have h2:=hlt e.on h1;have h3:e.on<listed.size:=U;cases hc:listed.getD e.on EJ;·exact absurd ⟨U,hc⟩ h2
     ·simpa[h3] using hc
    rw[h0] at this;cases this
   ·obtain⟨h1,o,ho,pd⟩:=ZR.1 hi;have hin:=(J3.1 ho).1;have him:i<m:=by apply sd;intro hge;apply hall;intro j hj;exact EEv hB hs hc hl0 hi U j U
    have hi0:i≠0:=fun e=>by subst e;rw[hl0] at h1;cases h1
    have hdr: ∀e∈o.after,UN .any e=EJ->x e.on=y e.on:=by intro e he hb';have h3:=pd e he hb';have h4:=(xW hB ho).1 e he;exact EqU
    have st:=hstep i o x him ho hdr;refine Eh4 (C:=C) (K:=fun a'=>a'=F (Ow x i (y i))) hb (fun a' w' hw' ha'=> ?_) (st.qOp ho ?_)
    ·subst ha';have hlt:=uC hs hin h1;refine ih _ _ w' U pX (by rw[aq EJ hi0];exact hl0) (fun j hj hjn=> ?_) (hc.set hs hi) hw' (fun j hj hl=> ?_);·rw[aq EJ U];exact ht j hj hjn
     ·by_cases hji:j=i;·subst hji;rw[m0]
      ·exact Eqv
    ·exact hF i o x (y i) him ho
def M_(l:List EP)(m:Nat):Bool:=xV l.toArray m&&decide (1<=m)&&decide (m<=l.length)&&Region.noSelect (l.take m).toArray&&decide (Ub (l.take m)).Nodup&&sZ (l.take m) l.toArray&&Region.noSelect l.toArray&&Region.free .any l.toArray (b_ l.length EI) 0&&(ky .any l.toArray (b_ l.length EI)).contains 0
theorem Eh6{l:List EP}(m:Nat)(hm:P.follows .mixedOrders=EJ)(hB:M_ l m=EJ)(ho0:l[0]?=D o0)(hx:o0.op= .move x)(hg0:o0.guard=Z)(hQ: ∀c a w,Q (.panic c) (a.put o0.dst (a0.eval x)) w->Q (.panic c) a w) (hC:C w0.drew) (h:wpQuiet P l.toArray C (fun a'=> ∀w',C w'->aS X0 n P l.toArray Q (l.drop m) a' w') (l.take m) a0):(bU id l.toArray EJ).wp P Q a0 w0:=by
 simp only[M_,Oj,decide_eq_true_eq] at hB;obtain⟨⟨⟨⟨⟨⟨⟨⟨hB,hm0⟩,hmn⟩,hsel⟩,hnd⟩,hap⟩,Eh7⟩,hfree⟩,EEx⟩:=hB;obtain⟨y,hy,hK⟩:=Gm (l.take m) 0 a0 h;have htk: ∀i o,i<m->l.toArray[i]?=D o->(l.take m)[i]?=D o:=fun i o hi ho=>by exact EqE
 have hlen:(l.take m).length=m:=mR;have uD:EM (l.take m) 0 (held (l.take m) a0) a0=a0:=pO a0 _ 0 _ (fun k o ho d hd=>by unfold held;rw[Ox,ho];simp only[hd]);have hl0:l.length=(l.length-1)+1:=U;have EEy: ∀(w:M),(Ig a0.eval o0).run P w= .ok (.value (a0.eval x)) w:=fun w=>by unfold Ig;rw[hx];rfl
 have hwant:JO o0 (Jg l.toArray a0.tmps)=EJ:=by unfold JO;rw[hg0]
 have zH: ∀i o x v,i<m->l.toArray[i]?=D o->(EM (l.take m) 0 x a0).put o.dst v=EM (l.take m) 0 (Ow x i v) a0:=by intro i o x v hi ho;exact Eo5
 have hy0:y 0=a0.eval x:=by
  have h1:=hy 0 o0 (by rw[List.getElem?_take,if_pos U];exact ho0);rw[Iq,Ox] at h1;rcases h1 with⟨_,h1⟩|⟨h1,_⟩;·have h2:=h1 w0.drew hC;simp only[EM] at h2;unfold Oper.quietAt at h2;rw[EEy] at h2;exact h2.2.symm
  ·simp only[EM] at h1;rw[hwant] at h1;cases h1
 refine(wpIn_wide (n:=n)).1 (wpIn_region_any hm ?_);rw[show l.toArray.size=(l.length-1)+1 from I8];refine wpAnyIn_take (i:=0) (oi:=o0) (v:=a0.eval x) O (by simpa using ho0) Eh7 (by simpa[show l.length-1+1=l.length from U] using hfree) (by simpa[show l.length-1+1=l.length from U] using EEx) hQ ⟨.inl ⟨hwant,EEy⟩,fun w=>by unfold Oper.about;rw[hx]⟩ ?_;rw[show l.length-1+1=l.length from U];have key:=Eh5 (P:=P) (Q:=Q) (C:=C) (n:=n) (ops:=l.toArray) (F:=fun x=>EM (l.take m) 0 x a0) (y:=y) hB hm0 Gp zH ?_ ?_ (l.length-1) ((b_ l.length EI).setIfInBounds 0 EJ) (Ow (held (l.take m) a0) 0 (a0.eval x)) w0.drew ?_ Ej Ej (fun j hj hjn=> ?_) ?_ hC (fun i hi h=> ?_);·have e:=zH 0 o0 (held (l.take m) a0) (a0.eval x) U (by simpa using ho0);simp only[uD] at e;rw[e];exact key
 ·intro i o x hi ho hd;have hi':=htk i o hi ho;have h1:=hy i o hi';rw[Ox] at h1
  have e1:EM ((l.take m).take i) 0 y a0=EM (l.take m) 0 (mix (held (l.take m) a0) y i) a0:=by
   have e2:EM (l.take m) 0 (mix (held (l.take m) a0) y i) a0=EM ((l.take m).drop i) i (mix (held (l.take m) a0) y i) (EM ((l.take m).take i) 0 (mix (held (l.take m) a0) y i) a0):=by exact Epf
   have e3:EM ((l.take m).take i) 0 (mix (held (l.take m) a0) y i) a0=EM ((l.take m).take i) 0 y a0:=sb _ 0 _ _ _ fun j _ hj=>by have:j<i:=zF;simp[mix,this]
   rw[e2,e3];refine(pO _ _ _ _ fun k p hp d hd=> ?_).symm;have hk:(l.take m)[i+k]?=D p:=kw;have hkm:i+k<m:=P8;show mix (held (l.take m) a0) y i (i+k)=_;have e5:mix (held (l.take m) a0) y i (i+k)=a0.tmps.getD d I6:=by exact ErU
   rw[e5];exact Eqs
  rw[e1] at h1;have deps: ∀e∈o.after,UN .any e=EJ->x e.on=mix (held (l.take m) a0) y i e.on:=by intro e he hb;have:=(xW hB ho).1 e he;rw[hd e he hb];simp[mix,this]
  obtain⟨s1,s2⟩:=P6 (ops:=l.toArray) hnd hap hsel (gO.2 ⟨i,hi'⟩) (mix (held (l.take m) a0) y i) x a0 (fun e he hb=>(deps e he hb).symm);exact h1.of_same s1 s2
 ·exact Eo_
 ·have h2:=uC (ops:=l.toArray) (listed:=b_ l.length EI) (i:=0) Ej (by rw[List.size_toArray];omega) (zB (by simpa using(show 0<l.length from U)));have h3:=List.length_filter_le (fun i=> !(b_ l.length EI).getD i EJ) (U4 l.toArray.size);have h4:(XH l.toArray (b_ l.length EI)).length<=l.length:=by simpa[XH] using h3
  rw[hlen] at*;omega
 ·rw[aq EJ U];have:j<l.length:=by simpa using hjn
  simp[this]
 ·have hcl:fa l.toArray (b_ l.length EI):=by intro j o ho hl;have hj:=(J3.1 ho).1;rw[zB (by simpa using hj)] at hl;cases hl
  exact hcl.set Ej (by simpa using EEx)
 ·by_cases h0:i=0;·subst h0;rw[m0,hy0]
  ·rw[aq EJ (fun e=>h0 e.symm)] at h;have:i<l.length:=U;simp[this] at h
theorem NE{l:List EP}(m:Nat)(hm:P.follows .mixedOrders=EJ)(hB:M_ l m=EJ)(ho0:l[0]?=D o0)(hx:o0.op= .move x)(hg0:o0.guard=Z)(hQ: ∀c a w,Q (.panic c) (a.put o0.dst (a0.eval x)) w->Q (.panic c) a w) (h:wpQuiet P l.toArray (fun w'=> ∃y,w'=EC w0 y) (fun a'=> ∀w',(∃y,w'=EC w0 y)->aS X0 9 P l.toArray Q (l.drop m) a' w') (l.take m) a0):(bU id l.toArray EJ).wp P Q a0 w0:=
 Eh6 m hm hB ho0 hx hg0 hQ ⟨⟨_,Jn w0⟩,O⟩ h
end
theorem D7(A:Option Ep)(n c:Nat)(w:M):(X5 .eql 23 (G A n c) (G Z 0 0)).run EZ w= .ok (Ec (match A with|none=>true|some _=>false)) w:=by cases A<;>kernel_rfl
theorem NI(w:M)(base:Nat)(h:base<=w.heap.size):Own (w.alloc (Eb #[] 5)) base (D ⟨w.heap.size,0,Z⟩) 0 []:=
 ⟨nm (base:=base) (size:=1) (e:=5) w #[] 0 h J8 O,fun _ h=>sU⟩
theorem Eh8(A:Option Ep)(xs:List Int)(n c:Nat)(w:M)(hn:xs.length=n)(hr:Row w A xs)(hm:n<=1000000): Eg EZ 158 #[G A n c] w fun e w'=>(∃A' c',e=Ei (G A' n c')/\Own w' w.heap.size A' c' xs)/\El w w':=by
 cases A with
 |none=>
  have hx:xs=[]:=by
   rcases hr.1 with h|⟨b,o,h,-⟩;·exact h
   ·cases h
  subst hx;obtain rfl:n=0:=hn.symm;have hne0:=D7 Z 0 c w;go_enter Tryz.func158,Tryz.ntmps158;exact Erh
 |some ad=> have hne0:=D7 (D ad) n c w;have HR:=J hr;have O1:=J<|NI w w.heap.size (E3 _);have b1:=J<|Er w (Eb #[] 5);clear hr;go_enter Tryz.func158,Tryz.ntmps158;go_wp2_with (with_reducible refine JE 7 ?_);apply Es;obtain⟨A7,c7,w7,hrun,hown,hbel,-⟩:=sx (w.alloc (Eb #[] 5)) w.heap.size (D ⟨w.heap.size,0,Z⟩) 0 [] O1.out (D ad) c xs (It HR.out b1.out) I8 b1.out.size 23;rw[jP,Ox,hn] at hrun;have wh:=J hown;have B7:=J<|b1.out.trans hbel;clear hown hbel;go_wp2_with ((with_reducible refine Io 7 ?_);(refine Jo (Eh O) (Ol O O O hrun) ?_));go_ret;exact⟨⟨A7,c7,O,wh.out⟩,B7.out⟩
theorem D8(A:Option Ep)(xs:List Int)(n c:Nat)(w:M)(hn:xs.length=n)(hr:Row w A xs)(hm:n<=1000000): Eg EZ 41 #[G A n c] w fun e w'=>(∃A' c',e=Ei (G A' n c')/\Own w' w.heap.size A' c' xs)/\El w w':=by
 cases A with
 |none=>
  have hx:xs=[]:=by
   rcases hr.1 with h|⟨b,o,h,-⟩;·exact h
   ·cases h
  subst hx;obtain rfl:n=0:=hn.symm;have hne0:=D7 Z 0 c w;go_enter Tryz.func41,Tryz.ntmps41;exact Erh
 |some ad=> have hne0:=D7 (D ad) n c w;have HR:=J hr;have O1:=J<|NI w w.heap.size (E3 _);have b1:=J<|Er w (Eb #[] 5);clear hr;go_enter Tryz.func41,Tryz.ntmps41;go_wp2_with (with_reducible refine JE 7 ?_);apply Es;obtain⟨A7,c7,w7,hrun,hown,hbel,-⟩:=sx (w.alloc (Eb #[] 5)) w.heap.size (D ⟨w.heap.size,0,Z⟩) 0 [] O1.out (D ad) c xs (It HR.out b1.out) I8 b1.out.size 23;rw[jP,Ox,hn] at hrun;have wh:=J hown;have B7:=J<|b1.out.trans hbel;clear hown hbel;go_wp2_with ((with_reducible refine Io 7 ?_);(refine Jo (Eh O) (Ol O O O hrun) ?_));go_ret;exact⟨⟨A7,c7,O,wh.out⟩,B7.out⟩
theorem EEz: ∀(xs:List Int),(∀x∈xs,0<=x/\x<=255)->Lib.indexByte (Lib.bytesOf xs) (165:Int).toNat.toUInt8=if JI xs<xs.length then(JI xs:Int) else-1
 |[],_=>rfl
 |x::r,h=>by
  have hx:=h x (dq ..);have ih:=EEz r (fun y hy=>h y (XU _ hy));unfold Lib.bytesOf at*;rw[UB];unfold Lib.indexByte JI
  have hb:(UInt8.ofNat x.toNat==(165:Int).toNat.toUInt8)=decide (x=165):=by
   obtain⟨k,rfl⟩: ∃k:Nat,x=k:=⟨x.toNat,U⟩;have hk:k<=255:=U;rw[show(UInt8.ofNat ((k:Int).toNat)==(165:Int).toNat.toUInt8)=decide (UInt8.ofNat k=165) from rfl];by_cases h5:k=165;·subst h5;rfl
   ·rw[IZ (p:=(k:Int)=165) U];refine IZ ?_;intro he;have:=congrArg UInt8.toNat he;simp at this;omega
  rw[hb,ih];by_cases h5:x=165;·simp[h5]
  ·rw[IZ h5,if_neg EU,if_neg h5];by_cases h6:JI r<r.length;·rw[if_pos h6,if_neg IF,if_pos IF];all_goals (try simp)
   ·rw[if_neg h6,if_pos EU,if_neg IF]
theorem Eh9(A:Option Ep)(xs:List Int)(n c:Nat)(w:M)(hn:xs.length=n)(h1:1<=n)(hr:Row w A xs): Eg EZ 159 #[G A n c,E Ix 165] w fun e w'=>e=Ei (E I (if JI xs<n then(JI xs:Int) else-1))/\w=w':=by
 have hi:=EEz xs hr.2;subst hn;obtain⟨z,hz⟩:=Eo ((if JI xs<xs.length then(JI xs:Int) else-1));rw[<-hz] at hi⊢
 have HX:(Extern.BytealgIndexByte.indexByte #[G A xs.length c,E Ix 165]).run EZ w= .ok (E I z) w:=by
  rcases hr.1 with h|⟨b,o,h,hc⟩;·subst h;simp at h1
  ·subst h;rw[<-hi];exact Lib.run_indexByteSlice (P:=EZ) w b o xs.length c xs O (fun i h2=>by rw[hc i h2,OE,JV h2];rfl) 165
 clear hi hz hr h1;go_enter Tryz.func159,Tryz.ntmps159;go_wp2;rw[run_callFunc_extern Tryz.func201 Ef Ef Ef (e:=Extern.BytealgIndexByte.indexByte) Ef,HX];simp only[Result.andThen];rw[Oper.upon_value];exact Enu
def Us(c:Ey):List Y:=[E I c.tok.h,E I c.tok.e,E I c.tok.o,E I c.mode,E I c.En.r,E I c.En.s,E I c.En.q,E I c.pt.c,E I c.pt.a0,E I c.pt.a1,E I c.pt.a2,E I c.pt.a3,E I c.pt.n0,E I c.pt.n1,E I c.pt.n2,E I c.pt.n3,E I c.pt.b.r,E I c.pt.b.s,E I c.pt.b.q]
def Zg(h:List Y)(q:Y)(o r:Nat->Y)(b:Y):List (List Y):=[h,[q],[o 0],[o 1],[o 2],[o 3],[o 4],[r 0],[r 1],[r 2],[r 3],[r 4],[b]]
def kE(c:Ey)(q:Y):List Y:=(Zg (Us c) q (fun i=>Ec (c.T.XN i)) (fun i=>E I (c.T.cL i)) (Ec c.tok.bad)).flatten
theorem D9(h:List Y)(q:Y)(o r:Nat->Y)(b:Y)(hl:h.length=19)(k:Nat)(hk:1<=k)(hk2:k<13):bh (Zg h q o r b) k=18+k:=by have h:k=1\/k=2\/k=3\/k=4\/k=5\/k=6\/k=7\/k=8\/k=9\/k=10\/k=11\/k=12:=U;rcases h with rfl|rfl|rfl|rfl|rfl|rfl|rfl|rfl|rfl|rfl|rfl|rfl<;>simp[bh,Zg,hl]
theorem fY:IL EZ 54 31:=⟨⟨_,Tryz.underlying54,O⟩,Ef⟩
def ZJ:Array Y:=(Zg ((U4 19).map fun _=>E I 0) (G Z 0 0) (fun _=>Ec EI) (fun _=>E I 0) (Ec EI)).flatten.toArray
theorem rm:Od EZ 54 ZJ:=by exact En5
theorem Eh_(h e o m:Int)(br bs bq:Int)(pc a0 a1 a2 a3 n0 n1 n2 n3 qr qs qq:Int)(bad:Bool):Tryz.prog.built 54 [(0,E I h),(1,E I e),(2,E I o),(3,E I m),(4,Ea #[E I br,E I bs,E I bq]),(5,Ea #[E I pc,E I a0,E I a1,E I a2,E I a3,E I n0,E I n1,E I n2,E I n3,E I qr,E I qs,E I qq]),(9,Ec bad)]=D (Zg [E I h,E I e,E I o,E I m,E I br,E I bs,E I bq,E I pc,E I a0,E I a1,E I a2,E I a3,E I n0,E I n1,E I n2,E I n3,E I qr,E I qs,E I qq] (G Z 0 0) (fun _=>Ec EI) (fun _=>E I 0) (Ec bad)).flatten.toArray:=Ef
theorem EEA{h:List Y}{q:Y}{o r:Nat->Y}{b:Y}(h1: ∀v∈h,v.oneCell'=EJ)(h2:q.oneCell'=EJ)(h3: ∀i,(o i).oneCell'=EJ)(h4: ∀i,(r i).oneCell'=EJ)(h5:b.oneCell'=EJ):(Zg h q o r b).flatten.toArray.all (·.oneCell')=EJ:=by refine all_oneCell_toArray fun v hv=> ?_;simp only[Zg,List.flatten_cons,List.flatten_nil,dy,Xp,UJ,Um,or_false] at hv;rcases hv with hv|rfl|rfl|rfl|rfl|rfl|rfl|rfl|rfl|rfl|rfl|rfl|rfl<;>first|exact h1 _ hv|exact h2|exact h3 _|exact h4 _|exact h5
theorem EEB(c:Ey): ∀v∈Us c,v.oneCell'=EJ:=by intro v hv;simp only[Us,UJ,Um,or_false] at hv;rcases hv with rfl|rfl|rfl|rfl|rfl|rfl|rfl|rfl|rfl|rfl|rfl|rfl|rfl|rfl|rfl|rfl|rfl|rfl|rfl<;>rfl
theorem NJ{h:List Y}(q:Y)(o r:Nat->Y)(b:Y)(hl:h.length=19):(Zg h q o r b).flatten.toArray.size=31:=by simp[Zg,hl]
theorem NU{F:J5->Y}{parts:Array (Nat×J5)}{w:M}(ho:o.op= .build T parts)(hb:P.built T (parts.toList.map fun(i,x)=>(i,F x))=D cs):(Ig F o).run P w= .ok (.value (Ea cs)) w:=by unfold Ig;simp only[ho,OH,run_build (P:=P) w T (parts.map fun(i,x)=>(i,F x)) cs (by rw[Array.toList_map];exact hb),OM,Oi]
theorem EiE(lo:Nat)(g:Nat->Y)(gc gq gt:Nat)(c:Ey)(w:M)(C:JU lo g gc gq gt c w): Eg EZ 27 #[V (D ⟨gc,0,Z⟩)] w fun e w'=>(∃v,e=Ei (Ea (kE c v).toArray)/\w'.ownsRow w.heap.size 3 1 v c.q.length (Uz ((Jt c.q).map One.s)))/\El w w':=by
 have C0:=J C;have LT:=J C.wn;have II:=J YZ;clear C;have b1:=Er w (Eb ZJ 54);have C1:=J<|C0.out.B b1;have KR:=J<|H.new w ZJ 54;have u:=J b1;clear b1 C0;go_enter Tryz.func27,Tryz.ntmps27;go_wp2_with (with_reducible refine wA rm ?_);generalize w.alloc (Eb ZJ 54)=w1 at*;obtain⟨gr,hgr⟩:=Eo w.heap.size;have hI:=J hgr;rw[<-hgr] at KR;refine(EEg lo g gc gq gt c _ C1.out).mono ?_;rintro e4 w4 ⟨rfl,rfl⟩;go_wp2_with fail;obtain⟨n0,hn0⟩:=Eo w1.heap.size;have Xt:=J<|OC hn0;have Z5:=J (show lo<=n0/\w.heap.size<=n0/\gr<n0/\w.heap.size<=gr by have:=LT.out;have:=u.out.size;have:=KR.out.lt;omega);clear hgr;refine iS (Ph:=fun _ wq=>JU lo g gc gq gt c wq/\n0<=wq.heap.size/\El w wq/\H wq gr ZJ 54) (Rel:=J0) (Iw:=mI 54 31 (Zg (Us c) (G Z 0 0) (fun _=>Ec EI) (fun _=>E I 0) (Ec c.tok.bad)).flatten.toArray) [.val (fun v=>v=V (D ⟨gc,0,Z⟩)),.val (fun v=>v=V (D ⟨gc,0,Z⟩)),.val (fun v=>v=V (D ⟨gc,56,Z⟩)),.val (fun v=>v=V (D ⟨gc,56,Z⟩)),.val (fun v=>v=E I c.tok.h),.val (fun v=>v=V (D ⟨gc,0,Z⟩)),.val (fun v=>v=V (D ⟨gc,0,Z⟩)),.val (fun v=>v=V (D ⟨gc,56,Z⟩)),.val (fun v=>v=V (D ⟨gc,57,Z⟩)),.val (fun v=>v=E I c.tok.e),.val (fun v=>v=V (D ⟨gc,0,Z⟩)),.val (fun v=>v=V (D ⟨gc,0,Z⟩)),.val (fun v=>v=V (D ⟨gc,56,Z⟩)),.val (fun v=>v=V (D ⟨gc,58,Z⟩)),.val (fun v=>v=E I c.tok.o),.val (fun v=>v=V (D ⟨gc,0,Z⟩)),.val (fun v=>v=V (D ⟨gc,0,Z⟩)),.val (fun v=>v=V (D ⟨gc,98,Z⟩)),.val (fun v=>v=E I c.mode),.val (fun v=>v=V (D ⟨gc,0,Z⟩)),.val (fun v=>v=V (D ⟨gc,0,Z⟩)),.val (fun v=>v=V (D ⟨gc,99,Z⟩)),.val (fun v=>v=Ea #[E I c.En.r,E I c.En.s,E I c.En.q]),.val (fun v=>v=V (D ⟨gc,0,Z⟩)),.val (fun v=>v=V (D ⟨gc,0,Z⟩)),.val (fun v=>v=V (D ⟨gc,102,Z⟩)),.val (fun v=>v=Ea #[E I c.pt.c,E I c.pt.a0,E I c.pt.a1,E I c.pt.a2,E I c.pt.a3,E I c.pt.n0,E I c.pt.n1,E I c.pt.n2,E I c.pt.n3,E I c.pt.b.r,E I c.pt.b.s,E I c.pt.b.q]),.val (fun v=>v=V (D ⟨gc,0,Z⟩)),.val (fun v=>v=V (D ⟨gc,0,Z⟩)),.val (fun v=>v=V (D ⟨gc,56,Z⟩)),.val (fun v=>v=V (D ⟨gc,63,Z⟩)),.val (fun v=>v=Ec c.tok.bad),.val (fun v=>v=Ea (Zg (Us c) (G Z 0 0) (fun _=>Ec EI) (fun _=>E I 0) (Ec c.tok.bad)).flatten.toArray),.dep (bN 54 31 n0) (fun v w w' h hr=>h.B hr) (fun v w w' h hr=>h.sz hr),.tie [33] (fun x w=> ∃b:Nat,x 33=V (D ⟨b,0,Z⟩)/\n0<=b/\H w b (Zg (Us c) (G Z 0 0) (fun _=>Ec EI) (fun _=>E I 0) (Ec c.tok.bad)).flatten.toArray 54) (fun x w w' h hr=>qK) (fun x y w hq h=>by rw[hq 33 Ej] at h;exact h)] [EI,EI,EI,EI,EI,EI,EI,EI,EI,EI,EI,EI,EI,EI,EI,EI,EI,EI,EI,EI,EI,EI,EI,EI,EI,EI,EI,EI,EI,EI,EI,EI,EI,EI,EJ] O [[],[],[],[],[],[],[],[],[],[],[],[],[],[],[],[],[],[],[],[],[],[],[],[],[],[],[],[],[],[],[],[],[],[],[33]] O [34] [(0,0),(0,0),(0,0),(0,0),(0,0),(0,0),(0,0),(0,0),(0,0),(0,0),(0,0),(0,0),(0,0),(0,0),(0,0),(0,0),(0,0),(0,0),(0,0),(0,0),(0,0),(0,0),(0,0),(0,0),(0,0),(0,0),(0,0),(0,0),(0,0),(0,0),(0,0),(0,0),(0,0),(0,0),(0,0)] Ef Ef Ef Ef Ef Ef UP Ef ?hPh ?h0 ?hstep ?hend;case hPh=> intro p w2 w3 h hr;exact⟨h.1.B hr,Ew h.2.1 (XE hr),bt h.2.2.1 hr,H.B h.2.2.2 hr⟩
 case h0=> have hb:=Jn w1;exact⟨C1.out.B hb,Ew (OC hn0) (XE hb),bt u.out hb,H.B KR.out hb⟩
 case hstep=>
  refine⟨?_,?_,?_,?_,?_,?_,?_,?_,?_,?_,?_,?_,?_,?_,?_,?_,?_,?_,?_,?_,?_,?_,?_,?_,?_,?_,?_,?_,?_,?_,?_,?_,?_,?_,?_,trivial⟩;all_goals first|intro xv wq p hlo hhi hp hd|intro xv wq hp hd
  all_goals try obtain rfl:p=0:=U
  all_goals simp only[EM,Ih,Ik,Ic,If]
  ·exact Eog
  ·have d0:xv 0=V (D ⟨gc,0,Z⟩):=hd.at 0 rfl;exact EqN
  ·have d1:xv 1=V (D ⟨gc,0,Z⟩):=hd.at 1 rfl;exact Et XZ O
  ·have d2:xv 2=V (D ⟨gc,56,Z⟩):=hd.at 2 rfl;exact Et Lx O
  ·have d3:xv 3=V (D ⟨gc,56,Z⟩):=hd.at 3 rfl;have cc:wq.cell? ⟨gc,56,Z⟩=D (E I c.tok.h):=hp.1.cell 1 rfl 0 XW;exact Et (by simp[go_sem,d3,cc]) O
  ·exact Eog
  ·have d5:xv 5=V (D ⟨gc,0,Z⟩):=hd.at 5 rfl;exact Et dD O
  ·exact Epz
  ·have d7:xv 7=V (D ⟨gc,56,Z⟩):=hd.at 7 rfl;exact Et iw O
  ·have d8:xv 8=V (D ⟨gc,57,Z⟩):=hd.at 8 rfl;have cc:wq.cell? ⟨gc,57,Z⟩=D (E I c.tok.e):=hp.1.cell 1 rfl 1 XW;exact Et Dp O
  ·exact Eog
  ·have d10:xv 10=V (D ⟨gc,0,Z⟩):=hd.at 10 rfl;exact ErE
  ·have d11:xv 11=V (D ⟨gc,0,Z⟩):=hd.at 11 rfl;exact EqL
  ·have d12:xv 12=V (D ⟨gc,56,Z⟩):=hd.at 12 rfl;exact Et (by simp[go_sem,d12]) O
  ·have d13:xv 13=V (D ⟨gc,58,Z⟩):=hd.at 13 rfl;have cc:wq.cell? ⟨gc,58,Z⟩=D (E I c.tok.o):=hp.1.cell 1 rfl 2 XW;exact Et (by simp[go_sem,d13,cc]) O
  ·exact Eog
  ·exact EqW
  ·exact Eqa
  ·have d17:xv 17=V (D ⟨gc,98,Z⟩):=hd.at 17 rfl;have cc:wq.cell? ⟨gc,98,Z⟩=D (E I c.mode):=hp.1.cell 9 rfl 0 XW;exact Et (by simp[go_sem,d17,cc]) O
  ·exact Eog
  ·have d19:xv 19=V (D ⟨gc,0,Z⟩):=hd.at 19 rfl;exact Et (by simp[go_sem,d19]) O
  ·exact EqT
  ·have d21:xv 21=V (D ⟨gc,99,Z⟩):=hd.at 21 rfl;obtain⟨big,KB,O8⟩:=bK hp.1;have EX:big.extract 99 (99+3)= #[E I c.En.r,E I c.En.s,E I c.En.q]:=(O8 10 c.En.v O).trans O;exact bi ER fR (Eh O) ⟨O,d21⟩ KB O EX O
  ·exact Eog
  ·have d23:xv 23=V (D ⟨gc,0,Z⟩):=hd.at 23 rfl;exact Et (by simp[go_sem,d23]) O
  ·have d24:xv 24=V (D ⟨gc,0,Z⟩):=hd.at 24 rfl;exact Et (by simp[go_sem,d24]) O
  ·have d25:xv 25=V (D ⟨gc,102,Z⟩):=hd.at 25 rfl;obtain⟨big,KB,O8⟩:=bK hp.1;have EX:big.extract 102 (102+12)= #[E I c.pt.c,E I c.pt.a0,E I c.pt.a1,E I c.pt.a2,E I c.pt.a3,E I c.pt.n0,E I c.pt.n1,E I c.pt.n2,E I c.pt.n3,E I c.pt.b.r,E I c.pt.b.s,E I c.pt.b.q]:=(O8 11 c.pt.v O).trans O;exact bi ER iP (Eh O) ⟨O,d25⟩ KB O EX O
  ·exact Eog
  ·have d27:xv 27=V (D ⟨gc,0,Z⟩):=hd.at 27 rfl;exact Et (by simp[go_sem,d27]) O
  ·have d28:xv 28=V (D ⟨gc,0,Z⟩):=hd.at 28 rfl;exact Et Mp O
  ·have d29:xv 29=V (D ⟨gc,56,Z⟩):=hd.at 29 rfl;exact Et (by simp[go_sem,d29]) O
  ·have d30:xv 30=V (D ⟨gc,63,Z⟩):=hd.at 30 rfl;have cc:wq.cell? ⟨gc,63,Z⟩=D (Ec c.tok.bad):=hp.1.cell 1 rfl 7 XW;exact Et (by simp[go_sem,d30,cc]) O
  ·have d4:xv 4=E I c.tok.h:=hd.at 4 rfl;have d9:xv 9=E I c.tok.e:=hd.at 9 rfl;have d14:xv 14=E I c.tok.o:=hd.at 14 rfl;have d18:xv 18=E I c.mode:=hd.at 18 rfl;have d22:xv 22=Ea #[E I c.En.r,E I c.En.s,E I c.En.q]:=hd.at 22 rfl;have d26:xv 26=Ea #[E I c.pt.c,E I c.pt.a0,E I c.pt.a1,E I c.pt.a2,E I c.pt.a3,E I c.pt.n0,E I c.pt.n1,E I c.pt.n2,E I c.pt.n3,E I c.pt.b.r,E I c.pt.b.s,E I c.pt.b.q]:=hd.at 26 rfl;have d31:xv 31=Ec c.tok.bad:=hd.at 31 rfl;exact IQ ER (Eh O) (NU O (by simp only[UB,Xn,d4,d9,d14,d18,d22,d26,d31];exact Eh_ _ _ _ _ _ _ _ _ _ _ _ _ _ _ _ _ _ _ _ _)) O
  ·exact Zp (Eh O) (rm _ _ _ O) (Er wq _) ⟨wq.heap.size,_,O,hp.2.1,NJ _ _ _ _ O,H.new _ _ _⟩
  ·have d32:xv 32=Ea (Zg (Us c) (G Z 0 0) (fun _=>Ec EI) (fun _=>E I 0) (Ec c.tok.bad)).flatten.toArray:=hd.at 32 rfl;obtain⟨b,c8,eA,lb,h8,kb⟩:bN 54 31 n0 (xv 33) wq:=hd.at 33 rfl;have nh:=Xt.out;refine cX fY (Eh O) ⟨O,eA,d32⟩ kb h8 (NJ _ _ _ _ O) (EEA (EEB c) O (fun _=>rfl) (fun _=>rfl) O) ⟨xa (NJ _ _ _ _ O),?_⟩ ⟨b,eA,lb,kb.setRow _⟩;obtain⟨c1,n1,b1,kr⟩:=hp;have ho:=J9 (g:=b) (W:=wq) (Zg (Us c) (G Z 0 0) (fun _=>Ec EI) (fun _=>E I 0) (Ec c.tok.bad)).flatten.toArray;exact⟨c1.via (fun k cs S hS hk=>ho.Ek hk (E6 hk kb aZ)) (ho.bel lo xY xY),Ew n1 ho.size,b1.trans (ho.bel w.heap.size xY b1.size),ho.Ek kr xY⟩
 case hend=>
  intro xv W6 hp hd;simp only[EM,Ih,Ik,Ic,If];obtain⟨b,eA,lb,kb⟩: ∃b:Nat,xv 33=V (D ⟨b,0,Z⟩)/\n0<=b/\H W6 b (Zg (Us c) (G Z 0 0) (fun _=>Ec EI) (fun _=>E I 0) (Ec c.tok.bad)).flatten.toArray 54:=hd 34 EU;obtain⟨c6,-,b6,kr6⟩:=hp;replace C1:=J c6;replace u:=J b6;replace KR:=J kr6;have KB:Ed (Jl W6 b (Zg (Us c) (G Z 0 0) (fun _=>Ec EI) (fun _=>E I 0) (Ec c.tok.bad)) 54):=J kb;have Xq:=J (show b≠gr/\w.heap.size<=b from xY);rw[eA];clear c6 b6 kr6 kb hd eA lb;have z64:W6.cell? ⟨gc,64,Z⟩=D (V (D ⟨gq,0,Z⟩)):=C1.out.cell 2 rfl 0 Ej;go_wp2_with fail;refine(LY lo gq c.q (pn g 48) _ C1.out.ZC C1.out.ok.q).mono ?_;rintro e8 w8 ⟨⟨v8,rfl,o8⟩,b8⟩;obtain⟨A,c8,rfl,-⟩:=aK o8;have af:=J<|ii c.q;have oq:=J C1.out.ok.q;obtain⟨n,hn⟩:=Eo c.q.length;obtain⟨SL,mf⟩:=Eo (Jt c.q);have MW:=J hn;have dM:=J mf;have rZ:Ed (n<=3):=J MS;rw[<-hn,<-mf] at o8 af;rw[show G A c.q.length c8= .slice A n c8 by rw[hn]];have OA:=J o8;replace C1:=J<|C1.out.B b8;replace u:=EV u b8;replace KR:=EH KR b8;replace KB:=J<|Jl.B KB.out b8;clear o8 b8 z64 hn mf oq;go_wp2_with fail;go_loopw[50] (fun y wr=> ∃(i:Nat) (A2:Option Ep) (c2:Nat),i<=n/\y=E I i/\Jl wr b (Zg (Us c) (G A2 i c2) (fun _=>Ec EI) (fun _=>E I 0) (Ec c.tok.bad)) 54/\wr.ownsRow w.heap.size 3 1 (G A2 i c2) i (Uz ((SL.take i).map One.s))/\JU lo g gc gq gt c wr/\H wr gr ZJ 54/\El w wr/\ ∃base,wr.ownsRow base 133 4 (G A n c8) n (UY SL)) (fun y _=>n-(In y).toNat);case atStart=>exact⟨0,Z,0,U,O,KB.out,cu _ _ _ _,C1.out,KR.out,u.out,_,OA.out⟩
  case round=>
   obtain⟨i,A2,c2,xq,rfl,kb9,o9,c9,kr9,b9,base,oa9⟩:=hrel;replace KB:=J kb9;have OI:=J o9;replace C1:=J c9;replace KR:=J kr9;replace u:=J b9;replace OA:=J oa9;clear kb9 o9 c9 kr9 b9 oa9;by_cases hlt:i<n;·have t1':decide ((i:Int)<(n:Int))=EJ:=IJ U;obtain⟨x,hx⟩: ∃x,SL[i]?=D x:=⟨SL[i]' DW,JV _⟩;obtain⟨gg,cur,rfl,ka,dY⟩:=xo OA.out hx af.out;have KA:=J ka;have d_:=J dY;have gL:Ed ((SL.take (i+1)).map One.s=(SL.take i).map One.s++[x.s]):=J (by rw[nG,hx,ik];rfl);clear ka dY hx;have K0:=J<|H.new wr #[E I 0,E I 0,E I 0,E I 0] 133;have b2:=Er wr (Eb #[E I 0,E I 0,E I 0,E I 0] 133);go_wp2_with (with_reducible first|refine wM (off:=i*4) (cs:= #[E I x.s,E I x.r,E I x.a,E I x.m]) j4 KA ?_ (he:=d_.out)|refine wA xp ?_|refine wS (cs:= #[E I x.s,E I x.r,E I x.a,E I x.m]) j4 K0 (Ex.mk ?_) (h1:=U9));apply Es;obtain⟨gx,hgx⟩:=Eo wr.heap.size;rw[<-hgx] at K0⊢;generalize wr.alloc (Eb #[E I 0,E I 0,E I 0,E I 0] 133)=UH at*;have KX:=J<|K0.out.setRow #[E I x.s,E I x.r,E I x.a,E I x.m];have b3:=EY (g:=gx) b2 (OC hgx.symm) #[E I x.s,E I x.r,E I x.a,E I x.m];generalize UH.setRow gx #[E I x.s,E I x.r,E I x.a,E I x.m]=JM at*;clear K0 b2 hgx KA d_;replace C1:=J<|C1.out.B b3;replace u:=EV u b3;replace KR:=EH KR b3;replace KB:=J<|Jl.B KB.out b3;replace OA:=J<|EG OA.out fun _ _ h=>H.B h b3;replace OI:=J<|EG OI.out fun _ _ h=>H.B h b3;clear b3;have cq:JM.cell? ⟨b,19,Z⟩=D (G A2 i c2):=(KB.out.cell 1 rfl (D9 _ _ _ _ _ O 1 U U) 0 Ej).trans O;have cx:JM.cell? ⟨gx,0,Z⟩=D (E I x.s):=(H.cell KX.out 0).trans O;have p3:=rZ.out;go_wp2_with (with_reducible refine JE 59 ?_);apply Es;have KI:=J<|H.new JM #[E I x.s] 3;have b4:=J<|Er JM (Eb #[E I x.s] 3);replace C1:=J<|C1.out.B b4.out;replace u:=EV u b4.out;replace KR:=EH KR b4.out;replace KB:=J<|Jl.B KB.out b4.out;replace OA:=J<|EG OA.out fun _ _ h=>H.B h b4.out;replace OI:=J<|EG OI.out fun _ _ h=>H.B h b4.out;clear b4 cq cx KX;generalize JM.alloc (Eb #[E I x.s] 3)=aP at*;generalize JM.heap.size=gb at*;obtain⟨qA,qc,qw,O4,U0,Js,-,-⟩:=aw (P:=EZ) aP w.heap.size w.heap.size 51 51 3 II.out.choose _ 1 8 Tryz.underlying51 II.out.choose_spec.1 II.out.choose_spec.2.1 II.out.choose_spec.2.2.1 II.out.choose_spec.2.2.2 rfl A2 c2 i (Uz ((SL.take i).map One.s)) OI.out ⟨gb,0,Z⟩ 1 1 [E I x.s] O (fun j Y3 hu=>by rw[show(⟨gb,0,Z⟩:Ep).add j=⟨gb,j,Z⟩ from U3];rw[H.cell KI.out,J2];exact hu) bB (fun _=>U) J8 U u.out.size (E3 _);have iM:=wi (P:=EZ) aP w.heap.size 51 51 3 II.out.choose _ 1 8 Tryz.underlying51 II.out.choose_spec.1 II.out.choose_spec.2.1 II.out.choose_spec.2.2.1 II.out.choose_spec.2.2.2 A2 c2 i (Uz ((SL.take i).map One.s)) OI.out ⟨gb,0,Z⟩ 1 1 [E I x.s] O (fun j Y3 hu=>by rw[show(⟨gb,0,Z⟩:Ep).add j=⟨gb,j,Z⟩ from U3];rw[H.cell KI.out,J2];exact hu) bB (fun _=>U) J8 U O4;go_wp2_with ((with_reducible refine Io 59 ?_);(refine Jo (Eh O) (Ol O O O O4) ?_);refine Ex.mk ?_);apply Es;replace OI:Ed (dU qw w.heap.size 3 1 (G qA (i+1) qc) (i+1) (Uz ((SL.take (i+1)).map One.s))):=J (by rw[gL.out];unfold Uz;rw[ik];exact U0);have Ot:Ed (Jl qw b (Zg (Us c) (G A2 i c2) (fun _=>Ec EI) (fun _=>E I 0) (Ec c.tok.bad)) 54):=J<|Uw Js KB.out EU;replace OA:=J<|EG OA.out fun _ _ h=>Uw Js h EU;replace KR:=J<|Uw Js KR.out EU;have hbl:=Js.2.1 u.out.size;replace C1:=J<|C1.out.via (fun k cs S hS hk=>Uw Js hk aZ) (hbl.mono (by have:=LT.out;omega));replace u:=J<|u.out.trans hbl;clear U0 Js O4 iM KI hbl KB;have cq:qw.cell? ⟨b,19,Z⟩=D (G A2 i c2):=(Ot.out.cell 1 rfl (D9 _ _ _ _ _ O 1 U U) 0 Ej).trans O;have fq:=Ot.out.JZ 19;have ho:=JS (g:=b) (W:=qw) 19 (G qA (i+1) qc);have KB3:Ed (Jl (qw.setCell ⟨b,19,Z⟩ (G qA (i+1) qc)) b (Zg (Us c) (G qA (i+1) qc) (fun _=>Ec EI) (fun _=>E I 0) (Ec c.tok.bad)) 54):=J<|Ot.out.set 1 rfl (D9 _ _ _ _ _ O 1 U U) [G qA (i+1) qc] O;have HO:=J ho;clear ho;go_wp2_with fail;refine⟨⟨i+1,qA,qc,U,Ej,KB3.out,EG OI.out fun _ _ h=>HO.out.Ek h (E6 h Ot.out EU),C1.out.via (fun k cs S hS hk=>HO.out.Ek hk (E6 hk Ot.out aZ)) (HO.out.bel lo jE jI),HO.out.Ek KR.out (XA Xq.out.1),u.out.trans (HO.out.bel w.heap.size Xq.out.2 u.out.size),base,EG OA.out fun _ _ h=>HO.out.Ek h (E6 h Ot.out EU)⟩,Jb⟩
   ·obtain rfl:i=n:=U;have t1':decide ((i:Int)<(i:Int))=EI:=IZ U;have L6:Ed (SL.take i=SL):=J<|OP (by rw[af.out];exact E3 _);rw[L6.out] at OI;clear OA;obtain⟨o0,ho0⟩:=Eo (c.T.XN 0);obtain⟨r0,hr0⟩:=Eo (c.T.cL 0);have DY:Ed (∀W,JU lo g gc gq gt c W->Eg EZ 55 #[V (D ⟨gt,0,Z⟩),E I 0] W fun e w'=>e=Ei (Ec o0)/\W=w'):=J (fun W C=>by rw[ho0];exact ny gt c.T 0 W C.tab C.ok.T);have CR0:Ed (∀W,JU lo g gc gq gt c W->Eg EZ 56 #[V (D ⟨gt,0,Z⟩),E I 0] W fun e w'=>e=Ei (E I r0)/\W=w'):=J (fun W C=>by rw[hr0];exact sF gt c.T 0 W C.tab C.ok.T);replace ho0:=J ho0;replace hr0:=J hr0;obtain⟨o1,ho1⟩:=Eo (c.T.XN 1);obtain⟨r1,hr1⟩:=Eo (c.T.cL 1);have CO1:Ed (∀W,JU lo g gc gq gt c W->Eg EZ 55 #[V (D ⟨gt,0,Z⟩),E I 1] W fun e w'=>e=Ei (Ec o1)/\W=w'):=J (fun W C=>by rw[ho1];exact ny gt c.T 1 W C.tab C.ok.T);have CR1:Ed (∀W,JU lo g gc gq gt c W->Eg EZ 56 #[V (D ⟨gt,0,Z⟩),E I 1] W fun e w'=>e=Ei (E I r1)/\W=w'):=J (fun W C=>by rw[hr1];exact sF gt c.T 1 W C.tab C.ok.T);replace ho1:=J ho1;replace hr1:=J hr1;obtain⟨o2,ho2⟩:=Eo (c.T.XN 2);obtain⟨r2,hr2⟩:=Eo (c.T.cL 2);have CO2:Ed (∀W,JU lo g gc gq gt c W->Eg EZ 55 #[V (D ⟨gt,0,Z⟩),E I 2] W fun e w'=>e=Ei (Ec o2)/\W=w'):=J (fun W C=>by rw[ho2];exact ny gt c.T 2 W C.tab C.ok.T);have CR2:Ed (∀W,JU lo g gc gq gt c W->Eg EZ 56 #[V (D ⟨gt,0,Z⟩),E I 2] W fun e w'=>e=Ei (E I r2)/\W=w'):=J (fun W C=>by rw[hr2];exact sF gt c.T 2 W C.tab C.ok.T);replace ho2:=J ho2;replace hr2:=J hr2;obtain⟨o3,ho3⟩:=Eo (c.T.XN 3);obtain⟨r3,hr3⟩:=Eo (c.T.cL 3);have CO3:Ed (∀W,JU lo g gc gq gt c W->Eg EZ 55 #[V (D ⟨gt,0,Z⟩),E I 3] W fun e w'=>e=Ei (Ec o3)/\W=w'):=J (fun W C=>by rw[ho3];exact ny gt c.T 3 W C.tab C.ok.T);have CR3:Ed (∀W,JU lo g gc gq gt c W->Eg EZ 56 #[V (D ⟨gt,0,Z⟩),E I 3] W fun e w'=>e=Ei (E I r3)/\W=w'):=J (fun W C=>by rw[hr3];exact sF gt c.T 3 W C.tab C.ok.T);replace ho3:=J ho3;replace hr3:=J hr3;obtain⟨o4,oZ⟩:=Eo (c.T.XN 4);obtain⟨r4,hr4⟩:=Eo (c.T.cL 4);have CO4:Ed (∀W,JU lo g gc gq gt c W->Eg EZ 55 #[V (D ⟨gt,0,Z⟩),E I 4] W fun e w'=>e=Ei (Ec o4)/\W=w'):=J (fun W C=>by rw[oZ];exact ny gt c.T 4 W C.tab C.ok.T);have CR4:Ed (∀W,JU lo g gc gq gt c W->Eg EZ 56 #[V (D ⟨gt,0,Z⟩),E I 4] W fun e w'=>e=Ei (E I r4)/\W=w'):=J (fun W C=>by rw[hr4];exact sF gt c.T 4 W C.tab C.ok.T);replace oZ:=J oZ;replace hr4:=J hr4;go_wp2_with fail;refine Uk 6 ?_;obtain⟨qv,D_⟩:=Eo (G A2 i c2);rw[<-D_] at KB OI;replace D_:=J D_;replace KB:Ed (Jl wr b [Us c,[qv],[Ec EI],[Ec EI],[Ec EI],[Ec EI],[Ec EI],[E I 0],[E I 0],[E I 0],[E I 0],[E I 0],[Ec c.tok.bad]] 54):=J KB.out;have OFF:Ed (∀(x0 x1 x2 x3 x4 x5 x6 x7 x8 x9:Y) (k:Nat),1<=k->k<13->bh [Us c,[qv],[x0],[x1],[x2],[x3],[x4],[x5],[x6],[x7],[x8],[x9],[Ec c.tok.bad]] k=18+k):=J<|fun x0 x1 x2 x3 x4 x5 x6 x7 x8 x9 k h1 h2=>D9 (Us c) qv (fun i=>[x0,x1,x2,x3,x4].getD i x0) (fun i=>[x5,x6,x7,x8,x9].getD i x5) (Ec c.tok.bad) O k h1 h2;have U2:wr.cell? ⟨gc,95,Z⟩=D (V (D ⟨gt,0,Z⟩)):=C1.out.cell 6 rfl 0 Ej;rw[Il];go_wp2_with fail;refine(DY.out _ C1.out).mono ?_;rintro e20 aQ ⟨rfl,rfl⟩;clear U2;have cs:wr.cell? ⟨b,20,Z⟩=D (Ec EI):=(KB.out.cell 2 rfl (OFF.out _ _ _ _ _ _ _ _ _ _ 2 U U) 0 Ej).trans O;have fs:=KB.out.JZ 20;have HO:=J<|JS (g:=b) (W:=wr) 20 (Ec o0);have Ot:Ed (Jl (wr.setCell ⟨b,20,Z⟩ (Ec o0)) b [Us c,[qv],[Ec o0],[Ec EI],[Ec EI],[Ec EI],[Ec EI],[E I 0],[E I 0],[E I 0],[E I 0],[E I 0],[Ec c.tok.bad]] 54):=J<|KB.out.set 2 rfl (OFF.out _ _ _ _ _ _ _ _ _ _ 2 U U) [Ec o0] O;have UK:=J<|EG OI.out fun _ _ h=>HO.out.Ek h (E6 h KB.out EU);have C2:=J<|C1.out.via (fun k cs S hS hk=>HO.out.Ek hk (E6 hk KB.out aZ)) (HO.out.bel lo jE jI);have Ua:=J<|HO.out.Ek KR.out (XA Xq.out.1);have Jv:=J<|u.out.trans (HO.out.bel w.heap.size Xq.out.2 u.out.size);clear HO KB OI C1 KR u;have U2:(wr.setCell ⟨b,20,Z⟩ (Ec o0)).cell? ⟨gc,95,Z⟩=D (V (D ⟨gt,0,Z⟩)):=C2.out.cell 6 rfl 0 Ej;go_wp2_with fail;generalize wr.setCell ⟨b,20,Z⟩ (Ec o0)=x_ at*;have KB:=Ot;have OI:=UK;have C1:=C2;have KR:=Ua;have u:=Jv;clear Ot UK C2 Ua Jv cs fs U2;refine(CR0.out _ C1.out).mono ?_;rintro e30 w30 ⟨rfl,rfl⟩;have cs:x_.cell? ⟨b,25,Z⟩=D (E I 0):=(KB.out.cell 7 rfl (OFF.out _ _ _ _ _ _ _ _ _ _ 7 U U) 0 Ej).trans O;have fs:=KB.out.JZ 25;have HO:=J<|JS (g:=b) (W:=x_) 25 (E I r0);have Ot:Ed (Jl (x_.setCell ⟨b,25,Z⟩ (E I r0)) b [Us c,[qv],[Ec o0],[Ec EI],[Ec EI],[Ec EI],[Ec EI],[E I r0],[E I 0],[E I 0],[E I 0],[E I 0],[Ec c.tok.bad]] 54):=J<|KB.out.set 7 rfl (OFF.out _ _ _ _ _ _ _ _ _ _ 7 U U) [E I r0] O;have UK:=J<|EG OI.out fun _ _ h=>HO.out.Ek h (E6 h KB.out EU);have C2:=J<|C1.out.via (fun k cs S hS hk=>HO.out.Ek hk (E6 hk KB.out aZ)) (HO.out.bel lo jE jI);have Ua:=J<|HO.out.Ek KR.out (XA Xq.out.1);have Jv:=J<|u.out.trans (HO.out.bel w.heap.size Xq.out.2 u.out.size);clear HO KB OI C1 KR u;have U2:(x_.setCell ⟨b,25,Z⟩ (E I r0)).cell? ⟨gc,95,Z⟩=D (V (D ⟨gt,0,Z⟩)):=C2.out.cell 6 rfl 0 Ej;go_wp2_with fail;rw[Il];go_wp2_with fail;generalize x_.setCell ⟨b,25,Z⟩ (E I r0)=yE at*;have KB:=Ot;have OI:=UK;have C1:=C2;have KR:=Ua;have u:=Jv;clear Ot UK C2 Ua Jv cs fs U2;refine(CO1.out _ C1.out).mono ?_;rintro e21 dW ⟨rfl,rfl⟩;have cs:yE.cell? ⟨b,21,Z⟩=D (Ec EI):=(KB.out.cell 3 rfl (OFF.out _ _ _ _ _ _ _ _ _ _ 3 U U) 0 Ej).trans O;have fs:=KB.out.JZ 21;have HO:=J<|JS (g:=b) (W:=yE) 21 (Ec o1);have Ot:Ed (Jl (yE.setCell ⟨b,21,Z⟩ (Ec o1)) b [Us c,[qv],[Ec o0],[Ec o1],[Ec EI],[Ec EI],[Ec EI],[E I r0],[E I 0],[E I 0],[E I 0],[E I 0],[Ec c.tok.bad]] 54):=J<|KB.out.set 3 rfl (OFF.out _ _ _ _ _ _ _ _ _ _ 3 U U) [Ec o1] O;have UK:=J<|EG OI.out fun _ _ h=>HO.out.Ek h (E6 h KB.out EU);have C2:=J<|C1.out.via (fun k cs S hS hk=>HO.out.Ek hk (E6 hk KB.out aZ)) (HO.out.bel lo jE jI);have Ua:=J<|HO.out.Ek KR.out (XA Xq.out.1);have Jv:=J<|u.out.trans (HO.out.bel w.heap.size Xq.out.2 u.out.size);clear HO KB OI C1 KR u;have U2:(yE.setCell ⟨b,21,Z⟩ (Ec o1)).cell? ⟨gc,95,Z⟩=D (V (D ⟨gt,0,Z⟩)):=C2.out.cell 6 rfl 0 Ej;go_wp2_with fail;generalize yE.setCell ⟨b,21,Z⟩ (Ec o1)=yI at*;have KB:=Ot;have OI:=UK;have C1:=C2;have KR:=Ua;have u:=Jv;clear Ot UK C2 Ua Jv cs fs U2;refine(CR1.out _ C1.out).mono ?_;rintro e31 w31 ⟨rfl,rfl⟩;have cs:yI.cell? ⟨b,26,Z⟩=D (E I 0):=(KB.out.cell 8 rfl (OFF.out _ _ _ _ _ _ _ _ _ _ 8 U U) 0 Ej).trans O;have fs:=KB.out.JZ 26;have HO:=J<|JS (g:=b) (W:=yI) 26 (E I r1);have Ot:Ed (Jl (yI.setCell ⟨b,26,Z⟩ (E I r1)) b [Us c,[qv],[Ec o0],[Ec o1],[Ec EI],[Ec EI],[Ec EI],[E I r0],[E I r1],[E I 0],[E I 0],[E I 0],[Ec c.tok.bad]] 54):=J<|KB.out.set 8 rfl (OFF.out _ _ _ _ _ _ _ _ _ _ 8 U U) [E I r1] O;have UK:=J<|EG OI.out fun _ _ h=>HO.out.Ek h (E6 h KB.out EU);have C2:=J<|C1.out.via (fun k cs S hS hk=>HO.out.Ek hk (E6 hk KB.out aZ)) (HO.out.bel lo jE jI);have Ua:=J<|HO.out.Ek KR.out (XA Xq.out.1);have Jv:=J<|u.out.trans (HO.out.bel w.heap.size Xq.out.2 u.out.size);clear HO KB OI C1 KR u;have U2:(yI.setCell ⟨b,26,Z⟩ (E I r1)).cell? ⟨gc,95,Z⟩=D (V (D ⟨gt,0,Z⟩)):=C2.out.cell 6 rfl 0 Ej;go_wp2_with fail;rw[Il];go_wp2_with fail;generalize yI.setCell ⟨b,26,Z⟩ (E I r1)=yJ at*;have KB:=Ot;have OI:=UK;have C1:=C2;have KR:=Ua;have u:=Jv;clear Ot UK C2 Ua Jv cs fs U2;refine(CO2.out _ C1.out).mono ?_;rintro e22 w22 ⟨rfl,rfl⟩;have cs:yJ.cell? ⟨b,22,Z⟩=D (Ec EI):=(KB.out.cell 4 rfl (OFF.out _ _ _ _ _ _ _ _ _ _ 4 U U) 0 Ej).trans O;have fs:=KB.out.JZ 22;have HO:=J<|JS (g:=b) (W:=yJ) 22 (Ec o2);have Ot:Ed (Jl (yJ.setCell ⟨b,22,Z⟩ (Ec o2)) b [Us c,[qv],[Ec o0],[Ec o1],[Ec o2],[Ec EI],[Ec EI],[E I r0],[E I r1],[E I 0],[E I 0],[E I 0],[Ec c.tok.bad]] 54):=J<|KB.out.set 4 rfl (OFF.out _ _ _ _ _ _ _ _ _ _ 4 U U) [Ec o2] O;have UK:=J<|EG OI.out fun _ _ h=>HO.out.Ek h (E6 h KB.out EU);have C2:=J<|C1.out.via (fun k cs S hS hk=>HO.out.Ek hk (E6 hk KB.out aZ)) (HO.out.bel lo jE jI);have Ua:=J<|HO.out.Ek KR.out (XA Xq.out.1);have Jv:=J<|u.out.trans (HO.out.bel w.heap.size Xq.out.2 u.out.size);clear HO KB OI C1 KR u;have U2:(yJ.setCell ⟨b,22,Z⟩ (Ec o2)).cell? ⟨gc,95,Z⟩=D (V (D ⟨gt,0,Z⟩)):=C2.out.cell 6 rfl 0 Ej;go_wp2_with fail;generalize yJ.setCell ⟨b,22,Z⟩ (Ec o2)=yO at*;have KB:=Ot;have OI:=UK;have C1:=C2;have KR:=Ua;have u:=Jv;clear Ot UK C2 Ua Jv cs fs U2;refine(CR2.out _ C1.out).mono ?_;rintro e32 w32 ⟨rfl,rfl⟩;have cs:yO.cell? ⟨b,27,Z⟩=D (E I 0):=(KB.out.cell 9 rfl (OFF.out _ _ _ _ _ _ _ _ _ _ 9 U U) 0 Ej).trans O;have fs:=KB.out.JZ 27;have HO:=J<|JS (g:=b) (W:=yO) 27 (E I r2);have Ot:Ed (Jl (yO.setCell ⟨b,27,Z⟩ (E I r2)) b [Us c,[qv],[Ec o0],[Ec o1],[Ec o2],[Ec EI],[Ec EI],[E I r0],[E I r1],[E I r2],[E I 0],[E I 0],[Ec c.tok.bad]] 54):=J<|KB.out.set 9 rfl (OFF.out _ _ _ _ _ _ _ _ _ _ 9 U U) [E I r2] O;have UK:=J<|EG OI.out fun _ _ h=>HO.out.Ek h (E6 h KB.out EU);have C2:=J<|C1.out.via (fun k cs S hS hk=>HO.out.Ek hk (E6 hk KB.out aZ)) (HO.out.bel lo jE jI);have Ua:=J<|HO.out.Ek KR.out (XA Xq.out.1);have Jv:=J<|u.out.trans (HO.out.bel w.heap.size Xq.out.2 u.out.size);clear HO KB OI C1 KR u;have U2:(yO.setCell ⟨b,27,Z⟩ (E I r2)).cell? ⟨gc,95,Z⟩=D (V (D ⟨gt,0,Z⟩)):=C2.out.cell 6 rfl 0 Ej;go_wp2_with fail;rw[Il];go_wp2_with fail;generalize yO.setCell ⟨b,27,Z⟩ (E I r2)=yU at*;have KB:=Ot;have OI:=UK;have C1:=C2;have KR:=Ua;have u:=Jv;clear Ot UK C2 Ua Jv cs fs U2;refine(CO3.out _ C1.out).mono ?_;rintro e23 w23 ⟨rfl,rfl⟩;have cs:yU.cell? ⟨b,23,Z⟩=D (Ec EI):=(KB.out.cell 5 rfl (OFF.out _ _ _ _ _ _ _ _ _ _ 5 U U) 0 Ej).trans O;have fs:=KB.out.JZ 23;have HO:=J<|JS (g:=b) (W:=yU) 23 (Ec o3);have Ot:Ed (Jl (yU.setCell ⟨b,23,Z⟩ (Ec o3)) b [Us c,[qv],[Ec o0],[Ec o1],[Ec o2],[Ec o3],[Ec EI],[E I r0],[E I r1],[E I r2],[E I 0],[E I 0],[Ec c.tok.bad]] 54):=J<|KB.out.set 5 rfl (OFF.out _ _ _ _ _ _ _ _ _ _ 5 U U) [Ec o3] O;have UK:=J<|EG OI.out fun _ _ h=>HO.out.Ek h (E6 h KB.out EU);have C2:=J<|C1.out.via (fun k cs S hS hk=>HO.out.Ek hk (E6 hk KB.out aZ)) (HO.out.bel lo jE jI);have Ua:=J<|HO.out.Ek KR.out (XA Xq.out.1);have Jv:=J<|u.out.trans (HO.out.bel w.heap.size Xq.out.2 u.out.size);clear HO KB OI C1 KR u;have U2:(yU.setCell ⟨b,23,Z⟩ (Ec o3)).cell? ⟨gc,95,Z⟩=D (V (D ⟨gt,0,Z⟩)):=C2.out.cell 6 rfl 0 Ej;go_wp2_with fail;generalize yU.setCell ⟨b,23,Z⟩ (Ec o3)=yX at*;have KB:=Ot;have OI:=UK;have C1:=C2;have KR:=Ua;have u:=Jv;clear Ot UK C2 Ua Jv cs fs U2;refine(CR3.out _ C1.out).mono ?_;rintro e33 w33 ⟨rfl,rfl⟩;have cs:yX.cell? ⟨b,28,Z⟩=D (E I 0):=(KB.out.cell 10 rfl (OFF.out _ _ _ _ _ _ _ _ _ _ 10 U U) 0 Ej).trans O;have fs:=KB.out.JZ 28;have HO:=J<|JS (g:=b) (W:=yX) 28 (E I r3);have Ot:Ed (Jl (yX.setCell ⟨b,28,Z⟩ (E I r3)) b [Us c,[qv],[Ec o0],[Ec o1],[Ec o2],[Ec o3],[Ec EI],[E I r0],[E I r1],[E I r2],[E I r3],[E I 0],[Ec c.tok.bad]] 54):=J<|KB.out.set 10 rfl (OFF.out _ _ _ _ _ _ _ _ _ _ 10 U U) [E I r3] O;have UK:=J<|EG OI.out fun _ _ h=>HO.out.Ek h (E6 h KB.out EU);have C2:=J<|C1.out.via (fun k cs S hS hk=>HO.out.Ek hk (E6 hk KB.out aZ)) (HO.out.bel lo jE jI);have Ua:=J<|HO.out.Ek KR.out (XA Xq.out.1);have Jv:=J<|u.out.trans (HO.out.bel w.heap.size Xq.out.2 u.out.size);clear HO KB OI C1 KR u;have U2:(yX.setCell ⟨b,28,Z⟩ (E I r3)).cell? ⟨gc,95,Z⟩=D (V (D ⟨gt,0,Z⟩)):=C2.out.cell 6 rfl 0 Ej;go_wp2_with fail;rw[Il];go_wp2_with fail;generalize yX.setCell ⟨b,28,Z⟩ (E I r3)=yZ at*;have KB:=Ot;have OI:=UK;have C1:=C2;have KR:=Ua;have u:=Jv;clear Ot UK C2 Ua Jv cs fs U2;refine(CO4.out _ C1.out).mono ?_;rintro e24 w24 ⟨rfl,rfl⟩;have cs:yZ.cell? ⟨b,24,Z⟩=D (Ec EI):=(KB.out.cell 6 rfl (OFF.out _ _ _ _ _ _ _ _ _ _ 6 U U) 0 Ej).trans O;have fs:=KB.out.JZ 24;have HO:=J<|JS (g:=b) (W:=yZ) 24 (Ec o4);have Ot:Ed (Jl (yZ.setCell ⟨b,24,Z⟩ (Ec o4)) b [Us c,[qv],[Ec o0],[Ec o1],[Ec o2],[Ec o3],[Ec o4],[E I r0],[E I r1],[E I r2],[E I r3],[E I 0],[Ec c.tok.bad]] 54):=J<|KB.out.set 6 rfl (OFF.out _ _ _ _ _ _ _ _ _ _ 6 U U) [Ec o4] O;have UK:=J<|EG OI.out fun _ _ h=>HO.out.Ek h (E6 h KB.out EU);have C2:=J<|C1.out.via (fun k cs S hS hk=>HO.out.Ek hk (E6 hk KB.out aZ)) (HO.out.bel lo jE jI);have Ua:=J<|HO.out.Ek KR.out (XA Xq.out.1);have Jv:=J<|u.out.trans (HO.out.bel w.heap.size Xq.out.2 u.out.size);clear HO KB OI C1 KR u;have U2:(yZ.setCell ⟨b,24,Z⟩ (Ec o4)).cell? ⟨gc,95,Z⟩=D (V (D ⟨gt,0,Z⟩)):=C2.out.cell 6 rfl 0 Ej;go_wp2_with fail;generalize yZ.setCell ⟨b,24,Z⟩ (Ec o4)=ya at*;have KB:=Ot;have OI:=UK;have C1:=C2;have KR:=Ua;have u:=Jv;clear Ot UK C2 Ua Jv cs fs U2;refine(CR4.out _ C1.out).mono ?_;rintro e34 w34 ⟨rfl,rfl⟩;have cs:ya.cell? ⟨b,29,Z⟩=D (E I 0):=(KB.out.cell 11 rfl (OFF.out _ _ _ _ _ _ _ _ _ _ 11 U U) 0 Ej).trans O;have fs:=KB.out.JZ 29;have HO:=J<|JS (g:=b) (W:=ya) 29 (E I r4);have Ot:Ed (Jl (ya.setCell ⟨b,29,Z⟩ (E I r4)) b [Us c,[qv],[Ec o0],[Ec o1],[Ec o2],[Ec o3],[Ec o4],[E I r0],[E I r1],[E I r2],[E I r3],[E I r4],[Ec c.tok.bad]] 54):=J<|KB.out.set 11 rfl (OFF.out _ _ _ _ _ _ _ _ _ _ 11 U U) [E I r4] O;have UK:=J<|EG OI.out fun _ _ h=>HO.out.Ek h (E6 h KB.out EU);have C2:=J<|C1.out.via (fun k cs S hS hk=>HO.out.Ek hk (E6 hk KB.out aZ)) (HO.out.bel lo jE jI);have Ua:=J<|HO.out.Ek KR.out (XA Xq.out.1);have Jv:=J<|u.out.trans (HO.out.bel w.heap.size Xq.out.2 u.out.size);clear HO KB OI C1 KR u;have U2:(ya.setCell ⟨b,29,Z⟩ (E I r4)).cell? ⟨gc,95,Z⟩=D (V (D ⟨gt,0,Z⟩)):=C2.out.cell 6 rfl 0 Ej;go_wp2_with fail;rw[Il];generalize ya.setCell ⟨b,29,Z⟩ (E I r4)=v4b at*;have KB:=Ot;have OI:=UK;have C1:=C2;have KR:=Ua;have u:=Jv;clear Ot UK C2 Ua Jv cs fs U2;obtain⟨sv,hsv⟩: ∃sv,sv=([Us c,[qv],[Ec o0],[Ec o1],[Ec o2],[Ec o3],[Ec o4],[E I r0],[E I r1],[E I r2],[E I r3],[E I r4],[Ec c.tok.bad]]:List (List Y)).flatten.toArray:=⟨_,O⟩;have ud:Ed (sv.size=31):=J (by rw[hsv];simp[Us]);have FE:Ed (sv.all (·.oneCell')=EJ):=J (by rw[hsv];exact EEA (h:=Us c) (q:=qv) (o:=fun i=>[Ec o0,Ec o1,Ec o2,Ec o3,Ec o4].getD i (Ec o0)) (r:=fun i=>[E .i64 r0,E I r1,E I r2,E I r3,E I r4].getD i (E I r0)) (b:=Ec c.tok.bad) (EEB c) (by rw[D_.out];rfl) (fun i=>EEL) (fun i=>EEL) O);have KF:Ed (H v4b b sv 54):=J (by rw[hsv];exact KB.out);have sR:=J hsv;clear hsv KB;have hgr:=hI.out;subst hgr;go_wp2_with (with_reducible first|refine wL fY KF ?_ (hn:=ud.out)|refine wS (cs:=sv) fY KR ?_ (hn:=ud.out) (h1:=FE.out));refine ET (Jd fY O _ _ w.heap.size sv O (KR.out.setRow sv) ud.out) O ?_;refine⟨⟨qv,?_,?_⟩,EY (g:=w.heap.size) u.out Z5.out.2.2.2 sv⟩;·rw[sR.out,ho0.out,ho1.out,ho2.out,ho3.out,oZ.out,hr0.out,hr1.out,hr2.out,hr3.out,hr4.out];rfl
    ·rw[<-MW.out,<-dM.out];exact EG OI.out fun _ _ h=>(J9 (g:=w.heap.size) (W:=v4b) sv).Ek h (E6 h KR.out EU)
theorem I2:IL EZ 101 4:=⟨⟨_,Tryz.underlying101,O⟩,Ef⟩
theorem Eif(x z:Int)(h0:0<=x)(h1:x<=255)(x0:0<=z)(x1:z<=255):Ir .or .u16 (x*256) z=x*256+z:=by obtain⟨m,rfl⟩:=fm h0;obtain⟨y,rfl⟩:=fm x0;have e:((m:Int)*256)=((m*256:Nat):Int):=Ej;rw[e,u16_or_nat _ _ U U,nat_join 8 _ _ U U];simp
def fE(W:M)(base:Nat)(f:bP)(v:Y):Prop:= ∃(A:Option Ep) (c:Nat),v=Ea #[E I f.kd,E I f.sz,E I f.cd,G A f.b.length c]/\Own W base A c f.b
theorem Zh{gz:Nat}{c:Nat}{xs:List Int}(h:Own W base A c xs)(K:H W gz z 101)(tv:Array Y):Own (W.setRow gz tv) base A c xs:=
 ⟨EG h.1 fun _ _ h2=>(J9 tv).Ek h2 (E6 h2 K EU),h.2⟩
theorem dj(W:M)(base:Nat)(f:bP)(h:f.b=[]):fE W base f (Ea #[E I f.kd,E I f.sz,E I f.cd,G Z 0 0]):=⟨Z,0,by rw[h];rfl,by rw[h];exact XL _ _⟩
theorem FI(cd:Int)(w:M): Eg EZ 116 #[E I cd] w fun e w'=>e=Ei (Ea #[E I 3,E I 1,E I cd,G Z 0 0])/\El w w':=by go_enter Tryz.func116,Tryz.ntmps116;go_wp2_with fail;refine ET (v:=Ea #[E I 3,E I 1,E I cd,G Z 0 0]) (by simp[UA,Tryz.results116,go_sem]) O ?_;exact Epq
theorem yd(A:Option Ep)(xs:List Int)(n c:Nat)(w:M)(hn:xs.length=n)(h1:1<=n)(hr:Row w A xs)(hm:n<=9223372036854775807): Eg EZ 117 #[G A n c] w fun e w'=>e=Ei (Ea #[E I 1,E I (JI xs),E I 0,G Z 0 0])/\El w w':=by
 have hle:JI xs<=n:=by rw[<-hn];exact uO xs
 have HR:=J hr;have HN:=J hn;clear hr hn;generalize hz:JI xs=z at*;replace hz:=J hz;go_enter Tryz.func117,Tryz.ntmps117;go_wp2_with fail;refine(Eh9 A xs n c _ HN.out h1 (HR.out.B (Er _ _))).mono ?_;rintro e w2 ⟨rfl,rfl⟩;rw[hz.out];by_cases hlt:z<n;·rw[if_pos hlt];have t1:decide ((z:Int)<0)=EI:=IZ U;exact ErA
 ·rw[if_neg hlt];obtain rfl:z=n:=U;exact ErA
theorem Eig(b off:Nat)(a v:Int)(k:Nat)(r:List Int)(n c:Nat)(w:M)(hn:r.length+3=n)(hr:Row w (D ⟨b,off,Z⟩) (a::v::(k:Int)::r))(hc:n<=c)(hm:c<=9223372036854775807): Eg EZ 115 #[G (D ⟨b,off,Z⟩) n c] w fun e w'=>(∃Y3,e=Ei Y3/\fE w' w.heap.size (Z6 v k r) Y3)/\El w w':=by
 have hk:k<=255:=by have:=hr.2 k Ej;omega
 have b1:=Er w (Eb #[E I 0,E I 0,E I 0,G Z 0 0] 101);replace hr:=It hr b1;have HB1:=J b1
 have c2:(w.alloc (Eb #[E I 0,E I 0,E I 0,G Z 0 0] 101)).cell? ⟨b,off+2,Z⟩=D (E Ix (k:Int)):=by
  rcases hr.1 with h|⟨b',off',e,h⟩;·cases h
  ·injection e with e;injection e with e1 e2 e3;subst e1 e2;exact h 2 Ej
 have i2:2<n:=U;have HR:=J hr;have HN:=J hn;clear hr hn b1;unfold Z6;have K0:=J<|H.new w #[E I 0,E I 0,E I 0,G Z 0 0] 101;by_cases h32:(32:Int)<k;·rw[if_pos h32];have t1:decide ((32:Int)<(k:Int))=EJ:=IJ h32;go_enter Tryz.func115,Tryz.ntmps115;go_wp2_with fail;refine(FI 11 _).mono ?_;rintro e w2 ⟨rfl,b2⟩;replace K0:=EH K0 b2;replace HB1:=EV HB1 b2;obtain⟨tv,E2⟩:=Eo (#[E I 3,E I 1,E I 11,G Z 0 0]:Array Y);have TS:Ed (tv.size=4):=J XG;have TO:Ed (tv.all (·.oneCell')=EJ):=J X1;rw[<-E2];replace E2:=J E2;go_wp2_with (with_reducible refine wS (cs:=tv) I2 K0 ?_ (hn:=TS.out) (h1:=TO.out));exact EpI
 rw[if_neg h32];have t1:decide ((32:Int)<(k:Int))=EI:=IZ h32;by_cases hw:(r.length:Int)<(k:Int)+2;·rw[if_pos hw];have t2:decide ((n:Int)<3+(k:Int)+2)=EJ:=IJ J_;go_enter Tryz.func115,Tryz.ntmps115;obtain⟨tv,E2⟩:=Eo (#[E I 0,E I 0,E I 0,G Z 0 0]:Array Y);have TS:Ed (tv.size=4):=J XG;have TO:Ed (tv.all (·.oneCell')=EJ):=J X1;have BS:Ed (Tryz.prog.built 101 [(0,E I 0)]=D tv):=J mn;replace E2:=J E2;go_wp2_with (first|((with_reducible refine Io 19 ?_);refine I4 rfl 101 _ rfl tv BS.out ?_)|(with_reducible refine wS (cs:=tv) I2 K0 ?_ (hn:=TS.out) (h1:=TO.out)));exact EnY
 rw[if_neg U];have t2:decide ((n:Int)<3+(k:Int)+2)=EI:=IZ J_;obtain⟨f,hf⟩: ∃f,f=if Ug (v::(k:Int)::r.take (k:Int).toNat)≠256*r.getD (k:Int).toNat 0+r.getD ((k:Int).toNat+1) 0 then bQ 12 else j7 (r.take (k:Int).toNat):=⟨_,O⟩
 rw[<-hf];rw[kn] at hf;go_enter Tryz.func115,Tryz.ntmps115;go_wp2_with fail;obtain⟨w1,hw1⟩: ∃w1,w1=w.alloc (Eb #[E I 0,E I 0,E I 0,G Z 0 0] 101):=⟨_,O⟩;rw[<-hw1] at HR HB1 K0⊢;clear c2 hw1;have i3:3+k<n:=J_;have i4:3+k+1<n:=J_;have i5:3+k<=c:=U;obtain⟨x,hx⟩: ∃x,r[k]?=D x:=⟨r[k]' U,JV _⟩;obtain⟨z,hz⟩: ∃z,r[k+1]?=D z:=⟨r[k+1]' U,JV _⟩
 have cellAt: ∀(i:Nat) (Y3:Int),(a::v::(k:Int)::r)[i]?=D Y3-> ∀y:Ext w1,(EC w1 y).cell? ⟨b,off+i,Z⟩=D (E Ix Y3):=fun i Y3 h y=>by
  rcases(It HR.out (EQ y)).1 with h2|⟨b',off',e,h2⟩;·cases h2
  ·injection e with e;injection e with e1 e2 e3;subst e1 e2;obtain⟨hi,he⟩:=Xx.1 h;rw[h2 i hi,he]
 have yx:=cellAt (3+k) x (by rw[Nat.add_comm 3 k];exact hx);have yz:=cellAt (3+k+1) z (by rw[show 3+k+1=k+1+3 from U];exact hz);have xb:0<=x/\x<=255:=HR.out.2 x (XU _ (XU _ (XU _ (aD hx))));have zb:0<=z/\z<=255:=HR.out.2 z (XU _ (XU _ (XU _ (aD hz))));clear cellAt;have RC:Ed (Row w1 (D ⟨b,off+1,Z⟩) (v::(k:Int)::r.take k)):=J EEN;have LC:Ed ((v::(k:Int)::r.take k).length=2+k):=J (by have:=HN.out;simp;omega);obtain⟨cr,hcr⟩:=Eo (Ug (v::(k:Int)::r.take k));have CS:Ed (∀(y:Ext w1) (cc:Nat),Eg EZ 157 #[G (D ⟨b,off+1,Z⟩) (2+k) cc] (EC w1 y) fun e w'=>e=Ei (.int .u16 cr)/\EC w1 y=w'):=J (fun y cc=>by rw[hcr];exact Vq _ _ _ _ _ LC.out (It RC.out (EQ y)) U);refine ZQ Ef Ef ?_;repeat (go_big_quiet_step (go_loud (with_reducible refine mW (CS.out _ _))))
 refine I5 ?_;intro _ hw';obtain⟨y9,rfl⟩:=hw';have En:=EQ y9;have HCB:(Ug (v::(k:Int)::r.take k) !=Ir .or .u16 (x*256) z)=(Ug (v::(k:Int)::r.take k) !=256*x+z):=by rw[Eif x z xb.1 xb.2 zb.1 zb.2,Int.mul_comm]
 simp only[HCB];rw[OE,OE,hx,hz] at hf;simp only[Option.getD_some] at hf;replace K0:=EH K0 En;replace HB1:=EV HB1 En;replace HR:=J<|It HR.out En;clear En HCB CS RC LC yx yz xb zb hcr hx hz;generalize EC w1 y9=w2 at*;clear y9 w1;by_cases hq:Ug (v::(k:Int)::r.take k)=256*x+z
 ·rw[if_neg (by simp[hq])] at hf;subst hf;have tq:(Ug (v::(k:Int)::r.take k) !=256*x+z)=EI:=by rw[hq];simp
  have hlen:(r.take k).length=k:=by rw[ar];have:=HN.out;omega
  have RD:Ed (Row w2 (D ⟨b,off+3,Z⟩) (r.take k)):=J EEQ;simp only[tq];go_wp2_with fail;refine(Eh8 (D ⟨b,off+3,Z⟩) (r.take k) k (c-3) _ hlen RD.out U).mono ?_;rintro e w3 ⟨⟨A',c',rfl,ow⟩,b2⟩;have OW:=J<|X8 ow (show w.heap.size<=w2.heap.size from HB1.out.size);replace K0:=EH K0 b2;replace HB1:=EV HB1 b2;clear ow b2 RD;have eS:(3+(k:Int)+2)=((k+5:Nat):Int):=U;rw[eS];obtain⟨tv,E2⟩:=Eo (#[E I 2,E I ((k+5:Nat):Int),E I 0,G A' k c']:Array Y);have TS:Ed (tv.size=4):=J XG;have TO:Ed (tv.all (·.oneCell')=EJ):=J X1;have BS:Ed (Tryz.prog.built 101 [(0,E I 2),(1,E I ((k+5:Nat):Int)),(3,G A' k c')]=D tv):=J mn;replace E2:=J E2;go_wp2_with (first|((with_reducible refine Io 45 ?_);refine I4 rfl 101 _ rfl tv BS.out ?_)|(with_reducible refine wS (cs:=tv) I2 K0 ?_ (hn:=TS.out) (h1:=TO.out)));refine ET (Jd I2 O _ _ w.heap.size tv O (K0.out.setRow tv) TS.out) O ?_;rw[E2.out];exact⟨⟨_,O,⟨A',c',by simp only[j7,hlen],Zh OW.out K0.out _⟩⟩,EY HB1.out (E3 _) _⟩
 ·rw[if_pos hq] at hf;subst hf;have tq:(Ug (v::(k:Int)::r.take k) !=256*x+z)=EJ:=kH;simp only[tq];clear tq hq i3 i4 i5 i2;go_wp2_with fail;refine(FI 12 _).mono ?_;rintro e w3 ⟨rfl,b2⟩;replace K0:=EH K0 b2;replace HB1:=EV HB1 b2;obtain⟨tv,E2⟩:=Eo (#[E I 3,E I 1,E I 12,G Z 0 0]:Array Y);have TS:Ed (tv.size=4):=J XG;have TO:Ed (tv.all (·.oneCell')=EJ):=J X1;rw[<-E2];replace E2:=J E2;go_wp2_with (with_reducible refine wS (cs:=tv) I2 K0 ?_ (hn:=TS.out) (h1:=TO.out));exact EpE
theorem Zi{off:Nat}{xs:List Int}(h:Row W (D ⟨b,off,Z⟩) xs)(i:Nat){Y3:Int}(hi:xs[i]?=D Y3):W.cell? ⟨b,off+i,Z⟩=D (E Ix Y3):=by
 obtain⟨hl,he⟩:=Xx.1 hi;rcases h.1 with h2|⟨b',off',e,h2⟩;·rw[h2] at hl;exact absurd hl Ej
 ·injection e with e;injection e with e1 e2 e3;subst e1 e2;rw[h2 i hl,he]
theorem Eih(b off:Nat)(a:Int)(n c:Nat)(w:M)(hn:([a]).length=n)(hr:Row w (D ⟨b,off,Z⟩) ([a]))(hc:n<=c)(hm:c<=9223372036854775807): Eg EZ 83 #[G (D ⟨b,off,Z⟩) n c] w fun e w'=>(∃Y3,e=Ei Y3/\fE w' w.heap.size (nx ([a])) Y3)/\El w w':=by
 have HR:=J hr;have HN:=J hn;clear hr;obtain⟨f,hf⟩:=Eo (nx ([a]));rw[<-hf];have HF:=J hf;have Jc:=J<|JY w (Eb #[E I 0,E I 0,E I 0,G Z 0 0] 101) (Eb #[E I 0,E I 0,E I 0,G Z 0 0] 101);have K2:Ed (H ((w.alloc (Eb #[E I 0,E I 0,E I 0,G Z 0 0] 101)).alloc (Eb #[E I 0,E I 0,E I 0,G Z 0 0] 101)) w.heap.size #[E I 0,E I 0,E I 0,G Z 0 0] 101):=J<|H.B (H.new w #[E I 0,E I 0,E I 0,G Z 0 0] 101) (Er _ _);have K3:Ed (H ((w.alloc (Eb #[E I 0,E I 0,E I 0,G Z 0 0] 101)).alloc (Eb #[E I 0,E I 0,E I 0,G Z 0 0] 101)) (w.heap.size+1) #[E I 0,E I 0,E I 0,G Z 0 0] 101):=J NZ;have OW:=J<|XL ((w.alloc (Eb #[E I 0,E I 0,E I 0,G Z 0 0] 101)).alloc (Eb #[E I 0,E I 0,E I 0,G Z 0 0] 101)) w.heap.size;have TS:=0;have TO:=0;have Oq:=0;clear hf;obtain rfl:n=1:=hn.symm;go_enter Tryz.func83,Tryz.ntmps83;have c0:((w.alloc (Eb #[E I 0,E I 0,E I 0,G Z 0 0] 101)).alloc (Eb #[E I 0,E I 0,E I 0,G Z 0 0] 101)).cell? ⟨b,off,Z⟩=D (E Ix a):=Zi (It HR.out Jc.out) 0 rfl;by_cases h5:a=165;·have q5:(a !=165)=EI:=yf;replace HF:Ed (f=j8 ([])):=J<|HF.out.trans (by rw[dh,if_neg U]);clear h5;exact Eol
 ·have q5:(a !=165)=EJ:=uf;replace HF:Ed (f=dg (JI ([a]))):=J<|HF.out.trans yg;clear h5;go_wp2_with fail;refine(yd (D ⟨b,off,Z⟩) ([a]) 1 c _ td U (It HR.out Jc.out) U).mono ?_;rintro e W1 ⟨rfl,b2⟩;replace OW:=J<|XM OW.out b2;replace K2:=EH K2 b2;replace K3:=EH K3 b2;replace Jc:=EV Jc b2;clear b2 c0 OW;obtain⟨OF,E2⟩:=Eo (#[E I 1,E I (JI ([a])),E I 0,G Z 0 0]:Array Y);rw[<-E2];have oA:=TS;clear TS TO Oq;have TS:Ed (OF.size=4):=J XG;have TO:Ed (OF.all (·.oneCell')=EJ):=J X1;have Oq:=J E2;clear E2;have OW:=J<|XL W1 w.heap.size;go_wp2_with (with_reducible refine wS (cs:=OF) I2 K3 (Ex.mk ?_) (ho:=oB) (hn:=TS.out) (h1:=TO.out));apply Es;have hne:w.heap.size≠(w.heap.size+1):=U;replace OW:=J<|Zh OW.out K3.out OF;replace Jc:=J<|EY Jc.out (U:w.heap.size<=(w.heap.size+1)) OF;replace K2:=J<|(J9 OF).Ek K2.out hne;replace K3:=J<|K3.out.setRow OF;clear hne;generalize W1.setRow (w.heap.size+1) OF=V1 at*;go_wp2_with (with_reducible first|refine wL I2 K3 ?_ (hn:=TS.out)|refine wS (cs:=OF) I2 K2 ?_ (hn:=TS.out) (h1:=TO.out));refine ET (Jd I2 O _ _ w.heap.size OF O (K2.out.setRow OF) TS.out) O ?_;rw[Oq.out,HF.out];exact Eoa
theorem Eii(b off:Nat)(a v:Int)(n c:Nat)(w:M)(hn:([a,v]).length=n)(hr:Row w (D ⟨b,off,Z⟩) ([a,v]))(hc:n<=c)(hm:c<=9223372036854775807): Eg EZ 83 #[G (D ⟨b,off,Z⟩) n c] w fun e w'=>(∃Y3,e=Ei Y3/\fE w' w.heap.size (nx ([a,v])) Y3)/\El w w':=by
 have HR:=J hr;have HN:=J hn;clear hr;obtain⟨f,hf⟩:=Eo (nx ([a,v]));rw[<-hf];have HF:=J hf;have Jc:=J<|JY w (Eb #[E I 0,E I 0,E I 0,G Z 0 0] 101) (Eb #[E I 0,E I 0,E I 0,G Z 0 0] 101);have K2:Ed (H ((w.alloc (Eb #[E I 0,E I 0,E I 0,G Z 0 0] 101)).alloc (Eb #[E I 0,E I 0,E I 0,G Z 0 0] 101)) w.heap.size #[E I 0,E I 0,E I 0,G Z 0 0] 101):=J<|H.B (H.new w #[E I 0,E I 0,E I 0,G Z 0 0] 101) (Er _ _);have K3:Ed (H ((w.alloc (Eb #[E I 0,E I 0,E I 0,G Z 0 0] 101)).alloc (Eb #[E I 0,E I 0,E I 0,G Z 0 0] 101)) (w.heap.size+1) #[E I 0,E I 0,E I 0,G Z 0 0] 101):=J NZ;have OW:=J<|XL ((w.alloc (Eb #[E I 0,E I 0,E I 0,G Z 0 0] 101)).alloc (Eb #[E I 0,E I 0,E I 0,G Z 0 0] 101)) w.heap.size;have TS:=0;have TO:=0;have Oq:=0;clear hf;obtain rfl:n=2:=hn.symm;go_enter Tryz.func83,Tryz.ntmps83;have c1:((w.alloc (Eb #[E I 0,E I 0,E I 0,G Z 0 0] 101)).alloc (Eb #[E I 0,E I 0,E I 0,G Z 0 0] 101)).cell? ⟨b,off+1,Z⟩=D (E Ix v):=Zi (It HR.out Jc.out) 1 rfl;by_cases h1:v=1
 ·have q1:(v !=1)=EI:=by rw[h1];rfl
  have c0:((w.alloc (Eb #[E I 0,E I 0,E I 0,G Z 0 0] 101)).alloc (Eb #[E I 0,E I 0,E I 0,G Z 0 0] 101)).cell? ⟨b,off,Z⟩=D (E Ix a):=Zi (It HR.out Jc.out) 0 rfl;by_cases h5:a=165;·have q5:(a !=165)=EI:=yf;replace HF:Ed (f=j8 ([v])):=J<|HF.out.trans (by rw[dh,if_neg U]);clear h5;have HF:=J<|HF.out.trans (by rw[j9,if_neg U];rfl:_=ZI);exact Eol
  ·exact Ern
 ·have q1:(v !=1)=EJ:=tA;go_wp2_with fail;refine(FI 10 _).mono ?_;rintro e W1 ⟨rfl,b2⟩;replace OW:=J<|XM OW.out b2;replace K2:=EH K2 b2;replace K3:=EH K3 b2;replace Jc:=EV Jc b2;clear b2 c1 OW;obtain⟨OF,E2⟩:=Eo (#[E I 3,E I 1,E I 10,G Z 0 0]:Array Y);rw[<-E2];have oA:=TS;clear TS TO Oq;have TS:Ed (OF.size=4):=J XG;have TO:Ed (OF.all (·.oneCell')=EJ):=J X1;have Oq:=J E2;clear E2;have OW:=J<|XL W1 w.heap.size;go_wp2_with (with_reducible refine wS (cs:=OF) I2 K3 (Ex.mk ?_) (ho:=oB) (hn:=TS.out) (h1:=TO.out));apply Es;have hne:w.heap.size≠(w.heap.size+1):=U;replace OW:=J<|Zh OW.out K3.out OF;replace Jc:=J<|EY Jc.out (U:w.heap.size<=(w.heap.size+1)) OF;replace K2:=J<|(J9 OF).Ek K2.out hne;replace K3:=J<|K3.out.setRow OF;clear hne;generalize W1.setRow (w.heap.size+1) OF=V1 at*;have c0:V1.cell? ⟨b,off,Z⟩=D (E Ix a):=Zi (It HR.out Jc.out) 0 rfl;by_cases h5:a=165;·have q5:(a !=165)=EI:=yf;clear h5;go_wp2_with (with_reducible first|refine wL I2 K3 ?_ (hn:=TS.out)|refine wS (cs:=OF) I2 K2 ?_ (hn:=TS.out) (h1:=TO.out));refine ET (Jd I2 O _ _ w.heap.size OF O (K2.out.setRow OF) TS.out) O ?_;rw[Oq.out,HF.out,dh,if_neg (by simpa using q5),j9,if_pos h1];exact⟨⟨_,O,_,_,O,Zh OW.out K2.out _⟩,EY Jc.out (E3 _) _⟩
  ·exact Ern
theorem Eij(b off:Nat)(a v:Int)(k:Nat)(r:List Int)(n c:Nat)(w:M)(hn:(a::v::(k:Int)::r).length=n)(hr:Row w (D ⟨b,off,Z⟩) (a::v::(k:Int)::r))(hc:n<=c)(hm:c<=9223372036854775807): Eg EZ 83 #[G (D ⟨b,off,Z⟩) n c] w fun e w'=>(∃Y3,e=Ei Y3/\fE w' w.heap.size (nx (a::v::(k:Int)::r)) Y3)/\El w w':=by
 have HR:=J hr;have HN:=J hn;clear hr;obtain⟨f,hf⟩:=Eo (nx (a::v::(k:Int)::r));rw[<-hf];have HF:=J hf;have Jc:=J<|JY w (Eb #[E I 0,E I 0,E I 0,G Z 0 0] 101) (Eb #[E I 0,E I 0,E I 0,G Z 0 0] 101);have K2:Ed (H ((w.alloc (Eb #[E I 0,E I 0,E I 0,G Z 0 0] 101)).alloc (Eb #[E I 0,E I 0,E I 0,G Z 0 0] 101)) w.heap.size #[E I 0,E I 0,E I 0,G Z 0 0] 101):=J<|H.B (H.new w #[E I 0,E I 0,E I 0,G Z 0 0] 101) (Er _ _);have K3:Ed (H ((w.alloc (Eb #[E I 0,E I 0,E I 0,G Z 0 0] 101)).alloc (Eb #[E I 0,E I 0,E I 0,G Z 0 0] 101)) (w.heap.size+1) #[E I 0,E I 0,E I 0,G Z 0 0] 101):=J NZ;have OW:=J<|XL ((w.alloc (Eb #[E I 0,E I 0,E I 0,G Z 0 0] 101)).alloc (Eb #[E I 0,E I 0,E I 0,G Z 0 0] 101)) w.heap.size;have TS:=0;have TO:=0;have Oq:=0;clear hf;have tm:min (n:Int) 3=3:=by have:3<=n:=(by rw[<-hn];simp);omega
 have Eik:=Jc;go_enter Tryz.func83,Tryz.ntmps83;go_wp2_with fail;refine(Eig b off a v k r n c _ AZ (It HR.out Jc.out) hc hm).mono ?_;rintro e W0 ⟨⟨Y3,rfl,A9,c9,rfl,ow⟩,b2⟩;replace K2:=EH K2 b2;replace K3:=EH K3 b2;replace Jc:=EV Jc b2;replace OW:=J<|X8 ow (show w.heap.size<=_ from Eik.out.size);clear b2 ow;have vZ:(Z6 v k r).b=(Z6 v k r).b:=rfl;obtain⟨Ip,E2⟩:=Eo (#[E I (Z6 v k r).kd,E I (Z6 v k r).sz,E I (Z6 v k r).cd,.slice A9 (Z6 v k r).b.length c9]:Array Y);rw[<-E2];have oA:=TS;clear TS TO Oq;have TS:Ed (Ip.size=4):=J XG;have TO:Ed (Ip.all (·.oneCell')=EJ):=J X1;have Oq:=J E2;clear E2;go_wp2_with (with_reducible refine wS (cs:=Ip) I2 K3 (Ex.mk ?_) (ho:=oB) (hn:=TS.out) (h1:=TO.out));apply Es;have hne:w.heap.size≠(w.heap.size+1):=U;replace OW:=J<|Zh OW.out K3.out Ip;replace Jc:=J<|EY Jc.out (U:w.heap.size<=(w.heap.size+1)) Ip;replace K2:=J<|(J9 Ip).Ek K2.out hne;replace K3:=J<|K3.out.setRow Ip;clear hne;generalize W0.setRow (w.heap.size+1) Ip=V0 at*;have c1:V0.cell? ⟨b,off+1,Z⟩=D (E Ix v):=Zi (It HR.out Jc.out) 1 rfl;by_cases h1:v=1
 ·have q1:(v !=1)=EI:=by rw[h1];rfl
  subst h1;have c0:V0.cell? ⟨b,off,Z⟩=D (E Ix a):=Zi (It HR.out Jc.out) 0 rfl;by_cases h5:a=165;·have q5:(a !=165)=EI:=yf;replace HF:Ed (f=j8 (1::(k:Int)::r)):=J<|HF.out.trans (by rw[dh,if_neg U]);clear h5;go_wp2_with (with_reducible first|refine wL I2 K3 ?_ (hn:=TS.out)|refine wS (cs:=Ip) I2 K2 ?_ (hn:=TS.out) (h1:=TO.out));refine ET (Jd I2 O _ _ w.heap.size Ip O (K2.out.setRow Ip) TS.out) O ?_;rw[Oq.out,HF.out,j9,if_neg Ej];exact Eoa
  ·have q5:(a !=165)=EJ:=uf;replace HF:Ed (f=dg (JI (a::1::(k:Int)::r))):=J<|HF.out.trans yg;clear h5;go_wp2_with fail;refine(yd (D ⟨b,off,Z⟩) (a::1::(k:Int)::r) n c _ td U (It HR.out Jc.out) U).mono ?_;rintro e W2 ⟨rfl,b2⟩;replace OW:=J<|XM OW.out b2;replace K2:=EH K2 b2;replace K3:=EH K3 b2;replace Jc:=EV Jc b2;clear b2 c0 OW;obtain⟨Iy,E2⟩:=Eo (#[E I 1,E I (JI (a::1::(k:Int)::r)),E I 0,G Z 0 0]:Array Y);exact Enk
 ·have q1:(v !=1)=EJ:=tA;go_wp2_with fail;refine(FI 10 _).mono ?_;rintro e W1 ⟨rfl,b2⟩;replace OW:=J<|XM OW.out b2;replace K2:=EH K2 b2;replace K3:=EH K3 b2;replace Jc:=EV Jc b2;clear b2 c1 OW;obtain⟨OF,E2⟩:=Eo (#[E I 3,E I 1,E I 10,G Z 0 0]:Array Y);rw[<-E2];have oA:=TS;clear TS TO Oq;have TS:Ed (OF.size=4):=J XG;have TO:Ed (OF.all (·.oneCell')=EJ):=J X1;have Oq:=J E2;clear E2;have OW:=J<|XL W1 w.heap.size;go_wp2_with (with_reducible refine wS (cs:=OF) I2 K3 (Ex.mk ?_) (ho:=oB) (hn:=TS.out) (h1:=TO.out));apply Es;have hne:w.heap.size≠(w.heap.size+1):=U;replace OW:=J<|Zh OW.out K3.out OF;replace Jc:=J<|EY Jc.out (U:w.heap.size<=(w.heap.size+1)) OF;replace K2:=J<|(J9 OF).Ek K2.out hne;replace K3:=J<|K3.out.setRow OF;clear hne;generalize W1.setRow (w.heap.size+1) OF=V1 at*;have c0:V1.cell? ⟨b,off,Z⟩=D (E Ix a):=Zi (It HR.out Jc.out) 0 rfl;by_cases h5:a=165;·have q5:(a !=165)=EI:=yf;clear h5;go_wp2_with (with_reducible first|refine wL I2 K3 ?_ (hn:=TS.out)|refine wS (cs:=OF) I2 K2 ?_ (hn:=TS.out) (h1:=TO.out));refine ET (Jd I2 O _ _ w.heap.size OF O (K2.out.setRow OF) TS.out) O ?_;rw[Oq.out,HF.out,dh,if_neg (by simpa using q5),j9,if_pos h1];exact⟨⟨_,O,_,_,O,Zh OW.out K2.out _⟩,EY Jc.out (E3 _) _⟩
  ·have q5:(a !=165)=EJ:=uf;replace HF:Ed (f=dg (JI (a::v::(k:Int)::r))):=J<|HF.out.trans yg;clear h5;go_wp2_with fail;refine(yd (D ⟨b,off,Z⟩) (a::v::(k:Int)::r) n c _ td U (It HR.out Jc.out) U).mono ?_;rintro e W2 ⟨rfl,b2⟩;replace OW:=J<|XM OW.out b2;replace K2:=EH K2 b2;replace K3:=EH K3 b2;replace Jc:=EV Jc b2;clear b2 c0 OW;obtain⟨Iy,E2⟩:=Eo (#[E I 1,E I (JI (a::v::(k:Int)::r)),E I 0,G Z 0 0]:Array Y);exact Enk
theorem Nb(A:Option Ep)(c:Nat)(w:M): Eg EZ 83 #[G A 0 c] w fun e w'=>(∃Y3,e=Ei Y3/\fE w' w.heap.size ZI Y3)/\El w w':=by obtain⟨f,hf⟩:=Eo ZI;rw[<-hf];have HF:=J hf;clear hf;go_enter Tryz.func83,Tryz.ntmps83;exact Eol
theorem Eil(A:Option Ep)(xs:List Int)(n c:Nat)(w:M)(hn:xs.length=n)(hr:Row w A xs)(hc:n<=c)(hm:c<=9223372036854775807): Eg EZ 83 #[G A n c] w fun e w'=>(∃Y3,e=Ei Y3/\fE w' w.heap.size (nx xs) Y3)/\El w w':=by
 rcases hr.1 with h|⟨b,off,h,-⟩;·subst h;obtain rfl:n=0:=hn.symm;exact Nb A c w
 ·subst h;match xs,hn,hr with
  |[],hn,hr=>obtain rfl:n=0:=hn.symm;exact Nb _ c w
  |[a],hn,hr=>exact Eih b off a n c w hn hr hc hm
  |[a,v],hn,hr=>exact Eii b off a v n c w hn hr hc hm
  |a::v::k::r,hn,hr=> have hk:=hr.2 k Ej;obtain⟨k,rfl⟩:=fm hk.1;exact Eij b off a v k r n c w hn hr hc hm
def Ou(W:M)(base:Nat):List (Int×List Int)->List Y->Prop
 |[],vs=>vs=[]
 |x::r,vs=> ∃(A:Option Ep) (c:Nat) (vs':List Y),vs=E I x.1:: .slice A x.2.length c::vs'/\Own W base A c x.2/\Ou W base r vs'
theorem Ou.keep{W W':M}{base:Nat}: ∀{its:List (Int×List Int)} {vs:List Y},Ou W base its vs->(∀g cs,H W g cs 5->H W' g cs 5)->Ou W' base its vs
 |[],_,h,_=>h
 |x::r,_,⟨A,c,vs',e,o,t⟩,hb=>⟨A,c,vs',e,⟨EG o.1 hb,o.2⟩,Ou.keep t hb⟩
theorem yh{W:M}{base:Nat}{cd:Int}{b:List Int}{A:Option Ep}{c:Nat}: ∀{its:List (Int×List Int)} {vs:List Y},Ou W base its vs->Own W base A c b->Ou W base (its++[(cd,b)]) (vs++[E I cd,G A b.length c])
 |[],vs,h,ho=>by rw[show vs=[] from h];exact⟨A,c,[],O,ho,O⟩
 |x::r,_,⟨A',c',vs',e,o,t⟩,ho=>⟨A',c',_,xQ,o,yh t ho⟩
theorem Ou.get{W:M}{base:Nat}: ∀{its:List (Int×List Int)} {vs:List Y} {j:Nat} {x:Int×List Int},Ou W base its vs->its[j]?=D x-> ∃(A:Option Ep) (c:Nat),vs[j*2]?=D (E I x.1)/\vs[j*2+1]?=D (.slice A x.2.length c)/\Own W base A c x.2
 |[],_,j,x,_,hx=>uB
 |y::r,_,0,x,⟨A,c,vs',e,o,t⟩,hx=>by
  obtain rfl:y=x:=by simpa using hx
  exact⟨A,c,xQ,xQ,o⟩
 |y::r,_,j+1,x,⟨A,c,vs',e,o,t⟩,hx=>by
  obtain⟨A',c',h1,h2,h3⟩:=Ou.get t (show r[j]?=D x by simpa using hx);refine⟨A',c',?_,?_,h3⟩;·rw[e,show(j+1)*2=j*2+1+1 from U];simpa using h1
  ·rw[e,show(j+1)*2+1=j*2+1+1+1 from U];simpa using h2
theorem aj{c:Nat}{xs:List Int}(h:Own W base A c xs)(hb: ∀g cs,H W g cs 5->H W' g cs 5):Own W' base A c xs:=⟨EG h.1 hb,h.2⟩
theorem EER:Od EZ 101 #[E I 0,E I 0,E I 0,G Z 0 0]:=by exact En5
theorem EES: ∃i,Tryz.prog.info? 74=D i/\i.zero=D (Ea #[E I 0,G Z 0 0])/\i.size=2/\i.bytes=32:=by have h:(Tryz.prog.info? 74).map (fun i=>(i.zero,i.size,i.bytes))=D (D (Ea #[E I 0,G Z 0 0]),2,32):=Ef;exact EoA
def lenOf(v:Y):Nat:=match v with
 |G _ n _=>n
 |_=>0
def At(xs:List Int)(k:Nat)(its:List (Int×List Int)):Prop:= ∀i r,JR (xs.drop k) i r->JR xs (its++i) r
theorem At.zero(xs:List Int):At xs 0 []:=fun i r h=>Ov
theorem At.step{xs:List Int}{its:List (Int×List Int)}(h:At xs k its)(h0:(nx (xs.drop k)).kd≠0):At xs (k+(nx (xs.drop k)).sz) (its++(nx (xs.drop k)).item):=fun i r t=>by rw[U7];exact h _ _ (.step h0 (by rw[List.drop_drop];exact t))
theorem EET{xs:List Int}(hb:Og xs):(nx xs).kd=0\/(nx xs).kd=1\/(nx xs).kd=2\/(nx xs).kd=3:=by
 cases xM xs hb with
 |wait e=>rw[e];exact .inl O
 |ox c e hc hl=>rw[e];exact .inr (.inr (.inr O))
 |skip e h1=>rw[e];exact .inr (.inl O)
 |frame n e hl hn=>rw[e];exact .inr (.inr (.inl O))
theorem all_some(b off:Nat)(xs:List Int)(n c:Nat)(w:M)(hn:xs.length=n)(hr:Row w (D ⟨b,off,Z⟩) xs)(hc:n<=c)(hm:c<=9223372036854775807)(hs:n<=1000000): Eg EZ 69 #[G (D ⟨b,off,Z⟩) n c] w fun e w'=>(∃(its:List (Int×List Int)) (r:List Int) (v:Y) (vals:List Y),e=Ei (Eu #[v,E I r.length])/\JR xs its r/\w'.ownsRow w.heap.size 74 2 v its.length vals/\Ou w' w.heap.size its vals)/\El w w':=by
 have HR:=J hr;have HN:=J hn;have II:=J EES;have ma:Ed (Og xs):=J hr.2;clear hr hn;go_enter Tryz.func69,Tryz.ntmps69;(iterate 2 go_wp2_with fail;go_step3);go_wp2_with fail;go_loopw[0,4] (fun x y wr=> ∃(k i o2:Nat) (its:List (Int×List Int)) (A2:Option Ep) (c2:Nat) (vals:List Y),k<=n/\i<=k/\x=G (D ⟨b,o2,Z⟩) (n-k) (c-k)/\(k<n->o2=off+k)/\y=G A2 i c2/\its.length=i/\At xs k its/\wr.ownsRow w.heap.size 74 2 (G A2 i c2) i vals/\Ou wr w.heap.size its vals/\El w wr) (fun x _ _=>lenOf x);case atStart=>exact⟨0,0,off,[],Z,0,[],U,U,O,fun _=>rfl,O,O,At.zero _,cu _ _ _ _,O,IU _ _⟩
 case round=>
  obtain⟨k,i,o2,its,A2,c2,vals,hk,hik,rfl,ho2,rfl,nK,hat,oi,iv,bb⟩:=hrel;have OI:=J oi;have IV:=J iv;have u:=J bb;have dI:=J nK;have HAT:=J hat;clear oi iv bb nK hat
  have RD:Ed (Row wr (D ⟨b,o2,Z⟩) (xs.drop k)):=J (by
   by_cases hkn:k<n;·rw[ho2 hkn];exact lf (It HR.out u.out) k
   ·rw[pT sy];exact mQ _ _)
  have HL:Ed ((xs.drop k).length=n-k):=J (by rw[il,HN.out]);go_wp2_with fail;refine(Eil (D ⟨b,o2,Z⟩) (xs.drop k) (n-k) (c-k) _ HL.out RD.out U U).mono ?_;rintro e w1 ⟨⟨Y3,rfl,A9,c9,rfl,ow⟩,b2⟩;have OW:=J<|X8 ow (show w.heap.size<=wr.heap.size from u.out.size);replace OI:=J<|EG OI.out fun _ _ h=>H.B h b2;replace IV:=J<|IV.out.keep fun _ _ h=>H.B h b2;replace u:=EV u b2;clear ow b2 RD;have ug:=J<|EET (ma.out.dr k);have oC:Ed ((nx (xs.drop k)).kd≠0->1<=(nx (xs.drop k)).sz/\(nx (xs.drop k)).sz<=n-k):=J (fun h=>by have:=xN (ma.out.dr k) h;rw[HL.out] at this;exact this);have HST:=J<|fun h=>HAT.out.step h;have HIT:Ed ((nx (xs.drop k)).item=if(nx (xs.drop k)).kd=2 then [(0,(nx (xs.drop k)).b)] else if(nx (xs.drop k)).kd=3 then [((nx (xs.drop k)).cd,[])] else []):=J O;have HW:Ed ((nx (xs.drop k)).kd=0->JR (xs.drop k) [] (xs.drop k)):=J<|fun h=> .wait h;obtain⟨f,hf⟩:=Eo (nx (xs.drop k));rw[<-hf] at ug oC HST HIT HW OW⊢;clear hf;obtain⟨kd,sz,cd,bd⟩:=f;simp only at ug oC HST HIT HW OW⊢;obtain⟨tv,E2⟩:=Eo (#[E I kd,E I sz,E I cd,G A9 bd.length c9]:Array Y);rw[<-E2];have TS:Ed (tv.size=4):=J XG;have TO:Ed (tv.all (·.oneCell')=EJ):=J X1;replace E2:=J E2;have K0:=J<|H.new w1 #[E I 0,E I 0,E I 0,G Z 0 0] 101;have b2:=Er w1 (Eb #[E I 0,E I 0,E I 0,G Z 0 0] 101);go_wp2_with (with_reducible first|refine wA EER ?_|refine wS (cs:=tv) I2 K0 (Ex.mk ?_) (hn:=TS.out) (h1:=TO.out));apply Es;obtain⟨gx,hgx⟩:=Eo w1.heap.size;rw[<-hgx] at K0⊢;generalize w1.alloc (Eb #[E I 0,E I 0,E I 0,G Z 0 0] 101)=UH at*;have KF:=J<|K0.out.setRow tv;have b3:=EY (g:=gx) b2 (OC hgx.symm) tv;generalize UH.setRow gx tv=wf at*;clear K0 b2 hgx;replace OI:=J<|EG OI.out fun _ _ h=>H.B h b3;replace IV:=J<|IV.out.keep fun _ _ h=>H.B h b3;replace OW:=J<|XM OW.out b3;replace u:=EV u b3;clear b3;have rp:wf.cell? ⟨gx,0,Z⟩=D (E I kd):=(H.cell KF.out 0).trans uh;have mo:wf.cell? ⟨gx,1,Z⟩=D (E I sz):=(H.cell KF.out 1).trans uh;have yi:wf.cell? ⟨gx,2,Z⟩=D (E I cd):=(H.cell KF.out 2).trans uh;have yj:wf.cell? ⟨gx,3,Z⟩=D (G A9 bd.length c9):=(H.cell KF.out 3).trans uh;clear TS TO;by_cases h0:kd=0;·have HP:=J<|HAT.out _ _ (HW.out h0);subst h0;go_wp2;go_ret2;refine⟨⟨its,xs.drop k,_,vals,by rw[HL.out];rfl,?_,by rw[dI.out];exact OI.out,IV.out⟩,u.out⟩;have:=HP.out;rwa [dy] at this
  ·have hsz:=oC.out h0;have e0:(kd==0)=EI:=rX;replace HAT:=J<|HST.out h0;rw[HIT.out] at HAT;clear HST HW oC;by_cases h2:kd=2
   ·subst h2;simp only[if_pos] at HAT;go_wp2_with (with_reducible refine JE 19 ?_);apply Es;have KI:=J<|H.new wf #[E I 0,G A9 bd.length c9] 74;have b4:=J<|Er wf (Eb #[E I 0,G A9 bd.length c9] 74);replace u:=EV u b4.out;replace OI:=J<|EG OI.out fun _ _ h=>H.B h b4.out;replace IV:=J<|IV.out.keep fun _ _ h=>H.B h b4.out;replace OW:=J<|XM OW.out b4.out;replace KF:=EH KF b4.out;clear rp mo yi yj;clear b4;generalize wf.alloc (Eb #[E I 0,G A9 bd.length c9] 74)=aP at*;generalize wf.heap.size=gb at*;obtain⟨qA,qc,qw,O4,U0,Js,-,-⟩:=aw (P:=EZ) aP w.heap.size w.heap.size 70 70 74 II.out.choose _ 2 32 Tryz.underlying70 II.out.choose_spec.1 II.out.choose_spec.2.1 II.out.choose_spec.2.2.1 II.out.choose_spec.2.2.2 rfl A2 c2 i vals OI.out ⟨gb,0,Z⟩ 1 1 [E I 0,G A9 bd.length c9] O (fun j Y3 hu=>by rw[show(⟨gb,0,Z⟩:Ep).add j=⟨gb,j,Z⟩ from U3];rw[H.cell KI.out,J2];exact hu) bB (fun _=>U) J8 U u.out.size (E3 _);go_wp2_with ((with_reducible refine Io 19 ?_);(refine Jo (Eh O) (Ol O O O O4) ?_);refine Ex.mk ?_);apply Es;replace OI:=J U0;replace IV:=J<|yh (cd:=0) (b:=bd) (IV.out.keep fun _ _ h=>Uw Js h EU) (aj OW.out fun _ _ h=>Uw Js h EU);replace KF:=J<|Uw Js KF.out EU;replace u:=J<|u.out.trans (Js.2.1 u.out.size);clear U0 Js O4 KI;have mo:qw.cell? ⟨gx,1,Z⟩=D (E I sz):=(H.cell KF.out 1).trans uh;go_wp2_with fail;have HO:=ho2 U;subst HO;clear ho2;refine⟨⟨k+sz,i+1,if c-k=sz then off+k else off+(k+sz),its++[(0,bd)],qA,qc,_,U,U,?_,fun h=>if_neg U,O,?_,HAT.out,OI.out,IV.out,u.out⟩,?_⟩;·split<;>simp only[Nat.sub_sub,jx]
    ·rw[IY,dI.out];rfl
    ·simp only[lenOf];omega
   ·by_cases h3:kd=3
    ·subst h3;simp only[if_pos,if_neg (show¬((3:Int)=2) from EU)] at HAT;go_wp2_with (with_reducible refine JE 27 ?_);apply Es;have KI:=J<|H.new wf #[E I cd,G Z 0 0] 74;have b4:=J<|Er wf (Eb #[E I cd,G Z 0 0] 74);replace u:=EV u b4.out;replace OI:=J<|EG OI.out fun _ _ h=>H.B h b4.out;replace IV:=J<|IV.out.keep fun _ _ h=>H.B h b4.out;replace KF:=EH KF b4.out;clear rp mo yi yj;clear b4;generalize wf.alloc (Eb #[E I cd,G Z 0 0] 74)=aP at*;generalize wf.heap.size=gb at*;obtain⟨qA,qc,qw,O4,U0,Js,-,-⟩:=aw (P:=EZ) aP w.heap.size w.heap.size 70 70 74 II.out.choose _ 2 32 Tryz.underlying70 II.out.choose_spec.1 II.out.choose_spec.2.1 II.out.choose_spec.2.2.1 II.out.choose_spec.2.2.2 rfl A2 c2 i vals OI.out ⟨gb,0,Z⟩ 1 1 [E I cd,G Z 0 0] O (fun j Y3 hu=>by rw[show(⟨gb,0,Z⟩:Ep).add j=⟨gb,j,Z⟩ from U3];rw[H.cell KI.out,J2];exact hu) bB (fun _=>U) J8 U u.out.size (E3 _);go_wp2_with ((with_reducible refine Io 27 ?_);(refine Jo (Eh O) (Ol O O O O4) ?_);refine Ex.mk ?_);apply Es;replace OI:=J U0;replace IV:=J<|yh (cd:=cd) (b:=[]) (IV.out.keep fun _ _ h=>Uw Js h EU) (XL _ _);replace KF:=J<|Uw Js KF.out EU;replace u:=J<|u.out.trans (Js.2.1 u.out.size);clear U0 Js O4 KI;have mo:qw.cell? ⟨gx,1,Z⟩=D (E I sz):=(H.cell KF.out 1).trans uh;go_wp2_with fail;have HO:=ho2 U;subst HO;clear ho2;refine⟨⟨k+sz,i+1,if c-k=sz then off+k else off+(k+sz),its++[(cd,[])],qA,qc,_,U,U,?_,fun h=>if_neg U,O,?_,HAT.out,OI.out,IV.out,u.out⟩,?_⟩;·split<;>simp only[Nat.sub_sub,jx]
     ·rw[IY,dI.out];rfl
     ·simp only[lenOf];omega
    ·have e1:kd=1:=by have:=ug.out;omega
     subst e1;simp only[if_neg (show¬((1:Int)=2) from EU),if_neg (show¬((1:Int)=3) from EU),dy] at HAT;go_wp2_with fail;have HO:=ho2 U;subst HO;clear ho2;refine⟨⟨k+sz,i,if c-k=sz then off+k else off+(k+sz),its,A2,c2,vals,U,U,?_,fun h=>if_neg U,O,dI.out,HAT.out,OI.out,IV.out,u.out⟩,?_⟩;·split<;>simp only[Nat.sub_sub,jx]
     ·simp only[lenOf];omega
theorem all_nil(A:Option Ep)(c:Nat)(w:M)(hm:c<=9223372036854775807): Eg EZ 69 #[G A 0 c] w fun e w'=>e=Ei (Eu #[G Z 0 0,E I 0])/\El w w':=by
 go_enter Tryz.func69,Tryz.ntmps69;(iterate 2 go_wp2_with fail;go_step3);go_wp2_with fail;go_loopw[0,4] (fun x y wr=>x=G A 0 c/\y=G Z 0 0/\w=wr) (fun x _ _=>lenOf x);case atStart=>exact⟨O,O,O⟩
 case round=> obtain⟨rfl,rfl,rfl⟩:=hrel;go_wp2_with fail;refine(Nb A c _).mono ?_;rintro e w1 ⟨⟨Y3,rfl,A9,c9,rfl,ow⟩,b2⟩;have u:=J b2;clear ow b2;simp only[ZI,jP,Int.natCast_zero,Int.ofNat_zero,show((0:Nat):Int)=0 from rfl];go_wp2_with fail;simp only[Exit.noGoto_ret];go_ret2;exact⟨O,bt u.out (Er _ _)⟩
theorem Eim(A:Option Ep)(xs:List Int)(n c:Nat)(w:M)(hn:xs.length=n)(hr:Row w A xs)(hc:n<=c)(hm:c<=9223372036854775807)(hs:n<=1000000): Eg EZ 69 #[G A n c] w fun e w'=>(∃(its:List (Int×List Int)) (r:List Int) (v:Y) (vals:List Y),e=Ei (Eu #[v,E I r.length])/\JR xs its r/\w'.ownsRow w.heap.size 74 2 v its.length vals/\Ou w' w.heap.size its vals)/\El w w':=by
 rcases hr.1 with h|⟨b,off,h,-⟩;·subst h;obtain rfl:n=0:=hn.symm;refine(all_nil A c w hm).mono ?_;rintro e w' ⟨rfl,hb⟩;exact⟨⟨[],[],_,[],O,.wait O,cu _ _ _ _,O⟩,hb⟩
 ·subst h;exact all_some b off xs n c w hn hr hc hm hs
theorem Nc{c:Nat}{xs:List Int}(h:Own W base A c xs)(K:H W gs z 122)(i:Nat)(v:Y):Own (W.setCell ⟨gs,i,Z⟩ v) base A c xs:=
 aj h fun _ _ hk=>(JS (g:=gs) i v).Ek hk (E6 hk K EU)
theorem yk{c:Nat}{xs:List Int}(h:Own W base A c xs):xs.length<=c/\c<=9223372036854775807:=by
 rcases h.1.2 with⟨hv,hn⟩|⟨g,cap',cur,hv,hg,hh,hl,hm,hs,ht⟩;·injection hv with h1 h2 h3;subst h3;exact⟨U,U⟩
 ·injection hv with h1 h2 h3;unfold maxLen at hm;exact⟨U,U⟩
theorem Ein{c:Nat}{xs:List Int}(h:Own W base A c xs):(∃g,A=D ⟨g,0,Z⟩)\/(A=Z/\c=0):=by
 rcases h.1.2 with⟨hv,hn⟩|⟨g,cap',cur,hv,hg,hh,hl,hm,hs,ht⟩;·injection hv with h1 h2 h3;exact .inr ⟨h1,h3⟩
 ·injection hv with h1 h2 h3;exact .inl ⟨g,h1⟩
theorem Nd{w:M}(h:Ij b w w')(hk: ∀k,k<w.heap.size->w'.heap[k]?=w.heap[k]?):El w w':=⟨h.os,h.tape,h.output,h.size,hk⟩
theorem mq{b':Nat}{xs:List Y}(h:W.ownsRow b T size v n xs)(hb:b'<=b):W.ownsRow b' T size v n xs:=by
 obtain⟨h1,h2|⟨gg,cap,cur,hv,hg,r⟩⟩:=h;·exact⟨h1,.inl h2⟩
 ·exact⟨h1,.inr ⟨gg,cap,cur,hv,Ew hb hg,r⟩⟩
theorem Ou.mono{W:M}{b b':Nat}: ∀{its:List (Int×List Int)} {vs:List Y},Ou W b its vs->b'<=b->Ou W b' its vs
 |[],_,h,_=>h
 |x::r,_,⟨A,c,vs',e,o,t⟩,hb=>⟨A,c,vs',e,X8 o hb,Ou.mono t hb⟩
theorem Eio{xs i r}(h:JR xs i r): ∃k,r=xs.drop k/\k+r.length=xs.length:=by
 obtain⟨k,e⟩:=h.left;refine⟨min k xs.length,?_,?_⟩
 ·by_cases hk:k<=xs.length;·rw[Nat.min_eq_left hk];exact e
  ·rw[Nat.min_eq_right U,e,pT U,pT (E3 _)]
 ·rw[e,il];omega
def Eip(gs lo:Nat)(rest xs:List Int)(w:M)(e:Ud)(w':M):Prop:=
 ∃(its:List (Int×List Int)) (r:List Int) (v:Y) (vals:List Y) (A:Option Ep) (c:Nat) (w2:M),e=Ei v/\JR (rest++xs) its r/\w'.ownsRow w.heap.size 74 2 v its.length vals/\Ou w' w.heap.size its vals/\El w w2/\w'=w2.setCell ⟨gs,0,Z⟩ (G A r.length c)/\Own w' w.heap.size A c r
theorem Eiq(gs lo:Nat)(A0:Option Ep)(c0 m:Nat)(rest:List Int)(A:Option Ep)(n c:Nat)(xs:List Int)(w:M)(ks:H w gs #[G A0 m c0] 122)(own:Own w lo A0 c0 rest)(hm:rest.length=m)(hr:Row w A xs)(hn:xs.length=n)(hl:lo<=gs)(h1:m<=100000)(h2:n<=100000): Eg EZ 48 #[V (D ⟨gs,0,Z⟩),G A n c] w (Eip gs lo rest xs w):=by
 have KS:=J ks;have OR:=J own;have HR:=J hr;have HN:=J hn;have HM:=J hm;have u:=J<|IU w.heap.size w;clear ks own hr hn hm;have hmk: ∀W:M,(Instr.makeSlice 23 (E I 0) (E I ((m:Int)+(n:Int)))).run EZ W= .ok (G (D ⟨W.heap.size,0,Z⟩) 0 (m+n)) (W.alloc (Eb (bZ #[E .u8 0] (m+n)) 5)):=Vs _ _ U U;have cs0:w.cell? ⟨gs,0,Z⟩=D (G A0 m c0):=(H.cell KS.out 0).trans O;have b1:=Er w (Eb (bZ #[E .u8 0] (m+n)) 5);have cs1:(w.alloc (Eb (bZ #[E .u8 0] (m+n)) 5)).cell? ⟨gs,0,Z⟩=D (G A0 m c0):=(H.cell (H.B KS.out b1) 0).trans O;have O1:=J<|Vt w w.heap.size (m+n) (E3 _) U;go_enter Tryz.func48,Tryz.ntmps48;go_wp2_with (with_reducible refine JE 22 ?_);apply Es;clear cs0 cs1 hmk;replace u:=EV u b1;clear b1;generalize w.alloc (Eb (bZ #[E .u8 0] (m+n)) 5)=w1 at*;go_wp2_with ((with_reducible refine Io 22 ?_);(with_reducible refine nr _ (Eh O) (.tmp 17) (.tmp 21) O w.heap.size (D ⟨w.heap.size,0,Z⟩) (m+n) 0 [] O ?_ O1.out A0 c0 m rest HM.out ?_ (It OR.out.row u.out) U u.out.size ?_);(·rfl);(·rfl);intro A2 c2 w2 o2 b2 k2;refine Ex.mk ?_);apply Es;replace u:=J<|u.out.trans b2;replace O1:=J o2;clear o2 b2 k2;rw[ZZ] at O1;go_wp2_with ((with_reducible refine Io 25 ?_);(with_reducible refine nr _ (Eh O) (.tmp 23) (.tmp 24) O w.heap.size A2 c2 m rest HM.out ?_ O1.out A c n xs HN.out ?_ (It HR.out u.out) U u.out.size ?_);(·rfl);(·rfl);intro A3 c3 w3 o3 b3 k3;refine Ex.mk ?_);apply Es;replace u:=J<|u.out.trans b3;replace O1:=J o3;clear o3 b3 k3;have yl:Ed ((rest++xs).length=m+n):=J (by rw[IY,HM.out,HN.out]);obtain⟨N,hN⟩:=Eo (m+n);rw[<-hN] at yl;have hN2:N<=200000:=U;have Nf:=J<|yk O1.out;go_wp2_with fail;rw[<-hN];refine(Eim A3 (rest++xs) N c3 _ yl.out O1.out.row (by have:=Nf.out.1;have:=yl.out;omega) Nf.out.2 U).mono ?_;rintro e w4 ⟨⟨its,r,v,vals,rfl,hp,hv,hi⟩,b4⟩;have HP:=J hp;have BV:=J<|show w.heap.size<=w3.heap.size from u.out.size;have HV:=J<|mq hv BV.out;have HI:=J<|Ou.mono hi BV.out;replace O1:=J<|XM O1.out b4;replace u:=EV u b4;clear hp hv hi b4 BV;have HL:=J<|Eio HP.out;obtain⟨k,hk,hkl⟩:=HL.out;obtain⟨rl,hrl⟩:=Eo r.length;rw[<-hrl] at hkl⊢;have rq:=J hrl;have HK:=J hk;have hkN:k+rl=N:=by rw[<-yl.out];exact hkl
 have hsub:(N:Int)-(rl:Int)=(k:Int):=U;clear hrl hk hkl HL hN;have cs0:w4.cell? ⟨gs,0,Z⟩=D (G A0 m c0):=(H.cell (H.B KS.out u.out) 0).trans O;have ui:w4.frozen? ⟨gs,0,Z⟩=EI:=H.JZ (H.B KS.out u.out) 0;have hcp:=Nf.out.1;rw[yl.out] at hcp;obtain⟨g3,hA3⟩|⟨hA3,hc3⟩:=Ein O1.out
 ·subst hA3;have RK:Ed (Row w4 (D ⟨g3,k,Z⟩) r):=J (by have:=lf O1.out.row k;rw[Ox] at this;rw[HK.out];exact this);by_cases hck:c3=k
  ·have e2:N-k=rl:=U;have hr0:rl=0:=U;have RN:Ed (Row w4 (D ⟨g3,0,Z⟩) r):=J (by have e:r=[]:=ZP (by rw[<-rq.out];exact hr0);rw[e];exact mQ _ _);clear hr0;go_wp2_with ((with_reducible refine Io 38 ?_);(with_reducible refine nr _ (Eh O) (.const (G Z 0 0)) (.tmp 37) O w.heap.size Z 0 0 [] O ?_ (XL _ _) (D ⟨g3,0,Z⟩) 0 rl r rq.out.symm ?_ RN.out U u.out.size ?_);(·rfl);(·rfl);intro A6 c6 w6 o6 b6 k6;refine Ex.mk ?_);apply Es;have b7:=Nd b6 (fun k hk=>(k6 k hk (fun b h=>UL)).1);rw[ZZ] at o6;have O6:=J o6;replace HV:=J<|EG HV.out fun _ _ h=>H.B h b7;replace HI:=J<|Ou.keep HI.out fun _ _ h=>H.B h b7;replace u:=J<|u.out.trans b6;clear o6 b6 k6 b7 cs0 ui;have aT:=EH KS u.out;have cs0:w6.cell? ⟨gs,0,Z⟩=D (G A0 m c0):=(H.cell aT.out 0).trans O;have ui:w6.frozen? ⟨gs,0,Z⟩=EI:=H.JZ aT.out 0;go_wp2;go_ret;refine⟨its,r,v,vals,A6,c6,w6,O,HP.out,?_,?_,u.out,FJ,Nc O6.out aT.out _ _⟩;·exact EG HV.out fun _ _ h=>(JS (g:=gs) 0 _).Ek h (E6 h aT.out EU)
   ·exact Epd
  ·have e2:N-k=rl:=U;go_wp2_with ((with_reducible refine Io 38 ?_);(with_reducible refine nr _ (Eh O) (.const (G Z 0 0)) (.tmp 37) O w.heap.size Z 0 0 [] O ?_ (XL _ _) (D ⟨g3,k,Z⟩) (c3-k) rl r rq.out.symm ?_ RK.out U u.out.size ?_);(·rfl);(·rfl);intro A6 c6 w6 o6 b6 k6;refine Ex.mk ?_);apply Es;have b7:=Nd b6 (fun k hk=>(k6 k hk (fun b h=>UL)).1);rw[ZZ] at o6;have O6:=J o6;replace HV:=J<|EG HV.out fun _ _ h=>H.B h b7;replace HI:=J<|Ou.keep HI.out fun _ _ h=>H.B h b7;replace u:=J<|u.out.trans b6;clear o6 b6 k6 b7 cs0 ui;have aT:=EH KS u.out;have cs0:w6.cell? ⟨gs,0,Z⟩=D (G A0 m c0):=(H.cell aT.out 0).trans O;have ui:w6.frozen? ⟨gs,0,Z⟩=EI:=H.JZ aT.out 0;go_wp2;go_ret;refine⟨its,r,v,vals,A6,c6,w6,O,HP.out,?_,?_,u.out,FJ,Nc O6.out aT.out _ _⟩;·exact EG HV.out fun _ _ h=>(JS (g:=gs) 0 _).Ek h (E6 h aT.out EU)
   ·exact Epd
 ·subst hA3 hc3;have hN0:N=0:=U;have hk0:k=0:=U;have hr0:rl=0:=U;subst hk0 hr0;have RN:Ed (Row w4 Z r):=J (by have e:r=[]:=ZP FJ;rw[e];exact mQ _ _);go_wp2_with ((with_reducible refine Io 38 ?_);(with_reducible refine nr _ (Eh O) (.const (G Z 0 0)) (.tmp 37) O w.heap.size Z 0 0 [] O ?_ (XL _ _) Z 0 0 r rq.out.symm ?_ RN.out U u.out.size ?_);(·rfl);(·rfl);intro A6 c6 w6 o6 b6 k6;refine Ex.mk ?_);apply Es;have b7:=Nd b6 (fun k hk=>(k6 k hk (fun b h=>UL)).1);rw[ZZ] at o6;have O6:=J o6;replace HV:=J<|EG HV.out fun _ _ h=>H.B h b7;replace HI:=J<|Ou.keep HI.out fun _ _ h=>H.B h b7;replace u:=J<|u.out.trans b6;clear o6 b6 k6 b7 cs0 ui;have aT:=EH KS u.out;have cs0:w6.cell? ⟨gs,0,Z⟩=D (G A0 m c0):=(H.cell aT.out 0).trans O;have ui:w6.frozen? ⟨gs,0,Z⟩=EI:=H.JZ aT.out 0;go_wp2;go_ret;refine⟨its,r,v,vals,A6,c6,w6,O,HP.out,?_,?_,u.out,FJ,Nc O6.out aT.out _ _⟩;·exact EG HV.out fun _ _ h=>(JS (g:=gs) 0 _).Ek h (E6 h aT.out EU)
  ·exact Epd
theorem Eir(w:M):Eg EZ 24 #[] w fun e w'=>e=Ei (V (D ⟨w.heap.size,0,Z⟩))/\w'=w.alloc (Eb #[G Z 0 0] 122):=by go_enter Tryz.func24,Tryz.ntmps24;exact Enu
section
variable{P:Program}{w:World}
theorem FU(base b2:Nat)(t ty e:EB)(i:TypeInfo)(z:Y)(size bytes:Nat)(ht:P.underlying t=D (.slice e))(hi:P.info? e=D i)(hz:i.zero=D z)(hsize:i.size=size)(hby:i.bytes=bytes)(hzs:z.cells.size=size)(hsz:0<size) (v:Y) (n:Nat) (xs:List Y) (hown:w.ownsRow base e size v n xs) (Y3:Y) (m:Nat) (ys:List Y) (hu:w.ownsRow b2 e size Y3 m ys) (h1: ∀y∈ys,y.oneCell'=EJ) (h63:n+m<=maxLen) (hbytes:(n+m)*bytes<=140737488355328) (hbase:base<=w.heap.size): ∃A' c' w',(ZX #[t,t] ty #[v,Y3]).run P w= .ok (G A' (n+m) c') w'/\w'.ownsRow base e size (G A' (n+m) c') (n+m) (xs++ys)/\w.grownBy w' v.ownBlock:=by
 have fin: ∀v' w',(ZX #[t,t] ty #[v,Y3]).run P w= .ok v' w'->w'.ownsRow base e size v' (n+m) (xs++ys)->w.grownBy w' v.ownBlock-> ∃A' c' w',(ZX #[t,t] ty #[v,Y3]).run P w= .ok (G A' (n+m) c') w'/\w'.ownsRow base e size (G A' (n+m) c') (n+m) (xs++ys)/\w.grownBy w' v.ownBlock:=fun v' w' a b c=>by
  rcases b.2 with⟨rfl,h0⟩|⟨g,cap,cur,rfl,_⟩;·refine⟨Z,0,w',by rw[a,h0],?_,c⟩;rw[h0] at b⊢;exact b
  ·exact⟨_,_,w',a,b,c⟩
 rcases hu.2 with⟨rfl,h0⟩|⟨g,cap,cur,rfl,-⟩;·have hy:ys=[]:=ZP (by rw[hu.1,h0,Nat.zero_mul]);subst hy;subst h0;refine fin v w (run_append_owned_none w base t ty e i size ht hi v n xs hown) GT ⟨O,O,O,E3 _,fun _ _ _=>rfl⟩
 ·obtain⟨v',w',h2,h3,h4,-⟩:=run_append_own_at (P:=P) (w:=w) base t ty e i z size bytes ht hi hz hsize hby hzs hsz v n xs hown ⟨g,0,Z⟩ m cap ys hu.1 (hu.cells (g:=g) O) h1 h63 hbytes hbase;exact fin v' w' h2 h3 h4
end
theorem ry{w:M}{e:EB}{xs:List Y}(hown:w.ownsRow base e size v n xs)(hg:w.grownBy w' v.ownBlock){c:Array Y}(h:H w k c S)(hS:S≠e):H w' k c S:=by
 refine(hg.block k h.lt fun e2=> ?_).trans h;rcases hown.2 with⟨rfl,-⟩|⟨g,cap,cur,rfl,-,hb,-⟩;·simp[np] at e2
 ·have:k=g:=Ng;subst this;have hb2:w.heap[k]?=D (Eb c S (0,0)):=h;rw[hb] at hb2;injection hb2 with hb2;injection hb2 with _ h2 _;exact hS h2.symm
theorem Nh{w:M}{e:EB}{xs:List Y}(hown:w.ownsRow base e size v n xs)(hg:w.grownBy w' v.ownBlock)(hb:base<=w.heap.size):Ij base w w':=by
 refine⟨hg.os,hg.tape,hg.output,hg.size,fun k hk=>hg.block k U fun e2=> ?_⟩;rcases hown.2 with⟨rfl,-⟩|⟨g,cap,cur,rfl,hl,-,-⟩;·simp[np] at e2
 ·have:k=g:=Ng;omega
theorem EEV{w:M}{e:EB}{xs:List Y}(hown:w.ownsRow base e size v n xs)(hg:w.grownBy w' v.ownBlock){o:Obj}(h:w.heap[k]?=D o)(ho:o.isCells=EI):w'.heap[k]?=D o:=by
 refine(hg.block k (J3.1 h).1 fun e2=> ?_).trans h;rcases hown.2 with⟨rfl,-⟩|⟨g,cap,cur,rfl,-,hb,-⟩;·simp[np] at e2
 ·have:k=g:=Ng;subst this;rw[hb] at h;injection h with h;subst h;cases ho
def yn:List EB:=[43,264,58]
structure fI(hi:Nat)(w w':M):Prop where
 bel:Ij hi w w'
 Ek: ∀k c S,yn.contains S=EI->H w k c S->H w' k c S
theorem fI.trans{hi:Nat}{a b c:M}(h:fI hi a b)(k:fI hi b c):fI hi a c:=⟨h.bel.trans k.bel,fun i d S hS hb=>k.Ek i d S hS (h.Ek i d S hS hb)⟩
theorem fI.ED{hi:Nat}{w:M}(h:El w w')(hh:hi<=w.heap.size):fI hi w w':=⟨h.mono hh,fun _ _ _ _ hb=>hb.B h⟩
structure Jw(lo hi:Nat)(w w':M):Prop where
 bel:Ij lo w w'
 Ek: ∀k c S,k<hi->kF.contains S=EI->S≠122->H w k c S->H w' k c S
 strm: ∀g A n c,g<hi->H w g #[G A n c] 122-> ∃A' n' c',H w' g #[G A' n' c'] 122/\ ∀k,k<hi->bj A k->bj A' k
theorem Jw.refl(lo hi:Nat)(w:M):Jw lo hi w w:=⟨IU _ _,fun _ _ _ _ _ _ h=>h,fun _ _ _ _ _ h=>⟨_,_,_,h,fun _ _ h=>h⟩⟩
theorem Jw.trans{hi:Nat}{a b c:M}(h:Jw lo hi a b)(k:Jw lo hi b c):Jw lo hi a c:=
 ⟨h.bel.trans k.bel,fun i d S hi hm hs hb=>k.Ek i d S hi hm hs (h.Ek i d S hi hm hs hb),fun i A n c hi hb=>by obtain⟨A1,n1,c1,b1,f1⟩:=h.strm i A n c hi hb;obtain⟨A2,n2,c2,b2,f2⟩:=k.strm i A1 n1 c1 hi b1;exact⟨A2,n2,c2,b2,fun j hj ha=>f2 j hj (f1 j hj ha)⟩⟩
theorem Jw.ED{hi:Nat}{w:M}(h:El w w')(hl:lo<=w.heap.size):Jw lo hi w w':=⟨h.mono hl,fun _ _ _ _ _ _ hb=>hb.B h,fun _ _ _ _ _ hb=>⟨_,_,_,hb.B h,fun _ _ h=>h⟩⟩
theorem Jw.uj{hi:Nat}{w:M}(h:fI hi w w')(hl:lo<=hi):Jw lo hi w w':=
 ⟨h.bel.mono hl,fun k _ _ hk _ _ hb=>(h.bel.block k hk).trans hb,fun k _ _ _ hk hb=>⟨_,_,_,(h.bel.block k hk).trans hb,fun _ _ h=>h⟩⟩
theorem EA.low'{hi:Nat}{w:M}(h:EA lo hi w w')(hl:lo<=hi)(hh:hi<=w.heap.size):Ij lo w w':=
 (h.Ec5 hh).B hl
theorem Jw.yo{hi h2:Nat}{w:M}(h:EA lo h2 w w')(hl:lo<=hi)(hh:hi<=h2)(hs:h2<=w.heap.size):Jw lo hi w w':=
 ⟨h.low' U hs,fun k _ _ hk hm _ hb=>h.old hb hm U,fun k _ _ _ hk hb=>⟨_,_,_,h.old hb EU U,fun _ _ h=>h⟩⟩
theorem EA.obj{hi:Nat}{w:M}(h:EA lo hi w w'){o:Obj}(hk:k<hi)(ho:w.heap[k]?=D o)(hc:o.isCells=EI):w'.heap[k]?=D o:=by refine(h.low k hk (J3.1 ho).1 fun c T p hp=> ?_).trans ho;rw[ho] at hp;injection hp with hp;subst hp;cases hc
def aV(lo:Nat)(gs:Nat)(r:List Int)(W:M):Prop:= ∃(A:Option Ep) (c:Nat),H W gs #[G A r.length c] 122/\Own W lo A c r
def mcV(gc s1 s2 s3:Nat):Array Y:= #[V (D ⟨gc,0,Z⟩),E I 0,V (D ⟨s1,0,Z⟩),V (D ⟨s2,0,Z⟩),V (D ⟨s3,0,Z⟩)]
structure Oh where
 (gc gq gt gm s1 s2 s3:Nat)
structure I7(lo:Nat)(g:Nat->Y)(a:Oh)(c:Ey)(rs:Int->List Int)(W:M):Prop where
 core:JU lo g a.gc a.gq a.gt c W
 Ek:H W a.gm (mcV a.gc a.s1 a.s2 a.s3) 84
 lm:lo<=a.gm
 l1:lo<=a.s1
 l2:lo<=a.s2
 l3:lo<=a.s3
 n12:a.s1≠a.s2
 n13:a.s1≠a.s3
 n23:a.s2≠a.s3
 st1:aV lo a.s1 (rs 1) W
 st2:aV lo a.s2 (rs 2) W
 mr:aV lo a.s3 (rs 3) W
 oD: ∀i,Og (rs i)/\(rs i).length<=40
theorem aV.via{r:List Int}(h:aV lo gs r W)(h1: ∀k c,H W k c 122->H W' k c 122)(h2: ∀k c,H W k c 5->H W' k c 5):aV lo gs r W':=by obtain⟨A,c,k,o⟩:=h;exact⟨A,c,h1 _ _ k,aj o h2⟩
theorem I7.via{a:Oh}(h:I7 lo g a c rs W)(hb: ∀k cs S,S≠43->S≠264->S≠58->H W k cs S->H W' k cs S)(hl:Ij lo W W'):I7 lo g a c rs W':=
 ⟨h.core.via (fun k cs S hS hk=>hb k cs S yp yp yp hk) hl,hb _ _ _ EU EU EU h.Ek,h.lm,h.l1,h.l2,h.l3,h.n12,h.n13,h.n23,
  h.st1.via (fun _ _=>hb _ _ _ EU EU EU) (fun _ _=>hb _ _ _ EU EU EU),h.st2.via (fun _ _=>hb _ _ _ EU EU EU) (fun _ _=>hb _ _ _ EU EU EU),
  h.mr.via (fun _ _=>hb _ _ _ EU EU EU) (fun _ _=>hb _ _ _ EU EU EU),h.oD⟩
theorem Eit(h1:S≠43)(h2:S≠264)(h3:S≠58):yn.contains S=EI:=by
 simp only[yn,List.contains_eq_mem,UJ,Um,or_false,decide_eq_false_iff_not];rintro(h|h|h);·exact h1 h
 ·exact h2 h
 ·exact h3 h
theorem I7.y{hi:Nat}{a:Oh}(h:I7 lo g a c rs W)(hy:fI hi W W')(hl:lo<=hi):I7 lo g a c rs W':=
 h.via (fun k cs S h1 h2 h3=>hy.Ek k cs S (Eit h1 h2 h3)) (hy.bel.mono hl)
theorem I7.B{a:Oh}(h:I7 lo g a c rs W)(hb:El W W'):I7 lo g a c rs W':=
 h.via (fun _ _ _ _ _ _ hk=>hk.B hb) (hb.mono (Ew h.lm (aH h.Ek.lt)))
theorem I7.mut{hi:Nat}{a:Oh}(h:I7 lo g a c rs W)(m:EA lo hi W W')(C:JU lo g a.gc a.gq a.gt c' W'):I7 lo g a c' rs W':=
 ⟨C,m.Ek h.Ek EU EU,h.lm,h.l1,h.l2,h.l3,h.n12,h.n13,h.n23,h.st1.via (fun _ _ hk=>m.Ek hk EU EU) (fun _ _ hk=>m.Ek hk EU EU),
  h.st2.via (fun _ _ hk=>m.Ek hk EU EU) (fun _ _ hk=>m.Ek hk EU EU),h.mr.via (fun _ _ hk=>m.Ek hk EU EU) (fun _ _ hk=>m.Ek hk EU EU),h.oD⟩
def Oh.s(a:Oh)(k:Int):Nat:=if k=1 then a.s1 else if k=2 then a.s2 else a.s3
theorem I7.str{a:Oh}(h:I7 lo g a c rs W){k:Int}(hk:1<=k/\k<=3):aV lo (a.s k) (rs k) W/\lo<=a.s k/\W.cell? ⟨a.gm,2+(k-1).toNat,Z⟩=D (V (D ⟨a.s k,0,Z⟩)):=by
 have hc:k=1\/k=2\/k=3:=U;have hb:=H.cell h.Ek;rcases hc with rfl|rfl|rfl;·exact⟨h.st1,h.l1,(hb 2).trans O⟩
 ·exact⟨h.st2,h.l2,(hb 3).trans O⟩
 ·exact⟨h.mr,h.l3,(hb 4).trans O⟩
theorem Eiu{xs:List Int}(h:(nx xs).kd=0)(hb:Og xs):xs.length<=40:=by
 match xs,h,hb with
 |[],_,_=>simp
 |[_],_,_=>simp
 |[_,_],_,_=>simp
 |a::v::n::r,h,hb=>
  have hn:=hb n Ej;rw[dh] at h;by_cases h1:a≠165;·rw[if_pos h1] at h;cases h
  ·rw[if_neg h1] at h;rw[j9] at h;by_cases h2:v≠1;·rw[if_pos h2] at h;cases h
   ·rw[if_neg h2] at h;rw[show xL (n::r)=Z6 1 n r from rfl] at h;unfold Z6 at h;by_cases h3:32<n;·rw[if_pos h3] at h;cases h
    ·rw[if_neg h3] at h;by_cases h4:(r.length:Int)<n+2;·simp only[Zn];omega
     ·rw[if_neg h4] at h;split at h<;>cases h
theorem JR.Eiv{xs i r}(h:JR xs i r):Og xs->r.length<=40:=by
 induction h with
 |wait h=>exact fun hb=>Eiu h hb
 |step h t ih=>exact fun hb=>ih (hb.dr _)
theorem I7.take{a:Oh}{w2:M}(h:I7 lo g a c rs W){k:Int}(hk:1<=k/\k<=3)(hb:El W w2){r:List Int}(e:W'=w2.setCell ⟨a.s k,0,Z⟩ (G A r.length d))(ho:Own W' lo A d r)(hr:Og r/\r.length<=40):I7 lo g a c (fun s=>if s=k then r else rs s) W'/\E7 (a.s k) W W':=by
 obtain⟨⟨A0,c0,kb,o0⟩,hl,-⟩:=h.str hk;have Y9:=h.B hb;have nD:=kb.B hb;have on:E7 (a.s k) w2 W':=by rw[e];exact JS 0 _
 have keep: ∀i cs S,S≠122->H w2 i cs S->H W' i cs S:=fun i cs S hS hi=>on.Ek hi (E6 hi nD hS);have ks:H W' (a.s k) #[G A r.length d] 122:=by rw[e];exact nD.set 0 _
 have new:aV lo (a.s k) r W':=⟨A,d,ks,ho⟩;have old: ∀gs x,aV lo gs x w2->gs≠a.s k->aV lo gs x W':=fun gs x ⟨A1,c1,k1,o1⟩ hne=>⟨A1,c1,on.Ek k1 hne,aj o1 fun _ _=>keep _ _ _ EU⟩;have hlo:Ij lo w2 W':=on.bel lo hl (Ew Y9.lm (aH Y9.Ek.lt))
 have Eiw: ∀i,Og ((fun s=>if s=k then r else rs s) i)/\((fun s=>if s=k then r else rs s) i).length<=40:=fun i=>by
  dsimp only;split;·exact hr
  ·exact h.oD i
 refine⟨⟨Y9.core.via (fun i cs S hS=>keep i cs S yp) hlo,keep _ _ _ EU Y9.Ek,h.lm,h.l1,h.l2,h.l3,h.n12,h.n13,h.n23,?_,?_,?_,Eiw⟩,(E7.ED hb).trans on⟩
 all_goals
  have hc:k=1\/k=2\/k=3:=U
  rcases hc with rfl|rfl|rfl
 ·exact new
 ·exact old _ _ Y9.st1 h.n12
 ·exact old _ _ Y9.st1 h.n13
 ·exact old _ _ Y9.st2 h.n12.symm
 ·exact new
 ·exact old _ _ Y9.st2 h.n23
 ·exact old _ _ Y9.mr h.n13.symm
 ·exact old _ _ Y9.mr h.n23.symm
 ·exact new
theorem mw:IL EZ 48 10:=⟨⟨_,Tryz.underlying48,O⟩,Ef⟩
theorem JX.one(e:JX)(A:Option Ep)(d:Nat):(e.cells A d).toArray.all (·.oneCell')=EJ:=by simp[JX.cells,JX.Y5,Oc]
structure X4(ge gb:Nat)(e:JX)(A:Option Ep)(d gm:Nat)(W:M):Prop where
 ev:H W ge (e.cells A d).toArray 48
 mb:H W gb #[V (D ⟨gm,0,Z⟩)] 32
theorem X4.via{e:JX}(h:X4 ge gb e A d gm W)(h1: ∀k c,H W k c 48->H W' k c 48)(h2: ∀k c,H W k c 32->H W' k c 32):X4 ge gb e A d gm W':=⟨h1 _ _ h.ev,h2 _ _ h.mb⟩
theorem X4.mut{hi:Nat}{e:JX}(h:X4 ge gb e A d gm W)(m:EA lo hi W W'):X4 ge gb e A d gm W':=h.via (fun _ _ hk=>m.Ek hk EU EU) (fun _ _ hk=>m.Ek hk EU EU)
theorem X4.y{hi:Nat}{e:JX}(h:X4 ge gb e A d gm W)(m:fI hi W W'):X4 ge gb e A d gm W':=h.via (fun _ _ hk=>m.Ek _ _ _ EU hk) (fun _ _ hk=>m.Ek _ _ _ EU hk)
theorem X4.B{e:JX}(h:X4 ge gb e A d gm W)(m:El W W'):X4 ge gb e A d gm W':=h.via (fun _ _ hk=>hk.B m) (fun _ _ hk=>hk.B m)
structure oF(lo hi l:Nat)(RA:Ey->Nat->List Rec->M->Prop):Prop where
 lh:lo<=hi
 gT: ∀c m new W,RA c m new W->hi<=W.heap.size
 B: ∀c m new W W',RA c m new W->El W W'->RA c m new W'
 mu: ∀c m new W W',RA c m new W->EA lo W.heap.size W W'->RA c m new W'
 only: ∀c m new W W' gs cs,RA c m new W->H W gs cs 122->E7 gs W W'->RA c m new W'
 FX: ∀(c c':Ey) (m:Nat) (new:List Rec) (W:M) (sv rv:Y) (ns:Nat) (nw:List Rec) (sc:ta) (hd:List Int) (b:Nat),RA c m new W->hd.length=32->(∀x∈hd,0<=x/\x<=255)->W.ownsRow b 264 2 sv ns sc.l->W.ownsRow b 58 6 rv nw.length (UC nw)->m<=100000->new.length<=100000->ns<=15->nw.length<=13->
  YieldAt X0 8 EZ l #[Ea (Jh (OZ c') sv rv hd).toArray] W fun en W'=>en=Ei (Ec EJ)/\RA c' (m+ns) (new++nw) W'/\fI hi W W'
theorem FZ{ops:Array EP}{rest:List EP}{R:Ud->M->Prop}(hw:JO o (Jg ops a.tmps)=EJ)(hY:YieldAt X0 8 EZ l #[v] W R)(he: ∀nx,(Instr.yield l #[v]).run EZ W= .ok nx W->(Ig a.eval o).run EZ W= .ok nx W)(hd: ∀c,o.op≠ .defer c) (hk: ∀e W',R e W'-> ∃Y3,e=Ei Y3/\aS X0 9 EZ ops Q rest (a.put o.dst Y3) W'):aS X0 9 EZ ops Q (o::rest) a W:=by obtain⟨fn,tmps,assign,body,hy,hR⟩:=hY;unfold aS;rw[if_pos hw];refine⟨fun _ _=>trivial,?_⟩;rw[show o.semAt Fence.wide.round a.eval=Ig a.eval o from rfl,he _ hy];refine⟨fun _=>U,hR.mono ?_⟩;intro e W' h;obtain⟨Y3,rfl,h2⟩:=hk e W' h;exact h2
theorem oo.len{b:Bool}{new:List Rec}(h:oo b c c' new):new.length<=1:=by rcases h with⟨_,_,rfl⟩|⟨_,_,_,_,_,_,_,_,⟨rfl,_⟩|rfl⟩<;>simp
theorem ol.len{new:List Rec}(h:ol c c' new):new.length<=1:=by obtain⟨_,_,_,⟨_,rfl⟩|⟨_,_,_,rfl⟩|⟨_,_,_,_,_,_,_,rfl⟩|⟨rfl,_⟩⟩:=h<;>simp
def oG(lo hi:Nat)(g:Nat->Y)(a:Oh)(e:JX)(c:Ey)(rs:Int->List Int)(RA:Ey->Nat->List Rec->M->Prop)(W:M)(en:Ud)(W':M):Prop:=
 (∃v,en=Ei v)/\ ∃(c':Ey) (rs':Int->List Int) (m:Nat) (new:List Rec),I7 lo g a c' rs' W'/\RA c' m new W'/\rj g e c rs c' rs' m new/\new.length<=5000/\Jw lo hi W W'
theorem Eix(lo hi l ge gb:Nat)(g:Nat->Y)(a:Oh)(c:Ey)(rs:Int->List Int)(e:JX)(A:Option Ep)(d:Nat)(RA:Ey->Nat->List Rec->M->Prop)(w:M)(Y7:oF lo hi l RA)(Y8:I7 lo g a c rs w)(K:X4 ge gb e A d a.gm w)(R0:RA c 0 [] w)(hk:e.kind=3): Eg EZ 47 #[.func (.yield l) #[] #[],V (D ⟨ge,0,Z⟩),V (D ⟨gb,0,Z⟩)] w (oG lo hi g a e c rs RA w):=by
 have ck:w.cell? ⟨ge,0,Z⟩=D (E I e.kind):=(H.cell K.ev 0).trans O;have cm:w.cell? ⟨gb,0,Z⟩=D (V (D ⟨a.gm,0,Z⟩)):=(H.cell K.mb 0).trans O;have cc:w.cell? ⟨a.gm,0,Z⟩=D (V (D ⟨a.gc,0,Z⟩)):=(H.cell Y8.Ek 0).trans O;have t0:(e.kind==0)=EI:=jJ;have t1:(e.kind==1)=EI:=jJ;have t2:(e.kind==2)=EI:=jJ;have t3:(e.kind==3)=EJ:=jJ;have YY:=J Y7;have MM:=J Y8;have KK:=J K;have RR:=J R0;have HK:=J hk;clear Y7 Y8 K R0;clear hk;go_enter Tryz.func47,Tryz.ntmps47;generalize hc:bU 13 _ _=c13;go_wp2_with fail;subst hc;refine(wpIn_wide (n:=9)).1 (wpIn_region_lit ?_);refine xS 6 (.inl O) yq Ef ?_;simp only[Is,Iq,IT,IM];go_wp2_with fail;refine(Ehu lo g a.gc a.gq a.gt c _ MM.out.core).mono ?_;rintro e2 w2 ⟨c',ns,new,sv,rv,sc,hd,rfl,XI,XF,os,Xu,C2,⟨hns,hnl,hR⟩,mm⟩;go_wp2_with fail;have RW:=YY.out.mu c 0 [] w w2 RR.out mm;refine FZ (Eh O) (YY.out.FX c c' 0 [] w2 sv rv ns new sc hd w.heap.size RW XI XF os Xu U Ej U U) (fun nx hy=> ?_) (fun _ h=>UL) ?_;·simp[go_sem,hy]
 rintro e3 w3 ⟨rfl,r3,y3⟩;refine⟨_,O,wpListIn_nil ?_⟩;go_wp2;go_end0;rw[ZZ,Ox] at r3;refine⟨⟨_,O⟩,c',rs,ns,new,(MM.out.mut mm C2).y y3 YY.out.lh,r3,?_,U,(Jw.yo mm YY.out.lh (YY.out.gT _ _ _ _ RR.out) (E3 _)).trans (Jw.uj y3 YY.out.lh)⟩;exact .inr (.inr (.inr (.inl ⟨HK.out,O,hR⟩)))
theorem Eiy(lo hi l ge gb:Nat)(g:Nat->Y)(a:Oh)(c:Ey)(rs:Int->List Int)(e:JX)(A:Option Ep)(d:Nat)(RA:Ey->Nat->List Rec->M->Prop)(w:M)(Y7:oF lo hi l RA)(Y8:I7 lo g a c rs w)(K:X4 ge gb e A d a.gm w)(R0:RA c 0 [] w)(hk:e.kind=2): Eg EZ 47 #[.func (.yield l) #[] #[],V (D ⟨ge,0,Z⟩),V (D ⟨gb,0,Z⟩)] w (oG lo hi g a e c rs RA w):=by
 have ck:w.cell? ⟨ge,0,Z⟩=D (E I e.kind):=(H.cell K.ev 0).trans O;have cm:w.cell? ⟨gb,0,Z⟩=D (V (D ⟨a.gm,0,Z⟩)):=(H.cell K.mb 0).trans O;have cc:w.cell? ⟨a.gm,0,Z⟩=D (V (D ⟨a.gc,0,Z⟩)):=(H.cell Y8.Ek 0).trans O;have t0:(e.kind==0)=EI:=jJ;have t1:(e.kind==1)=EI:=jJ;have t2:(e.kind==2)=EJ:=jJ;have YY:=J Y7;have MM:=J Y8;have KK:=J K;have RR:=J R0;have HK:=J hk;clear Y7 Y8 K R0;clear hk;go_enter Tryz.func47,Tryz.ntmps47;go_wp2_with fail;have ym: ∀y:Ext w,(EC w y).cell? ⟨gb,0,Z⟩=D (V (D ⟨a.gm,0,Z⟩)):=fun y=>(H.cell (KK.out.B (EQ y)).mb 0).trans O;have yc: ∀y:Ext w,(EC w y).cell? ⟨a.gm,0,Z⟩=D (V (D ⟨a.gc,0,Z⟩)):=fun y=>(H.cell (MM.out.B (EQ y)).Ek 0).trans O;have yb: ∀y:Ext w,(EC w y).cell? ⟨ge,4+5,Z⟩=D (Ec e.bad):=fun y=>(H.cell (KK.out.B (EQ y)).ev 9).trans O;have yb2: ∀y:Ext w,(EC w y).cell? ⟨ge,9,Z⟩=D (Ec e.bad):=fun y=>(H.cell (KK.out.B (EQ y)).ev 9).trans O;refine NE 7 Ef Ef O O O (fun _ _ _ h=>h) ?_;simp only[Is,Iq,IT,IM];repeat (go_big_quiet_step (fail))
 refine I5 ?_;intro _ hw';obtain⟨y9,rfl⟩:=hw';have En:=EQ y9;clear yb yb2;have MB:=J<|Jw.ED (lo:=lo) (hi:=hi) En (Ew MM.out.lm (aH MM.out.Ek.lt));replace MM:=J<|MM.out.B En;replace RR:=J<|YY.out.B _ _ _ _ _ RR.out En;clear KK En ym yc;generalize EC w y9=w1 at*;refine xS 1 (.inl O) yq Ef ?_;simp only[Is,Iq,IT,IM];go_wp2_with fail;refine(Ehv lo g a.gc a.gq a.gt c e.bad _ MM.out.core).mono ?_;rintro e2 w2 ⟨c',ns,new,sv,rv,sc,hd,rfl,XI,XF,os,Xu,C2,⟨hns,hR⟩,mm⟩;go_wp2_with fail;have RW:=YY.out.mu c 0 [] w1 w2 RR.out mm;refine FZ (Eh O) (YY.out.FX c c' 0 [] w2 sv rv ns new sc hd w1.heap.size RW XI XF os Xu U Ej U (by have:=oo.len hR;omega)) (fun nx hy=> ?_) (fun _ h=>UL) ?_;·simp[go_sem,hy]
 rintro e3 w3 ⟨rfl,r3,y3⟩;refine⟨_,O,wpListIn_nil ?_⟩;go_wp2;go_end0;rw[ZZ,Ox] at r3;refine⟨⟨_,O⟩,c',rs,ns,new,(MM.out.mut mm C2).y y3 YY.out.lh,r3,?_,by have:=(oo.len hR);omega,MB.out.trans ((Jw.yo mm YY.out.lh (YY.out.gT _ _ _ _ RR.out) (E3 _)).trans (Jw.uj y3 YY.out.lh))⟩;exact .inr (.inr (.inl ⟨HK.out,O,hR⟩))
theorem EiA(lo hi l ge gb:Nat)(g:Nat->Y)(a:Oh)(c:Ey)(rs:Int->List Int)(e:JX)(A:Option Ep)(d:Nat)(RA:Ey->Nat->List Rec->M->Prop)(w:M)(Y7:oF lo hi l RA)(Y8:I7 lo g a c rs w)(K:X4 ge gb e A d a.gm w)(R0:RA c 0 [] w)(hk:e.kind=1)(hx:e.ok): Eg EZ 47 #[.func (.yield l) #[] #[],V (D ⟨ge,0,Z⟩),V (D ⟨gb,0,Z⟩)] w (oG lo hi g a e c rs RA w):=by
 have ck:w.cell? ⟨ge,0,Z⟩=D (E I e.kind):=(H.cell K.ev 0).trans O;have cm:w.cell? ⟨gb,0,Z⟩=D (V (D ⟨a.gm,0,Z⟩)):=(H.cell K.mb 0).trans O;have cc:w.cell? ⟨a.gm,0,Z⟩=D (V (D ⟨a.gc,0,Z⟩)):=(H.cell Y8.Ek 0).trans O;have t0:(e.kind==0)=EI:=jJ;have t1:(e.kind==1)=EJ:=jJ;have YY:=J Y7;have MM:=J Y8;have KK:=J K;have RR:=J R0;have HK:=J hk;clear Y7 Y8 K R0;have HX:=J hx;clear hk hx;go_enter Tryz.func47,Tryz.ntmps47;go_wp2_with fail;have ym: ∀y:Ext w,(EC w y).cell? ⟨gb,0,Z⟩=D (V (D ⟨a.gm,0,Z⟩)):=fun y=>(H.cell (KK.out.B (EQ y)).mb 0).trans O;have yc: ∀y:Ext w,(EC w y).cell? ⟨a.gm,0,Z⟩=D (V (D ⟨a.gc,0,Z⟩)):=fun y=>(H.cell (MM.out.B (EQ y)).Ek 0).trans O;have KG:Ed (Jl w ge (e.Y5 A d) 48):=J KK.out.ev;have HF:Ed (bh (e.Y5 A d) 3=3):=J O;refine NE 7 Ef Ef O O O (fun _ _ _ h=>h) ?_;simp only[Is,Iq,IT,IM]
 repeat (first
  |go_big_quiet_skip
  |(go_big_quiet_want
    first
     |(refine Zf (T:=46) (g:=ge) (off:=3) DR _ rfl rfl KG 3 rfl HF.out rfl ?_;go_simp;go_big_quiet_on)
     |(go_big_quiet_op
       go_big_quiet_on)))
 refine I5 ?_;intro _ hw';obtain⟨y9,rfl⟩:=hw';have En:=EQ y9;clear KG HF;have MB:=J<|Jw.ED (lo:=lo) (hi:=hi) En (Ew MM.out.lm (aH MM.out.Ek.lt));replace MM:=J<|MM.out.B En;replace RR:=J<|YY.out.B _ _ _ _ _ RR.out En;clear KK En ym yc;generalize EC w y9=w1 at*;refine xS 1 (.inl O) yq Ef ?_;simp only[Is,Iq,IT,IM];go_wp2_with fail;refine(Ehw lo g a.gc a.gq a.gt c e.valid e.give e.x0 e.x1 e.x2 e.x3 _ MM.out.core ⟨HX.out.x0,HX.out.x1,HX.out.x2,HX.out.x3⟩).mono ?_;rintro e2 w2 ⟨c',ns,new,sv,rv,sc,hd,rfl,XI,XF,os,Xu,C2,⟨hns,hR⟩,mm⟩;go_wp2_with fail;have RW:=YY.out.mu c 0 [] w1 w2 RR.out mm;refine FZ (Eh O) (YY.out.FX c c' 0 [] w2 sv rv ns new sc hd w1.heap.size RW XI XF os Xu U Ej U (by have:=ol.len hR;omega)) (fun nx hy=> ?_) (fun _ h=>UL) ?_;·simp[go_sem,hy]
 rintro e3 w3 ⟨rfl,r3,y3⟩;refine⟨_,O,wpListIn_nil ?_⟩;go_wp2;go_end0;rw[ZZ,Ox] at r3;refine⟨⟨_,O⟩,c',rs,ns,new,(MM.out.mut mm C2).y y3 YY.out.lh,r3,?_,by have:=(ol.len hR);omega,MB.out.trans ((Jw.yo mm YY.out.lh (YY.out.gT _ _ _ _ RR.out) (E3 _)).trans (Jw.uj y3 YY.out.lh))⟩;exact .inr (.inl ⟨HK.out,O,hR⟩)
theorem EiB(lo hi l ge gb:Nat)(g:Nat->Y)(a:Oh)(c:Ey)(rs:Int->List Int)(e:JX)(A:Option Ep)(d:Nat)(RA:Ey->Nat->List Rec->M->Prop)(w:M)(Y7:oF lo hi l RA)(Y8:I7 lo g a c rs w)(K:X4 ge gb e A d a.gm w)(R0:RA c 0 [] w)(hk:e.kind≠0/\e.kind≠1/\e.kind≠2/\e.kind≠3): Eg EZ 47 #[.func (.yield l) #[] #[],V (D ⟨ge,0,Z⟩),V (D ⟨gb,0,Z⟩)] w (oG lo hi g a e c rs RA w):=by
 have ck:w.cell? ⟨ge,0,Z⟩=D (E I e.kind):=(H.cell K.ev 0).trans O;have cm:w.cell? ⟨gb,0,Z⟩=D (V (D ⟨a.gm,0,Z⟩)):=(H.cell K.mb 0).trans O;have cc:w.cell? ⟨a.gm,0,Z⟩=D (V (D ⟨a.gc,0,Z⟩)):=(H.cell Y8.Ek 0).trans O;have t0:(e.kind==0)=EI:=by simpa using hk.1
 have t1:(e.kind==1)=EI:=by simpa using hk.2.1
 have t2:(e.kind==2)=EI:=by simpa using hk.2.2.1
 have t3:(e.kind==3)=EI:=by simpa using hk.2.2.2
 clear cm cc;go_enter Tryz.func47,Tryz.ntmps47;go_wp2;go_end0;exact⟨⟨_,O⟩,c,rs,0,[],Y8,R0,.inr (.inr (.inr (.inr ⟨⟨hk.2.1,hk.2.2.1,hk.2.2.2,fun h=>absurd h hk.1⟩,O,O,O,O⟩))),Ej,.refl _ _ _⟩
theorem EiC(lo hi l ge gb:Nat)(g:Nat->Y)(a:Oh)(c:Ey)(rs:Int->List Int)(e:JX)(A:Option Ep)(d:Nat)(RA:Ey->Nat->List Rec->M->Prop)(w:M)(Y7:oF lo hi l RA)(Y8:I7 lo g a c rs w)(K:X4 ge gb e A d a.gm w)(R0:RA c 0 [] w)(hk:e.kind=0)(hs: ¬(1<=e.src/\e.src<=3)): Eg EZ 47 #[.func (.yield l) #[] #[],V (D ⟨ge,0,Z⟩),V (D ⟨gb,0,Z⟩)] w (oG lo hi g a e c rs RA w):=by
 have ck:w.cell? ⟨ge,0,Z⟩=D (E I e.kind):=(H.cell K.ev 0).trans O;have cm:w.cell? ⟨gb,0,Z⟩=D (V (D ⟨a.gm,0,Z⟩)):=(H.cell K.mb 0).trans O;have cc:w.cell? ⟨a.gm,0,Z⟩=D (V (D ⟨a.gc,0,Z⟩)):=(H.cell Y8.Ek 0).trans O;have cs:w.cell? ⟨ge,1,Z⟩=D (E I e.src):=(H.cell K.ev 1).trans O;have t0:(e.kind==0)=EJ:=jJ;clear cm cc;have fin:oG lo hi g a e c rs RA w (Ei (Eu #[])) w:=⟨⟨_,O⟩,c,rs,0,[],Y8,R0,.inr (.inr (.inr (.inr ⟨⟨U,U,U,fun _=>hs⟩,O,O,O,O⟩))),Ej,.refl _ _ _⟩;by_cases h1:e.src<1;·have t1:decide (e.src<1)=EJ:=IJ h1;exact EpL
 ·have t1:decide (e.src<1)=EI:=IZ h1;have t2:decide (3<e.src)=EJ:=IJ U;exact EpL
theorem EEW(gm:Nat)(k:Int)(j:Nat)(hk:k=(j:Int)+1)(hj:j<3)(W:M):(qY 82 (V (D ⟨gm,2,Z⟩)) (E I (k-1))).run EZ W= .ok (V (D ⟨gm,2+j,Z⟩)) W:=by have h:j=0\/j=1\/j=2:=U;subst hk;exact ErJ
theorem Jw.EiD{hi:Nat}{w:M}{r:List Int}{c:Nat}(ho:E7 gs w w')(K:H w gs cs 122)(K':H w' gs #[G A r.length c] 122)(hr:Own w' b A c r)(hh:hi<=b)(hl:lo<=gs)(hw:lo<=w.heap.size):Jw lo hi w w':=
 ⟨ho.bel lo hl hw,fun _ _ _ _ _ hS hb=>ho.Ek hb (E6 hb K hS),fun g _ _ _ _ hb=>by
  by_cases e:g=gs;·subst e;exact⟨_,_,_,K',fun k hk _ a ha=>by have:=fk hr a ha;omega⟩
  ·exact⟨_,_,_,ho.Ek hb e,fun _ _ h=>h⟩⟩
theorem mx{xs:List Y}(h:W.ownsRow b T size v n xs): ∃(A:Option Ep) (c:Nat),v=G A n c:=by
 rcases h.2 with⟨rfl,rfl⟩|⟨g,cap,cur,rfl,_⟩;·exact⟨Z,0,O⟩
 ·exact⟨_,_,O⟩
theorem EEY{c i:Nat}{vals:List Y}(h:W.ownsRow base 74 2 (G A n c) n vals)(hi:i<n): ∃ga,A=D ⟨ga,0,Z⟩/\n<=c/\c<=9223372036854775807/\ ∀j Y3,vals[i*2+j]?=D Y3->W.cell? ⟨ga,i*2+j,Z⟩=D Y3:=by
 have h0:=h;rcases h.2 with⟨hv,h1⟩|⟨g,cap',cur,hv,hg,hh,hl,hm,hs,ht⟩;·omega
 ·injection hv with h1 h2 h3;subst h1;subst h3;refine⟨g,O,hl,by unfold maxLen at hm;exact hm,fun j Y3 hu=> ?_⟩;have:=h0.cells (g:=g) O _ Y3 hu;rwa [show(⟨g,0,Z⟩:Ep).add (i*2+j)=⟨g,i*2+j,Z⟩ from U3] at this
theorem EiF:Od EZ 74 #[E I 0,G Z 0 0]:=by exact En5
theorem EiG(lo hi l ge gb:Nat)(g:Nat->Y)(a:Oh)(c:Ey)(rs:Int->List Int)(e:JX)(A:Option Ep)(d:Nat)(RA:Ey->Nat->List Rec->M->Prop)(w:M)(Y7:oF lo hi l RA)(Y8:I7 lo g a c rs w)(K:X4 ge gb e A d a.gm w)(R0:RA c 0 [] w)(hk:e.kind=0)(hs:1<=e.src/\e.src<=3)(hb:e.b.length<=1000)(hr:Row w A e.b): Eg EZ 47 #[.func (.yield l) #[] #[],V (D ⟨ge,0,Z⟩),V (D ⟨gb,0,Z⟩)] w (oG lo hi g a e c rs RA w):=by
 have ck:w.cell? ⟨ge,0,Z⟩=D (E I e.kind):=(H.cell K.ev 0).trans O;have cs:w.cell? ⟨ge,1,Z⟩=D (E I e.src):=(H.cell K.ev 1).trans O;have t0:(e.kind==0)=EJ:=jJ;have t1:decide (e.src<1)=EI:=IZ U;have t2:decide (3<e.src)=EI:=IZ U;have hbb:Og e.b:=hr.2;have hbr:=Y8.oD e.src;obtain⟨its,r,hp⟩:=JR.ex _ (rs e.src++e.b) (E3 _) (hbr.1.app hbb);have hok:=hp.ok (hbr.1.app hbb);have hlen:=hp.len (hbr.1.app hbb);rw[IY] at hlen;have HN:=J (show its.length<=1040 by have:=hbr.2;omega);have qu:=J hok.1;have HR2:=J<|JD hok.2 (hp.Eiv (hbr.1.app hbb));have HP:=J hp;have HS:=J hs;have HB:=J hb;have RW:=J hr;have SB:=J<|fun W=>sub_one e.src hs.1 hs.2 W;obtain⟨j,hj,Xy⟩: ∃j:Nat,e.src=(j:Int)+1/\j<3:=⟨(e.src-1).toNat,U,U⟩;have IX:=J<|fun W=>EEW a.gm e.src j hj Xy W;have SC:=J (fun W (h:I7 lo g a c rs W)=>show W.cell? ⟨a.gm,2+j,Z⟩=D (V (D ⟨a.s e.src,0,Z⟩)) by have:=(h.str hs).2.2;rwa [show(e.src-1).toNat=j from U] at this);obtain⟨j_,hrs⟩: ∃f:Int->List Int,f=fun s=>if s=e.src then r else rs s:=⟨_,O⟩
 have dE:=J hrs;have YY:=J Y7;have MM:=J Y8;have KK:=J K;have RR:=J R0;have HK:=J hk;clear Y7 Y8 K R0;clear hj Xy hk hs hb hr hbb hbr hp hok hlen hrs;go_enter Tryz.func47,Tryz.ntmps47;go_wp2_with fail;refine cZ (Ph:=fun p wq=>(match p with|0=>I7 lo g a c rs wq/\X4 ge gb e A d a.gm wq/\RA c 0 [] wq/\Row wq A e.b/\Jw lo hi w wq|_=>I7 lo g a c j_ wq/\X4 ge gb e A d a.gm wq/\RA c 0 [] wq/\Jw lo hi w wq)) (Rel:=J0) (Iw:=fun _ _=>True) [kq (V (D ⟨a.gm,0,Z⟩)),kp ge 1,kq (E I e.src),kq (E I (e.src-1)),kq (V (D ⟨a.gm,0,Z⟩)),kq (V (D ⟨a.gm,2,Z⟩)),kq (V (D ⟨a.gm,2+j,Z⟩)),kq (V (D ⟨a.s e.src,0,Z⟩)),kp ge 2,kq (G A e.b.length d),.late (fun v w=> ∃(vals:List Y),w.ownsRow lo 74 2 v its.length vals/\Ou w lo its vals) (fun v w w' h hr=>by obtain⟨vals,h1,h2⟩:=h;exact⟨vals,EG h1 fun _ _ hk=>H.B hk hr,h2.keep fun _ _ hk=>H.B hk hr⟩),kq (E I its.length),kq (E I 0)] [EI,EI,EI,EI,EI,EI,EI,EI,EI,EI,EJ,EI,EI] O [10] [(0,0),(0,0),(0,0),(0,0),(0,0),(0,0),(0,0),(0,0),(0,0),(0,0),(0,0),(1,1),(0,1)] Ef Ef Ef Ef Ef UP Ef ?hPh ?h0 ?hstep ?hend
 case hPh=>
  intro p w2 w3 h hr;match p,h with
  |0,h=>exact⟨h.1.B hr,h.2.1.B hr,YY.out.B _ _ _ _ _ h.2.2.1 hr,It h.2.2.2.1 hr,h.2.2.2.2.trans (Jw.ED hr (Ew h.1.lm (aH h.1.Ek.lt)))⟩
  |_+1,h=>exact⟨h.1.B hr,h.2.1.B hr,YY.out.B _ _ _ _ _ h.2.2.1 hr,h.2.2.2.trans (Jw.ED hr (Ew h.1.lm (aH h.1.Ek.lt)))⟩
 case h0=> have hb:=Jn w;exact⟨MM.out.B hb,KK.out.B hb,YY.out.B _ _ _ _ _ RR.out hb,It RW.out hb,Jw.ED hb (Ew MM.out.lm (aH MM.out.Ek.lt))⟩
 case hstep=>
  refine⟨?_,?_,?_,?_,?_,?_,?_,?_,?_,?_,?_,?_,?_,trivial⟩;all_goals first|intro xv wq p hlo hhi hp hd|intro xv wq hp hd
  all_goals simp only[EM,Ih,Ik,Ic,If]
  ·obtain rfl:p=0:=U;have cc:wq.cell? ⟨gb,0,Z⟩=D (V (D ⟨a.gm,0,Z⟩)):=(H.cell hp.2.1.mb 0).trans O;exact Et (by simp[go_sem,cc]) O
  ·exact Enx
  ·obtain rfl:p=0:=U;have d1:xv 1=V (D ⟨ge,1,Z⟩):=hd.at 1 rfl;have cc:wq.cell? ⟨ge,1,Z⟩=D (E I e.src):=(H.cell hp.2.1.ev 1).trans O;exact Et oH O
  ·obtain rfl:p=0:=U;have d2:xv 2=E I e.src:=hd.at 2 rfl;exact IQ ER (Eh O) (tR O d2 O SB.out) O
  ·obtain rfl:p=0:=U;have d0:xv 0=V (D ⟨a.gm,0,Z⟩):=hd.at 0 rfl;exact EqN
  ·obtain rfl:p=0:=U;have d4:xv 4=V (D ⟨a.gm,0,Z⟩):=hd.at 4 rfl;exact ErI
  ·obtain rfl:p=0:=U;have d5:xv 5=V (D ⟨a.gm,2,Z⟩):=hd.at 5 rfl;have d3:xv 3=E I (e.src-1):=hd.at 3 rfl;exact IQ ER (Eh O) (fV O d5 d3 IX.out) O
  ·obtain rfl:p=0:=U;have d6:xv 6=V (D ⟨a.gm,2+j,Z⟩):=hd.at 6 rfl;have cc:wq.cell? ⟨a.gm,2+j,Z⟩=D (V (D ⟨a.s e.src,0,Z⟩)):=SC.out wq hp.1;exact Et Dj O
  ·exact Enx
  ·obtain rfl:p=0:=U;have d8:xv 8=V (D ⟨ge,2,Z⟩):=hd.at 8 rfl;have cc:wq.cell? ⟨ge,2,Z⟩=D (G A e.b.length d):=(H.cell hp.2.1.ev 2).trans O;exact Et Dp O
  ·have d7:xv 7=V (D ⟨a.s e.src,0,Z⟩):=hd.at 7 rfl;have d9:xv 9=G A e.b.length d:=hd.at 9 rfl;refine JL (f:=48) (args:= #[xv 7,xv 9]) (Eh O) Ez ?_;rw[d7,d9];obtain⟨A0,c0,kb,o0⟩:=(hp.1.str HS.out).1;refine(Eiq (a.s e.src) lo A0 c0 (rs e.src).length (rs e.src) A e.b.length d e.b wq kb o0 O hp.2.2.2.1 rfl (hp.1.str HS.out).2.1 (by have:=(hp.1.oD e.src).2;omega) wy).mono fun en w2 h=> ?_;obtain⟨EhQ,r2,v,vals,A2,c2,w3,rfl,hp2,h1,h2,h3,h4,h5⟩:=h;obtain⟨rfl,rfl⟩:=HP.out.xP hp2;have ht:=hp.1.take HS.out h3 h4 (X8 h5 (Ew hp.1.lm (aH hp.1.Ek.lt))) HR2.out;exact⟨v,O,⟨trivial,by rw[dE.out];exact ht.1,hp.2.1.via (fun _ _ hk=>ht.2.Ek hk (E6 hk kb EU)) (fun _ _ hk=>ht.2.Ek hk (E6 hk kb EU)),YY.out.only _ _ _ _ _ _ _ hp.2.2.1 kb ht.2,Jw.trans hp.2.2.2.2 (Jw.EiD ht.2 kb (by rw[h4];exact(kb.B h3).set 0 _) h5 (YY.out.gT _ _ _ _ hp.2.2.1) (hp.1.str HS.out).2.1 (Ew hp.1.lm (aH hp.1.Ek.lt)))⟩,vals,mq h1 (Ew hp.1.lm (aH hp.1.Ek.lt)),h2.mono (Ew hp.1.lm (aH hp.1.Ek.lt))⟩
  ·obtain rfl:p=1:=U;obtain⟨vals,h1,h2⟩: ∃(vals:List Y),wq.ownsRow lo 74 2 (xv 10) its.length vals/\Ou wq lo its vals:=hd.at 10 rfl;obtain⟨A3,c3,e3⟩:=mx h1;exact Et (by simp[go_sem,e3]) O
  ·exact Eog
 case hend=>
  intro xv w2 hp hd;simp only[EM,Ih,Ik,Ic,If,Z3];obtain⟨vals,ow,iv⟩: ∃(vals:List Y),w2.ownsRow lo 74 2 (xv 10) its.length vals/\Ou w2 lo its vals:=hd 10 EU;obtain⟨A3,c3,e3⟩:=mx ow;have OU:xv 11=E I its.length:=hd 11 EU;have a12:xv 12=E I 0:=hd 12 EU;rw[OU,a12,e3];rw[e3] at ow;clear hd OU a12 e3;have I0:=J<|JD hp (JD ow iv);clear hp ow iv;go_wp2_with fail;go_loopw[30] (fun Y3 wr=> ∃(i:Nat) (ci:Ey) (mi:Nat) (ni:List Rec),Y3=E I i/\i<=its.length/\mi<=i*3/\bR g e.src (its.take i) c ci mi ni/\I7 lo g a ci j_ wr/\X4 ge gb e A d a.gm wr/\RA ci mi ni wr/\Jw lo hi w wr/\wr.ownsRow lo 74 2 (G A3 its.length c3) its.length vals/\Ou wr lo its vals) (fun Y3 _=>its.length-(In Y3).toNat);case atStart=>exact⟨0,c,0,[],O,aO _,E3 _,.nil c,I0.out.1.1,I0.out.1.2.1,I0.out.1.2.2.1,I0.out.1.2.2.2,I0.out.2.1,I0.out.2.2⟩
  case round=>
   clear I0 MM KK RR;obtain⟨i,ci,mi,ni,rfl,hin,uU,hw,Y8,K,R0,MB,ow,iv⟩:=hrel;have HW:=J hw;have MM:=J Y8;have KK:=J K;have RR:=J R0;replace MB:=J MB;have jV:=J uU;clear hw Y8 K R0 uU;by_cases hlt:i<its.length
   ·have t8:decide ((i:Int)<(its.length:Int))=EJ:=IJ U;obtain⟨x,hx⟩: ∃x,its[i]?=D x:=⟨_,JV hlt⟩;obtain⟨A4,c4,e0,e1,ob⟩:=iv.get hx;obtain⟨ga,rfl,h1,h2,cells⟩:=EEY ow hlt;have l4:=yk ob;obtain⟨-,hxo,-⟩:=qu.out x (aD hx)
    have Ni:Ed (wr.rangeAt ga (i*2) [E I x.1,.slice A4 x.2.length c4]):=J (by
     intro j v hj;match j,hj with
     |0,hj=>exact(cells 0 _ e0).trans hj
     |1,hj=>exact(cells 1 _ e1).trans hj
     |j+2,hj=>simp at hj)
    have OW:=J<|JD ow iv;have OB:=J<|JD ob.row (JD l4 hxo);have HX:=J hx;clear ow iv ob l4 hxo cells e0 e1 hx;have ci0:wr.cell? ⟨ga,i*2,Z⟩=D (E I x.1):=Ni.out 0 _ O;have ci1:wr.cell? ⟨ga,i*2+1,Z⟩=D (.slice A4 x.2.length c4):=Ni.out 1 _ O;go_wp2_with (with_reducible refine wA EiF (Ex.mk ?_));apply Es;clear ci0 ci1 Ni;obtain⟨gi,hgi⟩:=Eo wr.heap.size;have K0:=J<|H.new wr #[E I 0,G Z 0 0] 74;have b2:=Er wr (Eb #[E I 0,G Z 0 0] 74);rw[<-hgi] at K0⊢;generalize wr.alloc (Eb #[E I 0,G Z 0 0] 74)=w4 at*;have HGI:=J<|OC hgi.symm;clear hgi;go_wp2_with (with_reducible refine wS (cs:= #[E I x.1,.slice A4 x.2.length c4]) M8 K0 (Ex.mk ?_) (h1:=U9));apply Es;have KI:=J<|K0.out.setRow #[E I x.1,.slice A4 x.2.length c4];have b3:=EY (g:=gi) b2 HGI.out #[E I x.1,.slice A4 x.2.length c4];generalize w4.setRow gi #[E I x.1,.slice A4 x.2.length c4]=w5 at*;have i_:=Ew MM.out.lm (aH MM.out.Ek.lt);replace MB:=J<|MB.out.trans (Jw.ED b3 i_);replace MM:=J<|MM.out.B b3;replace KK:=J<|KK.out.B b3;replace RR:=J<|YY.out.B _ _ _ _ _ RR.out b3;replace OW:=J<|JD (EG OW.out.1 fun _ _ hk=>H.B hk b3) (OW.out.2.keep fun _ _ hk=>H.B hk b3);replace OB:=J<|JD (It OB.out.1 b3) OB.out.2;clear K0 b2 b3 HGI i_;go_wp2_with fail;have ym: ∀y:Ext w5,(EC w5 y).cell? ⟨gb,0,Z⟩=D (V (D ⟨a.gm,0,Z⟩)):=fun y=>(H.cell (KK.out.B (EQ y)).mb 0).trans O;have yc: ∀y:Ext w5,(EC w5 y).cell? ⟨a.gm,0,Z⟩=D (V (D ⟨a.gc,0,Z⟩)):=fun y=>(H.cell (MM.out.B (EQ y)).Ek 0).trans O;have ys: ∀y:Ext w5,(EC w5 y).cell? ⟨ge,1,Z⟩=D (E I e.src):=fun y=>(H.cell (KK.out.B (EQ y)).ev 1).trans O;refine NE 8 Ef Ef O O O (fun _ _ _ h=>h) ?_;simp only[Is,Iq,IT,IM]
    repeat (first
     |go_big_quiet_skip
     |(go_big_quiet_want
       first
        |(refine UV (T:=74) (g:=gi) M8 _ rfl rfl KI ?_ ?_;(·rfl);go_simp;go_big_quiet_on)
        |(go_big_quiet_op
          go_big_quiet_on)))
    refine I5 ?_;intro _ hw';obtain⟨y9,rfl⟩:=hw';have En:=EQ y9;have i_:=Ew MM.out.lm (aH MM.out.Ek.lt);replace MB:=J<|MB.out.trans (Jw.ED En i_);replace MM:=J<|MM.out.B En;replace KK:=J<|KK.out.B En;replace RR:=J<|YY.out.B _ _ _ _ _ RR.out En;replace OW:=J<|JD (EG OW.out.1 fun _ _ hk=>H.B hk En) (OW.out.2.keep fun _ _ hk=>H.B hk En);replace OB:=J<|JD (It OB.out.1 En) OB.out.2;clear En i_ ym yc ys KI;generalize EC w5 y9=w6 at*;refine xS 1 (.inl O) yq Ef ?_;simp only[Is,Iq,IT,IM];go_wp2_with fail;refine(Ehx lo g a.gc a.gq a.gt ci x.1 A4 x.2.length c4 x.2 e.src _ MM.out.core HS.out O OB.out.2.1.1 OB.out.2.1.2 (by have:=OB.out.2.2;omega) OB.out.1).mono ?_;rintro e2 w7 ⟨c',ns,new,sv,rv,sc,hd,rfl,XI,XF,os,Xu,C2,⟨hns,hR⟩,mm⟩;go_wp2_with fail;have RW:=YY.out.mu ci mi ni w6 w7 RR.out mm;have hl1:=(bR.len HW.out);rw[ar] at hl1;refine FZ (Eh O) (YY.out.FX ci c' mi ni w7 sv rv ns new sc hd w6.heap.size RW XI XF os Xu (by have:=jV.out;have:=HN.out;omega) J_ U (by have:=hR.len;omega)) (fun nx hy=> ?_) (fun _ h=>UL) ?_;·simp[go_sem,hy]
    rintro e3 w8 ⟨rfl,r3,y3⟩;refine⟨_,O,?_⟩;refine xS 1 (.inl O) yq Ef ?_;simp only[Is,Iq,IT,IM];go_wp2_with fail;refine wpListIn_nil ?_;go_wp2_with fail;go_roundw
    case rel=>
     have hhi:=YY.out.gT _ _ _ _ RR.out;have e9:its.take (i+1)=its.take i++[x]:=by rw[nG,HX.out];rfl
     refine⟨i+1,c',mi+ns,ni++new,O,U,by have:=jV.out;omega,?_,(MM.out.mut mm C2).y y3 YY.out.lh,(KK.out.mut mm).y y3,r3,MB.out.trans ((Jw.yo mm YY.out.lh hhi (E3 _)).trans (Jw.uj y3 YY.out.lh)),?_,?_⟩;·rw[e9];exact bR.snoc HW.out hR
     ·exact EG OW.out.1 fun _ _ hk=>y3.Ek _ _ _ EU (mm.Ek hk EU EU)
     ·exact OW.out.2.keep fun _ _ hk=>y3.Ek _ _ _ EU (mm.Ek hk EU EU)
    case measure=>simp[In];omega
   ·have t8:decide ((i:Int)<(its.length:Int))=EI:=IZ U;go_wp2;go_end0;have hw:=HW.out;rw[OP U] at hw;have hl1:=hw.len;refine⟨⟨_,O⟩,ci,j_,mi,ni,MM.out,RR.out,.inl ⟨HK.out,HS.out.1,HS.out.2,its,r,HP.out,dE.out,hw⟩,J_,MB.out⟩
theorem EiL(lo hi l ge gb:Nat)(g:Nat->Y)(a:Oh)(c:Ey)(rs:Int->List Int)(e:JX)(A:Option Ep)(d:Nat)(RA:Ey->Nat->List Rec->M->Prop)(w:M)(Y7:oF lo hi l RA)(Y8:I7 lo g a c rs w)(K:X4 ge gb e A d a.gm w)(R0:RA c 0 [] w)(hx:e.ok)(hb:e.b.length<=1000)(hr:Row w A e.b): Eg EZ 47 #[.func (.yield l) #[] #[],V (D ⟨ge,0,Z⟩),V (D ⟨gb,0,Z⟩)] w (oG lo hi g a e c rs RA w):=by
 by_cases h0:e.kind=0
 ·by_cases hs:1<=e.src/\e.src<=3;·exact EiG lo hi l ge gb g a c rs e A d RA w Y7 Y8 K R0 h0 hs hb hr
  ·exact EiC lo hi l ge gb g a c rs e A d RA w Y7 Y8 K R0 h0 hs
 ·by_cases h1:e.kind=1;·exact EiA lo hi l ge gb g a c rs e A d RA w Y7 Y8 K R0 h1 hx
  ·by_cases h2:e.kind=2;·exact Eiy lo hi l ge gb g a c rs e A d RA w Y7 Y8 K R0 h2
   ·by_cases h3:e.kind=3;·exact Eix lo hi l ge gb g a c rs e A d RA w Y7 Y8 K R0 h3
    ·exact EiB lo hi l ge gb g a c rs e A d RA w Y7 Y8 K R0 ⟨h0,h1,h2,h3⟩
theorem EiM{α:Type}(f:α->Tmp×Y->α)(p:Tmp)(v:Y)(t:α):(#[p].zip #[v]).foldl f t=f t (p,v):=by simp[Array.zip]
theorem EiN{f:FuncId}{fn:Func}{c:Code}{args:Array Y}{w:M}{R:Ud->M->Prop}(hf:P.funcs[f]?=D fn)(hb:fn.body=D c) (h:c.wp P (bodyPostM X0 9 P fn R) {tmps:=args++b_ (fn.ntmps-args.size) I6,defers:=[]} w):Eg P f args w R:=
 callsIn_wide.1 (callsIn_of_wp_marks (n:=9) hf hb trivial (wpIn_wide.2 h) O)
theorem EiP{g:J5}{ps:Array Tmp}{assign body:Code}{w:M}(gf:Nat)(lb:Array Y)(hg:a.eval g= .func (.func gf) #[] lb)(eg: ∀args w,(Jm gf args).run P w= .ok (.enter gf args) w) (h: ∀(fn:FuncId) (rc:Loop),rc={state:= .ready,pending:=Z,fn,tmps:=a.tmps,params:=ps,assign,body,defers:=w.heap.size}-> Eg P gf (#[.func (.yield (w.heap.size+1)) #[] #[]]++lb) ((w.alloc (.deferred (D []))).alloc (.loop rc)) (rangePost X0 9 P (w.heap.size+1) Q {a with defers:={target:= .collected w.heap.size,args:= #[]}::a.defers})):(Code.rangeFunc g ps assign body).wp P Q a w:=by
 refine(wpIn_wide (n:=9)).1 (wpIn_rangeFunc ?_);intro fn _;obtain⟨rc,hrc⟩:=Eo ({state:= .ready,pending:=Z,fn,tmps:=a.tmps,params:=ps,assign,body,defers:=w.heap.size}:Loop);refine⟨w.heap.size+1,[{target:= .collected w.heap.size,args:= #[]}],(w.alloc (.deferred (D []))).alloc (.loop rc),{target:= .fn (.func gf) lb,args:= #[.func (.yield (w.heap.size+1)) #[] #[]]},(w.alloc (.deferred (D []))).alloc (.loop rc),gf,#[.func (.yield (w.heap.size+1)) #[] #[]]++lb,(w.alloc (.deferred (D []))).alloc (.loop rc),?_,?_,fun _ _=>trivial,?_,fun _=>U,?_⟩;·rw[hrc];exact run_enterLoop_outer _ _ _ _ _
 ·simp only[resolve,hg];simp[go_sem]
 ·simp[invoke,go_sem,eg]
 ·exact callsIn_wide.2 (h fn rc hrc)
structure aW(lo hi ga gr l Y_:Nat)(rc:Loop)(c:Ey)(m:Nat)(new:List Rec)(W:M):Prop where
 all: ∃(A1 A2:Option Ep) (c1 c2:Nat) (sc:ta) (hd:List Int),H W ga (Jh (OZ c) (G A1 m c1) (G A2 new.length c2) hd).toArray 43/\hd.length=32/\(∀x∈hd,0<=x/\x<=255)/\W.ownsRow hi 264 2 (G A1 m c1) m sc.l/\W.ownsRow hi 58 6 (G A2 new.length c2) new.length (UC new)
 res: ∃z:Array Y,z.size=46/\H W gr z 43
 ne:ga≠gr
 lp:W.heap[l]?=D (.loop rc)
 df:W.heap[Y_]?=D (.deferred (D []))
 hga:hi<=ga
 hgr:hi<=gr
 hl:hi<=l
 hD:hi<=Y_
 lh:lo<=hi
theorem aW.gT{hi:Nat}{new:List Rec}(h:aW lo hi ga gr l Y_ rc c m new W):hi<=W.heap.size:=by obtain⟨z,-,k⟩:=h.res;have:=k.lt;have:=h.hgr;omega
theorem aW.via{hi:Nat}{new:List Rec}(h:aW lo hi ga gr l Y_ rc c m new W)(hb: ∀k cs S,S=43\/S=264\/S=58->H W k cs S->H W' k cs S)(ho: ∀(k:Nat) (o:Obj),W.heap[k]?=D o->o.isCells=EI->W'.heap[k]?=D o):aW lo hi ga gr l Y_ rc c m new W':=by obtain⟨A1,A2,c1,c2,sc,hd,k,x1,x2,r1,r2⟩:=h.all;obtain⟨z,hz,kz⟩:=h.res;exact⟨⟨A1,A2,c1,c2,sc,hd,hb _ _ _ (.inl O) k,x1,x2,EG r1 fun _ _=>hb _ _ _ (.inr (.inl O)),EG r2 fun _ _=>hb _ _ _ (.inr (.inr O))⟩,⟨z,hz,hb _ _ _ (.inl O) kz⟩,h.ne,ho _ _ h.lp O,ho _ _ h.df O,h.hga,h.hgr,h.hl,h.hD,h.lh⟩
theorem aW.B{hi:Nat}{new:List Rec}(h:aW lo hi ga gr l Y_ rc c m new W)(hb:El W W'):aW lo hi ga gr l Y_ rc c m new W':=
 h.via (fun _ _ _ _ hk=>hk.B hb) fun k o ho _=>(hb.block k (J3.1 ho).1).trans ho
theorem aW.mu{hi:Nat}{new:List Rec}(h:aW lo hi ga gr l Y_ rc c m new W)(hb:EA lo W.heap.size W W'):aW lo hi ga gr l Y_ rc c m new W':=
 h.via (fun _ _ _ hS hk=>hb.old hk EE1 hk.lt) fun k o ho hc=>hb.obj (J3.1 ho).1 ho hc
theorem aW.only{hi:Nat}{new:List Rec}(h:aW lo hi ga gr l Y_ rc c m new W)(K:H W gs cs 122)(ho:E7 gs W W'):aW lo hi ga gr l Y_ rc c m new W':=
 h.via (fun _ _ _ hS hk=>ho.Ek hk (E6 hk K EE1)) fun k o hk hc=>(ho.keep k (fun e=>by subst e;have K2:W.heap[k]?=D (Eb cs 122 (0,0)):=K;rw[K2] at hk;injection hk with hk;subst hk;cases hc) (J3.1 hk).1).trans hk
theorem uk{g:Nat}(K:H W g (Jh act sv rv hd).toArray 43)(h:act.length=12):W.cell? ⟨g,12,Z⟩=D sv/\W.cell? ⟨g,13,Z⟩=D rv:=by
 have e:=H.cell K;constructor;·rw[e,J2];unfold Jh;rw[aE U,h];rfl
 ·rw[e,J2];unfold Jh;rw[aE U,h];rfl
theorem EiQ(sv rv:Y)(hd:List Int)(h:act.length=12):(Jh act sv rv hd).toArray.extract 0 12=act.toArray:=by unfold Jh;simp[h]
theorem EiR(sv rv:Y)(hd:List Int)(h:act.length=12)(h32:hd.length=32):(Jh act sv rv hd).toArray.extract 14 (14+32)=(Em hd):=by unfold Jh Em;rw[List.extract_toArray];congr 1;rw[List.extract_eq_take_drop,<-U7,List.drop_left' xc];exact OP (by simp[h32])
theorem rz:IL EZ 38 12:=⟨⟨_,Tryz.underlying38,O⟩,Ef⟩
theorem jO(c:Ey):(OZ c).length=12:=rfl
theorem EiS(c:Ey): ∀Y3∈OZ c,Y3.oneCell'=EJ:=by intro Y3 hu;simp only[OZ,UJ,Um,or_false] at hu;rcases hu with rfl|rfl|rfl|rfl|rfl|rfl|rfl|rfl|rfl|rfl|rfl|rfl<;>rfl
theorem EiT:Od EZ 43 (Jh [E I 0,E I 0,E I 0,E I 0,E I 0,E I 0,E I 0,E I 0,E I 0,E I 0,E I 0,E I 0] (G Z 0 0) (G Z 0 0) (Ev 32)).toArray:=by exact En5
theorem EiV{g:Nat}{yr:List Y}(K:H W g (Jh act sv rv hd).toArray 43)(h:act.length=12)(h2:yr.length=12):H (W.setCells g 0 yr) g (Jh yr sv rv hd).toArray 43:=
 Zm (post:=[sv,rv]++hd.map (E .u8)) yr act [] 0 W K U O
theorem EiW{g:Nat}(Y3:Y)(K:H W g (Jh act sv rv hd).toArray 43)(h:act.length=12):H (W.setCell ⟨g,12,Z⟩ Y3) g (Jh act Y3 rv hd).toArray 43:=by have:=Zm (g:=g) (post:=[rv]++hd.map (E .u8)) (S:=43) [Y3] [sv] act 12 W Nj O h;simpa[Jh,World.setCells] using this
theorem EiY{g:Nat}(Y3:Y)(K:H W g (Jh act sv rv hd).toArray 43)(h:act.length=12):H (W.setCell ⟨g,13,Z⟩ Y3) g (Jh act sv Y3 hd).toArray 43:=by have:=Zm (g:=g) (post:=hd.map (E .u8)) (S:=43) [Y3] [rv] (act++[sv]) 13 W Nj O xc;simpa[Jh,World.setCells] using this
theorem Ei0{g:Nat}{hd2:List Int}(K:H W g (Jh act sv rv hd).toArray 43)(h:act.length=12)(h1:hd.length=32)(h2:hd2.length=32):H (W.setCells g 14 (hd2.map (E .u8))) g (Jh act sv rv hd2).toArray 43:=by have:=Zm (g:=g) (post:=[]) (S:=43) (hd2.map (E .u8)) (hd.map (E .u8)) (act++[sv,rv]) 14 W Nj (by simp[h1,h2]) xc;simpa[Jh] using this
theorem Z7{o:Obj}(h:W.heap[l]?=D o)(hc:o.isCells=EI)(K:H W k cs S):H (W.putObj l o2) k cs S:=by refine(World.putObj_heap_other fun e=> ?_).trans K;subst e;have K2:W.heap[k]?=D (Eb cs S (0,0)):=K;rw[h] at K2;injection K2 with K2;subst K2;cases hc
theorem Fa{hi:Nat}{o:Obj}(h:W.heap[l]?=D o)(hc:o.isCells=EI)(hl:hi<=l):fI hi W (W.putObj l o2):=
 ⟨⟨O,O,O,Ej,fun k hk=>World.putObj_heap_other U⟩,fun _ _ _ _ hk=>Z7 h hc hk⟩
theorem yt{hi g:Nat}(ho:E7 g W W')(K:H W g cs S)(hS:yn.contains S=EJ)(hg:hi<=g)(hw:hi<=W.heap.size):fI hi W W':=
 ⟨ho.bel hi hg hw,fun k c T hT hk=>ho.Ek hk (E6 hk K EE3)⟩
theorem EE4{hi:Nat}{e:EB}{xs:List Y}(hown:W.ownsRow base e size v n xs)(hg:W.grownBy W' v.ownBlock)(he:yn.contains e=EJ)(hb:hi<=base)(hw:base<=W.heap.size):fI hi W W':=
 ⟨(Nh hown hg hw).mono hb,fun k c T hT hk=>ry hown hg hk (by rintro rfl;rw[he] at hT;cases hT)⟩
theorem Ei1(l:List Rec): ∀Y3∈UC l,Y3.oneCell'=EJ:=by intro Y3 hu;obtain⟨x,-,hx⟩:=List.mem_flatMap.1 hu;simp only[Rec.v,UJ,Um,or_false] at hx;rcases hx with rfl|rfl|rfl|rfl|rfl|rfl<;>rfl
theorem Ei2(h1:rc.state= .ready)(h2:rc.pending=Z):({({rc with state:= .busy}:Loop) with state:=if(Z:Option Code).isNone=true then .ready else .done,pending:=Z}:Loop)=rc:=by cases rc;simp at h1 h2;simp[h1,h2]
end Go.Proofs.YtclmichaaiohjaaGreatDoor
