import Derived.Test.YtclmichaaiohjaaGreatDoorU10
import Derived.Lib.BytesEntry
import Derived.OrdersIn
import Derived.RangeFuncLeaves
import Derived.RangeFuncNested
import Derived.WalkMore
set_option maxRecDepth 100000
set_option linter.unusedVariables false
set_option linter.unusedSimpArgs false
set_option maxHeartbeats 6400000
namespace Go.Proofs.YtclmichaaiohjaaGreatDoor
open RowKit
open _root_.Array renaming replicate->bh,getElem?_eq_some_iff->J6,getElem?_eq_getElem->j7
open Bool renaming true->EI,false->B,or_eq_true->mf,and_eq_true->Oc
open Classical renaming byContradiction->rg
open Go renaming bits->Iu,World->H,Calls->Ef,TypeId->EB,Value->Y,Addr->Eu,Program->Jh,bodyPost_ret->EV,binOp->XW,results->UL,Act->E6,Oper->EL,yielded->JO,execOp->If,wpList->Ic,undef->I2,getD_set_ne->aI,mem_ready->Zz,Operand->J7,info_parts->bz,madeCells->aL,below_setRow->E2,wpQuiet_nil->I1,wp_loop_rounds->Ud,rounds_succ->Ij,Ending->Uh,wpListIn->ax
open Act renaming put->Ig
open Builtin renaming append_->bv
open Code renaming region->aG
open Ending renaming returned->Eg
open Fence renaming wide->XT
open IntKind renaming i64->I,u8->IL
open Lib renaming hid->J
open Obj renaming cells->EJ
open Oper renaming wp->dI
open Go.Proofs.Tryz renaming prog->Eb
open Region renaming wanted->I5,binds->UN,ready->j6
open Result renaming andThen_ok->OC
open RowKit renaming Below->Ik,Hid->Ec,intOf->Ir
open RowKit.Below renaming refl->E9,size->U8
open Sem renaming run_bind->Oz,run_pure->Og
open Value renaming bool->EU,int->E,agg->EZ,slice->G,tuple->Et,pointer->M,oneCell'->OF,ownBlock->mx
open World renaming ownsRow_nil->bN,ownsRow_lit->oC,ownsRow->cu
open Int renaming toNat_natCast->mO,eq_ofNat_of_zero_le->jU
open List renaming eq_nil_of_length_eq_zero->aF,getElem?_eq_getElem->J5,range->U4,mem_range->aH,mem_cons_of_mem->aJ,mem_cons_self->gS,all_eq_true->Xk,getElem?_eq_some_iff->Xx,mem_iff_getElem?->fC,take_append_drop->gT,drop_eq_getElem_cons->mg,length_take->aO,take_of_length_le->OY,getD_eq_getElem?_getD->Uq,map_cons->Uv,map_nil->Xn,take_zero->Io,getElem?_toArray->OE,setIfInBounds_toArray->Ii,length_append->IY,length_cons->ZC,mem_cons->UJ,append_assoc->XI,set_cons_succ->Ia,set_cons_zero->Ib,mem_append->XM,map_append->kU,nil_append->ZV,length_drop->mB,not_mem_nil->UA,append_nil->fS,take_add_one->nE,all_cons->Z0,mem_of_getElem?->dn
open Nat renaming lt_or_ge->JY,le_trans->Ez,le_refl->E7,zero_add->OD,add_assoc->jj,le_of_lt->am,le_of_eq->Om
open Ne renaming symm->ZE
open Option renaming some->Z,none->X
open Option.some renaming inj->dQ
variable{o o0:EL}{F:Fence}{K:E6->H->Prop}{l:List EL}{id m k b base gs size n lo:Nat}{a0:E6}{w0 W W' w':H}{x:J7}{T e S:EB}{A:Option Eu}{c:Ey}{z:Array Y}{v:Y}{g:Nat->Y}{rs:Int->List Int}
section
variable{P:Program}{ops:Array Oper}{Q:Exit->Act->World->Prop}{C:World->Prop}{n:Nat}
theorem Egj{ro:Option Nat}(hd: ∀c,o.op≠ .defer c)(ρ:J7->Y):o.semAt ro ρ=If ρ o:=Oper.semAt_eq ro ρ o hd
theorem Yc{row:String}{args:Array Y}{w:H}{R:Y->H->Prop}(h:Rows P row args w R):RowsIn XT n P row args w R:=
 fun c cs _=>let ⟨v,w',r,s⟩:=h c cs;⟨v,w',r,stepsIn_wide.2 s⟩
theorem Yd(hF:F=XT\/ ∃l,F=Fence.wide.inRound l)(hd:F=XT\/ ∀c,o.op≠ .defer c){a:E6}{w:H}(hq: ¬LetsOut Q)(h:o.wp P a w K Q):o.wpIn F n P a w K Q:=by
 have hs:o.semAt F.round a.eval=If a.eval o:=by
  rcases hd with rfl|hd;·rfl
  ·exact Egj hd _
 have hf: ∀f,F.fn f:=fun f=>Yf
 have hc: ∀{f args w R},Ef P f args w R->CallsIn F (n-1) P f args w R:=fun h=>by
  rcases hF with rfl|⟨l,rfl⟩;·exact callsIn_wide.2 h
  ·exact CallsIn.inRound (F:=XT) l (callsIn_wide.2 h)
 have hr: ∀{row args w R},Rows P row args w R->RowsIn F (n-1) P row args w R:=fun h=>by
  rcases hF with rfl|⟨l,rfl⟩;·exact Yc h
  ·exact Yc (n:=n-1) h
 have hdp:F.depth.isSome=EI->1<=n:=fun h=>by rcases hF with rfl|⟨l,rfl⟩<;>cases h
 refine⟨fun f _=>hf f,?_⟩;rw[hs];unfold dI at h;generalize (If a.eval o).run P w=r at*;cases r with
 |ok x w'=>
  cases x<;>simp only[Oper.upon,Oper.uponIn] at h⊢ <;>
   first
    |exact h
    |exact⟨hdp,hc h⟩
    |exact⟨hdp,hr h⟩
    |exact h.elim
 |halt x w'=>cases x<;>simp only[Oper.upon,Oper.uponIn] at h⊢ <;>exact h
theorem Egk{a:E6}{w:H}(h:o.wp P a w K (fun _ _ _=>False)):o.wpIn XT n P a w K Q:=by
 have h1:=Yd (n:=n) (F:=XT) (.inl O) (.inl O) tX h;unfold Oper.wpIn at*;refine⟨h1.1,?_⟩;have h1:=h1.2;generalize (o.semAt Fence.wide.round a.eval).run P w=r at*;cases r with
 |ok x w'=>
  cases x<;>simp only[Oper.uponIn] at h1⊢ <;>
   first
    |exact h1
    |exact⟨h1.1,CallsIn.mono h1.2 (fun e w'' he=>by cases e<;>first|exact he|exact he.elim|exact Yg)⟩
    |exact⟨h1.1,RoundIn.mono h1.2 (fun e w'' he=>by cases e<;>first|exact he|exact he.elim|exact Yg)⟩
 |halt x w'=>cases x<;>simp only[Oper.uponIn] at h1⊢ <;>exact h1.elim
def tZ(l:List EL):Bool:=l.all fun o=>match o.op with| .defer _=>false|_=>true
theorem Egl(h:tZ l=EI)(ho:o∈l): ∀c,o.op≠ .defer c:=fun c e=>by have:=Xk.1 h o ho;rw[e] at this;cases this
theorem DI{F:Fence}(hF:F=XT\/ ∃l,F=Fence.wide.inRound l)(hq: ¬LetsOut Q): ∀(l1 l2:List EL) (a:E6) (w:H),tZ l1=EI-> Ic P ops (Exit.then (ax F n P ops Q l2) Q) l1 a w->ax F n P ops Q (l1++l2) a w
 |[],_,_,_,_,h=>h
 |o::l1,l2,a,w,hd,h=>by
  have hd2:tZ l1=EI:=by unfold tZ at*;rw[Z0,Oc] at hd;exact hd.2
  have hq': ¬LetsOut (Exit.then (ax F n P ops Q l2) Q):=fun⟨a,w,h⟩=>hq ⟨a,w,h⟩;unfold Ic at h;rw[List.cons_append];unfold ax;split
  ·rename_i hw;rw[if_pos hw] at h;rcases h with h|⟨_,h⟩
   ·have h1:=Yd (n:=n) hF (.inr (Egl hd (gS ..))) hq' h;unfold Oper.wpIn at*;refine⟨h1.1,?_⟩;have h1:=h1.2;generalize (o.semAt F.round a.eval).run P w=r at*;have ih:=fun a w h=>DI hF hq l1 l2 a w hd2 h;cases r with
    |ok x w'=>
     cases x<;>simp only[Oper.uponIn] at h1⊢ <;>
      first
       |exact ih _ _ h1
       |exact⟨h1.1,CallsIn.mono h1.2 (fun e w'' he=>Yh)⟩
       |exact⟨h1.1,RowsIn.mono h1.2 (fun _ _ he=>ih _ _ he)⟩
       |exact⟨h1.1,RoundIn.mono h1.2 (fun e w'' he=>Yh)⟩
    |halt x w'=>cases x<;>simp only[Oper.uponIn] at h1⊢ <;>exact h1
   ·exact absurd h hq'
  ·rename_i hw;rw[if_neg hw] at h;exact⟨fun f _=>Yf,DI hF hq l1 l2 _ w hd2 h⟩
theorem xI(m:Nat){a:E6}{w:H}(hF:F=XT\/ ∃l,F=Fence.wide.inRound l)(hq: ¬LetsOut Q)(hd:tZ (l.take m)=EI)(h:Ic P ops (Exit.then (ax F n P ops Q (l.drop m)) Q) (l.take m) a w):ax F n P ops Q l a w:=by have:=DI (n:=n) hF hq (l.take m) (l.drop m) a w hd h;rwa [gT] at this
theorem xJ{l:Nat}{os:List EL}{a:E6}{w:H}(hq: ¬LetsOut Q)(hd:tZ os=EI)(h:Ic P os.toArray Q os a w):(aG id os.toArray B).wpIn (Fence.wide.inRound l) n P Q a w:=by
 refine wpIn_region_lit ?_;have:=DI (P:=P) (F:=Fence.wide.inRound l) (n:=n) (ops:=os.toArray) (.inr ⟨l,O⟩) hq os [] a w hd ?_;·rwa [fS] at this
 ·have hm: ∀e a w,Q e a w->Exit.then (ax (Fence.wide.inRound l) n P os.toArray Q []) Q e a w:=fun e a w h=>by cases e<;>exact h
  have hqq:(Exit.then (ax (Fence.wide.inRound l) n P os.toArray Q []) Q)=Q:=by funext e a w;cases e<;>rfl
  rw[hqq];exact h
def xO(ops:Array EL)(m:Nat):Bool:=
 (U4 ops.size).all fun i=>match ops[i]? with
  |none=>B
  |some o=>o.after.all (fun e=>decide (e.on<i))&&(decide (i<m)||(U4 i).all fun j=>decide (j=0)||(U4 (i+1)).any fun k=>decide (j<k)&&match ops[k]? with
   |some p=>p.after.any fun e=>UN .any e&&e.on==j
   |none=>B)
theorem xU(h:xO ops m=EI){i:Nat}(ho:ops[i]?=Z o):(∀e∈o.after,e.on<i)/\(m<=i-> ∀j,j<i->j≠0-> ∃k p,j<k/\k<=i/\ops[k]?=Z p/\ ∃e∈p.after,UN .any e=EI/\e.on=j):=by
 have hi:=(J6.1 ho).1;have h1:=Xk.1 h i (aH.2 hi);simp only[ho,Oc,mf,decide_eq_true_eq] at h1;refine⟨fun e he=> ?_,fun hm j hj h0=> ?_⟩;·exact Epw
 ·rcases h1.2 with h2|h2;·omega
  ·have h3:=Xk.1 h2 j (aH.2 hj);simp only[mf,decide_eq_true_eq] at h3;rcases h3 with h3|h3;·exact absurd h3 h0
   ·obtain⟨k,hk,hk2⟩:=List.any_eq_true.1 h3;have hk1:=aH.1 hk;simp only[Oc,decide_eq_true_eq] at hk2;obtain⟨hjk,hk3⟩:=hk2;cases hp:ops[k]? with
    |none=>rw[hp] at hk3;cases hk3
    |some p=> rw[hp] at hk3;obtain⟨e,he,hb⟩:=Array.any_eq_true'.1 hk3;simp only[Oc,beq_iff_eq] at hb;exact⟨k,p,hjk,U,hp,e,he,hb.1,hb.2⟩
theorem Yi(hB:xO ops m=EI){listed:Array Bool}(hs:listed.size=ops.size)(hc:dP ops listed)(h0:listed.getD 0 EI=EI){i:Nat}(hi:i∈j6 .any ops listed)(hm:m<=i): ∀j,j<i->listed.getD j EI=EI:=by
 obtain⟨h1,o,ho,hall⟩:=Zz.1 hi;have hin:=(J6.1 ho).1
 have key: ∀d j,i-j=d->j<i->listed.getD j EI=EI:=by
  intro d;induction d using Nat.strongRecOn with
  |ind d ih=>
   intro j hd hj;by_cases hj0:j=0;·subst hj0;exact h0
   ·obtain⟨k,p,hjk,hki,hp,e,he,hb,heq⟩:=(xU hB ho).2 hm j hj hj0;by_cases h:k=i;·subst h;have:p=o:=dQ (hp.symm.trans ho);subst this;have h3:=hall e he hb;rw[heq] at h3;have h5:j<listed.size:=U;simpa[h5] using h3
    ·exact EoR
 exact fun j hj=>key _ j O hj
theorem Egm(ho:ops[k]?=Z o)(rest:List EL)(a:E6)(w:H)(h:ax XT n P ops Q (o::rest) a w):wpOpIn XT n P ops Q k (ax XT n P ops Q rest) a w:=by unfold wpOpIn;simp only[ho];unfold ax at h;exact h
theorem Yj(hB:xO ops m=EI)(hm0:1<=m): ∀(fuel k:Nat) (listed:Array Bool) (a:E6) (w:H),m<=k->k<=ops.size->ops.size-k<=fuel->listed.size=ops.size-> (∀j,j<ops.size->listed.getD j EI=decide (j<k))->dP ops listed->ax XT n P ops Q (ops.toList.drop k) a w->wpAnyIn XT n P .any ops Q fuel listed a w:=by
 intro fuel;induction fuel with
 |zero=> intro k listed a w hm hk hf hs hl hc h;have hkn:k=ops.size:=U;subst hkn;rw[List.drop_of_length_le Eh] at h;refine wpAnyIn_done ?_ h 0;rw[List.eq_nil_iff_forall_not_mem];intro j hj;obtain⟨h1,o,ho,-⟩:=Zz.1 hj;have hjn:=(J6.1 ho).1;rw[hl j hjn] at h1;simp at h1;omega
 |succ fuel ih=>
  intro k listed a w hm hk hf hs hl hc h;rcases JY k ops.size with hlt|hge
  ·have ho:ops[k]?=Z ops[k]:=j7 hlt;have hd:ops.toList.drop k=ops[k]::ops.toList.drop (k+1):=by rw[mg (by simpa using hlt)];simp
   rw[hd] at h;have hmem:k∈j6 .any ops listed:=by refine Zz.2 ⟨by rw[hl k hlt];simp,_,ho,fun e he _=> ?_⟩;have h1:=(xU hB ho).1 e he;exact EoO
   refine⟨fun h0=>(by rw[h0] at hmem;cases hmem),fun i hi=> ?_⟩;obtain⟨h1,o,hoi,hall⟩:=Zz.1 hi;have hin:=(J6.1 hoi).1;have hki:k<=i:=by rw[hl i hin] at h1;simp at h1;exact h1
   have hik:i=k:=by
    rcases JY k i with h2|h2;·have h3:=Yi hB hs hc (by rw[hl 0 U];exact IU U) hi U k h2;rw[hl k hlt] at h3;simp at h3
    ·omega
   subst hik;refine wpOpIn_mono (fun a' w' h'=>ih (i+1) (listed.setIfInBounds i EI) a' w' U U U oh (fun j hj=> ?_) (hc.set hs hi) h') (Egm ho _ a w h);by_cases e:i=j;·subst e;exact Enz
   ·exact EpZ
  ·have hkn:k=ops.size:=U;subst hkn;rw[List.drop_of_length_le Eh] at h;refine wpAnyIn_done ?_ h _;exact EnJ
theorem Egn{i:Nat}{a:E6}{K:E6->Prop}{K':E6->H->Prop}{w:H}(hC:C w)(h: ∀a w',C w'->K a->K' a w')(hh:qOp P ops C i K a):wpOpIn XT n P ops Q i K' a w:=by
 have h1:=wpOp_of_qOp (Q':=fun _ _ _=>False) hC h hh;unfold wpOp at h1;unfold wpOpIn;split;·rename_i ho;rw[ho] at h1;exact h1
 ·rename_i o ho;rw[ho] at h1;simp only at h1;split
  ·rename_i hw;rw[if_pos hw] at h1;rcases h1 with h1|⟨_,_,_,h1⟩;·exact Egk h1
   ·exact h1.elim
  ·rename_i hw;rw[if_neg hw] at h1;exact⟨fun _ _=>trivial,h1⟩
theorem Ego(hB:xO ops m=EI)(hm0:1<=m)(hmn:m<=ops.size){F:(Nat->Y)->E6}{y:Nat->Y} (hF: ∀i o x v,i<m->ops[i]?=Z o->(F x).put o.dst v=F (Oo x i v)) (hstep: ∀i o x,i<m->ops[i]?=Z o->(∀e∈o.after,UN .any e=EI->x e.on=y e.on)->YieldsIn P ops C o (y i) (F x)) (hend: ∀x w,C w->(∀i,i<m->x i=y i)->ax XT n P ops Q (ops.toList.drop m) (F x) w): ∀(fuel:Nat) (listed:Array Bool) (x:Nat->Y) (w:H),(XF ops listed).length<=fuel->listed.size=ops.size->listed.getD 0 EI=EI->(∀j,m<=j->j<ops.size->listed.getD j EI=B)->dP ops listed->C w-> (∀i,i<m->listed.getD i EI=EI->x i=y i)->wpAnyIn XT n P .any ops Q fuel listed (F x) w:=by
 intro fuel;induction fuel with
 |zero=>
  intro listed x w hf hs hl0 ht hc hb hr
  have hall: ∀j,j<ops.size->listed.getD j EI=EI:=by
   intro j hj;cases hc:listed.getD j EI;·exact Emr
   ·rfl
  have hm:m=ops.size:=by
   rcases JY m ops.size with h|h;·exact EnY
   ·omega
  refine Yj hB hm0 0 m listed _ w (E7 _) hmn U hs (fun j hj=>by rw[hall j hj,IU U]) hc (hend x w hb fun i hi=>hr i hi (hall i U))
 |succ fuel ih=>
  intro listed x w hf hs hl0 ht hc hb hr;by_cases hall: ∀j,j<m->listed.getD j EI=EI
  ·have hlen:ops.size-m<=fuel+1:=by
    have hsub:(List.range' m (ops.size-m)).length<=(XF ops listed).length:=by
     apply List.Nodup.length_le_of_subset;·exact List.nodup_range'
     ·exact Emu
    simp at hsub;omega
   refine Yj hB hm0 (fuel+1) m listed _ w (E7 _) hmn hlen hs (fun j hj=> ?_) hc (hend x w hb fun i hi=>hr i hi (hall i hi));rcases JY j m with h|h;·rw[hall j h,IU h]
   ·rw[ht j h hj,IJ U]
  ·refine⟨fun h0=> ?_,fun i hi=> ?_⟩
   ·exfalso
    have hex: ∃j,j<m/\listed.getD j EI=B:=by
     apply rg;intro hno
     exact hall fun j hj=>by
      cases hc:listed.getD j EI;·exact Eo_
      ·rfl
    have hmin: ∃j,(j<m/\listed.getD j EI=B)/\ ∀k,k<j-> ¬(k<m/\listed.getD k EI=B):=by
     obtain⟨j,hj⟩:=hex;induction j using Nat.strongRecOn with
     |ind j ol=>
      by_cases h: ∃k,k<j/\(k<m/\listed.getD k EI=B);·exact EnA
      ·exact Enm
    obtain⟨j,⟨hjm,hj⟩,hlt⟩:=hmin;have hjn:j<ops.size:=U;have ho:ops[j]?=Z ops[j]:=j7 hjn
    have:j∈j6 .any ops listed:=by
     refine Zz.2 ⟨hj,_,ho,fun e he _=> ?_⟩;have h1:=(xU hB ho).1 e he;have h2:=hlt e.on h1;have h3:e.on<listed.size:=U;cases hc:listed.getD e.on EI;·exact absurd ⟨U,hc⟩ h2
     ·simpa[h3] using hc
    rw[h0] at this;cases this
   ·obtain⟨h1,o,ho,oo⟩:=Zz.1 hi;have hin:=(J6.1 ho).1;have him:i<m:=by apply rg;intro hge;apply hall;intro j hj;exact Yi hB hs hc hl0 hi U j U
    have hi0:i≠0:=fun e=>by subst e;rw[hl0] at h1;cases h1
    have hdr: ∀e∈o.after,UN .any e=EI->x e.on=y e.on:=by intro e he hb';have h3:=oo e he hb';have h4:=(xU hB ho).1 e he;exact EoE
    have st:=hstep i o x him ho hdr;refine Egn (C:=C) (K:=fun a'=>a'=F (Oo x i (y i))) hb (fun a' w' hw' ha'=> ?_) (st.qOp ho ?_)
    ·subst ha';have hlt:=tN hs hin h1;refine ih _ _ w' U oh (by rw[aI EI hi0];exact hl0) (fun j hj hjn=> ?_) (hc.set hs hi) hw' (fun j hj hl=> ?_);·rw[aI EI U];exact ht j hj hjn
     ·by_cases hji:j=i;·subst hji;rw[mX]
      ·exact Eoq
    ·exact hF i o x (y i) him ho
def MZ(l:List EL)(m:Nat):Bool:=xO l.toArray m&&decide (1<=m)&&decide (m<=l.length)&&Region.noSelect (l.take m).toArray&&decide (O9 (l.take m)).Nodup&&rd (l.take m) l.toArray&&Region.noSelect l.toArray&&Region.free .any l.toArray (bh l.length B) 0&&(j6 .any l.toArray (bh l.length B)).contains 0
theorem Egp(m:Nat)(hm:P.follows .mixedOrders=EI)(hB:MZ l m=EI)(ho0:l[0]?=Z o0)(hx:o0.op= .move x)(hg0:o0.guard=X)(hQ: ∀c a w,Q (.panic c) (a.put o0.dst (a0.eval x)) w->Q (.panic c) a w) (hC:C w0.drew) (h:wpQuiet P l.toArray C (fun a'=> ∀w',C w'->ax XT n P l.toArray Q (l.drop m) a' w') (l.take m) a0):(aG id l.toArray EI).wp P Q a0 w0:=by
 simp only[MZ,Oc,decide_eq_true_eq] at hB;obtain⟨⟨⟨⟨⟨⟨⟨⟨hB,hm0⟩,hmn⟩,hsel⟩,hnd⟩,hap⟩,Egq⟩,hfree⟩,Yk⟩:=hB;obtain⟨y,hy,hK⟩:=Fi (l.take m) 0 a0 h;have htk: ∀i o,i<m->l.toArray[i]?=Z o->(l.take m)[i]?=Z o:=fun i o hi ho=>by exact En_
 have hlen:(l.take m).length=m:=l_;have tP:EH (l.take m) 0 (held (l.take m) a0) a0=a0:=oZ a0 _ 0 _ (fun k o ho d hd=>by unfold held;rw[OD,ho];simp only[hd]);have hl0:l.length=(l.length-1)+1:=U;have Yl: ∀(w:H),(If a0.eval o0).run P w= .ok (.value (a0.eval x)) w:=fun w=>by unfold If;rw[hx];rfl
 have hwant:I5 o0 (JO l.toArray a0.tmps)=EI:=by unfold I5;rw[hg0]
 have yB: ∀i o x v,i<m->l.toArray[i]?=Z o->(EH (l.take m) 0 x a0).put o.dst v=EH (l.take m) 0 (Oo x i v) a0:=by intro i o x v hi ho;exact EmY
 have hy0:y 0=a0.eval x:=by
  have h1:=hy 0 o0 (by rw[List.getElem?_take,if_pos U];exact ho0);rw[Io,OD] at h1;rcases h1 with⟨_,h1⟩|⟨h1,_⟩;·have h2:=h1 w0.drew hC;simp only[EH] at h2;unfold Oper.quietAt at h2;rw[Yl] at h2;exact h2.2.symm
  ·simp only[EH] at h1;rw[hwant] at h1;cases h1
 refine(wpIn_wide (n:=n)).1 (wpIn_region_any hm ?_);rw[show l.toArray.size=(l.length-1)+1 from Ji];refine wpAnyIn_take (i:=0) (oi:=o0) (v:=a0.eval x) O (by simpa using ho0) Egq (by simpa[show l.length-1+1=l.length from U] using hfree) (by simpa[show l.length-1+1=l.length from U] using Yk) hQ ⟨.inl ⟨hwant,Yl⟩,fun w=>by unfold Oper.about;rw[hx]⟩ ?_;rw[show l.length-1+1=l.length from U];have key:=Ego (P:=P) (Q:=Q) (C:=C) (n:=n) (ops:=l.toArray) (F:=fun x=>EH (l.take m) 0 x a0) (y:=y) hB hm0 Fk yB ?_ ?_ (l.length-1) ((bh l.length B).setIfInBounds 0 EI) (Oo (held (l.take m) a0) 0 (a0.eval x)) w0.drew ?_ Eh Eh (fun j hj hjn=> ?_) ?_ hC (fun i hi h=> ?_);·have e:=yB 0 o0 (held (l.take m) a0) (a0.eval x) U (by simpa using ho0);simp only[tP] at e;rw[e];exact key
 ·intro i o x hi ho hd;have hi':=htk i o hi ho;have h1:=hy i o hi';rw[OD] at h1
  have e1:EH ((l.take m).take i) 0 y a0=EH (l.take m) 0 (mix (held (l.take m) a0) y i) a0:=by
   have e2:EH (l.take m) 0 (mix (held (l.take m) a0) y i) a0=EH ((l.take m).drop i) i (mix (held (l.take m) a0) y i) (EH ((l.take m).take i) 0 (mix (held (l.take m) a0) y i) a0):=by exact Enb
   have e3:EH ((l.take m).take i) 0 (mix (held (l.take m) a0) y i) a0=EH ((l.take m).take i) 0 y a0:=rf _ 0 _ _ _ fun j _ hj=>by have:j<i:=yw;simp[mix,this]
   rw[e2,e3];refine(oZ _ _ _ _ fun k p hp d hd=> ?_).symm;have hk:(l.take m)[i+k]?=Z p:=j4;have hkm:i+k<m:=NY;show mix (held (l.take m) a0) y i (i+k)=_;have e5:mix (held (l.take m) a0) y i (i+k)=a0.tmps.getD d I2:=by exact Eo8
   rw[e5];exact Eoo
  rw[e1] at h1;have deps: ∀e∈o.after,UN .any e=EI->x e.on=mix (held (l.take m) a0) y i e.on:=by intro e he hb;have:=(xU hB ho).1 e he;rw[hd e he hb];simp[mix,this]
  obtain⟨s1,s2⟩:=NV (ops:=l.toArray) hnd hap hsel (fC.2 ⟨i,hi'⟩) (mix (held (l.take m) a0) y i) x a0 (fun e he hb=>(deps e he hb).symm);exact h1.of_same s1 s2
 ·exact Em6
 ·have h2:=tN (ops:=l.toArray) (listed:=bh l.length B) (i:=0) Eh (by rw[List.size_toArray];omega) (yr (by simpa using(show 0<l.length from U)));have h3:=List.length_filter_le (fun i=> !(bh l.length B).getD i EI) (U4 l.toArray.size);have h4:(XF l.toArray (bh l.length B)).length<=l.length:=by simpa[XF] using h3
  rw[hlen] at*;omega
 ·rw[aI EI U];have:j<l.length:=by simpa using hjn
  simp[this]
 ·have hcl:dP l.toArray (bh l.length B):=by intro j o ho hl;have hj:=(J6.1 ho).1;rw[yr (by simpa using hj)] at hl;cases hl
  exact hcl.set Eh (by simpa using Yk)
 ·by_cases h0:i=0;·subst h0;rw[mX,hy0]
  ·rw[aI EI (fun e=>h0 e.symm)] at h;have:i<l.length:=U;simp[this] at h
theorem Ma(m:Nat)(hm:P.follows .mixedOrders=EI)(hB:MZ l m=EI)(ho0:l[0]?=Z o0)(hx:o0.op= .move x)(hg0:o0.guard=X)(hQ: ∀c a w,Q (.panic c) (a.put o0.dst (a0.eval x)) w->Q (.panic c) a w) (h:wpQuiet P l.toArray (fun w'=> ∃y,w'=EC w0 y) (fun a'=> ∀w',(∃y,w'=EC w0 y)->ax XT 9 P l.toArray Q (l.drop m) a' w') (l.take m) a0):(aG id l.toArray EI).wp P Q a0 w0:=
 Egp m hm hB ho0 hx hg0 hQ ⟨⟨_,Jg w0⟩,O⟩ h
end
theorem DJ(A:Option Eu)(n c:Nat)(w:H):(XW .eql 23 (G A n c) (G X 0 0)).run Eb w= .ok (EU (match A with|none=>true|some _=>false)) w:=by cases A<;>kernel_rfl
theorem Ym(w:H)(base:Nat)(h:base<=w.heap.size):Own (w.alloc (EJ #[] 5)) base (Z ⟨w.heap.size,0,X⟩) 0 []:=
 ⟨oC (base:=base) (size:=1) (e:=5) w #[] 0 h Ot O,fun _ h=>rZ⟩
theorem Egr(A:Option Eu)(xs:List Int)(n c:Nat)(w:H)(hn:xs.length=n)(hr:Row w A xs)(hm:n<=1000000): Ef Eb 158 #[G A n c] w fun e w'=>(∃A' c',e=Eg (G A' n c')/\Own w' w.heap.size A' c' xs)/\El w w':=by
 cases A with
 |none=>
  have hx:xs=[]:=by
   rcases hr.1 with h|⟨b,o,h,-⟩;·exact h
   ·cases h
  subst hx;obtain rfl:n=0:=hn.symm;have hne0:=DJ X 0 c w;go_enter Tryz.func158,Tryz.ntmps158;exact EoS
 |some ad=> have hne0:=DJ (Z ad) n c w;have HR:=J hr;have O1:=J<|Ym w w.heap.size (E7 _);have b1:=J<|Er w (EJ #[] 5);clear hr;go_enter Tryz.func158,Tryz.ntmps158;go_wp2_with (with_reducible refine I7 7 ?_);apply Eo;obtain⟨A7,c7,w7,hrun,hown,hbel,-⟩:=yY (w.alloc (EJ #[] 5)) w.heap.size (Z ⟨w.heap.size,0,X⟩) 0 [] O1.out (Z ad) c xs (Ix HR.out b1.out) Ji b1.out.size 23;rw[List.length_nil,OD,hn] at hrun;have vn:=J hown;have B7:=J<|b1.out.trans hbel;clear hown hbel;go_wp2_with ((with_reducible refine It 7 ?_);(refine Jr (Ei O) (Ua O O O hrun) ?_));go_ret;exact⟨⟨A7,c7,O,vn.out⟩,B7.out⟩
theorem DO(A:Option Eu)(xs:List Int)(n c:Nat)(w:H)(hn:xs.length=n)(hr:Row w A xs)(hm:n<=1000000): Ef Eb 41 #[G A n c] w fun e w'=>(∃A' c',e=Eg (G A' n c')/\Own w' w.heap.size A' c' xs)/\El w w':=by
 cases A with
 |none=>
  have hx:xs=[]:=by
   rcases hr.1 with h|⟨b,o,h,-⟩;·exact h
   ·cases h
  subst hx;obtain rfl:n=0:=hn.symm;have hne0:=DJ X 0 c w;go_enter Tryz.func41,Tryz.ntmps41;exact EoS
 |some ad=> have hne0:=DJ (Z ad) n c w;have HR:=J hr;have O1:=J<|Ym w w.heap.size (E7 _);have b1:=J<|Er w (EJ #[] 5);clear hr;go_enter Tryz.func41,Tryz.ntmps41;go_wp2_with (with_reducible refine I7 7 ?_);apply Eo;obtain⟨A7,c7,w7,hrun,hown,hbel,-⟩:=yY (w.alloc (EJ #[] 5)) w.heap.size (Z ⟨w.heap.size,0,X⟩) 0 [] O1.out (Z ad) c xs (Ix HR.out b1.out) Ji b1.out.size 23;rw[List.length_nil,OD,hn] at hrun;have vn:=J hown;have B7:=J<|b1.out.trans hbel;clear hown hbel;go_wp2_with ((with_reducible refine It 7 ?_);(refine Jr (Ei O) (Ua O O O hrun) ?_));go_ret;exact⟨⟨A7,c7,O,vn.out⟩,B7.out⟩
theorem Yn: ∀(xs:List Int),(∀x∈xs,0<=x/\x<=255)->Lib.indexByte (Lib.bytesOf xs) (165:Int).toNat.toUInt8=if UF xs<xs.length then(UF xs:Int) else-1
 |[],_=>rfl
 |x::r,h=>by
  have hx:=h x (gS ..);have ih:=Yn r (fun y hy=>h y (aJ _ hy));unfold Lib.bytesOf at*;rw[Uv];unfold Lib.indexByte UF
  have hb:(UInt8.ofNat x.toNat==(165:Int).toNat.toUInt8)=decide (x=165):=by
   obtain⟨k,rfl⟩: ∃k:Nat,x=k:=⟨x.toNat,U⟩;have hk:k<=255:=U;rw[show(UInt8.ofNat ((k:Int).toNat)==(165:Int).toNat.toUInt8)=decide (UInt8.ofNat k=165) from rfl];by_cases h5:k=165;·subst h5;rfl
   ·rw[IJ (p:=(k:Int)=165) U];refine IJ ?_;intro he;have:=congrArg UInt8.toNat he;simp at this;omega
  rw[hb,ih];by_cases h5:x=165;·simp[h5]
  ·rw[IJ h5,if_neg Ea,if_neg h5];by_cases h6:UF r<r.length;·rw[if_pos h6,if_neg Iv,if_pos Iv];all_goals (try simp)
   ·rw[if_neg h6,if_pos Ea,if_neg Iv]
theorem Egs(A:Option Eu)(xs:List Int)(n c:Nat)(w:H)(hn:xs.length=n)(h1:1<=n)(hr:Row w A xs): Ef Eb 159 #[G A n c,E IL 165] w fun e w'=>e=Eg (E I (if UF xs<n then(UF xs:Int) else-1))/\w=w':=by
 have hi:=Yn xs hr.2;subst hn;obtain⟨z,hz⟩:=En ((if UF xs<xs.length then(UF xs:Int) else-1));rw[<-hz] at hi⊢
 have HX:(Extern.BytealgIndexByte.indexByte #[G A xs.length c,E IL 165]).run Eb w= .ok (E I z) w:=by
  rcases hr.1 with h|⟨b,o,h,hc⟩;·subst h;simp at h1
  ·subst h;rw[<-hi];exact Lib.run_indexByteSlice (P:=Eb) w b o xs.length c xs O (fun i h2=>by rw[hc i h2,Uq,J5 h2];rfl) 165
 clear hi hz hr h1;go_enter Tryz.func159,Tryz.ntmps159;go_wp2;rw[run_callFunc_extern Tryz.func201 Ed Ed Ed (e:=Extern.BytealgIndexByte.indexByte) Ed,HX];simp only[Result.andThen];rw[Oper.upon_value];go_wp2;exact Elr
def Un(c:Ey):List Y:=[E I c.tok.h,E I c.tok.e,E I c.tok.o,E I c.mode,E I c.Em.r,E I c.Em.s,E I c.Em.q,E I c.pt.c,E I c.pt.a0,E I c.pt.a1,E I c.pt.a2,E I c.pt.a3,E I c.pt.n0,E I c.pt.n1,E I c.pt.n2,E I c.pt.n3,E I c.pt.b.r,E I c.pt.b.s,E I c.pt.b.q]
def Za(h:List Y)(q:Y)(o r:Nat->Y)(b:Y):List (List Y):=[h,[q],[o 0],[o 1],[o 2],[o 3],[o 4],[r 0],[r 1],[r 2],[r 3],[r 4],[b]]
def jM(c:Ey)(q:Y):List Y:=(Za (Un c) q (fun i=>EU (c.T.UV i)) (fun i=>E I (c.T.Zk i)) (EU c.tok.bad)).flatten
theorem DU(h:List Y)(q:Y)(o r:Nat->Y)(b:Y)(hl:h.length=19)(k:Nat)(hk:1<=k)(hk2:k<13):aM (Za h q o r b) k=18+k:=by have h:k=1\/k=2\/k=3\/k=4\/k=5\/k=6\/k=7\/k=8\/k=9\/k=10\/k=11\/k=12:=U;rcases h with rfl|rfl|rfl|rfl|rfl|rfl|rfl|rfl|rfl|rfl|rfl|rfl<;>simp[aM,Za,hl]
theorem fh:IG Eb 54 31:=⟨⟨_,Tryz.underlying54,O⟩,Ed⟩
def X8:Array Y:=(Za ((U4 19).map fun _=>E I 0) (G X 0 0) (fun _=>EU B) (fun _=>E I 0) (EU B)).flatten.toArray
theorem qB:Oq Eb 54 X8:=by exact ElR
theorem Egt(h e o m:Int)(br bs bq:Int)(pc a0 a1 a2 a3 n0 n1 n2 n3 qr qs qq:Int)(bad:Bool):Tryz.prog.built 54 [(0,E I h),(1,E I e),(2,E I o),(3,E I m),(4,EZ #[E I br,E I bs,E I bq]),(5,EZ #[E I pc,E I a0,E I a1,E I a2,E I a3,E I n0,E I n1,E I n2,E I n3,E I qr,E I qs,E I qq]),(9,EU bad)]=Z (Za [E I h,E I e,E I o,E I m,E I br,E I bs,E I bq,E I pc,E I a0,E I a1,E I a2,E I a3,E I n0,E I n1,E I n2,E I n3,E I qr,E I qs,E I qq] (G X 0 0) (fun _=>EU B) (fun _=>E I 0) (EU bad)).flatten.toArray:=Ed
theorem Yo{h:List Y}{q:Y}{o r:Nat->Y}{b:Y}(h1: ∀v∈h,v.oneCell'=EI)(h2:q.oneCell'=EI)(h3: ∀i,(o i).oneCell'=EI)(h4: ∀i,(r i).oneCell'=EI)(h5:b.oneCell'=EI):(Za h q o r b).flatten.toArray.all (·.oneCell')=EI:=by refine all_oneCell_toArray fun v hv=> ?_;simp only[Za,List.flatten_cons,List.flatten_nil,fS,XM,UJ,UA,or_false] at hv;rcases hv with hv|rfl|rfl|rfl|rfl|rfl|rfl|rfl|rfl|rfl|rfl|rfl|rfl<;>first|exact h1 _ hv|exact h2|exact h3 _|exact h4 _|exact h5
theorem Yp(c:Ey): ∀v∈Un c,v.oneCell'=EI:=by intro v hv;simp only[Un,UJ,UA,or_false] at hv;rcases hv with rfl|rfl|rfl|rfl|rfl|rfl|rfl|rfl|rfl|rfl|rfl|rfl|rfl|rfl|rfl|rfl|rfl|rfl|rfl<;>rfl
theorem Mb{h:List Y}(q:Y)(o r:Nat->Y)(b:Y)(hl:h.length=19):(Za h q o r b).flatten.toArray.size=31:=by simp[Za,hl]
theorem Mc{P:Jh}{F:J7->Y}{parts:Array (Nat×J7)}{cs:Array Y}{w:H}(ho:o.op= .build T parts)(hb:P.built T (parts.toList.map fun(i,x)=>(i,F x))=Z cs):(If F o).run P w= .ok (.value (EZ cs)) w:=by unfold If;simp only[ho,Oz,run_build (P:=P) w T (parts.map fun(i,x)=>(i,F x)) cs (by rw[Array.toList_map];exact hb),OC,Og]
theorem Egu(lo:Nat)(g:Nat->Y)(gc gq gt:Nat)(c:Ey)(w:H)(C:JE lo g gc gq gt c w): Ef Eb 27 #[M (Z ⟨gc,0,X⟩)] w fun e w'=>(∃v,e=Eg (EZ (jM c v).toArray)/\w'.ownsRow w.heap.size 3 1 v c.q.length (Uu ((Js c.q).map One.s)))/\El w w':=by
 have C0:=J C;have LT:=J C.lE;have II:=J VT;clear C;have b1:=Er w (EJ X8 54);have C1:=J<|C0.out.V b1;have KR:=J<|D.new w X8 54;have u:=J b1;clear b1 C0;go_enter Tryz.func27,Tryz.ntmps27;go_wp2_with (with_reducible refine wA qB ?_);generalize w.alloc (EJ X8 54)=w1 at*;obtain⟨gr,hgr⟩:=En w.heap.size;have gA:=J hgr;rw[<-hgr] at KR;refine(wW lo g gc gq gt c _ C1.out).mono ?_;rintro e4 w4 ⟨rfl,rfl⟩;go_wp2_with fail;obtain⟨n0,hn0⟩:=En w1.heap.size;have Xt:=J<|Om hn0;have ZN:=J (show lo<=n0/\w.heap.size<=n0/\gr<n0/\w.heap.size<=gr by have:=LT.out;have:=u.out.size;have:=KR.out.lt;omega);clear hgr;refine ip (Ph:=fun _ wq=>JE lo g gc gq gt c wq/\n0<=wq.heap.size/\El w wq/\D wq gr X8 54) (Rel:=J0) (Is:=ly 54 31 (Za (Un c) (G X 0 0) (fun _=>EU B) (fun _=>E I 0) (EU c.tok.bad)).flatten.toArray) [.val (fun v=>v=M (Z ⟨gc,0,X⟩)),.val (fun v=>v=M (Z ⟨gc,0,X⟩)),.val (fun v=>v=M (Z ⟨gc,56,X⟩)),.val (fun v=>v=M (Z ⟨gc,56,X⟩)),.val (fun v=>v=E I c.tok.h),.val (fun v=>v=M (Z ⟨gc,0,X⟩)),.val (fun v=>v=M (Z ⟨gc,0,X⟩)),.val (fun v=>v=M (Z ⟨gc,56,X⟩)),.val (fun v=>v=M (Z ⟨gc,57,X⟩)),.val (fun v=>v=E I c.tok.e),.val (fun v=>v=M (Z ⟨gc,0,X⟩)),.val (fun v=>v=M (Z ⟨gc,0,X⟩)),.val (fun v=>v=M (Z ⟨gc,56,X⟩)),.val (fun v=>v=M (Z ⟨gc,58,X⟩)),.val (fun v=>v=E I c.tok.o),.val (fun v=>v=M (Z ⟨gc,0,X⟩)),.val (fun v=>v=M (Z ⟨gc,0,X⟩)),.val (fun v=>v=M (Z ⟨gc,98,X⟩)),.val (fun v=>v=E I c.mode),.val (fun v=>v=M (Z ⟨gc,0,X⟩)),.val (fun v=>v=M (Z ⟨gc,0,X⟩)),.val (fun v=>v=M (Z ⟨gc,99,X⟩)),.val (fun v=>v=EZ #[E I c.Em.r,E I c.Em.s,E I c.Em.q]),.val (fun v=>v=M (Z ⟨gc,0,X⟩)),.val (fun v=>v=M (Z ⟨gc,0,X⟩)),.val (fun v=>v=M (Z ⟨gc,102,X⟩)),.val (fun v=>v=EZ #[E I c.pt.c,E I c.pt.a0,E I c.pt.a1,E I c.pt.a2,E I c.pt.a3,E I c.pt.n0,E I c.pt.n1,E I c.pt.n2,E I c.pt.n3,E I c.pt.b.r,E I c.pt.b.s,E I c.pt.b.q]),.val (fun v=>v=M (Z ⟨gc,0,X⟩)),.val (fun v=>v=M (Z ⟨gc,0,X⟩)),.val (fun v=>v=M (Z ⟨gc,56,X⟩)),.val (fun v=>v=M (Z ⟨gc,63,X⟩)),.val (fun v=>v=EU c.tok.bad),.val (fun v=>v=EZ (Za (Un c) (G X 0 0) (fun _=>EU B) (fun _=>E I 0) (EU c.tok.bad)).flatten.toArray),.dep (bX 54 31 n0) (fun v w w' h hr=>h.V hr) (fun v w w' h hr=>h.sz hr),.tie [33] (fun x w=> ∃b:Nat,x 33=M (Z ⟨b,0,X⟩)/\n0<=b/\D w b (Za (Un c) (G X 0 0) (fun _=>EU B) (fun _=>E I 0) (EU c.tok.bad)).flatten.toArray 54) (fun x w w' h hr=>p8) (fun x y w hq h=>by rw[hq 33 Eh] at h;exact h)] [B,B,B,B,B,B,B,B,B,B,B,B,B,B,B,B,B,B,B,B,B,B,B,B,B,B,B,B,B,B,B,B,B,B,EI] O [[],[],[],[],[],[],[],[],[],[],[],[],[],[],[],[],[],[],[],[],[],[],[],[],[],[],[],[],[],[],[],[],[],[],[33]] O [34] [(0,0),(0,0),(0,0),(0,0),(0,0),(0,0),(0,0),(0,0),(0,0),(0,0),(0,0),(0,0),(0,0),(0,0),(0,0),(0,0),(0,0),(0,0),(0,0),(0,0),(0,0),(0,0),(0,0),(0,0),(0,0),(0,0),(0,0),(0,0),(0,0),(0,0),(0,0),(0,0),(0,0),(0,0),(0,0)] Ed Ed Ed Ed Ed Ed UP Ed ?hPh ?h0 ?hstep ?hend;case hPh=> intro p w2 w3 h hr;exact⟨h.1.V hr,Ez h.2.1 (U8 hr),bt h.2.2.1 hr,D.V h.2.2.2 hr⟩
 case h0=> have hb:=Jg w1;exact⟨C1.out.V hb,Ez (Om hn0) (U8 hb),bt u.out hb,D.V KR.out hb⟩
 case hstep=>
  refine⟨?_,?_,?_,?_,?_,?_,?_,?_,?_,?_,?_,?_,?_,?_,?_,?_,?_,?_,?_,?_,?_,?_,?_,?_,?_,?_,?_,?_,?_,?_,?_,?_,?_,?_,?_,trivial⟩;all_goals first|intro xv wq p hlo hhi hp hd|intro xv wq hp hd
  all_goals try obtain rfl:p=0:=U
  all_goals simp only[EH,Ig,Ii,Ia,Ib]
  ·exact EmZ
  ·have d0:xv 0=M (Z ⟨gc,0,X⟩):=hd.at 0 rfl;exact EoF
  ·have d1:xv 1=M (Z ⟨gc,0,X⟩):=hd.at 1 rfl;exact Es Xp O
  ·have d2:xv 2=M (Z ⟨gc,56,X⟩):=hd.at 2 rfl;exact Es Kb O
  ·have d3:xv 3=M (Z ⟨gc,56,X⟩):=hd.at 3 rfl;have cc:wq.cell? ⟨gc,56,X⟩=Z (E I c.tok.h):=hp.1.cell 1 rfl 0 XR;exact Es (by simp[go_sem,d3,cc]) O
  ·exact EmZ
  ·have d5:xv 5=M (Z ⟨gc,0,X⟩):=hd.at 5 rfl;exact Es dk O
  ·exact Enx
  ·have d7:xv 7=M (Z ⟨gc,56,X⟩):=hd.at 7 rfl;exact Es fW O
  ·have d8:xv 8=M (Z ⟨gc,57,X⟩):=hd.at 8 rfl;have cc:wq.cell? ⟨gc,57,X⟩=Z (E I c.tok.e):=hp.1.cell 1 rfl 1 XR;exact Es Bw O
  ·exact EmZ
  ·have d10:xv 10=M (Z ⟨gc,0,X⟩):=hd.at 10 rfl;exact Eo5
  ·have d11:xv 11=M (Z ⟨gc,0,X⟩):=hd.at 11 rfl;exact EoC
  ·have d12:xv 12=M (Z ⟨gc,56,X⟩):=hd.at 12 rfl;exact Es (by simp[go_sem,d12]) O
  ·have d13:xv 13=M (Z ⟨gc,58,X⟩):=hd.at 13 rfl;have cc:wq.cell? ⟨gc,58,X⟩=Z (E I c.tok.o):=hp.1.cell 1 rfl 2 XR;exact Es (by simp[go_sem,d13,cc]) O
  ·exact EmZ
  ·exact EoP
  ·exact EoX
  ·have d17:xv 17=M (Z ⟨gc,98,X⟩):=hd.at 17 rfl;have cc:wq.cell? ⟨gc,98,X⟩=Z (E I c.mode):=hp.1.cell 9 rfl 0 XR;exact Es (by simp[go_sem,d17,cc]) O
  ·exact EmZ
  ·have d19:xv 19=M (Z ⟨gc,0,X⟩):=hd.at 19 rfl;exact Es (by simp[go_sem,d19]) O
  ·exact EoM
  ·have d21:xv 21=M (Z ⟨gc,99,X⟩):=hd.at 21 rfl;obtain⟨big,KB,OV⟩:=bI hp.1;have EX:big.extract 99 (99+3)= #[E I c.Em.r,E I c.Em.s,E I c.Em.q]:=(OV 10 c.Em.v O).trans O;exact aN EF fc (Ei O) ⟨O,d21⟩ KB O EX O
  ·exact EmZ
  ·have d23:xv 23=M (Z ⟨gc,0,X⟩):=hd.at 23 rfl;exact Es (by simp[go_sem,d23]) O
  ·have d24:xv 24=M (Z ⟨gc,0,X⟩):=hd.at 24 rfl;exact Es (by simp[go_sem,d24]) O
  ·have d25:xv 25=M (Z ⟨gc,102,X⟩):=hd.at 25 rfl;obtain⟨big,KB,OV⟩:=bI hp.1;have EX:big.extract 102 (102+12)= #[E I c.pt.c,E I c.pt.a0,E I c.pt.a1,E I c.pt.a2,E I c.pt.a3,E I c.pt.n0,E I c.pt.n1,E I c.pt.n2,E I c.pt.n3,E I c.pt.b.r,E I c.pt.b.s,E I c.pt.b.q]:=(OV 11 c.pt.v O).trans O;exact aN EF im (Ei O) ⟨O,d25⟩ KB O EX O
  ·exact EmZ
  ·have d27:xv 27=M (Z ⟨gc,0,X⟩):=hd.at 27 rfl;exact Es (by simp[go_sem,d27]) O
  ·have d28:xv 28=M (Z ⟨gc,0,X⟩):=hd.at 28 rfl;exact Es Lo O
  ·have d29:xv 29=M (Z ⟨gc,56,X⟩):=hd.at 29 rfl;exact Es (by simp[go_sem,d29]) O
  ·have d30:xv 30=M (Z ⟨gc,63,X⟩):=hd.at 30 rfl;have cc:wq.cell? ⟨gc,63,X⟩=Z (EU c.tok.bad):=hp.1.cell 1 rfl 7 XR;exact Es (by simp[go_sem,d30,cc]) O
  ·have d4:xv 4=E I c.tok.h:=hd.at 4 rfl;have d9:xv 9=E I c.tok.e:=hd.at 9 rfl;have d14:xv 14=E I c.tok.o:=hd.at 14 rfl;have d18:xv 18=E I c.mode:=hd.at 18 rfl;have d22:xv 22=EZ #[E I c.Em.r,E I c.Em.s,E I c.Em.q]:=hd.at 22 rfl;have d26:xv 26=EZ #[E I c.pt.c,E I c.pt.a0,E I c.pt.a1,E I c.pt.a2,E I c.pt.a3,E I c.pt.n0,E I c.pt.n1,E I c.pt.n2,E I c.pt.n3,E I c.pt.b.r,E I c.pt.b.s,E I c.pt.b.q]:=hd.at 26 rfl;have d31:xv 31=EU c.tok.bad:=hd.at 31 rfl;exact IM EF (Ei O) (Mc O (by simp only[Uv,Xn,d4,d9,d14,d18,d22,d26,d31];exact Egt _ _ _ _ _ _ _ _ _ _ _ _ _ _ _ _ _ _ _ _)) O
  ·exact Zg (Ei O) (qB _ _ _ O) (Er wq _) ⟨wq.heap.size,_,O,hp.2.1,Mb _ _ _ _ O,D.new _ _ _⟩
  ·have d32:xv 32=EZ (Za (Un c) (G X 0 0) (fun _=>EU B) (fun _=>E I 0) (EU c.tok.bad)).flatten.toArray:=hd.at 32 rfl;obtain⟨b,c8,eA,lb,h8,kb⟩:bX 54 31 n0 (xv 33) wq:=hd.at 33 rfl;have nh:=Xt.out;refine bF fh (Ei O) ⟨O,eA,d32⟩ kb h8 (Mb _ _ _ _ O) (Yo (Yp c) O (fun _=>rfl) (fun _=>rfl) O) ⟨wJ (Mb _ _ _ _ O),?_⟩ ⟨b,eA,lb,kb.setRow _⟩;obtain⟨c1,n1,b1,kr⟩:=hp;have ho:=J8 (g:=b) (W:=wq) (Za (Un c) (G X 0 0) (fun _=>EU B) (fun _=>E I 0) (EU c.tok.bad)).flatten.toArray;exact⟨c1.via (fun k cs S hS hk=>ho.Ek hk (EW hk kb X3)) (ho.bel lo xX xX),Ez n1 ho.size,b1.trans (ho.bel w.heap.size xX b1.size),ho.Ek kr xX⟩
 case hend=>
  intro xv W6 hp hd;simp only[EH,Ig,Ii,Ia,Ib];obtain⟨b,eA,lb,kb⟩: ∃b:Nat,xv 33=M (Z ⟨b,0,X⟩)/\n0<=b/\D W6 b (Za (Un c) (G X 0 0) (fun _=>EU B) (fun _=>E I 0) (EU c.tok.bad)).flatten.toArray 54:=hd 34 Ea;obtain⟨c6,-,b6,Yq⟩:=hp;replace C1:=J c6;replace u:=J b6;replace KR:=J Yq;have KB:Ec (Jc W6 b (Za (Un c) (G X 0 0) (fun _=>EU B) (fun _=>E I 0) (EU c.tok.bad)) 54):=J kb;have U7:=J (show b≠gr/\w.heap.size<=b from xX);rw[eA];clear c6 b6 Yq kb hd eA lb;have z64:W6.cell? ⟨gc,64,X⟩=Z (M (Z ⟨gq,0,X⟩)):=C1.out.cell 2 rfl 0 Eh;go_wp2_with fail;refine(Kp lo gq c.q (pn g 48) _ C1.out.ZL C1.out.ok.q).mono ?_;rintro e8 w8 ⟨⟨v8,rfl,o8⟩,b8⟩;obtain⟨A,c8,rfl,-⟩:=Xs o8;have Z3:=J<|hO c.q;have nF:=J C1.out.ok.q;obtain⟨n,hn⟩:=En c.q.length;obtain⟨SL,lF⟩:=En (Js c.q);have L_:=J hn;have dy:=J lF;have qp:Ec (n<=3):=J L7;rw[<-hn,<-lF] at o8 Z3;rw[show G A c.q.length c8= .slice A n c8 by rw[hn]];have OA:=J o8;replace C1:=J<|C1.out.V b8;replace u:=ET u b8;replace KR:=EM KR b8;replace KB:=J<|Jc.V KB.out b8;clear o8 b8 z64 hn lF nF;go_wp2_with fail;go_loopw[50] (fun y wr=> ∃(i:Nat) (A2:Option Eu) (c2:Nat),i<=n/\y=E I i/\Jc wr b (Za (Un c) (G A2 i c2) (fun _=>EU B) (fun _=>E I 0) (EU c.tok.bad)) 54/\wr.ownsRow w.heap.size 3 1 (G A2 i c2) i (Uu ((SL.take i).map One.s))/\JE lo g gc gq gt c wr/\D wr gr X8 54/\El w wr/\ ∃base,wr.ownsRow base 133 4 (G A n c8) n (UY SL)) (fun y _=>n-(Ir y).toNat);case atStart=>exact⟨0,X,0,U,O,KB.out,bN _ _ _ _,C1.out,KR.out,u.out,_,OA.out⟩
  case round=>
   obtain⟨i,A2,c2,ww,rfl,Yr,o9,c9,Ys,b9,base,Yt⟩:=hrel;replace KB:=J Yr;have OI:=J o9;replace C1:=J c9;replace KR:=J Ys;replace u:=J b9;replace OA:=J Yt;clear Yr o9 c9 Ys b9 Yt;by_cases hlt:i<n;·have t1':decide ((i:Int)<(n:Int))=EI:=IU U;obtain⟨x,hx⟩: ∃x,SL[i]?=Z x:=⟨SL[i]' Cr,J5 _⟩;obtain⟨gg,cur,rfl,ka,dH⟩:=wt OA.out hx Z3.out;have KA:=J ka;have dK:=J dH;have f_:Ec ((SL.take (i+1)).map One.s=(SL.take i).map One.s++[x.s]):=J (by rw[nE,hx,kU];rfl);clear ka dH hx;have K0:=J<|D.new wr #[E I 0,E I 0,E I 0,E I 0] 133;have b2:=Er wr (EJ #[E I 0,E I 0,E I 0,E I 0] 133);go_wp2_with (with_reducible first|refine wM (off:=i*4) (cs:= #[E I x.s,E I x.r,E I x.a,E I x.m]) jF KA ?_ (he:=dK.out)|refine wA wu ?_|refine wS (cs:= #[E I x.s,E I x.r,E I x.a,E I x.m]) jF K0 (Ev.mk ?_) (h1:=Ug));apply Eo;obtain⟨gx,hgx⟩:=En wr.heap.size;rw[<-hgx] at K0⊢;generalize wr.alloc (EJ #[E I 0,E I 0,E I 0,E I 0] 133)=Xc at*;have KX:=J<|K0.out.setRow #[E I x.s,E I x.r,E I x.a,E I x.m];have b3:=E2 (g:=gx) b2 (Om hgx.symm) #[E I x.s,E I x.r,E I x.a,E I x.m];generalize Xc.setRow gx #[E I x.s,E I x.r,E I x.a,E I x.m]=JW at*;clear K0 b2 hgx KA dK;replace C1:=J<|C1.out.V b3;replace u:=ET u b3;replace KR:=EM KR b3;replace KB:=J<|Jc.V KB.out b3;replace OA:=J<|EP OA.out fun _ _ h=>D.V h b3;replace OI:=J<|EP OI.out fun _ _ h=>D.V h b3;clear b3;have cq:JW.cell? ⟨b,19,X⟩=Z (G A2 i c2):=(KB.out.cell 1 rfl (DU _ _ _ _ _ O 1 U U) 0 Eh).trans O;have cx:JW.cell? ⟨gx,0,X⟩=Z (E I x.s):=(D.cell KX.out 0).trans O;have p3:=qp.out;go_wp2_with (with_reducible refine I7 59 ?_);apply Eo;have KI:=J<|D.new JW #[E I x.s] 3;have b4:=J<|Er JW (EJ #[E I x.s] 3);replace C1:=J<|C1.out.V b4.out;replace u:=ET u b4.out;replace KR:=EM KR b4.out;replace KB:=J<|Jc.V KB.out b4.out;replace OA:=J<|EP OA.out fun _ _ h=>D.V h b4.out;replace OI:=J<|EP OI.out fun _ _ h=>D.V h b4.out;clear b4 cq cx KX;generalize JW.alloc (EJ #[E I x.s] 3)=Z7 at*;generalize JW.heap.size=gb at*;obtain⟨qA,qc,qw,U0,X4,Oa,-,-⟩:=dX (P:=Eb) Z7 w.heap.size w.heap.size 51 51 3 II.out.choose _ 1 8 Tryz.underlying51 II.out.choose_spec.1 II.out.choose_spec.2.1 II.out.choose_spec.2.2.1 II.out.choose_spec.2.2.2 rfl A2 c2 i (Uu ((SL.take i).map One.s)) OI.out ⟨gb,0,X⟩ 1 1 [E I x.s] O (fun j Y3 hu=>by rw[show(⟨gb,0,X⟩:Eu).add j=⟨gb,j,X⟩ from Xw];rw[D.cell KI.out,OE];exact hu) dx (fun _=>U) Ot U u.out.size (E7 _);have ik:=vo (P:=Eb) Z7 w.heap.size 51 51 3 II.out.choose _ 1 8 Tryz.underlying51 II.out.choose_spec.1 II.out.choose_spec.2.1 II.out.choose_spec.2.2.1 II.out.choose_spec.2.2.2 A2 c2 i (Uu ((SL.take i).map One.s)) OI.out ⟨gb,0,X⟩ 1 1 [E I x.s] O (fun j Y3 hu=>by rw[show(⟨gb,0,X⟩:Eu).add j=⟨gb,j,X⟩ from Xw];rw[D.cell KI.out,OE];exact hu) dx (fun _=>U) Ot U U0;go_wp2_with ((with_reducible refine It 59 ?_);(refine Jr (Ei O) (Ua O O O U0) ?_);refine Ev.mk ?_);apply Eo;replace OI:Ec (cu qw w.heap.size 3 1 (G qA (i+1) qc) (i+1) (Uu ((SL.take (i+1)).map One.s))):=J (by rw[f_.out];unfold Uu;rw[kU];exact X4);have On:Ec (Jc qw b (Za (Un c) (G A2 i c2) (fun _=>EU B) (fun _=>E I 0) (EU c.tok.bad)) 54):=J<|X1 Oa KB.out Ea;replace OA:=J<|EP OA.out fun _ _ h=>X1 Oa h Ea;replace KR:=J<|X1 Oa KR.out Ea;have hbl:=Oa.2.1 u.out.size;replace C1:=J<|C1.out.via (fun k cs S hS hk=>X1 Oa hk X3) (hbl.mono tJ);replace u:=J<|u.out.trans hbl;clear X4 Oa U0 ik KI hbl KB;have cq:qw.cell? ⟨b,19,X⟩=Z (G A2 i c2):=(On.out.cell 1 rfl (DU _ _ _ _ _ O 1 U U) 0 Eh).trans O;have fq:=On.out.JX 19;have ho:=J1 (g:=b) (W:=qw) 19 (G qA (i+1) qc);have KB3:Ec (Jc (qw.setCell ⟨b,19,X⟩ (G qA (i+1) qc)) b (Za (Un c) (G qA (i+1) qc) (fun _=>EU B) (fun _=>E I 0) (EU c.tok.bad)) 54):=J<|On.out.set 1 rfl (DU _ _ _ _ _ O 1 U U) [G qA (i+1) qc] O;have HO:=J ho;clear ho;go_wp2_with fail;refine⟨⟨i+1,qA,qc,U,Eh,KB3.out,EP OI.out fun _ _ h=>HO.out.Ek h (EW h On.out Ea),C1.out.via (fun k cs S hS hk=>HO.out.Ek hk (EW hk On.out X3)) (HO.out.bel lo iM iN),HO.out.Ek KR.out (ZE U7.out.1),u.out.trans (HO.out.bel w.heap.size U7.out.2 u.out.size),base,EP OA.out fun _ _ h=>HO.out.Ek h (EW h On.out Ea)⟩,JM⟩
   ·obtain rfl:i=n:=U;have t1':decide ((i:Int)<(i:Int))=B:=IJ U;have Kt:Ec (SL.take i=SL):=J<|OY (by rw[Z3.out];exact E7 _);rw[Kt.out] at OI;clear OA;obtain⟨o0,ho0⟩:=En (c.T.UV 0);obtain⟨r0,hr0⟩:=En (c.T.Zk 0);have Ct:Ec (∀W,JE lo g gc gq gt c W->Ef Eb 55 #[M (Z ⟨gt,0,X⟩),E I 0] W fun e w'=>e=Eg (EU o0)/\W=w'):=J (fun W C=>by rw[ho0];exact mG gt c.T 0 W C.tab C.ok.T);have CR0:Ec (∀W,JE lo g gc gq gt c W->Ef Eb 56 #[M (Z ⟨gt,0,X⟩),E I 0] W fun e w'=>e=Eg (E I r0)/\W=w'):=J (fun W C=>by rw[hr0];exact rC gt c.T 0 W C.tab C.ok.T);replace ho0:=J ho0;replace hr0:=J hr0;obtain⟨o1,ho1⟩:=En (c.T.UV 1);obtain⟨r1,hr1⟩:=En (c.T.Zk 1);have CO1:Ec (∀W,JE lo g gc gq gt c W->Ef Eb 55 #[M (Z ⟨gt,0,X⟩),E I 1] W fun e w'=>e=Eg (EU o1)/\W=w'):=J (fun W C=>by rw[ho1];exact mG gt c.T 1 W C.tab C.ok.T);have CR1:Ec (∀W,JE lo g gc gq gt c W->Ef Eb 56 #[M (Z ⟨gt,0,X⟩),E I 1] W fun e w'=>e=Eg (E I r1)/\W=w'):=J (fun W C=>by rw[hr1];exact rC gt c.T 1 W C.tab C.ok.T);replace ho1:=J ho1;replace hr1:=J hr1;obtain⟨o2,ho2⟩:=En (c.T.UV 2);obtain⟨r2,hr2⟩:=En (c.T.Zk 2);have CO2:Ec (∀W,JE lo g gc gq gt c W->Ef Eb 55 #[M (Z ⟨gt,0,X⟩),E I 2] W fun e w'=>e=Eg (EU o2)/\W=w'):=J (fun W C=>by rw[ho2];exact mG gt c.T 2 W C.tab C.ok.T);have CR2:Ec (∀W,JE lo g gc gq gt c W->Ef Eb 56 #[M (Z ⟨gt,0,X⟩),E I 2] W fun e w'=>e=Eg (E I r2)/\W=w'):=J (fun W C=>by rw[hr2];exact rC gt c.T 2 W C.tab C.ok.T);replace ho2:=J ho2;replace hr2:=J hr2;obtain⟨o3,ho3⟩:=En (c.T.UV 3);obtain⟨r3,hr3⟩:=En (c.T.Zk 3);have CO3:Ec (∀W,JE lo g gc gq gt c W->Ef Eb 55 #[M (Z ⟨gt,0,X⟩),E I 3] W fun e w'=>e=Eg (EU o3)/\W=w'):=J (fun W C=>by rw[ho3];exact mG gt c.T 3 W C.tab C.ok.T);have CR3:Ec (∀W,JE lo g gc gq gt c W->Ef Eb 56 #[M (Z ⟨gt,0,X⟩),E I 3] W fun e w'=>e=Eg (E I r3)/\W=w'):=J (fun W C=>by rw[hr3];exact rC gt c.T 3 W C.tab C.ok.T);replace ho3:=J ho3;replace hr3:=J hr3;obtain⟨o4,nB⟩:=En (c.T.UV 4);obtain⟨r4,hr4⟩:=En (c.T.Zk 4);have CO4:Ec (∀W,JE lo g gc gq gt c W->Ef Eb 55 #[M (Z ⟨gt,0,X⟩),E I 4] W fun e w'=>e=Eg (EU o4)/\W=w'):=J (fun W C=>by rw[nB];exact mG gt c.T 4 W C.tab C.ok.T);have CR4:Ec (∀W,JE lo g gc gq gt c W->Ef Eb 56 #[M (Z ⟨gt,0,X⟩),E I 4] W fun e w'=>e=Eg (E I r4)/\W=w'):=J (fun W C=>by rw[hr4];exact rC gt c.T 4 W C.tab C.ok.T);replace nB:=J nB;replace hr4:=J hr4;go_wp2_with fail;refine Ud 6 ?_;obtain⟨qv,DX⟩:=En (G A2 i c2);rw[<-DX] at KB OI;replace DX:=J DX;replace KB:Ec (Jc wr b [Un c,[qv],[EU B],[EU B],[EU B],[EU B],[EU B],[E I 0],[E I 0],[E I 0],[E I 0],[E I 0],[EU c.tok.bad]] 54):=J KB.out;have OFF:Ec (∀(x0 x1 x2 x3 x4 x5 x6 x7 x8 x9:Y) (k:Nat),1<=k->k<13->aM [Un c,[qv],[x0],[x1],[x2],[x3],[x4],[x5],[x6],[x7],[x8],[x9],[EU c.tok.bad]] k=18+k):=J<|fun x0 x1 x2 x3 x4 x5 x6 x7 x8 x9 k h1 h2=>DU (Un c) qv (fun i=>[x0,x1,x2,x3,x4].getD i x0) (fun i=>[x5,x6,x7,x8,x9].getD i x5) (EU c.tok.bad) O k h1 h2;have U2:wr.cell? ⟨gc,95,X⟩=Z (M (Z ⟨gt,0,X⟩)):=C1.out.cell 6 rfl 0 Eh;rw[Ij];go_wp2_with fail;refine(Ct.out _ C1.out).mono ?_;rintro e20 iF ⟨rfl,rfl⟩;clear U2;have cs:wr.cell? ⟨b,20,X⟩=Z (EU B):=(KB.out.cell 2 rfl (OFF.out _ _ _ _ _ _ _ _ _ _ 2 U U) 0 Eh).trans O;have fs:=KB.out.JX 20;have HO:=J<|J1 (g:=b) (W:=wr) 20 (EU o0);have On:Ec (Jc (wr.setCell ⟨b,20,X⟩ (EU o0)) b [Un c,[qv],[EU o0],[EU B],[EU B],[EU B],[EU B],[E I 0],[E I 0],[E I 0],[E I 0],[E I 0],[EU c.tok.bad]] 54):=J<|KB.out.set 2 rfl (OFF.out _ _ _ _ _ _ _ _ _ _ 2 U U) [EU o0] O;have UG:=J<|EP OI.out fun _ _ h=>HO.out.Ek h (EW h KB.out Ea);have C2:=J<|C1.out.via (fun k cs S hS hk=>HO.out.Ek hk (EW hk KB.out X3)) (HO.out.bel lo iM iN);have O8:=J<|HO.out.Ek KR.out (ZE U7.out.1);have Jf:=J<|u.out.trans (HO.out.bel w.heap.size U7.out.2 u.out.size);clear HO KB OI C1 KR u;have U2:(wr.setCell ⟨b,20,X⟩ (EU o0)).cell? ⟨gc,95,X⟩=Z (M (Z ⟨gt,0,X⟩)):=C2.out.cell 6 rfl 0 Eh;go_wp2_with fail;generalize wr.setCell ⟨b,20,X⟩ (EU o0)=xZ at*;have KB:=On;have OI:=UG;have C1:=C2;have KR:=O8;have u:=Jf;clear On UG C2 O8 Jf cs fs U2;refine(CR0.out _ C1.out).mono ?_;rintro e30 w30 ⟨rfl,rfl⟩;have cs:xZ.cell? ⟨b,25,X⟩=Z (E I 0):=(KB.out.cell 7 rfl (OFF.out _ _ _ _ _ _ _ _ _ _ 7 U U) 0 Eh).trans O;have fs:=KB.out.JX 25;have HO:=J<|J1 (g:=b) (W:=xZ) 25 (E I r0);have On:Ec (Jc (xZ.setCell ⟨b,25,X⟩ (E I r0)) b [Un c,[qv],[EU o0],[EU B],[EU B],[EU B],[EU B],[E I r0],[E I 0],[E I 0],[E I 0],[E I 0],[EU c.tok.bad]] 54):=J<|KB.out.set 7 rfl (OFF.out _ _ _ _ _ _ _ _ _ _ 7 U U) [E I r0] O;have UG:=J<|EP OI.out fun _ _ h=>HO.out.Ek h (EW h KB.out Ea);have C2:=J<|C1.out.via (fun k cs S hS hk=>HO.out.Ek hk (EW hk KB.out X3)) (HO.out.bel lo iM iN);have O8:=J<|HO.out.Ek KR.out (ZE U7.out.1);have Jf:=J<|u.out.trans (HO.out.bel w.heap.size U7.out.2 u.out.size);clear HO KB OI C1 KR u;have U2:(xZ.setCell ⟨b,25,X⟩ (E I r0)).cell? ⟨gc,95,X⟩=Z (M (Z ⟨gt,0,X⟩)):=C2.out.cell 6 rfl 0 Eh;go_wp2_with fail;rw[Ij];go_wp2_with fail;generalize xZ.setCell ⟨b,25,X⟩ (E I r0)=xa at*;have KB:=On;have OI:=UG;have C1:=C2;have KR:=O8;have u:=Jf;clear On UG C2 O8 Jf cs fs U2;refine(CO1.out _ C1.out).mono ?_;rintro e21 jD ⟨rfl,rfl⟩;have cs:xa.cell? ⟨b,21,X⟩=Z (EU B):=(KB.out.cell 3 rfl (OFF.out _ _ _ _ _ _ _ _ _ _ 3 U U) 0 Eh).trans O;have fs:=KB.out.JX 21;have HO:=J<|J1 (g:=b) (W:=xa) 21 (EU o1);have On:Ec (Jc (xa.setCell ⟨b,21,X⟩ (EU o1)) b [Un c,[qv],[EU o0],[EU o1],[EU B],[EU B],[EU B],[E I r0],[E I 0],[E I 0],[E I 0],[E I 0],[EU c.tok.bad]] 54):=J<|KB.out.set 3 rfl (OFF.out _ _ _ _ _ _ _ _ _ _ 3 U U) [EU o1] O;have UG:=J<|EP OI.out fun _ _ h=>HO.out.Ek h (EW h KB.out Ea);have C2:=J<|C1.out.via (fun k cs S hS hk=>HO.out.Ek hk (EW hk KB.out X3)) (HO.out.bel lo iM iN);have O8:=J<|HO.out.Ek KR.out (ZE U7.out.1);have Jf:=J<|u.out.trans (HO.out.bel w.heap.size U7.out.2 u.out.size);clear HO KB OI C1 KR u;have U2:(xa.setCell ⟨b,21,X⟩ (EU o1)).cell? ⟨gc,95,X⟩=Z (M (Z ⟨gt,0,X⟩)):=C2.out.cell 6 rfl 0 Eh;go_wp2_with fail;generalize xa.setCell ⟨b,21,X⟩ (EU o1)=xc at*;have KB:=On;have OI:=UG;have C1:=C2;have KR:=O8;have u:=Jf;clear On UG C2 O8 Jf cs fs U2;refine(CR1.out _ C1.out).mono ?_;rintro e31 w31 ⟨rfl,rfl⟩;have cs:xc.cell? ⟨b,26,X⟩=Z (E I 0):=(KB.out.cell 8 rfl (OFF.out _ _ _ _ _ _ _ _ _ _ 8 U U) 0 Eh).trans O;have fs:=KB.out.JX 26;have HO:=J<|J1 (g:=b) (W:=xc) 26 (E I r1);have On:Ec (Jc (xc.setCell ⟨b,26,X⟩ (E I r1)) b [Un c,[qv],[EU o0],[EU o1],[EU B],[EU B],[EU B],[E I r0],[E I r1],[E I 0],[E I 0],[E I 0],[EU c.tok.bad]] 54):=J<|KB.out.set 8 rfl (OFF.out _ _ _ _ _ _ _ _ _ _ 8 U U) [E I r1] O;have UG:=J<|EP OI.out fun _ _ h=>HO.out.Ek h (EW h KB.out Ea);have C2:=J<|C1.out.via (fun k cs S hS hk=>HO.out.Ek hk (EW hk KB.out X3)) (HO.out.bel lo iM iN);have O8:=J<|HO.out.Ek KR.out (ZE U7.out.1);have Jf:=J<|u.out.trans (HO.out.bel w.heap.size U7.out.2 u.out.size);clear HO KB OI C1 KR u;have U2:(xc.setCell ⟨b,26,X⟩ (E I r1)).cell? ⟨gc,95,X⟩=Z (M (Z ⟨gt,0,X⟩)):=C2.out.cell 6 rfl 0 Eh;go_wp2_with fail;rw[Ij];go_wp2_with fail;generalize xc.setCell ⟨b,26,X⟩ (E I r1)=xd at*;have KB:=On;have OI:=UG;have C1:=C2;have KR:=O8;have u:=Jf;clear On UG C2 O8 Jf cs fs U2;refine(CO2.out _ C1.out).mono ?_;rintro e22 W_ ⟨rfl,rfl⟩;have cs:xd.cell? ⟨b,22,X⟩=Z (EU B):=(KB.out.cell 4 rfl (OFF.out _ _ _ _ _ _ _ _ _ _ 4 U U) 0 Eh).trans O;have fs:=KB.out.JX 22;have HO:=J<|J1 (g:=b) (W:=xd) 22 (EU o2);have On:Ec (Jc (xd.setCell ⟨b,22,X⟩ (EU o2)) b [Un c,[qv],[EU o0],[EU o1],[EU o2],[EU B],[EU B],[E I r0],[E I r1],[E I 0],[E I 0],[E I 0],[EU c.tok.bad]] 54):=J<|KB.out.set 4 rfl (OFF.out _ _ _ _ _ _ _ _ _ _ 4 U U) [EU o2] O;have UG:=J<|EP OI.out fun _ _ h=>HO.out.Ek h (EW h KB.out Ea);have C2:=J<|C1.out.via (fun k cs S hS hk=>HO.out.Ek hk (EW hk KB.out X3)) (HO.out.bel lo iM iN);have O8:=J<|HO.out.Ek KR.out (ZE U7.out.1);have Jf:=J<|u.out.trans (HO.out.bel w.heap.size U7.out.2 u.out.size);clear HO KB OI C1 KR u;have U2:(xd.setCell ⟨b,22,X⟩ (EU o2)).cell? ⟨gc,95,X⟩=Z (M (Z ⟨gt,0,X⟩)):=C2.out.cell 6 rfl 0 Eh;go_wp2_with fail;generalize xd.setCell ⟨b,22,X⟩ (EU o2)=xf at*;have KB:=On;have OI:=UG;have C1:=C2;have KR:=O8;have u:=Jf;clear On UG C2 O8 Jf cs fs U2;refine(CR2.out _ C1.out).mono ?_;rintro e32 w32 ⟨rfl,rfl⟩;have cs:xf.cell? ⟨b,27,X⟩=Z (E I 0):=(KB.out.cell 9 rfl (OFF.out _ _ _ _ _ _ _ _ _ _ 9 U U) 0 Eh).trans O;have fs:=KB.out.JX 27;have HO:=J<|J1 (g:=b) (W:=xf) 27 (E I r2);have On:Ec (Jc (xf.setCell ⟨b,27,X⟩ (E I r2)) b [Un c,[qv],[EU o0],[EU o1],[EU o2],[EU B],[EU B],[E I r0],[E I r1],[E I r2],[E I 0],[E I 0],[EU c.tok.bad]] 54):=J<|KB.out.set 9 rfl (OFF.out _ _ _ _ _ _ _ _ _ _ 9 U U) [E I r2] O;have UG:=J<|EP OI.out fun _ _ h=>HO.out.Ek h (EW h KB.out Ea);have C2:=J<|C1.out.via (fun k cs S hS hk=>HO.out.Ek hk (EW hk KB.out X3)) (HO.out.bel lo iM iN);have O8:=J<|HO.out.Ek KR.out (ZE U7.out.1);have Jf:=J<|u.out.trans (HO.out.bel w.heap.size U7.out.2 u.out.size);clear HO KB OI C1 KR u;have U2:(xf.setCell ⟨b,27,X⟩ (E I r2)).cell? ⟨gc,95,X⟩=Z (M (Z ⟨gt,0,X⟩)):=C2.out.cell 6 rfl 0 Eh;go_wp2_with fail;rw[Ij];go_wp2_with fail;generalize xf.setCell ⟨b,27,X⟩ (E I r2)=xg at*;have KB:=On;have OI:=UG;have C1:=C2;have KR:=O8;have u:=Jf;clear On UG C2 O8 Jf cs fs U2;refine(CO3.out _ C1.out).mono ?_;rintro e23 w23 ⟨rfl,rfl⟩;have cs:xg.cell? ⟨b,23,X⟩=Z (EU B):=(KB.out.cell 5 rfl (OFF.out _ _ _ _ _ _ _ _ _ _ 5 U U) 0 Eh).trans O;have fs:=KB.out.JX 23;have HO:=J<|J1 (g:=b) (W:=xg) 23 (EU o3);have On:Ec (Jc (xg.setCell ⟨b,23,X⟩ (EU o3)) b [Un c,[qv],[EU o0],[EU o1],[EU o2],[EU o3],[EU B],[E I r0],[E I r1],[E I r2],[E I 0],[E I 0],[EU c.tok.bad]] 54):=J<|KB.out.set 5 rfl (OFF.out _ _ _ _ _ _ _ _ _ _ 5 U U) [EU o3] O;have UG:=J<|EP OI.out fun _ _ h=>HO.out.Ek h (EW h KB.out Ea);have C2:=J<|C1.out.via (fun k cs S hS hk=>HO.out.Ek hk (EW hk KB.out X3)) (HO.out.bel lo iM iN);have O8:=J<|HO.out.Ek KR.out (ZE U7.out.1);have Jf:=J<|u.out.trans (HO.out.bel w.heap.size U7.out.2 u.out.size);clear HO KB OI C1 KR u;have U2:(xg.setCell ⟨b,23,X⟩ (EU o3)).cell? ⟨gc,95,X⟩=Z (M (Z ⟨gt,0,X⟩)):=C2.out.cell 6 rfl 0 Eh;go_wp2_with fail;generalize xg.setCell ⟨b,23,X⟩ (EU o3)=xh at*;have KB:=On;have OI:=UG;have C1:=C2;have KR:=O8;have u:=Jf;clear On UG C2 O8 Jf cs fs U2;refine(CR3.out _ C1.out).mono ?_;rintro e33 w33 ⟨rfl,rfl⟩;have cs:xh.cell? ⟨b,28,X⟩=Z (E I 0):=(KB.out.cell 10 rfl (OFF.out _ _ _ _ _ _ _ _ _ _ 10 U U) 0 Eh).trans O;have fs:=KB.out.JX 28;have HO:=J<|J1 (g:=b) (W:=xh) 28 (E I r3);have On:Ec (Jc (xh.setCell ⟨b,28,X⟩ (E I r3)) b [Un c,[qv],[EU o0],[EU o1],[EU o2],[EU o3],[EU B],[E I r0],[E I r1],[E I r2],[E I r3],[E I 0],[EU c.tok.bad]] 54):=J<|KB.out.set 10 rfl (OFF.out _ _ _ _ _ _ _ _ _ _ 10 U U) [E I r3] O;have UG:=J<|EP OI.out fun _ _ h=>HO.out.Ek h (EW h KB.out Ea);have C2:=J<|C1.out.via (fun k cs S hS hk=>HO.out.Ek hk (EW hk KB.out X3)) (HO.out.bel lo iM iN);have O8:=J<|HO.out.Ek KR.out (ZE U7.out.1);have Jf:=J<|u.out.trans (HO.out.bel w.heap.size U7.out.2 u.out.size);clear HO KB OI C1 KR u;have U2:(xh.setCell ⟨b,28,X⟩ (E I r3)).cell? ⟨gc,95,X⟩=Z (M (Z ⟨gt,0,X⟩)):=C2.out.cell 6 rfl 0 Eh;go_wp2_with fail;rw[Ij];go_wp2_with fail;generalize xh.setCell ⟨b,28,X⟩ (E I r3)=xi at*;have KB:=On;have OI:=UG;have C1:=C2;have KR:=O8;have u:=Jf;clear On UG C2 O8 Jf cs fs U2;refine(CO4.out _ C1.out).mono ?_;rintro e24 w24 ⟨rfl,rfl⟩;have cs:xi.cell? ⟨b,24,X⟩=Z (EU B):=(KB.out.cell 6 rfl (OFF.out _ _ _ _ _ _ _ _ _ _ 6 U U) 0 Eh).trans O;have fs:=KB.out.JX 24;have HO:=J<|J1 (g:=b) (W:=xi) 24 (EU o4);have On:Ec (Jc (xi.setCell ⟨b,24,X⟩ (EU o4)) b [Un c,[qv],[EU o0],[EU o1],[EU o2],[EU o3],[EU o4],[E I r0],[E I r1],[E I r2],[E I r3],[E I 0],[EU c.tok.bad]] 54):=J<|KB.out.set 6 rfl (OFF.out _ _ _ _ _ _ _ _ _ _ 6 U U) [EU o4] O;have UG:=J<|EP OI.out fun _ _ h=>HO.out.Ek h (EW h KB.out Ea);have C2:=J<|C1.out.via (fun k cs S hS hk=>HO.out.Ek hk (EW hk KB.out X3)) (HO.out.bel lo iM iN);have O8:=J<|HO.out.Ek KR.out (ZE U7.out.1);have Jf:=J<|u.out.trans (HO.out.bel w.heap.size U7.out.2 u.out.size);clear HO KB OI C1 KR u;have U2:(xi.setCell ⟨b,24,X⟩ (EU o4)).cell? ⟨gc,95,X⟩=Z (M (Z ⟨gt,0,X⟩)):=C2.out.cell 6 rfl 0 Eh;go_wp2_with fail;generalize xi.setCell ⟨b,24,X⟩ (EU o4)=xj at*;have KB:=On;have OI:=UG;have C1:=C2;have KR:=O8;have u:=Jf;clear On UG C2 O8 Jf cs fs U2;refine(CR4.out _ C1.out).mono ?_;rintro e34 w34 ⟨rfl,rfl⟩;have cs:xj.cell? ⟨b,29,X⟩=Z (E I 0):=(KB.out.cell 11 rfl (OFF.out _ _ _ _ _ _ _ _ _ _ 11 U U) 0 Eh).trans O;have fs:=KB.out.JX 29;have HO:=J<|J1 (g:=b) (W:=xj) 29 (E I r4);have On:Ec (Jc (xj.setCell ⟨b,29,X⟩ (E I r4)) b [Un c,[qv],[EU o0],[EU o1],[EU o2],[EU o3],[EU o4],[E I r0],[E I r1],[E I r2],[E I r3],[E I r4],[EU c.tok.bad]] 54):=J<|KB.out.set 11 rfl (OFF.out _ _ _ _ _ _ _ _ _ _ 11 U U) [E I r4] O;have UG:=J<|EP OI.out fun _ _ h=>HO.out.Ek h (EW h KB.out Ea);have C2:=J<|C1.out.via (fun k cs S hS hk=>HO.out.Ek hk (EW hk KB.out X3)) (HO.out.bel lo iM iN);have O8:=J<|HO.out.Ek KR.out (ZE U7.out.1);have Jf:=J<|u.out.trans (HO.out.bel w.heap.size U7.out.2 u.out.size);clear HO KB OI C1 KR u;have U2:(xj.setCell ⟨b,29,X⟩ (E I r4)).cell? ⟨gc,95,X⟩=Z (M (Z ⟨gt,0,X⟩)):=C2.out.cell 6 rfl 0 Eh;go_wp2_with fail;rw[Ij];generalize xj.setCell ⟨b,29,X⟩ (E I r4)=Yu at*;have KB:=On;have OI:=UG;have C1:=C2;have KR:=O8;have u:=Jf;clear On UG C2 O8 Jf cs fs U2;obtain⟨sv,hsv⟩: ∃sv,sv=([Un c,[qv],[EU o0],[EU o1],[EU o2],[EU o3],[EU o4],[E I r0],[E I r1],[E I r2],[E I r3],[E I r4],[EU c.tok.bad]]:List (List Y)).flatten.toArray:=⟨_,O⟩;have ta:Ec (sv.size=31):=J (by rw[hsv];simp[Un]);have DZ:Ec (sv.all (·.oneCell')=EI):=J (by rw[hsv];exact Yo (h:=Un c) (q:=qv) (o:=fun i=>[EU o0,EU o1,EU o2,EU o3,EU o4].getD i (EU o0)) (r:=fun i=>[E .i64 r0,E I r1,E I r2,E I r3,E I r4].getD i (E I r0)) (b:=EU c.tok.bad) (Yp c) (by rw[DX.out];rfl) (fun i=>Yv) (fun i=>Yv) O);have KF:Ec (D Yu b sv 54):=J (by rw[hsv];exact KB.out);have mR:=J hsv;clear hsv KB;have hgr:=gA.out;subst hgr;go_wp2_with (with_reducible first|refine wL fh KF ?_ (hn:=ta.out)|refine wS (cs:=sv) fh KR ?_ (hn:=ta.out) (h1:=DZ.out));refine EV (Jj fh O _ _ w.heap.size sv O (KR.out.setRow sv) ta.out) O ?_;refine⟨⟨qv,?_,?_⟩,E2 (g:=w.heap.size) u.out ZN.out.2.2.2 sv⟩;·rw[mR.out,ho0.out,ho1.out,ho2.out,ho3.out,nB.out,hr0.out,hr1.out,hr2.out,hr3.out,hr4.out];rfl
    ·rw[<-L_.out,<-dy.out];exact EP OI.out fun _ _ h=>(J8 (g:=w.heap.size) (W:=Yu) sv).Ek h (EW h KR.out Ea)
theorem J3:IG Eb 101 4:=⟨⟨_,Tryz.underlying101,O⟩,Ed⟩
theorem EgG(x z:Int)(h0:0<=x)(h1:x<=255)(x0:0<=z)(x1:z<=255):Iu .or .u16 (x*256) z=x*256+z:=by obtain⟨m,rfl⟩:=jU h0;obtain⟨y,rfl⟩:=jU x0;have e:((m:Int)*256)=((m*256:Nat):Int):=Eh;rw[e,u16_or_nat _ _ U U,nat_join 8 _ _ U U];simp
def qC(W:H)(base:Nat)(f:cH)(v:Y):Prop:= ∃(A:Option Eu) (c:Nat),v=EZ #[E I f.kd,E I f.sz,E I f.cd,G A f.b.length c]/\Own W base A c f.b
theorem ay{gz:Nat}{c:Nat}{xs:List Int}(h:Own W base A c xs)(K:D W gz z 101)(tv:Array Y):Own (W.setRow gz tv) base A c xs:=
 ⟨EP h.1 fun _ _ h2=>(J8 tv).Ek h2 (EW h2 K Ea),h.2⟩
theorem tc(W:H)(base:Nat)(f:cH)(h:f.b=[]):qC W base f (EZ #[E I f.kd,E I f.sz,E I f.cd,G X 0 0]):=⟨X,0,by rw[h];rfl,by rw[h];exact X0 _ _⟩
theorem Da(cd:Int)(w:H): Ef Eb 116 #[E I cd] w fun e w'=>e=Eg (EZ #[E I 3,E I 1,E I cd,G X 0 0])/\El w w':=by go_enter Tryz.func116,Tryz.ntmps116;go_wp2_with fail;refine EV (v:=EZ #[E I 3,E I 1,E I cd,G X 0 0]) (by simp[UL,Tryz.results116,go_sem]) O ?_;exact⟨O,Er _ _⟩
theorem xk(A:Option Eu)(xs:List Int)(n c:Nat)(w:H)(hn:xs.length=n)(h1:1<=n)(hr:Row w A xs)(hm:n<=9223372036854775807): Ef Eb 117 #[G A n c] w fun e w'=>e=Eg (EZ #[E I 1,E I (UF xs),E I 0,G X 0 0])/\El w w':=by
 have hle:UF xs<=n:=by rw[<-hn];exact MO xs
 have HR:=J hr;have HN:=J hn;clear hr hn;generalize hz:UF xs=z at*;replace hz:=J hz;go_enter Tryz.func117,Tryz.ntmps117;go_wp2_with fail;refine(Egs A xs n c _ HN.out h1 (HR.out.V (Er _ _))).mono ?_;rintro e w2 ⟨rfl,rfl⟩;rw[hz.out];by_cases hlt:z<n;·rw[if_pos hlt];have t1:decide ((z:Int)<0)=B:=IJ U;exact En5
 ·rw[if_neg hlt];obtain rfl:z=n:=U;exact En5
theorem EgH(b off:Nat)(a v:Int)(k:Nat)(r:List Int)(n c:Nat)(w:H)(hn:r.length+3=n)(hr:Row w (Z ⟨b,off,X⟩) (a::v::(k:Int)::r))(hc:n<=c)(hm:c<=9223372036854775807): Ef Eb 115 #[G (Z ⟨b,off,X⟩) n c] w fun e w'=>(∃Y3,e=Eg Y3/\qC w' w.heap.size (fg v k r) Y3)/\El w w':=by
 have hk:k<=255:=by have:=hr.2 k Eh;omega
 have b1:=Er w (EJ #[E I 0,E I 0,E I 0,G X 0 0] 101);replace hr:=Ix hr b1;have HB1:=J b1
 have c2:(w.alloc (EJ #[E I 0,E I 0,E I 0,G X 0 0] 101)).cell? ⟨b,off+2,X⟩=Z (E IL (k:Int)):=by
  rcases hr.1 with h|⟨b',off',e,h⟩;·cases h
  ·injection e with e;injection e with e1 e2 e3;subst e1 e2;exact h 2 Eh
 have i2:2<n:=U;have HR:=J hr;have HN:=J hn;clear hr hn b1;unfold fg;have K0:=J<|D.new w #[E I 0,E I 0,E I 0,G X 0 0] 101;by_cases h32:(32:Int)<k;·rw[if_pos h32];have t1:decide ((32:Int)<(k:Int))=EI:=IU h32;go_enter Tryz.func115,Tryz.ntmps115;go_wp2_with fail;refine(Da 11 _).mono ?_;rintro e w2 ⟨rfl,b2⟩;replace K0:=EM K0 b2;replace HB1:=ET HB1 b2;obtain⟨tv,IE⟩:=En (#[E I 3,E I 1,E I 11,G X 0 0]:Array Y);have TS:Ec (tv.size=4):=J fi;have TO:Ec (tv.all (·.oneCell')=EI):=J fj;rw[<-IE];replace IE:=J IE;go_wp2_with (with_reducible refine wS (cs:=tv) J3 K0 ?_ (hn:=TS.out) (h1:=TO.out));refine EV (Jj J3 O _ _ w.heap.size tv O (K0.out.setRow tv) TS.out) O ?_;rw[IE.out];exact⟨⟨_,O,tc _ _ (jH 11) O⟩,E2 HB1.out (E7 _) _⟩
 rw[if_neg h32];have t1:decide ((32:Int)<(k:Int))=B:=IJ h32;by_cases hw:(r.length:Int)<(k:Int)+2;·rw[if_pos hw];have t2:decide ((n:Int)<3+(k:Int)+2)=EI:=IU J9;go_enter Tryz.func115,Tryz.ntmps115;obtain⟨tv,IE⟩:=En (#[E I 0,E I 0,E I 0,G X 0 0]:Array Y);have TS:Ec (tv.size=4):=J fi;have TO:Ec (tv.all (·.oneCell')=EI):=J fj;have BS:Ec (Tryz.prog.built 101 [(0,E I 0)]=Z tv):=J (by rw[IE];kernel_rfl);replace IE:=J IE;go_wp2_with (first|((with_reducible refine It 19 ?_);refine I3 rfl 101 _ rfl tv BS.out ?_)|(with_reducible refine wS (cs:=tv) J3 K0 ?_ (hn:=TS.out) (h1:=TO.out)));refine EV (Jj J3 O _ _ w.heap.size tv O (K0.out.setRow tv) TS.out) O ?_;rw[IE.out];exact⟨⟨_,O,tc _ _ cL O⟩,E2 HB1.out (E7 _) _⟩
 rw[if_neg U];have t2:decide ((n:Int)<3+(k:Int)+2)=B:=IJ J9;obtain⟨f,hf⟩: ∃f,f=if XS (v::(k:Int)::r.take (k:Int).toNat)≠256*r.getD (k:Int).toNat 0+r.getD ((k:Int).toNat+1) 0 then jH 12 else qx (r.take (k:Int).toNat):=⟨_,O⟩
 rw[<-hf];rw[mO] at hf;go_enter Tryz.func115,Tryz.ntmps115;go_wp2_with fail;obtain⟨w1,hw1⟩: ∃w1,w1=w.alloc (EJ #[E I 0,E I 0,E I 0,G X 0 0] 101):=⟨_,O⟩;rw[<-hw1] at HR HB1 K0⊢;clear c2 hw1;have i3:3+k<n:=J9;have i4:3+k+1<n:=J9;have i5:3+k<=c:=U;obtain⟨x,hx⟩: ∃x,r[k]?=Z x:=⟨r[k]' U,J5 _⟩;obtain⟨z,hz⟩: ∃z,r[k+1]?=Z z:=⟨r[k+1]' U,J5 _⟩
 have cellAt: ∀(i:Nat) (Y3:Int),(a::v::(k:Int)::r)[i]?=Z Y3-> ∀y:Ext w1,(EC w1 y).cell? ⟨b,off+i,X⟩=Z (E IL Y3):=fun i Y3 h y=>by
  rcases(Ix HR.out (EN y)).1 with h2|⟨b',off',e,h2⟩;·cases h2
  ·injection e with e;injection e with e1 e2 e3;subst e1 e2;obtain⟨hi,he⟩:=Xx.1 h;rw[h2 i hi,he]
 have yx:=cellAt (3+k) x (by rw[Nat.add_comm 3 k];exact hx);have yz:=cellAt (3+k+1) z (by rw[show 3+k+1=k+1+3 from U];exact hz);have xb:0<=x/\x<=255:=HR.out.2 x (aJ _ (aJ _ (aJ _ (dn hx))));have zb:0<=z/\z<=255:=HR.out.2 z (aJ _ (aJ _ (aJ _ (dn hz))));clear cellAt;have RC:Ec (Row w1 (Z ⟨b,off+1,X⟩) (v::(k:Int)::r.take k)):=J (by have:=oO (nJ HR.out 1) (k+2);simpa using this);have LC:Ec ((v::(k:Int)::r.take k).length=2+k):=J (by have:=HN.out;simp;omega);obtain⟨cr,hcr⟩:=En (XS (v::(k:Int)::r.take k));have CS:Ec (∀(y:Ext w1) (cc:Nat),Ef Eb 157 #[G (Z ⟨b,off+1,X⟩) (2+k) cc] (EC w1 y) fun e w'=>e=Eg (.int .u16 cr)/\EC w1 y=w'):=J (fun y cc=>by rw[hcr];exact Tb _ _ _ _ _ LC.out (Ix RC.out (EN y)) U);refine Zy Ed Ed ?_
 repeat (first
  |go_big_quiet_skip
  |(go_big_quiet_want
    first
     |(go_big_quiet_op
       first
        |go_big_quiet_on
        |go_big_quiet_call (go_loud (with_reducible refine i_ (CS.out _ _))))))
 refine I1 ?_;intro _ hw';obtain⟨y9,rfl⟩:=hw';have Em:=EN y9;have Yx:(XS (v::(k:Int)::r.take k) !=Iu .or .u16 (x*256) z)=(XS (v::(k:Int)::r.take k) !=256*x+z):=by rw[EgG x z xb.1 xb.2 zb.1 zb.2,Int.mul_comm]
 simp only[Yx];rw[Uq,Uq,hx,hz] at hf;simp only[Option.getD_some] at hf;replace K0:=EM K0 Em;replace HB1:=ET HB1 Em;replace HR:=J<|Ix HR.out Em;clear Em Yx CS RC LC yx yz xb zb hcr hx hz;generalize EC w1 y9=w2 at*;clear y9 w1;by_cases hq:XS (v::(k:Int)::r.take k)=256*x+z
 ·rw[if_neg (by simp[hq])] at hf;subst hf;have tq:(XS (v::(k:Int)::r.take k) !=256*x+z)=B:=by rw[hq];simp
  have hlen:(r.take k).length=k:=by rw[aO];have:=HN.out;omega
  have RD:Ec (Row w2 (Z ⟨b,off+3,X⟩) (r.take k)):=J (by have:=oO (nJ HR.out 3) k;simpa using this);simp only[tq];go_wp2_with fail;refine(Egr (Z ⟨b,off+3,X⟩) (r.take k) k (c-3) _ hlen RD.out U).mono ?_;rintro e w3 ⟨⟨A',c',rfl,ow⟩,b2⟩;have OW:=J<|b_ ow (show w.heap.size<=w2.heap.size from HB1.out.size);replace K0:=EM K0 b2;replace HB1:=ET HB1 b2;clear ow b2 RD;have eS:(3+(k:Int)+2)=((k+5:Nat):Int):=U;rw[eS];obtain⟨tv,IE⟩:=En (#[E I 2,E I ((k+5:Nat):Int),E I 0,G A' k c']:Array Y);have TS:Ec (tv.size=4):=J fi;have TO:Ec (tv.all (·.oneCell')=EI):=J fj;have BS:Ec (Tryz.prog.built 101 [(0,E I 2),(1,E I ((k+5:Nat):Int)),(3,G A' k c')]=Z tv):=J (by rw[IE];kernel_rfl);replace IE:=J IE;go_wp2_with (first|((with_reducible refine It 45 ?_);refine I3 rfl 101 _ rfl tv BS.out ?_)|(with_reducible refine wS (cs:=tv) J3 K0 ?_ (hn:=TS.out) (h1:=TO.out)));refine EV (Jj J3 O _ _ w.heap.size tv O (K0.out.setRow tv) TS.out) O ?_;rw[IE.out];exact⟨⟨_,O,⟨A',c',by simp only[qx,hlen],ay OW.out K0.out _⟩⟩,E2 HB1.out (E7 _) _⟩
 ·rw[if_pos hq] at hf;subst hf;have tq:(XS (v::(k:Int)::r.take k) !=256*x+z)=EI:=oz;simp only[tq];clear tq hq i3 i4 i5 i2;go_wp2_with fail;refine(Da 12 _).mono ?_;rintro e w3 ⟨rfl,b2⟩;replace K0:=EM K0 b2;replace HB1:=ET HB1 b2;obtain⟨tv,IE⟩:=En (#[E I 3,E I 1,E I 12,G X 0 0]:Array Y);have TS:Ec (tv.size=4):=J fi;have TO:Ec (tv.all (·.oneCell')=EI):=J fj;rw[<-IE];replace IE:=J IE;go_wp2_with (with_reducible refine wS (cs:=tv) J3 K0 ?_ (hn:=TS.out) (h1:=TO.out));refine EV (Jj J3 O _ _ w.heap.size tv O (K0.out.setRow tv) TS.out) O ?_;rw[IE.out];exact⟨⟨_,O,tc _ _ (jH 12) O⟩,E2 HB1.out (E7 _) _⟩
theorem qD{off:Nat}{xs:List Int}(h:Row W (Z ⟨b,off,X⟩) xs)(i:Nat){Y3:Int}(hi:xs[i]?=Z Y3):W.cell? ⟨b,off+i,X⟩=Z (E IL Y3):=by
 obtain⟨hl,he⟩:=Xx.1 hi;rcases h.1 with h2|⟨b',off',e,h2⟩;·rw[h2] at hl;exact absurd hl Eh
 ·injection e with e;injection e with e1 e2 e3;subst e1 e2;rw[h2 i hl,he]
theorem EgK(b off:Nat)(a:Int)(n c:Nat)(w:H)(hn:([a]).length=n)(hr:Row w (Z ⟨b,off,X⟩) ([a]))(hc:n<=c)(hm:c<=9223372036854775807): Ef Eb 83 #[G (Z ⟨b,off,X⟩) n c] w fun e w'=>(∃Y3,e=Eg Y3/\qC w' w.heap.size (nx ([a])) Y3)/\El w w':=by
 have HR:=J hr;have HN:=J hn;clear hr;obtain⟨f,hf⟩:=En (nx ([a]));rw[<-hf];have HF:=J hf;have JJ:=J<|JV w (EJ #[E I 0,E I 0,E I 0,G X 0 0] 101) (EJ #[E I 0,E I 0,E I 0,G X 0 0] 101);have K2:Ec (D ((w.alloc (EJ #[E I 0,E I 0,E I 0,G X 0 0] 101)).alloc (EJ #[E I 0,E I 0,E I 0,G X 0 0] 101)) w.heap.size #[E I 0,E I 0,E I 0,G X 0 0] 101):=J<|D.V (D.new w #[E I 0,E I 0,E I 0,G X 0 0] 101) (Er _ _);have K3:Ec (D ((w.alloc (EJ #[E I 0,E I 0,E I 0,G X 0 0] 101)).alloc (EJ #[E I 0,E I 0,E I 0,G X 0 0] 101)) (w.heap.size+1) #[E I 0,E I 0,E I 0,G X 0 0] 101):=J Md;have OW:=J<|X0 ((w.alloc (EJ #[E I 0,E I 0,E I 0,G X 0 0] 101)).alloc (EJ #[E I 0,E I 0,E I 0,G X 0 0] 101)) w.heap.size;have TS:=0;have TO:=0;have J4:=0;clear hf;obtain rfl:n=1:=hn.symm;go_enter Tryz.func83,Tryz.ntmps83;have c0:((w.alloc (EJ #[E I 0,E I 0,E I 0,G X 0 0] 101)).alloc (EJ #[E I 0,E I 0,E I 0,G X 0 0] 101)).cell? ⟨b,off,X⟩=Z (E IL a):=qD (Ix HR.out JJ.out) 0 rfl;by_cases h5:a=165;·have q5:(a !=165)=B:=xm;replace HF:Ec (f=nH ([])):=J<|HF.out.trans (by rw[jL,if_neg U]);clear h5;exact Emh
 ·have q5:(a !=165)=EI:=xn;replace HF:Ec (f=jK (UF ([a]))):=J<|HF.out.trans xo;clear h5;go_wp2_with fail;refine(xk (Z ⟨b,off,X⟩) ([a]) 1 c _ sb U (Ix HR.out JJ.out) U).mono ?_;rintro e W1 ⟨rfl,b2⟩;replace OW:=J<|ZD OW.out b2;replace K2:=EM K2 b2;replace K3:=EM K3 b2;replace JJ:=ET JJ b2;clear b2 c0 OW;obtain⟨Oy,IE⟩:=En (#[E I 1,E I (UF ([a])),E I 0,G X 0 0]:Array Y);rw[<-IE];have nK:=TS;clear TS TO J4;have TS:Ec (Oy.size=4):=J fi;have TO:Ec (Oy.all (·.oneCell')=EI):=J fj;have J4:=J IE;clear IE;have OW:=J<|X0 W1 w.heap.size;go_wp2_with (with_reducible refine wS (cs:=Oy) J3 K3 (Ev.mk ?_) (ho:=nL) (hn:=TS.out) (h1:=TO.out));apply Eo;have hne:w.heap.size≠(w.heap.size+1):=U;replace OW:=J<|ay OW.out K3.out Oy;replace JJ:=J<|E2 JJ.out (U:w.heap.size<=(w.heap.size+1)) Oy;replace K2:=J<|(J8 Oy).Ek K2.out hne;replace K3:=J<|K3.out.setRow Oy;clear hne;generalize W1.setRow (w.heap.size+1) Oy=V1 at*;go_wp2_with (with_reducible first|refine wL J3 K3 ?_ (hn:=TS.out)|refine wS (cs:=Oy) J3 K2 ?_ (hn:=TS.out) (h1:=TO.out));refine EV (Jj J3 O _ _ w.heap.size Oy O (K2.out.setRow Oy) TS.out) O ?_;rw[J4.out,HF.out];exact EmI
theorem EgL(b off:Nat)(a v:Int)(n c:Nat)(w:H)(hn:([a,v]).length=n)(hr:Row w (Z ⟨b,off,X⟩) ([a,v]))(hc:n<=c)(hm:c<=9223372036854775807): Ef Eb 83 #[G (Z ⟨b,off,X⟩) n c] w fun e w'=>(∃Y3,e=Eg Y3/\qC w' w.heap.size (nx ([a,v])) Y3)/\El w w':=by
 have HR:=J hr;have HN:=J hn;clear hr;obtain⟨f,hf⟩:=En (nx ([a,v]));rw[<-hf];have HF:=J hf;have JJ:=J<|JV w (EJ #[E I 0,E I 0,E I 0,G X 0 0] 101) (EJ #[E I 0,E I 0,E I 0,G X 0 0] 101);have K2:Ec (D ((w.alloc (EJ #[E I 0,E I 0,E I 0,G X 0 0] 101)).alloc (EJ #[E I 0,E I 0,E I 0,G X 0 0] 101)) w.heap.size #[E I 0,E I 0,E I 0,G X 0 0] 101):=J<|D.V (D.new w #[E I 0,E I 0,E I 0,G X 0 0] 101) (Er _ _);have K3:Ec (D ((w.alloc (EJ #[E I 0,E I 0,E I 0,G X 0 0] 101)).alloc (EJ #[E I 0,E I 0,E I 0,G X 0 0] 101)) (w.heap.size+1) #[E I 0,E I 0,E I 0,G X 0 0] 101):=J Md;have OW:=J<|X0 ((w.alloc (EJ #[E I 0,E I 0,E I 0,G X 0 0] 101)).alloc (EJ #[E I 0,E I 0,E I 0,G X 0 0] 101)) w.heap.size;have TS:=0;have TO:=0;have J4:=0;clear hf;obtain rfl:n=2:=hn.symm;go_enter Tryz.func83,Tryz.ntmps83;have c1:((w.alloc (EJ #[E I 0,E I 0,E I 0,G X 0 0] 101)).alloc (EJ #[E I 0,E I 0,E I 0,G X 0 0] 101)).cell? ⟨b,off+1,X⟩=Z (E IL v):=qD (Ix HR.out JJ.out) 1 rfl;by_cases h1:v=1
 ·have q1:(v !=1)=B:=by rw[h1];rfl
  have c0:((w.alloc (EJ #[E I 0,E I 0,E I 0,G X 0 0] 101)).alloc (EJ #[E I 0,E I 0,E I 0,G X 0 0] 101)).cell? ⟨b,off,X⟩=Z (E IL a):=qD (Ix HR.out JJ.out) 0 rfl;by_cases h5:a=165;·have q5:(a !=165)=B:=xm;replace HF:Ec (f=nH ([v])):=J<|HF.out.trans (by rw[jL,if_neg U]);clear h5;have HF:=J<|HF.out.trans (by rw[qy,if_neg U];rfl:_=cL);exact Emh
  ·exact Epc
 ·have q1:(v !=1)=EI:=sy;go_wp2_with fail;refine(Da 10 _).mono ?_;rintro e W1 ⟨rfl,b2⟩;replace OW:=J<|ZD OW.out b2;replace K2:=EM K2 b2;replace K3:=EM K3 b2;replace JJ:=ET JJ b2;clear b2 c1 OW;obtain⟨Oy,IE⟩:=En (#[E I 3,E I 1,E I 10,G X 0 0]:Array Y);rw[<-IE];have nK:=TS;clear TS TO J4;have TS:Ec (Oy.size=4):=J fi;have TO:Ec (Oy.all (·.oneCell')=EI):=J fj;have J4:=J IE;clear IE;have OW:=J<|X0 W1 w.heap.size;go_wp2_with (with_reducible refine wS (cs:=Oy) J3 K3 (Ev.mk ?_) (ho:=nL) (hn:=TS.out) (h1:=TO.out));apply Eo;have hne:w.heap.size≠(w.heap.size+1):=U;replace OW:=J<|ay OW.out K3.out Oy;replace JJ:=J<|E2 JJ.out (U:w.heap.size<=(w.heap.size+1)) Oy;replace K2:=J<|(J8 Oy).Ek K2.out hne;replace K3:=J<|K3.out.setRow Oy;clear hne;generalize W1.setRow (w.heap.size+1) Oy=V1 at*;have c0:V1.cell? ⟨b,off,X⟩=Z (E IL a):=qD (Ix HR.out JJ.out) 0 rfl;by_cases h5:a=165;·have q5:(a !=165)=B:=xm;clear h5;go_wp2_with (with_reducible first|refine wL J3 K3 ?_ (hn:=TS.out)|refine wS (cs:=Oy) J3 K2 ?_ (hn:=TS.out) (h1:=TO.out));refine EV (Jj J3 O _ _ w.heap.size Oy O (K2.out.setRow Oy) TS.out) O ?_;rw[J4.out,HF.out,jL,if_neg (by simpa using q5),qy,if_pos h1];exact⟨⟨_,O,_,_,O,ay OW.out K2.out _⟩,E2 JJ.out (E7 _) _⟩
  ·exact Epc
theorem EgM(b off:Nat)(a v:Int)(k:Nat)(r:List Int)(n c:Nat)(w:H)(hn:(a::v::(k:Int)::r).length=n)(hr:Row w (Z ⟨b,off,X⟩) (a::v::(k:Int)::r))(hc:n<=c)(hm:c<=9223372036854775807): Ef Eb 83 #[G (Z ⟨b,off,X⟩) n c] w fun e w'=>(∃Y3,e=Eg Y3/\qC w' w.heap.size (nx (a::v::(k:Int)::r)) Y3)/\El w w':=by
 have HR:=J hr;have HN:=J hn;clear hr;obtain⟨f,hf⟩:=En (nx (a::v::(k:Int)::r));rw[<-hf];have HF:=J hf;have JJ:=J<|JV w (EJ #[E I 0,E I 0,E I 0,G X 0 0] 101) (EJ #[E I 0,E I 0,E I 0,G X 0 0] 101);have K2:Ec (D ((w.alloc (EJ #[E I 0,E I 0,E I 0,G X 0 0] 101)).alloc (EJ #[E I 0,E I 0,E I 0,G X 0 0] 101)) w.heap.size #[E I 0,E I 0,E I 0,G X 0 0] 101):=J<|D.V (D.new w #[E I 0,E I 0,E I 0,G X 0 0] 101) (Er _ _);have K3:Ec (D ((w.alloc (EJ #[E I 0,E I 0,E I 0,G X 0 0] 101)).alloc (EJ #[E I 0,E I 0,E I 0,G X 0 0] 101)) (w.heap.size+1) #[E I 0,E I 0,E I 0,G X 0 0] 101):=J Md;have OW:=J<|X0 ((w.alloc (EJ #[E I 0,E I 0,E I 0,G X 0 0] 101)).alloc (EJ #[E I 0,E I 0,E I 0,G X 0 0] 101)) w.heap.size;have TS:=0;have TO:=0;have J4:=0;clear hf;have tm:min (n:Int) 3=3:=by have:3<=n:=(by rw[<-hn];simp);omega
 have EgN:=JJ;go_enter Tryz.func83,Tryz.ntmps83;go_wp2_with fail;refine(EgH b off a v k r n c _ (by simpa using hn) (Ix HR.out JJ.out) hc hm).mono ?_;rintro e W0 ⟨⟨Y3,rfl,A9,c9,rfl,ow⟩,b2⟩;replace K2:=EM K2 b2;replace K3:=EM K3 b2;replace JJ:=ET JJ b2;replace OW:=J<|b_ ow (show w.heap.size<=_ from EgN.out.size);clear b2 ow;have oR:(fg v k r).b=(fg v k r).b:=rfl;obtain⟨Ip,IE⟩:=En (#[E I (fg v k r).kd,E I (fg v k r).sz,E I (fg v k r).cd,.slice A9 (fg v k r).b.length c9]:Array Y);rw[<-IE];have nK:=TS;clear TS TO J4;have TS:Ec (Ip.size=4):=J fi;have TO:Ec (Ip.all (·.oneCell')=EI):=J fj;have J4:=J IE;clear IE;go_wp2_with (with_reducible refine wS (cs:=Ip) J3 K3 (Ev.mk ?_) (ho:=nL) (hn:=TS.out) (h1:=TO.out));apply Eo;have hne:w.heap.size≠(w.heap.size+1):=U;replace OW:=J<|ay OW.out K3.out Ip;replace JJ:=J<|E2 JJ.out (U:w.heap.size<=(w.heap.size+1)) Ip;replace K2:=J<|(J8 Ip).Ek K2.out hne;replace K3:=J<|K3.out.setRow Ip;clear hne;generalize W0.setRow (w.heap.size+1) Ip=V0 at*;have c1:V0.cell? ⟨b,off+1,X⟩=Z (E IL v):=qD (Ix HR.out JJ.out) 1 rfl;by_cases h1:v=1
 ·have q1:(v !=1)=B:=by rw[h1];rfl
  subst h1;have c0:V0.cell? ⟨b,off,X⟩=Z (E IL a):=qD (Ix HR.out JJ.out) 0 rfl;by_cases h5:a=165;·have q5:(a !=165)=B:=xm;replace HF:Ec (f=nH (1::(k:Int)::r)):=J<|HF.out.trans (by rw[jL,if_neg U]);clear h5;go_wp2_with (with_reducible first|refine wL J3 K3 ?_ (hn:=TS.out)|refine wS (cs:=Ip) J3 K2 ?_ (hn:=TS.out) (h1:=TO.out));refine EV (Jj J3 O _ _ w.heap.size Ip O (K2.out.setRow Ip) TS.out) O ?_;rw[J4.out,HF.out,qy,if_neg Eh];exact EmI
  ·have q5:(a !=165)=EI:=xn;replace HF:Ec (f=jK (UF (a::1::(k:Int)::r))):=J<|HF.out.trans xo;clear h5;go_wp2_with fail;refine(xk (Z ⟨b,off,X⟩) (a::1::(k:Int)::r) n c _ sb U (Ix HR.out JJ.out) U).mono ?_;rintro e W2 ⟨rfl,b2⟩;replace OW:=J<|ZD OW.out b2;replace K2:=EM K2 b2;replace K3:=EM K3 b2;replace JJ:=ET JJ b2;clear b2 c0 OW;obtain⟨JA,IE⟩:=En (#[E I 1,E I (UF (a::1::(k:Int)::r)),E I 0,G X 0 0]:Array Y);exact ElO
 ·have q1:(v !=1)=EI:=sy;go_wp2_with fail;refine(Da 10 _).mono ?_;rintro e W1 ⟨rfl,b2⟩;replace OW:=J<|ZD OW.out b2;replace K2:=EM K2 b2;replace K3:=EM K3 b2;replace JJ:=ET JJ b2;clear b2 c1 OW;obtain⟨Oy,IE⟩:=En (#[E I 3,E I 1,E I 10,G X 0 0]:Array Y);rw[<-IE];have nK:=TS;clear TS TO J4;have TS:Ec (Oy.size=4):=J fi;have TO:Ec (Oy.all (·.oneCell')=EI):=J fj;have J4:=J IE;clear IE;have OW:=J<|X0 W1 w.heap.size;go_wp2_with (with_reducible refine wS (cs:=Oy) J3 K3 (Ev.mk ?_) (ho:=nL) (hn:=TS.out) (h1:=TO.out));apply Eo;have hne:w.heap.size≠(w.heap.size+1):=U;replace OW:=J<|ay OW.out K3.out Oy;replace JJ:=J<|E2 JJ.out (U:w.heap.size<=(w.heap.size+1)) Oy;replace K2:=J<|(J8 Oy).Ek K2.out hne;replace K3:=J<|K3.out.setRow Oy;clear hne;generalize W1.setRow (w.heap.size+1) Oy=V1 at*;have c0:V1.cell? ⟨b,off,X⟩=Z (E IL a):=qD (Ix HR.out JJ.out) 0 rfl;by_cases h5:a=165;·have q5:(a !=165)=B:=xm;clear h5;go_wp2_with (with_reducible first|refine wL J3 K3 ?_ (hn:=TS.out)|refine wS (cs:=Oy) J3 K2 ?_ (hn:=TS.out) (h1:=TO.out));refine EV (Jj J3 O _ _ w.heap.size Oy O (K2.out.setRow Oy) TS.out) O ?_;rw[J4.out,HF.out,jL,if_neg (by simpa using q5),qy,if_pos h1];exact⟨⟨_,O,_,_,O,ay OW.out K2.out _⟩,E2 JJ.out (E7 _) _⟩
  ·have q5:(a !=165)=EI:=xn;replace HF:Ec (f=jK (UF (a::v::(k:Int)::r))):=J<|HF.out.trans xo;clear h5;go_wp2_with fail;refine(xk (Z ⟨b,off,X⟩) (a::v::(k:Int)::r) n c _ sb U (Ix HR.out JJ.out) U).mono ?_;rintro e W2 ⟨rfl,b2⟩;replace OW:=J<|ZD OW.out b2;replace K2:=EM K2 b2;replace K3:=EM K3 b2;replace JJ:=ET JJ b2;clear b2 c0 OW;obtain⟨JA,IE⟩:=En (#[E I 1,E I (UF (a::v::(k:Int)::r)),E I 0,G X 0 0]:Array Y);exact ElO
theorem Mg(A:Option Eu)(c:Nat)(w:H): Ef Eb 83 #[G A 0 c] w fun e w'=>(∃Y3,e=Eg Y3/\qC w' w.heap.size cL Y3)/\El w w':=by obtain⟨f,hf⟩:=En cL;rw[<-hf];have HF:=J hf;clear hf;go_enter Tryz.func83,Tryz.ntmps83;exact Emh
theorem EgP(A:Option Eu)(xs:List Int)(n c:Nat)(w:H)(hn:xs.length=n)(hr:Row w A xs)(hc:n<=c)(hm:c<=9223372036854775807): Ef Eb 83 #[G A n c] w fun e w'=>(∃Y3,e=Eg Y3/\qC w' w.heap.size (nx xs) Y3)/\El w w':=by
 rcases hr.1 with h|⟨b,off,h,-⟩;·subst h;obtain rfl:n=0:=hn.symm;exact Mg A c w
 ·subst h;match xs,hn,hr with
  |[],hn,hr=>obtain rfl:n=0:=hn.symm;exact Mg _ c w
  |[a],hn,hr=>exact EgK b off a n c w hn hr hc hm
  |[a,v],hn,hr=>exact EgL b off a v n c w hn hr hc hm
  |a::v::k::r,hn,hr=> have hk:=hr.2 k Eh;obtain⟨k,rfl⟩:=jU hk.1;exact EgM b off a v k r n c w hn hr hc hm
def UH(W:H)(base:Nat):List (Int×List Int)->List Y->Prop
 |[],vs=>vs=[]
 |x::r,vs=> ∃(A:Option Eu) (c:Nat) (vs':List Y),vs=E I x.1:: .slice A x.2.length c::vs'/\Own W base A c x.2/\UH W base r vs'
theorem UH.keep{W W':H}{base:Nat}: ∀{its:List (Int×List Int)} {vs:List Y},UH W base its vs->(∀g cs,D W g cs 5->D W' g cs 5)->UH W' base its vs
 |[],_,h,_=>h
 |x::r,_,⟨A,c,vs',e,o,t⟩,hb=>⟨A,c,vs',e,⟨EP o.1 hb,o.2⟩,UH.keep t hb⟩
theorem Mh{W:H}{base:Nat}{cd:Int}{b:List Int}{A:Option Eu}{c:Nat}: ∀{its:List (Int×List Int)} {vs:List Y},UH W base its vs->Own W base A c b->UH W base (its++[(cd,b)]) (vs++[E I cd,G A b.length c])
 |[],vs,h,ho=>by rw[show vs=[] from h];exact⟨A,c,[],O,ho,O⟩
 |x::r,_,⟨A',c',vs',e,o,t⟩,ho=>⟨A',c',_,by rw[e];rfl,o,Mh t ho⟩
theorem UH.get{W:H}{base:Nat}: ∀{its:List (Int×List Int)} {vs:List Y} {j:Nat} {x:Int×List Int},UH W base its vs->its[j]?=Z x-> ∃(A:Option Eu) (c:Nat),vs[j*2]?=Z (E I x.1)/\vs[j*2+1]?=Z (.slice A x.2.length c)/\Own W base A c x.2
 |[],_,j,x,_,hx=>tM
 |y::r,_,0,x,⟨A,c,vs',e,o,t⟩,hx=>by
  obtain rfl:y=x:=by simpa using hx
  exact⟨A,c,by rw[e];rfl,by rw[e];rfl,o⟩
 |y::r,_,j+1,x,⟨A,c,vs',e,o,t⟩,hx=>by
  obtain⟨A',c',h1,h2,h3⟩:=UH.get t (show r[j]?=Z x by simpa using hx);refine⟨A',c',?_,?_,h3⟩;·rw[e,show(j+1)*2=j*2+1+1 from U];simpa using h1
  ·rw[e,show(j+1)*2+1=j*2+1+1+1 from U];simpa using h2
theorem fk{c:Nat}{xs:List Int}(h:Own W base A c xs)(hb: ∀g cs,D W g cs 5->D W' g cs 5):Own W' base A c xs:=⟨EP h.1 hb,h.2⟩
theorem EgQ:Oq Eb 101 #[E I 0,E I 0,E I 0,G X 0 0]:=by exact ElR
theorem EgR: ∃i,Tryz.prog.info? 74=Z i/\i.zero=Z (EZ #[E I 0,G X 0 0])/\i.size=2/\i.bytes=32:=by have h:(Tryz.prog.info? 74).map (fun i=>(i.zero,i.size,i.bytes))=Z (Z (EZ #[E I 0,G X 0 0]),2,32):=Ed;exact Emt
def lenOf(v:Y):Nat:=match v with
 |G _ n _=>n
 |_=>0
def At(xs:List Int)(k:Nat)(its:List (Int×List Int)):Prop:= ∀i r,Xh (xs.drop k) i r->Xh xs (its++i) r
theorem At.zero(xs:List Int):At xs 0 []:=fun i r h=>Up
theorem At.step{xs:List Int}{its:List (Int×List Int)}(h:At xs k its)(h0:(nx (xs.drop k)).kd≠0):At xs (k+(nx (xs.drop k)).sz) (its++(nx (xs.drop k)).item):=fun i r t=>by rw[XI];exact h _ _ (.step h0 (by rw[List.drop_drop];exact t))
theorem EgS{xs:List Int}(hb:U3 xs):(nx xs).kd=0\/(nx xs).kd=1\/(nx xs).kd=2\/(nx xs).kd=3:=by
 cases Cz xs hb with
 |wait e=>rw[e];exact .inl O
 |qz c e hc hl=>rw[e];exact .inr (.inr (.inr O))
 |skip e h1=>rw[e];exact .inr (.inl O)
 |frame n e hl hn=>rw[e];exact .inr (.inr (.inl O))
theorem all_some(b off:Nat)(xs:List Int)(n c:Nat)(w:H)(hn:xs.length=n)(hr:Row w (Z ⟨b,off,X⟩) xs)(hc:n<=c)(hm:c<=9223372036854775807)(hs:n<=1000000): Ef Eb 69 #[G (Z ⟨b,off,X⟩) n c] w fun e w'=>(∃(its:List (Int×List Int)) (r:List Int) (v:Y) (vals:List Y),e=Eg (Et #[v,E I r.length])/\Xh xs its r/\w'.ownsRow w.heap.size 74 2 v its.length vals/\UH w' w.heap.size its vals)/\El w w':=by
 have HR:=J hr;have HN:=J hn;have II:=J EgR;have sV:Ec (U3 xs):=J hr.2;clear hr hn;go_enter Tryz.func69,Tryz.ntmps69;(iterate 2 go_wp2_with fail;go_step3);go_wp2_with fail;go_loopw[0,4] (fun x y wr=> ∃(k i o2:Nat) (its:List (Int×List Int)) (A2:Option Eu) (c2:Nat) (vals:List Y),k<=n/\i<=k/\x=G (Z ⟨b,o2,X⟩) (n-k) (c-k)/\(k<n->o2=off+k)/\y=G A2 i c2/\its.length=i/\At xs k its/\wr.ownsRow w.heap.size 74 2 (G A2 i c2) i vals/\UH wr w.heap.size its vals/\El w wr) (fun x _ _=>lenOf x);case atStart=>exact⟨0,0,off,[],X,0,[],U,U,O,fun _=>rfl,O,O,At.zero _,bN _ _ _ _,O,E9 _ _⟩
 case round=>
  obtain⟨k,i,o2,its,A2,c2,vals,hk,hik,rfl,ho2,rfl,uD,hat,oi,iv,bb⟩:=hrel;have OI:=J oi;have IV:=J iv;have u:=J bb;have pU:=J uD;have HAT:=J hat;clear oi iv bb uD hat
  have RD:Ec (Row wr (Z ⟨b,o2,X⟩) (xs.drop k)):=J (by
   by_cases hkn:k<n;·rw[ho2 hkn];exact nJ (Ix HR.out u.out) k
   ·rw[List.drop_eq_nil_of_le ry];exact oJ _ _)
  have HL:Ec ((xs.drop k).length=n-k):=J (by rw[mB,HN.out]);go_wp2_with fail;refine(EgP (Z ⟨b,o2,X⟩) (xs.drop k) (n-k) (c-k) _ HL.out RD.out U U).mono ?_;rintro e w1 ⟨⟨Y3,rfl,A9,c9,rfl,ow⟩,b2⟩;have OW:=J<|b_ ow (show w.heap.size<=wr.heap.size from u.out.size);replace OI:=J<|EP OI.out fun _ _ h=>D.V h b2;replace IV:=J<|IV.out.keep fun _ _ h=>D.V h b2;replace u:=ET u b2;clear ow b2 RD;have Mi:=J<|EgS (sV.out.dr k);have Db:Ec ((nx (xs.drop k)).kd≠0->1<=(nx (xs.drop k)).sz/\(nx (xs.drop k)).sz<=n-k):=J (fun h=>by have:=MX (sV.out.dr k) h;rw[HL.out] at this;exact this);have HST:=J<|fun h=>HAT.out.step h;have HIT:Ec ((nx (xs.drop k)).item=if(nx (xs.drop k)).kd=2 then [(0,(nx (xs.drop k)).b)] else if(nx (xs.drop k)).kd=3 then [((nx (xs.drop k)).cd,[])] else []):=J O;have HW:Ec ((nx (xs.drop k)).kd=0->Xh (xs.drop k) [] (xs.drop k)):=J<|fun h=> .wait h;obtain⟨f,hf⟩:=En (nx (xs.drop k));rw[<-hf] at Mi Db HST HIT HW OW⊢;clear hf;obtain⟨kd,sz,cd,bd⟩:=f;simp only at Mi Db HST HIT HW OW⊢;obtain⟨tv,IE⟩:=En (#[E I kd,E I sz,E I cd,G A9 bd.length c9]:Array Y);rw[<-IE];have TS:Ec (tv.size=4):=J fi;have TO:Ec (tv.all (·.oneCell')=EI):=J fj;replace IE:=J IE;have K0:=J<|D.new w1 #[E I 0,E I 0,E I 0,G X 0 0] 101;have b2:=Er w1 (EJ #[E I 0,E I 0,E I 0,G X 0 0] 101);go_wp2_with (with_reducible first|refine wA EgQ ?_|refine wS (cs:=tv) J3 K0 (Ev.mk ?_) (hn:=TS.out) (h1:=TO.out));apply Eo;obtain⟨gx,hgx⟩:=En w1.heap.size;rw[<-hgx] at K0⊢;generalize w1.alloc (EJ #[E I 0,E I 0,E I 0,G X 0 0] 101)=Xc at*;have KF:=J<|K0.out.setRow tv;have b3:=E2 (g:=gx) b2 (Om hgx.symm) tv;generalize Xc.setRow gx tv=wf at*;clear K0 b2 hgx;replace OI:=J<|EP OI.out fun _ _ h=>D.V h b3;replace IV:=J<|IV.out.keep fun _ _ h=>D.V h b3;replace OW:=J<|ZD OW.out b3;replace u:=ET u b3;clear b3;have Yy:wf.cell? ⟨gx,0,X⟩=Z (E I kd):=(D.cell KF.out 0).trans td;have Dc:wf.cell? ⟨gx,1,X⟩=Z (E I sz):=(D.cell KF.out 1).trans td;have Yz:wf.cell? ⟨gx,2,X⟩=Z (E I cd):=(D.cell KF.out 2).trans td;have YA:wf.cell? ⟨gx,3,X⟩=Z (G A9 bd.length c9):=(D.cell KF.out 3).trans td;clear TS TO;by_cases h0:kd=0;·have HP:=J<|HAT.out _ _ (HW.out h0);subst h0;go_wp2_with fail;go_ret2;refine⟨⟨its,xs.drop k,_,vals,by rw[HL.out];rfl,?_,by rw[pU.out];exact OI.out,IV.out⟩,u.out⟩;have:=HP.out;rwa [fS] at this
  ·have hsz:=Db.out h0;have e0:(kd==0)=B:=sW;replace HAT:=J<|HST.out h0;rw[HIT.out] at HAT;clear HST HW Db;by_cases h2:kd=2
   ·subst h2;simp only[if_pos] at HAT;go_wp2_with (with_reducible refine I7 19 ?_);apply Eo;have KI:=J<|D.new wf #[E I 0,G A9 bd.length c9] 74;have b4:=J<|Er wf (EJ #[E I 0,G A9 bd.length c9] 74);replace u:=ET u b4.out;replace OI:=J<|EP OI.out fun _ _ h=>D.V h b4.out;replace IV:=J<|IV.out.keep fun _ _ h=>D.V h b4.out;replace OW:=J<|ZD OW.out b4.out;replace KF:=EM KF b4.out;clear Yy Dc Yz YA;clear b4;generalize wf.alloc (EJ #[E I 0,G A9 bd.length c9] 74)=Z7 at*;generalize wf.heap.size=gb at*;obtain⟨qA,qc,qw,U0,X4,Oa,-,-⟩:=dX (P:=Eb) Z7 w.heap.size w.heap.size 70 70 74 II.out.choose _ 2 32 Tryz.underlying70 II.out.choose_spec.1 II.out.choose_spec.2.1 II.out.choose_spec.2.2.1 II.out.choose_spec.2.2.2 rfl A2 c2 i vals OI.out ⟨gb,0,X⟩ 1 1 [E I 0,G A9 bd.length c9] O (fun j Y3 hu=>by rw[show(⟨gb,0,X⟩:Eu).add j=⟨gb,j,X⟩ from Xw];rw[D.cell KI.out,OE];exact hu) dx (fun _=>U) Ot U u.out.size (E7 _);go_wp2_with ((with_reducible refine It 19 ?_);(refine Jr (Ei O) (Ua O O O U0) ?_);refine Ev.mk ?_);apply Eo;replace OI:=J X4;replace IV:=J<|Mh (cd:=0) (b:=bd) (IV.out.keep fun _ _ h=>X1 Oa h Ea) (fk OW.out fun _ _ h=>X1 Oa h Ea);replace KF:=J<|X1 Oa KF.out Ea;replace u:=J<|u.out.trans (Oa.2.1 u.out.size);clear X4 Oa U0 KI;have Dc:qw.cell? ⟨gx,1,X⟩=Z (E I sz):=(D.cell KF.out 1).trans td;go_wp2_with fail;have HO:=ho2 U;subst HO;clear ho2;refine⟨⟨k+sz,i+1,if c-k=sz then off+k else off+(k+sz),its++[(0,bd)],qA,qc,_,U,U,?_,fun h=>if_neg U,O,?_,HAT.out,OI.out,IV.out,u.out⟩,?_⟩;·split<;>simp only[Nat.sub_sub,jj]
    ·rw[IY,pU.out];rfl
    ·simp only[lenOf];omega
   ·by_cases h3:kd=3
    ·subst h3;simp only[if_pos,if_neg (show¬((3:Int)=2) from Ea)] at HAT;go_wp2_with (with_reducible refine I7 27 ?_);apply Eo;have KI:=J<|D.new wf #[E I cd,G X 0 0] 74;have b4:=J<|Er wf (EJ #[E I cd,G X 0 0] 74);replace u:=ET u b4.out;replace OI:=J<|EP OI.out fun _ _ h=>D.V h b4.out;replace IV:=J<|IV.out.keep fun _ _ h=>D.V h b4.out;replace KF:=EM KF b4.out;clear Yy Dc Yz YA;clear b4;generalize wf.alloc (EJ #[E I cd,G X 0 0] 74)=Z7 at*;generalize wf.heap.size=gb at*;obtain⟨qA,qc,qw,U0,X4,Oa,-,-⟩:=dX (P:=Eb) Z7 w.heap.size w.heap.size 70 70 74 II.out.choose _ 2 32 Tryz.underlying70 II.out.choose_spec.1 II.out.choose_spec.2.1 II.out.choose_spec.2.2.1 II.out.choose_spec.2.2.2 rfl A2 c2 i vals OI.out ⟨gb,0,X⟩ 1 1 [E I cd,G X 0 0] O (fun j Y3 hu=>by rw[show(⟨gb,0,X⟩:Eu).add j=⟨gb,j,X⟩ from Xw];rw[D.cell KI.out,OE];exact hu) dx (fun _=>U) Ot U u.out.size (E7 _);go_wp2_with ((with_reducible refine It 27 ?_);(refine Jr (Ei O) (Ua O O O U0) ?_);refine Ev.mk ?_);apply Eo;replace OI:=J X4;replace IV:=J<|Mh (cd:=cd) (b:=[]) (IV.out.keep fun _ _ h=>X1 Oa h Ea) (X0 _ _);replace KF:=J<|X1 Oa KF.out Ea;replace u:=J<|u.out.trans (Oa.2.1 u.out.size);clear X4 Oa U0 KI;have Dc:qw.cell? ⟨gx,1,X⟩=Z (E I sz):=(D.cell KF.out 1).trans td;go_wp2_with fail;have HO:=ho2 U;subst HO;clear ho2;refine⟨⟨k+sz,i+1,if c-k=sz then off+k else off+(k+sz),its++[(cd,[])],qA,qc,_,U,U,?_,fun h=>if_neg U,O,?_,HAT.out,OI.out,IV.out,u.out⟩,?_⟩;·split<;>simp only[Nat.sub_sub,jj]
     ·rw[IY,pU.out];rfl
     ·simp only[lenOf];omega
    ·have e1:kd=1:=by have:=Mi.out;omega
     subst e1;simp only[if_neg (show¬((1:Int)=2) from Ea),if_neg (show¬((1:Int)=3) from Ea),fS] at HAT;go_wp2_with fail;have HO:=ho2 U;subst HO;clear ho2;refine⟨⟨k+sz,i,if c-k=sz then off+k else off+(k+sz),its,A2,c2,vals,U,U,?_,fun h=>if_neg U,O,pU.out,HAT.out,OI.out,IV.out,u.out⟩,?_⟩;·split<;>simp only[Nat.sub_sub,jj]
     ·simp only[lenOf];omega
theorem all_nil(A:Option Eu)(c:Nat)(w:H)(hm:c<=9223372036854775807): Ef Eb 69 #[G A 0 c] w fun e w'=>e=Eg (Et #[G X 0 0,E I 0])/\El w w':=by
 go_enter Tryz.func69,Tryz.ntmps69;(iterate 2 go_wp2_with fail;go_step3);go_wp2_with fail;go_loopw[0,4] (fun x y wr=>x=G A 0 c/\y=G X 0 0/\w=wr) (fun x _ _=>lenOf x);case atStart=>exact⟨O,O,O⟩
 case round=> obtain⟨rfl,rfl,rfl⟩:=hrel;go_wp2_with fail;refine(Mg A c _).mono ?_;rintro e w1 ⟨⟨Y3,rfl,A9,c9,rfl,ow⟩,b2⟩;have u:=J b2;clear ow b2;simp only[cL,List.length_nil,Int.natCast_zero,Int.ofNat_zero,show((0:Nat):Int)=0 from rfl];go_wp2_with fail;simp only[Exit.noGoto_ret];go_ret2;exact⟨O,bt u.out (Er _ _)⟩
theorem EgT(A:Option Eu)(xs:List Int)(n c:Nat)(w:H)(hn:xs.length=n)(hr:Row w A xs)(hc:n<=c)(hm:c<=9223372036854775807)(hs:n<=1000000): Ef Eb 69 #[G A n c] w fun e w'=>(∃(its:List (Int×List Int)) (r:List Int) (v:Y) (vals:List Y),e=Eg (Et #[v,E I r.length])/\Xh xs its r/\w'.ownsRow w.heap.size 74 2 v its.length vals/\UH w' w.heap.size its vals)/\El w w':=by
 rcases hr.1 with h|⟨b,off,h,-⟩;·subst h;obtain rfl:n=0:=hn.symm;refine(all_nil A c w hm).mono ?_;rintro e w' ⟨rfl,hb⟩;exact⟨⟨[],[],_,[],O,.wait O,bN _ _ _ _,O⟩,hb⟩
 ·subst h;exact all_some b off xs n c w hn hr hc hm hs
theorem Mj{c:Nat}{xs:List Int}(h:Own W base A c xs)(K:D W gs z 122)(i:Nat)(v:Y):Own (W.setCell ⟨gs,i,X⟩ v) base A c xs:=
 fk h fun _ _ hk=>(J1 (g:=gs) i v).Ek hk (EW hk K Ea)
theorem Mk{c:Nat}{xs:List Int}(h:Own W base A c xs):xs.length<=c/\c<=9223372036854775807:=by
 rcases h.1.2 with⟨hv,hn⟩|⟨g,cap',cur,hv,hg,hh,hl,hm,hs,ht⟩;·injection hv with h1 h2 h3;subst h3;exact⟨U,U⟩
 ·injection hv with h1 h2 h3;unfold maxLen at hm;exact⟨U,U⟩
theorem EgV{c:Nat}{xs:List Int}(h:Own W base A c xs):(∃g,A=Z ⟨g,0,X⟩)\/(A=X/\c=0):=by
 rcases h.1.2 with⟨hv,hn⟩|⟨g,cap',cur,hv,hg,hh,hl,hm,hs,ht⟩;·injection hv with h1 h2 h3;exact .inr ⟨h1,h3⟩
 ·injection hv with h1 h2 h3;exact .inl ⟨g,h1⟩
theorem Ml{w:H}(h:Ik b w w')(hk: ∀k,k<w.heap.size->w'.heap[k]?=w.heap[k]?):El w w':=⟨h.os,h.tape,h.output,h.size,hk⟩
theorem nM{b':Nat}{xs:List Y}(h:W.ownsRow b T size v n xs)(hb:b'<=b):W.ownsRow b' T size v n xs:=by
 obtain⟨h1,h2|⟨gg,cap,cur,hv,hg,r⟩⟩:=h;·exact⟨h1,.inl h2⟩
 ·exact⟨h1,.inr ⟨gg,cap,cur,hv,Ez hb hg,r⟩⟩
theorem UH.mono{W:H}{b b':Nat}: ∀{its:List (Int×List Int)} {vs:List Y},UH W b its vs->b'<=b->UH W b' its vs
 |[],_,h,_=>h
 |x::r,_,⟨A,c,vs',e,o,t⟩,hb=>⟨A,c,vs',e,b_ o hb,UH.mono t hb⟩
theorem EgW{xs i r}(h:Xh xs i r): ∃k,r=xs.drop k/\k+r.length=xs.length:=by
 obtain⟨k,e⟩:=h.left;refine⟨min k xs.length,?_,?_⟩
 ·by_cases hk:k<=xs.length;·rw[Nat.min_eq_left hk];exact e
  ·rw[Nat.min_eq_right U,e,List.drop_eq_nil_of_le U,List.drop_eq_nil_of_le (E7 _)]
 ·rw[e,mB];omega
def EgY(gs lo:Nat)(rest xs:List Int)(w:H)(e:Uh)(w':H):Prop:=
 ∃(its:List (Int×List Int)) (r:List Int) (v:Y) (vals:List Y) (A:Option Eu) (c:Nat) (w2:H),e=Eg v/\Xh (rest++xs) its r/\w'.ownsRow w.heap.size 74 2 v its.length vals/\UH w' w.heap.size its vals/\El w w2/\w'=w2.setCell ⟨gs,0,X⟩ (G A r.length c)/\Own w' w.heap.size A c r
theorem Eg0(gs lo:Nat)(A0:Option Eu)(c0 m:Nat)(rest:List Int)(A:Option Eu)(n c:Nat)(xs:List Int)(w:H)(ks:D w gs #[G A0 m c0] 122)(own:Own w lo A0 c0 rest)(hm:rest.length=m)(hr:Row w A xs)(hn:xs.length=n)(hl:lo<=gs)(h1:m<=100000)(h2:n<=100000): Ef Eb 48 #[M (Z ⟨gs,0,X⟩),G A n c] w (EgY gs lo rest xs w):=by
 have KS:=J ks;have OR:=J own;have HR:=J hr;have HN:=J hn;have HM:=J hm;have u:=J<|E9 w.heap.size w;clear ks own hr hn hm;have hmk: ∀W:H,(Instr.makeSlice 23 (E I 0) (E I ((m:Int)+(n:Int)))).run Eb W= .ok (G (Z ⟨W.heap.size,0,X⟩) 0 (m+n)) (W.alloc (EJ (aL #[E .u8 0] (m+n)) 5)):=Tc _ _ U U;have cs0:w.cell? ⟨gs,0,X⟩=Z (G A0 m c0):=(D.cell KS.out 0).trans O;have b1:=Er w (EJ (aL #[E .u8 0] (m+n)) 5);have cs1:(w.alloc (EJ (aL #[E .u8 0] (m+n)) 5)).cell? ⟨gs,0,X⟩=Z (G A0 m c0):=(D.cell (D.V KS.out b1) 0).trans O;have O1:=J<|Td w w.heap.size (m+n) (E7 _) U;go_enter Tryz.func48,Tryz.ntmps48;go_wp2_with (with_reducible refine I7 22 ?_);apply Eo;clear cs0 cs1 hmk;replace u:=ET u b1;clear b1;generalize w.alloc (EJ (aL #[E .u8 0] (m+n)) 5)=w1 at*;go_wp2_with ((with_reducible refine It 22 ?_);(with_reducible refine my _ (Ei O) (.tmp 17) (.tmp 21) O w.heap.size (Z ⟨w.heap.size,0,X⟩) (m+n) 0 [] O ?_ O1.out A0 c0 m rest HM.out ?_ (Ix OR.out.row u.out) U u.out.size ?_);(·rfl);(·rfl);intro A2 c2 w2 o2 b2 k2;refine Ev.mk ?_);apply Eo;replace u:=J<|u.out.trans b2;replace O1:=J o2;clear o2 b2 k2;rw[ZV] at O1;go_wp2_with ((with_reducible refine It 25 ?_);(with_reducible refine my _ (Ei O) (.tmp 23) (.tmp 24) O w.heap.size A2 c2 m rest HM.out ?_ O1.out A c n xs HN.out ?_ (Ix HR.out u.out) U u.out.size ?_);(·rfl);(·rfl);intro A3 c3 w3 o3 b3 k3;refine Ev.mk ?_);apply Eo;replace u:=J<|u.out.trans b3;replace O1:=J o3;clear o3 b3 k3;have xp:Ec ((rest++xs).length=m+n):=J (by rw[IY,HM.out,HN.out]);obtain⟨N,hN⟩:=En (m+n);rw[<-hN] at xp;have hN2:N<=200000:=U;have Mm:=J<|Mk O1.out;go_wp2_with fail;rw[<-hN];refine(EgT A3 (rest++xs) N c3 _ xp.out O1.out.row (by have:=Mm.out.1;have:=xp.out;omega) Mm.out.2 U).mono ?_;rintro e w4 ⟨⟨its,r,v,vals,rfl,hp,hv,hi⟩,b4⟩;have HP:=J hp;have BV:=J<|show w.heap.size<=w3.heap.size from u.out.size;have HV:=J<|nM hv BV.out;have HI:=J<|UH.mono hi BV.out;replace O1:=J<|ZD O1.out b4;replace u:=ET u b4;clear hp hv hi b4 BV;have HL:=J<|EgW HP.out;obtain⟨k,hk,hkl⟩:=HL.out;obtain⟨rl,hrl⟩:=En r.length;rw[<-hrl] at hkl⊢;have xq:=J hrl;have HK:=J hk;have hkN:k+rl=N:=by rw[<-xp.out];exact hkl
 have hsub:(N:Int)-(rl:Int)=(k:Int):=U;clear hrl hk hkl HL hN;have cs0:w4.cell? ⟨gs,0,X⟩=Z (G A0 m c0):=(D.cell (D.V KS.out u.out) 0).trans O;have tf:w4.frozen? ⟨gs,0,X⟩=B:=D.JX (D.V KS.out u.out) 0;have hcp:=Mm.out.1;rw[xp.out] at hcp;obtain⟨g3,hA3⟩|⟨hA3,hc3⟩:=EgV O1.out
 ·subst hA3;have RK:Ec (Row w4 (Z ⟨g3,k,X⟩) r):=J (by have:=nJ O1.out.row k;rw[OD] at this;rw[HK.out];exact this);by_cases hck:c3=k
  ·have e2:N-k=rl:=U;have hr0:rl=0:=U;have RN:Ec (Row w4 (Z ⟨g3,0,X⟩) r):=J (by have e:r=[]:=aF (by rw[<-xq.out];exact hr0);rw[e];exact oJ _ _);clear hr0;go_wp2_with ((with_reducible refine It 38 ?_);(with_reducible refine my _ (Ei O) (.const (G X 0 0)) (.tmp 37) O w.heap.size X 0 0 [] O ?_ (X0 _ _) (Z ⟨g3,0,X⟩) 0 rl r xq.out.symm ?_ RN.out U u.out.size ?_);(·rfl);(·rfl);intro A6 c6 w6 o6 b6 k6;refine Ev.mk ?_);apply Eo;have b7:=Ml b6 (fun k hk=>(k6 k hk (fun b h=>XE)).1);rw[ZV] at o6;have O6:=J o6;replace HV:=J<|EP HV.out fun _ _ h=>D.V h b7;replace HI:=J<|UH.keep HI.out fun _ _ h=>D.V h b7;replace u:=J<|u.out.trans b6;clear o6 b6 k6 b7 cs0 tf;have az:=EM KS u.out;have cs0:w6.cell? ⟨gs,0,X⟩=Z (G A0 m c0):=(D.cell az.out 0).trans O;have tf:w6.frozen? ⟨gs,0,X⟩=B:=D.JX az.out 0;go_wp2_with fail;go_ret;refine⟨its,r,v,vals,A6,c6,w6,O,HP.out,?_,?_,u.out,Dd,Mj O6.out az.out _ _⟩;·exact EP HV.out fun _ _ h=>(J1 (g:=gs) 0 _).Ek h (EW h az.out Ea)
   ·exact Ena
  ·have e2:N-k=rl:=U;go_wp2_with ((with_reducible refine It 38 ?_);(with_reducible refine my _ (Ei O) (.const (G X 0 0)) (.tmp 37) O w.heap.size X 0 0 [] O ?_ (X0 _ _) (Z ⟨g3,k,X⟩) (c3-k) rl r xq.out.symm ?_ RK.out U u.out.size ?_);(·rfl);(·rfl);intro A6 c6 w6 o6 b6 k6;refine Ev.mk ?_);apply Eo;have b7:=Ml b6 (fun k hk=>(k6 k hk (fun b h=>XE)).1);rw[ZV] at o6;have O6:=J o6;replace HV:=J<|EP HV.out fun _ _ h=>D.V h b7;replace HI:=J<|UH.keep HI.out fun _ _ h=>D.V h b7;replace u:=J<|u.out.trans b6;clear o6 b6 k6 b7 cs0 tf;have az:=EM KS u.out;have cs0:w6.cell? ⟨gs,0,X⟩=Z (G A0 m c0):=(D.cell az.out 0).trans O;have tf:w6.frozen? ⟨gs,0,X⟩=B:=D.JX az.out 0;go_wp2_with fail;go_ret;refine⟨its,r,v,vals,A6,c6,w6,O,HP.out,?_,?_,u.out,Dd,Mj O6.out az.out _ _⟩;·exact EP HV.out fun _ _ h=>(J1 (g:=gs) 0 _).Ek h (EW h az.out Ea)
   ·exact Ena
 ·subst hA3 hc3;have hN0:N=0:=U;have hk0:k=0:=U;have hr0:rl=0:=U;subst hk0 hr0;have RN:Ec (Row w4 X r):=J (by have e:r=[]:=aF Dd;rw[e];exact oJ _ _);go_wp2_with ((with_reducible refine It 38 ?_);(with_reducible refine my _ (Ei O) (.const (G X 0 0)) (.tmp 37) O w.heap.size X 0 0 [] O ?_ (X0 _ _) X 0 0 r xq.out.symm ?_ RN.out U u.out.size ?_);(·rfl);(·rfl);intro A6 c6 w6 o6 b6 k6;refine Ev.mk ?_);apply Eo;have b7:=Ml b6 (fun k hk=>(k6 k hk (fun b h=>XE)).1);rw[ZV] at o6;have O6:=J o6;replace HV:=J<|EP HV.out fun _ _ h=>D.V h b7;replace HI:=J<|UH.keep HI.out fun _ _ h=>D.V h b7;replace u:=J<|u.out.trans b6;clear o6 b6 k6 b7 cs0 tf;have az:=EM KS u.out;have cs0:w6.cell? ⟨gs,0,X⟩=Z (G A0 m c0):=(D.cell az.out 0).trans O;have tf:w6.frozen? ⟨gs,0,X⟩=B:=D.JX az.out 0;go_wp2_with fail;go_ret;refine⟨its,r,v,vals,A6,c6,w6,O,HP.out,?_,?_,u.out,Dd,Mj O6.out az.out _ _⟩;·exact EP HV.out fun _ _ h=>(J1 (g:=gs) 0 _).Ek h (EW h az.out Ea)
  ·exact Ena
theorem Eg1(w:H):Ef Eb 24 #[] w fun e w'=>e=Eg (M (Z ⟨w.heap.size,0,X⟩))/\w'=w.alloc (EJ #[G X 0 0] 122):=by go_enter Tryz.func24,Tryz.ntmps24;exact Eli
section
variable{P:Program}{w:World}
theorem Df(base b2:Nat)(t ty e:EB)(i:TypeInfo)(z:Y)(size bytes:Nat)(ht:P.underlying t=Z (.slice e))(hi:P.info? e=Z i)(hz:i.zero=Z z)(hsize:i.size=size)(hby:i.bytes=bytes)(hzs:z.cells.size=size)(hsz:0<size) (v:Y) (n:Nat) (xs:List Y) (hown:w.ownsRow base e size v n xs) (Y3:Y) (m:Nat) (ys:List Y) (hu:w.ownsRow b2 e size Y3 m ys) (h1: ∀y∈ys,y.oneCell'=EI) (h63:n+m<=maxLen) (hbytes:(n+m)*bytes<=140737488355328) (hbase:base<=w.heap.size): ∃A' c' w',(bv #[t,t] ty #[v,Y3]).run P w= .ok (G A' (n+m) c') w'/\w'.ownsRow base e size (G A' (n+m) c') (n+m) (xs++ys)/\w.grownBy w' v.ownBlock:=by
 have fin: ∀v' w',(bv #[t,t] ty #[v,Y3]).run P w= .ok v' w'->w'.ownsRow base e size v' (n+m) (xs++ys)->w.grownBy w' v.ownBlock-> ∃A' c' w',(bv #[t,t] ty #[v,Y3]).run P w= .ok (G A' (n+m) c') w'/\w'.ownsRow base e size (G A' (n+m) c') (n+m) (xs++ys)/\w.grownBy w' v.ownBlock:=fun v' w' a b c=>by
  rcases b.2 with⟨rfl,h0⟩|⟨g,cap,cur,rfl,_⟩;·refine⟨X,0,w',by rw[a,h0],?_,c⟩;rw[h0] at b⊢;exact b
  ·exact⟨_,_,w',a,b,c⟩
 rcases hu.2 with⟨rfl,h0⟩|⟨g,cap,cur,rfl,-⟩;·have hy:ys=[]:=aF (by rw[hu.1,h0,Nat.zero_mul]);subst hy;subst h0;refine fin v w (run_append_owned_none w base t ty e i size ht hi v n xs hown) FY ⟨O,O,O,E7 _,fun _ _ _=>rfl⟩
 ·obtain⟨v',w',h2,h3,h4,-⟩:=run_append_own_at (P:=P) (w:=w) base t ty e i z size bytes ht hi hz hsize hby hzs hsz v n xs hown ⟨g,0,X⟩ m cap ys hu.1 (hu.cells (g:=g) O) h1 h63 hbytes hbase;exact fin v' w' h2 h3 h4
end
theorem qF{w:H}{xs:List Y}(hown:w.ownsRow base e size v n xs)(hg:w.grownBy w' v.ownBlock){c:Array Y}(h:D w k c S)(hS:S≠e):D w' k c S:=by
 refine(hg.block k h.lt fun e2=> ?_).trans h;rcases hown.2 with⟨rfl,-⟩|⟨g,cap,cur,rfl,-,hb,-⟩;·simp[mx] at e2
 ·have:k=g:=Mn;subst this;have hb2:w.heap[k]?=Z (EJ c S (0,0)):=h;rw[hb] at hb2;injection hb2 with hb2;injection hb2 with _ h2 _;exact hS h2.symm
theorem Mo{w:H}{xs:List Y}(hown:w.ownsRow base e size v n xs)(hg:w.grownBy w' v.ownBlock)(hb:base<=w.heap.size):Ik base w w':=by
 refine⟨hg.os,hg.tape,hg.output,hg.size,fun k hk=>hg.block k U fun e2=> ?_⟩;rcases hown.2 with⟨rfl,-⟩|⟨g,cap,cur,rfl,hl,-,-⟩;·simp[mx] at e2
 ·have:k=g:=Mn;omega
theorem YB{w:H}{xs:List Y}(hown:w.ownsRow base e size v n xs)(hg:w.grownBy w' v.ownBlock){o:Obj}(h:w.heap[k]?=Z o)(ho:o.isCells=B):w'.heap[k]?=Z o:=by
 refine(hg.block k (J6.1 h).1 fun e2=> ?_).trans h;rcases hown.2 with⟨rfl,-⟩|⟨g,cap,cur,rfl,-,hb,-⟩;·simp[mx] at e2
 ·have:k=g:=Mn;subst this;rw[hb] at h;injection h with h;subst h;cases ho
def xr:List EB:=[43,264,58]
structure dL(hi:Nat)(w w':H):Prop where
 bel:Ik hi w w'
 Ek: ∀k c S,xr.contains S=B->D w k c S->D w' k c S
theorem dL.trans{hi:Nat}{a b c:H}(h:dL hi a b)(k:dL hi b c):dL hi a c:=⟨h.bel.trans k.bel,fun i d S hS hb=>k.Ek i d S hS (h.Ek i d S hS hb)⟩
theorem dL.EA{hi:Nat}{w:H}(h:El w w')(hh:hi<=w.heap.size):dL hi w w':=⟨h.mono hh,fun _ _ _ _ hb=>hb.V h⟩
structure JF(lo hi:Nat)(w w':H):Prop where
 bel:Ik lo w w'
 Ek: ∀k c S,k<hi->kE.contains S=B->S≠122->D w k c S->D w' k c S
 strm: ∀g A n c,g<hi->D w g #[G A n c] 122-> ∃A' n' c',D w' g #[G A' n' c'] 122/\ ∀k,k<hi->oD A k->oD A' k
theorem JF.refl(lo hi:Nat)(w:H):JF lo hi w w:=⟨E9 _ _,fun _ _ _ _ _ _ h=>h,fun _ _ _ _ _ h=>⟨_,_,_,h,fun _ _ h=>h⟩⟩
theorem JF.trans{hi:Nat}{a b c:H}(h:JF lo hi a b)(k:JF lo hi b c):JF lo hi a c:=
 ⟨h.bel.trans k.bel,fun i d S hi hm hs hb=>k.Ek i d S hi hm hs (h.Ek i d S hi hm hs hb),fun i A n c hi hb=>by obtain⟨A1,n1,c1,b1,f1⟩:=h.strm i A n c hi hb;obtain⟨A2,n2,c2,b2,f2⟩:=k.strm i A1 n1 c1 hi b1;exact⟨A2,n2,c2,b2,fun j hj ha=>f2 j hj (f1 j hj ha)⟩⟩
theorem JF.EA{hi:Nat}{w:H}(h:El w w')(hl:lo<=w.heap.size):JF lo hi w w':=⟨h.mono hl,fun _ _ _ _ _ _ hb=>hb.V h,fun _ _ _ _ _ hb=>⟨_,_,_,hb.V h,fun _ _ h=>h⟩⟩
theorem JF.ti{hi:Nat}{w:H}(h:dL hi w w')(hl:lo<=hi):JF lo hi w w':=
 ⟨h.bel.mono hl,fun k _ _ hk _ _ hb=>(h.bel.block k hk).trans hb,fun k _ _ _ hk hb=>⟨_,_,_,(h.bel.block k hk).trans hb,fun _ _ h=>h⟩⟩
theorem Ew.low'{hi:Nat}{w:H}(h:Ew lo hi w w')(hl:lo<=hi)(hh:hi<=w.heap.size):Ik lo w w':=
 (h.Ebu hh).V hl
theorem JF.xt{hi h2:Nat}{w:H}(h:Ew lo h2 w w')(hl:lo<=hi)(hh:hi<=h2)(hs:h2<=w.heap.size):JF lo hi w w':=
 ⟨h.low' U hs,fun k _ _ hk hm _ hb=>h.old hb hm U,fun k _ _ _ hk hb=>⟨_,_,_,h.old hb Ea U,fun _ _ h=>h⟩⟩
theorem Ew.obj{hi:Nat}{w:H}(h:Ew lo hi w w'){o:Obj}(hk:k<hi)(ho:w.heap[k]?=Z o)(hc:o.isCells=B):w'.heap[k]?=Z o:=by refine(h.low k hk (J6.1 ho).1 fun c T p hp=> ?_).trans ho;rw[ho] at hp;injection hp with hp;subst hp;cases hc
def cW(lo:Nat)(gs:Nat)(r:List Int)(W:H):Prop:= ∃(A:Option Eu) (c:Nat),D W gs #[G A r.length c] 122/\Own W lo A c r
def mcV(gc s1 s2 s3:Nat):Array Y:= #[M (Z ⟨gc,0,X⟩),E I 0,M (Z ⟨s1,0,X⟩),M (Z ⟨s2,0,X⟩),M (Z ⟨s3,0,X⟩)]
structure UK where
 (gc gq gt gm s1 s2 s3:Nat)
structure Jq(lo:Nat)(g:Nat->Y)(a:UK)(c:Ey)(rs:Int->List Int)(W:H):Prop where
 core:JE lo g a.gc a.gq a.gt c W
 Ek:D W a.gm (mcV a.gc a.s1 a.s2 a.s3) 84
 lm:lo<=a.gm
 l1:lo<=a.s1
 l2:lo<=a.s2
 l3:lo<=a.s3
 n12:a.s1≠a.s2
 n13:a.s1≠a.s3
 n23:a.s2≠a.s3
 st1:cW lo a.s1 (rs 1) W
 st2:cW lo a.s2 (rs 2) W
 qG:cW lo a.s3 (rs 3) W
 qH: ∀i,U3 (rs i)/\(rs i).length<=40
theorem cW.via{r:List Int}(h:cW lo gs r W)(h1: ∀k c,D W k c 122->D W' k c 122)(h2: ∀k c,D W k c 5->D W' k c 5):cW lo gs r W':=by obtain⟨A,c,k,o⟩:=h;exact⟨A,c,h1 _ _ k,fk o h2⟩
theorem Jq.via{a:UK}(h:Jq lo g a c rs W)(hb: ∀k cs S,S≠43->S≠264->S≠58->D W k cs S->D W' k cs S)(hl:Ik lo W W'):Jq lo g a c rs W':=
 ⟨h.core.via (fun k cs S hS hk=>hb k cs S xu xu xu hk) hl,hb _ _ _ Ea Ea Ea h.Ek,h.lm,h.l1,h.l2,h.l3,h.n12,h.n13,h.n23,
  h.st1.via (fun _ _=>hb _ _ _ Ea Ea Ea) (fun _ _=>hb _ _ _ Ea Ea Ea),h.st2.via (fun _ _=>hb _ _ _ Ea Ea Ea) (fun _ _=>hb _ _ _ Ea Ea Ea),
  h.qG.via (fun _ _=>hb _ _ _ Ea Ea Ea) (fun _ _=>hb _ _ _ Ea Ea Ea),h.qH⟩
theorem Eg3(h1:S≠43)(h2:S≠264)(h3:S≠58):xr.contains S=B:=by
 simp only[xr,List.contains_eq_mem,UJ,UA,or_false,decide_eq_false_iff_not];rintro(h|h|h);·exact h1 h
 ·exact h2 h
 ·exact h3 h
theorem Jq.y{hi:Nat}{a:UK}(h:Jq lo g a c rs W)(hy:dL hi W W')(hl:lo<=hi):Jq lo g a c rs W':=
 h.via (fun k cs S h1 h2 h3=>hy.Ek k cs S (Eg3 h1 h2 h3)) (hy.bel.mono hl)
theorem Jq.V{a:UK}(h:Jq lo g a c rs W)(hb:El W W'):Jq lo g a c rs W':=
 h.via (fun _ _ _ _ _ _ hk=>hk.V hb) (hb.mono (Ez h.lm (am h.Ek.lt)))
theorem Jq.mut{hi:Nat}{a:UK}{c':Ey}(h:Jq lo g a c rs W)(m:Ew lo hi W W')(C:JE lo g a.gc a.gq a.gt c' W'):Jq lo g a c' rs W':=
 ⟨C,m.Ek h.Ek Ea Ea,h.lm,h.l1,h.l2,h.l3,h.n12,h.n13,h.n23,h.st1.via (fun _ _ hk=>m.Ek hk Ea Ea) (fun _ _ hk=>m.Ek hk Ea Ea),
  h.st2.via (fun _ _ hk=>m.Ek hk Ea Ea) (fun _ _ hk=>m.Ek hk Ea Ea),h.qG.via (fun _ _ hk=>m.Ek hk Ea Ea) (fun _ _ hk=>m.Ek hk Ea Ea),h.qH⟩
def UK.s(a:UK)(k:Int):Nat:=if k=1 then a.s1 else if k=2 then a.s2 else a.s3
theorem Jq.str{a:UK}(h:Jq lo g a c rs W){k:Int}(hk:1<=k/\k<=3):cW lo (a.s k) (rs k) W/\lo<=a.s k/\W.cell? ⟨a.gm,2+(k-1).toNat,X⟩=Z (M (Z ⟨a.s k,0,X⟩)):=by
 have hc:k=1\/k=2\/k=3:=U;have hb:=D.cell h.Ek;rcases hc with rfl|rfl|rfl;·exact⟨h.st1,h.l1,(hb 2).trans O⟩
 ·exact⟨h.st2,h.l2,(hb 3).trans O⟩
 ·exact⟨h.qG,h.l3,(hb 4).trans O⟩
theorem Eg4{xs:List Int}(h:(nx xs).kd=0)(hb:U3 xs):xs.length<=40:=by
 match xs,h,hb with
 |[],_,_=>simp
 |[_],_,_=>simp
 |[_,_],_,_=>simp
 |a::v::n::r,h,hb=>
  have hn:=hb n Eh;rw[jL] at h;by_cases h1:a≠165;·rw[if_pos h1] at h;cases h
  ·rw[if_neg h1] at h;rw[qy] at h;by_cases h2:v≠1;·rw[if_pos h2] at h;cases h
   ·rw[if_neg h2] at h;rw[show Cy (n::r)=fg 1 n r from rfl] at h;unfold fg at h;by_cases h3:32<n;·rw[if_pos h3] at h;cases h
    ·rw[if_neg h3] at h;by_cases h4:(r.length:Int)<n+2;·simp only[ZC];omega
     ·rw[if_neg h4] at h;split at h<;>cases h
theorem Xh.Eg5{xs i r}(h:Xh xs i r):U3 xs->r.length<=40:=by
 induction h with
 |wait h=>exact fun hb=>Eg4 h hb
 |step h t ih=>exact fun hb=>ih (hb.dr _)
theorem Jq.take{a:UK}{w2:H}(h:Jq lo g a c rs W){k:Int}(hk:1<=k/\k<=3)(hb:El W w2){r:List Int}{d:Nat}(e:W'=w2.setCell ⟨a.s k,0,X⟩ (G A r.length d))(ho:Own W' lo A d r)(hr:U3 r/\r.length<=40):Jq lo g a c (fun s=>if s=k then r else rs s) W'/\E3 (a.s k) W W':=by
 obtain⟨⟨A0,c0,kb,o0⟩,hl,-⟩:=h.str hk;have Y9:=h.V hb;have m0:=kb.V hb;have on:E3 (a.s k) w2 W':=by rw[e];exact J1 0 _
 have keep: ∀i cs S,S≠122->D w2 i cs S->D W' i cs S:=fun i cs S hS hi=>on.Ek hi (EW hi m0 hS);have ks:D W' (a.s k) #[G A r.length d] 122:=by rw[e];exact m0.set 0 _
 have new:cW lo (a.s k) r W':=⟨A,d,ks,ho⟩;have old: ∀gs x,cW lo gs x w2->gs≠a.s k->cW lo gs x W':=fun gs x ⟨A1,c1,k1,o1⟩ hne=>⟨A1,c1,on.Ek k1 hne,fk o1 fun _ _=>keep _ _ _ Ea⟩;have hlo:Ik lo w2 W':=on.bel lo hl (Ez Y9.lm (am Y9.Ek.lt))
 have Eg6: ∀i,U3 ((fun s=>if s=k then r else rs s) i)/\((fun s=>if s=k then r else rs s) i).length<=40:=fun i=>by
  dsimp only;split;·exact hr
  ·exact h.qH i
 refine⟨⟨Y9.core.via (fun i cs S hS=>keep i cs S xu) hlo,keep _ _ _ Ea Y9.Ek,h.lm,h.l1,h.l2,h.l3,h.n12,h.n13,h.n23,?_,?_,?_,Eg6⟩,(E3.EA hb).trans on⟩
 all_goals
  have hc:k=1\/k=2\/k=3:=U
  rcases hc with rfl|rfl|rfl
 ·exact new
 ·exact old _ _ Y9.st1 h.n12
 ·exact old _ _ Y9.st1 h.n13
 ·exact old _ _ Y9.st2 h.n12.symm
 ·exact new
 ·exact old _ _ Y9.st2 h.n23
 ·exact old _ _ Y9.qG h.n13.symm
 ·exact old _ _ Y9.qG h.n23.symm
 ·exact new
end Go.Proofs.YtclmichaaiohjaaGreatDoor
