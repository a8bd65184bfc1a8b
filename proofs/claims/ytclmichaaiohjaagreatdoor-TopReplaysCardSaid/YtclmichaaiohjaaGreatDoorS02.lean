import Derived.Test.YtclmichaaiohjaaGreatDoorS01
import Derived.LaidMore
import Derived.Laws.BitsAllLaws
import Derived.Laws.BytesArg
import Derived.Laws.EntriesVeiled
import Derived.Lib.SlBytesConst
import Derived.Outline
import Derived.StillTailTactics
set_option maxRecDepth 100000
set_option linter.unusedVariables false
set_option linter.unusedSimpArgs false
set_option maxHeartbeats 6400000
namespace Go.Proofs.YtclmichaaiohjaaGreatDoor
open RowKit
open _root_.Array renaming getElem?_eq_none->iJ
open BitVec renaming ofInt->fX
open Bool renaming true->EJ,false->EI
open Go renaming bits->Ir,World->M,Calls->Eg,TypeId->EB,Value->Y,Addr->Ep,Program->Jq,heap_alloc_new->gI,bodyPost_ret->ET,Exit->UM,Act->E_,Oper->EP,yielded->Jg,execOp->Ig,wpList->Ib,undef->I6,Operand->J5,info_parts->au,madeCells->bZ,below_setRow->EY,wpQuiet_nil->I5,callFunc->Jm,wp_loop_rounds->Uk,rounds_succ->Il,run_underlying->go,Ending->Ud,wpList_store_mid->Ux
open Act renaming put->Ih
open BinOp renaming and->lU
open Builtin renaming append_->ZX
open DataW renaming trod->ZN
open Ending renaming returned->Ei
open Instr renaming loadAt->gJ,sureAddr->dp,index->Un
open IntKind renaming i64->I,u8->Ix,u64->Im,u32->Ok
open Lib renaming hid->J
open Obj renaming cells->Eb
open Oper renaming wp->dn
open Go.Proofs.Tryz renaming prog->EZ,underlying23->aJ,func156->lX,ntmps156->lZ
open Region renaming wanted->JO
open Result renaming andThen_ok->OM
open RowKit renaming Below->Ij,Hid->Ed,intOf->In
open RowKit.Below renaming refl->IU,heap_setCell->XK,alloc->J6,setCell->J7,mono->pC
open Sem renaming run_bind->OH,run_pure->Oi
open Value renaming bool->Ec,int->E,agg->Ea,slice->G,tuple->Eu,pointer->V,oneCell'->Oc,ownBlock->np
open World renaming block_lt_of_cell?->Xv,setCell->fZ,alloc->Xo,ownsRow_nil->cu,ownsRow_lit->nm
open Int renaming toNat_natCast->kn,eq_ofNat_of_zero_le->fm
open List renaming getElem?_eq_none->bJ,mem_of_mem_take->iI,eq_nil_of_length_eq_zero->ZP,getElem?_eq_getElem->JV,range->U4,cons_append->ku,take_append_drop->iU,take_succ_cons->Is,drop_eq_getElem_cons->nO,length_take->ar,replicate->fh,take_of_length_le->OP,getD_eq_getElem?_getD->OE,getElem?_append_left->Z_,getElem?_take_of_lt->cE,getElem?_append_right->aE,map_cons->UB,map_nil->Xn,take_zero->Iq,mem_map->dw,getElem?_toArray->J2,setIfInBounds_toArray->Ik,length_append->IY,flatMap_cons->kG,length_cons->Zn,mem_cons->UJ,getElem_mem->gh,append_assoc->U7,set_cons_succ->Ic,set_cons_zero->If,mem_append->Xp,map_append->ik,nil_append->ZZ,length_drop->il,getElem?_cons_zero->kS,not_mem_nil->Um,drop_succ_cons->IT,drop_zero->IM,append_nil->dy
open Nat renaming lt_or_ge->JW,le_trans->Ew,le_refl->E3,zero_add->Ox,zero_le->aO
open Ne renaming symm->XA
open Option renaming some->D,none->Z
variable{w w' W:M}{base cap o g n m s s':Nat}{A Y4:Option Ep}{xs ys l k:List Int}{ops:Array EP}{rest:List EP}{a:E_}{Q:UM->E_->M->Prop}{cs:Array Y}{P:Jq}{gp:Y}{f q:Nat->Y}{T:EK}{K:E_->Prop}{t:EB}{x y:Int}
def bj(A:Option Ep)(k:Nat):Prop:= ∀a,A=D a->a.block≠k
theorem fk(h:Own w base A cap xs): ∀a,A=D a->base<=a.block/\a.block<w.heap.size:=by
 intro a ha;subst ha;rcases h.1.2 with⟨hv,hn⟩|⟨g,cap',cur,hv,hg,hh,hl⟩;·simp at hv
 ·injection hv with h1 h2 h3;injection h1 with h1;subst h1;exact⟨hg,mT hh⟩
theorem EO8(h:Own w base A cap xs)(hb: ∀a,A=D a->w'.heap[a.block]?=w.heap[a.block]?):Own w' base A cap xs:=by
 obtain⟨⟨h1,h2⟩,h3⟩:=h;refine⟨⟨h1,?_⟩,h3⟩;rcases h2 with h2|⟨g,cap',cur,hv,hg,hh,hl⟩;·exact .inl h2
 ·refine .inr ⟨g,cap',cur,hv,hg,?_,hl⟩;injection hv with h1 h2 h3;subst h1;rw[hb _ O];exact hh
theorem sw(h:Own w base Y4 cap xs)(hAB: ∀b,Y4=D b->bj A b.block) (hk: ∀k,k<w.heap.size->bj A k->w'.heap[k]?=w.heap[k]?):Own w' base Y4 cap xs:=
 EO8 h fun b hb=>hk b.block (fk h b hb).2 (hAB b hb)
theorem sx(w:M)(base:Nat)(A:Option Ep)(cap:Nat)(xs:List Int)(hown:Own w base A cap xs)(Y4:Option Ep)(c:Nat)(ys:List Int)(hr:Row w Y4 ys) (hsmall:xs.length+ys.length<=1000000000) (hbase:base<=w.heap.size) (ty:EB): ∃A' cap' w',(ZX #[23,23] ty #[G A xs.length cap,G Y4 ys.length c]).run EZ w= .ok (G A' (xs.length+ys.length) cap') w'/\ Own w' base A' cap' (xs++ys)/\Ij base w w'/\(∀k,k<w.heap.size->bj A k->w'.heap[k]?=w.heap[k]?/\bj A' k):=by
 obtain⟨i0,hi,hz0,hz1,hz2⟩:=au jl
 have hbb: ∀x∈xs++ys,0<=x/\x<=255:=by
  intro x hx;rcases Xp.1 hx with h|h;·exact hown.2 x h
  ·exact hr.2 x h
 rcases Y4 with _|ad
 ·have hy:ys=[]:=by
   rcases hr.1 with h|⟨b,off,h,_⟩;·exact h
   ·cases h
  subst hy;refine⟨A,cap,w,?_,GT,IU _ _,fun k _ hA=>⟨O,hA⟩⟩;rcases hown.1.2 with⟨hv,hn⟩|⟨g,cap',cur,hv,_,_,hnc,_⟩;·exact Epo
  ·exact Epp
 ·have hcells: ∀(j:Nat) Y3,(ys.map (E .u8))[j]?=D Y3->w.cell? (ad.add j)=D Y3:=by
   intro j Y3 hu
   have hj:j<ys.length:=by
    rcases JW j ys.length with h|h;·exact h
    ·exact Eq9
   rcases hr.1 with h|⟨b,off,h,hc⟩;·subst h;simp at hj
   ·exact Eou
  obtain⟨v',w',hrun,h2,h3,h4,h5⟩:=run_append_own_at (P:=EZ) w base 23 ty 5 i0 (E Ix 0) 1 1 aJ hi hz0 hz1 hz2 O U _ _ _ hown.1 ad ys.length c (ys.map (E .u8)) Ej hcells
   GV J8 U hbase
  have hbel:Ij base w w':=(IU _ _).grown h3 hbase (fun k hk=>(hown.1.lt k hk).1)
  have hblk: ∀k,k<w.heap.size->bj A k->w'.heap[k]?=w.heap[k]?:=by
   intro k hk hA;refine h3.block k hk ?_;cases A with
   |none=>simp[np]
   |some a=>simpa[np] using XA (hA a O)
  rcases h2.2 with⟨hv,hn⟩|⟨g,cap',cur,hv,hrest⟩
  ·refine⟨Z,0,w',?_,⟨?_,hbb⟩,hbel,fun k hk hA=>⟨hblk k hk hA,fun a ha=>by cases ha⟩⟩;·rw[hrun,hv,hn]
   ·exact Eqk
  ·refine⟨D ⟨g,0,Z⟩,cap',w',by rw[hrun,hv],⟨?_,hbb⟩,hbel,fun k hk hA=>⟨hblk k hk hA,?_⟩⟩;·rw[hv] at h2;rw[IY,ik];exact h2
   ·intro a ha;injection ha with ha;subst ha;rw[hv] at h5;rcases h5 with h5|h5
    ·cases A with
     |none=>simp[np] at h5
     |some a=>simp[np] at h5;rw[h5];exact hA a O
    ·simp[np] at h5;rw[h5];show w.heap.size≠k;omega
theorem nr{o:EP}(w:M)(hgd:JO o (Jg ops a.tmps)=EJ)(s x:J5) (ho:o.op= .call {callee:= .builtin .append,args:= #[s,x],argTypes:= #[23,23]}) (base:Nat) (A:Option Ep) (cap n:Nat) (xs:List Int) (hn:xs.length=n) (hs:a.eval s=G A n cap) (hown:Own w base A cap xs) (Y4:Option Ep) (c m:Nat) (ys:List Int) (hm:ys.length=m) (hx:a.eval x=G Y4 m c) (hr:Row w Y4 ys) (hsmall:n+m<=1000000000) (hbase:base<=w.heap.size) (h: ∀A' cap' w',Own w' base A' cap' (xs++ys)->Ij base w w'->(∀k,k<w.heap.size->bj A k->w'.heap[k]?=w.heap[k]?/\bj A' k)->Ib EZ ops Q rest (a.put o.dst (G A' (n+m) cap')) w'):Ib EZ ops Q (o::rest) a w:=by subst hn hm;obtain⟨A',cap',w',hrun,h2,h3,h4⟩:=sx w base A cap xs hown Y4 c ys hr hsmall hbase o.type;refine Jo hgd (v:=G A' (xs.length+ys.length) cap') (w':=w') ?_ (h A' cap' w' h2 h3 h4);exact Ep9
def dx(b0:Nat)(T:EB)(N:Nat)(ys:List Y)(w w':M):Prop:=
 w.heap.size<=w'.heap.size/\(b0<=w.heap.size->Ij b0 w w')/\
 ∀(g:Nat) (cs:Array Y) (S:EB),w.heap[g]?=D (Eb cs S (0,0))-> ∃cs':Array Y,w'.heap[g]?=D (Eb cs' S (0,0))/\cs'.size=cs.size/\(S≠T->cs'=cs)/\ ∀j:Nat,cs'[j]?=cs[j]?\/(N<=j/\j<N+ys.length/\cs'[j]?=ys[j-N]?)
section
variable{b0:Nat}{T:TypeId}{N:Nat}{ys:List Value}
theorem fl:Kept (dx b0 T N ys):=by
 refine⟨fun w=>⟨E3 _,fun _=>IU _ _,fun g cs S h=>⟨cs,h,O,fun _=>rfl,fun j=> .inl O⟩⟩,?_,fun w=>⟨E3 _,fun _=>(IU _ _).drew,fun g cs S h=>⟨cs,h,O,fun _=>rfl,fun j=> .inl O⟩⟩⟩;rintro a b c ⟨h1,h2,h3⟩ ⟨k1,k2,k3⟩;refine⟨Ew h1 k1,fun h=>(h2 h).trans (k2 (Ew h h1)),fun g cs S h=> ?_⟩;obtain⟨cs1,e1,s1,t1,j1⟩:=h3 g cs S h;obtain⟨cs2,e2,s2,t2,j2⟩:=k3 g cs1 S e1;refine⟨cs2,e2,s2.trans s1,fun hS=>(t2 hS).trans (t1 hS),fun j=> ?_⟩;rcases j2 j with h|h
 ·rcases j1 j with h'|⟨p,q,r⟩;·exact .inl (h.trans h')
  ·exact .inr ⟨p,q,h.trans r⟩
 ·exact .inr h
theorem uW(hb:El w w'):dx b0 T N ys w w':=
 ⟨hb.size,fun h=>hb.mono h,fun g cs S h=>⟨cs,Xk h hb,O,fun _=>rfl,fun j=> .inl O⟩⟩
theorem Uw(h:dx b0 T N ys w w'){S:EB}(hk:H w g cs S)(hS:S≠T):H w' g cs S:=by obtain⟨cs',e,-,t,-⟩:=h.2.2 g cs S hk;rw[t hS] at e;exact e
theorem kP(h:dx b0 T N ys w w'){size:Nat}{v:Y}{xs:List Y}(ho:w.ownsRow base T size v n xs) (hx: ∀j,N<=j->j<N+ys.length->j<xs.length->xs[j]?=ys[j-N]?):w'.ownsRow base T size v n xs:=by
 obtain⟨h1,h2⟩:=ho;refine⟨h1,?_⟩;rcases h2 with h2|⟨g,cap,cur,rfl,hg,hh,hnc,hm,hs,ht⟩;·exact .inl h2
 ·obtain⟨cs',e,s,-,hj⟩:=h.2.2 g cur T hh;refine .inr ⟨g,cap,cs',O,hg,e,hnc,hm,s.trans hs,?_⟩;apply List.ext_getElem?;intro j;by_cases hlt:j<xs.length
  ·have h3:xs[j]?=cur[j]?:=by rw[<-ht,cE U];simp
   rw[cE U,Array.getElem?_toList];rcases hj j with h4|⟨p,q,r⟩;·rw[h4,h3]
   ·rw[r,hx j p q hlt]
  ·rw[bJ I8,bJ U]
end
theorem aw(w:M)(b0 base:Nat)(t ty e:EB)(i:TypeInfo)(z:Y)(size bytes:Nat)(ht:P.underlying t=D (.slice e))(hi:P.info? e=D i)(hz:i.zero=D z) (hsize:i.size=size) (hby:i.bytes=bytes) (hzs:z.cells.size=size) (A:Option Ep) (cap n:Nat) (xs:List Y) (hown:w.ownsRow base e size (G A n cap) n xs) (a:Ep) (m c:Nat) (news:List Y) (hl:news.length=m*size) (hnews: ∀j Y3,news[j]?=D Y3->w.cell? (a.add j)=D Y3) (h1: ∀Y3∈news,Y3.oneCell'=EJ) (hm:A=Z->0<m) (h63:n+m<=maxLen) (hbytes:(n+m)*bytes<=140737488355328) (hbase:base<=w.heap.size) (hb0:b0<=base): ∃A' cap' w',(ZX #[t,t] ty #[G A n cap,G (D a) m c]).run P w= .ok (G A' (n+m) cap') w'/\w'.ownsRow base e size (G A' (n+m) cap') (n+m) (xs++news)/\dx b0 e (n*size) news w w'/\A'≠Z/\(cap<n+m->El w w'):=by
 subst hsize;subst hby;have hsmall:n+m<=9223372036854775807:=GW;have hlen:(xs++news).length=(n+m)*i.size:=by rw[IY,hown.1,hl,Nat.add_mul]
 have made: ∀old:Nat,(w.drew.alloc (Eb (xs.toArray++news.toArray++Builtin.zeroCells z.cells (grownCap w (n+m) old e-(n+m))) e)).ownsRow base e i.size (G (D ⟨w.heap.size,0,Z⟩) (n+m) (grownCap w (n+m) old e)) (n+m) (xs++news):=by
  intro old;have hge:=grownCap_ge w (n+m) old e;refine⟨hlen,.inr ⟨w.heap.size,_,_,O,hbase,gI w.drew _,hge,grownCap_le_maxLen w (n+m) old e h63,?_,?_⟩⟩;·simp only[Array.size_append,List.size_toArray,size_zeroCells,hzs,hown.1,hl,<-Nat.add_mul];congr 1;omega
  ·simp only[Array.toList_append];rw[<-hlen];exact List.take_left
 have QG: ∀o:Obj,El w (w.drew.alloc o):=fun o=>((IU _ w).drew).alloc (E3 _) o;have bel: ∀o:Obj,dx b0 e (n*i.size) news w (w.drew.alloc o):=fun o=>uW (((IU _ w).drew).alloc (E3 _) o);rcases hown.2 with⟨hv,hn⟩|⟨g,cap',cur,hv,hbg,hg,hnc,hcm,hcs,htake⟩;·subst hn;have hx:xs=[]:=ZP GY;subst hx;rw[hv];have hr:=run_append_nil (P:=P) w t ty e i z ht hi hz a m c news hl hnews (hm Ac) U G0;have hmd:=made 0;simp only[Ox,ZZ,Array.empty_append] at hmd⊢;exact⟨_,_,_,hr,hmd,bel _,fun h=>UL,fun _=>QG _⟩
 ·rw[hv];by_cases hroom:n+m<=cap'
  ·have hfit:n*i.size+news.length<=cur.size:=G1;have hr:=run_append_room (P:=P) w t ty e i ht hi g n cap' cur hg a m c news hl hnews h1 hroom hfit;have hnew:=setRow_heap w g cur (cur.toList.take (n*i.size)++news++cur.toList.drop (n*i.size+news.length)).toArray e _ hg;have hsz:(cur.toList.take (n*i.size)++news++cur.toList.drop (n*i.size+news.length)).toArray.size=cur.size:=by simp only[List.size_toArray,IY,ar,il,Array.length_toList];omega
   refine⟨_,_,_,hr,⟨hlen,.inr ⟨g,cap',_,O,hbg,hnew,hroom,hcm,hsz.trans hcs,?_⟩⟩,⟨?_,?_,?_⟩,fun h=>UL,fun h=>absurd h (by injection hv with _ _ h3;omega)⟩;·rw[htake,<-hlen];exact List.take_left
   ·simp
   ·intro _;exact(IU _ _).trans ⟨O,O,O,Ej,fun k hk=>setRow_other w g k _ U⟩
   ·intro k cs S hk;by_cases e1:k=g
    ·subst e1;rw[hg] at hk;injection hk with hk;injection hk with k1 k2 k3;subst k1 k2;refine⟨_,hnew,hsz,fun hS=>absurd O hS,fun j=> ?_⟩;have tl:(cur.toList.take (n*i.size)).length=n*i.size:=I8;simp only[J2];rcases JW j (n*i.size) with h|h;·left;rw[U7,Z_ U,cE h];simp
     ·rcases JW j (n*i.size+news.length) with h2|h2;·right;refine⟨h,h2,?_⟩;rw[Z_ QH,aE U,tl]
      ·left;rw[aE QH,List.getElem?_drop,IY,tl,<-Array.getElem?_toList];congr 1;omega
    ·exact⟨cs,(setRow_other w g k _ U).trans hk,O,fun _=>rfl,fun j=> .inl O⟩
  ·have holds: ∀j Y3,xs[j]?=D Y3->w.cell? ((⟨g,0,Z⟩:Ep).add j)=D Y3:=by have h5:=hown;rw[hv] at h5;exact h5.cells (g:=g) O
   have hr:=run_append_grow (P:=P) w t ty e i z ht hi hz ⟨g,0,Z⟩ n cap' xs hown.1 holds a m c news hl hnews U U (growslice_fits U hbytes);exact⟨_,_,_,hr,made cap',bel _,fun h=>UL,fun _=>QG _⟩
theorem EO_(w:M)(b0 base:Nat)(A:Option Ep)(cap:Nat)(xs:List Int)(hown:Own w base A cap xs)(Y4:Option Ep)(c:Nat)(ys:List Int)(hr:Row w Y4 ys)(hpos:0<ys.length) (hsmall:xs.length+ys.length<=1000000000) (hbase:base<=w.heap.size) (hb0:b0<=base) (ty:EB): ∃A' cap' w',(ZX #[23,23] ty #[G A xs.length cap,G Y4 ys.length c]).run EZ w= .ok (G A' (xs.length+ys.length) cap') w'/\ Own w' base A' cap' (xs++ys)/\dx b0 5 xs.length (ys.map (E .u8)) w w':=by
 obtain⟨i0,hi,hz0,hz1,hz2⟩:=au jl
 have hbb: ∀x∈xs++ys,0<=x/\x<=255:=by
  intro x hx;rcases Xp.1 hx with h|h;·exact hown.2 x h
  ·exact hr.2 x h
 rcases Y4 with _|ad
 ·rcases hr.1 with h|⟨b,off,h,_⟩;·subst h;simp at hpos
  ·cases h
 ·have hcells: ∀(j:Nat) Y3,(ys.map (E .u8))[j]?=D Y3->w.cell? (ad.add j)=D Y3:=by
   intro j Y3 hu
   have hj:j<ys.length:=by
    rcases JW j ys.length with h|h;·exact h
    ·exact Eq9
   rcases hr.1 with h|⟨b,off,h,hc⟩;·subst h;simp at hj
   ·exact Eou
  obtain⟨A',cap',w',hrun,h2,h3,-,-⟩:=aw (P:=EZ) w b0 base 23 ty 5 i0 (E Ix 0) 1 1 aJ hi hz0 hz1 hz2 O A cap xs.length _ hown.1 ad ys.length c (ys.map (E .u8)) Ej hcells
   GV (fun _=>hpos) J8 U hbase hb0
  rw[Nat.mul_one] at h3;refine⟨A',cap',w',hrun,⟨?_,hbb⟩,h3⟩;rw[IY,ik];exact h2
theorem QK{b0 N:Nat}(h:dx b0 5 N (ys.map (E .u8)) w w')(ho:Own w base A cap xs) (hx:xs.length<=N\/ ∃zs,zs.length=N/\xs=zs++ys):Own w' base A cap xs:=by
 refine⟨kP h ho.1 fun j p q r=> ?_,ho.2⟩;rcases hx with hx|⟨zs,hz,rfl⟩;·simp at r;omega
 ·rw[ik,aE I8];simp[hz]
def be(n:Int)(k:Nat):List Int:=(U4 k).map fun i=>n/2^(8*(k-1-i))%256
def ax(n:Int)(k i:Nat):Array Y:=((U4 k).map fun j=>E .u8 (if j<i then n/2^(8*(k-1-j))%256 else 0)).toArray
theorem EUE(n:Int)(k i:Nat):(ax n k i).size=k:=by simp[ax]
theorem EUI(n:Int)(k i:Nat)(h:i<k):(ax n k i)[i]?=D (E Ix 0):=by simp[ax,h]
theorem EUJ(n:Int)(k:Nat):bZ #[E Ix 0] k=ax n k 0:=by
 apply Array.ext;·simp[bZ,ax]
 ·intro i h1 h2;simp[bZ,ax,Nat.mod_one]
theorem EUO(n:Int)(k i:Nat)(h:i<k):(ax n k i).setIfInBounds i (E Ix (n/2^(8*(k-1-i))%256))=ax n k (i+1):=by
 apply Array.ext;·simp[ax]
 ·intro j h1 h2;have hj:j<k:=by simpa[ax] using h2
  rw[Array.getElem_setIfInBounds (by simpa[ax] using hj)];simp only[ax,List.getElem_toArray,List.getElem_map,List.getElem_range];by_cases e:i=j;·subst e;simp
  ·rw[if_neg e];by_cases e2:j<i;·rw[if_pos e2,if_pos U]
   ·rw[if_neg e2,if_neg U]
theorem EUU(n:Int)(k:Nat):ax n k k=((be n k).map (E .u8)).toArray:=by unfold ax be;rw[List.map_map];congr 1;apply List.map_congr_left;intro j hj;simp at hj;simp[hj]
theorem EUX(n:Int)(k:Nat)(hk:k<=1000)(W:M): (Instr.makeSlice 23 (E I (k:Int)) (E I (k:Int))).run EZ W= .ok (G (D ⟨W.heap.size,0,Z⟩) k k) (W.alloc (Eb (ax n k 0) 5)):=by obtain⟨i0,hi,hz0,hz1,hz2⟩:=au jl;have h:=run_make (P:=EZ) W 23 5 i0 _ aJ hi hz0 .i64 .i64 k k U U (by rw[hz2];omega) U;rw[h,hz1,kn,Nat.mul_one];have e:(E IntKind.u8 0).cells= #[E Ix 0]:=rfl;rw[e,EUJ n]
theorem QL(n:Int)(k:Nat)(w:M)(h0:0<=n)(h1:n<=18446744073709551615)(hk:k<=8)(hn:n/2^(8*k)=0): Eg EZ 111 #[E Im n,E I k] w fun e w'=>e=Ei (Eu #[G (D ⟨w.heap.size,0,Z⟩) k k,E I 0])/\w.alloc (Eb ((be n k).map (E .u8)).toArray 5)=w':=by
 have hmk:=EUX n k U;have hn':(n/2^(8*k) !=0)=EI:=by rw[hn];rfl
 go_enter Tryz.func111,Tryz.ntmps111;go_wp2;clear hmk hn';go_loopw[24] (fun y wr=> ∃i:Nat,i<=k/\y=E I i/\wr=w.alloc (Eb (ax n k i) 5)) (fun y _=>k-(In y).toNat);case atStart=>exact⟨0,U,O,O⟩
 case round=>
  obtain⟨i,hi,rfl,rfl⟩:=hrel;by_cases hlt:i<k
  ·have hc:=EUI n k i hlt;have hs:=EUE n k i;have hp:=EUO n k i hlt;go_wp2;go_roundw;case rel=>exact⟨i+1,U,by go_num,by first|rfl|rw[hp]⟩
   case measure=>simp[In];omega
  ·obtain rfl:i=k:=U;have hp:=EUU n i;go_wp2;go_ret2;exact⟨O,by first|rfl|rw[hp]⟩
def num(xs:List Int):Int:=xs.foldl (fun n x=>n*256+x) 0
theorem QN(xs:List Int)(x:Int):num (xs++[x])=num xs*256+x:=by simp[num]
theorem QP(xs:List Int)(i:Nat)(h:i<xs.length):num (xs.take (i+1))=num (xs.take i)*256+xs[i]:=by rw[List.take_succ_eq_append_getElem h,QN]
theorem uY(xs:List Int)(h: ∀x∈xs,0<=x/\x<=255)(i:Nat)(hi:i<=xs.length):0<=num (xs.take i)/\num (xs.take i)<256^i:=by
 induction i with
 |zero=>simp[num]
 |succ i ih=> have:=ih U;have hx:=h xs[i] (gh _);rw[QP xs i U,Int.pow_succ];omega
theorem EUZ(n x:Int)(h0:0<=n)(h1:n<72057594037927936)(x0:0<=x)(x1:x<=255):Ir .or .u64 (n*256) x=n*256+x:=by obtain⟨m,rfl⟩:=fm h0;obtain⟨y,rfl⟩:=fm x0;have e:((m:Int)*256)=((m*256:Nat):Int):=Ej;rw[e,u64_or_nat _ _ U U,nat_join 8 _ _ U U];simp
theorem EUa(xs:List Int)(i:Nat)(h:i<xs.length)(h8:xs.length<=8)(nb:0<=num (xs.take i)/\num (xs.take i)<256^i)(hx:0<=xs[i]/\xs[i]<=255): Ir .or .u64 (IntKind.u64.wrap (num (xs.take i)*256)) xs[i]=num (xs.take (i+1)):=by
 have hp:(256:Int)^i<=72057594037927936:=by
  have h1:256^i<=256^7:=Nat.pow_le_pow_right U U;have h2:(256:Int)^i=((256^i:Nat):Int):=by rw[Int.natCast_pow];rfl
  rw[show(256:Nat)^7=72057594037927936 from EU] at h1;rw[h2];exact Int.ofNat_le.2 h1
 rw[QP xs i h,IntWalk.u64_in _ U,EUZ _ _ nb.1 U hx.1 hx.2]
theorem QQ(a:Option Ep)(xs:List Int)(c:Nat)(w:M)(hr:Row w a xs)(hl:xs.length<=8): Eg EZ 239 #[G a xs.length c] w fun e w'=>e=Ei (Eu #[E Im (num xs),E I 0])/\w=w':=by
 obtain⟨hr,hb⟩:=hr;have NB:=J<|uY xs hb;have HR:=J hr;have HB:=J hb;clear hr hb;go_enter Tryz.func239,Tryz.ntmps239;go_wp2;go_loop [4,11] (fun x y=> ∃i:Nat,i<=xs.length/\y=E I i/\x=E Im (num (xs.take i))) (fun _ y=>xs.length-(In y).toNat);case atStart=>exact⟨0,U,O,O⟩
 case round=>
  obtain⟨i,hi,rfl,rfl⟩:=hrel;by_cases hlt:i<xs.length
  ·rcases HR.out with e|⟨b,off,rfl,hc⟩;·rw[e] at hlt;simp at hlt
   ·have hc:=hc i hlt;have nb:=NB.out i hi;have hx:=HB.out xs[i] (gh _);have STEP:=J<|EUa xs i hlt hl nb hx;go_wp2;go_round;case rel=>exact⟨i+1,U,by go_num,by rw[STEP.out]⟩
    case measure=>simp[In];omega
  ·obtain rfl:i=xs.length:=U;rw[List.take_length];go_wp2;exact EqP
theorem EUb(n:Int)(w:M)(h0: -32768<=n)(h1:n<=32767): Eg EZ 252 #[E I n] w fun e w'=>e=Ei (Eu #[G (D ⟨w.heap.size,0,Z⟩) 2 2,E I 0])/\w.alloc (Eb ((be (n%65536) 2).map (E .u8)).toArray 5)=w':=by
 have hp:=J<|QL (n%65536) 2 w U U U (by show n%65536/65536=0;omega);by_cases c:n<0;·have e:n%65536=n+65536:=U;exact EoT
 ·have e:n%65536=n:=U;exact EoT
def sig(xs:List Int):Int:=if 32767<num xs then num xs-65536 else num xs
theorem EUc(a:Option Ep)(xs:List Int)(c:Nat)(w:M)(hr:Row w a xs)(hl:xs.length=2): Eg EZ 238 #[G a 2 c] w fun e w'=>e=Ei (Eu #[E I (sig xs),E I 0])/\w=w':=by
 have h:=QQ a xs c w hr U;rw[hl] at h;have Y9:=J h;have hb:=uY xs hr.2 xs.length U;rw[List.take_length,hl] at hb;obtain⟨hb1,hb2⟩:=hb;have hb3:num xs<65536:=hb2;clear h hr hl hb2;go_enter Tryz.func238,Tryz.ntmps238;go_wp2_with (go_at_call 239;refine(Y9.out).mono ?_;rintro e w' ⟨rfl,rfl⟩)
 all_goals
  go_ret2
  refine⟨?_,O⟩
  unfold sig
  first|(rw[if_pos Ad];rfl)|(rw[if_neg U];rfl)
theorem UU(n:Int)(k:Nat):(be n k).length=k:=by simp[be]
theorem u0(n:Int)(k:Nat): ∀x∈be n k,0<=x/\x<=255:=by intro x hx;simp only[be,dw] at hx;obtain⟨i,_,rfl⟩:=hx;omega
theorem G2(n:Int)(k:Nat):be n (k+1)=n/2^(8*k)%256::be n k:=by unfold be;rw[List.range_succ_eq_map,UB,List.map_map];congr 1;apply List.map_congr_left;intro i hi;simp only[Function.comp_apply,Nat.add_sub_cancel];rw[show k-(i+1)=k-1-i from U]
theorem EUd(n:Int):be n 0=[]:=rfl
theorem EUf(n a b:Int)(ha:0<=a):n/a/b=n/(a*b):=by rw[Int.ediv_ediv,if_neg U];simp
theorem EUg(n:Int)(k:Nat):be n (k+1)=be (n/256) k++[n%256]:=by
 induction k with
 |zero=>simp[be]
 |succ k ih=> rw[G2,ih,G2 (n/256) k,ku];congr 2;rw[EUf _ _ _ U,Nat.mul_add,Int.pow_add,Int.mul_comm];rfl
theorem QR{P:List Int->Prop}(h0:P [])(h1: ∀l x,P l->P (l++[x]))(l:List Int):P l:=by
 have: ∀l:List Int,P l.reverse:=by
  intro l;induction l with
  |nil=>exact h0
  |cons x l ih=>rw[List.reverse_cons];exact h1 _ _ ih
 have:=this l.reverse;rwa [List.reverse_reverse] at this
theorem EUh(xs:List Int):(∀x∈xs,0<=x/\x<=255)->be (num xs) xs.length=xs:=by refine QR (P:=fun xs=>(∀x∈xs,0<=x/\x<=255)->be (num xs) xs.length=xs) (fun _=>rfl) (fun l x ih h=> ?_) xs;have hx:=h x Ej;have hl:=ih (fun y hy=>h y (by simp[hy]));rw[IY,List.length_singleton,EUg,QN];have e1:(num l*256+x)/256=num l:=U;have e2:(num l*256+x)%256=x:=U;rw[e1,e2,hl]
theorem QS(k:Nat)(hk:k<=63)(n:Int)(h0:0<=n)(h1:n<=18446744073709551615): Ir .and .u64 n (IntKind.u64.wrap (IntKind.u64.wrap (2^k)-1))=n%2^k:=by
 obtain⟨m,rfl⟩:=fm h0;have hp:2^k<=2^63:=Nat.pow_le_pow_right U hk;have hp0:0<2^k:=Nat.two_pow_pos k;have c1:((2:Int)^k)=((2^k:Nat):Int):=Ej;have w1:IntKind.u64.wrap ((2^k:Nat):Int)=((2^k:Nat):Int):=IntWalk.u64_in _ ⟨U,U⟩;have w2:IntKind.u64.wrap (((2^k:Nat):Int)-1)=((2^k-1:Nat):Int):=by rw[IntWalk.u64_in _ ⟨U,U⟩];omega
 rw[c1,w1,w2,u64_and_nat _ _ U U,Nat.and_two_pow_sub_one_eq_mod];simp
theorem kR(n:Int)(k:Nat)(w:M)(h0:0<=n)(h1:n<=18446744073709551615)(hk:k<=8)(hn:n/2^(8*k)=0): Eg EZ 111 #[E Im n,E I k] w fun e w'=>e=Ei (Eu #[G (D ⟨w.heap.size,0,Z⟩) k k,E I 0])/\Row w' (D ⟨w.heap.size,0,Z⟩) (be n k)/\El w w':=
 (QL n k w h0 h1 hk hn).mono fun _ _ ⟨he,hw⟩=>⟨he,by subst hw;exact Gh (gI w _) O (u0 n k),QT⟩
theorem EUi(n:Int)(w:M)(h0: -32768<=n)(h1:n<=32767): Eg EZ 252 #[E I n] w fun e w'=>e=Ei (Eu #[G (D ⟨w.heap.size,0,Z⟩) 2 2,E I 0])/\Row w' (D ⟨w.heap.size,0,Z⟩) (be (n%65536) 2)/\El w w':=
 (EUb n w h0 h1).mono fun _ _ ⟨he,hw⟩=>⟨he,by subst hw;exact Gh (gI w _) O (u0 _ 2),QT⟩
theorem G4{a:Option Ep}(n c:Nat)(hn:xs.length=n)(hr:Row w a xs)(hl:n<=8): Eg EZ 239 #[G a n c] w fun e w'=>e=Ei (Eu #[E Im (num xs),E I 0])/\w=w':=by subst hn;exact QQ a xs c w hr hl
def EF(l:List Int):Array Y:=((U4 12).map fun i=>if i=7 then Ec (l.getD 7 0==1) else E I (l.getD i 0)).toArray
theorem Ja(l:List Int):(EF l).size=12:=by simp[EF]
theorem Zq(l:List Int)(i:Nat)(h:i<12):(EF l)[i]?=D (if i=7 then Ec (l.getD 7 0==1) else E I (l.getD i 0)):=by simp[EF,h]
theorem ZY(l:List Int):(EF l).all (·.oneCell')=EJ:=by rw[Array.all_eq_true];intro i hi;simp only[EF,List.getElem_toArray,List.getElem_map];split<;>rfl
theorem EUj(l:List Int)(hl:l.length=12)(o:Nat)(ho:o<12)(n:Int):(EF l).setIfInBounds o (if o=7 then Ec (n==1) else E I n)=EF (l.set o n):=by
 apply Array.ext_getElem?;intro j;rw[Array.getElem?_setIfInBounds];by_cases h:o=j
 ·subst h;rw[if_pos O,if_pos (by rw[Ja];exact ho),Zq _ _ ho];by_cases h7:o=7;·subst h7;simp[hl]
  ·rw[if_neg h7,if_neg h7];simp[hl,ho]
 ·rw[if_neg h];by_cases hj:j<12
  ·rw[Zq _ _ hj,Zq _ _ hj];have e1: ∀k,k≠o->(l.set o n).getD k 0=l.getD k 0:=fun k hk=>by simp[OE,List.getElem?_set_ne (XA hk)]
   by_cases h7:j=7;·subst h7;rw[if_pos O,if_pos O,e1 7 (XA h)]
   ·rw[if_neg h7,if_neg h7,e1 j (XA h)]
  ·rw[iJ (by rw[Ja];omega),iJ (by rw[Ja];omega)]
structure FD where
 kd:Nat
 (size lo hi:Int)
 off:Nat
def FD.get(d:FD):Nat:=if d.kd=1 then 234 else
 if d.kd=2 then 250 else
 if d.kd=3 then 248 else
 236
def FD.set(d:FD):Nat:=if d.kd=1 then 235 else
 if d.kd=2 then 251 else
 if d.kd=3 then 249 else
 237
def FD.box(d:FD):EB:=if d.kd=1 then 302 else
 if d.kd=2 then 333 else
 if d.kd=3 then 331 else
 300
def FD.ok(d:FD):Prop:=d.off<12/\d.kd<=1/\(d.kd=1↔d.off=7)
theorem FD.QV{d:FD}(h:d.kd=0):d.get=236:=G5
theorem FD.G6{d:FD}(h:d.kd=0):d.set=237:=Af
theorem FD.Ag{d:FD}(h:d.kd=0):d.box=300:=Ah
theorem FD.EUk{d:FD}(h:d.kd=1):d.set=235:=Af
theorem FD.EUl{d:FD}(h:d.kd=1):d.box=302:=Ah
def IG(d:FD)(gb:Nat):Array Y:= #[E I d.size,E I d.lo,E I d.hi,.func (.func d.get) #[] #[V (D ⟨gb,0,Z⟩)],.func (.func d.set) #[] #[V (D ⟨gb,0,Z⟩)]]
theorem im(d:FD)(gb:Nat):(IG d gb).all (·.oneCell')=EJ:=by simp[IG,Oc]
def Za(w:M)(d:FD)(gm gb:Nat):Prop:=H w gb #[V (D ⟨gm,d.off,Z⟩)] d.box
theorem XB:IL EZ 298 5:=⟨⟨_,Tryz.underlying298,O⟩,Ef⟩
theorem OY:IL EZ 183 12:=⟨⟨_,Tryz.underlying183,O⟩,Ef⟩
def JA:Array Y:= #[E I 0,E I 0,E I 0,.nilFunc,.nilFunc]
theorem gu:Od EZ 298 JA:=by intro ev o w ho;unfold Ig;simp only[ho];simp[go_sem];exact congrArg (fun c=>w.alloc (Eb c 298)) Ef
theorem EUm:Od EZ 183 (EF (fh 12 0)):=by intro ev o w ho;unfold Ig;simp only[ho];simp[go_sem];exact congrArg (fun c=>w.alloc (Eb c 183)) Ef
theorem EUn(gb gm o:Nat)(n:Int)(w:M)(hb:H w gb #[V (D ⟨gm,o,Z⟩)] 300)(hc:w.cell? ⟨gm,o,Z⟩=D (E I n)): Eg EZ 236 #[V (D ⟨gb,0,Z⟩)] w fun e w'=>e=Ei (E I n)/\w=w':=by have c0:=hb.cell 0;simp only[J2,kS] at c0;clear hb;go_enter Tryz.func236,Tryz.ntmps236;exact Enu
def nt(l:List Int):Prop:=l.length=12/\(l.getD 7 0=0\/l.getD 7 0=1)
theorem QW(gb gm o:Nat)(n m:Int)(w:M)(hb:H w gb #[V (D ⟨gm,o,Z⟩)] 300)(hc:w.cell? ⟨gm,o,Z⟩=D (E I m))(hf:w.frozen? ⟨gm,o,Z⟩=EI): Eg EZ 237 #[E I n,V (D ⟨gb,0,Z⟩)] w fun e w'=>e=Ei (Eu #[])/\w.setCell ⟨gm,o,Z⟩ (E I n)=w':=by have c0:=hb.cell 0;simp only[J2,kS] at c0;clear hb;go_enter Tryz.func237,Tryz.ntmps237;exact Eqy
theorem EUo(gb gm o:Nat)(n:Int)(b:Bool)(w:M)(hb:H w gb #[V (D ⟨gm,o,Z⟩)] 302)(hc:w.cell? ⟨gm,o,Z⟩=D (Ec b))(hf:w.frozen? ⟨gm,o,Z⟩=EI): Eg EZ 235 #[E I n,V (D ⟨gb,0,Z⟩)] w fun e w'=>e=Ei (Eu #[])/\w.setCell ⟨gm,o,Z⟩ (Ec (n==1))=w':=by have c0:=hb.cell 0;simp only[J2,kS] at c0;clear hb;go_enter Tryz.func235,Tryz.ntmps235;exact Eqy
theorem EUp(d:FD)(gb gm:Nat)(l:List Int)(n:Int)(w:M)(hd:d.ok)(hl:nt l)(hb:Za w d gm gb)(hm:H w gm (EF l) 183): Eg EZ d.set #[E I n,V (D ⟨gb,0,Z⟩)] w fun e w'=>e=Ei (Eu #[])/\H w' gm (EF (l.set d.off n)) 183/\(∀k,k≠gm->w'.heap[k]?=w.heap[k]?)/\w'.heap.size=w.heap.size/\Ij gm w w':=by
 have hc:=hm.cell d.off;have hf:=hm.JZ d.off;rw[Zq _ _ hd.1] at hc;have fin: ∀v,v=(if d.off=7 then Ec (n==1) else E I n)->H (w.setCell ⟨gm,d.off,Z⟩ v) gm (EF (l.set d.off n)) 183/\(∀k,k≠gm->(w.setCell ⟨gm,d.off,Z⟩ v).heap[k]?=w.heap[k]?)/\(w.setCell ⟨gm,d.off,Z⟩ v).heap.size=w.heap.size/\Ij gm w (w.setCell ⟨gm,d.off,Z⟩ v):=by intro v hv;subst hv;refine⟨?_,fun k hk=>XK _ _ _ _ hk,Gv,(IU gm w).setCell (p:=⟨gm,d.off,Z⟩) (E3 _) _⟩;have h:=hm.set d.off (if d.off=7 then Ec (n==1) else E I n);rw[EUj l hl.1 _ hd.1] at h;exact h
 unfold Za at hb;by_cases hn:d.kd=1;·have h7:=hd.2.2.1 hn;rw[FD.EUl hn] at hb;rw[FD.EUk hn];have QY:=fin (Ec (n==1)) (by rw[if_pos h7]);rw[h7] at hc hb hf QY⊢;rw[if_pos O] at hc;exact(EUo gb gm 7 n _ w hb hc hf).mono fun e w' ⟨he,hw⟩=>⟨he,by rw[<-hw];exact QY⟩
 ·have h7:d.off≠7:=fun h=>hn (hd.2.2.2 h);have h0:d.kd=0:=by have:=hd.2.1;omega
  rw[FD.Ag h0] at hb;rw[FD.G6 h0];rw[if_neg h7] at hc;have Aj:=fin (E I n) (by rw[if_neg h7]);exact Eqn
def FV(w:M)(base gm:Nat)(d:FD)(v:Y):Prop:= ∃gb,v=Ea (IG d gb)/\base<=gb/\Za w d gm gb
theorem FV.B{gm:Nat}{d:FD}{v:Y}(h:FV w base gm d v)(hb:El w w'):FV w' base gm d v:=by obtain⟨gb,e,l,k⟩:=h;exact⟨gb,e,l,k.B hb⟩
theorem EUq(d:FD)(gb:Nat):Tryz.prog.built 298 [(0,E I d.size),(1,E I d.lo),(2,E I d.hi),(3,.func (.func d.get) #[] #[V (D ⟨gb,0,Z⟩)]),(4,.func (.func d.set) #[] #[V (D ⟨gb,0,Z⟩)])]=D (IG d gb):=Ef
theorem G7(d:FD)(gb:Nat)(h0:d.lo=0):Tryz.prog.built 298 [(0,E I d.size),(2,E I d.hi),(3,.func (.func d.get) #[] #[V (D ⟨gb,0,Z⟩)]),(4,.func (.func d.set) #[] #[V (D ⟨gb,0,Z⟩)])]=D (IG d gb):=by unfold IG;rw[h0];kernel_rfl
theorem pu(d:FD)(hd:d.kd=0)(gm:Nat)(w:M): Eg EZ 207 #[V (D ⟨gm,d.off,Z⟩),E I d.size,E I d.lo,E I d.hi] w fun e w'=> ∃v,e=Ei v/\FV w' w.heap.size gm d v/\El w w':=by have hg:=FD.QV hd;have hs:=FD.G6 hd;have hx:=FD.Ag hd;have BF:=EUq d w.heap.size;rw[hg,hs] at BF;have O1:=J<|im d w.heap.size;have O0:Ed ((IG d w.heap.size).size=5):=J O;have HV:Ed (IG d w.heap.size=IG d w.heap.size):=J O;generalize Ul:IG d w.heap.size=fv at*;replace Ul:=J Ul;replace BF:=J BF;clear HV hg hs;have HX:=J hx;clear hx;have HB:Ed (∀W:M,H W w.heap.size #[V (D ⟨gm,d.off,Z⟩)] 300->FV W w.heap.size gm d (Ea fv)):=J fun W h=>⟨w.heap.size,by rw[Ul.out],E3 _,by unfold Za;rw[HX.out];exact h⟩;clear HX Ul;generalize d.size=sz at*;generalize d.lo=lo at*;generalize d.hi=hi at*;generalize d.off=of at*;go_enter Tryz.func207,Tryz.ntmps207;go_wp2_with (with_reducible refine wA gu (Ex.mk ?_));apply Es;have K4:=J<|(H.new w #[V (D ⟨gm,of,Z⟩)] 300).alloc (Eb JA 298);have K8:=J<|H.new' (w.alloc (Eb #[V (D ⟨gm,of,Z⟩)] 300)) JA 298 (g:=w.heap.size+1) Ej;have u:=J<|JY w (Eb #[V (D ⟨gm,of,Z⟩)] 300) (Eb JA 298);generalize (w.alloc (Eb #[V (D ⟨gm,of,Z⟩)] 300)).alloc (Eb JA 298)=w1 at*;go_wp2_with (first|((with_reducible refine Io 14 ?_);refine I4 rfl 298 _ rfl fv BF.out ?_)|(with_reducible refine wS (cs:=fv) XB K8 ?_ (hn:=O0.out) (h1:=O1.out)));refine ET (v:=Ea fv) (Jd XB O _ _ (w.heap.size+1) _ O (K8.out.setRow _) O0.out) O ⟨_,O,HB.out _ (K4.out.setRow_other _ _ U),EY u.out U _⟩
def jp(Y5:Nat):Prop:= ∀(args:Array Y) (w:M),(Jm Y5 args).run EZ w= .ok (.enter Y5 args) w
def fo(w:M)(Y5:Nat)(gp:Y)(n:Int):Prop:=jp Y5/\ ∀W,El w W->Eg EZ Y5 #[gp] W fun e w'=>e=Ei (E I n)/\W=w'
theorem fo.B{Y5:Nat}{n:Int}(h:fo w Y5 gp n)(hb:El w w'):fo w' Y5 gp n:=⟨h.1,fun W hW=>h.2 W (bt hb hW)⟩
theorem fo.call{Y5:Nat}{n:Int}(h:fo w Y5 gp n)(W:M)(hW:El w W):Eg EZ Y5 #[gp] W fun e w'=>e=Ei (E I n)/\W=w':=h.2 W hW
theorem EUr(d:FD):jp d.get:=by
 intro args w;unfold FD.get;repeat' split
 all_goals kernel_rfl
theorem Q2(d:FD):jp d.set:=by
 intro args w;unfold FD.set;repeat' split
 all_goals kernel_rfl
theorem EUs(sz lo hi n:Int)(Y5 S:Nat)(gp:Y)(w:M)(HG:fo w Y5 gp n)(h:n<lo): Eg EZ 242 #[Ea #[E I sz,E I lo,E I hi,.func (.func Y5) #[] #[gp],.func (.func S) #[] #[gp]]] w fun e w'=>e=Ei (Eu #[G Z 0 0,Ec EI])/\El w w':=by have C:=J HG;have HE: ∀(args:Array Y) (w:M),(Jm Y5 args).run EZ w= .ok (.enter Y5 args) w:=HG.1;clear HG;go_enter Tryz.func242,Tryz.ntmps242;go_wp2_with fail;have B1:=Er w (Eb #[E I sz,E I lo,E I hi,.func (.func Y5) #[] #[gp],.func (.func S) #[] #[gp]] 298);refine(C.out.call _ B1).mono ?_;rintro e w1 ⟨rfl,rfl⟩;clear C HE;have hd:decide (n<lo)=EJ:=IJ h;go_wp2;go_ret2;exact⟨O,B1⟩
theorem EUt(sz lo hi n:Int)(Y5 S:Nat)(gp:Y)(w:M)(HG:fo w Y5 gp n)(h0:lo<=n)(h:hi<n): Eg EZ 242 #[Ea #[E I sz,E I lo,E I hi,.func (.func Y5) #[] #[gp],.func (.func S) #[] #[gp]]] w fun e w'=>e=Ei (Eu #[G Z 0 0,Ec EI])/\El w w':=by have C:=J HG;have HE: ∀(args:Array Y) (w:M),(Jm Y5 args).run EZ w= .ok (.enter Y5 args) w:=HG.1;clear HG;go_enter Tryz.func242,Tryz.ntmps242;go_wp2_with fail;have B1:=Er w (Eb #[E I sz,E I lo,E I hi,.func (.func Y5) #[] #[gp],.func (.func S) #[] #[gp]] 298);refine(C.out.call _ B1).mono ?_;rintro e w1 ⟨rfl,rfl⟩;clear C HE;have hd:decide (n<lo)=EI:=IZ U;have hd2:decide (hi<n)=EJ:=IJ h;go_wp2;go_ret2;exact⟨O,B1⟩
theorem EUu(sz lo hi n:Int)(Y5 S:Nat)(gp:Y)(w:M)(HG:fo w Y5 gp n)(h0:lo<=n)(h:n<=hi)(hl:lo<0)(hl2: -32768<=lo)(hh:hi<=32767): Eg EZ 242 #[Ea #[E I sz,E I lo,E I hi,.func (.func Y5) #[] #[gp],.func (.func S) #[] #[gp]]] w fun e w'=> ∃g,e=Ei (Eu #[G (D ⟨g,0,Z⟩) 2 2,Ec EJ])/\Row w' (D ⟨g,0,Z⟩) (be (n%65536) 2)/\El w w':=by have C:=J HG;have HE: ∀(args:Array Y) (w:M),(Jm Y5 args).run EZ w= .ok (.enter Y5 args) w:=HG.1;clear HG;go_enter Tryz.func242,Tryz.ntmps242;go_wp2_with fail;have B1:=Er w (Eb #[E I sz,E I lo,E I hi,.func (.func Y5) #[] #[gp],.func (.func S) #[] #[gp]] 298);refine(C.out.call _ B1).mono ?_;rintro e w1 ⟨rfl,rfl⟩;clear C HE;have hd:decide (n<lo)=EI:=IZ U;have hd2:decide (hi<n)=EI:=IZ U;have hd3:decide (lo<0)=EJ:=IJ hl;have n1: -32768<=n:=U;have n2:n<=32767:=U;go_wp2_with fail;refine(EUi n _ n1 n2).mono ?_;exact EqO
theorem EUv(lo hi n:Int)(Y5 S:Nat)(gp:Y)(w:M)(HG:fo w Y5 gp n)(k:Nat)(hk8:k<=8)(h0:lo<=n)(h:n<=hi)(hl:0<=lo)(hn:n/2^(8*k)=0)(hh:hi<=9223372036854775807): Eg EZ 242 #[Ea #[E I (k:Int),E I lo,E I hi,.func (.func Y5) #[] #[gp],.func (.func S) #[] #[gp]]] w fun e w'=> ∃g,e=Ei (Eu #[G (D ⟨g,0,Z⟩) k k,Ec EJ])/\Row w' (D ⟨g,0,Z⟩) (be n k)/\El w w':=by have C:=J HG;have HE: ∀(args:Array Y) (w:M),(Jm Y5 args).run EZ w= .ok (.enter Y5 args) w:=HG.1;clear HG;go_enter Tryz.func242,Tryz.ntmps242;go_wp2_with fail;have B1:=Er w (Eb #[E I (k:Int),E I lo,E I hi,.func (.func Y5) #[] #[gp],.func (.func S) #[] #[gp]] 298);refine(C.out.call _ B1).mono ?_;rintro e w1 ⟨rfl,rfl⟩;clear C HE;have hd:decide (n<lo)=EI:=IZ U;have hd2:decide (hi<n)=EI:=IZ U;have hd3:decide (lo<0)=EI:=IZ U;have n1:0<=n:=U;have n2:n<=18446744073709551615:=U;have n3:n<=9223372036854775807:=U;have CP:=J<|fun W=>kR n k W n1 n2 hk8 hn;clear hn;go_wp2_with fail;refine(CP.out _).mono ?_;exact EqO
structure gw where
 code:Int
 Y5:Nat
 lb:Array Y
 b:Bool
def gw.v(c:gw):List Y:=[E I c.code,.func (.func c.Y5) #[] c.lb]
def EUx(w:M)(c:gw):Prop:=jp c.Y5/\ ∀W,El w W->Eg EZ c.Y5 c.lb W fun e w'=>e=Ei (Ec c.b)/\El W w'
def jq:List gw->Int
 |[]=>0
 |c::r=>if c.b then c.code else jq r
theorem Q3(L:List gw)(i:Nat)(h:i<L.length):(L.flatMap gw.v)[i*2]?=D (E I L[i].code)/\(L.flatMap gw.v)[i*2+1]?=D (.func (.func L[i].Y5) #[] L[i].lb):=by
 induction L generalizing i with
 |nil=>simp at h
 |cons c r ih=>
  cases i with
  |zero=>simp[gw.v]
  |succ i=> have:=ih i Ov;rw[kG,show(i+1)*2=i*2+2 from U,show i*2+2+1=i*2+1+2 from U];simpa[gw.v] using this
theorem EUy(L:List gw)(i:Nat)(h:i<L.length):jq (L.drop i)=if L[i].b then L[i].code else jq (L.drop (i+1)):=by rw[nO h];rfl
theorem EUz:IL EZ 317 2:=⟨⟨_,Tryz.underlying317,O⟩,Ef⟩
theorem Q5(L:List gw)(g n:Nat)(w:M)(hn:L.length=n)(hL:n<=10)(K:H w g (L.flatMap gw.v).toArray 317)(HT: ∀c∈L,EUx w c): Eg EZ 220 #[G (D ⟨g,0,Z⟩) n n] w fun e w'=>e=Ei (E I (jq L))/\El w w':=by
 have HT:=J HT;have K:=J K;have HN:=J hn;obtain⟨r,hr⟩:=Eo (jq L);rw[<-hr];have HR:=J<|show r=jq (L.drop 0) from hr;clear hr hn;go_enter Tryz.func220,Tryz.ntmps220;go_wp2_with fail;go_loopw[7] (fun y wr=> ∃i:Nat,i<=n/\y=E I i/\r=jq (L.drop i)/\El w wr) (fun y _=>n-(In y).toNat);case atStart=>exact⟨0,U,O,HR.out,IU _ _⟩
 case round=>
  obtain⟨i,hi,rfl,Al,u⟩:=hrel;replace u:=J u;by_cases hlt:i<n
  ·have t1:decide ((i:Int)<(n:Int))=EJ:=IJ U;have hil:i<L.length:=kV;obtain⟨c,hc⟩:=Eo (L[i]);have KW:=K.out.B (u.out.mono (E3 _));have c0:wr.cell? ⟨g,i*2,Z⟩=D (E I c.code):=by rw[hc,KW.cell,J2];exact(Q3 L i hil).1
   have c1:wr.cell? ⟨g,i*2+1,Z⟩=D (.func (.func c.Y5) #[] c.lb):=by rw[hc,KW.cell,J2];exact(Q3 L i hil).2
   have TC:=HT.out c (by rw[hc];exact gh hil);have HE: ∀(args:Array Y) (w:M),(Jm c.Y5 args).run EZ w= .ok (.enter c.Y5 args) w:=TC.1;have CC:=J<|TC.2;have Q6:Ed (r=if c.b then c.code else jq (L.drop (i+1))):=J (by rw[hc,Al];exact EUy L i hil);clear TC Al hc KW;obtain⟨code,Y5,lb,b⟩:=c;simp only at*;go_wp2_with (first|(with_reducible refine EOo 317 ?_));apply Es;clear c0 c1 t1;have lw:=u.out.size;have KC:=J<|H.new wr #[E I 0,.nilFunc] 317;have B1:=Er wr (Eb #[E I 0,.nilFunc] 317);replace u:=J<|u.out.trans (B1.mono u.out.size);clear B1;generalize wr.alloc (Eb #[E I 0,.nilFunc] 317)=w1 at*;generalize wr.heap.size=gc at*;go_wp2_with (with_reducible refine wS (cs:= #[E I code,.func (.func Y5) #[] lb]) EUz KC (Ex.mk ?_) (h1:=U9));apply Es;replace KC:=J<|KC.out.setRow #[E I code,.func (.func Y5) #[] lb];replace u:=J<|EY (g:=gc) u.out lw #[E I code,.func (.func Y5) #[] lb];generalize w1.setRow gc #[E I code,.func (.func Y5) #[] lb]=w2 at*;have cc1:w2.cell? ⟨gc,1,Z⟩=D (.func (.func Y5) #[] lb):=(KC.out.cell 1).trans O;go_wp2_with fail;refine(CC.out _ u.out).mono ?_;rintro x w3 ⟨rfl,b3⟩;replace KC:=J<|KC.out.B b3;replace u:=J<|u.out.trans (b3.mono u.out.size);clear b3 cc1 CC HE;have cc0:w3.cell? ⟨gc,0,Z⟩=D (E I code):=(KC.out.cell 0).trans O;cases b with
   |true=> have er:r=code:=Q6.out;go_wp2;go_ret;exact⟨by rw[er];rfl,u.out⟩
   |false=> go_wp2_with fail;exact⟨⟨i+1,U,Ej,Q6.out,u.out⟩,Jb⟩
  ·have t1:decide ((i:Int)<(n:Int))=EI:=IZ U;have er:r=0:=by rw[Al,List.drop_of_length_le sy];rfl
   clear Al;go_wp2;go_ret;exact⟨by rw[er];rfl,u.out⟩
section
open Go.ChangeShapes Go.WideShapes
def EL(n:Nat)(f:Nat->Y):Array Y:=((U4 n).map f).toArray
def UR(f:Nat->Y)(j:Nat)(v:Y):Nat->Y:=fun x=>if x=j then v else f x
@[simp] theorem pw(n:Nat)(f:Nat->Y):(EL n f).size=n:=kW
theorem fp(n:Nat)(f:Nat->Y)(i:Nat):(EL n f)[i]?=if i<n then D (f i) else Z:=by
 unfold EL;by_cases h:i<n;·simp[h]
 ·simp[h]
theorem sA(n:Nat)(f:Nat->Y)(i:Nat)(h:i<(EL n f).size):(EL n f)[i]=f i:=kW
theorem Am(n:Nat)(f:Nat->Y)(j:Nat)(v:Y):(EL n f).setIfInBounds j v=EL n (UR f j v):=by
 apply Array.ext;·simp[EL]
 ·intro i h1 h2;have hi:i<n:=by simpa[EL] using h2
  rw[Array.getElem_setIfInBounds (by simpa[EL] using hi),sA,sA];unfold UR;by_cases e:j=i;·subst e;simp
  ·rw[if_neg e,if_neg (fun h=>e h.symm)]
theorem Q7(cs:Array Y)(n:Nat)(h:cs.size=n):cs=EL n (fun i=>cs.getD i I6):=by
 apply Array.ext;·simp[EL,h]
 ·intro i h1 h2;rw[sA];simp[h1]
theorem G8(f:Nat->Y)(j:Nat)(v:Y):UR f j v j=v:=by simp[UR]
theorem pA(f:Nat->Y)(j:Nat)(v:Y)(x:Nat)(h:x≠j):UR f j v x=f x:=by simp[UR,h]
attribute [go_sem] fp sA pw
def Z1(v:Y):Prop:=v=E I (In v)/\ -9223372036854775808<=In v/\In v<=9223372036854775807
structure sB(w:M)(f:Nat->Y):Prop where
 int: ∀i,i<56->i<5\/8<i->Z1 (f i)
 key: ∀i,5<=i->i<=8->zq w (f i)
def Q8(w:M)(v:Y):Prop:= ∃f,v=Ea (EL 56 f)/\sB w f
def G9:List EB:=fh 5 3++fh 4 23++fh 47 3
theorem mk_pol{r:Reach}{Y9:Type}{enc:EB×Y->Y9}{v:Y}{d:DataW Y9}{p:List MemPlace} (hv:Value.okWide EZ w r base 28 v) (hd:DataW.Trod enc EZ w 0 (fun _=>EJ) EJ 28 v d p):Q8 w v:=by
 obtain⟨cs,rfl,hs,hc⟩:=flat (ts:=G9) (.inl ⟨_,Tryz.underlying28⟩) Ef Ef hv;have hs:cs.size=56:=hs;have hget: ∀i,i<56->cs[i]?=D (cs.getD i I6):=fun i hi=>by simp[show i<cs.size from U]
 refine⟨fun i=>cs.getD i I6,by rw[<-Q7 cs 56 hs],⟨fun i hi h=> ?_,fun i h1 h2=> ?_⟩⟩
 ·have ht:G9[i]?=D 3:=by have: ∀i:Fin 56,(i.1<5\/8<i.1)->G9[i.1]?=D 3:=EU;exact this ⟨i,hi⟩ h
  obtain⟨n,hn,b1,b2⟩:=EOE Tryz.underlying3 (hc i _ _ ht (hget i hi));unfold Z1;rw[hn];exact⟨O,b1,b2⟩
 ·obtain⟨fuel,hf⟩:=hd;obtain⟨xs,n,_,_,_,hl,hg⟩:=DataW.trod_struct Tryz.underlying28 hf;have hcl:(Value.agg cs).cells.toList=cs.toList:=rfl;rw[hcl] at hg;have c3:Tryz.prog.cellsOf 24=3:=Ef;have c1:Tryz.prog.cellsOf 23=1:=Ef;have one: ∀j,j<56->(cs.toList.drop j).take 1=[cs.getD j I6]:=by intro j hj;rw[nO I8];simp[show j<cs.size from U]
  rcases JW i 8 with h8|h8
  ·have h:ZN enc EZ w 0 (fun _=>EJ) EJ n 24 ((cs.toList.drop 5).take (Tryz.prog.cellsOf 24))=xs[1]?:=hg 1 _ O;rw[c3] at h;have hx:1<xs.length:=by rw[hl];show 1<20;omega
   rw[JV hx] at h;obtain⟨ys,m,_,_,_,_,hj⟩:=DataW.trod_array Tryz.underlying24 h;have:=hj (i-5) U;rw[c1] at this;have e:((List.take 3 (List.drop 5 cs.toList)).drop ((i-5)*1)).take 1=[cs.getD i I6]:=by rw[Nat.mul_one,List.drop_take,List.drop_drop,List.take_take,show 5+(i-5)=i from U,show min 1 (3-(i-5))=1 from U];exact one i U
   rw[e] at this;have hy:i-5<ys.length:=U;rw[JV hy] at this;exact PN aJ Tryz.underlying5 Ef this
  ·obtain rfl:i=8:=U;have h:ZN enc EZ w 0 (fun _=>EJ) EJ n 23 ((cs.toList.drop 8).take (Tryz.prog.cellsOf 23))=xs[2]?:=hg 2 _ O;rw[c1] at h;have hx:2<xs.length:=by rw[hl];show 2<20;omega
   rw[JV hx,one 8 U] at h;exact PN aJ Tryz.underlying5 Ef h
end
theorem EUB(W:M)(h e o oa om la lm:Int)(b:Bool)(g3:Nat)(KT:H W g3 #[E I h,E I e,E I o,E I oa,E I om,E I la,E I lm,Ec b] 109)(g4:Nat)(s:Int)(K4:H W g4 #[E I s] 3): Eg EZ 226 #[V (D ⟨g3,0,Z⟩),V (D ⟨g4,0,Z⟩)] W fun x w'=>x=Ei (Ec (decide (o<0\/o≠s)))/\El W w':=by
 have An:g3<W.heap.size:=H.lt KT;have Ap:W.cell? ⟨g3,0,Z⟩=D (E I h):=(H.cell KT 0).trans O;have c31:W.cell? ⟨g3,1,Z⟩=D (E I e):=(H.cell KT 1).trans O;have c32:W.cell? ⟨g3,2,Z⟩=D (E I o):=(H.cell KT 2).trans O;have Aq:W.cell? ⟨g3,3,Z⟩=D (E I oa):=(H.cell KT 3).trans O;have c34:W.cell? ⟨g3,4,Z⟩=D (E I om):=(H.cell KT 4).trans O;have Ar:W.cell? ⟨g3,5,Z⟩=D (E I la):=(H.cell KT 5).trans O;have As:W.cell? ⟨g3,6,Z⟩=D (E I lm):=(H.cell KT 6).trans O;have c37:W.cell? ⟨g3,7,Z⟩=D (Ec b):=(H.cell KT 7).trans O;have Elz:g4<W.heap.size:=H.lt K4;have ci4:W.cell? ⟨g4,0,Z⟩=D (E I s):=(H.cell K4 0).trans O;by_cases h1:o<0;·rw[IJ (.inl h1)];have d1:decide (0<=o)=EI:=IZ U;clear KT K4 h1;exact ErB
 have d1:decide (0<=o)=EJ:=IJ U;by_cases h2:o=s;·rw[IZ U];have d2:(o !=s)=EI:=AU;clear KT K4 h1 h2;exact ErB
 ·rw[IJ (.inr h2)];have d2:(o !=s)=EJ:=by simp[h2]
  clear KT K4 h1 h2;exact ErB
theorem EUC(W:M)(h e o oa om la lm:Int)(b:Bool)(g3:Nat)(KT:H W g3 #[E I h,E I e,E I o,E I oa,E I om,E I la,E I lm,Ec b] 109)(g5:Nat)(ep:Int)(K5:H W g5 #[E I ep] 3): Eg EZ 227 #[V (D ⟨g5,0,Z⟩),V (D ⟨g3,0,Z⟩)] W fun x w'=>x=Ei (Ec (decide (ep≠e)))/\El W w':=by
 have An:g3<W.heap.size:=H.lt KT;have Ap:W.cell? ⟨g3,0,Z⟩=D (E I h):=(H.cell KT 0).trans O;have c31:W.cell? ⟨g3,1,Z⟩=D (E I e):=(H.cell KT 1).trans O;have c32:W.cell? ⟨g3,2,Z⟩=D (E I o):=(H.cell KT 2).trans O;have Aq:W.cell? ⟨g3,3,Z⟩=D (E I oa):=(H.cell KT 3).trans O;have c34:W.cell? ⟨g3,4,Z⟩=D (E I om):=(H.cell KT 4).trans O;have Ar:W.cell? ⟨g3,5,Z⟩=D (E I la):=(H.cell KT 5).trans O;have As:W.cell? ⟨g3,6,Z⟩=D (E I lm):=(H.cell KT 6).trans O;have c37:W.cell? ⟨g3,7,Z⟩=D (Ec b):=(H.cell KT 7).trans O;have ElB:g5<W.heap.size:=H.lt K5;have ci5:W.cell? ⟨g5,0,Z⟩=D (E I ep):=(H.cell K5 0).trans O;by_cases h2:ep=e;·rw[IZ U];have d2:(ep !=e)=EI:=AU;clear KT K5 h2;go_enter Tryz.func227,Tryz.ntmps227;exact Enq
 ·rw[IJ h2];have d2:(ep !=e)=EJ:=by simp[h2]
  clear KT K5 h2;go_enter Tryz.func227,Tryz.ntmps227;exact Enq
theorem EUD(t:EN)(s ep:Int)(w:M)(he: -9223372036854775808<=t.e): Eg EZ 179 #[t.a,E I s,E I ep] w fun x w'=>x=Ei (Eu #[(t.accept s ep).1.a,E I (t.accept s ep).2])/\El w w':=by
 have CG:=J<|fun W=>su t s W he;obtain⟨r,hr⟩:=Eo (t.Uj s);have HE:Ed (t.accept s ep=if t.o<0\/t.o≠s then(t,28) else if ep≠t.e then(t,21) else r):=J uS;rw[<-hr] at CG;clear hr he;unfold EN.a at*;obtain⟨h,e,o,oa,om,la,lm,b⟩:=t;simp only at*;obtain⟨⟨h',e',o',oa',om',la',lm',b'⟩,k⟩:=r;simp only at CG;unfold Uc at CG⊢;go_enter Tryz.func179,Tryz.ntmps179;go_wp2_with fail;generalize hW:Xo _ _=W at*;have K3:Ed (H W (w.heap.size) #[E I h,E I e,E I o,E I oa,E I om,E I la,E I lm,Ec b] 109):=J (by subst hW;repeat (first|exact H.new _ _ _|exact H.new' _ _ _ Ej|refine H.alloc ?_ _));have K4:Ed (H W (w.heap.size+1) #[E I s] 3):=J (by subst hW;repeat (first|exact H.new _ _ _|exact H.new' _ _ _ Ej|refine H.alloc ?_ _));have K5:Ed (H W (w.heap.size+1+1) #[E I ep] 3):=J (by subst hW;repeat (first|exact H.new _ _ _|exact H.new' _ _ _ Ej|refine H.alloc ?_ _));have K6:Ed (H W (w.heap.size+1+1+1) #[E I 0,E I 0,E I 0,E I 0,E I 0,E I 0,E I 0,Ec EI] 109):=J (by subst hW;repeat (first|exact H.new _ _ _|exact H.new' _ _ _ Ej|refine H.alloc ?_ _));have KA:Ed (H W (w.heap.size+1+1+1+1) #[E I 28,.func (.func 226) #[] #[V (D ⟨w.heap.size,0,Z⟩),V (D ⟨w.heap.size+1,0,Z⟩)],E I 21,.func (.func 227) #[] #[V (D ⟨w.heap.size+1+1,0,Z⟩),V (D ⟨w.heap.size,0,Z⟩)]] 317):=J (by subst hW;repeat (first|exact H.new _ _ _|exact H.new' _ _ _ Ej|refine H.alloc ?_ _));have u:Ed (El w W):=J (by subst hW;(repeat (first|exact IU _ _|(refine J6 ?_ IF _)|(refine J7 ?_ IF _))));clear hW
 have CF:=Q5 [⟨28,226,#[V (D ⟨w.heap.size,0,Z⟩),V (D ⟨w.heap.size+1,0,Z⟩)],decide (o<0\/o≠s)⟩,⟨21,227,#[V (D ⟨w.heap.size+1+1,0,Z⟩),V (D ⟨w.heap.size,0,Z⟩)],decide (ep≠e)⟩] (w.heap.size+1+1+1+1) 2 W O U KA.out (by
  intro c hc;simp only[UJ,Um,or_false] at hc;rcases hc with rfl|rfl;·exact⟨fun _ _=>Ef,fun W2 hW2=>EUB W2 h e o oa om la lm b _ (K3.out.B hW2) _ s (K4.out.B hW2)⟩
  ·exact⟨fun _ _=>Ef,fun W2 hW2=>EUC W2 h e o oa om la lm b _ (K3.out.B hW2) _ ep (K5.out.B hW2)⟩)
 simp only[jq,decide_eq_true_eq] at CF;replace CF:=J CF;clear KA;by_cases h1:o<0\/o≠s;·rw[if_pos h1] at CF HE;exact En3
 rw[if_neg h1] at CF HE;by_cases h2:ep≠e;·rw[if_pos h2] at CF HE;exact En3
 rw[if_neg h2] at CF HE;refine CF.out.mono ?_;rintro x W2 ⟨rfl,b2⟩;replace K3:=J<|K3.out.B b2;replace K4:=J<|K4.out.B b2;replace K5:=J<|K5.out.B b2;replace K6:=J<|K6.out.B b2;replace u:=EV u b2;clear b2 CF h1 h2;have c4:W2.cell? ⟨w.heap.size+1,0,Z⟩=D (E I s):=(K4.out.cell 0).trans O;go_wp2_with (first|(with_reducible refine wL EW K3 ?_));refine(CG.out _).mono ?_;rintro x W3 ⟨rfl,b3⟩;replace K3:=J<|K3.out.B b3;replace K4:=J<|K4.out.B b3;replace K5:=J<|K5.out.B b3;replace K6:=J<|K6.out.B b3;replace u:=EV u b3;clear b3 CG c4;go_wp2_with (first|(with_reducible refine wS (cs:= #[E I h',E I e',E I o',E I oa',E I om',E I la',E I lm',Ec b']) EW K6 ?_ (h1:=U9)));exact Eoj
theorem EUK{o:EP}(hw:JO o (Jg ops a.tmps)=EJ) {v:Y}  (hr:(Ig a.eval o).run P w= .ok (.value v) w') (h:Ib P ops Q rest (a.put o.dst v) w'):Ib P ops Q (o::rest) a w:=by exact Eo4
def pz:Nat->Y:=fun i=>if i<5 then E I 0 else if i<=8 then .slice Z 0 0 else E I 0
theorem EUL:(Tryz.prog.info? 28).map (·.size)=D 56:=Ef
section
variable{ops:Array Oper}{rest:List Oper}{o:Oper}{a:Act}{w:World}{Q:Exit->Act->World->Prop}
theorem pB(hw:JO o (Jg ops a.tmps)=EJ)(x:J5)(ho:o.op= .load 28 x)(g:Nat)(q:Nat->Y)(hg:Ed (w.heap[g]?=D (Eb (EL 56 q) 28 (0,0)))) (hx:a.eval x=V (D ⟨g,0,Z⟩)) (h:Ib EZ ops Q rest (a.put o.dst (Ea (EL 56 q))) w):Ib EZ ops Q (o::rest) a w:=by refine EUK hw ?_ h;unfold Ig;simp only[ho,hx,gJ,dp,OH,Oi,OM,run_loadVar_row w g 28 28 (EL 56 q) (0,0) _ hg.out Tryz.underlying28 O (by rw[EUL,pw])]
theorem cC{o:EP}{ops:Array EP}{tmps:Array Y}{j d:Nat}{want:Bool}(h:o.guard=D (j,want))(hd:(ops[j]?).bind (·.dst)=D d)(hv:tmps[d]?=D (Ec want)):JO o (Jg ops tmps)=EJ:=by unfold JO Jg;simp[h,hd,hv]
end
theorem EUM(n m:Int)(hm:1<=m)(hm2:m<=1000000)(h1: -9223372036854775808<=n)(h2:n<=9223372036854775807):(n.tmod m+m)%m=n%m:=by have e:=Int.mul_tdiv_add_tmod n m;rw[Int.add_emod_right];conv=>rhs;rw[<-e,Int.mul_add_emod_self_left]
theorem cD(n m:Int)(w:M)(h1: -9223372036854775808<=n)(h2:n<=9223372036854775807)(hm:1<=m)(hm2:m<=1000000): Eg EZ 22 #[E I n,E I m] w fun e w'=>e=Ei (E I (n%m))/\w=w':=by
 have b1:=Int.tmod_lt_of_pos n (b:=m) U;have b2:=Int.lt_tmod_of_pos n (b:=m) U;have HM:=J<|EUM n m hm hm2 h1 h2;have hz:(m==0)=EI:=I8;go_enter Tryz.func22,Tryz.ntmps22;go_wp2
 all_goals
  go_ret
  exact⟨by first|(rw[<-HM.out];rfl)|skip,rfl⟩
theorem EUN(w:M):Own (w.alloc (Eb #[E Ix 7] 5)) w.heap.size (D ⟨w.heap.size,0,Z⟩) 1 [7]:=
 ⟨nm w #[E Ix 7] 1 (E3 _) J8 O,fun x hx=>by simp at hx;omega⟩
def EUP(w:M)(base:Nat)(e:Ud):Prop:= ∃(Y4:Option Ep) (n c:Nat) (ys:List Int),e=Ei (G Y4 n c)/\ys.length=n/\Own w base Y4 c ys/\1<=n/\n<=64
theorem Au(A:Option Ep)(xs:List Int)(cap:Nat)(w:M)(hr:Row w A xs)(hl:xs.length<=cap)(hc:cap<=9223372036854775807): Eg EZ 21 #[G A xs.length cap] w fun e w'=>EUP w' w.heap.size e/\El w w':=by
 have ba: ∀o,El w (w.alloc o):=fun o=>(IU _ _).alloc (E3 _) o;by_cases h0:xs=[];·subst h0;go_enter Tryz.func21,Tryz.ntmps21;go_wp2;go_ret;exact⟨⟨_,1,1,[7],O,O,EUN w,U,U⟩,ba _⟩
 ·have hpos:0<xs.length:=by cases xs<;>simp_all
  have hz:((xs.length:Int)==0)=EI:=I8;by_cases h64:64<xs.length
  ·have BA:=J ba;have HR:=J<|r_ hr 64;have hlen:(xs.take 64).length=64:=mR;have HL:=J hlen;clear ba hr hlen h0;go_enter Tryz.func21,Tryz.ntmps21
   go_wp2_with (at_builtin
                refine uV _ O (.tmp 7) (.tmp 12) O w.heap.size _ 0 0 [] O O (GP w _ (E3 _)) A cap 64 (xs.take 64) HL.out O (It HR.out (BA.out _)) U (BA.out _).size ?_
                intro A1 nu w4 o1 b4)
   go_ret;rw[ZZ] at o1;exact⟨⟨A1,64,nu,_,O,HL.out,o1,U,U⟩,(BA.out _).trans b4⟩
  ·have BA:=J ba;have HR:=J hr;clear ba hr h0;go_enter Tryz.func21,Tryz.ntmps21
   go_wp2_with (at_builtin
                refine uV _ O (.tmp 7) (.tmp 12) O w.heap.size _ 0 0 [] O O (GP w _ (E3 _)) A cap xs.length xs O O (It HR.out (BA.out _)) U (BA.out _).size ?_
                intro A1 nu w4 o1 b4)
   go_ret;rw[ZZ] at o1;exact⟨⟨A1,xs.length,nu,xs,by first|rfl|simp,rfl,o1,U,U⟩,(BA.out _).trans b4⟩
def XC(w:M)(lo o:Nat)(v:Y):Prop:= ∃(A:Option Ep) (n cap:Nat) (ys:List Int) (base:Nat),v=G A n cap/\ys.length=n/\Own w base A cap ys/\1<=n/\n<=64/\(∀x,A=D x->x.block≠o)/\lo<=base
theorem XC.B{lo:Nat}{v:Y}(h:XC w lo o v)(hb:El w w'):XC w' lo o v:=by obtain⟨A,n,cap,ys,base,e,l,ho,r⟩:=h;exact⟨A,n,cap,ys,base,e,l,XM ho hb,r⟩
theorem XC.keep{lo:Nat}{v:Y}(h:XC w lo o v)(hw: ∀k,k≠o->w'.heap[k]?=w.heap[k]?):XC w' lo o v:=by
 obtain⟨A,n,cap,ys,base,e,l,ho,h1,h2,hx,hlo⟩:=h;refine⟨A,n,cap,ys,base,e,l,⟨?_,ho.2⟩,h1,h2,hx,hlo⟩;obtain⟨k1,k2⟩:=ho.1;refine⟨k1,?_⟩;rcases k2 with k2|⟨g,cap',cur,hv,hg,hh,hl⟩;·exact .inl k2
 ·refine .inr ⟨g,cap',cur,hv,hg,?_,hl⟩;rw[hw];·exact hh
  ·injection hv with e1 e2 e3;exact hx _ e1
theorem XC.set{lo:Nat}{v:Y}(h:XC w lo o v)(i:Nat)(Y3:Y):XC (w.setCell ⟨o,i,Z⟩ Y3) lo o v:=
 h.keep fun k hk=>XK _ _ _ _ hk
theorem XC.other{lo p:Nat}{v:Y}(h:XC w lo o v)(hp:p<lo):XC w lo p v:=by
 obtain⟨A,n,cap,ys,base,e,l,ho,h1,h2,hx,hlo⟩:=h;refine⟨A,n,cap,ys,base,e,l,ho,h1,h2,?_,hlo⟩;rintro x rfl;rcases ho.1.2 with⟨k2,-⟩|⟨g,cap',cur,hv,hg,hh,hl⟩;·cases k2
 ·injection hv with e1 e2 e3;injection e1 with e1;subst e1;simp only;omega
theorem XC.new{lo:Nat}{c:Nat}(hl:ys.length=n)(ho:Own w base Y4 c ys)(h1:1<=n)(h2:n<=64)(h:o<base\/w.heap.size<=o)(hlo:lo<=base):XC w lo o (G Y4 n c):=by
 refine⟨Y4,n,c,ys,base,O,hl,ho,h1,h2,?_,hlo⟩;rintro x rfl;rcases ho.1.2 with⟨k2,-⟩|⟨g,cap',cur,hv,hg,hh,hl⟩;·cases k2
 ·injection hv with e1 e2 e3;injection e1 with e1;subst e1;have:=mT hh;simp only;omega
def io(k:Y):Nat->Y:=fun i=>if i<5 then E I i else if i=8 then k else if i<8 then .slice Z 0 0 else E I 0
theorem EUQ(Y4:Option Ep)(n c:Nat):Tryz.prog.built 28 [(0,Ea #[E I 0,E I 1,E I 2,E I 3,E I 4]),(2,G Y4 n c)]=D (EL 56 (io (G Y4 n c))):=Ef
theorem Q9(h: ∀i,i<n->(f i).oneCell'=EJ):(EL n f).all (·.oneCell')=EJ:=by rw[Array.all_eq_true];intro i hi;rw[sA];exact h i U5
theorem EUR(Y4:Option Ep)(n c:Nat): ∀i,i<56->(io (G Y4 n c) i).oneCell'=EJ:=by
 intro i hi;unfold io;split;·rfl
 ·split;·rfl
  ·split<;>rfl
def U_(i:Nat):Nat:=if i=9 then 1 else if i<13 then 14 else if i=13 then 0 else if i<34 then 15 else if i<39 then 31 else if i<42 then 4 else if i<48 then 1000 else if i<50 then 3 else if i=50 then 0 else if i<55 then 1000 else 65535
def Zr(i:Nat):Nat:=if i=9 then 1 else if i<42 then 0 else if i<47 then 1 else if i=47 then 0 else if i<50 then 1 else if i=54 then 1 else 0
def cF(i n:Nat):Prop:=Zr i<=n/\n<=U_ i/\(9<i->i<13->n%2=0)
structure Wk(w:M)(lo o m s:Nat)(q:Nat->Y):Prop where
 o0:q 0=E I 0
 o4:q 4=E I 4
 perm: ∃a b c:Nat,q 1=E I a/\q 2=E I b/\q 3=E I c/\1<=a/\a<=3/\1<=b/\b<=3/\1<=c/\c<=3/\a≠b/\a≠c/\b≠c
 keys: ∀i,5<=i->i<=7->(i<5+m/\XC w lo o (q i))\/(5+m<=i/\q i=G Z 0 0)
 kY:XC w lo o (q 8)
 int: ∀i,9<=i->i<56-> ∃n:Nat,q i=E I n/\n<=U_ i/\(i<s->cF i n)
theorem Wk.B{lo:Nat}(h:Wk w lo o m s q)(hb:El w w'):Wk w' lo o m s q:=
 ⟨h.o0,h.o4,h.perm,fun i h1 h2=>(h.keys i h1 h2).imp (fun k=>⟨k.1,k.2.B hb⟩) id,h.kY.B hb,h.int⟩
theorem Wk.world{lo:Nat}(h:Wk w lo o m s q)(i:Nat)(Y3:Y):Wk (w.setCell ⟨o,i,Z⟩ Y3) lo o m s q:=
 ⟨h.o0,h.o4,h.perm,fun i h1 h2=>(h.keys i h1 h2).imp (fun k=>⟨k.1,k.2.set _ _⟩) id,h.kY.set _ _,h.int⟩
theorem Wk.setInt{lo:Nat}(h:Wk w lo o m s q)(i n:Nat)(h9:9<=i)(hn:cF i n)(hs:s'<=s\/s'<=i+1/\i<=s):Wk (w.setCell ⟨o,i,Z⟩ (E I n)) lo o m s' (UR q i (E I n)):=by
 have h:=h.world i (E I n);have e: ∀j,j≠i->UR q i (E I n) j=q j:=fun j hj=>pA _ _ _ _ hj;refine⟨by rw[e _ U];exact h.o0,by rw[e _ U];exact h.o4,?_,fun j h1 h2=>by rw[e _ U];exact h.keys j h1 h2,by rw[e _ U];exact h.kY,fun j h1 h2=> ?_⟩;·rw[e _ U,e _ U,e _ U];exact h.perm
 ·by_cases hj:j=i;·subst hj;exact⟨n,G8 _ _ _,hn.2.1,fun _=>hn⟩
  ·rw[e _ hj];obtain⟨k,e1,e2,e3⟩:=h.int j h1 h2;exact⟨k,e1,e2,fun h=>e3 U⟩
theorem Wk.u4{lo:Nat}(h:Wk w lo o m s q)(i:Nat)(v:Y)(hi:i=5+m)(h7:i<=7)(hk:XC w lo o v):Wk (w.setCell ⟨o,i,Z⟩ v) lo o (m+1) s (UR q i v):=by
 have h:=h.world i v;have e: ∀j,j≠i->UR q i v j=q j:=fun j hj=>pA _ _ _ _ hj;refine⟨by rw[e _ U];exact h.o0,by rw[e _ U];exact h.o4,?_,fun j h1 h2=> ?_,by rw[e _ U];exact h.kY,fun j h1 h2=>by rw[e _ U];exact h.int j h1 h2⟩;·rw[e _ U,e _ U,e _ U];exact h.perm
 ·by_cases hj:j=i;·subst hj;exact .inl ⟨U,by rw[G8];exact hk.set _ _⟩
  ·rw[e _ hj];rcases h.keys j h1 h2 with⟨k1,k2⟩|⟨k1,k2⟩;·exact .inl ⟨U,k2⟩
   ·exact .inr ⟨U,k2⟩
structure Oy(W:M)(f:Nat->Y)(o m s:Nat)(q:Nat->Y)(w:M):Prop where
 out:w.heap[o]?=D (Eb (EL 56 q) 28 (0,0))
 src:w.heap[W.heap.size]?=D (Eb (EL 56 f) 28 (0,0))
 res: ∃r,w.heap[W.heap.size+1]?=D (Eb (EL 56 r) 28 (0,0))
 bel:El W w
 lo:W.heap.size+2<=o
 wk:Wk w (W.heap.size+2) o m s q
theorem Oy.B(h:Oy W f o m s q w)(hb:El w w'):Oy W f o m s q w':=by obtain⟨r,hr⟩:=h.res;exact⟨Xk h.out hb,Xk h.src hb,⟨r,Xk hr hb⟩,h.bel.trans (hb.mono h.bel.size),h.lo,h.wk.B hb⟩
theorem Oy.set'{m':Nat}(h:Oy W f o m s q w)(i:Nat)(v:Y)(hw:Wk (w.setCell ⟨o,i,Z⟩ v) (W.heap.size+2) o m' s' (UR q i v)):Oy W f o m' s' (UR q i v) (w.setCell ⟨o,i,Z⟩ v):=by
 obtain⟨r,hr⟩:=h.res;have hlo:=h.lo;refine⟨?_,?_,⟨r,?_⟩,h.bel.setCell (p:=⟨o,i,Z⟩) UT v,h.lo,hw⟩;·rw[<-Am];exact mV h.out i v
 ·rw[XK _ _ _ _ UT];exact h.src
 ·rw[XK _ _ _ _ UT];exact hr
theorem Oy.setInt(s':Nat)(h:Oy W f o m s q w)(i n:Nat)(h9:9<=i)(hn:cF i n)(hs:s'<=s\/s'<=i+1/\i<=s):Oy W f o m s' (UR q i (E I n)) (w.setCell ⟨o,i,Z⟩ (E I n)):=h.set' i _ (h.wk.setInt i n h9 hn hs)
theorem Oy.u4(h:Oy W f o m s q w)(i:Nat)(v:Y)(h5:i=5+m)(h7:i<=7)(hk:XC w (W.heap.size+2) o v):Oy W f o (m+1) s (UR q i v) (w.setCell ⟨o,i,Z⟩ v):=h.set' i _ (h.wk.u4 i v h5 h7 hk)
theorem Oy.order(h:Oy W f o m s q w)(i k a b c:Nat)(vi vk:Y)(i1:1<=i)(i3:i<=3)(k1:1<=k)(k3:k<=3) (ha:UR (UR q i vi) k vk 1=E I a) (hb:UR (UR q i vi) k vk 2=E I b) (hc:UR (UR q i vi) k vk 3=E I c) (a1:1<=a) (a3:a<=3) (b1:1<=b) (b3:b<=3) (c1:1<=c) (c3:c<=3) (ab:a≠b) (ac:a≠c) (bc:b≠c): Oy W f o m s (UR (UR q i vi) k vk) ((w.setCell ⟨o,i,Z⟩ vi).setCell ⟨o,k,Z⟩ vk):=by
 obtain⟨r,hr⟩:=h.res;have hlo:=h.lo;have hw:=(h.wk.world i vi).world k vk;have e: ∀j,j<1\/3<j->UR (UR q i vi) k vk j=q j:=fun j hj=>by rw[pA _ _ _ _ U,pA _ _ _ _ U]
 refine⟨?_,?_,⟨r,?_⟩,(h.bel.setCell (p:=⟨o,i,Z⟩) UT vi).setCell (p:=⟨o,k,Z⟩) UT vk,h.lo,
  ⟨by rw[e _ U];exact hw.o0,by rw[e _ U];exact hw.o4,⟨a,b,c,ha,hb,hc,a1,a3,b1,b3,c1,c3,ab,ac,bc⟩,fun j h1 h2=>by rw[e _ U];exact hw.keys j h1 h2,by rw[e _ U];exact hw.kY,fun j h1 h2=>by rw[e _ U];exact hw.int j h1 h2⟩⟩
 ·rw[<-Am,<-Am];exact mV (mV h.out i vi) k vk
 ·rw[XK _ _ _ _ UT,XK _ _ _ _ UT];exact h.src
 ·rw[XK _ _ _ _ UT,XK _ _ _ _ UT];exact hr
theorem Oy.Zb(s':Nat)(h:Oy W f o m s q w)(i n:Nat)(z:Int)(hz:z=n)(h9:9<=i)(hn:cF i n)(hs:s'<=s\/s'<=i+1/\i<=s):Oy W f o m s' (UR q i (E I z)) (w.setCell ⟨o,i,Z⟩ (E I z)):=by subst hz;exact h.setInt s' i n h9 hn hs
theorem Oy.skip(s':Nat)(h:Oy W f o m s q w)(hs: ∀i,s<=i->i<s'->Zr i=0/\13<=i):Oy W f o m s' q w:=by
 refine⟨h.out,h.src,h.res,h.bel,h.lo,h.wk.o0,h.wk.o4,h.wk.perm,h.wk.keys,h.wk.kY,fun i h1 h2=> ?_⟩;obtain⟨n,e1,e2,e3⟩:=h.wk.int i h1 h2;refine⟨n,e1,e2,fun hi=> ?_⟩;by_cases c:i<s;·exact e3 c
 ·have:=hs i U hi;exact⟨U,e2,fun _ h=>U⟩
theorem Oy.drew(h:Oy W f o m s q w):Oy W f o m s q w.drew:=
 h.B (Jn w)
structure cG(w:M)(g:Nat->Y):Prop where
 o0:g 0=E I 0
 o4:g 4=E I 4
 perm: ∃a b c:Nat,g 1=E I a/\g 2=E I b/\g 3=E I c/\1<=a/\a<=3/\1<=b/\b<=3/\1<=c/\c<=3/\a≠b/\a≠c/\b≠c
 keys: ∀i,5<=i->i<=8-> ∃(A:Option Ep) (n cap:Nat) (ys:List Int) (base:Nat),g i=G A n cap/\ys.length=n/\Own w base A cap ys/\1<=n/\n<=64
 int: ∀i,9<=i->i<56-> ∃n:Nat,g i=E I n/\cF i n
theorem cG.B{g:Nat->Y}(h:cG w g)(hb:El w w'):cG w' g:=
 ⟨h.o0,h.o4,h.perm,fun i h1 h2=>by obtain⟨A,n,cap,ys,base,e,l,ho,r⟩:=h.keys i h1 h2;exact⟨A,n,cap,ys,base,e,l,XM ho hb,r⟩,h.int⟩
theorem Oy.done(h:Oy W f o 3 56 q w):cG (w.setRow (W.heap.size+1) (EL 56 q)) q:=by
 refine⟨h.wk.o0,h.wk.o4,h.wk.perm,fun i h1 h2=> ?_,fun i h1 h2=> ?_⟩
 ·have hk:XC w (W.heap.size+2) o (q i):=by
   rcases JW i 8 with h8|h8
   ·rcases h.wk.keys i h1 U with k|k;·exact k.2
    ·omega
   ·obtain rfl:i=8:=U;exact h.wk.kY
  obtain⟨A,n,cap,ys,base,e,l,ho,r1,r2,-⟩:=(hk.other (p:=W.heap.size+1) U).keep (w':=w.setRow (W.heap.size+1) (EL 56 q)) (fun k hk=>setRow_other _ _ _ _ hk);exact⟨A,n,cap,ys,base,e,l,ho,r1,r2⟩
 ·obtain⟨n,e1,e2,e3⟩:=h.wk.int i h1 h2;exact⟨n,e1,e3 h2⟩
theorem Oy.one(h:Oy W f o 3 s q w): ∀i,i<56->(q i).oneCell'=EJ:=by
 intro i hi;obtain⟨a,b,c,e1,e2,e3,-⟩:=h.wk.perm;by_cases h9:9<=i;·obtain⟨n,e,-⟩:=h.wk.int i h9 hi;rw[e];rfl
 ·by_cases h5:5<=i
  ·have hk:XC w (W.heap.size+2) o (q i):=by
    rcases JW i 8 with h8|h8
    ·rcases h.wk.keys i h5 U with k|k;·exact k.2
     ·omega
    ·obtain rfl:i=8:=U;exact h.wk.kY
   obtain⟨A,n,cap,ys,base,e,-⟩:=hk;rw[e];rfl
  ·rcases(show i=0\/i=1\/i=2\/i=3\/i=4 from U) with rfl|rfl|rfl|rfl|rfl;·rw[h.wk.o0];rfl
   ·rw[e1];rfl
   ·rw[e2];rfl
   ·rw[e3];rfl
   ·rw[h.wk.o4];rfl
theorem G_(a:Int): ∃n:Nat,Ir .and .i64 a 14=n/\n<=14/\n%2=0:=by
 refine⟨(fX 64 a&&&fX 64 14).toNat,?_,?_,?_⟩
 ·show IntKind.i64.wrap _=_;apply IntWalk.i64_in;have:(fX 64 a&&&fX 64 14).toNat<=14:=by rw[BitVec.toNat_and];exact Nat.and_le_right
  show _<=((fX 64 a&&&fX 64 14).toNat:Int)/\((fX 64 a&&&fX 64 14).toNat:Int)<=_;omega
 ·rw[BitVec.toNat_and];exact Nat.and_le_right
 ·rw[BitVec.toNat_and];have:=Nat.and_mod_two_pow (a:=(fX 64 a).toNat) (b:=(fX 64 14).toNat) (n:=1);rw[Nat.pow_one] at this;rw[this];exact Nat.and_zero _
theorem EUS(i:Nat)(h1:14<=i)(h2:i<39):Zr i=0/\13<=i:=by unfold Zr;rw[if_neg U,if_pos U];omega
theorem EUT(i:Nat)(h1:50<=i)(h2:i<54):Zr i=0/\13<=i:=by unfold Zr;rw[if_neg U,if_neg U,if_neg U,if_neg U,if_neg U,if_neg U];omega
theorem EUV(i n:Nat)(h1:14<=i)(h2:i<34)(hn:n<=15):cF i n:=by unfold cF Zr U_;rw[if_neg U,if_pos U,if_neg U,if_neg U,if_neg U,if_pos U];exact⟨U,hn,fun _ h=>U⟩
theorem EUW(i n:Nat)(h1:34<=i)(h2:i<39)(hn:n<=31):cF i n:=by unfold cF Zr U_;rw[if_neg U,if_pos U,if_neg U,if_neg U,if_neg U,if_neg U,if_pos U];exact⟨U,hn,fun _ h=>U⟩
theorem EUY(i n:Nat)(h1:51<=i)(h2:i<54)(hn:n<=1000):cF i n:=by
 unfold cF Zr U_;refine⟨?_,?_,fun _ h=>U⟩
 ·repeat (first|rw[if_neg U]|rw[if_pos U])
  omega
 ·rw[if_neg U,if_neg U,if_neg U,if_neg U,if_neg U,if_neg U,if_neg U,if_neg U,if_neg U,if_pos U];exact hn
theorem Av:(Tryz.prog.info? 28).map (·.size)=D 56:=Ef
def EU0(w:M)(e:Ud):Prop:= ∃g,e=Ei (Ea (EL 56 g))/\cG w g
theorem EU1(f:Nat->Y)(w:M)(hp:sB w f): Eg EZ 9 #[Ea (EL 56 f)] w fun e w'=>EU0 w' e/\El w w':=by
 obtain⟨A8,xs8,EU3,e8,l8,c8,r8,-⟩:=hp.key 8 U U;have HP:=J hp;clear hp;go_enter Tryz.func9,Tryz.ntmps9;go_wp2_with fail;refine(Au A8 xs8 EU3 _ (It r8 (JY w _ _)) l8 c8).mono ?_;rintro e w1 ⟨⟨B8,n8,d8,Q_,rfl,jr,RE,k1,k2⟩,b1⟩;have B1:=J b1;clear b1 r8;have HO8:=J RE;clear RE l8 c8;have HH:=J e8;clear e8;go_wp2_with (with_reducible refine JE 15 ?_);apply Es;refine I4 ?g1 28 #[(0,.tmp 11),(2,.tmp 14)] ?g2 (EL 56 (io (G B8 n8 d8))) ?he ?_;case g1=>rfl
 case g2=>rfl
 case he=>exact EUQ B8 n8 d8
 go_wp2_with ((with_reducible show Ib _ _ _ (⟨Z,.store _ (.tmp 3) (.tmp 15),_,_,_,_⟩::_) _ _);refine Ex.mk ?_);apply Es;refine wpList_store_row ?g1 28 (.tmp 3) (.tmp 15) ?g2 w1.heap.size (EL 56 (io (G B8 n8 d8))) ?h1 ?h2 28 ?old ?h3 ?h4 ?h5 ?h6 ?_;case g1=>rfl
 case g2=>rfl
 case h1=>rfl
 case h2=>rfl
 case h3=>exact gI _ _
 case h4=>exact Av
 case h5=>rfl
 case h6=>exact Q9 (EUR B8 n8 d8)
 rw[World.setRow_alloc_new]
 have hst:Oy w f w1.heap.size 0 9 (io (G B8 n8 d8)) (w1.alloc (Eb (EL 56 (io (G B8 n8 d8))) 28)):=by
  obtain⟨z1,z2,z3⟩:=PR B1.out;rw[Q7 (#[E I 0,_,_,_,_,_,_,_,_,_,_,_,_,_,_,_,_,_,_,_,_,_,_,_,_,_,_,_,_,_,_,_,_,_,_,_,_,_,_,_,_,_,_,_,_,_,_,_,_,_,_,_,_,_,_,_]:Array Y) 56 rfl] at z2;have bw:El w1 (w1.alloc (Eb (EL 56 (io (G B8 n8 d8))) 28)):=Er _ _;refine⟨gI _ _,Xk z1 bw,⟨_,Xk z2 bw⟩,zr (zr (JY _ _ _) B1.out Ej) bw U,U,?_⟩;refine Wk.B ⟨O,O,⟨1,2,3,O,O,O,U,U,U,U,U,U,U,U,U⟩,fun i h1 h2=> .inr ⟨U,?_⟩,XC.new jr HO8.out k1 k2 (.inr (E3 _)) Ej,fun i h1 h2=>⟨0,?_,aO _,fun h=>U⟩⟩ bw;·unfold io;rw[if_neg U,if_neg U,if_pos U]
  ·unfold io;rw[if_neg U,if_neg U,if_neg U];rfl
 generalize w1.alloc (Eb (EL 56 (io (G B8 n8 d8))) 28)=wa at*;have HST:=J hst;clear hst;go_wp2_with fail;go_loopw[4] (fun y wr=> ∃(i:Nat) (q:Nat->Y),y=E I i/\1<=i/\i<=3/\Oy w f w1.heap.size 0 9 q wr) (fun y _=>3-(In y).toNat);case atStart=>exact⟨1,_,O,U,U,HST.out⟩
 case round=>
  obtain⟨i,q,rfl,hi1,hi3,hs⟩:=hrel;clear HST;obtain⟨cO,fO⟩:=Jf hs.out;obtain⟨cS,-⟩:=Jf hs.src;have hne:w.heap.size≠w1.heap.size:=by have:=hs.lo;omega
  obtain⟨a,b,c,qa,qb,qc,a1,a3,b1,b3,c1,c3,ab,ac,bc⟩:=hs.wk.perm;have q0:=hs.wk.o0;have q4:=hs.wk.o4;have HS:=J hs;clear hs;rcases(show i=1\/i=2\/i=3 from U) with rfl|rfl|rfl
  ·obtain⟨e1,m1,m2⟩:=HP.out.int 1 U U;obtain⟨p1,hp1⟩:=JK (In (f 1));rw[hp1] at e1 m1 m2;go_wp2_with fail;refine(cD p1 3 _ U U U U).mono ?_;rintro e wm ⟨rfl,rfl⟩;rcases(show p1%3=0\/p1%3=1\/p1%3=2 from U) with h|h|h<;>rw[h];·go_wp2;exact⟨⟨2,_,O,U,U,HS.out.order 1 1 a b c _ _ U U U U cH cH cH U U U U U U U U U⟩,Zs⟩
   ·go_wp2;exact⟨⟨2,_,O,U,U,HS.out.order 1 2 b a c _ _ U U U U cH cH cH U U U U U U U U U⟩,Zs⟩
   ·go_wp2;exact⟨⟨2,_,O,U,U,HS.out.order 1 3 c b a _ _ U U U U cH cH cH U U U U U U U U U⟩,Zs⟩
  ·obtain⟨e1,m1,m2⟩:=HP.out.int 2 U U;obtain⟨p1,hp1⟩:=JK (In (f 2));rw[hp1] at e1 m1 m2;go_wp2_with fail;refine(cD p1 2 _ U U U U).mono ?_;rintro e wm ⟨rfl,rfl⟩;rcases(show p1%2=0\/p1%2=1 from U) with h|h<;>rw[h];·go_wp2;exact⟨⟨3,_,O,U,U,HS.out.order 2 2 a b c _ _ U U U U cH cH cH U U U U U U U U U⟩,Zs⟩
   ·go_wp2;exact⟨⟨3,_,O,U,U,HS.out.order 2 3 a c b _ _ U U U U cH cH cH U U U U U U U U U⟩,Zs⟩
  ·go_wp2_with fail;clear cO fO cS qa qb qc q0 q4 a1 a3 b1 b3 c1 c3 ab ac bc;simp only[show((3:Nat):Int)=3 from rfl];go_loopw[7] (fun y wr=> ∃(i:Nat) (q:Nat->Y),y=E I i/\i<=3/\Oy w f w1.heap.size i 9 q wr) (fun y _=>3-(In y).toNat);case atStart=>exact⟨0,_,O,U,HS.out⟩
   case round=>
    clear HS a b c;obtain⟨i,q,rfl,hi3,hs⟩:=hrel;obtain⟨cO,fO⟩:=Jf hs.out;obtain⟨cS,-⟩:=Jf hs.src;have HS:=J hs;clear hs;rcases(show i=0\/i=1\/i=2\/i=3 from U) with rfl|rfl|rfl|rfl;·obtain⟨A,xs,cap,e,l,c,r,-⟩:=HP.out.key 5 U U;have hr:=It r (pC HS.out.bel (E3 _));clear r;go_wp2_with fail;refine(Au A xs cap _ hr l c).mono ?_;rintro e w2 ⟨⟨Y4,n,d,ys,rfl,hl,ho,k1,k2⟩,b1⟩;have hs2:=HS.out.B b1;have hlt:=mT HS.out.out;clear cO fO cS hr;obtain⟨cO,fO⟩:=Jf hs2.out;have HS2:=J<|hs2.u4 5 (G Y4 n d) O U (XC.new hl ho k1 k2 (.inl hlt) Aw);clear hs2 ho b1 hlt HS k1 k2 hl l c;go_wp2;exact⟨⟨1,_,O,U,HS2.out⟩,Zs⟩
    ·obtain⟨A,xs,cap,e,l,c,r,-⟩:=HP.out.key 6 U U;have hr:=It r (pC HS.out.bel (E3 _));clear r;go_wp2_with fail;refine(Au A xs cap _ hr l c).mono ?_;rintro e w2 ⟨⟨Y4,n,d,ys,rfl,hl,ho,k1,k2⟩,b1⟩;have hs2:=HS.out.B b1;have hlt:=mT HS.out.out;clear cO fO cS hr;obtain⟨cO,fO⟩:=Jf hs2.out;have HS2:=J<|hs2.u4 6 (G Y4 n d) O U (XC.new hl ho k1 k2 (.inl hlt) Aw);clear hs2 ho b1 hlt HS k1 k2 hl l c;go_wp2;exact⟨⟨2,_,O,U,HS2.out⟩,Zs⟩
    ·obtain⟨A,xs,cap,e,l,c,r,-⟩:=HP.out.key 7 U U;have hr:=It r (pC HS.out.bel (E3 _));clear r;go_wp2_with fail;refine(Au A xs cap _ hr l c).mono ?_;rintro e w2 ⟨⟨Y4,n,d,ys,rfl,hl,ho,k1,k2⟩,b1⟩;have hs2:=HS.out.B b1;have hlt:=mT HS.out.out;clear cO fO cS hr;obtain⟨cO,fO⟩:=Jf hs2.out;have HS2:=J<|hs2.u4 7 (G Y4 n d) O U (XC.new hl ho k1 k2 (.inl hlt) Aw);clear hs2 ho b1 hlt HS k1 k2 hl l c;go_wp2;exact⟨⟨3,_,O,U,HS2.out⟩,Zs⟩
    ·have HS:=J<|HS.out.skip 9 U;obtain⟨f10,b10,t10⟩:=HP.out.int 10 U U;obtain⟨f11,b11,t11⟩:=HP.out.int 11 U U;obtain⟨f12,b12,t12⟩:=HP.out.int 12 U U;obtain⟨n10,Uf,c10,d10⟩:=G_ (In (f 10));obtain⟨n11,OU,c11,d11⟩:=G_ (In (f 11));obtain⟨n12,a12,c12,d12⟩:=G_ (In (f 12));generalize In (f 10)=p10 at*;generalize In (f 11)=p11 at*;generalize In (f 12)=p12 at*;have hne:w.heap.size≠w1.heap.size:=Aw;go_wp2_with fail;have HS2:=J<|((((HS.out.Zb 10 9 1 1 rfl U aU U).Zb 11 10 n10 _ O U aU U).Zb 12 11 n11 _ O U aU U).Zb 13 12 n12 _ O U aU U).Zb 14 13 0 0 rfl U aU U;clear HS cO fO cS f10 f11 f12 b10 b11 b12 t10 t11 t12 Uf OU a12;simp only[show((3:Nat):Int)=3 from rfl];go_loopw[8] (fun y wr=> ∃(i:Nat) (q:Nat->Y),y=E I i/\i<=5/\Oy w f w1.heap.size 3 14 q wr) (fun y _=>5-(In y).toNat);case atStart=>exact⟨0,_,O,U,HS2.out⟩
     case round=>
      clear HS2 c10 c11 c12 d10 d11 d12;obtain⟨i,q,rfl,hi5,hs⟩:=hrel;have HS:=J hs;clear hs;by_cases hlt:i<5
      ·go_wp2_with fail;obtain⟨wo,rfl⟩:=Eo (wr:M);go_loopw[9] (fun y wr=> ∃(k:Nat) (q:Nat->Y),y=E I k/\k<=4/\Oy w f w1.heap.size 3 14 q wr) (fun y _=>4-(In y).toNat);case atStart=>exact⟨0,_,O,U,HS.out⟩
       case round=>
        clear HS;obtain⟨k,q,rfl,hk4,hs⟩:=hrel;obtain⟨cO,fO⟩:=Jf hs.out;obtain⟨cS,-⟩:=Jf hs.src;have HS:=J hs;clear hs;by_cases hk:k<4;·have hlt':14+i*4+k<56:=U;obtain⟨e1,m1,m2⟩:=HP.out.int (14+i*4+k) hlt' U;obtain⟨p1,hp1⟩:=JK (In (f (14+i*4+k)));rw[hp1] at e1 m1 m2;obtain⟨n,hn,hn2⟩: ∃n:Nat,p1%16=n/\n<=15:=⟨(p1%16).toNat,U,U⟩;have js:=J<|HS.out.Zb 14 (14+i*4+k) n (p1%16) hn U (EUV _ _ U U hn2) U;clear hp1 hn hn2;go_wp2_with fail;go_region;go_wp2_with fail;exact⟨⟨k+1,_,by go_num,U,js.out.drew⟩,Jb⟩
        ·have hlt':34+i<56:=U;obtain⟨e1,m1,m2⟩:=HP.out.int (34+i) hlt' U;obtain⟨p1,hp1⟩:=JK (In (f (34+i)));rw[hp1] at e1 m1 m2;obtain⟨n,hn,hn2⟩: ∃n:Nat,p1%32=n/\n<=31:=⟨(p1%32).toNat,U,U⟩;have js:=J<|HS.out.Zb 14 (34+i) n (p1%32) hn U (EUW _ _ U U hn2) U;clear hp1 hn hn2;go_wp2_with fail;exact⟨⟨i+1,_,by go_num,U,js.out⟩,Jb⟩
      ·have sC:=J<|HS.out.skip 39 (fun i h1 h2=>EUS i h1 h2);clear HS;obtain⟨e1,m1,m2⟩:=HP.out.int 39 U U;obtain⟨p1,hp1⟩:=JK (In (f 39));rw[hp1] at e1 m1 m2;clear hp1;obtain⟨n39,hn,t39⟩: ∃n:Nat,p1%5=n/\n<=4:=⟨(p1%5).toNat,U,U⟩;obtain⟨cO,fO⟩:=Jf sC.out.out;obtain⟨cS,-⟩:=Jf sC.out.src;have HN:=J hn;clear hn;go_wp2_with fail;refine(cD p1 5 _ U U U U).mono ?_;rintro e wm ⟨rfl,rfl⟩;rw[HN.out];clear hlt e1 m1 m2 HN;obtain⟨e1,m1,m2⟩:=HP.out.int 40 U U;obtain⟨p1,hp1⟩:=JK (In (f 40));rw[hp1] at e1 m1 m2;clear hp1;obtain⟨n40,hn,t40⟩: ∃n:Nat,p1%5=n/\n<=4:=⟨(p1%5).toNat,U,U⟩;have HN:=J hn;clear hn;go_wp2_with fail;refine(cD p1 5 _ U U U U).mono ?_;rintro e wm ⟨rfl,rfl⟩;rw[HN.out];have Ay:=J<|sC.out.Zb 40 39 n39 ((n39:Int)) U U aU U;clear sC cO fO cS;generalize fZ _ ⟨w1.heap.size,39,Z⟩ (E I ((n39:Int)))=x1 at*;clear e1 m1 m2 HN t39;obtain⟨cO,fO⟩:=Jf Ay.out.out;obtain⟨cS,-⟩:=Jf Ay.out.src;obtain⟨e1,m1,m2⟩:=HP.out.int 41 U U;obtain⟨p1,hp1⟩:=JK (In (f 41));rw[hp1] at e1 m1 m2;clear hp1;obtain⟨n41,hn,t41⟩: ∃n:Nat,p1%5=n/\n<=4:=⟨(p1%5).toNat,U,U⟩;have HN:=J hn;clear hn;go_wp2_with fail;refine(cD p1 5 _ U U U U).mono ?_;rintro e wm ⟨rfl,rfl⟩;rw[HN.out];have HS2:=J<|Ay.out.Zb 41 40 n40 ((n40:Int)) U U aU U;clear Ay cO fO cS;generalize fZ _ ⟨w1.heap.size,40,Z⟩ (E I ((n40:Int)))=x2 at*;clear e1 m1 m2 HN t40;obtain⟨cO,fO⟩:=Jf HS2.out.out;obtain⟨cS,-⟩:=Jf HS2.out.src;obtain⟨e1,m1,m2⟩:=HP.out.int 42 U U;obtain⟨p1,hp1⟩:=JK (In (f 42));rw[hp1] at e1 m1 m2;clear hp1;obtain⟨n42,hn,t42⟩: ∃n:Nat,p1%1000=n/\n<=999:=⟨(p1%1000).toNat,U,U⟩;have HN:=J hn;clear hn;go_wp2_with fail;refine(cD p1 1000 _ U U U U).mono ?_;rintro e wm ⟨rfl,rfl⟩;rw[HN.out];have js:=J<|HS2.out.Zb 42 41 n41 ((n41:Int)) U U aU U;clear HS2 cO fO cS;generalize fZ _ ⟨w1.heap.size,41,Z⟩ (E I ((n41:Int)))=x3 at*;clear e1 m1 m2 HN t41;obtain⟨cO,fO⟩:=Jf js.out.out;obtain⟨cS,-⟩:=Jf js.out.src;obtain⟨e1,m1,m2⟩:=HP.out.int 43 U U;obtain⟨p1,hp1⟩:=JK (In (f 43));rw[hp1] at e1 m1 m2;clear hp1;obtain⟨n43,hn,t43⟩: ∃n:Nat,p1%1000=n/\n<=999:=⟨(p1%1000).toNat,U,U⟩;have HN:=J hn;clear hn;go_wp2_with fail;refine(cD p1 1000 _ U U U U).mono ?_;rintro e wm ⟨rfl,rfl⟩;rw[HN.out];have Az:=J<|js.out.Zb 43 42 (1+n42) (1+(n42:Int)) U U aU U;clear js cO fO cS;generalize fZ _ ⟨w1.heap.size,42,Z⟩ (E I (1+(n42:Int)))=x4 at*;clear e1 m1 m2 HN t42;obtain⟨cO,fO⟩:=Jf Az.out.out;obtain⟨cS,-⟩:=Jf Az.out.src;obtain⟨e1,m1,m2⟩:=HP.out.int 44 U U;obtain⟨p1,hp1⟩:=JK (In (f 44));rw[hp1] at e1 m1 m2;clear hp1;obtain⟨n44,hn,t44⟩: ∃n:Nat,p1%1000=n/\n<=999:=⟨(p1%1000).toNat,U,U⟩;have HN:=J hn;clear hn;go_wp2_with fail;refine(cD p1 1000 _ U U U U).mono ?_;rintro e wm ⟨rfl,rfl⟩;rw[HN.out];have AA:=J<|Az.out.Zb 44 43 (1+n43) (1+(n43:Int)) U U aU U;clear Az cO fO cS;generalize fZ _ ⟨w1.heap.size,43,Z⟩ (E I (1+(n43:Int)))=x5 at*;clear e1 m1 m2 HN t43;obtain⟨cO,fO⟩:=Jf AA.out.out;obtain⟨cS,-⟩:=Jf AA.out.src;obtain⟨e1,m1,m2⟩:=HP.out.int 45 U U;obtain⟨p1,hp1⟩:=JK (In (f 45));rw[hp1] at e1 m1 m2;clear hp1;obtain⟨n45,hn,t45⟩: ∃n:Nat,p1%1000=n/\n<=999:=⟨(p1%1000).toNat,U,U⟩;have HN:=J hn;clear hn;go_wp2_with fail;refine(cD p1 1000 _ U U U U).mono ?_;rintro e wm ⟨rfl,rfl⟩;rw[HN.out];have AB:=J<|AA.out.Zb 45 44 (1+n44) (1+(n44:Int)) U U aU U;clear AA cO fO cS;generalize fZ _ ⟨w1.heap.size,44,Z⟩ (E I (1+(n44:Int)))=x6 at*;clear e1 m1 m2 HN t44;obtain⟨cO,fO⟩:=Jf AB.out.out;obtain⟨cS,-⟩:=Jf AB.out.src;obtain⟨e1,m1,m2⟩:=HP.out.int 46 U U;obtain⟨p1,hp1⟩:=JK (In (f 46));rw[hp1] at e1 m1 m2;clear hp1;obtain⟨n46,hn,t46⟩: ∃n:Nat,p1%1000=n/\n<=999:=⟨(p1%1000).toNat,U,U⟩;have HN:=J hn;clear hn;go_wp2_with fail;refine(cD p1 1000 _ U U U U).mono ?_;rintro e wm ⟨rfl,rfl⟩;rw[HN.out];have AC:=J<|AB.out.Zb 46 45 (1+n45) (1+(n45:Int)) U U aU U;clear AB cO fO cS;generalize fZ _ ⟨w1.heap.size,45,Z⟩ (E I (1+(n45:Int)))=x7 at*;clear e1 m1 m2 HN t45;obtain⟨cO,fO⟩:=Jf AC.out.out;obtain⟨cS,-⟩:=Jf AC.out.src;obtain⟨e1,m1,m2⟩:=HP.out.int 47 U U;obtain⟨p1,hp1⟩:=JK (In (f 47));rw[hp1] at e1 m1 m2;clear hp1;obtain⟨n47,hn,t47⟩: ∃n:Nat,p1%1001=n/\n<=1000:=⟨(p1%1001).toNat,U,U⟩;have HN:=J hn;clear hn;go_wp2_with fail;refine(cD p1 1001 _ U U U U).mono ?_;rintro e wm ⟨rfl,rfl⟩;rw[HN.out];have AG:=J<|AC.out.Zb 47 46 (1+n46) (1+(n46:Int)) U U aU U;clear AC cO fO cS;generalize fZ _ ⟨w1.heap.size,46,Z⟩ (E I (1+(n46:Int)))=x8 at*;clear e1 m1 m2 HN t46;obtain⟨cO,fO⟩:=Jf AG.out.out;obtain⟨cS,-⟩:=Jf AG.out.src;obtain⟨e1,m1,m2⟩:=HP.out.int 48 U U;obtain⟨p1,hp1⟩:=JK (In (f 48));rw[hp1] at e1 m1 m2;clear hp1;obtain⟨n48,hn,t48⟩: ∃n:Nat,p1%3=n/\n<=2:=⟨(p1%3).toNat,U,U⟩;have HN:=J hn;clear hn;go_wp2_with fail;refine(cD p1 3 _ U U U U).mono ?_;rintro e wm ⟨rfl,rfl⟩;rw[HN.out];have AH:=J<|AG.out.Zb 48 47 n47 ((n47:Int)) U U aU U;clear AG cO fO cS;generalize fZ _ ⟨w1.heap.size,47,Z⟩ (E I ((n47:Int)))=x9 at*;clear e1 m1 m2 HN t47;obtain⟨cO,fO⟩:=Jf AH.out.out;obtain⟨cS,-⟩:=Jf AH.out.src;obtain⟨e1,m1,m2⟩:=HP.out.int 49 U U;obtain⟨p1,hp1⟩:=JK (In (f 49));rw[hp1] at e1 m1 m2;clear hp1;obtain⟨n49,hn,t49⟩: ∃n:Nat,p1%3=n/\n<=2:=⟨(p1%3).toNat,U,U⟩;have HN:=J hn;clear hn;go_wp2_with fail;refine(cD p1 3 _ U U U U).mono ?_;rintro e wm ⟨rfl,rfl⟩;rw[HN.out];have AK:=J<|AH.out.Zb 49 48 (1+n48) (1+(n48:Int)) U U aU U;clear AH cO fO cS;generalize fZ _ ⟨w1.heap.size,48,Z⟩ (E I (1+(n48:Int)))=gA at*;clear e1 m1 m2 HN t48;obtain⟨cO,fO⟩:=Jf AK.out.out;obtain⟨cS,-⟩:=Jf AK.out.src;go_wp2_with fail;have RI:=J<|(AK.out.Zb 50 49 (1+n49) (1+(n49:Int)) U U aU U).skip 54 (fun i h1 h2=>EUT i h1 h2);clear AK cO fO cS;try simp only[show((3:Nat):Int)=3 from rfl]
       go_loopw[10] (fun y wr=> ∃(i:Nat) (q:Nat->Y),y=E I i/\1<=i/\i<=4/\Oy w f w1.heap.size 3 54 q wr) (fun y _=>4-(In y).toNat);case atStart=>exact⟨1,_,O,U,U,RI.out⟩
       case round=>
        clear RI;obtain⟨i,q,rfl,hi1,hi4,hs⟩:=hrel;obtain⟨cO,fO⟩:=Jf hs.out;obtain⟨cS,-⟩:=Jf hs.src;have HS:=J hs;clear hs;by_cases hlt:i<4;·have hlt':50+i<56:=U;obtain⟨e1,m1,m2⟩:=HP.out.int (50+i) hlt' U;obtain⟨p1,hp1⟩:=JK (In (f (50+i)));rw[hp1] at e1 m1 m2;clear hp1;obtain⟨n,hn,hn2⟩: ∃n:Nat,p1%1001=n/\n<=1000:=⟨(p1%1001).toNat,U,U⟩;have js:=J<|HS.out.Zb 54 (50+i) n n O U (EUY _ _ U U hn2) U;have HN:=J hn;clear hn;go_wp2_with fail;refine(cD p1 1001 _ U U U U).mono ?_;rintro e wm ⟨rfl,rfl⟩;rw[HN.out];go_wp2_with fail;exact⟨⟨i+1,_,by go_num,U,U,js.out⟩,Jb⟩
        ·obtain⟨e1,m1,m2⟩:=HP.out.int 54 U U;obtain⟨p1,hp1⟩:=JK (In (f 54));rw[hp1] at e1 m1 m2;clear hp1;obtain⟨n54,hn,t54⟩: ∃n:Nat,p1%1000=n/\n<=999:=⟨(p1%1000).toNat,U,U⟩;have HN:=J hn;clear hn;go_wp2_with fail;refine(cD p1 1000 _ U U U U).mono ?_;rintro e wm ⟨rfl,rfl⟩;rw[HN.out];clear hlt e1 m1 m2 HN;obtain⟨e1,m1,m2⟩:=HP.out.int 55 U U;obtain⟨p1,hp1⟩:=JK (In (f 55));rw[hp1] at e1 m1 m2;clear hp1;obtain⟨n55,hn,t55⟩: ∃n:Nat,p1%65536=n/\n<=65535:=⟨(p1%65536).toNat,U,U⟩;have RU:=J<|(HS.out.Zb 55 54 (1+n54) (1+(n54:Int)) U U aU U).Zb 56 55 n55 (p1%65536) hn U aU U;clear hn;go_wp2_with (with_reducible refine JE 170 ?_);apply Es;clear HS cO fO cS;generalize fZ _ ⟨w1.heap.size,55,Z⟩ (E I (p1%65536))=xx at*;obtain⟨qq,HQ⟩: ∃qq,Ed (Oy w f w1.heap.size 3 56 qq xx):=⟨_,RU⟩;clear RU;refine wpList_load_row ?g1 28 (.tmp 3) ?g2 w1.heap.size ?g3 28 (EL 56 qq) (0,0) _ ?h1 Tryz.underlying28 ?h3 ?h4 ?_;case g1=>rfl
         case g2=>rfl
         case g3=>rfl
         case h1=>exact HQ.out.out
         case h3=>rfl
         case h4=>rw[Av,pw]
         obtain⟨r,hr⟩:=HQ.out.res;have HR:=J hr;clear hr;go_wp2_with ((with_reducible show Ib _ _ _ (⟨Z,.store _ (.tmp 2) (.tmp 170),_,_,_,_⟩::_) _ _);refine Ex.mk ?_);apply Es;refine wpList_store_row ?g1 28 (.tmp 2) (.tmp 170) ?g2 (w.heap.size+1) (EL 56 qq) ?h1 ?h2 28 (EL 56 r) ?h3 ?h4 ?h5 ?h6 ?_;case g1=>rfl
         case g2=>rfl
         case h1=>rfl
         case h2=>rfl
         case h3=>exact HR.out
         case h4=>rw[Av,pw]
         case h5=>rw[pw,pw]
         case h6=>exact Q9 HQ.out.one
         go_wp2_with fail;refine ET (v:=Ea (EL 56 qq)) ?_ O ⟨⟨qq,O,HQ.out.done⟩,EY HQ.out.bel U _⟩;exact results_cell_row O _ _ (w.heap.size+1) 28 (EL 56 qq) (0,0) _ O (setRow_heap _ _ _ _ _ _ HR.out) Tryz.underlying28 O (by rw[Av,pw])
theorem EU5(W:M)(h e o oa om la lm:Int)(b:Bool)(g3:Nat)(KT:H W g3 #[E I h,E I e,E I o,E I oa,E I om,E I la,E I lm,Ec b] 109)(g7:Nat)(s:Int)(K7:H W g7 #[E I s] 3): Eg EZ 221 #[V (D ⟨g7,0,Z⟩),V (D ⟨g3,0,Z⟩)] W fun x w'=>x=Ei (Ec (decide (s≠h)))/\El W w':=by
 have An:g3<W.heap.size:=H.lt KT;have Ap:W.cell? ⟨g3,0,Z⟩=D (E I h):=(H.cell KT 0).trans O;have c31:W.cell? ⟨g3,1,Z⟩=D (E I e):=(H.cell KT 1).trans O;have c32:W.cell? ⟨g3,2,Z⟩=D (E I o):=(H.cell KT 2).trans O;have Aq:W.cell? ⟨g3,3,Z⟩=D (E I oa):=(H.cell KT 3).trans O;have c34:W.cell? ⟨g3,4,Z⟩=D (E I om):=(H.cell KT 4).trans O;have Ar:W.cell? ⟨g3,5,Z⟩=D (E I la):=(H.cell KT 5).trans O;have As:W.cell? ⟨g3,6,Z⟩=D (E I lm):=(H.cell KT 6).trans O;have c37:W.cell? ⟨g3,7,Z⟩=D (Ec b):=(H.cell KT 7).trans O;have EU6:g7<W.heap.size:=H.lt K7;have ci7:W.cell? ⟨g7,0,Z⟩=D (E I s):=(H.cell K7 0).trans O;by_cases hx:s≠h;·rw[IJ hx];have d1:(s !=h)=EJ:=u5;clear KT K7 hx;go_enter Tryz.func221,Tryz.ntmps221;exact Enq
 ·rw[IZ hx];have d1:(s !=h)=EI:=by simpa using hx
  clear KT K7 hx;go_enter Tryz.func221,Tryz.ntmps221;exact Enq
theorem EU8(W:M)(h e o oa om la lm:Int)(b:Bool)(g3:Nat)(KT:H W g3 #[E I h,E I e,E I o,E I oa,E I om,E I la,E I lm,Ec b] 109): Eg EZ 222 #[V (D ⟨g3,0,Z⟩)] W fun x w'=>x=Ei (Ec (decide (65535<=e)))/\El W w':=by
 have An:g3<W.heap.size:=H.lt KT;have Ap:W.cell? ⟨g3,0,Z⟩=D (E I h):=(H.cell KT 0).trans O;have c31:W.cell? ⟨g3,1,Z⟩=D (E I e):=(H.cell KT 1).trans O;have c32:W.cell? ⟨g3,2,Z⟩=D (E I o):=(H.cell KT 2).trans O;have Aq:W.cell? ⟨g3,3,Z⟩=D (E I oa):=(H.cell KT 3).trans O;have c34:W.cell? ⟨g3,4,Z⟩=D (E I om):=(H.cell KT 4).trans O;have Ar:W.cell? ⟨g3,5,Z⟩=D (E I la):=(H.cell KT 5).trans O;have As:W.cell? ⟨g3,6,Z⟩=D (E I lm):=(H.cell KT 6).trans O;have c37:W.cell? ⟨g3,7,Z⟩=D (Ec b):=(H.cell KT 7).trans O;by_cases hx:65535<=e;·rw[IJ hx];have d1:decide (65535<=e)=EJ:=IJ hx;exact ErR
 ·rw[IZ hx];have d1:decide (65535<=e)=EI:=IZ hx;exact ErR
theorem EU9(W:M)(g8:Nat)(I1:Int)(K8:H W g8 #[E I I1] 3)(g7:Nat)(s:Int)(K7:H W g7 #[E I s] 3): Eg EZ 223 #[V (D ⟨g8,0,Z⟩),V (D ⟨g7,0,Z⟩)] W fun x w'=>x=Ei (Ec (decide (I1=s)))/\El W w':=by
 have EU_:g8<W.heap.size:=H.lt K8;have ci8:W.cell? ⟨g8,0,Z⟩=D (E I I1):=(H.cell K8 0).trans O;have EU6:g7<W.heap.size:=H.lt K7;have ci7:W.cell? ⟨g7,0,Z⟩=D (E I s):=(H.cell K7 0).trans O;by_cases hx:I1=s;·rw[IJ hx];have d1:(I1==s)=EJ:=u5;exact ErM
 ·rw[IZ hx];have d1:(I1==s)=EI:=beq_eq_false_iff_ne.2 hx;exact ErM
theorem EXI(W:M)(g8:Nat)(I1:Int)(K8:H W g8 #[E I I1] 3)(g9:Nat)(th:Bool)(K9:H W g9 #[Ec th] 4): Eg EZ 224 #[V (D ⟨g8,0,Z⟩),V (D ⟨g9,0,Z⟩)] W fun x w'=>x=Ei (Ec (decide (I1<1\/3<I1\/th=EI)))/\El W w':=by
 have EU_:g8<W.heap.size:=H.lt K8;have ci8:W.cell? ⟨g8,0,Z⟩=D (E I I1):=(H.cell K8 0).trans O;have ElH:g9<W.heap.size:=H.lt K9;have ci9:W.cell? ⟨g9,0,Z⟩=D (Ec th):=(H.cell K9 0).trans O;by_cases h1:I1<1;·rw[IJ (.inl h1)];have d1:decide (I1<1)=EJ:=IJ h1;clear K8 K9 h1;go_enter Tryz.func224,Tryz.ntmps224;exact Enq
 have d1:decide (I1<1)=EI:=IZ h1;by_cases h2:3<I1;·rw[IJ (.inr (.inl h2))];have d2:decide (3<I1)=EJ:=IJ h2;clear K8 K9 h1 h2;go_enter Tryz.func224,Tryz.ntmps224;exact Enq
 have d2:decide (3<I1)=EI:=IZ h2;cases th with
 |false=> rw[IJ (.inr (.inr O))];clear K8 K9 h1 h2;go_enter Tryz.func224,Tryz.ntmps224;go_wp2;go_ret;exact⟨O,by(repeat (first|exact IU _ _|(refine J6 ?_ IF _)|(refine J7 ?_ IF _)))⟩
 |true=> rw[IZ I8];clear K8 K9 h1 h2;go_enter Tryz.func224,Tryz.ntmps224;go_wp2;go_ret;exact⟨O,by(repeat (first|exact IU _ _|(refine J6 ?_ IF _)|(refine J7 ?_ IF _)))⟩
theorem EXJ(W:M)(h e o oa om la lm:Int)(b:Bool)(g3:Nat)(KT:H W g3 #[E I h,E I e,E I o,E I oa,E I om,E I la,E I lm,Ec b] 109): Eg EZ 225 #[V (D ⟨g3,0,Z⟩)] W fun x w'=>x=Ei (Ec (decide (0<=o)))/\El W w':=by
 have An:g3<W.heap.size:=H.lt KT;have Ap:W.cell? ⟨g3,0,Z⟩=D (E I h):=(H.cell KT 0).trans O;have c31:W.cell? ⟨g3,1,Z⟩=D (E I e):=(H.cell KT 1).trans O;have c32:W.cell? ⟨g3,2,Z⟩=D (E I o):=(H.cell KT 2).trans O;have Aq:W.cell? ⟨g3,3,Z⟩=D (E I oa):=(H.cell KT 3).trans O;have c34:W.cell? ⟨g3,4,Z⟩=D (E I om):=(H.cell KT 4).trans O;have Ar:W.cell? ⟨g3,5,Z⟩=D (E I la):=(H.cell KT 5).trans O;have As:W.cell? ⟨g3,6,Z⟩=D (E I lm):=(H.cell KT 6).trans O;have c37:W.cell? ⟨g3,7,Z⟩=D (Ec b):=(H.cell KT 7).trans O;by_cases hx:0<=o;·rw[IJ hx];have d1:decide (0<=o)=EJ:=IJ hx;exact ErQ
 ·rw[IZ hx];have d1:decide (0<=o)=EI:=IZ hx;exact ErQ
theorem EXO(f:Nat->Y)(t:EN)(s I1 po:Int)(th:Bool)(w:M)(hp:f 44=E I po): Eg EZ 178 #[Ea (EL 56 f),t.a,E I s,E I I1,Ec th] w fun x w'=>x=Ei (Eu #[(t.make po s I1 th).1.a,E I (t.make po s I1 th).2])/\El w w':=by
 have HE:Ed (t.make po s I1 th=if s≠t.h then(t,20) else if 65535<=t.e then(t,24) else if I1=s then(t,25) else if I1<1\/3<I1\/th=EI then(t,2) else if 0<=t.o then(t,28) else({t with o:=I1,oa:=0,om:=max po 0},0)):=J O;have CS:=J<|fun W=>zN po W;generalize max po 0=mp at*;have HP:=J hp;clear hp;unfold EN.a at*;obtain⟨h,e,o,oa,om,la,lm,b⟩:=t;simp only at*;unfold Uc at*;go_enter Tryz.func178,Tryz.ntmps178;go_wp2_with fail;generalize hW:Xo _ _=W at*;have K0:Ed (H W (w.heap.size) (EL 56 f) 28):=J (by subst hW;repeat (first|exact H.new _ _ _|exact H.new' _ _ _ Ej|refine H.alloc ?_ _));have K1:Ed (H W (w.heap.size+1) #[E I h,E I e,E I o,E I oa,E I om,E I la,E I lm,Ec b] 109):=J (by subst hW;repeat (first|exact H.new _ _ _|exact H.new' _ _ _ Ej|refine H.alloc ?_ _));have K2:Ed (H W (w.heap.size+1+1) #[E I s] 3):=J (by subst hW;repeat (first|exact H.new _ _ _|exact H.new' _ _ _ Ej|refine H.alloc ?_ _));have K3:Ed (H W (w.heap.size+1+1+1) #[E I I1] 3):=J (by subst hW;repeat (first|exact H.new _ _ _|exact H.new' _ _ _ Ej|refine H.alloc ?_ _));have K4:Ed (H W (w.heap.size+1+1+1+1) #[Ec th] 4):=J (by subst hW;repeat (first|exact H.new _ _ _|exact H.new' _ _ _ Ej|refine H.alloc ?_ _));have K5:Ed (H W (w.heap.size+1+1+1+1+1) #[E I 0,E I 0,E I 0,E I 0,E I 0,E I 0,E I 0,Ec EI] 109):=J (by subst hW;repeat (first|exact H.new _ _ _|exact H.new' _ _ _ Ej|refine H.alloc ?_ _));have K6:Ed (H W (w.heap.size+1+1+1+1+1+1) #[E I 20,.func (.func 221) #[] #[V (D ⟨w.heap.size+1+1,0,Z⟩),V (D ⟨w.heap.size+1,0,Z⟩)],E I 24,.func (.func 222) #[] #[V (D ⟨w.heap.size+1,0,Z⟩)],E I 25,.func (.func 223) #[] #[V (D ⟨w.heap.size+1+1+1,0,Z⟩),V (D ⟨w.heap.size+1+1,0,Z⟩)],E I 2,.func (.func 224) #[] #[V (D ⟨w.heap.size+1+1+1,0,Z⟩),V (D ⟨w.heap.size+1+1+1+1,0,Z⟩)],E I 28,.func (.func 225) #[] #[V (D ⟨w.heap.size+1,0,Z⟩)]] 317):=J (by subst hW;repeat (first|exact H.new _ _ _|exact H.new' _ _ _ Ej|refine H.alloc ?_ _));have u:Ed (El w W):=J (by subst hW;(repeat (first|exact IU _ _|(refine J6 ?_ IF _)|(refine J7 ?_ IF _))));clear hW
 have CF:=Q5 [⟨20,221,#[V (D ⟨w.heap.size+1+1,0,Z⟩),V (D ⟨w.heap.size+1,0,Z⟩)],decide (s≠h)⟩,⟨24,222,#[V (D ⟨w.heap.size+1,0,Z⟩)],decide (65535<=e)⟩,⟨25,223,#[V (D ⟨w.heap.size+1+1+1,0,Z⟩),V (D ⟨w.heap.size+1+1,0,Z⟩)],decide (I1=s)⟩,⟨2,224,#[V (D ⟨w.heap.size+1+1+1,0,Z⟩),V (D ⟨w.heap.size+1+1+1+1,0,Z⟩)],decide (I1<1\/3<I1\/th=EI)⟩,⟨28,225,#[V (D ⟨w.heap.size+1,0,Z⟩)],decide (0<=o)⟩] (w.heap.size+1+1+1+1+1+1) 5 W O U K6.out (by
  intro c hc;simp only[UJ,Um,or_false] at hc;rcases hc with rfl|rfl|rfl|rfl|rfl;·exact⟨fun _ _=>Ef,fun W2 hW2=>EU5 W2 h e o oa om la lm b _ (K1.out.B hW2) _ s (K2.out.B hW2)⟩
  ·exact⟨fun _ _=>Ef,fun W2 hW2=>EU8 W2 h e o oa om la lm b _ (K1.out.B hW2)⟩
  ·exact⟨fun _ _=>Ef,fun W2 hW2=>EU9 W2 _ I1 (K3.out.B hW2) _ s (K2.out.B hW2)⟩
  ·exact⟨fun _ _=>Ef,fun W2 hW2=>EXI W2 _ I1 (K3.out.B hW2) _ th (K4.out.B hW2)⟩
  ·exact⟨fun _ _=>Ef,fun W2 hW2=>EXJ W2 h e o oa om la lm b _ (K1.out.B hW2)⟩)
 simp only[jq,decide_eq_true_eq] at CF;replace CF:=J CF;clear K6 K2 K4;by_cases h0:s≠h;·rw[if_pos h0] at CF HE;exact Enm
 rw[if_neg h0] at CF HE;by_cases h1:65535<=e;·rw[if_pos h1] at CF HE;exact Enm
 rw[if_neg h1] at CF HE;by_cases h2:I1=s;·rw[if_pos h2] at CF HE;exact Enm
 rw[if_neg h2] at CF HE;by_cases h3:I1<1\/3<I1\/th=EI;·rw[if_pos h3] at CF HE;exact Enm
 rw[if_neg h3] at CF HE;by_cases h4:0<=o;·rw[if_pos h4] at CF HE;exact Enm
 rw[if_neg h4] at CF HE;refine CF.out.mono ?_;rintro x W2 ⟨rfl,b2⟩;replace K0:=J<|K0.out.B b2;replace K1:=J<|K1.out.B b2;replace K3:=J<|K3.out.B b2;replace K5:=J<|K5.out.B b2;replace u:=EV u b2;clear b2 CF h0 h1 h2 h3 h4;go_wp2_with fail;have c3: ∀y:Ext W2,(EC W2 y).cell? ⟨w.heap.size+1+1+1,0,Z⟩=D (E I I1):=fun y=>((K3.out.B (EQ y)).cell 0).trans O;have c0: ∀y:Ext W2,(EC W2 y).cell? ⟨w.heap.size,44,Z⟩=D (E I po):=fun y=>((K0.out.B (EQ y)).cell 44).trans (by rw[fp,if_pos U,HP.out]);refine Oa 5 Ef Ef ?_;simp only[Is,Iq,IT,IM];repeat (go_big_quiet_step (with_reducible refine ao (CS.out _)))
 refine I5 ?_;intro _ hw';obtain⟨y9,rfl⟩:=hw';have En:=EQ y9;replace K1:=J<|K1.out.B En;replace K5:=J<|K5.out.B En;replace u:=EV u En;clear c3 c0 K0 K3 CS;generalize EC W2 y9=W3 at*;have a2:W3.cell? ⟨w.heap.size+1,2,Z⟩=D (E I o):=(K1.out.cell 2).trans O;have a3:W3.cell? ⟨w.heap.size+1,3,Z⟩=D (E I oa):=(K1.out.cell 3).trans O;have a4:W3.cell? ⟨w.heap.size+1,4,Z⟩=D (E I om):=(K1.out.cell 4).trans O;have f2:W3.frozen? ⟨w.heap.size+1,2,Z⟩=EI:=K1.out.JZ _;have f3:W3.frozen? ⟨w.heap.size+1,3,Z⟩=EI:=K1.out.JZ _;have f4:W3.frozen? ⟨w.heap.size+1,4,Z⟩=EI:=K1.out.JZ _;obtain⟨W4,u6⟩: ∃W4,W4=((W3.setCell ⟨w.heap.size+1,2,Z⟩ (E I I1)).setCell ⟨w.heap.size+1,3,Z⟩ (E I 0)).setCell ⟨w.heap.size+1,4,Z⟩ (E I mp):=⟨_,O⟩;have RZ:Ed (H W4 (w.heap.size+1) #[E I h,E I e,E I I1,E I 0,E I mp,E I la,E I lm,Ec b] 109):=J (by subst u6;have:=((K1.out.set 2 (E I I1)).set 3 (E I 0)).set 4 (E I mp);simpa using this);have k_:Ed (H W4 (w.heap.size+1+1+1+1+1) #[E I 0,E I 0,E I 0,E I 0,E I 0,E I 0,E I 0,Ec EI] 109):=J (by subst u6;exact((K5.out.other _ 2 _ U).other _ 3 _ U).other _ 4 _ U);have Ra:Ed (El w W4):=J (by subst u6;exact((u.out.setCell (p:=⟨w.heap.size+1,2,Z⟩) Ej _).setCell (p:=⟨w.heap.size+1,3,Z⟩) Ej _).setCell (p:=⟨w.heap.size+1,4,Z⟩) Ej _);rw[u6] at RZ k_ Ra;clear K1 K5 u u6 En;go_wp2_with (with_reducible first|refine wL EW RZ ?_|refine wS (cs:= #[E I h,E I e,E I I1,E I 0,E I mp,E I la,E I lm,Ec b]) EW k_ ?_ (h1:=U9));refine ET (UD EW O _ _ (w.heap.size+1+1+1+1+1) _ _ O O (k_.out.setRow _) O) O ⟨?_,EY (g:=w.heap.size+1+1+1+1+1) Ra.out U _⟩;exact Eri
theorem u7(K:Iv W g T)(h:T.ok)(i j:Nat)(hj:j<39):W.cell? ⟨g,so i+j,Z⟩=(T.E4 i).v[j]?:=by unfold Iv at K;rw[T.sg i] at K;exact cI K (EK.pi h i) j (by rw[JF.Zl (h.E4 i).len];exact hj)
theorem AM(K:Iv W g T)(h:T.ok):W.cell? ⟨g,120,Z⟩=D (E I T.Iu)/\W.cell? ⟨g,121,Z⟩=D (E I T.most):=by
 have e:T.v=(T.hd++T.s0.v++T.s1.v++T.s2.v)++(T.tl++[]):=by simp[EK.v]
 unfold Iv at K;rw[e] at K;have hl:(T.hd++T.s0.v++T.s1.v++T.s2.v).length=120:=by simp[EK.hd,JF.Zl h.s0.len,JF.Zl h.s1.len,JF.Zl h.s2.len]
 exact⟨cI K hl 0 (by simp[EK.tl]),cI K hl 1 (by simp[EK.tl])⟩
theorem EXU(K:Iv W g T):W.cell? ⟨g,0,Z⟩=D (Ec T.ZW):=by unfold Iv at K;rw[K.cell 0,J2];rfl
theorem sD(_:Iv W g T)(h:T.ok):T.v.toArray.size=122:=by simp[EK.v,EK.hd,EK.tl,JF.Zl h.s0.len,JF.Zl h.s1.len,JF.Zl h.s2.len]
theorem Iv.B(K:Iv W g T)(hb:El W w'):Iv w' g T:=H.B K hb
def EK.of(T:EK)(g:Nat)(src:Int):Y:=
 if src=1\/src=2\/src=3 then(if(T.E4 (src-1).toNat).on then V (D ⟨g,so (src-1).toNat,Z⟩) else V Z) else V Z
theorem EXX(g:Nat)(src:Int)(w:M)(h:src<1\/3<src): Eg EZ 76 #[V (D ⟨g,0,Z⟩),E I src] w fun e w'=>e=Ei (V Z)/\w=w':=by
 by_cases h1:src<1;·have d1:decide (src<1)=EJ:=IJ h1;exact Erp
 ·have d1:decide (src<1)=EI:=IZ h1;have d2:decide (3<src)=EJ:=IJ U;clear h;exact Erp
theorem EXZ(g:Nat)(w:M)(c:w.cell? ⟨g,3,Z⟩=D (Ec EJ)): Eg EZ 76 #[V (D ⟨g,0,Z⟩),E I 1] w fun e w'=>e=Ei (V (D ⟨g,3,Z⟩))/\w=w':=by exact Erp
theorem EXa(g:Nat)(w:M)(c:w.cell? ⟨g,3,Z⟩=D (Ec EI)): Eg EZ 76 #[V (D ⟨g,0,Z⟩),E I 1] w fun e w'=>e=Ei (V Z)/\w=w':=by exact Erp
theorem EXb(g:Nat)(w:M)(c:w.cell? ⟨g,42,Z⟩=D (Ec EJ)): Eg EZ 76 #[V (D ⟨g,0,Z⟩),E I 2] w fun e w'=>e=Ei (V (D ⟨g,42,Z⟩))/\w=w':=by exact Erp
theorem EXc(g:Nat)(w:M)(c:w.cell? ⟨g,42,Z⟩=D (Ec EI)): Eg EZ 76 #[V (D ⟨g,0,Z⟩),E I 2] w fun e w'=>e=Ei (V Z)/\w=w':=by exact Erp
theorem EXd(g:Nat)(w:M)(c:w.cell? ⟨g,81,Z⟩=D (Ec EJ)): Eg EZ 76 #[V (D ⟨g,0,Z⟩),E I 3] w fun e w'=>e=Ei (V (D ⟨g,81,Z⟩))/\w=w':=by exact Erp
theorem EXf(g:Nat)(w:M)(c:w.cell? ⟨g,81,Z⟩=D (Ec EI)): Eg EZ 76 #[V (D ⟨g,0,Z⟩),E I 3] w fun e w'=>e=Ei (V Z)/\w=w':=by exact Erp
theorem u9(g:Nat)(T:EK)(src:Int)(w:M)(K:Iv w g T)(h:T.ok): Eg EZ 76 #[V (D ⟨g,0,Z⟩),E I src] w fun e w'=>e=Ei (T.of g src)/\w=w':=by
 unfold EK.of;by_cases hs:src=1\/src=2\/src=3
 ·rw[if_pos hs];have c:=u7 K h (src-1).toNat 0 U;rcases hs with rfl|rfl|rfl
  ·replace c:w.cell? ⟨g,3,Z⟩=D (Ec (T.E4 0).on):=c;show Eg _ _ _ _ fun e w'=>e=Ei (if(T.E4 0).on then V (D ⟨g,3,Z⟩) else V Z)/\w=w'
   cases hb:(T.E4 0).on with
   |true=>rw[hb] at c;exact EXZ g w c
   |false=>rw[hb] at c;exact EXa g w c
  ·replace c:w.cell? ⟨g,42,Z⟩=D (Ec (T.E4 1).on):=c;show Eg _ _ _ _ fun e w'=>e=Ei (if(T.E4 1).on then V (D ⟨g,42,Z⟩) else V Z)/\w=w'
   cases hb:(T.E4 1).on with
   |true=>rw[hb] at c;exact EXb g w c
   |false=>rw[hb] at c;exact EXc g w c
  ·replace c:w.cell? ⟨g,81,Z⟩=D (Ec (T.E4 2).on):=c;show Eg _ _ _ _ fun e w'=>e=Ei (if(T.E4 2).on then V (D ⟨g,81,Z⟩) else V Z)/\w=w'
   cases hb:(T.E4 2).on with
   |true=>rw[hb] at c;exact EXd g w c
   |false=>rw[hb] at c;exact EXf g w c
 ·rw[if_neg hs];exact EXX g src w U
def EK.XN(T:EK)(src:Int):Bool:=if src=4 then EJ else if src=0 then T.ZW else if src=1\/src=2\/src=3 then(T.E4 (src-1).toNat).on else EI
def EK.cL(T:EK)(src:Int):Int:=if src=1\/src=2\/src=3 then(if(T.E4 (src-1).toNat).on then(T.E4 (src-1).toNat).r else 0) else 0
def EK.IC(T:EK):Int:=(if T.s0.on then 1 else 0)+(if T.s1.on then 1 else 0)+(if T.s2.on then 1 else 0)
theorem AN(T:EK)(g:Nat)(src:Int):(T.of g src=V Z/\(src≠4->src≠0->T.XN src=EI)/\T.cL src=0)\/(∃i:Nat,i<3/\src=(i:Int)+1/\(T.E4 i).on=EJ/\T.of g src=V (D ⟨g,so i,Z⟩)/\T.XN src=EJ/\T.cL src=(T.E4 i).r):=by
 unfold EK.of EK.XN EK.cL;by_cases hs:src=1\/src=2\/src=3
 ·obtain⟨i,hi,e⟩: ∃i:Nat,i<3/\src=(i:Int)+1:=⟨(src-1).toNat,U,U⟩;have e2:(src-1).toNat=i:=U;simp only[if_pos hs,e2];rw[if_neg (show src≠4 from U),if_neg (show src≠0 from U)];cases hb:(T.E4 i).on with
  |true=>exact .inr ⟨i,hi,e,hb,O,O,O⟩
  |false=>exact .inl ⟨O,fun _ _=>rfl,O⟩
 ·simp only[if_neg hs];exact .inl ⟨trivial,fun h4 h0=>by rw[if_neg h4,if_neg h0],trivial⟩
theorem ny(g:Nat)(T:EK)(src:Int)(w:M)(K:Iv w g T)(h:T.ok): Eg EZ 55 #[V (D ⟨g,0,Z⟩),E I src] w fun e w'=>e=Ei (Ec (T.XN src))/\w=w':=by
 by_cases h4:src=4
 ·subst h4;show Eg _ _ _ _ fun e w'=>e=Ei (Ec EJ)/\w=w'
  clear K h;go_enter Tryz.func55,Tryz.ntmps55;exact Enu
 by_cases h0:src=0
 ·subst h0;show Eg _ _ _ _ fun e w'=>e=Ei (Ec T.ZW)/\w=w'
  have c:=EXU K;generalize T.ZW=b at*;clear K h h4;go_enter Tryz.func55,Tryz.ntmps55;exact Enu
 ·have e4:(src==4)=EI:=beq_eq_false_iff_ne.2 h4;have e0:(src==0)=EI:=beq_eq_false_iff_ne.2 h0;have CO:=J<|u9 g T src w K h;rcases AN T g src with⟨e1,e2,-⟩|⟨i,hi,-,-,e1,e2,-⟩;·rw[e1] at CO;rw[e2 h4 h0];clear e1 e2 K h h4 h0;go_enter Tryz.func55,Tryz.ntmps55;go_wp2_with fail;refine(CO.out).mono ?_;rintro e w' ⟨rfl,rfl⟩;go_wp2;go_ret;exact⟨O,O⟩
  ·rw[e1] at CO;rw[e2];generalize so i=o at*;clear e1 e2 K h h4 h0;go_enter Tryz.func55,Tryz.ntmps55;exact Eru
theorem sF(g:Nat)(T:EK)(src:Int)(w:M)(K:Iv w g T)(h:T.ok): Eg EZ 56 #[V (D ⟨g,0,Z⟩),E I src] w fun e w'=>e=Ei (E I (T.cL src))/\w=w':=by
 have CO:=J<|u9 g T src w K h;rcases AN T g src with⟨e1,-,e2⟩|⟨i,hi,-,-,e1,-,e2⟩;·rw[e1] at CO;rw[e2];exact ErV
 ·rw[e1] at CO;rw[e2];have c:w.cell? ⟨g,so i+3,Z⟩=D (E I (T.E4 i).r):=u7 K h i 3 U;generalize so i=o at*;generalize (T.E4 i).r=r at*;exact ErV
theorem EXg(g:Nat)(w:M)(c0:w.cell? ⟨g,3,Z⟩=D (Ec EJ))(c1:w.cell? ⟨g,42,Z⟩=D (Ec EJ))(c2:w.cell? ⟨g,81,Z⟩=D (Ec EJ)): Eg EZ 170 #[V (D ⟨g,0,Z⟩)] w fun e w'=>e=Ei (E I 3)/\w=w':=by exact Enr
theorem EXh(g:Nat)(w:M)(c0:w.cell? ⟨g,3,Z⟩=D (Ec EJ))(c1:w.cell? ⟨g,42,Z⟩=D (Ec EJ))(c2:w.cell? ⟨g,81,Z⟩=D (Ec EI)): Eg EZ 170 #[V (D ⟨g,0,Z⟩)] w fun e w'=>e=Ei (E I 2)/\w=w':=by exact Enr
theorem EXi(g:Nat)(w:M)(c0:w.cell? ⟨g,3,Z⟩=D (Ec EJ))(c1:w.cell? ⟨g,42,Z⟩=D (Ec EI))(c2:w.cell? ⟨g,81,Z⟩=D (Ec EJ)): Eg EZ 170 #[V (D ⟨g,0,Z⟩)] w fun e w'=>e=Ei (E I 2)/\w=w':=by exact Enr
theorem EXj(g:Nat)(w:M)(c0:w.cell? ⟨g,3,Z⟩=D (Ec EJ))(c1:w.cell? ⟨g,42,Z⟩=D (Ec EI))(c2:w.cell? ⟨g,81,Z⟩=D (Ec EI)): Eg EZ 170 #[V (D ⟨g,0,Z⟩)] w fun e w'=>e=Ei (E I 1)/\w=w':=by exact Enr
theorem EXk(g:Nat)(w:M)(c0:w.cell? ⟨g,3,Z⟩=D (Ec EI))(c1:w.cell? ⟨g,42,Z⟩=D (Ec EJ))(c2:w.cell? ⟨g,81,Z⟩=D (Ec EJ)): Eg EZ 170 #[V (D ⟨g,0,Z⟩)] w fun e w'=>e=Ei (E I 2)/\w=w':=by exact Enr
theorem EXl(g:Nat)(w:M)(c0:w.cell? ⟨g,3,Z⟩=D (Ec EI))(c1:w.cell? ⟨g,42,Z⟩=D (Ec EJ))(c2:w.cell? ⟨g,81,Z⟩=D (Ec EI)): Eg EZ 170 #[V (D ⟨g,0,Z⟩)] w fun e w'=>e=Ei (E I 1)/\w=w':=by exact Enr
theorem EXm(g:Nat)(w:M)(c0:w.cell? ⟨g,3,Z⟩=D (Ec EI))(c1:w.cell? ⟨g,42,Z⟩=D (Ec EI))(c2:w.cell? ⟨g,81,Z⟩=D (Ec EJ)): Eg EZ 170 #[V (D ⟨g,0,Z⟩)] w fun e w'=>e=Ei (E I 1)/\w=w':=by exact Enr
theorem EXn(g:Nat)(w:M)(c0:w.cell? ⟨g,3,Z⟩=D (Ec EI))(c1:w.cell? ⟨g,42,Z⟩=D (Ec EI))(c2:w.cell? ⟨g,81,Z⟩=D (Ec EI)): Eg EZ 170 #[V (D ⟨g,0,Z⟩)] w fun e w'=>e=Ei (E I 0)/\w=w':=by exact Enr
theorem Rb(g:Nat)(T:EK)(w:M)(K:Iv w g T)(h:T.ok):Eg EZ 170 #[V (D ⟨g,0,Z⟩)] w fun e w'=>e=Ei (E I T.IC)/\w=w':=by
 have c0:w.cell? ⟨g,3,Z⟩=D (Ec T.s0.on):=u7 K h 0 0 U;have c1:w.cell? ⟨g,42,Z⟩=D (Ec T.s1.on):=u7 K h 1 0 U;have c2:w.cell? ⟨g,81,Z⟩=D (Ec T.s2.on):=u7 K h 2 0 U;unfold EK.IC;cases h0:T.s0.on<;>cases h1:T.s1.on<;>cases h2:T.s2.on<;>rw[h0] at c0<;>rw[h1] at c1<;>rw[h2] at c2;·exact EXn g w c0 c1 c2
 ·exact EXm g w c0 c1 c2
 ·exact EXl g w c0 c1 c2
 ·exact EXk g w c0 c1 c2
 ·exact EXj g w c0 c1 c2
 ·exact EXi g w c0 c1 c2
 ·exact EXh g w c0 c1 c2
 ·exact EXg g w c0 c1 c2
theorem u_:IL EZ 160 39:=⟨⟨_,Tryz.underlying160,O⟩,Ef⟩
theorem Rc:Tryz.prog.built 160 []=D U6.v.toArray:=Ef
theorem sG(s:JF):s.v.toArray.all (·.oneCell')=EJ:=by
 refine all_oneCell_toArray fun v hv=> ?_;simp only[JF.v,OV,Xp,UJ,Um,or_false,dw] at hv;rcases hv with(rfl|rfl|rfl)|rfl|⟨x,-,rfl⟩|hv;·rfl
 ·rfl
 ·rfl
 ·rfl
 ·rfl
 ·rcases hw:s.win with _|⟨h,q⟩<;>rw[hw] at hv<;>simp only[Ui,UJ,Um,or_false] at hv<;>rcases hv with rfl|rfl|rfl<;>rfl
theorem AQ(K:Iv W g T)(h:T.ok)(i:Nat)(s:JF)(hs:s.key.length=32):Iv (W.setCells g (so i) s.v) g (T.put i s):=by unfold Iv at*;rw[T.sg i] at K;rw[T.uL i s];exact Zm s.v (T.E4 i).v (T.pre i) (so i) W K (by rw[JF.Zl hs,JF.Zl (h.E4 i).len]) (EK.pi h i)
theorem HU(i:Nat):so i<=81:=by unfold so;split<;>omega
def vE(T:EK)(g:Nat)(src:Int)(w:M)(e:Ud)(w':M):Prop:=(if src=1\/src=2\/src=3 then(if(T.E4 (src-1).toNat).on then e=Ei (Ec EJ)/\Iv w' g (T.put (src-1).toNat U6) else e=Ei (Ec EI)/\Iv w' g T) else e=Ei (Ec EI)/\Iv w' g T)/\E7 g w w'
theorem EXo(g:Nat)(T:EK)(src:Int)(w:M)(K:Iv w g T)(h:T.ok):Eg EZ 176 #[V (D ⟨g,0,Z⟩),E I src] w (vE T g src w):=by
 have CO:=J<|u9 g T src w K h;rcases AN T g src with⟨e1,e2,-⟩|⟨i,hi,es,hon,e1,-,-⟩
 ·have hf: ¬((src=1\/src=2\/src=3)/\(T.E4 (src-1).toNat).on=EJ):=by rintro⟨hs,ho⟩;have:=e2 U U;unfold EK.XN at this;rw[if_neg U,if_neg U,if_pos hs,ho] at this;cases this
  have hpost: ∀(e:Ud) (w':M),e=Ei (Ec EI)->w=w'->vE T g src w e w':=by
   intro e w' he hw;subst hw;refine⟨?_,E7.refl _ _⟩;by_cases hs:src=1\/src=2\/src=3;·rw[if_pos hs,if_neg (fun ho=>hf ⟨hs,ho⟩)];exact⟨he,K⟩
   ·rw[if_neg hs];exact⟨he,K⟩
  replace hpost:=J hpost;rw[e1] at CO;clear e1 e2 K h hf;go_enter Tryz.func176,Tryz.ntmps176;go_wp2_with fail;refine(CO.out).mono ?_;rintro e w' ⟨rfl,rfl⟩;go_wp2;go_ret;exact hpost.out _ _ O O
 ·have e2:(src-1).toNat=i:=U;have hs:src=1\/src=2\/src=3:=U;have hpost:Ed (∀(e:Ud) (w':M),e=Ei (Ec EJ)->Iv w' g (T.put i U6)->E7 g w w'->vE T g src w e w'):=J (by intro e w' he hk ho;refine⟨?_,ho⟩;rw[if_pos hs,e2,if_pos hon];exact⟨he,hk⟩);have K2:=J<|AQ K h i U6 O;have ON:=J<|JP (g:=g) U6.v (so i) w;have TH:Ed (w.there g (so i) 39):=J<|bf K (by rw[sD K h];have:=HU i;omega);have BZ:=J Rc;have SZ:=J<|show U6.v.toArray.size=39 from JF.Zl O;have S1:=J<|sG U6;rw[e1] at CO;generalize so i=o at*;clear e1 e2 K h hs hon es;obtain⟨sv,hsv⟩:=Eo U6.v;rw[<-hsv] at K2 ON BZ SZ S1;clear hsv;go_enter Tryz.func176,Tryz.ntmps176;go_wp2_with fail;refine(CO.out).mono ?_;rintro e w' ⟨rfl,rfl⟩;go_wp2_with (first|((with_reducible refine Io 12 ?_);refine I4 rfl 160 _ rfl sv.toArray BZ.out ?_)|((with_reducible refine I3 160 ?_);(with_reducible refine Ux rfl 160 _ _ rfl g o sv.toArray ?_ ?_ ?_ ?_ ?_ ?_);(·rfl);(·rfl);(·rw[SZ.out];exact TH.out);(·rw[SZ.out];exact u_.2);(·exact S1.out)));go_ret;exact hpost.out _ _ O K2.out ON.out
theorem EXp(g:Nat)(T:EK)(w:M)(K:Iv w g T)(h:T.ok): Eg EZ 91 #[V (D ⟨g,0,Z⟩)] w fun e w'=>e=Ei (Eu #[])/\Iv w' g {T with ZW:=true,sa:=0,sm:=max T.Iu 0}/\E7 g w w':=by
 have c0: ∀y:Ext w,(EC w y).cell? ⟨g,120,Z⟩=D (E I T.Iu):=fun y=>(AM (K.B (EQ y)) h).1;have KK:Ed (H w g ([]++([Ec T.ZW,E I T.sa,E I T.sm]++(T.s0.v++(T.s1.v++(T.s2.v++T.tl))))).toArray 163):=J K;have CH:=J<|fun W (k:H W g ([]++([Ec T.ZW,E I T.sa,E I T.sm]++(T.s0.v++(T.s1.v++(T.s2.v++T.tl))))).toArray 163)=>zR g 0 [] _ _ _ _ 163 T.Iu W k O;have HP:Ed (∀w',H w' g ([]++(OV EJ 0 (max T.Iu 0)++(T.s0.v++(T.s1.v++(T.s2.v++T.tl))))).toArray 163->Iv w' g {T with ZW:=true,sa:=0,sm:=max T.Iu 0}):=J fun w' k=>k;generalize T.Iu=Iu at*;clear K h;go_enter Tryz.func91,Tryz.ntmps91;refine Oa 7 Ef Ef ?_;simp only[Is,Iq,IT,IM];repeat (go_big_quiet_step ((fail)))
 refine I5 ?_;intro _ hw';obtain⟨y9,rfl⟩:=hw';have En:=EQ y9;replace KK:=J<|KK.out.B En;clear c0;generalize EC w y9=w1 at*;go_wp2_with fail;refine(CH.out _ KK.out).mono ?_;rintro e w2 ⟨rfl,k2,o2⟩;go_wp2;go_end0;exact⟨O,HP.out _ k2,(E7.ED En).trans o2⟩
def rr(x:Int)(n:Nat):Int:=Ir .or .u32 (IntKind.u32.wrap (x*2^(32-n))) (x/2^n)
def Rd(x:Int):Int:=Ir .xor .u32 (Ir .xor .u32 (rr x 7) (rr x 18)) (x/2^3)
def Rf(y:Int):Int:=Ir .xor .u32 (Ir .xor .u32 (rr y 17) (rr y 19)) (y/2^10)
def S1(y:Int):Int:=Ir .xor .u32 (Ir .xor .u32 (rr y 6) (rr y 11)) (rr y 25)
def S0(x:Int):Int:=Ir .xor .u32 (Ir .xor .u32 (rr x 2) (rr x 13)) (rr x 22)
def cho(y f g:Int):Int:=Ir .or .u32 (Ir .and .u32 y f) (Ir .and .u32 (Ir .xor .u32 4294967295 y) g)
def maj(x b c:Int):Int:=Ir .or .u32 (Ir .or .u32 (Ir .and .u32 x b) (Ir .and .u32 x c)) (Ir .and .u32 b c)
def Ha(a b c d:Int):Int:=Ir .or .u32 (Ir .or .u32 (Ir .or .u32 (IntKind.u32.wrap (a*2^24)) (IntKind.u32.wrap (b*2^16))) (IntKind.u32.wrap (c*2^8))) d
def sH(l:List Int)(i:Nat):Int:=Ha (l.getD (4*i) 0) (l.getD (4*i+1) 0) (l.getD (4*i+2) 0) (l.getD (4*i+3) 0)
def nxt(p q x y:Int):Int:=(p+q+Rd x+Rf y)%4294967296
def pD(l:List Int)(i:Nat):Int:=nxt (l.getD (i-16) 0) (l.getD (i-7) 0) (l.getD (i-15) 0) (l.getD (i-2) 0)
def sched(b:List Int):Nat->List Int
 |0=>[]
 |i+1=>sched b i++[if i<16 then sH b i else pD (sched b i) i]
structure St where
 (a b c d e f g h:Int)
def St.cells(s:St):Array Y:= #[E Ok s.a,E Ok s.b,E Ok s.c,E Ok s.d,E Ok s.e,E Ok s.f,E Ok s.g,E Ok s.h]
def St.list(s:St):List Int:=[s.a,s.b,s.c,s.d,s.e,s.f,s.g,s.h]
def Rg(k w e f g h:Int):Int:=h+S1 e+cho e f g+k+w
def EXt(a b c:Int):Int:=S0 a+maj a b c
def Hb(k w:Int)(s:St):St:=
 ⟨(Rg k w s.e s.f s.g s.h+EXt s.a s.b s.c)%4294967296,s.a,s.b,s.c,(s.d+Rg k w s.e s.f s.g s.h)%4294967296,s.e,s.f,s.g⟩
def pF(ks ws:List Int)(s:St):Nat->St
 |0=>s
 |i+1=>Hb (ks.getD i 0) (ws.getD i 0) (pF ks ws s i)
def gB(n h:St):St:=
 ⟨(n.a+h.a)%4294967296,(n.b+h.b)%4294967296,(n.c+h.c)%4294967296,(n.d+h.d)%4294967296,(n.e+h.e)%4294967296,(n.f+h.f)%4294967296,(n.g+h.g)%4294967296,(n.h+h.h)%4294967296⟩
theorem EXu(n h:St)(i:Nat)(hi:i<8):(gB n h).list.getD i 0=(n.list.getD i 0+h.list.getD i 0)%4294967296:=by rcases(show i=0\/i=1\/i=2\/i=3\/i=4\/i=5\/i=6\/i=7 from U) with rfl|rfl|rfl|rfl|rfl|rfl|rfl|rfl<;>rfl
def lE:List Int:=[
 0x428a2f98,0x71374491,0xb5c0fbcf,0xe9b5dba5,0x3956c25b,0x59f111f1,0x923f82a4,0xab1c5ed5,
 0xd807aa98,0x12835b01,0x243185be,0x550c7dc3,0x72be5d74,0x80deb1fe,0x9bdc06a7,0xc19bf174,
 0xe49b69c1,0xefbe4786,0x0fc19dc6,0x240ca1cc,0x2de92c6f,0x4a7484aa,0x5cb0a9dc,0x76f988da,
 0x983e5152,0xa831c66d,0xb00327c8,0xbf597fc7,0xc6e00bf3,0xd5a79147,0x06ca6351,0x14292967,
 0x27b70a85,0x2e1b2138,0x4d2c6dfc,0x53380d13,0x650a7354,0x766a0abb,0x81c2c92e,0x92722c85,
 0xa2bfe8a1,0xa81a664b,0xc24b8b70,0xc76c51a3,0xd192e819,0xd6990624,0xf40e3585,0x106aa070,
 0x19a4c116,0x1e376c08,0x2748774c,0x34b0bcb5,0x391c0cb3,0x4ed8aa4a,0x5b9cca4f,0x682e6ff3,
 0x748f82ee,0x78a5636f,0x84c87814,0x8cc70208,0x90befffa,0xa4506ceb,0xbef9a3f7,0xc67178f2]
def lI:St:=⟨0x6a09e667,0xbb67ae85,0x3c6ef372,0xa54ff53a,0x510e527f,0x9b05688c,0x1f83d9ab,0x5be0cd19⟩
def lJ(h:St)(b:List Int):St:=gB (pF lE (sched b 64) h 64) h
def nz(p:List Int):Nat->St
 |0=>lI
 |i+1=>lJ (nz p i) ((p.drop (64*i)).take 64)
def Zt(s:St):List Int:=be s.a 4++be s.b 4++be s.c 4++be s.d 4++be s.e 4++be s.f 4++be s.g 4++be s.h 4
def XX(n:Nat):Nat:=(n+72)/64*64
def lO(xs:List Int):List Int:=xs++128::(fh (XX xs.length-xs.length-9) 0++be ((xs.length:Int)*8) 8)
def Rh(xs:List Int):St:=nz (lO xs) (XX xs.length/64)
def Zu(xs:List Int):List Int:=Zt (Rh xs)
theorem vI(n:Nat):n+9<=XX n:=by unfold XX;omega
theorem Ri(n:Nat):64*(XX n/64)=XX n:=by unfold XX;omega
theorem EXv(xs:List Int):(lO xs).length=XX xs.length:=by have:=vI xs.length;simp only[lO,IY,Zn,List.length_replicate,UU];omega
theorem EXw(xs:List Int)(h: ∀x∈xs,0<=x/\x<=255): ∀x∈lO xs,0<=x/\x<=255:=by
 intro x hx;simp only[lO,Xp,UJ,List.mem_replicate] at hx;rcases hx with hx|rfl|⟨_,rfl⟩|hx;·exact h x hx
 ·omega
 ·omega
 ·exact u0 _ _ x hx
theorem sK(s:St):(Zt s).length=32:=by simp[Zt,UU]
theorem EXx(s:St): ∀x∈Zt s,0<=x/\x<=255:=by intro x hx;simp only[Zt,Xp] at hx;rcases hx with((((((h|h)|h)|h)|h)|h)|h)|h<;>exact u0 _ _ x h
theorem pG(xs:List Int):(Zu xs).length=32:=sK _
theorem vJ(xs:List Int): ∀x∈Zu xs,0<=x/\x<=255:=EXx _
theorem AR(b:List Int)(i:Nat):(sched b i).length=i:=by
 induction i with
 |zero=>rfl
 |succ i ih=>simp[sched,ih]
theorem EXy(b:List Int)(i j:Nat)(h:i<=j):(sched b j).take i=sched b i:=by
 induction j with
 |zero=> obtain rfl:i=0:=U;rfl
 |succ j ih=>
  rcases JW j i with h1|h1;·obtain rfl:i=j+1:=U;rw[OP (by rw[AR];omega)]
  ·rw[sched,List.take_append_of_le_length (by rw[AR];omega),ih h1]
theorem vO(b:List Int)(i j k:Nat)(h:k<i)(hj:i<=j):(sched b j).getD k 0=(sched b i).getD k 0:=by rw[<-EXy b i j hj];simp only[OE];rw[cE h]
theorem EXz(b:List Int)(i j:Nat)(h:i<j):(sched b j).getD i 0=if i<16 then sH b i else pD (sched b j) i:=by
 rw[vO b (i+1) j i U U,sched];have e:(sched b i++[if i<16 then sH b i else pD (sched b i) i]).getD i 0=if i<16 then sH b i else pD (sched b i) i:=by simp[OE,AR]
 rw[e];split;·rfl
 ·unfold pD;rw[vO b i j _ U U,vO b i j _ U U,vO b i j _ U U,vO b i j _ U U]
theorem EXC(x:Int)(w:M):Eg EZ 156 #[E Ok x,E I 2] w fun e w'=>e=Ei (E Ok (rr x 2))/\w=w':=by have h:Ir lU Im (IntKind.u64.wrap (-2)) 31=30:=EU;exact Ert
theorem EXD(x:Int)(w:M):Eg EZ 156 #[E Ok x,E I 6] w fun e w'=>e=Ei (E Ok (rr x 6))/\w=w':=by have h:Ir lU Im (IntKind.u64.wrap (-6)) 31=26:=EU;exact Ert
theorem Rj(x:Int)(w:M):Eg EZ 156 #[E Ok x,E I 7] w fun e w'=>e=Ei (E Ok (rr x 7))/\w=w':=by have h:Ir lU Im (IntKind.u64.wrap (-7)) 31=25:=EU;exact Ert
theorem EXF(x:Int)(w:M):Eg EZ 156 #[E Ok x,E I 11] w fun e w'=>e=Ei (E Ok (rr x 11))/\w=w':=by have h:Ir lU Im (IntKind.u64.wrap (-11)) 31=21:=EU;exact Ert
theorem EXG(x:Int)(w:M):Eg EZ 156 #[E Ok x,E I 13] w fun e w'=>e=Ei (E Ok (rr x 13))/\w=w':=by have h:Ir lU Im (IntKind.u64.wrap (-13)) 31=19:=EU;exact Ert
theorem Rk(x:Int)(w:M):Eg EZ 156 #[E Ok x,E I 17] w fun e w'=>e=Ei (E Ok (rr x 17))/\w=w':=by have h:Ir lU Im (IntKind.u64.wrap (-17)) 31=15:=EU;exact Ert
theorem Rl(x:Int)(w:M):Eg EZ 156 #[E Ok x,E I 18] w fun e w'=>e=Ei (E Ok (rr x 18))/\w=w':=by have h:Ir lU Im (IntKind.u64.wrap (-18)) 31=14:=EU;exact Ert
theorem Rm(x:Int)(w:M):Eg EZ 156 #[E Ok x,E I 19] w fun e w'=>e=Ei (E Ok (rr x 19))/\w=w':=by have h:Ir lU Im (IntKind.u64.wrap (-19)) 31=13:=EU;exact Ert
theorem EXH(x:Int)(w:M):Eg EZ 156 #[E Ok x,E I 22] w fun e w'=>e=Ei (E Ok (rr x 22))/\w=w':=by have h:Ir lU Im (IntKind.u64.wrap (-22)) 31=10:=EU;exact Ert
theorem EXK(x:Int)(w:M):Eg EZ 156 #[E Ok x,E I 25] w fun e w'=>e=Ei (E Ok (rr x 25))/\w=w':=by have h:Ir lU Im (IntKind.u64.wrap (-25)) 31=7:=EU;exact Ert
theorem Rn(x n:Int)(w:M)(hn:n=2\/n=6\/n=7\/n=11\/n=13\/n=17\/n=18\/n=19\/n=22\/n=25): Eg EZ 156 #[E Ok x,E I n] w fun e w'=>e=Ei (E Ok (rr x n.toNat))/\w=w':=by
 rcases hn with rfl|rfl|rfl|rfl|rfl|rfl|rfl|rfl|rfl|rfl;·exact EXC x w
 ·exact EXD x w
 ·exact Rj x w
 ·exact EXF x w
 ·exact EXG x w
 ·exact Rk x w
 ·exact Rl x w
 ·exact Rm x w
 ·exact EXH x w
 ·exact EXK x w
theorem pH(n:Int)(h0:0<=n)(h1:n<=4294967295):IntKind.u32.wrap n=n:=by rw[IntKind.wrap_u32'];omega
theorem EXL(h: ∀x∈l,0<=x/\x<=255)(k:Nat):0<=l.getD k 0/\l.getD k 0<=255:=by
 rcases JW k l.length with hk|hk
 ·have e:l.getD k 0=l[k]:=by simp[hk]
  rw[e];exact h _ (gh _)
 ·have e:l.getD k 0=0:=by simp[hk]
  rw[e];omega
theorem EXM{a b c d:Int}(a0:0<=a)(a1:a<=255)(b0:0<=b)(b1:b<=255)(c0:0<=c)(c1:c<=255): Ha a b c d=Ir .or .u32 (Ir .or .u32 (Ir .or .u32 (a*16777216) (b*65536)) (c*256)) d:=by unfold Ha;rw[show(2:Int)^24=16777216 from EU,show(2:Int)^16=65536 from EU,show(2:Int)^8=256 from EU,pH (a*16777216) U U,pH (b*65536) U U,pH (c*256) U U]
theorem AV:Od EZ 211 (Jz (Ev 8)):=by intro ev o w ho;unfold Ig;simp only[ho];simp[go_sem];exact congrArg (fun c=>w.alloc (Eb c 211)) Ef
theorem Ro:Od EZ 250 (Jz (Ev 64)):=by intro ev o w ho;unfold Ig;simp only[ho];simp[go_sem];exact congrArg (fun c=>w.alloc (Eb c 250)) Ef
theorem gC:IL EZ 211 8:=⟨⟨_,Tryz.underlying211,O⟩,Ef⟩
theorem AW:IL EZ 250 64:=⟨⟨_,Tryz.underlying250,O⟩,Ef⟩
theorem vU:IL EZ 214 64:=⟨⟨_,Tryz.underlying214,O⟩,Ef⟩
def Hc(b sl:List Int):Prop:=sl.length=64/\ ∀i,i<64->sl.getD i 0=if i<16 then sH b i else pD sl i
theorem EXN(b sl:List Int)(hl:b.length=64)(hb: ∀x∈b,0<=x/\x<=255)(hs:Hc b sl)(w:M): Eg EZ 155 #[Ea (Em b)] w fun e w'=>e=Ei (Ea (Jz sl))/\El w w':=by
 have HL:=J hl;have HB:=J hb;have HS:=J hs;clear hl hb hs;go_enter Tryz.func155,Tryz.ntmps155;go_wp2_with (with_reducible refine wA Ro ?_);go_loopw[10] (fun y wr=> ∃i:Nat,i<=16/\y=E I i/\H wr w.heap.size (Em b) 214/\H wr (w.heap.size+1) (Jz (Ev 64)) 250/\H wr (w.heap.size+1+1) (Jz (part sl i)) 250/\El w wr) (fun y _=>16-(In y).toNat)
 case atStart=>
  refine⟨0,U,O,((H.new w _ _).alloc _).alloc _,?_,?_,bO w _ _ _⟩;·exact(H.new' _ _ _ (by simp[QE])).alloc _
  ·rw[QJ,HS.out.1];exact H.new' _ _ _ (by simp[QE])
 case round=>
  obtain⟨i,hi,rfl,K1,K2,K3,hB⟩:=hrel;by_cases hlt:i<16
  ·have c0:=K1.cell (4*i);have c1:=K1.cell (4*i+1);have c2:=K1.cell (4*i+2);have c3:=K1.cell (4*i+3);rw[kB _ _ Hd] at c0 c1 c2 c3;have vX: ∀k,0<=b.getD k 0/\b.getD k 0<=255:=fun k=>EXL HB.out k;have WD:=HS.out.2 i U;rw[if_pos hlt] at WD;unfold sH at WD;have b0:=vX (4*i);have b1:=vX (4*i+1);have b2:=vX (4*i+2);have b3:=vX (4*i+3);clear vX;generalize b.getD (4*i) 0=x0 at*;generalize b.getD (4*i+1) 0=x1 at*;generalize b.getD (4*i+2) 0=x2 at*;generalize b.getD (4*i+3) 0=x3 at*;have v0:IntKind.u32.wrap x0=x0:=pH _ U U;have v1:IntKind.u32.wrap x1=x1:=pH _ U U;have v2:IntKind.u32.wrap x2=x2:=pH _ U U;have v3:IntKind.u32.wrap x3=x3:=pH _ U U;have cw:=K3.cell i;have fw:=K3.JZ i;rw[uG _ _ (by rw[zK _ _ Hf,HS.out.1];omega)] at cw;replace WD:=J WD;replace K1:=J K1;replace K2:=J K2;replace K3:=J K3;replace hB:=J hB;go_wp2_with fail;refine uF 31 Ef Ef ?_;simp only[Is,Iq,IT,IM];repeat (go_big_quiet_step (fail))
   refine I5 ?_;intro _ hw';obtain⟨nq,rfl⟩:=hw';go_wp2_with fail;have e:Ir .or .u32 (Ir .or .u32 (Ir .or .u32 (x0*16777216) (x1*65536)) (x2*256)) x3=sl.getD i 0:=by rw[WD.out];exact(EXM b0.1 b0.2 b1.1 b1.2 b2.1 b2.2).symm
   rw[e];have hl2:=HS.out.1;refine⟨⟨i+1,U,Ej,(K1.out.drewN nq).other _ _ _ U,(K2.out.drewN nq).other _ _ _ U,?_,(jk hB.out nq).setCell I8 _⟩,Jb⟩;have h:=(K3.out.drewN nq).set i (E Ok (sl.getD i 0));rw[Gr,Gt _ _ U] at h;exact h
  ·obtain rfl:i=16:=U;rw[show((16:Nat):Int)=16 from rfl];replace K1:=J K1;replace K2:=J K2;replace K3:=J K3;replace hB:=J hB;go_wp2_with fail;go_loopw[5] (fun y wx=> ∃i:Nat,16<=i/\i<=64/\y=E I i/\H wx (w.heap.size+1) (Jz (Ev 64)) 250/\H wx (w.heap.size+1+1) (Jz (part sl i)) 250/\El w wx) (fun y _=>64-(In y).toNat);case atStart=>exact⟨16,U,U,O,K2.out,K3.out,hB.out⟩
   case round=>
    obtain⟨i,hi0,hi,rfl,K2,K3,hB⟩:=hrel;by_cases hlt:i<64
    ·have hl2:=HS.out.1;have lp:(part sl i).length=64:=by rw[zK _ _ U,hl2]
     have c0:=K3.cell (i-16);have c1:=K3.cell (i-7);have c2:=K3.cell (i-15);have c3:=K3.cell (i-2);have cw:=K3.cell i;have fw:=K3.JZ i;rw[uG _ _ U] at c0 c1 c2 c3 cw;rw[EOp _ _ _ U U] at c0 c1 c2 c3;have WD:=HS.out.2 i hlt;rw[if_neg U] at WD;unfold pD at WD;generalize sl.getD (i-16) 0=x0 at*;generalize sl.getD (i-7) 0=x1 at*;generalize sl.getD (i-15) 0=x2 at*;generalize sl.getD (i-2) 0=x3 at*;replace WD:=J WD;replace K2:=J K2;replace K3:=J K3;replace hB:=J hB;replace hl2:=J hl2;clear lp;go_wp2_with fail;go_quiet (fail);go_wp2_with fail;(with_reducible refine(Rj _ _).mono ?_);rintro e w' ⟨rfl,rfl⟩;go_wp2_with fail;(with_reducible refine(Rl _ _).mono ?_);rintro e w' ⟨rfl,rfl⟩;go_wp2_with fail;(with_reducible refine(Rk _ _).mono ?_);rintro e w' ⟨rfl,rfl⟩;go_wp2_with fail;(with_reducible refine(Rm _ _).mono ?_);rintro e w' ⟨rfl,rfl⟩;go_wp2_with fail;refine uF 15 Ef Ef ?_;simp only[Is,Iq,IT,IM];repeat (go_big_quiet_step (fail))
     refine I5 ?_;intro _ hw';obtain⟨nq2,rfl⟩:=hw';go_wp2_with fail;have hl2:=hl2.out;have e:(x0+x1+Rd x2+Rf x3)%4294967296=sl.getD i 0:=by rw[WD.out];rfl
     refine⟨⟨i+1,U,U,Ej,(K2.out.drewN _).other _ _ _ U,?_,(jk hB.out _).setCell I8 _⟩,Jb⟩;have h:=(K3.out.drewN (nq+nq2)).set i (E Ok (sl.getD i 0));rw[Gr,Gt _ _ U,<-e] at h;exact h
    ·obtain rfl:i=64:=U;rw[QO _ _ Hf] at K3;replace K2:=J K2;replace K3:=J K3;replace hB:=J hB
     go_wp2_with (first
      |(with_reducible refine wL AW K3 ?_ (hn:=Hg))
      |(with_reducible refine wS (cs:=Jz sl) AW K2 ?_ (ho:=sL) (hn:=Hg) (h1:=QI _)))
     refine ET (v:=Ea (Jz sl)) (Jd AW O _ _ (w.heap.size+1) _ O (K2.out.setRow _) (by rw[Gq,HS.out.1])) O ⟨O,EY hB.out U _⟩
def Ju(w:M):Prop:= ∀i:Nat,i<64->w.cell? ⟨0,i,Z⟩=D (E Ok (lE.getD i 0))
theorem Ju.B(h:Ju w)(hb:El w w'):Ju w':=fun i hi=>by rw[hb.cell (Xv _ _ (h i hi))];exact h i hi
theorem Ju.drewN(h:Ju w)(n:Nat):Ju (w.drewN n):=h
theorem Ju.lt(h:Ju w):0<w.heap.size:=Xv _ _ (h 0 U)
theorem Ju.setRow(h:Ju w)(g:Nat)(cs:Array Y)(hg:0≠g):Ju (w.setRow g cs):=fun i hi=>by rw[cell_setRow_other _ _ _ _ hg];exact h i hi
theorem St.fu(s:St):s.cells.size=8:=rfl
theorem St.sM(s:St):s.cells.all (·.oneCell')=EJ:=by simp[St.cells,Oc]
theorem EXQ(h0 r:St)(b sl:List Int)(hl:b.length=64)(hb: ∀x∈b,0<=x/\x<=255)(hs:Hc b sl)(hr:pF lE sl h0 64=r)(w:M)(hR:Ju w): Eg EZ 114 #[Ea h0.cells,Ea (Em b)] w fun e w'=>e=Ei (Ea (gB r h0).cells)/\El w w':=by
 have HL:=J hl;have HB:=J hb;have HS:=J hs;have HR:=J hr;have RT:=J hR;have rl:=hR.lt;clear hl hb hs hr hR;go_enter Tryz.func114,Tryz.ntmps114;go_wp2_with (with_reducible refine wA AV (Ex.mk ?_));apply Es;have KH:=J<|((H.new w h0.cells 211).alloc (Eb (Em b) 214)).alloc (Eb (Jz (Ev 8)) 211);have KB:=J<|(H.new' (w.alloc (Eb h0.cells 211)) (Em b) 214 (g:=w.heap.size+1) Ej).alloc (Eb (Jz (Ev 8)) 211);have KR:=J<|H.new' ((w.alloc (Eb h0.cells 211)).alloc (Eb (Em b) 214)) (Jz (Ev 8)) 211 (g:=w.heap.size+1+1) Ej;have u:=J<|bO w (Eb h0.cells 211) (Eb (Em b) 214) (Eb (Jz (Ev 8)) 211);generalize ((w.alloc (Eb h0.cells 211)).alloc (Eb (Em b) 214)).alloc (Eb (Jz (Ev 8)) 211)=w3 at*;replace RT:=J<|RT.out.B u.out;go_wp2_with (with_reducible refine wL vU KB ?_ (hn:=Rp));refine(EXN b sl HL.out HB.out HS.out _).mono ?_;rintro e w4 ⟨rfl,b4⟩;replace KH:=J<|KH.out.B b4;replace KR:=J<|KR.out.B b4;replace RT:=J<|RT.out.B b4;replace u:=EV u b4;clear b4 KB;have l4:=KR.out.lt;go_wp2_with (with_reducible refine wA Ro (Ex.mk ?_));apply Es;have bel:=Er w4 (Eb (Jz (Ev 64)) 250);replace KH:=J<|KH.out.B bel;replace KR:=J<|KR.out.B bel;replace RT:=J<|RT.out.B bel;replace u:=EV u bel;have KW:=J<|H.new w4 (Jz (Ev 64)) 250;clear bel;generalize w4.alloc (Eb (Jz (Ev 64)) 250)=w5 at*;go_wp2_with (with_reducible refine wS (cs:=Jz sl) AW KW (Ex.mk ?_) (ho:=sL) (hn:=Hg) (h1:=QI _));apply Es;replace KH:=J<|KH.out.setRow_other w4.heap.size (Jz sl) U;replace KR:=J<|KR.out.setRow_other w4.heap.size (Jz sl) U;replace RT:=J<|RT.out.setRow w4.heap.size (Jz sl) U;replace KW:=J<|KW.out.setRow (Jz sl);replace u:=J<|EY (g:=w4.heap.size) u.out U (Jz sl);generalize w5.setRow w4.heap.size (Jz sl)=w6 at*;go_wp2_with (with_reducible first|refine wL gC KH ?_ (hn:=St.fu _)|refine wA AV (Ex.mk ?_));apply Es;have l6:=KW.out.lt;have bel:=Er w6 (Eb (Jz (Ev 8)) 211);replace KH:=J<|KH.out.B bel;replace KR:=J<|KR.out.B bel;replace KW:=J<|KW.out.B bel;replace RT:=J<|RT.out.B bel;replace u:=EV u bel;have KN:=J<|H.new w6 (Jz (Ev 8)) 211;clear bel;generalize w6.alloc (Eb (Jz (Ev 8)) 211)=w7 at*;go_wp2_with (with_reducible refine wS (cs:=h0.cells) gC KN (Ex.mk ?_) (ho:=sL) (hn:=St.fu _) (h1:=St.sM _));apply Es;replace KH:=J<|KH.out.setRow_other w6.heap.size h0.cells U;replace KR:=J<|KR.out.setRow_other w6.heap.size h0.cells U;replace KW:=J<|KW.out.setRow_other w6.heap.size h0.cells U;replace RT:=J<|RT.out.setRow w6.heap.size h0.cells U;replace KN:=J<|KN.out.setRow h0.cells;replace u:=J<|EY (g:=w6.heap.size) u.out U h0.cells;generalize w7.setRow w6.heap.size h0.cells=w8 at*;go_wp2_with fail;go_loopw[17] (fun y wr=> ∃i:Nat,i<=64/\y=E I i/\H wr w6.heap.size (pF lE sl h0 i).cells 211/\H wr w4.heap.size (Jz sl) 250/\H wr w.heap.size h0.cells 211/\H wr (w.heap.size+1+1) (Jz (Ev 8)) 211/\Ju wr/\El w wr) (fun y _=>64-(In y).toNat);case atStart=>exact⟨0,U,O,KN.out,KW.out,KH.out,KR.out,RT.out,u.out⟩
 case round=>
  clear KN KW KH KR RT u;obtain⟨i,hi,rfl,KN,KW,KH,KR,RT,u⟩:=hrel;by_cases hlt:i<64;·have STEP:pF lE sl h0 (i+1)=Hb (lE.getD i 0) (sl.getD i 0) (pF lE sl h0 i):=rfl;have cr:=RT i hlt;have cw:=KW.cell i;rw[uG _ _ Hf] at cw;generalize hq:pF lE sl h0 i=q at*;generalize lE.getD i 0=k at*;generalize sl.getD i 0=x at*;replace STEP:=J STEP;obtain⟨qa,qb,qc,qd,qe,qf,qg,qh⟩:=q;clear hq;have cn:=fun j=>KN.cell j;simp only[St.cells] at cn;replace KN:=J KN;replace KW:=J KW;replace KH:=J KH;replace KR:=J KR;replace RT:=J RT;replace u:=J u;go_wp2_with fail;go_quiet (fail);revert nq;intro n1;go_wp2_with fail;go_quiet (((with_reducible refine(Rn _ _ _ ?_).mono ?_);(·decide);(rintro e w2 ⟨rfl,rfl⟩;exact⟨O,_,O⟩)));revert nq;intro n2;go_wp2_with fail;go_quiet (((with_reducible refine(Rn _ _ _ ?_).mono ?_);(·decide);(rintro e w2 ⟨rfl,rfl⟩;exact⟨O,_,O⟩)));revert nq;intro n3;have Rq:=J<|KN.out.drewN (n1+n2+n3);go_wp2_with (with_reducible refine wS (cs:=(Hb k x ⟨qa,qb,qc,qd,qe,qf,qg,qh⟩).cells) gC Rq (Ex.mk ?_) (ho:=St.fu _) (hn:=St.fu _) (h1:=St.sM _));apply Es;go_wp2_with fail;rename_i hsg;refine⟨⟨i+1,U,Ej,?_,(KW.out.drewN _).setRow_other _ _ U,(KH.out.drewN _).setRow_other _ _ U,(KR.out.drewN _).setRow_other _ _ U,(RT.out.drewN _).setRow _ _ U,EY (jk u.out _) U _⟩,Jb⟩;rw[STEP.out];exact Rq.out.setRow _
  ·obtain rfl:i=64:=U;rw[show((64:Nat):Int)=64 from rfl];rw[HR.out] at KN;replace KN:=J KN;replace KW:=J KW;replace KH:=J KH;replace KR:=J KR;replace RT:=J RT;replace u:=J u;go_wp2_with fail;go_loopw[100] (fun y wx=> ∃i:Nat,i<=8/\y=E I i/\H wx w6.heap.size (Jz (du (gB r h0).list r.list i)) 211/\H wx w.heap.size h0.cells 211/\H wx (w.heap.size+1+1) (Jz (Ev 8)) 211/\El w wx) (fun y _=>8-(In y).toNat);case atStart=>exact⟨0,U,rfl,by rw[QU];exact KN.out,KH.out,KR.out,u.out⟩
   case round=>
    clear KN KW KH KR RT u;obtain⟨i,hi,rfl,KN,KH,KR,u⟩:=hrel;by_cases hlt:i<8
    ·have c0:=KN.cell i;have c1:=KH.cell i;have f0:=KN.JZ i;rw[uG _ _ (by rw[Gu (gB r h0).list r.list i rfl hi];exact hlt),EOq (gB r h0).list r.list i i rfl (E3 _) hlt] at c0;rw[show h0.cells=Jz h0.list from rfl,uG _ _ (by exact hlt)] at c1;have AD:=EXu r h0 i hlt;generalize r.list.getD i 0=x0 at*;generalize h0.list.getD i 0=x1 at*;replace AD:=J AD;replace KN:=J KN;replace KH:=J KH;replace KR:=J KR;replace u:=J u;go_wp2_with fail;refine uF 8 Ef Ef ?_;simp only[Is,Iq,IT,IM];repeat (go_big_quiet_step (fail))
     refine I5 ?_;intro _ hw';obtain⟨nq,rfl⟩:=hw';go_wp2_with fail;refine⟨⟨i+1,U,Ej,?_,(KH.out.drewN _).other _ _ _ U,(KR.out.drewN _).other _ _ _ U,(jk u.out _).setCell I8 _⟩,Jb⟩;have hh:=(KN.out.drewN nq).set i (E Ok ((gB r h0).list.getD i 0));rw[Gr,uH (gB r h0).list r.list i rfl hlt,AD.out] at hh;exact hh
    ·obtain rfl:i=8:=U;rw[show((8:Nat):Int)=8 from rfl];rw[QX (gB r h0).list r.list 8 (E3 8) (E3 8)] at KN;replace KN:=J<|show H wr w6.heap.size (gB r h0).cells 211 from KN;replace KR:=J KR;replace u:=J u;go_wp2_with (with_reducible first|refine wL gC KN ?_ (hn:=St.fu _)|refine wS (cs:=(gB r h0).cells) gC KR ?_ (ho:=sL) (hn:=St.fu _) (h1:=St.sM _));refine ET (v:=Ea (gB r h0).cells) (Jd gC rfl _ _ (w.heap.size+1+1) _ rfl (KR.out.setRow _) (St.fu _)) rfl ⟨rfl,EY u.out U _⟩
theorem EXR(w:M):Eg EZ 112 #[] w fun e w'=>e=Ei (Ea lI.cells)/\El w w':=by go_enter Tryz.func112,Tryz.ntmps112;go_wp2_with (with_reducible refine wA AV (Ex.mk ?_));apply Es;have KR:=J<|H.new w (Jz (Ev 8)) 211;have u:=J<|Er w (Eb (Jz (Ev 8)) 211);generalize w.alloc (Eb (Jz (Ev 8)) 211)=w3 at*;go_wp2_with (with_reducible refine wS (cs:=lI.cells) gC KR ?_ (ho:=sL) (h1:=St.sM _));refine ET (v:=Ea lI.cells) (Jd gC O _ _ (w.heap.size) _ O (KR.out.setRow _) (St.fu _)) O ⟨O,EY u.out U _⟩
def ip(xs:List Int)(i:Nat):List Int:=xs++128::(fh (XX xs.length-xs.length-1-i) 0++be ((xs.length:Int)*8) i)
theorem EXS(xs:List Int):ip xs 8=lO xs:=by unfold ip lO;rw[show XX xs.length-xs.length-1-8=XX xs.length-xs.length-9 from U]
theorem EXT(xs:List Int)(i:Nat)(h:i<=8):(ip xs i).length=XX xs.length:=by have:=vI xs.length;simp only[ip,IY,Zn,List.length_replicate,UU];omega
theorem EXV(A Y4:List Int)(c v:Int)(k j:Nat)(hj:j=A.length+1+k):(A++c::(fh (k+1) 0++Y4)).set j v=A++c::(fh k 0++v::Y4):=by subst hj;rw[List.set_append_right _ _ U,show A.length+1+k-A.length=k+1 from U,Ic,List.replicate_succ',U7,List.set_append_right _ _ Ej];simp
theorem EXW(xs:List Int)(i:Nat)(h:i<8):(ip xs i).set (XX xs.length-1-i) ((xs.length:Int)*8/2^(8*i)%256)=ip xs (i+1):=by have:=vI xs.length;unfold ip;obtain⟨k,hk⟩: ∃k,XX xs.length-xs.length-1-i=k+1:=⟨XX xs.length-xs.length-2-i,U⟩;rw[hk,EXV _ _ _ _ k _ U,G2,show XX xs.length-xs.length-1-(i+1)=k from U]
theorem EXY(xs:List Int)(W:Nat)(hW:XX xs.length=W):(putAt (Ev W) 0 xs).set xs.length 128=ip xs 0:=by have:=vI xs.length;subst hW;unfold putAt ip Ev;obtain⟨k,hk⟩: ∃k,XX xs.length=xs.length+(k+1):=⟨XX xs.length-xs.length-1,U⟩;rw[hk];simp only[Iq,ZZ,Ox,List.drop_replicate,EUd,dy];rw[show xs.length+(k+1)-xs.length=k+1 from U,show k+1-1-0=k from U,List.set_append_right _ _ (E3 _),Nat.sub_self,List.replicate_succ,If]
theorem EX1(A:Option Ep)(xs:List Int)(n c:Nat)(w:M)(hn:xs.length=n)(hr:Row w A xs)(hl:n<=1000000000): Eg EZ 113 #[G A n c] w fun e w'=>e=Ei (G (D ⟨w.heap.size,0,Z⟩) (XX n) (XX n))/\H w' w.heap.size (Em (lO xs)) 5/\El w w':=by
 obtain⟨W,hW⟩:=JK (XX n);have hW1:((n:Int)+9+64-1)/64*64=(W:Int):=Rr;have hW2:n+9<=W:=by rw[<-hW];exact vI n
 have hW3:W<=2000000000:=Rr;have hmk:=Qa W U;rw[hW];have HN:=J hn;have HR:=J hr;have HW:=J hW;clear hn hr hW;go_enter Tryz.func113,Tryz.ntmps113;go_wp2_with ((with_reducible show Ib _ _ _ (⟨D 18,_,_,_,_,Z⟩::_) _ _);refine Ex.mk ?_);apply Es;have KP:=J<|H.new w (Em (Ev W)) 5;have bl:=Er w (Eb (Em (Ev W)) 5);have HR:=J<|It HR.out bl;have u:=J bl;clear hmk hW1 bl;generalize w.alloc (Eb (Em (Ev W)) 5)=w1 at*;(with_reducible refine kD ?_ w.heap.size 0 W W (Ev W) 5 A n c xs n (D ⟨w.heap.size,0,Z⟩) ?_ KP HN.out HR ?_ ?_ ?_ ?_);·exact Eh O
 ·exact Eps
 ·exact Nat.min_eq_left U
 ·rw[gU];omega
 ·exact EqG
 intro w2 K2 b2 o2 s2;have hN:=HN.out;have hlp:(putAt (Ev W) 0 (xs.take n)).length=W:=by rw[EOv,gU];simp[gU];omega
 rw[OP U] at K2 hlp;replace u:=J<|u.out.trans b2;have c0:=K2.cell n;have f0:=K2.JZ n;rw[kB _ _ U] at c0;have KP:=J<|K2.set n (E Ix 128);have HZ:=J<|EXY xs W (by rw[hN];exact HW.out);clear K2 b2 o2 s2 hlp hN;go_wp2_with fail;go_loopw[27] (fun y wr=> ∃i:Nat,i<=8/\y=E I i/\H wr w.heap.size (Em (ip xs i)) 5/\El w wr) (fun y _=>8-(In y).toNat);case atStart=> have h:=KP.out;have z:=HZ.out;rw[HN.out] at z;rw[pg,z] at h;exact⟨0,U,O,h,u.out.setCell Ej _⟩
 case round=>
  clear KP u;obtain⟨i,hi,rfl,KP,u⟩:=hrel;have hN:=HN.out;have AY:=HW.out;have hlp:(ip xs i).length=W:=by rw[EXT xs i hi,hN,AY]
  by_cases hlt:i<8;·have c0:=KP.cell (W-1-i);have f0:=KP.JZ (W-1-i);rw[kB _ _ U] at c0;have ST:=EXW xs i hlt;rw[hN,AY] at ST;replace KP:=J<|KP.set (W-1-i) (E Ix ((n:Int)*8/2^(8*i)%256));replace ST:=J ST;replace u:=J u;clear hN AY hlp;go_wp2_with fail;have h:=KP.out;rw[pg,ST.out] at h;exact⟨⟨i+1,U,Ej,h,u.out.setCell Ej _⟩,Jb⟩
  ·obtain rfl:i=8:=U;rw[show((8:Nat):Int)=8 from rfl];rw[EXS] at KP;replace KP:=J KP;replace u:=J u;clear hN AY hlp;go_wp2;go_ret;exact⟨O,KP.out,u.out⟩
theorem UV{o:EP}{T:EB}(hT:IL P T n)(x:J5)(ho:o.op= .load T x)(hx:a.eval x=V (D ⟨g,0,Z⟩))(hg:Ed (H W g cs T))(hn:cs.size=n) (hk:K (a.put o.dst (Ea cs))):o.quiet P a (fun w'=> ∃x,w'=EC W x) K:=by
 obtain⟨⟨d,hu,hd⟩,hi⟩:=hT;refine⟨_,fun w hw=> ?_,hk⟩;obtain⟨y,rfl⟩:=hw;have hrun:(loadVar T ⟨g,0,Z⟩).run P (EC W y)= .ok (Ea cs) (EC W y):=by cases d<;>first|(cases hd;done)|exact run_loadVar_row _ g T T cs (0,0) _ (hg.out.B (EQ y)) hu rfl iO
 unfold Oper.quietAt Ig;exact Ep0
theorem EX2{o:EP}{T T0:EB}{off:Nat}(hT:IL P T n)(x:J5)(ho:o.op= .load T x)(hx:a.eval x=V (D ⟨g,off,Z⟩))(hg:Ed (H W g (Em l) T0))(hn:off+n<=l.length) (hk:K (a.put o.dst (Ea (Em ((l.drop off).take n))))):o.quiet P a (fun w'=> ∃x,w'=EC W x) K:=by
 obtain⟨⟨d,hu,hd⟩,hi⟩:=hT;refine⟨_,fun w hw=> ?_,hk⟩;obtain⟨y,rfl⟩:=hw;have hb:=hg.out.B (EQ y);have hlen:(((l.drop off).take n).map (E .u8)).length=n:=I8
 have hrun:(loadVar T ⟨g,off,Z⟩).run P (EC W y)= .ok (Ea (((l.drop off).take n).map (E .u8)).toArray) (EC W y):=by
  refine run_loadVar_mid _ g off T _ d (fun j v hv=> ?_) hu nX (by rw[hi,hlen])
  have hj:j<n:=by
   rcases JW j n with h|h;·exact h
   ·rw[bJ U] at hv;cases hv
  rw[show(EC W y).cell? ⟨g,off+j,Z⟩=_ from hb.cell (off+j),kB _ _ U];rw[List.getElem?_map,cE hj,List.getElem?_drop] at hv;simp[show off+j<l.length from U] at hv;simp[show off+j<l.length from U,<-hv]
 unfold Oper.quietAt Ig;exact Ep0
theorem EX3(b:List Int):Hc b (sched b 64):=⟨AR b 64,fun i hi=>EXz b i 64 hi⟩
theorem EX4(q:St)(b:List Int)(hl:b.length=64)(hb: ∀x∈b,0<=x/\x<=255)(w:M)(hR:Ju w): Eg EZ 114 #[Ea q.cells,Ea (Em b)] w fun e w'=>e=Ei (Ea (lJ q b).cells)/\El w w':=
 EXQ q _ b _ hl hb (EX3 b) O w hR
theorem fy:Od EZ 41 (Em (Ev 32)):=by intro ev o w ho;unfold Ig;simp only[ho];simp[go_sem];exact congrArg (fun c=>w.alloc (Eb c 41)) Ef
theorem UX:IL EZ 41 32:=⟨⟨_,Tryz.underlying41,O⟩,Ef⟩
theorem EX6(q:St)(i:Nat)(hi:i<8):(Zt q).getD (4*i) 0=q.list.getD i 0/16777216%256/\(Zt q).getD (4*i+1) 0=q.list.getD i 0/65536%256/\(Zt q).getD (4*i+2) 0=q.list.getD i 0/256%256/\(Zt q).getD (4*i+3) 0=q.list.getD i 0%256:=by
 have one: ∀x:Int,x/1=x:=Int.ediv_one;rcases(show i=0\/i=1\/i=2\/i=3\/i=4\/i=5\/i=6\/i=7 from U) with rfl|rfl|rfl|rfl|rfl|rfl|rfl|rfl
 all_goals
  refine⟨O,O,O,?_⟩
  conv=>rhs;rw[<-one (List.getD _ _ _)]
  rfl
theorem EX7(q:St)(i:Nat)(hi:i<8)(W:M):(Un 211 (Ea q.cells) (E I (i:Int))).run EZ W= .ok (E Ok (q.list.getD i 0)) W:=by rcases(show i=0\/i=1\/i=2\/i=3\/i=4\/i=5\/i=6\/i=7 from U) with rfl|rfl|rfl|rfl|rfl|rfl|rfl|rfl<;>kernel_rfl
theorem EX8(a:Option Ep)(c:Nat)(W:M):(Instr.arrayAt 214 (G a 64 c)).run EZ W= .ok (V a) W:=by simp[Instr.arrayAt,go Tryz.underlying214]
theorem A_(A:Option Ep)(xs:List Int)(n c:Nat)(w:M)(hn:xs.length=n)(hr:Row w A xs)(hl:n<=1000000000)(hR:Ju w): Eg EZ 82 #[G A n c] w fun e w'=>e=Ei (Ea (Em (Zu xs)))/\El w w':=by
 obtain⟨m,hm⟩:=JK (XX n/64);obtain⟨P,hP⟩:=JK (lO xs);have Rs:P.length=64*m:=by rw[<-hP,EXv,hn,<-hm,Ri]
 have Rt: ∀x∈P,0<=x/\x<=255:=by rw[<-hP];exact EXw xs hr.2
 have hm2:m<=100000000:=by rw[<-hm];unfold XX;omega
 have Ru:Zu xs=Zt (nz P m):=by unfold Zu Rh;rw[hn,hm,hP]
 rw[Ru];have hW:XX n=64*m:=by rw[<-hm,Ri]
 have HW:=J hW;have HN:=J hn;have HR:=J hr;have HP:=J hP;have ld:=J Rs;have ay:=J Rt;have RT:=J hR;have rl:=hR.lt;clear hn hr hP Rs Rt Ru hm hW hR;go_enter Tryz.func82,Tryz.ntmps82;go_wp2_with (with_reducible refine wA fy (Ex.mk ?_));apply Es;have u:=J<|IU w.heap.size w;have bel:=Er w (Eb (Em (Ev 32)) 41);replace u:=EV u bel;have KR:=J<|H.new w (Em (Ev 32)) 41;clear bel;generalize w.alloc (Eb (Em (Ev 32)) 41)=w1 at*;go_wp2_with fail;refine(EXR _).mono ?_;rintro e w2 ⟨rfl,b2⟩;replace KR:=J<|KR.out.B b2;replace u:=EV u b2;clear b2;have l2:=KR.out.lt;go_wp2_with (with_reducible refine wA AV (Ex.mk ?_));apply Es;have bel:=Er w2 (Eb (Jz (Ev 8)) 211);replace KR:=J<|KR.out.B bel;replace u:=EV u bel;have KH:=J<|H.new w2 (Jz (Ev 8)) 211;clear bel;generalize w2.alloc (Eb (Jz (Ev 8)) 211)=w3 at*;go_wp2_with (with_reducible refine wS (cs:=lI.cells) gC KH (Ex.mk ?_) (ho:=sL) (hn:=St.fu _) (h1:=St.sM _));apply Es;replace KR:=J<|KR.out.setRow_other w2.heap.size lI.cells U;replace KH:=J<|KH.out.setRow lI.cells;replace u:=J<|EY (g:=w2.heap.size) u.out U lI.cells;generalize w3.setRow w2.heap.size lI.cells=w4 at*;go_wp2_with fail;refine(EX1 A xs n c _ HN.out (It HR.out u.out) hl).mono ?_;rintro e w5 ⟨rfl,KP,b5⟩;rw[HP.out] at KP;have l5:=KH.out.lt;replace KR:=J<|KR.out.B b5;replace KH:=J<|KH.out.B b5;replace u:=EV u b5;replace KP:=J KP;clear b5;rw[HW.out];go_wp2_with fail;go_loopw[4] (fun y wr=> ∃(i:Nat) (a:Option Ep) (L:Nat),i<=m/\y=G a L L/\L=64*(m-i)/\(i<m->a=D ⟨w4.heap.size,64*i,Z⟩)/\H wr w.heap.size (Em (Ev 32)) 41/\H wr w2.heap.size (nz P i).cells 211/\H wr w4.heap.size (Em P) 5/\El w wr) (fun y _=>match y with|G _ L _=>L|_=>0);case atStart=>exact⟨0,_,64*m,U,O,U,fun _=>rfl,KR.out,KH.out,KP.out,u.out⟩
 case round=>
  clear KR KH KP u;obtain⟨i,a,L,hi,rfl,hL,ha,KR,KH,KP,u⟩:=hrel;by_cases hlt:i<m
  ·obtain rfl:=ha hlt;have hL1:64<=L:=U;have hL2:(64:Int)<=(L:Int):=U;have hL3:L<=6400000000:=U;have hPL:=ld.out;obtain⟨bl,hbl⟩:=JK ((P.drop (64*i)).take 64);have Rv:bl.length=64:=by rw[<-hbl];simp;omega
   have Rw: ∀x∈bl,0<=x/\x<=255:=by rw[<-hbl];intro x hx;exact ay.out x (List.mem_of_mem_drop (iI hx))
   have STEP:nz P (i+1)=lJ (nz P i) bl:=by rw[<-hbl];rfl
   generalize nz P i=q at*;replace STEP:=J STEP;have HL:=J hL;have vZ:=J hbl;have HB1:=J Rv;have HB2:=J Rw;replace KR:=J KR;replace KH:=J KH;replace KP:=J KP;replace u:=J u;have sN:=J<|RT.out.B u.out;have harr:=EX8;clear hL hbl Rv Rw ha hPL;go_wp2_with fail;refine Oa 6 Ef Ef ?_;simp only[Is,Iq,IT,IM];repeat (first
   |go_big_quiet_skip
   |(go_big_quiet_want
     first
      |(refine UV (T:=211) (g:=w2.heap.size) gC _ rfl rfl KH ?_ ?_;(·exact St.fu _);go_simp;go_big_quiet_on)
      |(refine EX2 (T:=214) (g:=w4.heap.size) (off:=64*i) (l:=P) vU _ rfl rfl KP ?_ ?_;(·rw[ld.out];omega);rw[vZ.out];go_simp;go_big_quiet_on)
      |(go_big_quiet_op
        first
         |go_big_quiet_on
         |go_big_quiet_call ((((with_reducible refine ao (EX4 q bl HB1.out HB2.out _ ?_));exact sN.out.B (EQ _)))))))
   refine I5 ?_;intro _ hw';obtain⟨y,rfl⟩:=hw';have En:=EQ y;replace KR:=J<|KR.out.B En;replace KH:=J<|KH.out.B En;replace KP:=J<|KP.out.B En;replace u:=EV u En;clear En harr sN;generalize EC wr y=w6 at*;go_wp2_with (with_reducible refine wS (cs:=(lJ q bl).cells) gC KH (Ex.mk ?_) (ho:=St.fu _) (hn:=St.fu _) (h1:=St.sM _));apply Es;replace KR:=J<|KR.out.setRow_other w2.heap.size (lJ q bl).cells U;replace KP:=J<|KP.out.setRow_other w2.heap.size (lJ q bl).cells U;replace KH:=J<|KH.out.setRow (lJ q bl).cells;replace u:=J<|EY (g:=w2.heap.size) u.out U (lJ q bl).cells;generalize w6.setRow w2.heap.size (lJ q bl).cells=w7 at*;by_cases hlast:L=64;·subst hlast;go_wp2_with fail;have hL:=HL.out;exact⟨⟨i+1,_,0,U,O,U,fun h=>U,KR.out,by rw[STEP.out];exact KH.out,KP.out,u.out⟩,by show 0<64;omega⟩
   ·have hL4:64<L:=U;go_wp2_with fail;have hL:=HL.out;exact⟨⟨i+1,_,L-64,U,O,U,fun _=>by rw[show 64*(i+1)=64*i+64 from U],KR.out,by rw[STEP.out];exact KH.out,KP.out,u.out⟩,UT⟩
  ·obtain rfl:i=m:=U;obtain rfl:L=0:=U;generalize hq:nz P i=q at*;have HQ:=J hq;clear hq;replace KR:=J KR;replace KH:=J KH;replace u:=J u;clear ha KP hL;have l9:=KH.out.lt;go_wp2_with (with_reducible refine wA fy (Ex.mk ?_));apply Es;have bel:=Er wr (Eb (Em (Ev 32)) 41);replace KR:=J<|KR.out.B bel;replace KH:=J<|KH.out.B bel;replace u:=EV u bel;have KS:=J<|H.new wr (Em (Ev 32)) 41;clear bel;generalize wr.alloc (Eb (Em (Ev 32)) 41)=w6 at*;generalize wr.heap.size=g9 at*;go_wp2_with (with_reducible refine wL gC KH ?_ (hn:=St.fu _));go_loopw[23] (fun y wx=> ∃k:Nat,k<=8/\y=E I k/\H wx w.heap.size (Em (Ev 32)) 41/\H wx g9 (Em (du (Zt q) (Ev 32) (4*k))) 41/\El w wx) (fun y _=>8-(In y).toNat);case atStart=>exact⟨0,U,O,KR.out,by rw[Nat.mul_zero,QU];exact KS.out,u.out⟩
   case round=>
    clear KR KH KS u;obtain⟨k,hk,rfl,KR,KS,u⟩:=hrel;by_cases hlt:k<8
    ·have hix:=EX7 q k hlt;have DG:=EX6 q k hlt;have le:(Zt q).length=(Ev 32).length:=by rw[sK,gU]
     have lz:=sK q;have lo:=Gu (Zt q) (Ev 32) (4*k) le U;have c0:=KS.cell (4*k);have c1:=KS.cell (4*k+1);have c2:=KS.cell (4*k+2);have c3:=KS.cell (4*k+3);have f0:=KS.JZ (4*k);have f1:=KS.JZ (4*k+1);have f2:=KS.JZ (4*k+2);have f3:=KS.JZ (4*k+3);rw[kB _ _ U] at c0 c1 c2 c3;generalize q.list.getD k 0=x at*;have S1:=uH (Zt q) (Ev 32) (4*k) le U;have S2:=uH (Zt q) (Ev 32) (4*k+1) le U;have S3:=uH (Zt q) (Ev 32) (4*k+2) le U;have S4:=uH (Zt q) (Ev 32) (4*k+3) le U;rw[DG.1] at S1;rw[DG.2.1] at S2;rw[DG.2.2.1] at S3;rw[DG.2.2.2] at S4;replace S1:=J S1;replace S2:=J S2;replace S3:=J S3;replace S4:=J S4;replace KR:=J KR;replace KS:=J KS;replace u:=J u;clear DG le lz lo;go_wp2_with fail;have h:=(((KS.out.set (4*k) (E Ix (x/16777216%256))).set (4*k+1) (E Ix (x/65536%256))).set (4*k+2) (E Ix (x/256%256))).set (4*k+3) (E Ix (x%256));rw[pg,S1.out,pg,S2.out,pg,S3.out,pg,S4.out] at h;exact⟨⟨k+1,U,Ej,(((KR.out.other _ _ _ U).other _ _ _ U).other _ _ _ U).other _ _ _ U,h,(((u.out.setCell I8 _).setCell I8 _).setCell I8 _).setCell I8 _⟩,Jb⟩
    ·obtain rfl:k=8:=U;rw[show((8:Nat):Int)=8 from rfl];rw[QX (Zt q) (Ev 32) (4*8) (by rw[sK];omega) (by rw[gU];omega)] at KS;replace KR:=J KR;replace KS:=J KS;replace u:=J u;go_wp2_with (with_reducible first|refine wL UX KS ?_ (hn:=Rx)|refine wS (cs:=Em (Zt q)) UX KR ?_ (ho:=XP) (hn:=Rx) (h1:=X6 _));refine ET (v:=Ea (Em (Zt q))) (Jd UX O _ _ (w.heap.size) _ O (KR.out.setRow _) (by rw[Ob,sK])) O ⟨by rw[HQ.out],EY u.out U _⟩
def keyed(k:List Int):List Int:=if 64<k.length then Zu k else k
def gD(k:List Int):List Int:=keyed k++Ev (64-(keyed k).length)
def aX(l:List Int)(b:Int):List Int:=l.map fun c=>Ir .xor .u8 c b
def Oz(k b:List Int):List Int:=Zu (aX (gD k) 92++Zu (aX (gD k) 54++b))
theorem EX_(k:List Int):(keyed k).length<=64:=by
 unfold keyed;split;·rw[pG];omega
 ·omega
theorem EZE(h: ∀x∈k,0<=x/\x<=255): ∀x∈keyed k,0<=x/\x<=255:=by
 unfold keyed;split;·exact vJ k
 ·exact h
theorem EZI(k:List Int):(gD k).length=64:=by have:=EX_ k;simp[gD,gU];omega
theorem EZJ(h: ∀x∈k,0<=x/\x<=255): ∀x∈gD k,0<=x/\x<=255:=by
 intro x hx;rcases Xp.1 hx with hx|hx;·exact EZE h x hx
 ·exact QZ _ x hx
theorem BI(l:List Int)(b:Int):(aX l b).length=l.length:=by simp[aX]
theorem Ry(a b:Int):0<=Ir .xor .u8 a b/\Ir .xor .u8 a b<=255:=by unfold Ir;simp only;rw[IntKind.wrap_u8'];omega
theorem Rz(l:List Int)(b:Int): ∀x∈aX l b,0<=x/\x<=255:=by intro x hx;simp only[aX,dw] at hx;obtain⟨c,_,rfl⟩:=hx;exact Ry c b
theorem EZO(l:List Int)(b:Int)(i:Nat)(h:i<l.length):(aX l b).getD i 0=Ir .xor .u8 (l.getD i 0) b:=by simp[aX,h]
theorem pK(k b:List Int):(Oz k b).length=32:=pG _
theorem BJ(k b:List Int): ∀x∈Oz k b,0<=x/\x<=255:=vJ _
theorem EZU{e:EB}{k:IntKind}(he:P.underlying e=D (.int k))(cs:Array Y)(i:Nat)(v:Y)(hv:cs[i]?=D v)(W:M):(Go.part e cs i).run P W=Result.ok v W:=by unfold Go.part;simp[isAgg,go he,hv]
theorem EZX{e:EB}{k:IntKind}{inf:TypeInfo}(ht:P.underlying t=D (.array n e))(he:P.underlying e=D (.int k))(hi:P.info? e=D inf)(h1:inf.size=1)(cs:Array Y)(i:Nat)(hn:i<n)(v:Y)(hv:cs[i]?=D v)(W:M): (Un t (Ea cs) (E I (i:Int))).run P W= .ok v W:=by have hp:=EZU he cs i v hv W;unfold Un;have c1:(0:Int)<=(i:Int)/\(i:Int)<(n:Int):=U;simp[asIntOf,go ht,c1,sizeOf,typeInfo,hi,h1,hp];omega
theorem EZZ(l:List Int)(hl:l.length=64)(i:Nat)(h:i<64)(W:M):(Un 214 (Ea (Em l)) (E I (i:Int))).run EZ W= .ok (E Ix (l.getD i 0)) W:=by obtain⟨i0,hi,hz0,hz1,hz2⟩:=au jl;exact EZX Tryz.underlying214 Tryz.underlying5 hi hz1 _ i h _ (kB l i U) W
theorem RF(k:List Int)(b:Int)(w:M)(hl:k.length=64)(hb:0<=b/\b<=255): Eg EZ 244 #[Ea (Em k),E Ix b] w fun e w'=>e=Ei (G (D ⟨w.heap.size+1,0,Z⟩) 64 64)/\H w' (w.heap.size+1) (Em (aX k b)) 5/\El w w':=by
 have HL:=J hl;have hmk: ∀W:M,(Instr.makeSlice 23 (E I 64) (E I 64)).run EZ W= .ok (G (D ⟨W.heap.size,0,Z⟩) 64 64) (W.alloc (Eb (Em (Ev 64)) 5)):=Qa 64 U;obtain⟨hb0,hb1⟩:=hb;clear hl;go_enter Tryz.func244,Tryz.ntmps244;go_wp2_with (with_reducible refine P_ 214 ?_);apply Es;have KB:=J<|(H.new w (Em k) 214).alloc (Eb (Em (Ev 64)) 5);have KM:=J<|H.new' (w.alloc (Eb (Em k) 214)) (Em (Ev 64)) 5 (g:=w.heap.size+1) Ej;have u:=J<|JY w (Eb (Em k) 214) (Eb (Em (Ev 64)) 5);clear hmk;generalize (w.alloc (Eb (Em k) 214)).alloc (Eb (Em (Ev 64)) 5)=w1 at*;go_wp2_with (with_reducible refine wL vU KB ?_ (hn:=Rp));go_loopw[10] (fun y wr=> ∃i:Nat,i<=64/\y=E I i/\H wr (w.heap.size+1) (Em (part (aX k b) i)) 5/\El w wr) (fun y _=>64-(In y).toNat);case atStart=>exact⟨0,U,O,by rw[QJ,BI,HL.out];exact KM.out,u.out⟩
 case round=>
  clear KB KM u;obtain⟨i,hi,rfl,KM,u⟩:=hrel;have lt:(aX k b).length=64:=by rw[BI,HL.out]
  by_cases hlt:i<64;·have hix:=EZZ k HL.out i hlt;have c0:=KM.cell i;have f0:=KM.JZ i;rw[kB _ _ (by rw[zK _ _ U];omega)] at c0;have ST:=Gt (aX k b) i U;rw[EZO _ _ _ Hd] at ST;generalize k.getD i 0=x at*;have ST2:=J ST;have Hh:=J KM;have Jv:=J u;clear ST KM u lt;go_wp2_with fail;have h:=Hh.out.set i (E Ix (Ir .xor .u8 x b));rw[pg,ST2.out] at h;exact⟨⟨i+1,U,Ej,h,Jv.out.setCell Ej _⟩,Jb⟩
  ·obtain rfl:i=64:=U;rw[show((64:Nat):Int)=64 from rfl];rw[QO _ _ U] at KM;have Hh:=J KM;have Jv:=J u;clear KM u lt;go_wp2;go_ret;exact⟨O,Hh.out,Jv.out⟩
def fz(w:M)(cs:Array Y)(ps:List (List Int)):Prop:=cs.size=ps.length/\ ∀i (h:i<ps.length),∃A c,cs[i]?=D (.slice A ps[i].length c)/\Row w A ps[i]
theorem fz.B{ps:List (List Int)}(h:fz w cs ps)(hb:El w w'):fz w' cs ps:=⟨h.1,fun i hi=>by obtain⟨A,c,e,r⟩:=h.2 i hi;exact⟨A,c,e,It r hb⟩⟩
theorem RH{c d:Nat}{x y:List Int}(hn:x.length=n)(hm:y.length=m)(hx:Row w A x)(hy:Row w Y4 y):fz w #[G A n c,G Y4 m d] [x,y]:=by
 subst hn hm;refine⟨O,fun i hi=> ?_⟩;match i,hi with
 |0,_=>exact⟨A,c,O,hx⟩
 |1,_=>exact⟨Y4,d,O,hy⟩
theorem EZa(g m c:Nat)(cs:Array Y)(ps:List (List Int))(w:M)(hm:ps.length=m)(hk:H w g cs 23)(hp:fz w cs ps)(hs:ps.flatten.length<=100000000)(hm2:m<=1000): Eg EZ 243 #[G (D ⟨g,0,Z⟩) m c] w fun e w'=>(∃A d,e=Ei (G A ps.flatten.length d)/\Own w' w.heap.size A d ps.flatten)/\El w w':=by
 have HM:=J hm;have HK:=J hk;have HP:=J hp;have HS:=J hs;clear hm hk hp hs;go_enter Tryz.func243,Tryz.ntmps243;go_wp2_with fail;go_loopw[3,8] (fun x y wr=> ∃(i:Nat) (A:Option Ep) (d n:Nat),i<=m/\y=E I i/\x=G A n d/\(ps.take i).flatten.length=n/\Own wr w.heap.size A d (ps.take i).flatten/\El w wr) (fun _ y _=>m-(In y).toNat);case atStart=>exact⟨0,Z,0,0,U,O,O,O,XL _ _,IU _ _⟩
 case round=>
  obtain⟨i,A,d,n,hi,rfl,rfl,hn,ho,u⟩:=hrel;by_cases hlt:i<m
  ·have hil:i<ps.length:=Hi;obtain⟨Y4,c2,e2,r2⟩:=HP.out.2 i hil;have ck:=(HK.out.B u).cell i;rw[e2] at ck;have hst:(ps.take (i+1)).flatten=(ps.take i).flatten++ps[i]:=RM;have hle:(ps.take (i+1)).flatten.length<=100000000:=by have h1:=HS.out;have h2:ps.flatten=(ps.take (i+1)).flatten++(ps.drop (i+1)).flatten:=RV;rw[h2,IY] at h1;omega
   rw[hst,IY] at hle;exact EnW
  ·exact Epc
theorem R9(g c:Nat)(A Y4:Option Ep)(n m e d:Nat)(x y:List Int)(w:M)(hn:x.length=n)(hm:y.length=m)(hk:H w g #[G A n e,G Y4 m d] 23)(hx:Row w A x)(hy:Row w Y4 y)(hs:n+m<=100000000): Eg EZ 243 #[G (D ⟨g,0,Z⟩) 2 c] w fun e w'=>(∃A d,e=Ei (G A (n+m) d)/\Own w' w.heap.size A d (x++y))/\El w w':=by have h:=EZa g 2 c _ [x,y] w O hk (RH hn hm hx hy) I8 U;have e1:[x,y].flatten=x++y:=Ej;rw[e1,IY,hn,hm] at h;exact h
theorem EZb(hx:0<=x/\x<=255)(hy:0<=y/\y<=255):Ir .xor .u8 x y=0↔x=y:=by
 rw[u8_xor x y hx.1 U hy.1 U];constructor
 ·intro h;have h2:x.toNat^^^y.toNat=0:=U;have h3:x.toNat=y.toNat:=by apply Nat.eq_of_testBit_eq;intro i;have:=congrArg (fun n=>Nat.testBit n i) h2;simp only[Nat.testBit_xor,Nat.zero_testBit] at this;revert this;cases x.toNat.testBit i<;>cases y.toNat.testBit i<;>simp
  omega
 ·rintro rfl;simp
theorem EZc(hx:0<=x/\x<=255)(hy:0<=y/\y<=255):Ir .or .u8 x y=0↔x=0/\y=0:=by
 rw[u8_or x y hx.1 U hy.1 U]
 have key:x.toNat|||y.toNat=0↔x.toNat=0/\y.toNat=0:=by
  constructor
  ·intro h;have a: ∀i,x.toNat.testBit i=EI/\y.toNat.testBit i=EI:=by intro i;have:=congrArg (fun n=>Nat.testBit n i) h;simp only[Nat.testBit_or,Nat.zero_testBit,Bool.or_eq_false_iff] at this;exact this
   exact⟨Nat.eq_of_testBit_eq fun i=>by rw[(a i).1];simp,Nat.eq_of_testBit_eq fun i=>by rw[(a i).2];simp⟩
  ·rintro⟨h1,h2⟩;rw[h1,h2];rfl
 constructor;·intro h;have:=key.1 U;omega
 ·rintro⟨h1,h2⟩;have:=key.2 U;omega
theorem EZd(a b:Int):0<=Ir .or .u8 a b/\Ir .or .u8 a b<=255:=by unfold Ir;simp only;rw[IntKind.wrap_u8'];omega
theorem R_(A Y4:Option Ep)(x y:List Int)(n m c d:Nat)(w:M)(hn:x.length=n)(hm:y.length=m)(hx:Row w A x)(hy:Row w Y4 y)(hl:n<=1000000000)(hl2:m<=1000000000): Eg EZ 168 #[G A n c,G Y4 m d] w fun e w'=>e=Ei (Ec (decide (x=y)))/\w=w':=by
 by_cases hnm:n=m
 ·subst hnm;have HN:=J hn;have HM:=J hm;have HX:=J hx;have HY:=J hy;obtain⟨b,hb⟩:=JK (decide (x=y));rw[hb];have HB:=J hb;clear hn hm hx hy hb;go_enter Tryz.func168,Tryz.ntmps168;go_wp2_with fail;go_loop [5,15] (fun o y'=> ∃(i:Nat) (z:Int),i<=n/\y'=E I i/\o=E Ix z/\0<=z/\z<=255/\(z=0↔x.take i=y.take i)) (fun _ y'=>n-(In y').toNat);case atStart=>exact⟨0,0,U,O,O,U,U,Ej⟩
  case round=>
   obtain⟨i,z,hi,rfl,rfl,z0,z1,hz⟩:=hrel;by_cases hlt:i<n
   ·have hxi:i<x.length:=kV;have hyi:i<y.length:=Hi;rcases HX.out.1 with e|⟨g,o,rfl,hc⟩;·exfalso;rw[e] at hxi;simp at hxi
    rcases HY.out.1 with e|⟨g',o',rfl,hc'⟩;·exfalso;rw[e] at hyi;simp at hyi
    have c1:=hc i hxi;have c2:=hc' i hyi;have r1:=HX.out.2 x[i] (gh _);have r2:=HY.out.2 y[i] (gh _)
    have ST:Ir .or .u8 z (Ir .xor .u8 x[i] y[i])=0↔x.take (i+1)=y.take (i+1):=by
     rw[EZc ⟨z0,z1⟩ (Ry _ _),EZb r1 r2,hz,List.take_succ_eq_append_getElem hxi,List.take_succ_eq_append_getElem hyi];constructor;·rintro⟨h1,h2⟩;rw[h1,h2]
     ·intro h;have:=List.append_inj h I8;exact⟨this.1,by simpa using this.2⟩
    have OB:=EZd z (Ir .xor .u8 x[i] y[i]);have ST2:=J ST;have SE:=J OB;clear ST OB hz hc hc';generalize x[i]=p at*;generalize y[i]=q at*;go_wp2_with fail;exact⟨⟨i+1,_,U,Ej,O,SE.out.1,SE.out.2,ST2.out⟩,Jb⟩
   ·obtain rfl:i=n:=U;rw[OP sy,OP Hj] at hz;have e:(z==0)=b:=by rw[<-HB.out,Bool.eq_iff_iff];simp[hz]
    clear hz;exact Enu
 ·have hne:x≠y:=fun h=>hnm (by rw[<-hn,<-hm,h]);rw[IZ hne];have hne2:((n:Int) !=(m:Int))=EJ:=I8;clear hne hn hm hx hy;go_enter Tryz.func168,Tryz.ntmps168;exact Enu
theorem EZf{fr:Nat×Nat}(hg:W.heap[g]?=D (Eb cs t fr))(hc:cs=(xs.map (E .u8)).toArray)(hb: ∀x∈xs,0<=x/\x<=255): Row W (D ⟨g,0,Z⟩) xs:=by subst hc;refine⟨.inr ⟨g,0,O,fun i h=> ?_⟩,hb⟩;rw[cell_of_row W g (0+i) _ t fr hg];simp[h]
theorem EZg{v:Y}(h:PH .u8 w v):zq w v:=by
 rcases h with rfl|⟨x,len,cap,zs,rfl,hx,hl,hc,hz,hcell,hw⟩;·exact⟨Z,[],0,O,Ej,Ej,mQ _ _,fun _=>rfl⟩
 ·have hlen:(zs.take len).length=len:=mR;refine⟨D x,zs.take len,cap,by rw[hlen],U,U,⟨?_,fun y hy=>PM (hw y (iI hy))⟩,fun h=>UL⟩;rcases Nat.eq_zero_or_pos cap with h0|h0;·left;exact ZP U
  ·right;obtain⟨hb,hs⟩:=hx h0;obtain⟨b,off,spot⟩:=x;simp at hs;subst hs;refine⟨b,off,O,fun i hi=> ?_⟩;have hi':i<len:=U;have:=hcell i U;rw[Addr.add_mid] at this;exact Equ
theorem EZh:Od EZ 214 (Em (Ev 64)):=by intro ev o w ho;unfold Ig;simp only[ho];simp[go_sem];exact congrArg (fun c=>w.alloc (Eb c 214)) Ef
theorem sP:Od EZ 115 (Em (Ev 8)):=by intro ev o w ho;unfold Ig;simp only[ho];simp[go_sem];exact congrArg (fun c=>w.alloc (Eb c 115)) Ef
theorem bu:IL EZ 115 8:=⟨⟨_,Tryz.underlying115,O⟩,Ef⟩
def Hk(full x2 s1:List Int)(g7:Nat)(i:Nat)(v:Y)(w:M):Prop:=match i with
 |0=>v=Ea (Em full)
 |1=> ∃g,v=G (D ⟨g,0,Z⟩) 64 64/\Row w (D ⟨g,0,Z⟩) x2
 |2=>v=G (D ⟨g7,0,Z⟩) 32 32
 |3=> ∃g A,v=G (D ⟨g,0,Z⟩) 2 2/\H w g #[G A 64 64,G (D ⟨g7,0,Z⟩) 32 32] 23/\Row w A x2
 |4=> ∃A d,v=G A 96 d/\Row w A (x2++s1)
 |5=>v=Ea (Em (Zu (x2++s1)))
 |_=>True
theorem EZi(full x2 s1:List Int)(g7:Nat): ∀i v w w',i<6->Hk full x2 s1 g7 i v w->El w w'->Hk full x2 s1 g7 i v w':=by
 intro i v w w' hi h hb;match i,hi with
 |0,_=>exact h
 |1,_=> obtain⟨g,e,r⟩:=h;exact⟨g,e,It r hb⟩
 |2,_=>exact h
 |3,_=> obtain⟨g,A,e,k,r⟩:=h;exact⟨g,A,e,k.B hb,It r hb⟩
 |4,_=> obtain⟨A,d,e,r⟩:=h;exact⟨A,d,e,It r hb⟩
 |5,_=>exact h
 |_+6,hi=>exact absurd hi U
theorem SI(k:List Int)(hk:k.length<=64):putAt (Ev 64) 0 k=k++Ev (64-k.length):=by unfold putAt Ev;simp only[Iq,ZZ,Ox,List.drop_replicate]
theorem SJ(A Y4:Option Ep)(k b:List Int)(n m c d:Nat)(w:M)(hn:k.length=n)(hm:b.length=m)(hk:Row w A k)(hb:Row w Y4 b)(hl:n<=10000000)(hl2:m<=10000000)(hR:Ju w): Eg EZ 215 #[G A n c,G Y4 m d] w fun e w'=>e=Ei (Ea (Em (Oz k b)))/\El w w':=by
 have fB:=J hn;have vZ:=J hm;have Hl:=J hk;have Xq:=J hb;have RT:=J hR;obtain⟨ans,Hm⟩:=JK (Oz k b);rw[Hm];have EZj:=J Hm;clear hn hm hk hb hR Hm;go_enter Tryz.func215,Tryz.ntmps215;go_wp2_with (with_reducible first|refine wA fy ?_|refine wA EZh (Ex.mk ?_));apply Es;have K4:=J<|(H.new w (Em (Ev 32)) 41).alloc (Eb (Em (Ev 64)) 214);have K5:=J<|H.new' (w.alloc (Eb (Em (Ev 32)) 41)) (Em (Ev 64)) 214 (g:=w.heap.size+1) Ej;have u:=J<|JY w (Eb (Em (Ev 32)) 41) (Eb (Em (Ev 64)) 214);have lg:w.heap.size<w.heap.size+1:=U;generalize (w.alloc (Eb (Em (Ev 32)) 41)).alloc (Eb (Em (Ev 64)) 214)=w1 at*;generalize w.heap.size+1=g5 at*;by_cases ElL:64<(n:Int)
 case' pos=>
  go_wp2_with fail;refine(A_ A k n c w1 fB.out (It Hl.out u.out) U (RT.out.B u.out)).mono ?_;rintro e w2 ⟨rfl,b2⟩;have KL:=pG k;have KB:=vJ k;have hkk:keyed k=Zu k:=if_pos (by rw[fB.out];omega);generalize Zu k=sk at*;replace KL:=J KL;replace KB:=J KB;replace hkk:=J hkk;replace K4:=J<|K4.out.B b2;replace K5:=J<|K5.out.B b2;replace u:=EV u b2;have l2:=K5.out.lt;clear b2;go_wp2_with (with_reducible refine wA fy (Ex.mk ?_));apply Es;have bel:=Er w2 (Eb (Em (Ev 32)) 41);replace K4:=J<|K4.out.B bel;replace K5:=J<|K5.out.B bel;replace u:=EV u bel;have K6:=J<|H.new w2 (Em (Ev 32)) 41;clear bel;generalize w2.alloc (Eb (Em (Ev 32)) 41)=w3 at*;generalize w2.heap.size=g6 at*;go_wp2_with (with_reducible refine wS (cs:=Em sk) UX K6 (Ex.mk ?_) (ho:=XP) (hn:=SU) (h1:=X6 _));apply Es;replace K4:=J<|K4.out.setRow_other g6 (Em sk) U;replace K5:=J<|K5.out.setRow_other g6 (Em sk) U;replace K6:=J<|K6.out.setRow (Em sk);replace u:=J<|EY (g:=g6) u.out U (Em sk);generalize w3.setRow g6 (Em sk)=w4 at*;go_wp2_with fail;refine uF 2 Ef Ef ?_;simp only[Is,Iq,IT,IM];repeat (go_big_quiet_step (fail))
  refine I5 ?_;intro _ hw';obtain⟨nq,rfl⟩:=hw';replace K4:=J<|K4.out.drewN nq;replace K5:=J<|K5.out.drewN nq;have vb:=J<|iZ (K6.out.drewN nq) KB.out;replace u:=J<|jk u.out nq;generalize w4.drewN nq=w4 at*;(with_reducible refine kD ?_ g5 0 64 64 (Ev 64) 214 (D ⟨g6,0,Z⟩) 32 32 sk 32 (D ⟨g5,0,Z⟩) ?_ K5 KL.out vb ?_ ?_ ?_ ?_);·exact Eh O
  ·exact Eps
  ·rfl
  ·rw[gU];omega
  ·exact EqG
  intro w5 k_ b5 o5 s5;have e5:putAt (Ev 64) 0 (sk.take 32)=gD k:=by have h1:=KL.out;rw[OP U,SI sk U];unfold gD;rw[hkk.out]
  rw[e5] at k_;replace K4:=J<|show H w5 w.heap.size (Em (Ev 32)) 41 from(o5 _ U).trans K4.out;replace u:=J<|u.out.trans (b5.mono U);clear K5 K6 o5 s5 b5 e5 vb hkk
 case' neg=>
  go_wp2_with ((with_reducible show Ib _ _ _ (⟨D 18,_,_,_,_,Z⟩::_) _ _);refine Ex.mk ?_);apply Es;have vb:=J<|It Hl.out u.out;(with_reducible refine kD ?_ g5 0 64 64 (Ev 64) 214 A n c k n (D ⟨g5,0,Z⟩) ?_ K5 fB.out vb ?_ ?_ ?_ ?_);·exact Eh O
  ·exact Eps
  ·exact Nat.min_eq_left U
  ·rw[gU];omega
  ·exact EqG
  intro w5 k_ b5 o5 s5;have e5:putAt (Ev 64) 0 (k.take n)=gD k:=by have h1:=fB.out;rw[OP U,SI k U];have h2:keyed k=k:=if_neg U;unfold gD;rw[h2]
  rw[e5] at k_;replace K4:=J<|show H w5 w.heap.size (Em (Ev 32)) 41 from(o5 _ U).trans K4.out;replace u:=J<|u.out.trans (b5.mono U);clear K5 o5 s5 b5 e5 vb
 all_goals
  have K5:=k_
  clear k_
  replace K5:=J K5
  have pL:=EZJ Hl.out.2
  have iq:=EZI k
  have Hn:Oz k b=Zu (aX (gD k) 92++Zu (aX (gD k) 54++b)):=rfl
  generalize gD k=full at*
  rw[EZj.out] at Hn
  replace pL:=J pL
  replace iq:=J iq
  have HM:=J Hn
  clear Hn
  have C1:=J (RF full 54 · iq.out U)
  have C2:=J (RF full 92 · iq.out U)
  have BU:(aX full 54).length=64:=by rw[BI,iq.out]
  have Ba:(aX full 92).length=64:=by rw[BI,iq.out]
  have Ho:=Rz full 54
  have Hp:=Rz full 92
  generalize aX full 54=x1 at*
  generalize aX full 92=x2 at*
  replace BU:=J BU
  replace Ba:=J Ba
  replace Ho:=J Ho
  replace Hp:=J Hp
  go_wp2_with (with_reducible refine wL vU K5 ?_ (hn:=by with_unfolding_all (rw[Ob,iq.out])))
  refine(C1.out _).mono ?_
  rintro e w6 ⟨rfl,KT,b6⟩
  replace K4:=J<|K4.out.B b6
  replace K5:=J<|K5.out.B b6
  replace u:=EV u b6
  have sN:=J<|iZ KT Ho.out
  clear b6 KT
  generalize (w5.heap.size+1)=gt at*
  go_wp2_with (go_at_call 243;refine Ex.mk ?_)
  apply Es
  have bl:=Er w6 (Eb #[G (D ⟨gt,0,Z⟩) 64 64,G Y4 m d] 23)
  have KJ:=H.new w6 #[G (D ⟨gt,0,Z⟩) 64 64,G Y4 m d] 23
  replace sN:=J<|It sN.out bl
  replace K4:=J<|K4.out.B bl
  replace K5:=J<|K5.out.B bl
  replace u:=EV u bl
  clear bl
  generalize w6.alloc (Eb #[G (D ⟨gt,0,Z⟩) 64 64,G Y4 m d] 23)=w7 at*
  refine(R9 w6.heap.size 2 (D ⟨gt,0,Z⟩) Y4 64 m 64 d x1 b w7 BU.out vZ.out KJ sN.out (It Xq.out u.out) U).mono ?_
  rintro e w8 ⟨⟨A1,d1,rfl,o1⟩,b8⟩
  replace K4:=J<|K4.out.B b8
  replace K5:=J<|K5.out.B b8
  replace u:=EV u b8
  clear b8 KJ
  have RJ:=J o1.row
  have LJ:(x1++b).length=64+m:=by rw[IY,BU.out,vZ.out]
  clear o1
  generalize hJ:x1++b=j1 at*
  replace LJ:=J LJ
  replace hJ:=J hJ
  go_wp2_with fail
  refine(A_ A1 j1 (64+m) d1 w8 LJ.out RJ.out U (RT.out.B u.out)).mono ?_
  rintro e w9 ⟨rfl,b9⟩
  replace K4:=J<|K4.out.B b9
  replace K5:=J<|K5.out.B b9
  replace u:=EV u b9
  have l9:=K5.out.lt
  clear b9 RJ
  have vc:=pG j1
  have Hq:=vJ j1
  generalize hS:Zu j1=s1 at*
  replace hS:=J hS
  replace vc:=J vc
  replace Hq:=J Hq
  go_wp2_with (with_reducible refine wA fy (Ex.mk ?_))
  apply Es
  have bel:=Er w9 (Eb (Em (Ev 32)) 41)
  replace K4:=J<|K4.out.B bel
  replace K5:=J<|K5.out.B bel
  replace u:=EV u bel
  have K7:=J<|H.new w9 (Em (Ev 32)) 41
  clear bel
  generalize w9.alloc (Eb (Em (Ev 32)) 41)=U8 at*
  generalize w9.heap.size=g7 at*
  go_wp2_with (with_reducible refine wS (cs:=Em s1) UX K7 (Ex.mk ?_) (ho:=XP) (hn:=by with_unfolding_all (rw[Ob,vc.out])) (h1:=X6 _))
  apply Es
  replace K4:=J<|K4.out.setRow_other g7 (Em s1) U
  replace K5:=J<|K5.out.setRow_other g7 (Em s1) U
  replace K7:=J<|K7.out.setRow (Em s1)
  replace u:=J<|EY (g:=g7) u.out U (Em s1)
  generalize U8.setRow g7 (Em s1)=fC at*
  go_wp2_with fail
  refine ZV ER Ef 6 Ef Ej EU (Hk full x2 s1 g7) (EZi full x2 s1 g7) ?_ ?_
  ·simp only[Xl,Is,Iq,EM,Ih,Ik,Ic,If,and_true];refine⟨?_,?_,?_,?_,?_,?_⟩;all_goals intro v w' hb hd
   ·exact zM ER (g:=g5) (cs:=Em full) vU (Eh O) ⟨O,O⟩ (K5.out.B hb) (by rw[Ob,iq.out]) O
   ·have d0:v 0=_:=hd ⟨0,.data⟩ Ej O;refine J4 (f:=244) (args:= #[v 0,E Ix 92]) (Eh O) Ez ?_;rw[d0];exact(C2.out w').mono fun e w'' ⟨he,hk,hb'⟩=>⟨_,he,hb',_,O,iZ hk Hp.out⟩
   ·exact EnB
   ·obtain⟨g,d1,r1⟩: ∃g,v 1=G (D ⟨g,0,Z⟩) 64 64/\Row w' (D ⟨g,0,Z⟩) x2:=hd ⟨1,.data⟩ Ej O;have d2:v 2=_:=hd ⟨2,.data⟩ Ej O;refine Z9 (v:=G (D ⟨w'.heap.size,0,Z⟩) 2 2) (w':=w'.alloc (Eb #[G (D ⟨g,0,Z⟩) 64 64,G (D ⟨g7,0,Z⟩) 32 32] 23)) (Eh O) (by simp[go_sem,d1,d2]) (Er _ _) ⟨_,_,O,H.new _ _ _,It r1 (Er _ _)⟩
   ·obtain⟨g,A,d3,k3,r3⟩: ∃g A,v 3=G (D ⟨g,0,Z⟩) 2 2/\H w' g #[G A 64 64,G (D ⟨g7,0,Z⟩) 32 32] 23/\Row w' A x2:=hd ⟨3,.data⟩ Ej O;refine J4 (f:=243) (args:= #[v 3]) (Eh O) Ez ?_;rw[d3];exact(R9 g 2 A (D ⟨g7,0,Z⟩) 64 32 64 32 x2 s1 w' Ba.out vc.out k3 r3 (iZ (K7.out.B hb) Hq.out) U).mono fun e w'' ⟨⟨A1,d1,he,o1⟩,hb'⟩=>⟨_,he,hb',_,_,O,o1.row⟩
   ·obtain⟨A,d,d4,r4⟩: ∃A d,v 4=G A 96 d/\Row w' A (x2++s1):=hd ⟨4,.data⟩ Ej O;refine J4 (f:=82) (args:= #[v 4]) (Eh O) Ez ?_;rw[d4];exact(A_ A (x2++s1) 96 d w' (by rw[IY,Ba.out,vc.out]) r4 U (RT.out.B (bt u.out hb))).mono fun e w'' ⟨he,hb'⟩=>⟨_,he,hb',O⟩
  ·intro v w' hb hr;have d5:v 5=Ea (Em (Zu (x2++s1))):=hr 5 U;simp only[Is,Iq,IT,IM,EM,Ih,Ik,Ic,If];have ea:Zu (x2++s1)=ans:=HM.out.symm;rw[ea] at d5;have AL:ans.length=32:=by rw[<-ea,pG]
   rw[d5];replace K4:=J<|K4.out.B hb;replace u:=EV u hb;replace AL:=J AL;clear hr hb d5 ea;go_wp2_with (with_reducible refine wS (cs:=Em ans) UX K4 ?_ (ho:=XP) (hn:=SX) (h1:=X6 _));refine ET (v:=Ea (Em ans)) (Jd UX O _ _ (w.heap.size) _ O (K4.out.setRow _) (by rw[Ob,AL.out])) O ⟨O,EY u.out U _⟩
end Go.Proofs.YtclmichaaiohjaaGreatDoor
