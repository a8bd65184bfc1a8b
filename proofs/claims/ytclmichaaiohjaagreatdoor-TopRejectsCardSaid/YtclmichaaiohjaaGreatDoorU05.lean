import Derived.Test.YtclmichaaiohjaaGreatDoorU04
import Derived.ArgAppend
set_option maxRecDepth 100000
set_option linter.unusedVariables false
set_option linter.unusedSimpArgs false
set_option maxHeartbeats 6400000
namespace Go.Proofs.YtclmichaaiohjaaGreatDoor
open RowKit
open _root_.Array renaming getElem?_eq_none->gQ
open Bool renaming true->EI,false->B,and_eq_true->Oc,false_eq_true->kO
open Go renaming bits->Iu,World->H,Calls->Ef,TypeId->EB,Value->Y,Addr->Eu,bodyPost_ret->EV,binOp->XW,Exit->UM,Act->E6,Oper->EL,yielded->JO,execOp->If,wpList->Ic,Operand->J7,info_parts->bz,below_setRow->E2,wpQuiet_nil->I1,callFunc->Jd,wp_loop_rounds->Ud,rounds_succ->Ij,Ending->Uh,wpList_store_mid->Ui
open Act renaming put->Ig
open Builtin renaming append_->bv
open Ending renaming returned->Eg
open Instr renaming index->Uj
open IntKind renaming wrap->oI,i64->I,u8->IL,u64->Im
open Lib renaming hid->J
open Obj renaming cells->EJ
open Go.Proofs.Tryz renaming prog->Eb,underlying23->bA,func212->nX,ntmps212->nZ
open Region renaming wanted->I5
open Result renaming andThen_ok->OC
open RowKit renaming Below->Ik,Hid->Ec,intOf->Ir
open RowKit.Below renaming refl->E9,heap_setCell->XK
open Sem renaming run_bind->Oz,run_pure->Og
open Value renaming bool->EU,int->E,agg->EZ,slice->G,tuple->Et,pointer->M,oneCell'->OF
open World renaming setCell->dN
open List renaming getElem?_eq_none->bf,mem_of_mem_take->fy,eq_nil_of_length_eq_zero->aF,getElem?_eq_getElem->J5,range->U4,mem_cons_of_mem->aJ,mem_cons_self->gS,nodup_cons->mc,all_eq_true->Xk,take_append_drop->gT,take_succ_cons->Iq,length_take->aO,take_of_length_le->OY,getD_eq_getElem?_getD->Uq,map_cons->Uv,map_nil->Xn,take_zero->Io,mem_map->dU,getElem?_toArray->OE,setIfInBounds_toArray->Ii,length_append->IY,length_cons->ZC,mem_cons->UJ,getElem_mem->gY,set_cons_succ->Ia,set_cons_zero->Ib,mem_append->XM,map_append->kU,getElem?_cons_zero->kZ,not_mem_nil->UA,drop_succ_cons->IP,drop_zero->IH,append_nil->fS,take_add_one->nE,all_nil->ah,all_cons->Z0,foldl_cons->jk,foldl_nil->jl
open List.cons renaming injEq->co
open Nat renaming lt_or_ge->JY,le_trans->Ez,le_refl->E7,reduceAdd->ZK
open Option renaming some->Z,none->X
open Option.some renaming inj->dQ
variable{d:FD}{bs l z:List Int}{ds:List FD}{k:Int}{w:H}{base gm cap:Nat}{A:Option Eu}{fs:List (FD×Nat)}
theorem EZp(hd:d.uC)(hb: ∀x∈bs,0<=x/\x<=255)(hl:bs.length=wd d)(h1: ¬ZX d bs<d.lo)(h2: ¬d.hi<ZX d bs):rQ d (ZX d bs)=Z bs:=by
 unfold rQ;rw[if_neg h1,if_neg h2];have e:=EJY bs hb;have hn:=ua bs hb bs.length U;rw[List.take_length] at hn;by_cases h3:d.lo<0
 ·rw[if_pos h3];have h2':bs.length=2:=by rw[hl];unfold wd;rw[if_pos h3]
  unfold ZX;rw[if_pos h3];rw[h2'] at e hn;have h65:num bs<65536:=hn.2;have:sig bs%65536=num bs:=by unfold sig;split<;>omega
  rw[this,e]
 ·rw[if_neg h3];have hk:d.size.toNat=bs.length:=by rw[hl,hd.size];simp
  unfold ZX;rw[if_neg h3,hk,e]
theorem Ry(ds:List FD)(l:List Int)(hl:l.length=12)(hd: ∀d∈ds,d.off<12)(o:Nat)(h: ∃d∈ds,d.off=o):(J2 ds l).getD o 0=0:=by
 induction ds generalizing l with
 |nil=>obtain⟨d,hd,_⟩:=h;cases hd
 |cons d ds ih=>
  show(J2 ds (l.set d.off 0)).getD o 0=0;by_cases hex: ∃e∈ds,e.off=o;·exact ih _ (by rw[List.length_set];exact hl) (fun d h=>hd d (aJ _ h)) hex
  ·rw[rT ds _ o (fun e he hh=>hex ⟨e,he,hh⟩)];obtain⟨e,he,uK⟩:=h;rcases UJ.1 he with rfl|he;·subst uK;have h12:=hd e gS;simp[Uq,hl,h12]
   ·exact absurd ⟨e,he,uK⟩ hex
theorem Rz{p:List Int}(h:cZ ds l=Z p): ∀d∈ds,d.lo<=l.getD d.off 0/\l.getD d.off 0<=d.hi:=by
 induction ds generalizing p with
 |nil=>intro d hd;cases hd
 |cons e ds ih=>
  obtain⟨a,b,h1,h2,rfl⟩:=EZa h;intro d hd;rcases UJ.1 hd with rfl|hd
  ·unfold rQ at h1;split at h1;·cases h1
   split at h1;·cases h1
   omega
  ·exact ih h2 d hd
theorem EZq(hf: ∀d∈ds,d.uC)(hnd:(ds.map (·.off)).Nodup){xs:List Int}(hl:l.length=12)(hb: ∀x∈xs,0<=x/\x<=255)(h:fY ds l xs=Z z): cZ ds z=Z xs/\J2 ds z=J2 ds l/\z.length=12/\(∀o,(∀d∈ds,d.off≠o)->z.getD o 0=l.getD o 0):=by
 induction ds generalizing l xs with
 |nil=>
  simp only[fY] at h;split at h;·rename_i h0;injection h with h;subst h;refine⟨?_,rfl,hl,fun _ _=>rfl⟩;rw[aF h0];rfl
  ·cases h
 |cons d ds ih=>
  simp only[fY] at h;split at h;·cases h
  split at h;·cases h
  split at h;·cases h
  rename_i g1 g2 g3;rw[Uv,mc] at hnd;have hd:=hf d gS;have h12:=hd.good.ok.1;obtain⟨r1,r2,r3,r4⟩:=ih (fun d h=>hf d (aJ _ h)) hnd.2 (by rw[List.length_set];exact hl) (fun x hx=>hb x (List.mem_of_mem_drop hx)) h;have hno: ∀e∈ds,e.off≠d.off:=fun e he hh=>hnd.1 (by rw[<-hh];exact List.mem_map_of_mem he);have hz:=r4 d.off hno;have hset:(l.set d.off (ZX d (xs.take (wd d)))).getD d.off 0=ZX d (xs.take (wd d)):=by simp[Uq,hl,h12]
  rw[hset] at hz;have ho:=EZp hd (fun x hx=>hb x (fy hx)) l_ g2 g3;refine⟨?_,?_,r3,fun o ho'=> ?_⟩;·simp only[cZ];rw[hz,ho,r1];simp only[gT]
  ·apply Rp (by rw[An];exact r3) (by rw[An];exact hl);intro o EjP;by_cases hh: ∃e∈d::ds,e.off=o
   ·have zz: ∀l':List Int,l'.length=12->(J2 (d::ds) l').getD o 0=0:=by
     intro l' hl';show(J2 ds (l'.set d.off 0)).getD o 0=0;obtain⟨e,he,uK⟩:=hh;by_cases hex: ∃e∈ds,e.off=o;·have:=Ry ds (l'.set d.off 0) (by rw[List.length_set];exact hl') (fun d h=>(hf d (aJ _ h)).good.ok.1) o hex;exact this
     ·rw[rT ds _ o (fun e he hh=>hex ⟨e,he,hh⟩)];rcases UJ.1 he with rfl|he;·subst uK;simp[Uq,hl',h12]
      ·exact absurd ⟨e,he,uK⟩ hex
    rw[zz z r3,zz l hl]
   ·have hn: ∀e∈d::ds,e.off≠o:=fun e he hh'=>hh ⟨e,he,hh'⟩;rw[rT _ _ o hn,rT _ _ o hn,r4 o fun e he=>hn e (aJ _ he)];simp[Uq,List.getElem?_set_ne (hn d gS)]
  ·rw[r4 o fun e he=>ho' e (aJ _ he)];simp[Uq,List.getElem?_set_ne (ho' d gS)]
theorem EZr(h:ag k=Z ds):(ds.map (·.off)).Nodup:=by
 unfold ag at h;repeat' split at h
 all_goals first
  |(cases h;done)
  |(injection h with h
    subst h
    decide)
theorem G5(hb: ∀x∈bs,0<=x/\x<=255)(h:fJ bs=Z z):rR z=Z bs/\mC z:=by
 unfold fJ at h;cases bs with
 |nil=>cases h
 |cons k xs=>
  simp only at h;cases hf:ag k with
  |none=>rw[hf] at h;cases h
  |some ds=>
   rw[hf] at h;simp only at h;have uL:=Rq hf;obtain⟨r1,r2,r3,r4⟩:=EZq uL (EZr hf) (show(IZ k).length=12 from rfl) (fun x hx=>hb x (aJ _ hx)) h;have h0:z.getD 0 0=k:=(r4 0 fun d hd=>by have:=(uL d hd).good.off1;omega).trans O
   have hzz:J2 ds (IZ k)=IZ k:=by
    apply Rp (by rw[An];rfl) O;intro o ho;by_cases hh: ∃e∈ds,e.off=o;·rw[Ry ds (IZ k) O (fun d h=>(uL d h).good.ok.1) o hh];obtain⟨e,he,rfl⟩:=hh;have h1:=(uL e he).good.off1;have ho':e.off=1\/e.off=2\/e.off=3\/e.off=4\/e.off=5\/e.off=6\/e.off=7\/e.off=8\/e.off=9\/e.off=10\/e.off=11:=U;rcases ho' with h|h|h|h|h|h|h|h|h|h|h<;>rw[h]<;>rfl
    ·exact rT ds _ o fun e he hh'=>hh ⟨e,he,hh'⟩
   refine⟨?_,r3,?_⟩;·unfold rR;rw[h0,hf];simp only[r1];rw[if_pos (r2.trans hzz)]
   ·by_cases hh: ∃d∈ds,d.off=7;·obtain⟨d,hd,h7⟩:=hh;have G6:=uL d hd;have hin:=Rz r1 d hd;have:=G6.now h7;rw[h7] at hin;omega
    ·left;rw[r4 7 fun d hd e=>hh ⟨d,hd,e⟩];rfl
def f9(n lo hi:Int):Bool:=decide (lo<=n)&&decide (n<=hi)
def EZs(k s r t e m c n x0 x1 x2 x3:Int):List Int:=
 if k=1\/k=2 then [k,0,r,0,0,0,0,0,0,0,0,0] else if k=5 then [k,s,0,0,0,0,0,n,0,0,0,0] else if k=6 then [k,s,0,t,0,0,0,0,0,0,0,0] else if k=7 then [k,s,0,0,e,0,0,0,0,0,0,0]
 else if k=10 then [k,s,0,0,e,m,0,0,0,0,0,0] else if k=11 then [k,s,0,0,e,0,c,0,x0,x1,x2,x3] else [k,s,0,0,0,0,0,0,0,0,0,0]
def G7(a0 a1 a2 a3 a4 a5 a6 a8 a9 UX OU:Int):Bool:=f9 a8 (-32768) 32767&&f9 a9 (-32768) 32767&&f9 UX (-32768) 32767&&f9 OU (-32768) 32767&&f9 a0 1 11&&f9 a1 0 4294967295&&f9 a4 0 65535&&f9 a2 0 3&&f9 a3 0 4&&f9 a5 0 4&&f9 a6 (if a0=11 then 1 else 0) 3
theorem G8(a0 a1 a2 a3 a4 a5 a6 a8 a9 UX OU:Int):G7 a0 a1 a2 a3 a4 a5 a6 a8 a9 UX OU=EI↔(-32768<=a8/\a8<=32767)/\(-32768<=a9/\a9<=32767)/\(-32768<=UX/\UX<=32767)/\(-32768<=OU/\OU<=32767)/\(1<=a0/\a0<=11)/\(0<=a1/\a1<=4294967295)/\(0<=a4/\a4<=65535)/\(0<=a2/\a2<=3)/\(0<=a3/\a3<=4)/\(0<=a5/\a5<=4)/\((if a0=11 then 1 else 0)<=a6/\a6<=3):=by
 unfold G7 f9;simp only[Oc,decide_eq_true_iff];constructor;·rintro⟨⟨⟨⟨⟨⟨⟨⟨⟨⟨h1,h2⟩,h3⟩,h4⟩,h5⟩,h6⟩,h7⟩,h8⟩,h9⟩,h10⟩,h11⟩;exact⟨h1,h2,h3,h4,h5,h6,h7,h8,h9,h10,h11⟩
 ·rintro⟨h1,h2,h3,h4,h5,h6,h7,h8,h9,h10,h11⟩;exact⟨⟨⟨⟨⟨⟨⟨⟨⟨⟨h1,h2⟩,h3⟩,h4⟩,h5⟩,h6⟩,h7⟩,h8⟩,h9⟩,h10⟩,h11⟩
theorem RF(a0 a1 a2 a3 a4 a5 a6 a7 a8 a9 UX OU:Int)(bs:List Int)(h:rR [a0,a1,a2,a3,a4,a5,a6,a7,a8,a9,UX,OU]=Z bs):G7 a0 a1 a2 a3 a4 a5 a6 a8 a9 UX OU=EI/\EZs a0 a1 a2 a3 a4 a5 a6 a7 a8 a9 UX OU=[a0,a1,a2,a3,a4,a5,a6,a7,a8,a9,UX,OU]:=by
 obtain⟨ds,ps,f1,o1,z1,-⟩:=Ro h;have hin:=Rz o1;rw[show([a0,a1,a2,a3,a4,a5,a6,a7,a8,a9,UX,OU]:List Int).getD 0 0=a0 from rfl] at f1 z1;obtain⟨k1,k11,-,-⟩:=Al f1;have hk:a0=1\/a0=2\/a0=3\/a0=4\/a0=5\/a0=6\/a0=7\/a0=8\/a0=9\/a0=10\/a0=11:=U;rw[G8];rcases hk with rfl|rfl|rfl|rfl|rfl|rfl|rfl|rfl|rfl|rfl|rfl;·obtain rfl:[XU]=ds:=dQ f1;simp only[J2,IZ,jk,jl,XU,Ia,Ib,ZK,co,true_and,and_true] at z1;obtain⟨rfl,rfl,rfl,rfl,rfl,rfl,rfl,rfl,rfl,rfl⟩:=z1;have gr:=hin (XU) Eh;replace gr:(0:Int)<=a2/\a2<=3:=gr;refine⟨?_,O⟩;simp only[if_true,show¬(1:Int)=11 from Ea,if_false];omega
 ·obtain rfl:[XU]=ds:=dQ f1;simp only[J2,IZ,jk,jl,XU,Ia,Ib,ZK,co,true_and,and_true] at z1;obtain⟨rfl,rfl,rfl,rfl,rfl,rfl,rfl,rfl,rfl,rfl⟩:=z1;have gr:=hin (XU) Eh;replace gr:(0:Int)<=a2/\a2<=3:=gr;refine⟨?_,O⟩;simp only[if_true,show¬(2:Int)=11 from Ea,if_false];omega
 ·obtain rfl:[Ih]=ds:=dQ f1;simp only[J2,IZ,jk,jl,Ih,Ia,Ib,ZK,co,true_and,and_true] at z1;obtain⟨rfl,rfl,rfl,rfl,rfl,rfl,rfl,rfl,rfl,rfl⟩:=z1;have gs:=hin (Ih) Eh;replace gs:(0:Int)<=a1/\a1<=4294967295:=gs;refine⟨?_,O⟩;simp only[if_true,show¬(3:Int)=11 from Ea,if_false];omega
 ·obtain rfl:[Ih]=ds:=dQ f1;simp only[J2,IZ,jk,jl,Ih,Ia,Ib,ZK,co,true_and,and_true] at z1;obtain⟨rfl,rfl,rfl,rfl,rfl,rfl,rfl,rfl,rfl,rfl⟩:=z1;have gs:=hin (Ih) Eh;replace gs:(0:Int)<=a1/\a1<=4294967295:=gs;refine⟨?_,O⟩;simp only[if_true,show¬(4:Int)=11 from Ea,if_false];omega
 ·obtain rfl:[Ih,di]=ds:=dQ f1;simp only[J2,IZ,jk,jl,di,Ih,Ia,Ib,ZK,co,true_and,and_true] at z1;obtain⟨rfl,rfl,rfl,rfl,rfl,rfl,rfl,rfl,rfl⟩:=z1;have gs:=hin (Ih) Eh;replace gs:(0:Int)<=a1/\a1<=4294967295:=gs;have gn:=hin (di) Eh;replace gn:(0:Int)<=a7/\a7<=1:=gn;refine⟨?_,O⟩;simp only[if_true,show¬(5:Int)=11 from Ea,if_false];omega
 ·obtain rfl:[Ih,Ja]=ds:=dQ f1;simp only[J2,IZ,jk,jl,Ih,Ja,Ia,Ib,ZK,co,true_and,and_true] at z1;obtain⟨rfl,rfl,rfl,rfl,rfl,rfl,rfl,rfl,rfl⟩:=z1;have gs:=hin (Ih) Eh;replace gs:(0:Int)<=a1/\a1<=4294967295:=gs;have gt:=hin (Ja) Eh;replace gt:(0:Int)<=a3/\a3<=4:=gt;refine⟨?_,O⟩;simp only[if_true,show¬(6:Int)=11 from Ea,if_false];omega
 ·obtain rfl:[Ih,IQ]=ds:=dQ f1;simp only[J2,IZ,jk,jl,IQ,Ih,Ia,Ib,ZK,co,true_and,and_true] at z1;obtain⟨rfl,rfl,rfl,rfl,rfl,rfl,rfl,rfl,rfl⟩:=z1;have gs:=hin (Ih) Eh;replace gs:(0:Int)<=a1/\a1<=4294967295:=gs;have ge:=hin (IQ) Eh;replace ge:(0:Int)<=a4/\a4<=65535:=ge;refine⟨?_,O⟩;simp only[if_true,show¬(7:Int)=11 from Ea,if_false];omega
 ·obtain rfl:[Ih]=ds:=dQ f1;simp only[J2,IZ,jk,jl,Ih,Ia,Ib,ZK,co,true_and,and_true] at z1;obtain⟨rfl,rfl,rfl,rfl,rfl,rfl,rfl,rfl,rfl,rfl⟩:=z1;have gs:=hin (Ih) Eh;replace gs:(0:Int)<=a1/\a1<=4294967295:=gs;refine⟨?_,O⟩;simp only[if_true,show¬(8:Int)=11 from Ea,if_false];omega
 ·obtain rfl:[Ih]=ds:=dQ f1;simp only[J2,IZ,jk,jl,Ih,Ia,Ib,ZK,co,true_and,and_true] at z1;obtain⟨rfl,rfl,rfl,rfl,rfl,rfl,rfl,rfl,rfl,rfl⟩:=z1;have gs:=hin (Ih) Eh;replace gs:(0:Int)<=a1/\a1<=4294967295:=gs;refine⟨?_,O⟩;simp only[if_true,show¬(9:Int)=11 from Ea,if_false];omega
 ·obtain rfl:[Ih,IQ,cE]=ds:=dQ f1;simp only[J2,IZ,jk,jl,IQ,cE,Ih,Ia,Ib,ZK,co,true_and,and_true] at z1;obtain⟨rfl,rfl,rfl,rfl,rfl,rfl,rfl,rfl⟩:=z1;have gs:=hin (Ih) Eh;replace gs:(0:Int)<=a1/\a1<=4294967295:=gs;have ge:=hin (IQ) Eh;replace ge:(0:Int)<=a4/\a4<=65535:=ge;have gm:=hin (cE) Eh;replace gm:(0:Int)<=a5/\a5<=4:=gm;refine⟨?_,O⟩;simp only[if_true,show¬(10:Int)=11 from Ea,if_false];omega
 ·obtain rfl:[Ih,IQ,dj,JC 0,JC 1,JC 2,JC 3]=ds:=dQ f1;simp only[J2,IZ,jk,jl,JC,dj,IQ,Ih,Ia,Ib,ZK,co,true_and,and_true] at z1;obtain⟨rfl,rfl,rfl,rfl⟩:=z1;have gs:=hin (Ih) Eh;replace gs:(0:Int)<=a1/\a1<=4294967295:=gs;have ge:=hin (IQ) Eh;replace ge:(0:Int)<=a4/\a4<=65535:=ge;have gc:=hin (dj) Eh;replace gc:(1:Int)<=a6/\a6<=3:=gc;have RH:=hin (JC 0) Eh;replace RH:(-32768:Int)<=a8/\a8<=32767:=RH;have RM:=hin (JC 1) Eh;replace RM:(-32768:Int)<=a9/\a9<=32767:=RM;have RV:=hin (JC 2) Eh;replace RV:(-32768:Int)<=UX/\UX<=32767:=RV;have R4:=hin (JC 3) Eh;replace R4:(-32768:Int)<=OU/\OU<=32767:=R4;refine⟨?_,O⟩;simp only[if_true];omega
structure G9 where
 tab:EQ
 msg:List Int
 code:Int
def ai(T:EQ)(i:Nat)(bs:List Int):G9:=match fJ bs with
 |none=>⟨T,IZ 0,13⟩
 |some l=>if l.getD 0 0=1\/l.getD 0 0=2 then⟨T,IZ 0,13⟩
  else if(Zc (T.E4 i).win (l.getD 1 0).toNat).2 then⟨T.put i ⟨EI,0,max T.In 0,(T.E4 i).r,(T.E4 i).key,(Zc (T.E4 i).win (l.getD 1 0).toNat).1⟩,l,0⟩
  else⟨T,IZ 0,15⟩
def uM(key:List Int)(src:Int)(xs:List Int):Prop:=8<=xs.length/\xs=xs.take (xs.length-8)++dg key src (xs.take (xs.length-8))
instance(key:List Int)(src:Int)(xs:List Int):Decidable (uM key src xs):=by unfold uM;exact inferInstance
def EQ.take(T:EQ)(src:Int)(xs:List Int):G9:=
 if(src=1\/src=2\/src=3)/\(T.E4 (src-1).toNat).on=EI then
  (if uM (T.E4 (src-1).toNat).key src xs then ai T (src-1).toNat (xs.take (xs.length-8)) else⟨T,IZ 0,14⟩)
 else⟨T,IZ 0,16⟩
def R9(o:G9)(g:Nat)(w:H)(e:Uh)(w':H):Prop:=e=Eg (Et #[EZ (ED o.msg),E I o.code])/\Il w' g o.tab/\E3 g w w'
theorem R_(hb: ∀x∈bs,0<=x/\x<=255)(h:fJ bs=Z l):0<=l.getD 1 0/\l.getD 1 0<=4294967295:=by
 obtain⟨hp,hl,-⟩:=G5 hb h;match l,hl with
 |[a0,a1,a2,a3,a4,a5,a6,a7,a8,a9,UX,OU],_=> obtain⟨hf,-⟩:=RF a0 a1 a2 a3 a4 a5 a6 a7 a8 a9 UX OU bs hp;exact((G8 _ _ _ _ _ _ _ _ _ _ _).1 hf).2.2.2.2.2.1
theorem G_(pre old post:List Y)(o n:Nat)(ho:pre.length=o)(hn:old.length=n):(pre++(old++post)).toArray.extract o (o+n)=old.toArray:=by subst ho hn;simp
theorem EZt(T:EQ)(h:T.ok)(i:Nat):T.v.toArray.extract (so i+4) (so i+4+32)=Ej (T.E4 i).key:=by rw[T.rj i];have e:T.pre i++((T.E4 i).v++T.post i)=(T.pre i++(OH (T.E4 i).on (T.E4 i).a (T.E4 i).m++[E I (T.E4 i).r]))++((T.E4 i).key.map (E .u8)++(O_ (T.E4 i).win++T.post i)):=Ar;rw[e];exact G_ _ _ _ _ _ (by simp[EQ.ou h i,OH]) (by simp[(h.E4 i).len])
theorem EZu(T:EQ)(h:T.ok)(i:Nat):T.v.toArray.extract (so i+36) (so i+36+3)=(O_ (T.E4 i).win).toArray:=by rw[T.rj i];have e:T.pre i++((T.E4 i).v++T.post i)=(T.pre i++(OH (T.E4 i).on (T.E4 i).a (T.E4 i).m++([E I (T.E4 i).r]++(T.E4 i).key.map (E .u8))))++(O_ (T.E4 i).win++T.post i):=Ar;rw[e];exact G_ _ _ _ _ _ SE (ri _)
theorem EZv{W:H}{g:Nat}{T:EQ}(K:Il W g T)(h:T.ok)(i:Nat)(v:Option (Nat×Nat)): Il (W.setCells g (so i+36) (O_ v)) g (T.put i {T.E4 i with win:=v}):=by unfold Il at*;rw[T.rj i] at K;rw[T.tV i];have e1:T.pre i++((T.E4 i).v++T.post i)=(T.pre i++(OH (T.E4 i).on (T.E4 i).a (T.E4 i).m++([E I (T.E4 i).r]++(T.E4 i).key.map (E .u8))))++(O_ (T.E4 i).win++T.post i):=Ar;have e2:T.pre i++(({T.E4 i with win:=v}:Jm).v++T.post i)=(T.pre i++(OH (T.E4 i).on (T.E4 i).a (T.E4 i).m++([E I (T.E4 i).r]++(T.E4 i).key.map (E .u8))))++(O_ v++T.post i):=Ar;rw[e1] at K;rw[e2];exact Zd _ _ _ _ W K (by rw[ri,ri]) SE
theorem EQ.EZw(T:EQ)(i:Nat)(a:Jm):(T.put i a).In=T.In/\(T.put i a).most=T.most:=by
 match i with
 |0=>exact⟨O,O⟩
 |1=>exact⟨O,O⟩
 |_+2=>exact⟨O,O⟩
theorem As:IG Eb 158 3:=⟨⟨_,Tryz.underlying158,O⟩,Ed⟩
theorem EZx:Oq Eb 158 (O_ X).toArray:=by intro ev o w ho;unfold If;simp only[ho];simp[go_sem];exact congrArg (fun c=>w.alloc (EJ c 158)) Ed
theorem EZy(v:Option (Nat×Nat))(q:Int)(h0:0<=q)(h1:q<=4294967295)(hv:rO v)(W:H): Ef Eb 126 #[EZ (O_ v).toArray,E I q] W fun e w'=>e=Eg (Et #[EZ (O_ (Zc v q.toNat).1).toArray,EU (Zc v q.toNat).2])/\El W w':=by have h:=EIT v q.toNat W hv U;rw[PZ,PZ,Int.toNat_of_nonneg h0] at h;exact h
def Au(b0 g o g11:Nat)(wc Ut:Array Y)(q:Int)(f:Bool)(i:Nat)(v:Y)(w:H):Prop:=match i with
 |0=>v=M (Z ⟨g,o,X⟩)
 |1=>v=M (Z ⟨g,o,X⟩)
 |2=>v=M (Z ⟨g,o+36,X⟩)
 |3=>v=EZ wc
 |4=>v=M (Z ⟨g11,1,X⟩)
 |5=>v=E I q
 |6=>v=Et #[EZ Ut,EU f]
 |7=>v=Et #[EZ Ut,EU f]
 |8=>v=EZ Ut
 |9=>v=EU f
 |10=> ∃(g12:Nat) (c:Array Y),v=M (Z ⟨g12,0,X⟩)/\b0<=g12/\c.size=Ut.size/\D w g12 c 158
 |_=>v=EU f
theorem EZz(b0 g o g11:Nat)(wc Ut:Array Y)(q:Int)(f:Bool): ∀i v w w',i<13->Au b0 g o g11 wc Ut q f i v w->mo b0 158 Ut w w'->Au b0 g o g11 wc Ut q f i v w':=by
 intro i v w w' hi h hb;unfold Au at*;split at h;case h_11=> obtain⟨g12,c,e,l1,hs,k⟩:=h;obtain⟨c',hs',k'⟩:=EJc hb k hs;exact⟨g12,c',e,l1,hs',k'⟩
 all_goals exact h
def HU(b0:Nat)(Ut:Array Y)(v:Y)(w:H):Prop:= ∃g12:Nat,v=M (Z ⟨g12,0,X⟩)/\b0<=g12/\D w g12 Ut 158
theorem EZA(b0:Nat)(Ut:Array Y): ∀v w w',HU b0 Ut v w->mo b0 158 Ut w w'->HU b0 Ut v w':=by rintro v w w' ⟨g12,e,l,k⟩ hb;exact⟨g12,e,l,EJd hb k⟩
theorem SI(v:Option (Nat×Nat)):(O_ v).toArray.all (·.oneCell')=EI:=by rcases v with _|⟨h,q⟩<;>simp[O_,OF]
theorem SJ{v:Option (Nat×Nat)}{q:Nat}(hv:rO v)(hq:q<=4294967295):rO (Zc v q).1:=by
 rcases v with _|⟨h,s⟩;·exact⟨hq,Ea⟩
 ·obtain⟨h1,h2⟩:=hv;by_cases c1:h<q
  ·have e:Zc (Z (h,s)) q=(Z (q,(s*2^(q-h))%2^64|||1),EI):=by simp only[Zc,if_pos c1]
   rw[e];exact⟨hq,Nat.or_lt_two_pow (Nat.mod_lt _ Ea) Ea⟩
  ·by_cases c2:h-q<64
   ·have e:Zc (Z (h,s)) q=(Z (h,s|||2^(h-q)),!s.testBit (h-q)):=by simp only[Zc,if_neg c1,if_pos c2]
    rw[e];exact⟨h1,Nat.or_lt_two_pow h2 (Nat.pow_lt_pow_right Ea c2)⟩
   ·have e:Zc (Z (h,s)) q=(Z (h,s),B):=by simp only[Zc,if_neg c1,if_neg c2]
    rw[e];exact⟨h1,h2⟩
theorem EZB(g:Nat)(T:EQ)(src:Int)(xs:List Int)(Y4:Option Eu)(n c:Nat)(w:H)(K:Il w g T)(h:T.ok)(hn:xs.length=n)(hnc:n<=c)(hc:c<=9223372036854775807)(hs:n<=1000)(hr:Row w Y4 xs)(hR:Jt w): Ef Eb 88 #[M (Z ⟨g,0,X⟩),E I src,G Y4 n c] w (R9 (T.take src xs) g w):=by
 have lg0:=D.lt K;have CO:=J<|fun W (k:D W g T.v.toArray 163)=>uj g T src W k h;have KT:Ec (D w g T.v.toArray 163):=J K;have RT:=J hR;have HR:=J hr;have HH:=J h;obtain⟨R,hRR⟩:=En (T.take src xs);rw[<-hRR];have PO:Ec (∀(e:Uh) (w':H) (l:List Int) (k:Int) (T2:EQ),R=⟨T2,l,k⟩->e=Eg (Et #[EZ (ED l),E I k])->Il w' g T2->E3 g w w'->R9 R g w e w'):=J (by intro e w' l k T2 hR he hk ho;subst hR;exact⟨he,hk,ho⟩);rcases zA T g src with⟨e1,e2,-⟩|⟨i,hi,es,hon,e1,-,-⟩
 ·have hR0:R=⟨T,IZ 0,16⟩:=by rw[hRR];unfold EQ.take;rw[if_neg];rintro⟨hs,ho⟩;have:=e2 U U;unfold EQ.UV at this;rw[if_neg U,if_neg U,if_pos hs,ho] at this;cases this
  rw[e1] at CO;have PF:=J<|fun e w' he hk ho=>PO.out e w' _ _ _ hR0 he hk ho;clear hR0 hRR e1 e2 K h hr hR PO;go_enter Tryz.func88,Tryz.ntmps88;go_wp2_with (with_reducible refine wA iX (Ev.mk ?_));apply Eo;have K2:=J<|D.new w (ED (IZ 0)) 183;have b1:=Er w (EJ (ED (IZ 0)) 183);replace KT:=J<|KT.out.V b1;replace RT:=J<|RT.out.V b1;replace HR:=J<|Ix HR.out b1;have ON:Ec (E3 g w (w.alloc (EJ (ED (IZ 0)) 183))):=J<|E3.EA b1;generalize w.alloc (EJ (ED (IZ 0)) 183)=w1 at*;clear b1;go_wp2_with fail;refine(CO.out _ KT.out).mono ?_;rintro e w' ⟨rfl,rfl⟩;clear CO;go_wp2_with (first|((with_reducible refine It 19 ?_);refine I3 rfl 183 _ rfl (ED (IZ 0)) ji ?_)|(with_reducible refine wS (cs:=(ED (IZ 0))) OM K2 ?_ (ho:=I_ _) (hn:=I_ _) (h1:=ZF _)));refine EV (v:=Et #[EZ (ED (IZ 0)),E I 16]) (dq OM O _ _ w.heap.size _ _ O O (K2.out.setRow _) (I_ _)) O ?_;exact Eln
 ·have e2:(src-1).toNat=i:=U;have hs3:src=1\/src=2\/src=3:=U;have hR0:R=if uM (T.E4 i).key src xs then ai T i (xs.take (xs.length-8)) else⟨T,IZ 0,14⟩:=by rw[hRR];unfold EQ.take;rw[e2,if_pos ⟨hs3,hon⟩]
  rw[e1] at CO;have hso:=h.E4 i;obtain⟨key,hkey⟩:=En ((T.E4 i).key);have TK:=EZt T h i;rw[<-hkey] at hR0 TK;have hkl:key.length=32:=by rw[hkey];exact hso.len
  have hkb: ∀x∈key,0<=x/\x<=255:=by rw[hkey];exact hso.bytes
  replace TK:=J TK;have rV:=J hR0;have da:=J hkl;have mV:=J hkb;have HKEY:=J hkey;have HN:=J hn;have hks:Ec ((Ej key).size=32):=J (by rw[Od,hkl]);obtain⟨o,ho⟩:=En (so i);rw[<-ho] at CO TK;have HO:=J ho;have HON:=J hon;clear hRR e1 e2 hs3 K h hr hR hkl hkb hkey hn hR0 ho hon hso es;go_enter Tryz.func88,Tryz.ntmps88;go_wp2_with (with_reducible refine wA iX (Ev.mk ?_));apply Eo;have K2:=J<|D.new w (ED (IZ 0)) 183;have b1:=Er w (EJ (ED (IZ 0)) 183);replace KT:=J<|KT.out.V b1;replace RT:=J<|RT.out.V b1;replace HR:=J<|Ix HR.out b1;have ON:Ec (E3 g w (w.alloc (EJ (ED (IZ 0)) 183))):=J<|E3.EA b1;generalize w.alloc (EJ (ED (IZ 0)) 183)=w1 at*;clear b1;go_wp2_with fail;refine(CO.out _ KT.out).mono ?_;rintro e w' ⟨rfl,rfl⟩;clear CO;obtain⟨kv,hkv⟩:=En (Ej key);rw[<-hkv] at hks TK;replace hkv:=J hkv;by_cases hn8:n<8
  ·have nO:R=⟨T,IZ 0,14⟩:=by rw[rV.out,if_neg];rintro⟨h8,-⟩;rw[HN.out] at h8;omega
   have PF:=J<|fun e w' he hk ho=>PO.out e w' _ _ _ nO he hk ho;clear nO;go_wp2_with (with_reducible refine wM (off:=(o+4)) (cs:=kv) OZ KT ?_ (hn:=hks.out) (he:=TK.out));rw[hkv.out];refine(EXc key Y4 n c src _ hn8).mono ?_;exact Epa
  obtain⟨m,rfl⟩: ∃m,n=m+8:=⟨n-8,U⟩;have em:xs.length-8=m:=ry;by_cases hx:xs=xs.take m++dg key src (xs.take m)
  ·have nO:R=ai T i (xs.take m):=by rw[rV.out,if_pos,em];unfold uM;rw[em,HN.out];exact⟨U,hx⟩
   have HR1:=J nO;clear nO;go_wp2_with (with_reducible refine wM (off:=(o+4)) (cs:=kv) OZ KT ?_ (hn:=hks.out) (he:=TK.out));rw[hkv.out];refine(EXf key xs Y4 m c src _ da.out mV.out HN.out HR.out U U RT.out hx).mono ?_;rintro e w2 ⟨⟨A3,d3,rfl,o3⟩,b2⟩;have O3:=J o3;have Ha:Ec ((xs.take m).length=m):=J (by rw[aO,HN.out];omega);clear hx o3;replace K2:=J<|K2.out.V b2;replace KT:=J<|KT.out.V b2;replace ON:=J<|ON.out.trans (E3.EA b2);replace RT:=J<|RT.out.V b2;clear b2;obtain⟨bs,hbs⟩:=En (xs.take m);rw[<-hbs] at O3 Ha HR1;clear hbs;have hcap:=EZc O3.out;rw[Ha.out] at hcap;have CT:=J<|G4 bs A3 m d3 Ha.out hcap.1 hcap.2 _ O3.out.row;have Aq:=J O3.out.2;clear hcap;go_wp2_with fail;refine(CT.out).mono ?_;rintro e w3 ⟨hpost,b3⟩;clear CT O3;replace K2:=J<|K2.out.V b3;replace KT:=J<|KT.out.V b3;replace ON:=J<|ON.out.trans (E3.EA b3);replace RT:=J<|RT.out.V b3;clear b3;cases htk:fJ bs with
   |none=>
    rw[htk] at hpost;obtain rfl:=hpost;have hR2:R=⟨T,IZ 0,13⟩:=by rw[HR1.out];unfold ai;rw[htk]
    have PF:=J<|fun e w' he hk ho=>PO.out e w' _ _ _ hR2 he hk ho;clear htk hR2;go_wp2_with (with_reducible refine wA iX (Ev.mk ?_));apply Eo;have l2:=K2.out.lt;have lt:=KT.out.lt;have lr:=RT.out.lt;have b4:=Er w3 (EJ (ED (IZ 0)) 183);replace K2:=J<|K2.out.V b4;replace KT:=J<|KT.out.V b4;replace ON:=J<|ON.out.trans (E3.EA b4);replace RT:=J<|RT.out.V b4;have IW:=J<|D.new w3 (ED (IZ 0)) 183;clear b4;generalize w3.alloc (EJ (ED (IZ 0)) 183)=w4 at*;generalize w3.heap.size=g11 at*;have uN:=ON.out.size;have Hb:w.heap.size<=g11:=U;go_wp2_with (with_reducible refine wS (cs:=(ED (IZ 0))) OM IW (Ev.mk ?_) (ho:=I_ _) (hn:=I_ _) (h1:=ZF _));apply Eo;replace K2:=J<|K2.out.setRow_other g11 (ED (IZ 0)) U;replace KT:=J<|KT.out.setRow_other g11 (ED (IZ 0)) U;replace IW:=J<|IW.out.setRow (ED (IZ 0));replace RT:=J<|RT.out.setRow g11 (ED (IZ 0)) U;replace ON:=J<|ON.out.db (g2:=g11) Hb (fT (ED (IZ 0))) uN;generalize w4.setRow g11 (ED (IZ 0))=w5 at*;clear uN;exact Ell
   |some l=>
    rw[htk] at hpost;obtain rfl:=hpost;have Av:=R_ Aq.out htk;have f_:=J htk;clear htk;go_wp2_with (with_reducible refine wA iX (Ev.mk ?_));apply Eo;have l2:=K2.out.lt;have lt:=KT.out.lt;have lr:=RT.out.lt;have b4:=Er w3 (EJ (ED (IZ 0)) 183);replace K2:=J<|K2.out.V b4;replace KT:=J<|KT.out.V b4;replace ON:=J<|ON.out.trans (E3.EA b4);replace RT:=J<|RT.out.V b4;have IW:=J<|D.new w3 (ED (IZ 0)) 183;clear b4;generalize w3.alloc (EJ (ED (IZ 0)) 183)=w4 at*;generalize w3.heap.size=g11 at*;have uN:=ON.out.size;have Hb:w.heap.size<=g11:=U;go_wp2_with (with_reducible refine wS (cs:=(ED l)) OM IW (Ev.mk ?_) (ho:=I_ _) (hn:=I_ _) (h1:=ZF _));apply Eo;replace K2:=J<|K2.out.setRow_other g11 (ED l) U;replace KT:=J<|KT.out.setRow_other g11 (ED l) U;replace IW:=J<|IW.out.setRow (ED l);replace RT:=J<|RT.out.setRow g11 (ED l) U;replace ON:=J<|ON.out.db (g2:=g11) Hb (fT (ED l)) uN;generalize w4.setRow g11 (ED l)=w5 at*;clear uN;have c0:w5.cell? ⟨g11,0,X⟩=Z (E I (l.getD 0 0)):=(IW.out.cell 0).trans (Zh l 0 U);obtain⟨kd,hkd⟩:=En (l.getD 0 0);rw[<-hkd] at c0;by_cases h12:kd=1\/kd=2
    ·have hR2:R=⟨T,IZ 0,13⟩:=by rw[HR1.out];unfold ai;rw[f_.out];simp only;rw[<-hkd,if_pos h12]
     have PF:=J<|fun e w' he hk ho=>PO.out e w' _ _ _ hR2 he hk ho;clear hR2 hkd;rcases h12 with rfl|rfl;·exact Ell
     ·exact Ell
    have n1:(kd==1)=B:=beq_eq_false_iff_ne.2 (fun h=>h12 (.inl h));have n2:(kd==2)=B:=beq_eq_false_iff_ne.2 (fun h=>h12 (.inr h));have hR2:R=if(Zc (T.E4 i).win (l.getD 1 0).toNat).2 then⟨T.put i ⟨EI,0,max T.In 0,(T.E4 i).r,(T.E4 i).key,(Zc (T.E4 i).win (l.getD 1 0).toNat).1⟩,l,0⟩ else⟨T,IZ 0,15⟩:=by rw[HR1.out];unfold ai;rw[f_.out];simp only;rw[<-hkd,if_neg h12]
    obtain⟨q,hq⟩:=En (l.getD 1 0);rw[<-hq] at hR2 Av;have c1:Ec ((ED l)[1]?=Z (E I q)):=J (by rw[hq];exact Zh l 1 U);have CW:=J<|fun W=>EZy (T.E4 i).win q Av.1 Av.2 (HH.out.E4 i).win W;have TW:=J<|EZu T HH.out i;rw[<-HO.out] at TW;obtain⟨v2,hv2⟩:=En (Zc (T.E4 i).win q.toNat);rw[<-hv2] at hR2 CW;have SU:rO v2.1:=by rw[hv2];exact SJ (HH.out.E4 i).win U
    obtain⟨nw,fr⟩:=v2;have EZD:=J SU;clear SU;obtain⟨wc,hwc⟩:=En ((O_ (T.E4 i).win).toArray);obtain⟨Ut,Aw⟩:=En ((O_ nw).toArray);simp only at hR2 CW;rw[<-hwc,<-Aw] at CW;rw[<-hwc] at TW;have SW:Ec (wc.size=3):=J (by rw[hwc];exact ri _);have rW:Ec (Ut.size=3):=J (by rw[Aw];exact ri _);have Hc:=J Aw;have HR2:=J hR2;clear hkd Av hq hv2 hwc Aw hR2 h12;go_wp2_with fail;clear c0 n1 n2;have EZF:=IW.out.lt;have ltg:=KT.out.lt;have W1:=J<|SI nw;rw[<-Hc.out] at W1;refine EJk (gV (b0:=w5.heap.size) (T:=158) (cs:=Ut)) Ed 13 Ed Eh Ea (RX (Au w5.heap.size g o g11 wc Ut q fr) 11 10 (HU w5.heap.size Ut)) (RX.keep (EZz _ _ _ _ _ _ _ _) (EZA _ _)) (RX.dep (uE Ed)) ?_ ?_
    ·simp only[yL,Iq,Io,EH,Ig,Ii,Ia,Ib,and_true];refine⟨?_,?_,?_,?_,?_,?_,?_,?_,?_,?_,?_,?_,?_⟩;all_goals intro v w' hb hd
     ·exact IM gV (Ei O) Ex O
     ·have d0:v 0=M (Z ⟨g,o,X⟩):=hd.at 0 rfl;exact IM gV (Ei O) UW O
     ·have d1:v 1=M (Z ⟨g,o,X⟩):=hd.at 1 rfl;exact IM gV (Ei O) Xp O
     ·have d2:v 2=M (Z ⟨g,o+36,X⟩):=hd.at 2 rfl;exact aN gV As (Ei O) ⟨O,d2⟩ (Pj hb KT.out (.inl ltg)) SW.out TW.out O
     ·exact IM gV (Ei O) Ex O
     ·have d4:v 4=M (Z ⟨g11,1,X⟩):=hd.at 4 rfl;have cc:w'.cell? ⟨g11,1,X⟩=Z (E I q):=(D.cell (Pj hb IW.out (.inl EZF)) 1).trans c1.out;exact IM gV (Ei O) Hd O
     ·have d3:v 3=EZ wc:=hd.at 3 rfl;have d5:v 5=E I q:=hd.at 5 rfl;refine JH (f:=126) (args:= #[v 3,v 5]) (Ei O) Ex ?_;rw[d3,d5];exact(CW.out w').mono fun e w'' ⟨he,hb'⟩=>⟨_,he,Pi hb',O⟩
     ·have d6:v 6=Et #[EZ Ut,EU fr]:=hd.at 6 rfl;exact IM gV (Ei O) mW O
     ·exact Eov
     ·exact Eov
     ·exact Zg (Ei O) (EZx _ _ _ O) (Pi (Er w' _)) ⟨_,_,O,hb.1,(show(O_ X).toArray.size=Ut.size by rw[rW.out];rfl),D.new _ _ _⟩
     ·obtain⟨g12,c,d10,Hf,hs,k12⟩: ∃(g12:Nat) (c:Array Y),v 10=M (Z ⟨g12,0,X⟩)/\w5.heap.size<=g12/\c.size=Ut.size/\D w' g12 c 158:=hd.at 10 rfl;have d8:v 8=EZ Ut:=hd.at 8 rfl;exact bF As (Ei O) ⟨O,d10,d8⟩ k12 (hs.trans rW.out) rW.out W1.out (EJb k12 Hf hs) ⟨g12,d10,Hf,k12.setRow Ut⟩
     ·have d9:v 9=EU fr:=hd.at 9 rfl;exact IM gV (Ei O) rP O
    ·intro v w7 hb hr;obtain⟨g12,d10,Hf,jm⟩: ∃g12:Nat,v 10=M (Z ⟨g12,0,X⟩)/\w5.heap.size<=g12/\D w7 g12 Ut 158:=hr 11 U;have d8:v 8=EZ Ut:=hr 8 U;have d12:v 12=EU fr:=hr 12 U;simp only[Iq,Io,IP,IH,EH,Ig,Ii,Ia,Ib];rw[d10,d12];replace jm:=J jm;have hb5:=hb.2.1 (E7 _);replace K2:=J<|K2.out.V hb5;replace KT:=J<|KT.out.V hb5;replace ON:=J<|ON.out.trans (E3.EA hb5);replace RT:=J<|RT.out.V hb5;replace IW:=J<|IW.out.V hb5;clear hr hb hb5 d8 d10 d12 CW c1 TW RT W1;cases fr with
     |false=>
      have uP:R=⟨T,IZ 0,15⟩:=by rw[HR2.out];rfl
      have PF:=J<|fun e w' he hk ho=>PO.out e w' _ _ _ uP he hk ho;clear uP;go_wp2_with (first|((with_reducible refine It 63 ?_);refine I3 rfl 183 _ rfl (ED (IZ 0)) ji ?_)|(with_reducible refine wS (cs:=(ED (IZ 0))) OM K2 ?_ (ho:=I_ _) (hn:=I_ _) (h1:=ZF _)));refine EV (v:=Et #[EZ (ED (IZ 0)),E I 15]) (dq OM O _ _ w.heap.size _ _ O O (K2.out.setRow _) (I_ _)) O ?_;exact Eln
     |true=>
      have uP:R=⟨T.put i ⟨EI,0,max T.In 0,(T.E4 i).r,(T.E4 i).key,nw⟩,l,0⟩:=by rw[HR2.out];rfl
      have PF:=J<|fun e w' he hk ho=>PO.out e w' _ _ _ uP he hk ho;clear uP;have TH:Ec (w7.there g (o+36) 3):=J<|aZ KT.out (by rw[ui KT.out HH.out,HO.out];have:=GJ i;omega);have K8:=J<|EZv KT.out HH.out i nw;have uQ:=J<|ON.out.trans (JG (g:=g) (O_ nw) (so i+36) w7);have uR:Ec (D (w7.setCells g (so i+36) (O_ nw)) w.heap.size (ED (IZ 0)) 183):=J<|(JG (g:=g) (O_ nw) (so i+36) w7).Ek K2.out U;have uS:Ec (D (w7.setCells g (so i+36) (O_ nw)) g11 (ED l) 183):=J<|(JG (g:=g) (O_ nw) (so i+36) w7).Ek IW.out U;rw[<-HO.out] at K8 uQ uR uS;have ew:Ut.toList=O_ nw:=by rw[Hc.out]
      replace ew:=J ew;go_wp2_with (first|(with_reducible refine wL As jm ?_ (hn:=rW.out))|((with_reducible refine JB 158 ?_);(with_reducible refine Ui rfl 158 _ _ rfl g (o+36) Ut ?_ ?_ ?_ ?_ ?_ ?_);(·rfl);(·rfl);(·rw[rW.out];exact TH.out);(·rw[rW.out];exact As.2);(·rw[Hc.out];exact SI nw);refine Ev.mk ?_));apply Eo;rw[ew.out];generalize w7.setCells g (o+36) (O_ nw)=w8 at*;clear jm TH KT K2 IW ON;have hok2:=(HH.out).put i (s:={T.E4 i with win:=nw}) ⟨(HH.out.E4 i).len,(HH.out.E4 i).bytes,EZD.out⟩;have cb: ∀y:Ext w8,(EC w8 y).cell? ⟨g,120,X⟩=Z (E I T.In):=fun y=>by have:=(uh (Il.V K8.out (EN y)) hok2).1;rwa [(EQ.EZw _ _ _).1] at this
      have KH:Ec (D w8 g (T.pre i++([EU (T.E4 i).on,E I (T.E4 i).a,E I (T.E4 i).m]++(([E .i64 (T.E4 i).r]++((T.E4 i).key.map (E .u8)++O_ nw))++T.post i))).toArray 163):=J (by have:=K8.out;unfold Il at this;rw[T.tV i] at this;simpa[Jm.v,OH] using this);have CH:=J<|fun W (k:D W g (T.pre i++([EU (T.E4 i).on,E I (T.E4 i).a,E I (T.E4 i).m]++(([E .i64 (T.E4 i).r]++((T.E4 i).key.map (E .u8)++O_ nw))++T.post i))).toArray 163)=>tW g o (T.pre i) _ _ _ _ 163 T.In W k (by rw[HO.out];exact EQ.ou HH.out i);have HP:Ec (∀w',D w' g (T.pre i++(OH EI 0 (max T.In 0)++(([E .i64 (T.E4 i).r]++((T.E4 i).key.map (E .u8)++O_ nw))++T.post i))).toArray 163->Il w' g (T.put i ⟨EI,0,max T.In 0,(T.E4 i).r,(T.E4 i).key,nw⟩)):=J (fun w' k=>by unfold Il;rw[T.tV i];simpa[Jm.v] using k);generalize T.In=In at*;go_wp2_with fail;refine J_ 7 Ed Ed ?_;simp only[Iq,Io,IP,IH]
      repeat (first
       |go_big_quiet_skip
       |(go_big_quiet_want
         first
          |(go_big_quiet_op
            first
             |go_big_quiet_on
             |go_big_quiet_call ((fail)))))
      refine I1 ?_;intro _ hw';obtain⟨y9,rfl⟩:=hw';have Em:=EN y9;replace KH:=J<|KH.out.V Em;replace uR:=J<|uR.out.V Em;replace uS:=J<|uS.out.V Em;replace uQ:=J<|uQ.out.trans (E3.EA Em);clear cb Em K8;generalize EC w8 y9=w9 at*;go_wp2_with fail;refine(CH.out _ KH.out).mono ?_;rintro e Uy ⟨rfl,k10,oB⟩;have KT:=J<|HP.out _ k10;have K2:=J<|oB.Ek uR.out U;have IW:=J<|oB.Ek uS.out U;have ON:=J<|uQ.out.trans oB;clear CH KH uR uS uQ oB k10 HP;go_wp2_with (with_reducible first|refine wL OM IW ?_ (hn:=I_ _)|refine wS (cs:=(ED l)) OM K2 ?_ (ho:=I_ _) (hn:=I_ _) (h1:=ZF _));refine EV (v:=Et #[EZ (ED l),E I 0]) (dq OM O _ _ w.heap.size _ _ O O (K2.out.setRow _) (I_ _)) O ?_;exact Eln
  ·have nO:R=⟨T,IZ 0,14⟩:=by rw[rV.out,if_neg];rintro⟨-,h8⟩;rw[em] at h8;exact hx h8
   have PF:=J<|fun e w' he hk ho=>PO.out e w' _ _ _ nO he hk ho;clear nO;go_wp2_with (with_reducible refine wM (off:=(o+4)) (cs:=kv) OZ KT ?_ (hn:=hks.out) (he:=TK.out));rw[hkv.out];refine(EXd key xs Y4 m c src _ da.out mV.out HN.out HR.out U U RT.out hx).mono ?_;exact Epa
def iZ(In most:Int):EQ:=⟨B,0,0,Ub,Ub,Ub,In,most⟩
theorem EZH(In most:Int):(iZ In most).ok:=⟨tT,tT,tT⟩
theorem EZK(In most:Int):Tryz.prog.built 163 [(2,E I In),(3,E I most)]=Z (iZ In most).v.toArray:=Ed
theorem EZL(pv:Array Y)(In most:Int)(w:H)(hs:pv.size=56)(hb:pv[42]?=Z (E I In))(hm:pv[49]?=Z (E I most)): Ef Eb 43 #[EZ pv] w fun e w'=> ∃g,w.heap.size<=g/\e=Eg (M (Z ⟨g,0,X⟩))/\Il w' g (iZ In most)/\El w w':=by
 have BT:=J<|EZK In most;have K0:=J<|D.new w pv 28;have c1:(w.alloc (EJ pv 28)).cell? ⟨w.heap.size,42,X⟩=Z (E I In):=by rw[K0.out.cell,hb]
 have c2:(w.alloc (EJ pv 28)).cell? ⟨w.heap.size,49,X⟩=Z (E I most):=by rw[K0.out.cell,hm]
 have HE:Ec (∀x,x=(iZ In most).v.toArray-> ∀W g,D W g x 163->Il W g (iZ In most)):=J fun x hx W g k=>by rw[hx] at k;exact k
 obtain⟨tv,IE⟩:=En ((iZ In most).v.toArray);rw[<-IE] at BT;replace HE:=J<|HE.out tv IE;clear IE hb hm;go_enter Tryz.func43,Tryz.ntmps43;go_wp2_with (first|((with_reducible refine It 7 ?_);refine I3 rfl 163 _ rfl tv BT.out ?_));go_ret;exact⟨w.heap.size+1,U,O,HE.out _ _ (D.new' _ _ _ Eh),JV w _ _⟩
def I4(l:List Int):Array Y:=(l.map (E .i64)).toArray
theorem rY(l:List Int):(I4 l).all (·.oneCell')=EI:=by simp[I4,OF]
theorem Ay:IG Eb 176 10:=⟨⟨_,Tryz.underlying176,O⟩,Ed⟩
theorem r_:IG Eb 206 2:=⟨⟨_,Tryz.underlying206,O⟩,Ed⟩
theorem SX:IG Eb 207 12:=⟨⟨_,Tryz.underlying207,O⟩,Ed⟩
theorem EZM:IG Eb 58 6:=⟨⟨_,Tryz.underlying58,O⟩,Ed⟩
theorem Hg:Oq Eb 176 (Ej (Ep 10)):=by intro ev o w ho;unfold If;simp only[ho];simp[go_sem];exact congrArg (fun c=>w.alloc (EJ c 176)) Ed
theorem sE:Oq Eb 206 (I4 (Ep 2)):=by intro ev o w ho;unfold If;simp only[ho];simp[go_sem];exact congrArg (fun c=>w.alloc (EJ c 206)) Ed
theorem EZN:Oq Eb 207 (I4 (Ep 12)):=by intro ev o w ho;unfold If;simp only[ho];simp[go_sem];exact congrArg (fun c=>w.alloc (EJ c 207)) Ed
theorem EZP: ∃i,Tryz.prog.info? 206=Z i/\i.size=2:=by
 have h:(Tryz.prog.info? 206).map (·.size)=Z 2:=Ed;cases hi:Tryz.prog.info? 206 with
 |none=>rw[hi] at h;cases h
 |some i=>rw[hi] at h;exact⟨i,O,Up⟩
theorem sI(cs:Array Y)(i:Nat)(h:i<6)(W:H):(Uj 207 (EZ cs) (E I (i:Int))).run Eb W= .ok (EZ (cs.extract (i*2) (i*2+2))) W:=by obtain⟨i0,hi,h1⟩:=EZP;unfold Uj;have c1:(0:Int)<=(i:Int)/\(i:Int)<(6:Int):=U;simp[asIntOf,run_underlying Tryz.underlying207,c1,sizeOf,typeInfo,hi,h1,Go.part,isAgg,run_underlying Tryz.underlying206];omega
def gE(k s q e c h:Int):List Int:=be (k%256) 1++be (s%256) 1++be (q%4294967296) 4++be (e%65536) 2++be (c%256) 1++be (h%256) 1
theorem EZQ(k s q e c h:Int):(gE k s q e c h).length=10:=by simp[gE,O0]
theorem EZR(k s q e c h:Int): ∀x∈gE k s q e c h,0<=x/\x<=255:=by intro x hx;simp only[gE,XM] at hx;rcases hx with((((h|h)|h)|h)|h)|h<;>exact ub _ _ x h
theorem Hh(n:Int)(k:Nat)(m:Int)(hk:k<=63)(hm:IntKind.u64.wrap (IntKind.u64.wrap (2^k)-1)=m)(hd:(2:Int)^k∣18446744073709551616):Iu .and .u64 (IntKind.u64.wrap n) m=n%2^k:=by
 have e:IntKind.u64.wrap n=n%18446744073709551616:=by unfold oI;rfl
 rw[e,<-hm,PY k hk _ U U];exact Int.emod_emod_of_dvd n hd
theorem Az(n:Int):Iu .and .u64 (IntKind.u64.wrap n) 255=n%256:=Hh n 8 255 U Ea Ea
theorem EZS(n:Int):Iu .and .u64 (IntKind.u64.wrap n) 65535=n%65536:=Hh n 16 65535 U Ea Ea
theorem EZT(n:Int):Iu .and .u64 (IntKind.u64.wrap n) 4294967295=n%4294967296:=Hh n 32 4294967295 U Ea Ea
theorem pZ(p y:List Int)(n at_:Nat)(hp:p.length=at_):putAt (p++Ep n) at_ y=(p++y)++Ep (n-y.length):=by subst hp;unfold putAt Ep;simp[List.drop_append]
theorem EZV(k s q e c h:Int)(w:H): Ef Eb 81 #[EZ #[E I k,E I s,E I q,E I e,E I c,E I h]] w fun e' w'=>e'=Eg (EZ (Ej (gE k s q e c h)))/\El w w':=by
 have u:=J<|E9 w.heap.size w;go_enter Tryz.func81,Tryz.ntmps81;go_wp2_with (with_reducible refine wA Hg (Ev.mk ?_));apply Eo;have KR:=J<|(D.new w #[E I k,E I s,E I q,E I e,E I c,E I h] 58).alloc (EJ (Ej (Ep 10)) 176);have K2:=J<|D.new' (w.alloc (EJ #[E I k,E I s,E I q,E I e,E I c,E I h] 58)) (Ej (Ep 10)) 176 (g:=w.heap.size+1) Eh;replace u:=J<|JV w (EJ #[E I k,E I s,E I q,E I e,E I c,E I h] 58) (EJ (Ej (Ep 10)) 176);generalize (w.alloc (EJ #[E I k,E I s,E I q,E I e,E I c,E I h] 58)).alloc (EJ (Ej (Ep 10)) 176)=w1 at*;have g2e:w.heap.size<=w.heap.size+1:=Nat.le_succ _;generalize w.heap.size+1=g2 at*;have ck:=(JU KR.out).1;have l1:=K2.out.lt;go_wp2_with (with_reducible refine wA EZN (Ev.mk ?_));apply Eo;have bel:=Er w1 (EJ (I4 (Ep 12)) 207);replace KR:=J<|KR.out.V bel;replace K2:=J<|K2.out.V bel;replace u:=ET u bel;have K3:=J<|D.new w1 (I4 (Ep 12)) 207;clear bel;generalize w1.alloc (EJ (I4 (Ep 12)) 207)=w2 at*;generalize w1.heap.size=g3 at*;clear ck;go_wp2_with (with_reducible refine wS (cs:= #[E I k,E I 1,E I s,E I 1,E I q,E I 4,E I e,E I 2,E I c,E I 1,E I h,E I 1]) SX K3 (Ev.mk ?_) (h1:=Ug));apply Eo;replace KR:=J<|KR.out.setRow_other g3 (#[E I k,E I 1,E I s,E I 1,E I q,E I 4,E I e,E I 2,E I c,E I 1,E I h,E I 1]) U;replace K2:=J<|K2.out.setRow_other g3 (#[E I k,E I 1,E I s,E I 1,E I q,E I 4,E I e,E I 2,E I c,E I 1,E I h,E I 1]) U;replace K3:=J<|K3.out.setRow (#[E I k,E I 1,E I s,E I 1,E I q,E I 4,E I e,E I 2,E I c,E I 1,E I h,E I 1]);replace u:=J<|E2 (g:=g3) u.out U (#[E I k,E I 1,E I s,E I 1,E I q,E I 4,E I e,E I 2,E I c,E I 1,E I h,E I 1]);generalize w2.setRow g3 (#[E I k,E I 1,E I s,E I 1,E I q,E I 4,E I e,E I 2,E I c,E I 1,E I h,E I 1])=w3 at*;have l3:=K3.out.lt;go_wp2_with (with_reducible refine wA Hg (Ev.mk ?_));apply Eo;have bel:=Er w3 (EJ (Ej (Ep 10)) 176);replace KR:=J<|KR.out.V bel;replace K2:=J<|K2.out.V bel;replace K3:=J<|K3.out.V bel;replace u:=ET u bel;have K4:=J<|D.new w3 (Ej (Ep 10)) 176;clear bel;generalize w3.alloc (EJ (Ej (Ep 10)) 176)=w4 at*;generalize w3.heap.size=g4 at*;clear KR;have K3c:Ec (D w4 g3 (#[E I k,E I 1,E I s,E I 1,E I q,E I 4,E I e,E I 2,E I c,E I 1,E I h,E I 1]) 207):=K3;go_wp2_with (with_reducible refine wL SX K3 ?_);refine Ud 7 ?_;have l4:=K4.out.lt;have P0L:Ec ((([]:List Int)++Ep 10).length=10):=J pb;have P0E:Ec (putAt (([]:List Int)++Ep 10) 0 (be (k%256) 1)=(([]:List Int)++be (k%256) 1)++Ep 9):=J (by rw[pZ _ _ _ _ sJ,O0]);have P1L:Ec (((([]:List Int)++be (k%256) 1)++Ep 9).length=10):=J pb;have P1E:Ec (putAt ((([]:List Int)++be (k%256) 1)++Ep 9) 1 (be (s%256) 1)=((([]:List Int)++be (k%256) 1)++be (s%256) 1)++Ep 8):=J (by rw[pZ _ _ _ _ sJ,O0]);have P2L:Ec ((((([]:List Int)++be (k%256) 1)++be (s%256) 1)++Ep 8).length=10):=J pb;have P2E:Ec (putAt (((([]:List Int)++be (k%256) 1)++be (s%256) 1)++Ep 8) 2 (be (q%4294967296) 4)=(((([]:List Int)++be (k%256) 1)++be (s%256) 1)++be (q%4294967296) 4)++Ep 4):=J (by rw[pZ _ _ _ _ sJ,O0]);have P3L:Ec (((((([]:List Int)++be (k%256) 1)++be (s%256) 1)++be (q%4294967296) 4)++Ep 4).length=10):=J pb;have P3E:Ec (putAt ((((([]:List Int)++be (k%256) 1)++be (s%256) 1)++be (q%4294967296) 4)++Ep 4) 6 (be (e%65536) 2)=((((([]:List Int)++be (k%256) 1)++be (s%256) 1)++be (q%4294967296) 4)++be (e%65536) 2)++Ep 2):=J (by rw[pZ _ _ _ _ sJ,O0]);have P4L:Ec ((((((([]:List Int)++be (k%256) 1)++be (s%256) 1)++be (q%4294967296) 4)++be (e%65536) 2)++Ep 2).length=10):=J pb;have P4E:Ec (putAt (((((([]:List Int)++be (k%256) 1)++be (s%256) 1)++be (q%4294967296) 4)++be (e%65536) 2)++Ep 2) 8 (be (c%256) 1)=(((((([]:List Int)++be (k%256) 1)++be (s%256) 1)++be (q%4294967296) 4)++be (e%65536) 2)++be (c%256) 1)++Ep 1):=J (by rw[pZ _ _ _ _ sJ,O0]);have P5L:Ec (((((((([]:List Int)++be (k%256) 1)++be (s%256) 1)++be (q%4294967296) 4)++be (e%65536) 2)++be (c%256) 1)++Ep 1).length=10):=J pb;have P5E:Ec (putAt ((((((([]:List Int)++be (k%256) 1)++be (s%256) 1)++be (q%4294967296) 4)++be (e%65536) 2)++be (c%256) 1)++Ep 1) 9 (be (h%256) 1)=((((((([]:List Int)++be (k%256) 1)++be (s%256) 1)++be (q%4294967296) 4)++be (e%65536) 2)++be (c%256) 1)++be (h%256) 1)++Ep 0):=J (by rw[pZ _ _ _ _ sJ,O0]);replace K4:Ec (D w4 g4 (Ej (([]:List Int)++Ep 10)) 176):=K4;clear K3c K3;rw[Ij];have IX: ∀W,(Uj 207 (EZ #[E I k,E I 1,E I s,E I 1,E I q,E I 4,E I e,E I 2,E I c,E I 1,E I h,E I 1]) (E I 0)).run Eb W= .ok (EZ #[E I k,E I 1]) W:=fun W=>sI _ 0 U W;go_wp2_with (with_reducible refine wA sE (Ev.mk ?_));apply Eo;have bel:=Er w4 (EJ (I4 (Ep 2)) 206);replace K2:=J<|K2.out.V bel;replace K4:=J<|K4.out.V bel;replace u:=ET u bel;have K7:=J<|D.new w4 (I4 (Ep 2)) 206;clear bel;generalize w4.alloc (EJ (I4 (Ep 2)) 206)=w0a at*;generalize w4.heap.size=uT at*;go_wp2_with (with_reducible refine wS (cs:=I4 [k,1]) r_ K7 (Ev.mk ?_) (h1:=rY _));apply Eo;replace K2:=J<|K2.out.setRow_other uT (I4 [k,1]) U;replace K4:=J<|K4.out.setRow_other uT (I4 [k,1]) U;replace K7:=J<|K7.out.setRow (I4 [k,1]);replace u:=J<|E2 (g:=uT) u.out U (I4 [k,1]);generalize w0a.setRow uT (I4 [k,1])=Sa at*;have cf: ∀i,Sa.cell? ⟨uT,i,X⟩=(#[E I k,E I 1]:Array Y)[i]?:=(JU K7.out).1;clear IX;have PUT: ∀W:H,Ef Eb 111 #[E Im (k%256),E I 1] W fun en w'=>en=Eg (Et #[G (Z ⟨W.heap.size,0,X⟩) 1 1,E I 0])/\Row w' (Z ⟨W.heap.size,0,X⟩) (be (k%256) 1)/\El W w':=fun W=>kX (k%256) 1 W U U U (by show(k%256)/256=0;omega);go_wp2_with fail;rw[Az];refine(PUT _).mono ?_;rintro e' w0c ⟨rfl,RP,bp⟩;clear PUT cf;replace K2:=J<|K2.out.V bp;replace K4:=J<|K4.out.V bp;replace K7:=J<|K7.out.V bp;replace u:=ET u bp;clear bp K7;replace RP:=J RP;go_wp2_with (with_reducible refine I7 60 ?_);apply Eo;(with_reducible refine j_ ?_ g4 0 1 1 (([]:List Int)++Ep 10) 176 (Z ⟨Sa.heap.size,0,X⟩) 1 1 (be (k%256) 1) 1 (Z ⟨g4,0,X⟩) ?_ K4 (O0 _ _) RP ?_ ?_ ?_ ?_);·exact Ei O
 ·exact Enr
 ·rfl
 ·rw[P0L.out];omega
 ·exact Eoy
 intro uV XQ b5 o5 s5;rw[OY sO,P0E.out] at XQ;replace u:=J<|u.out.trans (b5.mono U);replace K2:=J<|show D uV g2 (Ej (Ep 10)) 176 from(o5 _ U).trans K2.out;clear K4 o5 s5 b5 RP;replace K4:=J XQ;clear XQ;have l4:=K4.out.lt;go_wp2_with fail;rw[Ij];have IX: ∀W,(Uj 207 (EZ #[E I k,E I 1,E I s,E I 1,E I q,E I 4,E I e,E I 2,E I c,E I 1,E I h,E I 1]) (E I 1)).run Eb W= .ok (EZ #[E I s,E I 1]) W:=fun W=>sI _ 1 U W;go_wp2_with (with_reducible refine wA sE (Ev.mk ?_));apply Eo;have bel:=Er uV (EJ (I4 (Ep 2)) 206);replace K2:=J<|K2.out.V bel;replace K4:=J<|K4.out.V bel;replace u:=ET u bel;have K7:=J<|D.new uV (I4 (Ep 2)) 206;clear bel;generalize uV.alloc (EJ (I4 (Ep 2)) 206)=w1a at*;generalize uV.heap.size=uW at*;go_wp2_with (with_reducible refine wS (cs:=I4 [s,1]) r_ K7 (Ev.mk ?_) (h1:=rY _));apply Eo;replace K2:=J<|K2.out.setRow_other uW (I4 [s,1]) U;replace K4:=J<|K4.out.setRow_other uW (I4 [s,1]) U;replace K7:=J<|K7.out.setRow (I4 [s,1]);replace u:=J<|E2 (g:=uW) u.out U (I4 [s,1]);generalize w1a.setRow uW (I4 [s,1])=Sb at*;have cf: ∀i,Sb.cell? ⟨uW,i,X⟩=(#[E I s,E I 1]:Array Y)[i]?:=(JU K7.out).1;clear IX;have PUT: ∀W:H,Ef Eb 111 #[E Im (s%256),E I 1] W fun en w'=>en=Eg (Et #[G (Z ⟨W.heap.size,0,X⟩) 1 1,E I 0])/\Row w' (Z ⟨W.heap.size,0,X⟩) (be (s%256) 1)/\El W w':=fun W=>kX (s%256) 1 W U U U (by show(s%256)/256=0;omega);go_wp2_with fail;rw[Az];refine(PUT _).mono ?_;rintro e' w1c ⟨rfl,RP,bp⟩;clear PUT cf;replace K2:=J<|K2.out.V bp;replace K4:=J<|K4.out.V bp;replace K7:=J<|K7.out.V bp;replace u:=ET u bp;clear bp K7;replace RP:=J RP;go_wp2_with (with_reducible refine I7 60 ?_);apply Eo;(with_reducible refine j_ ?_ g4 1 1 1 ((([]:List Int)++be (k%256) 1)++Ep 9) 176 (Z ⟨Sb.heap.size,0,X⟩) 1 1 (be (s%256) 1) 1 (Z ⟨g4,1,X⟩) ?_ K4 (O0 _ _) RP ?_ ?_ ?_ ?_);·exact Ei O
 ·exact Enr
 ·rfl
 ·rw[P1L.out];omega
 ·exact Eoy
 intro uY XQ b5 o5 s5;rw[OY sO,P1E.out] at XQ;replace u:=J<|u.out.trans (b5.mono U);replace K2:=J<|show D uY g2 (Ej (Ep 10)) 176 from(o5 _ U).trans K2.out;clear K4 o5 s5 b5 RP;replace K4:=J XQ;clear XQ;have l4:=K4.out.lt;go_wp2_with fail;rw[Ij];have IX: ∀W,(Uj 207 (EZ #[E I k,E I 1,E I s,E I 1,E I q,E I 4,E I e,E I 2,E I c,E I 1,E I h,E I 1]) (E I 2)).run Eb W= .ok (EZ #[E I q,E I 4]) W:=fun W=>sI _ 2 U W;go_wp2_with (with_reducible refine wA sE (Ev.mk ?_));apply Eo;have bel:=Er uY (EJ (I4 (Ep 2)) 206);replace K2:=J<|K2.out.V bel;replace K4:=J<|K4.out.V bel;replace u:=ET u bel;have K7:=J<|D.new uY (I4 (Ep 2)) 206;clear bel;generalize uY.alloc (EJ (I4 (Ep 2)) 206)=w2a at*;generalize uY.heap.size=u0 at*;go_wp2_with (with_reducible refine wS (cs:=I4 [q,4]) r_ K7 (Ev.mk ?_) (h1:=rY _));apply Eo;replace K2:=J<|K2.out.setRow_other u0 (I4 [q,4]) U;replace K4:=J<|K4.out.setRow_other u0 (I4 [q,4]) U;replace K7:=J<|K7.out.setRow (I4 [q,4]);replace u:=J<|E2 (g:=u0) u.out U (I4 [q,4]);generalize w2a.setRow u0 (I4 [q,4])=Sc at*;have cf: ∀i,Sc.cell? ⟨u0,i,X⟩=(#[E I q,E I 4]:Array Y)[i]?:=(JU K7.out).1;clear IX;have PUT: ∀W:H,Ef Eb 111 #[E Im (q%4294967296),E I 4] W fun en w'=>en=Eg (Et #[G (Z ⟨W.heap.size,0,X⟩) 4 4,E I 0])/\Row w' (Z ⟨W.heap.size,0,X⟩) (be (q%4294967296) 4)/\El W w':=fun W=>kX (q%4294967296) 4 W U U U (by show(q%4294967296)/4294967296=0;omega);go_wp2_with fail;rw[EZT];refine(PUT _).mono ?_;rintro e' w2c ⟨rfl,RP,bp⟩;clear PUT cf;replace K2:=J<|K2.out.V bp;replace K4:=J<|K4.out.V bp;replace K7:=J<|K7.out.V bp;replace u:=ET u bp;clear bp K7;replace RP:=J RP;go_wp2_with (with_reducible refine I7 60 ?_);apply Eo;(with_reducible refine j_ ?_ g4 2 4 4 (((([]:List Int)++be (k%256) 1)++be (s%256) 1)++Ep 8) 176 (Z ⟨Sc.heap.size,0,X⟩) 4 4 (be (q%4294967296) 4) 4 (Z ⟨g4,2,X⟩) ?_ K4 (O0 _ _) RP ?_ ?_ ?_ ?_);·exact Ei O
 ·exact Enr
 ·rfl
 ·rw[P2L.out];omega
 ·exact Eoy
 intro u1 XQ b5 o5 s5;rw[OY sO,P2E.out] at XQ;replace u:=J<|u.out.trans (b5.mono U);replace K2:=J<|show D u1 g2 (Ej (Ep 10)) 176 from(o5 _ U).trans K2.out;clear K4 o5 s5 b5 RP;replace K4:=J XQ;clear XQ;have l4:=K4.out.lt;go_wp2_with fail;rw[Ij];have IX: ∀W,(Uj 207 (EZ #[E I k,E I 1,E I s,E I 1,E I q,E I 4,E I e,E I 2,E I c,E I 1,E I h,E I 1]) (E I 3)).run Eb W= .ok (EZ #[E I e,E I 2]) W:=fun W=>sI _ 3 U W;go_wp2_with (with_reducible refine wA sE (Ev.mk ?_));apply Eo;have bel:=Er u1 (EJ (I4 (Ep 2)) 206);replace K2:=J<|K2.out.V bel;replace K4:=J<|K4.out.V bel;replace u:=ET u bel;have K7:=J<|D.new u1 (I4 (Ep 2)) 206;clear bel;generalize u1.alloc (EJ (I4 (Ep 2)) 206)=w3a at*;generalize u1.heap.size=u2 at*;go_wp2_with (with_reducible refine wS (cs:=I4 [e,2]) r_ K7 (Ev.mk ?_) (h1:=rY _));apply Eo;replace K2:=J<|K2.out.setRow_other u2 (I4 [e,2]) U;replace K4:=J<|K4.out.setRow_other u2 (I4 [e,2]) U;replace K7:=J<|K7.out.setRow (I4 [e,2]);replace u:=J<|E2 (g:=u2) u.out U (I4 [e,2]);generalize w3a.setRow u2 (I4 [e,2])=AA at*;have cf: ∀i,AA.cell? ⟨u2,i,X⟩=(#[E I e,E I 2]:Array Y)[i]?:=(JU K7.out).1;clear IX;have PUT: ∀W:H,Ef Eb 111 #[E Im (e%65536),E I 2] W fun en w'=>en=Eg (Et #[G (Z ⟨W.heap.size,0,X⟩) 2 2,E I 0])/\Row w' (Z ⟨W.heap.size,0,X⟩) (be (e%65536) 2)/\El W w':=fun W=>kX (e%65536) 2 W U U U (by show(e%65536)/65536=0;omega);go_wp2_with fail;rw[EZS];refine(PUT _).mono ?_;rintro e' w3c ⟨rfl,RP,bp⟩;clear PUT cf;replace K2:=J<|K2.out.V bp;replace K4:=J<|K4.out.V bp;replace K7:=J<|K7.out.V bp;replace u:=ET u bp;clear bp K7;replace RP:=J RP;go_wp2_with (with_reducible refine I7 60 ?_);apply Eo;(with_reducible refine j_ ?_ g4 6 2 2 ((((([]:List Int)++be (k%256) 1)++be (s%256) 1)++be (q%4294967296) 4)++Ep 4) 176 (Z ⟨AA.heap.size,0,X⟩) 2 2 (be (e%65536) 2) 2 (Z ⟨g4,6,X⟩) ?_ K4 (O0 _ _) RP ?_ ?_ ?_ ?_);·exact Ei O
 ·exact Enr
 ·rfl
 ·rw[P3L.out];omega
 ·exact Eoy
 intro u3 XQ b5 o5 s5;rw[OY sO,P3E.out] at XQ;replace u:=J<|u.out.trans (b5.mono U);replace K2:=J<|show D u3 g2 (Ej (Ep 10)) 176 from(o5 _ U).trans K2.out;clear K4 o5 s5 b5 RP;replace K4:=J XQ;clear XQ;have l4:=K4.out.lt;go_wp2_with fail;rw[Ij];have IX: ∀W,(Uj 207 (EZ #[E I k,E I 1,E I s,E I 1,E I q,E I 4,E I e,E I 2,E I c,E I 1,E I h,E I 1]) (E I 4)).run Eb W= .ok (EZ #[E I c,E I 1]) W:=fun W=>sI _ 4 U W;go_wp2_with (with_reducible refine wA sE (Ev.mk ?_));apply Eo;have bel:=Er u3 (EJ (I4 (Ep 2)) 206);replace K2:=J<|K2.out.V bel;replace K4:=J<|K4.out.V bel;replace u:=ET u bel;have K7:=J<|D.new u3 (I4 (Ep 2)) 206;clear bel;generalize u3.alloc (EJ (I4 (Ep 2)) 206)=w4a at*;generalize u3.heap.size=u4 at*;go_wp2_with (with_reducible refine wS (cs:=I4 [c,1]) r_ K7 (Ev.mk ?_) (h1:=rY _));apply Eo;replace K2:=J<|K2.out.setRow_other u4 (I4 [c,1]) U;replace K4:=J<|K4.out.setRow_other u4 (I4 [c,1]) U;replace K7:=J<|K7.out.setRow (I4 [c,1]);replace u:=J<|E2 (g:=u4) u.out U (I4 [c,1]);generalize w4a.setRow u4 (I4 [c,1])=Sd at*;have cf: ∀i,Sd.cell? ⟨u4,i,X⟩=(#[E I c,E I 1]:Array Y)[i]?:=(JU K7.out).1;clear IX;have PUT: ∀W:H,Ef Eb 111 #[E Im (c%256),E I 1] W fun en w'=>en=Eg (Et #[G (Z ⟨W.heap.size,0,X⟩) 1 1,E I 0])/\Row w' (Z ⟨W.heap.size,0,X⟩) (be (c%256) 1)/\El W w':=fun W=>kX (c%256) 1 W U U U (by show(c%256)/256=0;omega);go_wp2_with fail;rw[Az];refine(PUT _).mono ?_;rintro e' w4c ⟨rfl,RP,bp⟩;clear PUT cf;replace K2:=J<|K2.out.V bp;replace K4:=J<|K4.out.V bp;replace K7:=J<|K7.out.V bp;replace u:=ET u bp;clear bp K7;replace RP:=J RP;go_wp2_with (with_reducible refine I7 60 ?_);apply Eo;(with_reducible refine j_ ?_ g4 8 1 1 (((((([]:List Int)++be (k%256) 1)++be (s%256) 1)++be (q%4294967296) 4)++be (e%65536) 2)++Ep 2) 176 (Z ⟨Sd.heap.size,0,X⟩) 1 1 (be (c%256) 1) 1 (Z ⟨g4,8,X⟩) ?_ K4 (O0 _ _) RP ?_ ?_ ?_ ?_);·exact Ei O
 ·exact Enr
 ·rfl
 ·rw[P4L.out];omega
 ·exact Eoy
 intro u5 XQ b5 o5 s5;rw[OY sO,P4E.out] at XQ;replace u:=J<|u.out.trans (b5.mono U);replace K2:=J<|show D u5 g2 (Ej (Ep 10)) 176 from(o5 _ U).trans K2.out;clear K4 o5 s5 b5 RP;replace K4:=J XQ;clear XQ;have l4:=K4.out.lt;go_wp2_with fail;rw[Ij];have IX: ∀W,(Uj 207 (EZ #[E I k,E I 1,E I s,E I 1,E I q,E I 4,E I e,E I 2,E I c,E I 1,E I h,E I 1]) (E I 5)).run Eb W= .ok (EZ #[E I h,E I 1]) W:=fun W=>sI _ 5 U W;go_wp2_with (with_reducible refine wA sE (Ev.mk ?_));apply Eo;have bel:=Er u5 (EJ (I4 (Ep 2)) 206);replace K2:=J<|K2.out.V bel;replace K4:=J<|K4.out.V bel;replace u:=ET u bel;have K7:=J<|D.new u5 (I4 (Ep 2)) 206;clear bel;generalize u5.alloc (EJ (I4 (Ep 2)) 206)=w5a at*;generalize u5.heap.size=u6 at*;go_wp2_with (with_reducible refine wS (cs:=I4 [h,1]) r_ K7 (Ev.mk ?_) (h1:=rY _));apply Eo;replace K2:=J<|K2.out.setRow_other u6 (I4 [h,1]) U;replace K4:=J<|K4.out.setRow_other u6 (I4 [h,1]) U;replace K7:=J<|K7.out.setRow (I4 [h,1]);replace u:=J<|E2 (g:=u6) u.out U (I4 [h,1]);generalize w5a.setRow u6 (I4 [h,1])=Sf at*;have cf: ∀i,Sf.cell? ⟨u6,i,X⟩=(#[E I h,E I 1]:Array Y)[i]?:=(JU K7.out).1;clear IX;have PUT: ∀W:H,Ef Eb 111 #[E Im (h%256),E I 1] W fun en w'=>en=Eg (Et #[G (Z ⟨W.heap.size,0,X⟩) 1 1,E I 0])/\Row w' (Z ⟨W.heap.size,0,X⟩) (be (h%256) 1)/\El W w':=fun W=>kX (h%256) 1 W U U U (by show(h%256)/256=0;omega);go_wp2_with fail;rw[Az];refine(PUT _).mono ?_;rintro e' w5c ⟨rfl,RP,bp⟩;clear PUT cf;replace K2:=J<|K2.out.V bp;replace K4:=J<|K4.out.V bp;replace K7:=J<|K7.out.V bp;replace u:=ET u bp;clear bp K7;replace RP:=J RP;go_wp2_with (with_reducible refine I7 60 ?_);apply Eo;(with_reducible refine j_ ?_ g4 9 1 1 ((((((([]:List Int)++be (k%256) 1)++be (s%256) 1)++be (q%4294967296) 4)++be (e%65536) 2)++be (c%256) 1)++Ep 1) 176 (Z ⟨Sf.heap.size,0,X⟩) 1 1 (be (h%256) 1) 1 (Z ⟨g4,9,X⟩) ?_ K4 (O0 _ _) RP ?_ ?_ ?_ ?_);·exact Ei O
 ·exact Enr
 ·rfl
 ·rw[P5L.out];omega
 ·exact Eoy
 intro w5d XQ b5 o5 s5;rw[OY sO,P5E.out] at XQ;replace u:=J<|u.out.trans (b5.mono U);replace K2:=J<|show D w5d g2 (Ej (Ep 10)) 176 from(o5 _ U).trans K2.out;clear K4 o5 s5 b5 RP;replace K4:=J XQ;clear XQ;have l4:=K4.out.lt;go_wp2_with fail;rw[Ij];have Sg:gE k s q e c h=((((((([]:List Int)++be (k%256) 1)++be (s%256) 1)++be (q%4294967296) 4)++be (e%65536) 2)++be (c%256) 1)++be (h%256) 1):=rfl;have PL:(((((((([]:List Int)++be (k%256) 1)++be (s%256) 1)++be (q%4294967296) 4)++be (e%65536) 2)++be (c%256) 1)++be (h%256) 1)++Ep 0).length=10:=pb;have PE:((((((([]:List Int)++be (k%256) 1)++be (s%256) 1)++be (q%4294967296) 4)++be (e%65536) 2)++be (c%256) 1)++be (h%256) 1)++Ep 0=gE k s q e c h:=by rw[Sg];exact fS _
 rw[PE] at K4 PL;clear PE Sg;generalize hrb:gE k s q e c h=rb at*;replace hrb:=J hrb;replace PL:=J PL;go_wp2_with (with_reducible first|refine wL Ay K4 ?_ (hn:=Sh)|refine wS (cs:=Ej rb) Ay K2 (Ev.mk ?_) (ho:=XO) (hn:=Sh) (h1:=Xm _));apply Eo;replace K2:=J<|K2.out.setRow (Ej rb);replace u:=J<|E2 (g:=g2) u.out U (Ej rb);go_wp2_with fail;refine EV (v:=EZ (Ej rb)) (Jj Ay O _ _ g2 _ O K2.out (by rw[Od,PL.out])) O ⟨by rw[hrb.out],u.out⟩
theorem of_nil(w:H):Ef Eb 45 #[G X 0 0] w fun e w'=>e=Eg (EZ (Ej (Ep 32)))/\El w w':=by have u:=J<|E9 w.heap.size w;go_enter Tryz.func45,Tryz.ntmps45;go_wp2_with (with_reducible refine wA aP (Ev.mk ?_));apply Eo;have K2:=J<|D.new w (Ej (Ep 32)) 41;replace u:=J<|Er w (EJ (Ej (Ep 32)) 41);generalize w.alloc (EJ (Ej (Ep 32)) 41)=w1 at*;have l1:=K2.out.lt;go_wp2_with (with_reducible refine wA aP (Ev.mk ?_));apply Eo;have bel:=Er w1 (EJ (Ej (Ep 32)) 41);replace K2:=J<|K2.out.V bel;replace u:=ET u bel;have K3:=J<|D.new w1 (Ej (Ep 32)) 41;clear bel;generalize w1.alloc (EJ (Ej (Ep 32)) 41)=w2 at*;generalize w1.heap.size=g3 at*;go_wp2_with fail;refine Ud 1 ?_;rw[Ij];go_wp2_with (with_reducible first|refine wL OZ K3 ?_ (hn:=XO)|refine wS (cs:=Ej (Ep 32)) OZ K2 (Ev.mk ?_) (ho:=XO) (hn:=XO) (h1:=Xm _));apply Eo;go_wp2_with fail;refine EV (v:=EZ (Ej (Ep 32))) (Jj OZ O _ _ w.heap.size _ O (K2.out.setRow (Ej (Ep 32))) Hi) O ⟨O,E2 u.out U _⟩
theorem Eaa(w:H)(g:Nat)(xs:List Int)(hr0:Row w (Z ⟨g,0,X⟩) xs)(g' c:Nat)(ys:List Int)(hr:Row w (Z ⟨g',0,X⟩) ys)(hpos:0<ys.length)(hsmall:xs.length+ys.length<=1000000000)(ty:EB): ∃A' cap' w',(bv #[23,23] ty #[G (Z ⟨g,0,X⟩) xs.length xs.length,G (Z ⟨g',0,X⟩) ys.length c]).run Eb w= .ok (G A' (xs.length+ys.length) cap') w'/\ Own w' w.heap.size A' cap' (xs++ys)/\El w w':=by
 obtain⟨i0,hi,hz0,hz1,hz2⟩:=bz mJ
 have cells: ∀(g:Nat) (l:List Int),Row w (Z ⟨g,0,X⟩) l-> ∀(j:Nat) Y3,(l.map (E .u8))[j]?=Z Y3->w.cell? ((⟨g,0,X⟩:Eu).add j)=Z Y3:=by
  intro g l hl j Y3 hu
  have hj:j<l.length:=by
   rcases JY j l.length with h|h;·exact h
   ·rw[bf Up] at hu;cases hu
  rcases hl.1 with h|⟨b,off,h,hc⟩;·subst h;simp at hj
  ·injection h with h;have e:((⟨g,0,X⟩:Eu)).add j=⟨b,off+j,X⟩:=by rw[h];unfold Addr.add;split<;>simp_all
   rw[e,hc j hj];simpa[hj] using hu
 have hbb: ∀x∈xs++ys,0<=x/\x<=255:=by
  intro x hx;rcases XM.1 hx with h|h;·exact hr0.2 x h
  ·exact hr.2 x h
 obtain⟨v',w',hrun,h2,h3⟩:=run_append_arg_grows (P:=Eb) w 23 ty 5 i0 (E IL 0) 1 1 bA hi hz0 hz1 hz2 O U ⟨g,0,X⟩ xs.length xs.length (xs.map (E .u8)) Eh (cells g xs hr0) ⟨g',0,X⟩ ys.length c (ys.map (E .u8)) Eh (cells g' ys hr) U Ot U;have hbel:El w w':=(E9 _ _).grown h3 (E7 _) (fun k hk=>by cases hk);rcases h2.2 with⟨hv,hn⟩|⟨g2,cap',cur,hv,hrest⟩;·omega
 ·refine⟨Z ⟨g2,0,X⟩,cap',w',by rw[hrun,hv],⟨?_,hbb⟩,hbel⟩;rw[hv] at h2;rw[IY,kU];exact h2
theorem Eab{ops:Array EL}{rest:List EL}{o:EL}{a:E6}{Q:UM->E6->H->Prop}(w:H)(hgd:I5 o (JO ops a.tmps)=EI)(s x:J7) (ho:o.op= .call {callee:= .builtin .append,args:= #[s,x],argTypes:= #[23,23]}) (g n:Nat) (xs:List Int) (hn:xs.length=n) (hs:a.eval s=G (Z ⟨g,0,X⟩) n n) (hr0:Row w (Z ⟨g,0,X⟩) xs) (g' c m:Nat) (ys:List Int) (hm:ys.length=m) (hx:a.eval x=G (Z ⟨g',0,X⟩) m c) (hr:Row w (Z ⟨g',0,X⟩) ys) (hpos:0<m) (hsmall:n+m<=1000000000) (h: ∀A' cap' w',Own w' w.heap.size A' cap' (xs++ys)->El w w'->Ic Eb ops Q rest (a.put o.dst (G A' (n+m) cap')) w'):Ic Eb ops Q (o::rest) a w:=by subst hn hm;obtain⟨A',cap',w',hrun,hown,hbel⟩:=Eaa w g xs hr0 g' c ys hr hpos hsmall o.type;refine Jr hgd (v:=G A' (xs.length+ys.length) cap') (w':=w') ?_ (h _ _ _ hown hbel);exact En7
theorem Eac(hd:List Int)(k s q e c h:Int)(hl:hd.length=32)(hb: ∀x∈hd,0<=x/\x<=255)(w:H)(hR:Jt w): Ef Eb 68 #[EZ (Ej hd),EZ #[E I k,E I s,E I q,E I e,E I c,E I h]] w fun e' w'=>e'=Eg (EZ (Ej (Xo (hd++gE k s q e c h))))/\El w w':=by
 have RT:=J hR;have HL:=J hl;have HB:=J hb;have CR:=fun W:H=>EZV k s q e c h W;have RL:=EZQ k s q e c h;have RB:=EZR k s q e c h;generalize gE k s q e c h=rb at*;replace RL:=J RL;replace RB:=J RB;replace CR:=J CR;clear hl hb hR;have CS:=fun(A:Option Eu) (cp:Nat) (W:H) (hr:Row W A (hd++rb)) (hb:El w W)=>rL A (hd++rb) 42 cp W (by rw[IY,HL.out,RL.out]) hr U (RT.out.V hb);have AL:=kw (hd++rb);generalize Xo (hd++rb)=ans at*;replace AL:=J AL;replace CS:=J CS;go_enter Tryz.func68,Tryz.ntmps68;go_wp2_with (with_reducible refine wA aP (Ev.mk ?_));apply Eo;have K2:=J<|((D.new w (Ej hd) 41).alloc (EJ #[E I k,E I s,E I q,E I e,E I c,E I h] 58)).alloc (EJ (Ej (Ep 32)) 41);have K3:=J<|(D.new' (w.alloc (EJ (Ej hd) 41)) #[E I k,E I s,E I q,E I e,E I c,E I h] 58 (g:=w.heap.size+1) Eh).alloc (EJ (Ej (Ep 32)) 41);have K4:=J<|D.new' ((w.alloc (EJ (Ej hd) 41)).alloc (EJ #[E I k,E I s,E I q,E I e,E I c,E I h] 58)) (Ej (Ep 32)) 41 (g:=w.heap.size+1+1) Eh;have u:=J<|Z_ w (EJ (Ej hd) 41) (EJ #[E I k,E I s,E I q,E I e,E I c,E I h] 58) (EJ (Ej (Ep 32)) 41);generalize ((w.alloc (EJ (Ej hd) 41)).alloc (EJ #[E I k,E I s,E I q,E I e,E I c,E I h] 58)).alloc (EJ (Ej (Ep 32)) 41)=w1 at*;obtain⟨g3,hg3⟩:=Jl (w.heap.size+1);rw[hg3] at K3 K4;simp only[hg3];obtain⟨g4,hg4⟩:=Jl (g3+1);rw[hg4] at K4;simp only[hg4];have lo4:w.heap.size<g4:=U;clear hg3 hg4;go_wp2_with (with_reducible refine wL EZM K3 ?_);refine(CR.out _).mono ?_;rintro e' w2 ⟨rfl,b2⟩;clear CR K3;replace K2:=J<|K2.out.V b2;replace K4:=J<|K4.out.V b2;replace u:=ET u b2;clear b2;have l4:=K4.out.lt;go_wp2_with (with_reducible refine wA Hg (Ev.mk ?_));apply Eo;have bel:=Er w2 (EJ (Ej (Ep 10)) 176);replace K2:=J<|K2.out.V bel;replace K4:=J<|K4.out.V bel;replace u:=ET u bel;have K5:=J<|D.new w2 (Ej (Ep 10)) 176;clear bel;generalize w2.alloc (EJ (Ej (Ep 10)) 176)=w3 at*;generalize w2.heap.size=g5 at*;go_wp2_with (with_reducible refine wS (cs:=Ej rb) Ay K5 (Ev.mk ?_) (ho:=XO) (hn:=Hj) (h1:=Xm _));apply Eo;replace K2:=J<|K2.out.setRow_other g5 (Ej rb) U;replace K4:=J<|K4.out.setRow_other g5 (Ej rb) U;replace K5:=J<|K5.out.setRow (Ej rb);replace u:=J<|E2 (g:=g5) u.out U (Ej rb);generalize w3.setRow g5 (Ej rb)=w4 at*;go_wp2_with fail;refine tQ 2 Ed Ed ?_;simp only[Iq,Io,IP,IH];repeat (go_big_quiet_step (fail))
 refine I1 ?_;intro _ hw';obtain⟨nq,rfl⟩:=hw';replace u:=J<|gP u.out nq;replace K2:=J<|K2.out.drewN nq;replace K4:=J<|K4.out.drewN nq;replace K5:=J<|K5.out.drewN nq;generalize w4.drewN nq=w5 at*;have r2:=J<|aK K2.out HB.out;have r5:=J<|aK K5.out RB.out;(with_reducible refine Eab _ ?_ (.tmp 8) (.tmp 9) O w.heap.size 32 hd HL.out ?_ r2.out g5 10 10 rb RL.out ?_ r5.out U U ?_);·exact Ei O
 ·rfl
 ·rfl
 intro A1 mF w6 o6 b6;have r6:=J o6.row;clear r2 r5 o6 K2 K5;replace K4:=J<|K4.out.V b6;replace u:=ET u b6;clear b6;go_wp2_with fail;refine(CS.out _ _ _ r6.out u.out).mono ?_;rintro e' w7 ⟨rfl,b7⟩;replace K4:=J<|K4.out.V b7;replace u:=ET u b7;clear b7 r6 CS;go_wp2_with (with_reducible refine wS (cs:=Ej ans) OZ K4 (Ev.mk ?_) (ho:=XO) (hn:=Gj) (h1:=Xm _));apply Eo;go_wp2_with fail;refine EV (v:=EZ (Ej ans)) (Jj OZ O _ _ g4 _ O (K4.out.setRow _) Gk) O ⟨O,E2 u.out U _⟩
def I6(l:List Int):Array Y:=((U4 14).map fun i=>if 6<=i then E .u8 (l.getD i 0) else E I (l.getD i 0)).toArray
theorem pd(l:List Int):(I6 l).size=14:=by simp[I6]
theorem aR(l:List Int)(i:Nat)(h:i<14):(I6 l)[i]?=Z (if 6<=i then E .u8 (l.getD i 0) else E I (l.getD i 0)):=by simp[I6,h]
theorem Hk(l:List Int):(I6 l).all (·.oneCell')=EI:=by rw[Array.all_eq_true];intro i hi;simp only[I6,List.getElem_toArray,List.getElem_map];split<;>rfl
theorem Ead(l:List Int)(hl:l.length=14)(o:Nat)(ho:o<14)(n:Int):(I6 l).setIfInBounds o (if 6<=o then E .u8 n else E I n)=I6 (l.set o n):=by
 apply Array.ext_getElem?;intro j;rw[Array.getElem?_setIfInBounds];by_cases h:o=j
 ·subst h;rw[if_pos O,if_pos (by rw[pd];exact ho),aR _ _ ho];have e:(l.set o n).getD o 0=n:=by simp[hl,ho]
  rw[e]
 ·rw[if_neg h];by_cases hj:j<14
  ·rw[aR _ _ hj,aR _ _ hj];have e1:(l.set o n).getD j 0=l.getD j 0:=by simp[Uq,List.getElem?_set_ne h]
   rw[e1]
  ·rw[gQ (by rw[pd];omega),gQ (by rw[pd];omega)]
theorem AB:IG Eb 222 14:=⟨⟨_,Tryz.underlying222,O⟩,Ed⟩
def du(l:List Int):Prop:=l.length=14/\ ∀i,6<=i->i<14->0<=l.getD i 0/\l.getD i 0<=255
def FD.Hl(d:FD):Prop:=d.off<14/\(d.kd=0\/d.kd=2\/d.kd=3)/\(d.kd=3↔6<=d.off)
theorem FD.Eaf(h:d.kd=2):d.get=250:=F6
theorem FD.Eag(h:d.kd=2):d.set=251:=zE
theorem FD.Si(h:d.kd=2):d.box=333:=zJ
theorem FD.Eah(h:d.kd=3):d.get=248:=F6
theorem FD.Eai(h:d.kd=3):d.set=249:=zE
theorem FD.Sj(h:d.kd=3):d.box=331:=zJ
theorem Eaj(gb gm o:Nat)(n:Int)(w:H)(hb:D w gb #[M (Z ⟨gm,o,X⟩)] 333)(hc:w.cell? ⟨gm,o,X⟩=Z (E I n)): Ef Eb 250 #[M (Z ⟨gb,0,X⟩)] w fun e w'=>e=Eg (E I n)/\w=w':=by have c0:=hb.cell 0;simp only[OE,kZ] at c0;clear hb;go_enter Tryz.func250,Tryz.ntmps250;exact Eli
theorem Eak(gb gm o:Nat)(n m:Int)(w:H)(hb:D w gb #[M (Z ⟨gm,o,X⟩)] 333)(hc:w.cell? ⟨gm,o,X⟩=Z (E I m))(hf:w.frozen? ⟨gm,o,X⟩=B): Ef Eb 251 #[E I n,M (Z ⟨gb,0,X⟩)] w fun e w'=>e=Eg (Et #[])/\w.setCell ⟨gm,o,X⟩ (E I n)=w':=by have c0:=hb.cell 0;simp only[OE,kZ] at c0;clear hb;go_enter Tryz.func251,Tryz.ntmps251;exact EnL
theorem Eal(gb gm o:Nat)(n:Int)(w:H)(h0:0<=n)(h1:n<=255)(hb:D w gb #[M (Z ⟨gm,o,X⟩)] 331)(hc:w.cell? ⟨gm,o,X⟩=Z (E IL n)): Ef Eb 248 #[M (Z ⟨gb,0,X⟩)] w fun e w'=>e=Eg (E I n)/\w=w':=by have c0:=hb.cell 0;simp only[OE,kZ] at c0;clear hb;go_enter Tryz.func248,Tryz.ntmps248;exact Eli
theorem Eam(gb gm o:Nat)(n m:Int)(w:H)(h0:0<=n)(h1:n<=255)(hb:D w gb #[M (Z ⟨gm,o,X⟩)] 331)(hc:w.cell? ⟨gm,o,X⟩=Z (E IL m))(hf:w.frozen? ⟨gm,o,X⟩=B): Ef Eb 249 #[E I n,M (Z ⟨gb,0,X⟩)] w fun e w'=>e=Eg (Et #[])/\w.setCell ⟨gm,o,X⟩ (E IL n)=w':=by have c0:=hb.cell 0;simp only[OE,kZ] at c0;clear hb;go_enter Tryz.func249,Tryz.ntmps249;exact EnL
theorem Ean(d:FD)(gb gm:Nat)(l:List Int)(w:H)(hd:d.Hl)(hl:du l)(hb:ZI w d gm gb)(hm:D w gm (I6 l) 222): Ef Eb d.get #[M (Z ⟨gb,0,X⟩)] w fun e w'=>e=Eg (E I (l.getD d.off 0))/\w=w':=by
 obtain⟨ho,hk,h3⟩:=hd;have hc:=hm.cell d.off;rw[aR _ _ ho] at hc;unfold ZI at hb;rcases hk with hk|hk|hk;·rw[if_neg (fun h=>AC)] at hc;rw[FD.zI hk] at hb;rw[FD.P2 hk];exact EJ5 gb gm d.off _ w hb hc
 ·rw[if_neg (fun h=>AC)] at hc;rw[FD.Si hk] at hb;rw[FD.Eaf hk];exact Eaj gb gm d.off _ w hb hc
 ·rw[if_pos (h3.1 hk)] at hc;rw[FD.Sj hk] at hb;rw[FD.Eah hk];have h8:=hl.2 d.off (h3.1 hk) ho;exact Eal gb gm d.off _ w h8.1 h8.2 hb hc
theorem Eao(d:FD)(gb gm:Nat)(l:List Int)(n:Int)(w:H)(hd:d.Hl)(hn:d.kd=3->0<=n/\n<=255)(hl:du l)(hb:ZI w d gm gb)(hm:D w gm (I6 l) 222): Ef Eb d.set #[E I n,M (Z ⟨gb,0,X⟩)] w fun e w'=>e=Eg (Et #[])/\D w' gm (I6 (l.set d.off n)) 222/\(∀k,k≠gm->w'.heap[k]?=w.heap[k]?)/\w'.heap.size=w.heap.size/\Ik gm w w':=by
 obtain⟨ho,hk,h3⟩:=hd;have hc:=hm.cell d.off;have hf:=hm.JX d.off;rw[aR _ _ ho] at hc;have fin: ∀v,v=(if 6<=d.off then E .u8 n else E I n)->D (w.setCell ⟨gm,d.off,X⟩ v) gm (I6 (l.set d.off n)) 222/\(∀k,k≠gm->(w.setCell ⟨gm,d.off,X⟩ v).heap[k]?=w.heap[k]?)/\(w.setCell ⟨gm,d.off,X⟩ v).heap.size=w.heap.size/\Ik gm w (w.setCell ⟨gm,d.off,X⟩ v):=by intro v hv;subst hv;refine⟨?_,fun k hk=>XK _ _ _ _ hk,Fq,(E9 gm w).setCell (p:=⟨gm,d.off,X⟩) (E7 _) _⟩;have h:=hm.set d.off (if 6<=d.off then E .u8 n else E I n);rw[Ead l hl.1 _ ho] at h;exact h
 unfold ZI at hb;rcases hk with hk|hk|hk;·have h6: ¬6<=d.off:=fun h=>AC;rw[if_neg h6] at hc;rw[FD.zI hk] at hb;rw[FD.F7 hk];have zO:=fin (E I n) (by rw[if_neg h6]);exact Eoj
 ·have h6: ¬6<=d.off:=fun h=>AC;rw[if_neg h6] at hc;rw[FD.Si hk] at hb;rw[FD.Eag hk];have zO:=fin (E I n) (by rw[if_neg h6]);exact(Eak gb gm d.off n _ w hb hc hf).mono fun e w' ⟨he,hw⟩=>⟨he,zU⟩
 ·have h6:=h3.1 hk;rw[if_pos h6] at hc;rw[FD.Sj hk] at hb;rw[FD.Eai hk];have zO:=fin (E IL n) (by rw[if_pos h6]);have h8:=hn hk;exact(Eam gb gm d.off n _ w h8.1 h8.2 hb hc hf).mono fun e w' ⟨he,hw⟩=>⟨he,zU⟩
theorem Sk(gm o:Nat)(w:H): Ef Eb 241 #[M (Z ⟨gm,o,X⟩)] w fun e w'=> ∃v,e=Eg v/\FV w' w.heap.size gm ⟨2,1,0,255,o⟩ v/\El w w':=by have BF:Tryz.prog.built 298 [(0,E I 1),(2,E I 255),(3,.func (.func 250) #[] #[M (Z ⟨w.heap.size,0,X⟩)]),(4,.func (.func 251) #[] #[M (Z ⟨w.heap.size,0,X⟩)])]=Z (ID ⟨2,1,0,255,o⟩ w.heap.size):=F8 ⟨2,1,0,255,o⟩ w.heap.size O;have O1:=J<|hZ ⟨2,1,0,255,o⟩ w.heap.size;have OP:Ec ((ID ⟨2,1,0,255,o⟩ w.heap.size).size=5):=J O;generalize Uf:ID ⟨2,1,0,255,o⟩ w.heap.size=fv at*;replace BF:=J BF;have HB:Ec (∀W:H,D W w.heap.size #[M (Z ⟨gm,o,X⟩)] 333->FV W w.heap.size gm ⟨2,1,0,255,o⟩ (EZ fv)):=J fun W h=>⟨w.heap.size,by rw[Uf],E7 _,h⟩;clear Uf;go_enter Tryz.func241,Tryz.ntmps241;go_wp2_with (with_reducible refine wA fL (Ev.mk ?_));apply Eo;have K4:=J<|(D.new w #[M (Z ⟨gm,o,X⟩)] 333).alloc (EJ Jx 298);have K8:=J<|D.new' (w.alloc (EJ #[M (Z ⟨gm,o,X⟩)] 333)) Jx 298 (g:=w.heap.size+1) Eh;have u:=J<|JV w (EJ #[M (Z ⟨gm,o,X⟩)] 333) (EJ Jx 298);generalize (w.alloc (EJ #[M (Z ⟨gm,o,X⟩)] 333)).alloc (EJ Jx 298)=w1 at*;exact Els
theorem nU(gm o:Nat)(w:H): Ef Eb 240 #[M (Z ⟨gm,o,X⟩)] w fun e w'=> ∃v,e=Eg v/\FV w' w.heap.size gm ⟨3,1,0,255,o⟩ v/\El w w':=by have BF:Tryz.prog.built 298 [(0,E I 1),(2,E I 255),(3,.func (.func 248) #[] #[M (Z ⟨w.heap.size,0,X⟩)]),(4,.func (.func 249) #[] #[M (Z ⟨w.heap.size,0,X⟩)])]=Z (ID ⟨3,1,0,255,o⟩ w.heap.size):=F8 ⟨3,1,0,255,o⟩ w.heap.size O;have O1:=J<|hZ ⟨3,1,0,255,o⟩ w.heap.size;have OP:Ec ((ID ⟨3,1,0,255,o⟩ w.heap.size).size=5):=J O;generalize Uf:ID ⟨3,1,0,255,o⟩ w.heap.size=fv at*;replace BF:=J BF;have HB:Ec (∀W:H,D W w.heap.size #[M (Z ⟨gm,o,X⟩)] 331->FV W w.heap.size gm ⟨3,1,0,255,o⟩ (EZ fv)):=J fun W h=>⟨w.heap.size,by rw[Uf],E7 _,h⟩;clear Uf;go_enter Tryz.func240,Tryz.ntmps240;go_wp2_with (with_reducible refine wA fL (Ev.mk ?_));apply Eo;have K4:=J<|(D.new w #[M (Z ⟨gm,o,X⟩)] 331).alloc (EJ Jx 298);have K8:=J<|D.new' (w.alloc (EJ #[M (Z ⟨gm,o,X⟩)] 331)) Jx 298 (g:=w.heap.size+1) Eh;have u:=J<|JV w (EJ #[M (Z ⟨gm,o,X⟩)] 331) (EJ Jx 298);generalize (w.alloc (EJ #[M (Z ⟨gm,o,X⟩)] 331)).alloc (EJ Jx 298)=w1 at*;exact Els
def Zm:FD:=⟨2,1,0,255,5⟩
def IS(i:Nat):FD:=⟨3,1,0,255,6+i⟩
def kD(k:Int):Option (List FD):=
 if k=129 then Z [IS 0,IS 1,IS 2,IS 3,IS 4,IS 5,IS 6,IS 7] else if k=130 then Z [XU,Ja,IQ] else if k=131 then Z [Ih] else if k=132 then Z [Ih,Zm]
 else if k=133 then Z [IQ] else if k=134\/k=135 then Z [Ja,IQ] else if k=136 then Z [Ja,Zm] else X
theorem Eap(gm:Nat)(l:List Int)(w:H)(hm:D w gm (I6 l) 222)(hk:l.getD 0 0=131): Ef Eb 212 #[M (Z ⟨gm,0,X⟩)] w (ZU w gm [Ih]):=by have c0:=hm.cell 0;rw[aR _ _ U,if_neg U,hk] at c0;have CF:=J<|fun W=>iJ gm 1 W;have u:=J<|E9 w.heap.size w;clear hm hk;go_enter nX,nZ;exact ElZ
theorem Eaq(gm:Nat)(l:List Int)(w:H)(hm:D w gm (I6 l) 222)(hk:l.getD 0 0=133): Ef Eb 212 #[M (Z ⟨gm,0,X⟩)] w (ZU w gm [IQ]):=by have c0:=hm.cell 0;rw[aR _ _ U,if_neg U,hk] at c0;have CF:=J<|fun W=>pJ gm 4 W;have u:=J<|E9 w.heap.size w;clear hm hk;go_enter nX,nZ;go_wp2_with fail;refine(CF.out _).mono ?_;rintro e w1 ⟨v,rfl,⟨gb,rfl,lb,kb⟩,b1⟩;have FB:Ec (El w (w1.alloc (EJ (EY [(IQ,gb)]).toArray 298))):=J<|b1.alloc b1.size _;have FK:Ec (Xq (w1.alloc (EJ (EY [(IQ,gb)]).toArray 298)) w.heap.size w1.heap.size gm [(IQ,gb)]):=J (af (D.new w1 _ 298) (fun i hi=>by have:i=0:=U5;subst this;exact⟨lb,D.alloc kb _⟩) b1.size);exact Elw
def AG(base gm:Nat)(i:Nat)(v:Y)(w:H):Prop:=match i with
 |0=>v=M (Z ⟨gm,0,X⟩)
 |1=>v=M (Z ⟨gm,0,X⟩)
 |2=>v=M (Z ⟨gm,3,X⟩)
 |3=>FV w base gm Ja v
 |4=>v=M (Z ⟨gm,0,X⟩)
 |5=>v=M (Z ⟨gm,0,X⟩)
 |6=>v=M (Z ⟨gm,4,X⟩)
 |7=>FV w base gm IQ v
 |8=> ∃(gl:Nat) (fs:List (FD×Nat)),v=G (Z ⟨gl,0,X⟩) 2 2/\fs.map (·.1)=[Ja,IQ]/\base<=gl/\Jy w base gm fs/\D w gl (EY fs).toArray 298
 |9=> ∃(gl:Nat) (fs:List (FD×Nat)),v=G (Z ⟨gl,0,X⟩) 2 2/\fs.map (·.1)=[Ja,IQ]/\base<=gl/\Jy w base gm fs/\D w gl (EY fs).toArray 298
 |_=>v=EU EI
theorem Ear(base gm:Nat): ∀i v w w',i<11->AG base gm i v w->J0 w w'->AG base gm i v w':=by
 intro i v w w' hi h hb;unfold AG at*;split at h;case h_4|h_8=>exact h.V hb
 case h_9|h_10=> exact Elv
 all_goals exact h
theorem Eas(gm:Nat)(l:List Int)(w:H)(hm:D w gm (I6 l) 222)(hk:l.getD 0 0=134): Ef Eb 212 #[M (Z ⟨gm,0,X⟩)] w (ZU w gm [Ja,IQ]):=by
 have c0:=hm.cell 0;rw[aR _ _ U,if_neg U,hk] at c0;have u:=J<|E9 w.heap.size w;clear hm hk;go_enter nX,nZ;go_wp2_with fail;clear c0;refine ZB EF Ed 11 Ed Eh Ea (AG w.heap.size gm) (Ear _ _) ?_ ?_
 ·simp only[Xl,Iq,Io,EH,Ig,Ii,Ia,Ib,and_true];refine⟨?_,?_,?_,?_,?_,?_,?_,?_,?_,?_,?_⟩;all_goals intro v w' hb hd
  ·exact Elo
  ·exact ElG
  ·exact ElF
  ·exact Epi
  ·exact Elo
  ·exact ElD
  ·exact ElC
  ·exact Elj
  ·obtain⟨g0,d3,l0,k0⟩:FV w' w.heap.size gm Ja (v 3):=hd.at 3 rfl;obtain⟨g1,d7,l1,k1⟩:FV w' w.heap.size gm IQ (v 7):=hd.at 7 rfl;refine aU (w':=w'.alloc (EJ (EY [(Ja,g0),(IQ,g1)]).toArray 298)) (v:=G (Z ⟨w'.heap.size,0,X⟩) 2 2) (Ei O) pO (Er w' _) ⟨w'.heap.size,[(Ja,g0),(IQ,g1)],O,O,Ez u.out.size hb.size,fun i hi=> ?_,D.new _ _ _⟩;match i,hi with
   |0,_=>exact⟨l0,D.alloc k0 _⟩
   |1,_=>exact⟨l1,D.alloc k1 _⟩
  ·exact Epg
  ·exact Elo
 ·exact Epd
def AH(base gm:Nat)(i:Nat)(v:Y)(w:H):Prop:=match i with
 |0=>v=M (Z ⟨gm,0,X⟩)
 |1=>v=M (Z ⟨gm,0,X⟩)
 |2=>v=M (Z ⟨gm,3,X⟩)
 |3=>FV w base gm Ja v
 |4=>v=M (Z ⟨gm,0,X⟩)
 |5=>v=M (Z ⟨gm,0,X⟩)
 |6=>v=M (Z ⟨gm,4,X⟩)
 |7=>FV w base gm IQ v
 |8=> ∃(gl:Nat) (fs:List (FD×Nat)),v=G (Z ⟨gl,0,X⟩) 2 2/\fs.map (·.1)=[Ja,IQ]/\base<=gl/\Jy w base gm fs/\D w gl (EY fs).toArray 298
 |9=> ∃(gl:Nat) (fs:List (FD×Nat)),v=G (Z ⟨gl,0,X⟩) 2 2/\fs.map (·.1)=[Ja,IQ]/\base<=gl/\Jy w base gm fs/\D w gl (EY fs).toArray 298
 |_=>v=EU EI
theorem Eat(base gm:Nat): ∀i v w w',i<11->AH base gm i v w->J0 w w'->AH base gm i v w':=by
 intro i v w w' hi h hb;unfold AH at*;split at h;case h_4|h_8=>exact h.V hb
 case h_9|h_10=> exact Elv
 all_goals exact h
theorem Eau(gm:Nat)(l:List Int)(w:H)(hm:D w gm (I6 l) 222)(hk:l.getD 0 0=135): Ef Eb 212 #[M (Z ⟨gm,0,X⟩)] w (ZU w gm [Ja,IQ]):=by
 have c0:=hm.cell 0;rw[aR _ _ U,if_neg U,hk] at c0;have u:=J<|E9 w.heap.size w;clear hm hk;go_enter nX,nZ;go_wp2_with fail;clear c0;refine ZB EF Ed 11 Ed Eh Ea (AH w.heap.size gm) (Eat _ _) ?_ ?_
 ·simp only[Xl,Iq,Io,EH,Ig,Ii,Ia,Ib,and_true];refine⟨?_,?_,?_,?_,?_,?_,?_,?_,?_,?_,?_⟩;all_goals intro v w' hb hd
  ·exact Elo
  ·exact ElG
  ·exact ElF
  ·exact Epi
  ·exact Elo
  ·exact ElD
  ·exact ElC
  ·exact Elj
  ·obtain⟨g0,d3,l0,k0⟩:FV w' w.heap.size gm Ja (v 3):=hd.at 3 rfl;obtain⟨g1,d7,l1,k1⟩:FV w' w.heap.size gm IQ (v 7):=hd.at 7 rfl;refine aU (w':=w'.alloc (EJ (EY [(Ja,g0),(IQ,g1)]).toArray 298)) (v:=G (Z ⟨w'.heap.size,0,X⟩) 2 2) (Ei O) pO (Er w' _) ⟨w'.heap.size,[(Ja,g0),(IQ,g1)],O,O,Ez u.out.size hb.size,fun i hi=> ?_,D.new _ _ _⟩;match i,hi with
   |0,_=>exact⟨l0,D.alloc k0 _⟩
   |1,_=>exact⟨l1,D.alloc k1 _⟩
  ·exact Epg
  ·exact Elo
 ·exact Epd
def AK(base gm:Nat)(i:Nat)(v:Y)(w:H):Prop:=match i with
 |0=>v=M (Z ⟨gm,0,X⟩)
 |1=>v=M (Z ⟨gm,0,X⟩)
 |2=>v=M (Z ⟨gm,3,X⟩)
 |3=>FV w base gm Ja v
 |4=>v=M (Z ⟨gm,0,X⟩)
 |5=>v=M (Z ⟨gm,0,X⟩)
 |6=>v=M (Z ⟨gm,5,X⟩)
 |7=>FV w base gm Zm v
 |8=> ∃(gl:Nat) (fs:List (FD×Nat)),v=G (Z ⟨gl,0,X⟩) 2 2/\fs.map (·.1)=[Ja,Zm]/\base<=gl/\Jy w base gm fs/\D w gl (EY fs).toArray 298
 |9=> ∃(gl:Nat) (fs:List (FD×Nat)),v=G (Z ⟨gl,0,X⟩) 2 2/\fs.map (·.1)=[Ja,Zm]/\base<=gl/\Jy w base gm fs/\D w gl (EY fs).toArray 298
 |_=>v=EU EI
theorem Eav(base gm:Nat): ∀i v w w',i<11->AK base gm i v w->J0 w w'->AK base gm i v w':=by
 intro i v w w' hi h hb;unfold AK at*;split at h;case h_4|h_8=>exact h.V hb
 case h_9|h_10=> exact Elv
 all_goals exact h
theorem Eaw(gm:Nat)(l:List Int)(w:H)(hm:D w gm (I6 l) 222)(hk:l.getD 0 0=136): Ef Eb 212 #[M (Z ⟨gm,0,X⟩)] w (ZU w gm [Ja,Zm]):=by
 have c0:=hm.cell 0;rw[aR _ _ U,if_neg U,hk] at c0;have u:=J<|E9 w.heap.size w;clear hm hk;go_enter nX,nZ;go_wp2_with fail;clear c0;refine ZB EF Ed 11 Ed Eh Ea (AK w.heap.size gm) (Eav _ _) ?_ ?_
 ·simp only[Xl,Iq,Io,EH,Ig,Ii,Ia,Ib,and_true];refine⟨?_,?_,?_,?_,?_,?_,?_,?_,?_,?_,?_⟩;all_goals intro v w' hb hd
  ·exact Elo
  ·exact ElG
  ·exact ElF
  ·exact Epi
  ·exact Elo
  ·exact ElD
  ·exact ElC
  ·exact Emm
  ·obtain⟨g0,d3,l0,k0⟩:FV w' w.heap.size gm Ja (v 3):=hd.at 3 rfl;obtain⟨g1,d7,l1,k1⟩:FV w' w.heap.size gm Zm (v 7):=hd.at 7 rfl;refine aU (w':=w'.alloc (EJ (EY [(Ja,g0),(Zm,g1)]).toArray 298)) (v:=G (Z ⟨w'.heap.size,0,X⟩) 2 2) (Ei O) pO (Er w' _) ⟨w'.heap.size,[(Ja,g0),(Zm,g1)],O,O,Ez u.out.size hb.size,fun i hi=> ?_,D.new _ _ _⟩;match i,hi with
   |0,_=>exact⟨l0,D.alloc k0 _⟩
   |1,_=>exact⟨l1,D.alloc k1 _⟩
  ·obtain⟨gl,fs,e,m,lg,bx,kk⟩: ∃(gl:Nat) (fs:List (FD×Nat)),v 8=G (Z ⟨gl,0,X⟩) 2 2/\fs.map (·.1)=[Ja,Zm]/\w.heap.size<=gl/\Jy w' w.heap.size gm fs/\D w' gl (EY fs).toArray 298:=hd.at 8 rfl;exact El2
  ·exact Elo
 ·intro v w' hb hr;obtain⟨gl,fs,e,m,lg,bx,kk⟩: ∃(gl:Nat) (fs:List (FD×Nat)),v 9=G (Z ⟨gl,0,X⟩) 2 2/\fs.map (·.1)=[Ja,Zm]/\w.heap.size<=gl/\Jy w' w.heap.size gm fs/\D w' gl (EY fs).toArray 298:=hr 9 U;exact Epj
def AM(base gm:Nat)(i:Nat)(v:Y)(w:H):Prop:=match i with
 |0=>v=M (Z ⟨gm,0,X⟩)
 |1=>v=M (Z ⟨gm,0,X⟩)
 |2=>v=M (Z ⟨gm,1,X⟩)
 |3=>FV w base gm Ih v
 |4=>v=M (Z ⟨gm,0,X⟩)
 |5=>v=M (Z ⟨gm,0,X⟩)
 |6=>v=M (Z ⟨gm,5,X⟩)
 |7=>FV w base gm Zm v
 |8=> ∃(gl:Nat) (fs:List (FD×Nat)),v=G (Z ⟨gl,0,X⟩) 2 2/\fs.map (·.1)=[Ih,Zm]/\base<=gl/\Jy w base gm fs/\D w gl (EY fs).toArray 298
 |9=> ∃(gl:Nat) (fs:List (FD×Nat)),v=G (Z ⟨gl,0,X⟩) 2 2/\fs.map (·.1)=[Ih,Zm]/\base<=gl/\Jy w base gm fs/\D w gl (EY fs).toArray 298
 |_=>v=EU EI
theorem Eax(base gm:Nat): ∀i v w w',i<11->AM base gm i v w->J0 w w'->AM base gm i v w':=by
 intro i v w w' hi h hb;unfold AM at*;split at h;case h_4|h_8=>exact h.V hb
 case h_9|h_10=> exact Elv
 all_goals exact h
theorem Eay(gm:Nat)(l:List Int)(w:H)(hm:D w gm (I6 l) 222)(hk:l.getD 0 0=132): Ef Eb 212 #[M (Z ⟨gm,0,X⟩)] w (ZU w gm [Ih,Zm]):=by
 have c0:=hm.cell 0;rw[aR _ _ U,if_neg U,hk] at c0;have u:=J<|E9 w.heap.size w;clear hm hk;go_enter nX,nZ;go_wp2_with fail;clear c0;refine ZB EF Ed 11 Ed Eh Ea (AM w.heap.size gm) (Eax _ _) ?_ ?_
 ·simp only[Xl,Iq,Io,EH,Ig,Ii,Ia,Ib,and_true];refine⟨?_,?_,?_,?_,?_,?_,?_,?_,?_,?_,?_⟩;all_goals intro v w' hb hd
  ·exact Elo
  ·exact ElG
  ·exact ElF
  ·exact Elg
  ·exact Elo
  ·exact ElD
  ·exact ElC
  ·exact Emm
  ·obtain⟨g0,d3,l0,k0⟩:FV w' w.heap.size gm Ih (v 3):=hd.at 3 rfl;obtain⟨g1,d7,l1,k1⟩:FV w' w.heap.size gm Zm (v 7):=hd.at 7 rfl;refine aU (w':=w'.alloc (EJ (EY [(Ih,g0),(Zm,g1)]).toArray 298)) (v:=G (Z ⟨w'.heap.size,0,X⟩) 2 2) (Ei O) pO (Er w' _) ⟨w'.heap.size,[(Ih,g0),(Zm,g1)],O,O,Ez u.out.size hb.size,fun i hi=> ?_,D.new _ _ _⟩;match i,hi with
   |0,_=>exact⟨l0,D.alloc k0 _⟩
   |1,_=>exact⟨l1,D.alloc k1 _⟩
  ·obtain⟨gl,fs,e,m,lg,bx,kk⟩: ∃(gl:Nat) (fs:List (FD×Nat)),v 8=G (Z ⟨gl,0,X⟩) 2 2/\fs.map (·.1)=[Ih,Zm]/\w.heap.size<=gl/\Jy w' w.heap.size gm fs/\D w' gl (EY fs).toArray 298:=hd.at 8 rfl;exact El2
  ·exact Elo
 ·intro v w' hb hr;obtain⟨gl,fs,e,m,lg,bx,kk⟩: ∃(gl:Nat) (fs:List (FD×Nat)),v 9=G (Z ⟨gl,0,X⟩) 2 2/\fs.map (·.1)=[Ih,Zm]/\w.heap.size<=gl/\Jy w' w.heap.size gm fs/\D w' gl (EY fs).toArray 298:=hr 9 U;exact Epj
def AN(base gm:Nat)(i:Nat)(v:Y)(w:H):Prop:=match i with
 |0=>v=M (Z ⟨gm,0,X⟩)
 |1=>v=M (Z ⟨gm,0,X⟩)
 |2=>v=M (Z ⟨gm,2,X⟩)
 |3=>FV w base gm XU v
 |4=>v=M (Z ⟨gm,0,X⟩)
 |5=>v=M (Z ⟨gm,0,X⟩)
 |6=>v=M (Z ⟨gm,3,X⟩)
 |7=>FV w base gm Ja v
 |8=>v=M (Z ⟨gm,0,X⟩)
 |9=>v=M (Z ⟨gm,0,X⟩)
 |10=>v=M (Z ⟨gm,4,X⟩)
 |11=>FV w base gm IQ v
 |12=> ∃(gl:Nat) (fs:List (FD×Nat)),v=G (Z ⟨gl,0,X⟩) 3 3/\fs.map (·.1)=[XU,Ja,IQ]/\base<=gl/\Jy w base gm fs/\D w gl (EY fs).toArray 298
 |13=> ∃(gl:Nat) (fs:List (FD×Nat)),v=G (Z ⟨gl,0,X⟩) 3 3/\fs.map (·.1)=[XU,Ja,IQ]/\base<=gl/\Jy w base gm fs/\D w gl (EY fs).toArray 298
 |_=>v=EU EI
theorem Eaz(base gm:Nat): ∀i v w w',i<15->AN base gm i v w->J0 w w'->AN base gm i v w':=by
 intro i v w w' hi h hb;unfold AN at*;split at h;case h_4|h_8|h_12=>exact h.V hb
 case h_13|h_14=> exact Elv
 all_goals exact h
theorem EaA(gm:Nat)(l:List Int)(w:H)(hm:D w gm (I6 l) 222)(hk:l.getD 0 0=130): Ef Eb 212 #[M (Z ⟨gm,0,X⟩)] w (ZU w gm [XU,Ja,IQ]):=by
 have c0:=hm.cell 0;rw[aR _ _ U,if_neg U,hk] at c0;have u:=J<|E9 w.heap.size w;clear hm hk;go_enter nX,nZ;go_wp2_with fail;clear c0;refine ZB EF Ed 15 Ed Eh Ea (AN w.heap.size gm) (Eaz _ _) ?_ ?_
 ·simp only[Xl,Iq,Io,EH,Ig,Ii,Ia,Ib,and_true];refine⟨?_,?_,?_,?_,?_,?_,?_,?_,?_,?_,?_,?_,?_,?_,?_⟩;all_goals intro v w' hb hd
  ·exact Elo
  ·exact ElG
  ·exact ElF
  ·have d2:v 2=M (Z ⟨gm,2,X⟩):=hd.at 2 rfl;refine JL (f:=202) (args:= #[v 2]) (Ei O) Ex ?_;rw[d2];exact(Gz gm 2 w').mono fun e w'' ⟨v,he,⟨gb,e2,lb,kb⟩,hb'⟩=>⟨v,he,hb',gb,e2,Ez (Ez u.out.size hb.size) lb,kb⟩
  ·exact Elo
  ·exact ElD
  ·exact ElC
  ·exact Epn
  ·exact Elo
  ·exact Eni
  ·exact Enh
  ·have d10:v 10=M (Z ⟨gm,4,X⟩):=hd.at 10 rfl;refine JL (f:=206) (args:= #[v 10]) (Ei O) Ex ?_;rw[d10];exact(pJ gm 4 w').mono fun e w'' ⟨v,he,⟨gb,e2,lb,kb⟩,hb'⟩=>⟨v,he,hb',gb,e2,Ez (Ez u.out.size hb.size) lb,kb⟩
  ·obtain⟨g0,d3,l0,k0⟩:FV w' w.heap.size gm XU (v 3):=hd.at 3 rfl;obtain⟨g1,d7,l1,k1⟩:FV w' w.heap.size gm Ja (v 7):=hd.at 7 rfl;obtain⟨g2,d11,l2,k2⟩:FV w' w.heap.size gm IQ (v 11):=hd.at 11 rfl;refine aU (w':=w'.alloc (EJ (EY [(XU,g0),(Ja,g1),(IQ,g2)]).toArray 298)) (v:=G (Z ⟨w'.heap.size,0,X⟩) 3 3) (Ei O) GC (Er w' _) ⟨w'.heap.size,[(XU,g0),(Ja,g1),(IQ,g2)],O,O,Ez u.out.size hb.size,fun i hi=> ?_,D.new _ _ _⟩;match i,hi with
   |0,_=>exact⟨l0,D.alloc k0 _⟩
   |1,_=>exact⟨l1,D.alloc k1 _⟩
   |2,_=>exact⟨l2,D.alloc k2 _⟩
  ·obtain⟨gl,fs,e,m,lg,bx,kk⟩: ∃(gl:Nat) (fs:List (FD×Nat)),v 12=G (Z ⟨gl,0,X⟩) 3 3/\fs.map (·.1)=[XU,Ja,IQ]/\w.heap.size<=gl/\Jy w' w.heap.size gm fs/\D w' gl (EY fs).toArray 298:=hd.at 12 rfl;exact El2
  ·exact Elo
 ·intro v w' hb hr;obtain⟨gl,fs,e,m,lg,bx,kk⟩: ∃(gl:Nat) (fs:List (FD×Nat)),v 13=G (Z ⟨gl,0,X⟩) 3 3/\fs.map (·.1)=[XU,Ja,IQ]/\w.heap.size<=gl/\Jy w' w.heap.size gm fs/\D w' gl (EY fs).toArray 298:=hr 13 U;have dt:v 14=EU EI:=hr 14 U;exact Ela
def na(w:H)(base:Nat)(A:Option Eu)(gm cap:Nat)(fs:List (FD×Nat)):Prop:=w.ownsRow base 298 5 (G A fs.length cap) fs.length (EY fs)/\Jy w base gm fs
theorem na.V{w':H}(h:na w base A gm cap fs)(hb:El w w'):na w' base A gm cap fs:=
 ⟨mA (uZ (b0:=0) (T:=298) (N:=0) (ys:=[]) hb) h.1 fun j _ hj hlt=>absurd hj Rc,h.2.V hb⟩
theorem EaB(w:H)(base gm:Nat):na w base X gm 0 []:=⟨⟨O,.inl ⟨O,O⟩⟩,fun i hi=>absurd hi Eh⟩
theorem na.GB(h:na w base A gm cap fs)(hf:fs≠[]): ∃gl,A=Z ⟨gl,0,X⟩/\Xq w base gl gm fs:=by
 rcases h.1.2 with⟨h1,h2⟩|⟨g,cp,cur,hv,hbg,-⟩;·exact absurd (aF h2) hf
 ·injection hv with e1 e2 e3;subst e1;exact⟨g,O,hbg,fun j Y3 hu=>by have:=h.1.cells (g:=g) O j Y3 hu;rwa [GA] at this,h.2⟩
theorem nf(w:H)(base gm cap:Nat)(A:Option Eu)(fs:List (FD×Nat))(n:Nat)(hn:fs.length=n)(h:na w base A gm cap fs)(d:FD)(gb g1 c1:Nat)(hgb:base<=gb)(hbx:ZI w d gm gb)(hk:D w g1 (EY [(d,gb)]).toArray 298)(hs:n<=1000)(hbase:base<=w.heap.size)(ty:EB): ∃A' cap' w',(bv #[254,254] ty #[G A n cap,G (Z ⟨g1,0,X⟩) 1 c1]).run Eb w= .ok (G A' (n+1) cap') w'/\na w' base A' gm cap' (fs++[(d,gb)])/\Ik base w w':=by
 subst hn;obtain⟨i0,hi,hz0,hz1,hz2⟩:=bz Rb
 obtain⟨A',cap',w',hrun,h2,h3,h4,-⟩:=dX (P:=Eb) w base base 254 ty 298 i0 _ 5 40 Tryz.underlying254 hi hz0 hz1 hz2 O A cap fs.length _ h.1 ⟨g1,0,X⟩ 1 c1 (EY [(d,gb)]) (uy _)
  (fun j Y3 hu=>Rf) (Ra _) (fun _=>U) Ot U hbase (E7 _)
 rw[<-RU] at h2;refine⟨A',cap',w',hrun,⟨Rg,fun i hi=> ?_⟩,h3.2.1 hbase⟩;rcases JY i fs.length with hlt|hge;·rw[List.getElem_append_left hlt];exact⟨(h.2 i hlt).1,X1 h3 (h.2 i hlt).2 (AU _)⟩
 ·exact Em0
theorem EaC(gm:Nat)(l:List Int)(w:H)(hm:D w gm (I6 l) 222)(hk:l.getD 0 0=129): Ef Eb 212 #[M (Z ⟨gm,0,X⟩)] w (ZU w gm [IS 0,IS 1,IS 2,IS 3,IS 4,IS 5,IS 6,IS 7]):=by
 have c0:=hm.cell 0;rw[aR _ _ U,if_neg U,hk] at c0;have u:=J<|E9 w.heap.size w;have K0:=J<|EaB w w.heap.size gm;clear hm hk;go_enter nX,nZ;go_wp2_with fail;refine Ud 9 ?_;rw[Ij];go_wp2_with fail;refine(nU gm 6 _).mono ?_;rintro e x0 ⟨v0,rfl,⟨cI,rfl,lb0,uz⟩,b0⟩;have GD:=u.out.size;replace K0:=J<|(K0.out.V b0).V (Er x0 (EJ (EY [(IS 0,cI)]).toArray 298));have HA:=J<|D.new x0 (EY [(IS 0,cI)]).toArray 298;have HB0:=J<|D.alloc uz (EJ (EY [(IS 0,cI)]).toArray 298);replace u:=J<|bt (bt u.out b0) (Er x0 (EJ (EY [(IS 0,cI)]).toArray 298));clear b0 uz;unfold ID;go_wp2_with (with_reducible refine I7 23 ?_);apply Eo;change Ic _ _ _ _ _ (x0.alloc (EJ (EY [(IS 0,cI)]).toArray 298));have hz0:w.heap.size<=(x0.alloc (EJ (EY [(IS 0,cI)]).toArray 298)).heap.size:=u.out.size;obtain⟨A1,cp1,y0,hrun,k,b⟩:=nf _ w.heap.size gm _ _ _ 0 rfl K0.out (IS 0) cI x0.heap.size 1 U HB0.out HA.out U hz0 254;(with_reducible refine Jr ?_ (Ua (s:= .tmp 15) (y:= .tmp 22) ?_ ?_ ?_ hrun) ?_);·exact Ei O
 ·rfl
 ·rfl
 ·rfl
 have K1:=J k;replace u:=J<|u.out.trans b;clear k b hrun HA HB0 K0 hz0 GD;go_wp2_with fail;rw[Ij];go_wp2_with fail;refine(nU gm 7 _).mono ?_;rintro e x1 ⟨v1,rfl,⟨cJ,rfl,lb1,uA⟩,b1⟩;have GF:=u.out.size;replace K1:=J<|(K1.out.V b1).V (Er x1 (EJ (EY [(IS 1,cJ)]).toArray 298));have HA:=J<|D.new x1 (EY [(IS 1,cJ)]).toArray 298;have HB1:=J<|D.alloc uA (EJ (EY [(IS 1,cJ)]).toArray 298);replace u:=J<|bt (bt u.out b1) (Er x1 (EJ (EY [(IS 1,cJ)]).toArray 298));clear b1 uA;unfold ID;go_wp2_with (with_reducible refine I7 23 ?_);apply Eo;change Ic _ _ _ _ _ (x1.alloc (EJ (EY [(IS 1,cJ)]).toArray 298));have hz1:w.heap.size<=(x1.alloc (EJ (EY [(IS 1,cJ)]).toArray 298)).heap.size:=u.out.size;obtain⟨A2,cp2,y1,hrun,k,b⟩:=nf _ w.heap.size gm _ _ _ 1 rfl K1.out (IS 1) cJ x1.heap.size 1 U HB1.out HA.out U hz1 254;(with_reducible refine Jr ?_ (Ua (s:= .tmp 15) (y:= .tmp 22) ?_ ?_ ?_ hrun) ?_);·exact Ei O
 ·rfl
 ·rfl
 ·rfl
 have K2:=J k;replace u:=J<|u.out.trans b;clear k b hrun HA HB1 K1 hz1 GF;go_wp2_with fail;rw[Ij];go_wp2_with fail;refine(nU gm 8 _).mono ?_;rintro e x2 ⟨v2,rfl,⟨cU,rfl,lb2,m0⟩,b2⟩;have GG:=u.out.size;replace K2:=J<|(K2.out.V b2).V (Er x2 (EJ (EY [(IS 2,cU)]).toArray 298));have HA:=J<|D.new x2 (EY [(IS 2,cU)]).toArray 298;have HB2:=J<|D.alloc m0 (EJ (EY [(IS 2,cU)]).toArray 298);replace u:=J<|bt (bt u.out b2) (Er x2 (EJ (EY [(IS 2,cU)]).toArray 298));clear b2 m0;unfold ID;go_wp2_with (with_reducible refine I7 23 ?_);apply Eo;change Ic _ _ _ _ _ (x2.alloc (EJ (EY [(IS 2,cU)]).toArray 298));have hz2:w.heap.size<=(x2.alloc (EJ (EY [(IS 2,cU)]).toArray 298)).heap.size:=u.out.size;obtain⟨A3,cp3,y2,hrun,k,b⟩:=nf _ w.heap.size gm _ _ _ 2 rfl K2.out (IS 2) cU x2.heap.size 1 U HB2.out HA.out U hz2 254;(with_reducible refine Jr ?_ (Ua (s:= .tmp 15) (y:= .tmp 22) ?_ ?_ ?_ hrun) ?_);·exact Ei O
 ·rfl
 ·rfl
 ·rfl
 have K3:=J k;replace u:=J<|u.out.trans b;clear k b hrun HA HB2 K2 hz2 GG;go_wp2_with fail;rw[Ij];go_wp2_with fail;refine(nU gm 9 _).mono ?_;rintro e x3 ⟨v3,rfl,⟨cX,rfl,lb3,uB⟩,b3⟩;have GH:=u.out.size;replace K3:=J<|(K3.out.V b3).V (Er x3 (EJ (EY [(IS 3,cX)]).toArray 298));have HA:=J<|D.new x3 (EY [(IS 3,cX)]).toArray 298;have HB3:=J<|D.alloc uB (EJ (EY [(IS 3,cX)]).toArray 298);replace u:=J<|bt (bt u.out b3) (Er x3 (EJ (EY [(IS 3,cX)]).toArray 298));clear b3 uB;unfold ID;go_wp2_with (with_reducible refine I7 23 ?_);apply Eo;change Ic _ _ _ _ _ (x3.alloc (EJ (EY [(IS 3,cX)]).toArray 298));have hz3:w.heap.size<=(x3.alloc (EJ (EY [(IS 3,cX)]).toArray 298)).heap.size:=u.out.size;obtain⟨A4,cp4,y3,hrun,k,b⟩:=nf _ w.heap.size gm _ _ _ 3 rfl K3.out (IS 3) cX x3.heap.size 1 U HB3.out HA.out U hz3 254;(with_reducible refine Jr ?_ (Ua (s:= .tmp 15) (y:= .tmp 22) ?_ ?_ ?_ hrun) ?_);·exact Ei O
 ·rfl
 ·rfl
 ·rfl
 have K4:=J k;replace u:=J<|u.out.trans b;clear k b hrun HA HB3 K3 hz3 GH;go_wp2_with fail;rw[Ij];go_wp2_with fail;refine(nU gm 10 _).mono ?_;rintro e x4 ⟨v4,rfl,⟨pg,rfl,lb4,Sl⟩,b4⟩;have lx4:=u.out.size;replace K4:=J<|(K4.out.V b4).V (Er x4 (EJ (EY [(IS 4,pg)]).toArray 298));have HA:=J<|D.new x4 (EY [(IS 4,pg)]).toArray 298;have Sm:=J<|D.alloc Sl (EJ (EY [(IS 4,pg)]).toArray 298);replace u:=J<|bt (bt u.out b4) (Er x4 (EJ (EY [(IS 4,pg)]).toArray 298));clear b4 Sl;unfold ID;go_wp2_with (with_reducible refine I7 23 ?_);apply Eo;change Ic _ _ _ _ _ (x4.alloc (EJ (EY [(IS 4,pg)]).toArray 298));have gI:w.heap.size<=(x4.alloc (EJ (EY [(IS 4,pg)]).toArray 298)).heap.size:=u.out.size;obtain⟨A5,cp5,y4,hrun,k,b⟩:=nf _ w.heap.size gm _ _ _ 4 rfl K4.out (IS 4) pg x4.heap.size 1 U Sm.out HA.out U gI 254;(with_reducible refine Jr ?_ (Ua (s:= .tmp 15) (y:= .tmp 22) ?_ ?_ ?_ hrun) ?_);·exact Ei O
 ·rfl
 ·rfl
 ·rfl
 have K5:=J k;replace u:=J<|u.out.trans b;clear k b hrun HA Sm K4 gI lx4;go_wp2_with fail;rw[Ij];go_wp2_with fail;refine(nU gm 11 _).mono ?_;rintro e x5 ⟨v5,rfl,⟨ph,rfl,lb5,Sn⟩,b5⟩;have lx5:=u.out.size;replace K5:=J<|(K5.out.V b5).V (Er x5 (EJ (EY [(IS 5,ph)]).toArray 298));have HA:=J<|D.new x5 (EY [(IS 5,ph)]).toArray 298;have u7:=J<|D.alloc Sn (EJ (EY [(IS 5,ph)]).toArray 298);replace u:=J<|bt (bt u.out b5) (Er x5 (EJ (EY [(IS 5,ph)]).toArray 298));clear b5 Sn;unfold ID;go_wp2_with (with_reducible refine I7 23 ?_);apply Eo;change Ic _ _ _ _ _ (x5.alloc (EJ (EY [(IS 5,ph)]).toArray 298));have gJ:w.heap.size<=(x5.alloc (EJ (EY [(IS 5,ph)]).toArray 298)).heap.size:=u.out.size;obtain⟨A6,cp6,y5,hrun,k,b⟩:=nf _ w.heap.size gm _ _ _ 5 rfl K5.out (IS 5) ph x5.heap.size 1 U u7.out HA.out U gJ 254;(with_reducible refine Jr ?_ (Ua (s:= .tmp 15) (y:= .tmp 22) ?_ ?_ ?_ hrun) ?_);·exact Ei O
 ·rfl
 ·rfl
 ·rfl
 have K6:=J k;replace u:=J<|u.out.trans b;clear k b hrun HA u7 K5 gJ lx5;go_wp2_with fail;rw[Ij];go_wp2_with fail;refine(nU gm 12 _).mono ?_;rintro e x6 ⟨v6,rfl,⟨pi,rfl,lb6,So⟩,b6⟩;have lx6:=u.out.size;replace K6:=J<|(K6.out.V b6).V (Er x6 (EJ (EY [(IS 6,pi)]).toArray 298));have HA:=J<|D.new x6 (EY [(IS 6,pi)]).toArray 298;have u9:=J<|D.alloc So (EJ (EY [(IS 6,pi)]).toArray 298);replace u:=J<|bt (bt u.out b6) (Er x6 (EJ (EY [(IS 6,pi)]).toArray 298));clear b6 So;unfold ID;go_wp2_with (with_reducible refine I7 23 ?_);apply Eo;change Ic _ _ _ _ _ (x6.alloc (EJ (EY [(IS 6,pi)]).toArray 298));have Sp:w.heap.size<=(x6.alloc (EJ (EY [(IS 6,pi)]).toArray 298)).heap.size:=u.out.size;obtain⟨A7,cp7,y6,hrun,k,b⟩:=nf _ w.heap.size gm _ _ _ 6 rfl K6.out (IS 6) pi x6.heap.size 1 U u9.out HA.out U Sp 254;(with_reducible refine Jr ?_ (Ua (s:= .tmp 15) (y:= .tmp 22) ?_ ?_ ?_ hrun) ?_);·exact Ei O
 ·rfl
 ·rfl
 ·rfl
 have K7:=J k;replace u:=J<|u.out.trans b;clear k b hrun HA u9 K6 Sp lx6;go_wp2_with fail;rw[Ij];go_wp2_with fail;refine(nU gm 13 _).mono ?_;rintro e x7 ⟨v7,rfl,⟨pj,rfl,lb7,Sq⟩,b7⟩;have lx7:=u.out.size;replace K7:=J<|(K7.out.V b7).V (Er x7 (EJ (EY [(IS 7,pj)]).toArray 298));have HA:=J<|D.new x7 (EY [(IS 7,pj)]).toArray 298;have u_:=J<|D.alloc Sq (EJ (EY [(IS 7,pj)]).toArray 298);replace u:=J<|bt (bt u.out b7) (Er x7 (EJ (EY [(IS 7,pj)]).toArray 298));clear b7 Sq;unfold ID;go_wp2_with (with_reducible refine I7 23 ?_);apply Eo;change Ic _ _ _ _ _ (x7.alloc (EJ (EY [(IS 7,pj)]).toArray 298));have G1:w.heap.size<=(x7.alloc (EJ (EY [(IS 7,pj)]).toArray 298)).heap.size:=u.out.size;obtain⟨A8,cp8,y7,hrun,k,b⟩:=nf _ w.heap.size gm _ _ _ 7 rfl K7.out (IS 7) pj x7.heap.size 1 U u_.out HA.out U G1 254;(with_reducible refine Jr ?_ (Ua (s:= .tmp 15) (y:= .tmp 22) ?_ ?_ ?_ hrun) ?_);·exact Ei O
 ·rfl
 ·rfl
 ·rfl
 have K8:=J k;replace u:=J<|u.out.trans b;clear k b hrun HA u_ K7 G1 lx7;go_wp2_with fail;rw[Ij];go_wp2_with fail;go_ret2;obtain⟨gl,hA,hfl⟩:=K8.out.GB Eh;subst hA;exact⟨_,_,_,O,O,hfl,u.out⟩
section
variable{P:Program}
theorem Sr{e:EB}(he:P.underlying e=Z (.int .u8))(d:Nat)(x y:List Int)(n:Nat)(hx:x.length=n)(hy:y.length=n)(W:H): ∀(m j:Nat),j+m<=n-> (Op.eqItems (d+1) e 1 (Ej x) (Ej y) (List.range' j m)).run P W= .ok ((List.range' j m).all fun i=>x.getD i 0==y.getD i 0) W
 |0,j,_=>by simp only[List.range'_zero,Op.eqItems,Og,ah]
 |m+1,j,h=>by
  have p1:=Ah he (Ej x) j _ (j8 x j U) W;have p2:=Ah he (Ej y) j _ (j8 y j U) W;rw[List.range'_succ,Z0];simp only[Op.eqItems,Oz,Nat.mul_one,p1,p2,OC,run_equalIn_int W d e .u8 .u8 _ _ he];cases hb:(x.getD j 0==y.getD j 0);·exact EpE
  ·simp only[Bool.not_true,kO,if_false,Bool.true_and];exact Sr he d x y n hx hy W m (j+1) U
theorem EaK(x y:List Int)(n:Nat)(hx:x.length=n)(hy:y.length=n):((U4 n).all fun i=>x.getD i 0==y.getD i 0)=decide (x=y):=by
 rw[Bool.eq_iff_iff,decide_eq_true_iff,Xk];constructor;·intro h;refine List.ext_getElem U fun i h1 h2=> ?_;have:=h i Ji;simpa[h1,h2] using this
 ·rintro rfl i _;simp
theorem EaL{t e:EB}{n:Nat}{i:TypeInfo}(hu:P.underlying t=Z (.array n e))(he:P.underlying e=Z (.int .u8))(hc:P.cellsOf e=1)(hi:P.info? e=Z i)(d:Nat)(x y:List Int)(hx:x.length=n)(hy:y.length=n)(W:H): (Op.equalIn (d+1+1) t (EZ (Ej x)) (EZ (Ej y))).run P W= .ok (decide (x=y)) W:=by rw[run_equalIn_array W (d+1) _ _ hu hi,hc,List.range_eq_range',Sr he d x y n hx hy W n 0 U,<-List.range_eq_range',EaK x y n hx hy]
end
theorem EaM: ∃i,Tryz.prog.info? 5=Z i:=by obtain⟨i0,hi,-⟩:=bz mJ;exact⟨i0,hi⟩
theorem EaN(gm:Nat)(l:List Int)(w:H)(k:Int)(hm:D w gm (I6 l) 222)(hk:l.getD 0 0=k)(hn:kD k=X): Ef Eb 212 #[M (Z ⟨gm,0,X⟩)] w fun e w'=>e=Eg (Et #[G X 0 0,EU B])/\w=w':=by
 have c0:=hm.cell 0;rw[aR _ _ U,if_neg U,hk] at c0
 have hne:k≠129/\k≠130/\k≠131/\k≠132/\k≠133/\k≠134/\k≠135/\k≠136:=by
  unfold kD at hn;repeat' split at hn
  all_goals first|(cases hn;done)|omega
 obtain⟨n129,n130,n131,n132,n133,n134,n135,n136⟩:=hne;have EkI:(k==129)=B:=by simp[n129]
 have EkJ:(k==130)=B:=by simp[n130]
 have EkO:(k==131)=B:=by simp[n131]
 have EkU:(k==132)=B:=by simp[n132]
 have EkX:(k==133)=B:=by simp[n133]
 have EkZ:(k==134)=B:=by simp[n134]
 have Eka:(k==135)=B:=by simp[n135]
 have Ekb:(k==136)=B:=by simp[n136]
 clear hm hk hn;go_enter nX,nZ;go_wp2_with fail;exact EoG
def Hm(w:H)(gm:Nat)(k:Int)(e:Uh)(w':H):Prop:=
 match kD k with
 |some ds=>ZU w gm ds e w'
 |none=>e=Eg (Et #[G X 0 0,EU B])/\w=w'
theorem EaP(gm:Nat)(l:List Int)(w:H)(hm:D w gm (I6 l) 222):Ef Eb 212 #[M (Z ⟨gm,0,X⟩)] w (Hm w gm (l.getD 0 0)):=by
 generalize hk:l.getD 0 0=k at*;by_cases EaQ:k=129;·subst EaQ;exact EaC gm l w hm hk
 by_cases EaR:k=130;·subst EaR;exact EaA gm l w hm hk
 by_cases EaS:k=131;·subst EaS;exact Eap gm l w hm hk
 by_cases EaT:k=132;·subst EaT;exact Eay gm l w hm hk
 by_cases EaV:k=133;·subst EaV;exact Eaq gm l w hm hk
 by_cases EaW:k=134;·subst EaW;exact Eas gm l w hm hk
 by_cases EaY:k=135;·subst EaY;exact Eau gm l w hm hk
 by_cases Ea0:k=136;·subst Ea0;exact Eaw gm l w hm hk
 have hn:kD k=X:=by unfold kD;exact Eou
 unfold Hm;rw[hn];exact EaN gm l w k hm hk hn
theorem Ea1(a0 a1 a2 a3 a4 a5 a6 a7 a8 a9 UX OU a12 pk b0 b1 b2 b3 b4 b5 b6 b7 b8 b9 b10 b11 b12 b13:Int)(W:H): (XW .neq 222 (EZ #[E I a0,E I a1,E I a2,E I a3,E I a4,E I a5,E IL a6,E IL a7,E IL a8,E IL a9,E IL UX,E IL OU,E IL a12,E IL pk]) (EZ #[E I b0,E I b1,E I b2,E I b3,E I b4,E I b5,E IL b6,E IL b7,E IL b8,E IL b9,E IL b10,E IL b11,E IL b12,E IL b13])).run Eb W= .ok (EU (!decide (a0=b0/\a1=b1/\a2=b2/\a3=b3/\a4=b4/\a5=b5/\[a6,a7,a8,a9,UX,OU,a12,pk]=[b6,b7,b8,b9,b10,b11,b12,b13]))) W:=by
 obtain⟨i0,hi⟩:=EaM;have hx:=EaL Tryz.underlying115 Tryz.underlying5 Ed hi 9997 [a6,a7,a8,a9,UX,OU,a12,pk] [b6,b7,b8,b9,b10,b11,b12,b13] O O W;simp only[Ej,Uv,Xn,ZK] at hx;by_cases e0:a0=b0
 ·by_cases e1:a1=b1
  ·by_cases e2:a2=b2
   ·by_cases e3:a3=b3
    ·by_cases e4:a4=b4
     ·by_cases e5:a5=b5
      ·by_cases e8:[a6,a7,a8,a9,UX,OU,a12,pk]=[b6,b7,b8,b9,b10,b11,b12,b13];·rw[IU e8] at hx;simp only[co,and_true] at e8;obtain⟨z6,z7,z8,z9,z10,z11,IZ,z13⟩:=e8;subst z6 z7 z8 z9 z10 z11 IZ z13;simp[go_sem,e0,e1,e2,e3,e4,e5,hx]
       ·rw[IJ e8] at hx;have e9:(!decide (a0=b0/\a1=b1/\a2=b2/\a3=b3/\a4=b4/\a5=b5/\[a6,a7,a8,a9,UX,OU,a12,pk]=[b6,b7,b8,b9,b10,b11,b12,b13]))=EI:=by simp only[Bool.not_eq_true',decide_eq_false_iff_not];exact fun h=>e8 h.2.2.2.2.2.2
        rw[e9];simp[go_sem,e0,e1,e2,e3,e4,e5,hx]
      ·simp[go_sem,e0,e1,e2,e3,e4,e5]
     ·simp[go_sem,e0,e1,e2,e3,e4]
    ·simp[go_sem,e0,e1,e2,e3]
   ·simp[go_sem,e0,e1,e2]
  ·simp[go_sem,e0,e1]
 ·simp[go_sem,e0]
theorem Ea5(x y:List Int)(hx:du x)(hy:du y)(W:H):(XW .neq 222 (EZ (I6 x)) (EZ (I6 y))).run Eb W= .ok (EU (!decide (x=y))) W:=by
 obtain⟨hx,-⟩:=hx;obtain⟨hy,-⟩:=hy;match x,hx with
 |[a0,a1,a2,a3,a4,a5,a6,a7,a8,a9,UX,OU,a12,pk],_=>
  match y,hy with
  |[b0,b1,b2,b3,b4,b5,b6,b7,b8,b9,b10,b11,b12,b13],_=> refine(Ea1 a0 a1 a2 a3 a4 a5 a6 a7 a8 a9 UX OU a12 pk b0 b1 b2 b3 b4 b5 b6 b7 b8 b9 b10 b11 b12 b13 W).trans ?_;congr 3;rw[decide_eq_decide];simp
def pp(k:Int):List Int:=[k,0,0,0,0,0,0,0,0,0,0,0,0,0]
def ng(l:List Int):Option (List Int):=
 match kD (l.getD 0 0) with
 |none=>X
 |some ds=>match cZ ds l with
  |none=>X
  |some ps=>if J2 ds l=pp (l.getD 0 0) then Z (l.getD 0 0::ps) else X
structure FD.Hn(d:FD):Prop where
 ok:d.Hl
 off1:1<=d.off
 neg:d.lo<0-> -32768<=d.lo/\d.hi<=32767
 pos:0<=d.lo->1<=d.size/\d.size<=7/\d.hi<256^d.size.toNat
theorem Ea6(h:kD k=Z ds):129<=k/\k<=136/\ds.length<=8/\ ∀d∈ds,d.Hn:=by
 unfold kD at h;repeat' split at h
 all_goals first
  |(cases h;done)
  |(injection h with h
    subst h
    refine⟨U,U,Ea,fun d hd=> ?_⟩
    simp only[UJ,UA,or_false] at hd)
 ·rcases hd with rfl|rfl|rfl|rfl|rfl|rfl|rfl|rfl<;>exact⟨⟨Ea,Ea,Ea⟩,Ea,Ea,Ea⟩
 ·rcases hd with rfl|rfl|rfl<;>exact⟨⟨Ea,Ea,Ea⟩,Ea,Ea,Ea⟩
 ·subst hd;exact⟨⟨Ea,Ea,Ea⟩,Ea,Ea,Ea⟩
 ·exact Env
 ·subst hd;exact⟨⟨Ea,Ea,Ea⟩,Ea,Ea,Ea⟩
 ·exact Env
 ·exact Env
theorem Ea7{gl:Nat}(h:Xq w base gl gm fs)(hl:du l)(hm:D w gm (I6 l) 222)(hd: ∀p∈fs,p.1.Hn): ∀a∈fs.map (Am l),a.ok/\dY w a.Y5 a.gp a.n:=by intro a ha;obtain⟨p,hp,rfl⟩:=dU.1 ha;have hg:=hd p hp;obtain⟨i,hi,he⟩:=List.getElem_of_mem hp;refine⟨⟨hg.neg,hg.pos⟩,EJ9 p.1,fun W hW=> ?_⟩;have hb:=(h.2.2 i hi).2;rw[he] at hb;exact Ean p.1 p.2 gm l W hg.ok hl (D.V hb hW) (hm.V hW)
theorem Ss(ds:List FD)(l:List Int)(h:du l):du (J2 ds l):=by
 refine⟨(An ds l).trans h.1,fun i h6 kF=> ?_⟩;rcases EZU ds l i with h1|h1;·rw[h1];omega
 ·rw[h1];exact h.2 i h6 kF
theorem Ea8(k:Int):du (pp k):=by exact Emw
theorem Ea9(k:Int):Tryz.prog.built 222 [(0,E I k)]=Z (I6 (pp k)):=Ed
def vE(l:List Int)(w:H)(e:Uh)(w':H):Prop:=
 (match ng l with
  |none=>e=Eg (Et #[G X 0 0,E I 1])
  |some bs=> ∃A c base,e=Eg (Et #[G A bs.length c,E I 0])/\Own w' base A c bs)/\El w w'
theorem Ea_(l:List Int)(w:H)(hl:du l):Ef Eb 165 #[EZ (I6 l)] w (vE l w):=by
 have CF:=J<|fun W gm hm=>EaP gm l W hm;have HL:=J hl;have hsz:Ec ((I6 l).size=14):=J<|pd l;have hone:=J<|Hk l;clear hl;obtain⟨mv,hmv⟩:=En (I6 l);obtain⟨k,hk⟩:=En (l.getD 0 0);rw[<-hmv] at hsz hone⊢;replace hmv:=J hmv;rw[<-hk] at CF;replace hk:=J hk;go_enter Tryz.func165,Tryz.ntmps165;go_wp2_with fail;have K1:=J<|D.new w mv 222;have u:=J<|Er w (EJ mv 222);rw[hmv.out] at K1 u⊢;generalize w.alloc (EJ (I6 l) 222)=w0 at*;have l0:=K1.out.lt;refine(CF.out _ _ K1.out).mono ?_;rintro e w1 hf;unfold Hm at hf;cases hfo:kD k with
 |none=>
  rw[hfo] at hf;obtain⟨rfl,rfl⟩:=hf;have hp:ng l=X:=by unfold ng;rw[<-hk.out,hfo]
  replace hp:=J hp;clear hfo;exact EpD
 |some ds=>
  rw[hfo] at hf;obtain⟨gl,cp,fs,rfl,hds,hfl,b1⟩:=hf;obtain⟨k1,k11,hd7,hgood⟩:=Ea6 hfo;have Su:=J hfo;have Ap:=J hds;have FL:=J hfl;have HG:=J hgood;replace K1:=J<|K1.out.V b1;replace u:=ET u b1;have hlen:fs.length=ds.length:=by rw[<-hds,List.length_map]
  have HN:=J hlen;have hgl:w.heap.size<gl:=by have:=hfl.1;omega
  have c0:=K1.out.cell 0;rw[aR _ _ U,if_neg U,<-hk.out] at c0;have l1:=K1.out.lt;have Ho: ∀p∈fs,p.1.Hn:=fun p hp=>hgood _ (by rw[<-hds];exact List.mem_map_of_mem hp);have CP:=J<|EXV k (fs.map (Am l)) ds.length gl cp (by rw[List.length_map,hlen]) U U U w1 (fun W hW=>EZJ l (hfl.V hW)) (Ea7 hfl HL.out K1.out Ho);have HG2:=J Ho;clear Ho;clear hfo hds hfl hgood b1 hlen;generalize hnl:ds.length=n at*;replace hnl:=J hnl;go_wp2_with fail;refine(CP.out).mono ?_;rintro e w2 ⟨vI,b2⟩;clear CP c0;rw[EZI,Ap.out] at vI;have Sv:=b2.size;replace K1:=J<|K1.out.V b2;replace FL:=J<|FL.out.V b2;replace u:=ET u b2;clear b2;cases hps:cZ ds l with
  |none=>
   rw[hps] at vI;obtain rfl:=vI;have hp:ng l=X:=by unfold ng;rw[<-hk.out,Su.out];simp only[hps]
   replace hp:=J hp;clear hps;exact EpD
  |some ps=>
   rw[hps] at vI;obtain⟨A,c,rfl,ho⟩:=vI;have Ag:=J hps;have HO:=J ho;clear hps ho;go_wp2_with fail;go_loopw[26] (fun y wr=> ∃i:Nat,i<=n/\y=E I i/\D wr w.heap.size (I6 (J2 (ds.take i) l)) 222/\Xq wr w0.heap.size gl w.heap.size fs/\Own wr w1.heap.size A c (k::ps)/\El w wr) (fun y _=>n-(Ir y).toNat);case atStart=>exact⟨0,U,O,K1.out,FL.out,HO.out,u.out⟩
   case round=>
    obtain⟨i,hi,rfl,hm,hfl,ho,hbb⟩:=hrel;have K1:=J hm;have FL:=J hfl;have HO:=J ho;have u:=J hbb;have lr:=hm.lt;have lb:=hbb.size;clear hm hfl ho hbb;by_cases hin:i<n
    ·have hil:i<fs.length:=GL;have hcell:=fun j hj=>FL.out.cells i hil j hj;have pX:=(FL.out.2.2 i hil).2;have hgd:=HG2.out _ (gY hil);have htk:ds.take (i+1)=ds.take i++[(fs[i]'hil).1]:=by have e1:ds[i]?=Z (fs[i]'hil).1:=Rt;rw[nE,e1];rfl
     generalize fs[i]'hil=p at*;obtain⟨d,gb⟩:=p;simp only at hcell pX hgd htk;have HT:=J htk;have uF:=J pX;have CS:=J<|fun W (hb:ZI W d w.heap.size gb) (hm:D W w.heap.size (I6 (J2 (ds.take i) l)) 222)=>Eao d gb w.heap.size (J2 (ds.take i) l) 0 W hgd.ok (fun _=>U) (Ss _ _ HL.out) hb hm;have HE: ∀(args:Array Y) (w:H),(Jd d.set args).run Eb w= .ok (.enter d.set args) w:=P6 d;have c0:=hcell 0 U;have c1:=hcell 1 U;have c2:=hcell 2 U;have c3:=hcell 3 U;have c4:=hcell 4 U;simp only[ID,Nat.add_zero] at c0 c1 c2 c3 c4;clear hcell pX hgd htk;have G0:=J<|hZ d gb;have hsz2:Ec ((ID d gb).size=5):=J O;have t1:decide ((i:Int)<(n:Int))=EI:=IU U;go_wp2_with (with_reducible refine wA fL (Ev.mk ?_));apply Eo;clear c0 c1 c2 c3 c4 t1;have K5:=J<|D.new wr Jx 298;have b5:=J<|Er wr (EJ Jx 298);generalize wr.alloc (EJ Jx 298)=w4 at*;go_wp2_with (with_reducible refine wS (cs:=(ID d gb)) XA K5 (Ev.mk ?_) (hn:=hsz2.out) (h1:=G0.out));apply Eo;replace K5:=J<|K5.out.setRow (ID d gb);replace b5:=J<|E2 (g:=wr.heap.size) b5.out U (ID d gb);generalize w4.setRow wr.heap.size (ID d gb)=w5 at*;replace K1:=J<|K1.out.V b5.out;replace FL:=J<|FL.out.V b5.out;replace HO:=J<|ZD HO.out b5.out;replace u:=ET u b5.out;have uG:Ec (ZI w5 d w.heap.size gb):=EM uF b5.out;clear uF;clear b5;have k4:=K5.out.cell 4;simp only[ID,OE,List.getElem?_cons_succ,kZ] at k4;have HK4:w5.cell? ⟨wr.heap.size,4,X⟩=Z (.func (.func d.set) #[] #[M (Z ⟨gb,0,X⟩)]):=k4;clear k4 K5;go_wp2_with fail;refine(CS.out _ uG.out K1.out).mono ?_;rintro e w6 ⟨rfl,Sw,Hp,hs6,b6⟩;clear HK4 HE CS;replace K1:=J Sw;replace FL:=J<|FL.out.keep U Hp;replace HO:=J<|EZO HO.out U Hp;replace u:=J<|u.out.trans b6;clear Sw Hp b6 uG;go_wp2_with fail;refine⟨⟨i+1,U,Eh,?_,FL.out,HO.out,u.out⟩,JM⟩;rw[HT.out,EZX];exact K1.out
    ·obtain rfl:i=n:=U;have Sx:ds.take i=ds:=by rw[<-hnl.out,List.take_length]
     rw[Sx] at K1;have c0:=K1.out.cell 0;rw[aR _ _ U,if_neg U,rT _ _ _ (fun d hd=>by have:=(HG.out d hd).off1;omega),<-hk.out] at c0;have NQ:=fun W=>Ea5 (J2 ds l) (pp k) (Ss ds l HL.out) (Ea8 k) W;have hput:ng l=if J2 ds l=pp k then Z (k::ps) else X:=by unfold ng;rw[<-hk.out,Su.out];simp only[Ag.out]
     replace hput:=J hput;have zs:Ec ((I6 (J2 ds l)).size=14):=J<|pd _;have BM:=J<|Ea9 k;have HKP:Ec ((k::ps).length=1+ps.length):=J (by rw[ZC];omega);clear Sx;generalize I6 (J2 ds l)=mz at*;generalize I6 (pp k)=mk at*;have t1:decide ((i:Int)<(i:Int))=B:=IJ U;by_cases hz:J2 ds l=pp k;·rw[IU hz] at NQ;rw[if_pos hz] at hput;clear hz;go_wp2_with (first|(with_reducible refine wL AB K1 ?_ (hn:=zs.out))|((with_reducible refine It 37 ?_);refine I3 rfl 222 _ rfl mk BM.out ?_));go_ret2;unfold vE;rw[hput.out];exact⟨⟨A,c,_,by rw[HKP.out];rfl,HO.out⟩,u.out⟩
     ·rw[IJ hz] at NQ;rw[if_neg hz] at hput;clear hz;go_wp2_with (first|(with_reducible refine wL AB K1 ?_ (hn:=zs.out))|((with_reducible refine It 37 ?_);refine I3 rfl 222 _ rfl mk BM.out ?_));go_ret2;unfold vE;rw[hput.out];exact EoJ
end Go.Proofs.YtclmichaaiohjaaGreatDoor
