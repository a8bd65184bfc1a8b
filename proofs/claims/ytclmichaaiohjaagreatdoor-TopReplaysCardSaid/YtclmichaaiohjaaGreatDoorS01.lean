import Derived.Test.YtclmichaaiohjaaGreatDoorS00
import Derived.Laws.CopyRow
import Derived.Laws.IdiomCopy
import Derived.Laws.MakeOwn
import Derived.Lib.BitFns
import Derived.Lib.Slices
import Derived.Lib.Small
import Derived.Lib.Strings
import Derived.Maps.AppendAt
import Derived.OwnWalk
set_option maxRecDepth 100000
set_option linter.unusedVariables false
set_option linter.unusedSimpArgs false
set_option maxHeartbeats 6400000
namespace Go.Proofs.YtclmichaaiohjaaGreatDoor
open RowKit
open _root_.Array renaming getElem?_eq_none->iJ,replicate->b_,getElem?_eq_some_iff->J3,getElem?_eq_getElem->kA
open BitVec renaming ofInt->fX
open Bool renaming true->EJ,false->EI,or_eq_true->nJ,and_eq_true->Oj,false_eq_true->kL
open Classical renaming byContradiction->sd
open Go renaming bits->Ir,World->M,Calls->Eg,TypeId->EB,Value->Y,Addr->Ep,Program->Jq,heap_alloc_new->gI,bodyPost_ret->ET,binOp->X5,results->UA,Exit->UM,Act->E_,Oper->EP,yielded->Jg,execOp->Ig,wpList->Ib,undef->I6,getD_set_ne->aq,mem_ready->ZR,Operand->J5,info_parts->au,madeCells->bZ,below_setRow->EY,wpQuiet_nil->I5,method->X7,callFunc->Jm,wp_loop_rounds->Uk,rounds_succ->Il,results_none->UQ,run_underlying->go
open Act renaming put->Ih
open Builtin renaming append_->ZX
open Code renaming region->bU
open DataW renaming trod->ZN
open Ending renaming returned->Ei
open Instr renaming loadAt->gJ,sureAddr->dp
open IntKind renaming wrap->pE,bits->kh,signed->ki,i64->I,u8->Ix,u64->Im,u32->Ok
open Lib renaming hid->J
open Obj renaming cells->Eb
open Oper renaming wp->dn
open Go.Proofs.Tryz renaming prog->EZ,underlying23->aJ
open Region renaming wanted->JO,binds->UN,ready->ky
open Result renaming andThen_ok->OM
open RowKit renaming Below->Ij,Hid->Ed
open RowKit.Below renaming refl->IU,heap_setCell->XK,alloc->J6,setCell->J7
open Sem renaming run_bind->OH,run_pure->Oi,run->Uv
open Value renaming bool->Ec,int->E,agg->Ea,slice->G,tuple->Eu,pointer->V,oneCell'->Oc
open World renaming block_lt_of_cell?->Xv,setCell->fZ,alloc->Xo,ownsRow_nil->cu,ownsRow_lit->nm
open Int renaming toNat_natCast->kn
open List renaming getElem?_eq_none->bJ,mem_of_mem_take->iI,eq_nil_of_length_eq_zero->ZP,getElem?_eq_getElem->JV,range->U4,mem_range->bX,mem_filterMap->nE,mem_cons_of_mem->XU,mem_cons_self->dq,nodup_cons->nI,all_eq_true->Xw,getElem?_eq_some_iff->Xx,mem_iff_getElem?->gO,cons_append->ku,take_append_drop->iU,take_succ_cons->Is,drop_eq_getElem_cons->nO,length_take->ar,replicate->fh,take_of_length_le->OP,getD_eq_getElem?_getD->OE,getElem?_append_left->Z_,getElem?_take_of_lt->cE,getElem?_append_right->aE,map_cons->UB,map_nil->Xn,take_zero->Iq,mem_map->dw,getElem?_toArray->J2,setIfInBounds_toArray->Ik,length_append->IY,flatMap_cons->kG,length_cons->Zn,filter_cons->nf,mem_cons->UJ,getElem_mem->gh,append_assoc->U7,set_cons_succ->Ic,set_cons_zero->If,mem_append->Xp,map_append->ik
open Nat renaming lt_or_ge->JW,le_trans->Ew,le_refl->E3,zero_add->Ox,lt_of_lt_of_le->gX,zero_le->aO
open Option renaming some->D,none->Z,map_some->kj
open Option.some renaming inj->fb
variable{k Y4 g id i j d b0 base cap:Nat}{w w' W w'' w0:M}{xs:List Int}{x:Nat->Y}{P:Jq}{t TB S:EB}{cs args tmps old big:Array Y}{p:Tmp}{f:FuncId}{Q:UM->E_->M->Prop}{l:List EP}{fn:Func}{listed:Array Bool}{F:(Nat->Y)->E_}{want:Bool}{R:Nat->(Nat->Y)->M->Prop}{ops:Array EP}{rest:List Y}{Gs:List (List Y)}{S2:Y->M->Prop}{ks:List (Nat×Nat)}{Ph:Nat->M->Prop}{A:Option Ep}
theorem ji(k:Nat)(hk:k<=62)(a:Int)(m:Int)(hm:m=((2^k-1:Nat):Int)):Ir .and .i64 a m=a%(2^k:Nat):=by
 subst hm;have hp:2^k<=2^62:=Nat.pow_le_pow_right U hk;have hp0:0<2^k:=Nat.two_pow_pos k;show IntKind.i64.wrap ((fX 64 a&&&fX 64 ((2^k-1:Nat):Int)).toNat:Int)=_;rw[BitVec.toNat_and,BitVec.toNat_ofInt,BitVec.ofInt_natCast,BitVec.toNat_ofNat,Nat.mod_eq_of_lt U,Nat.and_two_pow_sub_one_eq_mod];have e:(((a%((2^64:Nat):Int)).toNat%2^k:Nat):Int)=a%((2^k:Nat):Int):=by rw[Int.natCast_emod,Int.toNat_of_nonneg (Int.emod_nonneg _ U)];apply Int.emod_emod_of_dvd;exact_mod_cast Nat.pow_dvd_pow 2 U
 rw[e];have h1:=Int.emod_nonneg a (b:=((2^k:Nat):Int)) U;have h2:=Int.emod_lt_of_pos a (b:=((2^k:Nat):Int)) U;exact IntWalk.i64_in _ U
theorem EJY(a:Int):Ir .and .i64 a 1=a%2:=ji 1 U a 1 rfl
theorem EJ0(a:Int):Ir .and .i64 a 3=a%4:=ji 2 U a 3 rfl
theorem EJ1(a:Int):Ir .and .i64 a 7=a%8:=ji 3 U a 7 rfl
theorem EJ2(a:Int):Ir .and .i64 a 15=a%16:=ji 4 U a 15 rfl
theorem EJ3(a:Int):Ir .and .i64 a 31=a%32:=ji 5 U a 31 rfl
theorem EJ4(a:Int):Ir .and .i64 a 255=a%256:=ji 8 U a 255 rfl
theorem EJ5(a:Int):Ir .and .i64 a 1023=a%1024:=ji 10 U a 1023 rfl
theorem EJ6(a:Int):Ir .and .i64 a 65535=a%65536:=ji 16 U a 65535 rfl
theorem EJ7(a:Int):Ir .and .i64 a 1048575=a%1048576:=ji 20 U a 1048575 rfl
theorem EJ8(a:Int):Ir .and .i64 a 4294967295=a%4294967296:=ji 32 U a 4294967295 rfl
attribute [go_sem] EJY EJ0 EJ1 EJ2 EJ3 EJ4 EJ5 EJ6 EJ7 EJ8
theorem jj{k:IntKind}{a b:Int}(h:a=b):Ei (.int k a)=Ei (.int k b):=by rw[h]
theorem zo{a b:Bool}(h:a=b):Ei (Ec a)=Ei (Ec b):=by rw[h]
def sat(n most:Int):Int:=if n<most then n+1 else most
def bE(n low high:Int):Int:=if n<low then low else if high<n then high else n
def Jy(now bI En:Int):Int:=
 if En<1 then now
 else if now<=bI then(if bI-now<=En then bI else now+En)
 else if now-bI<=En then bI else now-En
def has(o_ i:Int):Bool:=decide (0<=o_/\0<=i/\i<=62)&&(o_/2^i.toNat%2==1)
theorem EJ9(n:Int):IntKind.u64.wrap n=n%18446744073709551616:=by simp[pE,kh,ki]
theorem PD(a b:Int)(h1: -9223372036854775808<=b)(h2:a<=9223372036854775807)(h:b<=a): IntKind.u64.wrap (IntKind.u64.wrap a-IntKind.u64.wrap b)=a-b:=by simp only[EJ9];omega
theorem uz(n most:Int)(w:M)(h1: -9223372036854775808<=n)(h3:most<=9223372036854775807): Eg EZ 90 #[E I n,E I most] w fun e w'=>e=Ei (E I (sat n most))/\w=w':=by
 go_enter Tryz.func90,Tryz.ntmps90;go_wp2
 all_goals
  go_ret
  refine⟨jj ?_,O⟩
  unfold sat
  split<;>omega
theorem uA(n low high:Int)(w:M): Eg EZ 184 #[E I n,E I low,E I high] w fun e w'=>e=Ei (E I (bE n low high))/\w=w':=by
 go_enter Tryz.func184,Tryz.ntmps184;go_wp2
 all_goals
  go_ret
  refine⟨jj ?_,O⟩
  unfold bE
  repeat' split
  all_goals omega
theorem zp(now bI En:Int)(w:M)(h1: -9223372036854775808<=now)(h2:now<=9223372036854775807)(h3: -9223372036854775808<=bI)(h4:bI<=9223372036854775807) (h5: -9223372036854775808<=En) (h6:En<=9223372036854775807): Eg EZ 152 #[E I now,E I bI,E I En] w fun e w'=>e=Ei (E I (Jy now bI En))/\w=w':=by
 by_cases hc:now<=bI
 ·have e1:=PD bI now h1 h4 hc;go_enter Tryz.func152,Tryz.ntmps152;go_wp2
  all_goals
   go_ret
   refine⟨jj ?_,O⟩
   unfold Jy
   repeat' split
   all_goals omega
 ·have e1:=PD now bI h3 h2 U;go_enter Tryz.func152,Tryz.ntmps152;go_wp2
  all_goals
   go_ret
   refine⟨jj ?_,O⟩
   unfold Jy
   repeat' split
   all_goals omega
theorem Gg(o_ i:Int)(w:M)(h1: -9223372036854775808<=o_)(h2:o_<=9223372036854775807): Eg EZ 163 #[E I o_,E I i] w fun e w'=>e=Ei (Ec (has o_ i))/\w=w':=by
 go_enter Tryz.func163,Tryz.ntmps163;go_wp2
 all_goals
  go_ret
  refine⟨zo ?_,O⟩
  unfold has
 ·rw[IZ U];rfl
 ·rw[IJ U];rfl
 ·rw[IZ U];rfl
 ·rw[IZ U];rfl
section
open Go.ChangeShapes Go.WideShapes
section
variable{P:Program}{w:World}{r:Reach}{base:Nat}{t:TypeId}{v:Value}
theorem EJ_{k:IntKind}(ht:P.underlying t=D (.int k))(h:Cell.okWide P w r base t v): ∃n,v= .int k n/\k.min<=n/\n<=k.max:=by simp only[Cell.okWide,ht,Cell.ok,IntKind.has] at h;cases v<;>simp_all
theorem EOE(ht:P.underlying t=D (.int .i64))(h:Cell.okWide P w r base t v): ∃n:Int,v=E I n/\ -9223372036854775808<=n/\n<=9223372036854775807:=by obtain⟨n,rfl,h1,h2⟩:=EJ_ ht h;exact⟨n,O,by simpa[IntKind.min,ki,kh] using h1,by simp[IntKind.max,ki,kh] at h2;omega⟩
theorem flat{ts:List EB}(ha:(∃fs,P.underlying t=D (.struct fs))\/ ∃n e,P.underlying t=D (.array n e))(hts:P.cellTypes P.depth t=D ts)(hn:P.cellsOf t=ts.length) (h:Value.okWide P w r base t v): ∃cs:Array Y,v=Ea cs/\cs.size=ts.length/\ ∀(i:Nat) Y3 c,ts[i]?=D Y3->cs[i]?=D c->Cell.okWide P w r base Y3 c:=by
 have h': ∃cs,v=Ea cs/\cs.size=P.cellsOf t/\Row.okWide P w r base t cs:=by rcases ha with⟨fs,ha⟩|⟨n,e,ha⟩<;>simpa only[Value.okWide,ha] using h
 obtain⟨cs,rfl,hs,ts',PG,_,hc⟩:=h';rw[hts] at PG;obtain rfl:ts=ts':=by simpa using PG
 refine⟨cs,O,U,fun i Y3 c hu hcs=> ?_⟩;obtain⟨u',hu',hok⟩:=hc i c hcs
 have hi:i<ts.length:=by
  rcases JW i ts.length with h|h;·exact h
  ·rw[bJ h] at hu;cases hu
 rw[Nat.mod_eq_of_lt hi,hu] at hu';obtain rfl:Y3=u':=by simpa using hu'
 exact hok
def PH(k:IntKind)(w:M)(v:Y):Prop:=
 v= .slice Z 0 0\/
 ∃(x:Ep) (len cap:Nat) (zs:List Int),v=G (D x) len cap/\(0<cap->x.block<w.heap.size/\x.spot=Z)/\len<=cap/\cap<=9223372036854775807/\zs.length=cap/\(∀i,i<zs.length->w.cell? (x.add i)=D (.int k (zs.getD i 0)))/\ ∀n∈zs,(Lit.int k n).wf=EJ
end
end
section
open Go.ChangeShapes Go.WideShapes
def Row(w:M)(a:Option Ep)(xs:List Int):Prop:=
 (xs=[]\/ ∃b off,a=D ⟨b,off,Z⟩/\ ∀i (h:i<xs.length),w.cell? ⟨b,off+i,Z⟩=D (E Ix xs[i]))/\ ∀x∈xs,0<=x/\x<=255
theorem It{a:Option Ep}(h:Row w a xs)(hb:El w w'):Row w' a xs:=by
 obtain⟨h|⟨b,off,rfl,hc⟩,h2⟩:=h;·exact⟨.inl h,h2⟩
 ·exact⟨.inr ⟨b,off,O,fun i hi=>by rw[hb.cell (Xv _ _ (hc i hi))];exact hc i hi⟩,h2⟩
theorem PK{a:Option Ep}(h:Row W a xs)(q:Nat):Row (W.drewN q) a xs:=h
theorem mQ(W:M)(a:Option Ep):Row W a []:=⟨.inl O,fun x hx=>uB⟩
theorem r_{a:Option Ep}(h:Row W a xs)(n:Nat):Row W a (xs.take n):=by
 obtain⟨h|⟨b,off,rfl,hc⟩,h2⟩:=h;·subst h;simpa using mQ W a
 ·refine⟨.inr ⟨b,off,O,fun i hi=> ?_⟩,fun x hx=>h2 x (iI hx)⟩;rw[hc i sE];simp
def zq(w:M)(v:Y):Prop:=
 ∃(A:Option Ep) (xs:List Int) (cap:Nat),v=G A xs.length cap/\xs.length<=cap/\cap<=9223372036854775807/\Row w A xs/\(A=Z->cap=0)
theorem PM{x:Int}(h:(Lit.int .u8 x).wf=EJ):0<=x/\x<=255:=by exact ErO
theorem PN{Y9:Type}{enc:EB×Y->Y9}{e:EB}{v:Y}{fuel:Nat}{x:DataW Y9×List MemPlace}(ht:P.underlying t=D (.slice e))(he:P.underlying e=D (.int .u8))(hc:P.cellsOf e=1) (hd:ZN enc P w 0 (fun _=>EJ) EJ fuel t [v]=D x):zq w v:=by
 rcases open_ints ht he hc hd with⟨hcs,_⟩|⟨ad,l,c,zs,hcs,_,hl,hm,hz,hx,hcell,hwz⟩;·simp at hcs;subst hcs;exact⟨Z,[],0,O,Ej,Ej,mQ _ _,fun _=>rfl⟩
 ·simp at hcs;subst hcs;have hzc:zs.length=c:=by simpa using hz
  have hlen:(zs.take l).length=l:=mR;refine⟨D ad,zs.take l,c,by rw[hlen],U,by unfold maxLen at hm;omega,⟨?_,fun y hy=>PM (hwz y (iI hy))⟩,fun h=>UL⟩;rcases Nat.eq_zero_or_pos c with h0|h0;·left;exact ZP U
  ·right;have h1:=hcell 0 U;have e0:ad.add 0=ad:=by simp[Addr.add]
   rw[e0] at h1;obtain⟨b,off,spot⟩:=ad;have hs:=World.cell?_spot h1;simp at hs;subst hs;refine⟨b,off,O,fun i hi=> ?_⟩;have hi':i<l:=U;have:=hcell i U;have e:(⟨b,off,Z⟩:Ep).add i=⟨b,off+i,Z⟩:=U3;rw[e] at this;exact Equ
theorem zr(h:Ij Y4 w w')(k:El w' w'')(hB:Y4<=w.heap.size):Ij Y4 w w'':=
 h.trans (k.mono (Ew hB h.size))
theorem bt(h:El w w')(k:El w' w''):El w w'':=h.trans (k.mono h.size)
theorem EV(h:Ed (Ij w.heap.size w w'))(k:Ij w'.heap.size w' w''):Ed (Ij w.heap.size w w''):=J (bt h.out k)
theorem jk{a:M}(h:Ij Y4 a w)(n:Nat):Ij Y4 a (w.drewN n):=⟨h.os,h.tape,h.output,h.size,h.block⟩
theorem Jn(w:M):El w w.drew:=⟨O,O,O,E3 _,fun _ _=>rfl⟩
theorem Er(w:M)(o:Obj):El w (w.alloc o):=(IU _ _).alloc (E3 _) o
theorem JY(w:M)(o o':Obj):El w ((w.alloc o).alloc o'):=(Er w o).alloc Ej o'
theorem bO(w:M)(o o' o'':Obj):El w (((w.alloc o).alloc o').alloc o''):=(JY w o o').alloc I8 o''
theorem Jf(h:w.heap[g]?=D (Eb cs t (0,0))):(∀i,w.cell? ⟨g,i,Z⟩=cs[i]?)/\(∀i,w.frozen? ⟨g,i,Z⟩=EI):=
 ⟨fun i=>cell_of_row w g i cs t (0,0) h,fun i=>frozen_of_row w g i cs t h⟩
theorem mT{o:Obj}(h:w.heap[g]?=D o):g<w.heap.size:=by
 rcases JW g w.heap.size with h1|h1;·exact h1
 ·rw[iJ h1] at h;cases h
theorem Xk{o:Obj}(h:w.heap[g]?=D o)(hb:El w w'):w'.heap[g]?=D o:=(hb.block g (mT h)).trans h
theorem PR{o o':Obj}(hb:Ij ((w.alloc o).alloc o').heap.size ((w.alloc o).alloc o') w'):w'.heap[w.heap.size]?=D o/\w'.heap[w.heap.size+1]?=D o'/\w.heap.size+1<w'.heap.size:=by refine⟨Xk (heap_alloc2_old _ _ _) hb,Xk (heap_alloc2_new _ _ _) hb,?_⟩;have:=hb.size;simp at this;omega
theorem Gh(hg:W.heap[g]?=D (Eb cs t (0,0)))(hc:cs=(xs.map (E .u8)).toArray)(hb: ∀x∈xs,0<=x/\x<=255): Row W (D ⟨g,0,Z⟩) xs:=by subst hc;refine⟨.inr ⟨g,0,O,fun i h=> ?_⟩,hb⟩;rw[cell_of_row W g (0+i) _ t (0,0) hg];simp[h]
theorem EOI(i:Nat):(w.alloc (Eb cs t)).cell? ⟨w.heap.size,i,Z⟩=cs[i]?:=cell_of_row _ _ i cs t (0,0) (gI w _)
theorem PT(hb:Ij (w.alloc (Eb cs t)).heap.size (w.alloc (Eb cs t)) w')(i:Nat):w'.cell? ⟨w.heap.size,i,Z⟩=cs[i]?:=
 (hb.cell (p:=⟨w.heap.size,i,Z⟩) Ej).trans (EOI i)
theorem PW{o:Obj}(hb:Ij (w.alloc o).heap.size (w.alloc o) w'):El w w':=
 zr ((IU _ _).alloc (E3 _) o) hb (E3 _)
theorem mV{p:Nat×Nat}(h:w.heap[g]?=D (Eb cs t p))(i:Nat)(v:Y):(w.setCell ⟨g,i,Z⟩ v).heap[g]?=D (Eb (cs.setIfInBounds i v) t p):=by simp only[fZ,Array.getElem?_modify,if_true,h,kj];rfl
theorem PY(h:Ij Y4 w.drew w'):Ij Y4 w w':=⟨h.os,h.tape,h.output,h.size,h.block⟩
theorem jl:(Tryz.prog.info? 5).map (fun i=>(i.zero,i.size,i.bytes))=D (D (E Ix 0),1,1):=Ef
end
def pI:Option (Nat×Nat)->Y
 |none=>Ea #[Ec EI,E I 0,E Im 0]
 |some (h,s)=>Ea #[Ec EJ,E I h,E Im s]
def O_:Option (Nat×Nat)->Nat->Option (Nat×Nat)×Bool
 |none,n=>(D (n,1),EJ)
 |some (h,s),n=>
  if h<n then(D (n,(s*2^(n-h))%2^64|||1),EJ)
  else if h-n<64 then(D (h,s|||2^(h-n)),!s.testBit (h-n))
  else(D (h,s),EI)
def sI:Option (Nat×Nat)->Prop
 |none=>True
 |some (h,s)=>h<=4294967295/\s<2^64
theorem EOJ(s d:Nat)(c:Int)(hs:s<2^64)(hc:c=d)(W:M):(Op.shift BinOp.shl Im (s:Int) Im c).run EZ W= .ok (E Im ((s*2^d%2^64:Nat):Int)) W:=by
 subst hc
 have e:IntKind.u64.wrap ((s:Int)*2^(min d 64))=((s*2^d%2^64:Nat):Int):=by
  have c1:(s:Int)*2^(min d 64)=((s*2^(min d 64):Nat):Int):=Ej;rw[c1];have c2:IntKind.u64.wrap ((s*2^(min d 64):Nat):Int)=((s*2^(min d 64)%2^64:Nat):Int):=by simp[pE,kh,ki]
  rw[c2];congr 1;rcases JW d 64 with h|h;·rw[Nat.min_eq_left U]
  ·rw[Nat.min_eq_right h,Nat.mul_mod_left,show d=(d-64)+64 from U,Nat.pow_add,<-Nat.mul_assoc,Nat.mul_mod_left]
 unfold Op.shift;rw[if_neg U,kn];show(pure (E .u64 (IntKind.u64.wrap ((s:Int)*2^(min d 64)))):Sem Y).run EZ W=_;rw[e];rfl
theorem EOO(n:Nat)(w:M)(h6:n<=4294967295): Eg EZ 173 #[Ea #[Ec EI,E I 0,E Im 0],E I n] w fun e w'=>e=Ei (Ea #[Ec EJ,E I n,E Im 1])/\El w w':=by go_enter Tryz.func173,Tryz.ntmps173;go_wp2;exact ET (v:=Ea #[Ec EJ,E I n,E Im 1]) zu O ⟨O,JY _ _ _⟩
theorem EOU(h s n:Nat)(w:M)(h2:h<=4294967295)(h4:s<2^64)(h5:h<n)(h6:n<=4294967295): Eg EZ 173 #[Ea #[Ec EJ,E I h,E Im s],E I n] w fun e w'=>e=Ei (Ea #[Ec EJ,E I n,E Im (s*2^(n-h)%2^64|||1:Nat)])/\El w w':=by have hsh:=EOJ s (n-h) ((n:Int)-(h:Int)) h4 U;have hor:Ir .or .u64 ((s*2^(n-h)%2^64:Nat):Int) 1=((s*2^(n-h)%2^64|||1:Nat):Int):=u64_or_nat _ 1 (Nat.mod_lt _ U) U;obtain⟨x,hx⟩:=JK (s*2^(n-h)%2^64);rw[hx] at hsh hor;rw[hx];clear hx;go_enter Tryz.func173,Tryz.ntmps173;go_wp2;exact ET (v:=Ea #[Ec EJ,E I n,E Im (x|||1:Nat)]) zu O ⟨O,JY _ _ _⟩
theorem EOX(h s n:Nat)(w:M)(h2:h<=4294967295)(h4:s<2^64)(h5:n<=h)(h7:h-n<64): Eg EZ 173 #[Ea #[Ec EJ,E I h,E Im s],E I n] w fun e w'=>e=Ei (Ea #[Ec EJ,E I h,E Im (s|||2^(h-n):Nat)])/\El w w':=by
 have hp:2^(h-n)<2^64:=Nat.pow_lt_pow_right U h7;have hor:Ir .or .u64 (s:Int) (IntKind.u64.wrap (2^(h-n)))=((s|||2^(h-n):Nat):Int):=by have c1:((2:Int)^(h-n))=((2^(h-n):Nat):Int):=Ej;rw[c1,IntWalk.u64_in _ ⟨Int.natCast_nonneg _,U⟩];exact u64_or_nat _ _ U U
 have h8:(h:Int)-(n:Int)<64:=U;have h9:(n:Int)<=h:=U;obtain⟨x,hx⟩:=JK (s|||2^(h-n));rw[hx] at hor;rw[hx];clear hx hp;go_enter Tryz.func173,Tryz.ntmps173;go_wp2;go_region;go_wp2;exact ET (v:=Ea #[Ec EJ,E I h,E Im x]) zu O ⟨O,(JY _ _ _).drew⟩
theorem EOZ(h s n:Nat)(w:M)(h2:h<=4294967295)(h4:s<2^64)(h5:n<=h)(h7:64<=h-n): Eg EZ 173 #[Ea #[Ec EJ,E I h,E Im s],E I n] w fun e w'=>e=Ei (Ea #[Ec EJ,E I h,E Im s])/\El w w':=by have h8:64<=(h:Int)-(n:Int):=U;have h9:(n:Int)<=h:=U;go_enter Tryz.func173,Tryz.ntmps173;go_wp2;exact ET (v:=Ea #[Ec EJ,E I h,E Im s]) zu O ⟨O,JY _ _ _⟩
theorem EOa(a1 a2:Bool)(h1 h2 s1 s2:Int)(W:M): (X5 .neq 158 (Ea #[Ec a2,E I h2,E Im s2]) (Ea #[Ec a1,E I h1,E Im s1])).run EZ W= .ok (Ec (decide (¬(a2=a1/\h2=h1/\s2=s1)))) W:=by by_cases e1:a2=a1<;>by_cases e2:h2=h1<;>by_cases e3:s2=s1<;>simp[go_sem,e1,e2,e3]
theorem zw(a1 a2:Bool)(h1 h2 s1 s2:Int)(n:Int)(w:M) (hc: ∀w,Eg EZ 173 #[Ea #[Ec a1,E I h1,E Im s1],E I n] w fun e w'=>e=Ei (Ea #[Ec a2,E I h2,E Im s2])/\El w w'): Eg EZ 126 #[Ea #[Ec a1,E I h1,E Im s1],E I n] w fun e w'=>e=Ei (Eu #[Ea #[Ec a2,E I h2,E Im s2],Ec (decide (¬(a2=a1/\h2=h1/\s2=s1)))])/\El w w':=by have HC:=J hc;have hn:=EOa a1 a2 h1 h2 s1 s2;obtain⟨b,hb⟩:=JK (decide (¬(a2=a1/\h2=h1/\s2=s1)));rw[hb] at hn;rw[hb];clear hc hb;go_enter Tryz.func126,Tryz.ntmps126;go_wp2_with fail;refine(HC.out _).mono ?_;rintro e w1 ⟨rfl,b1⟩;obtain⟨q0,q1,hz⟩:=PR b1;obtain⟨c0,f0⟩:=Jf q0;obtain⟨c1,f1⟩:=Jf q1;have Y4:=J<|(JY w _ _).trans (b1.mono I8);have hz0:w.heap.size<w1.heap.size:=U;clear q0 q1 b1 f0;go_wp2;go_region;go_wp2;refine ET (v:=Eu #[Ea #[Ec a2,E I h2,E Im s2],Ec b]) ?_ O ⟨O,((((Y4.out.setCell Ej _).setCell Ej _).setCell Ej _).alloc (by simp[fZ];omega) _).drew⟩;simp[UA,Tryz.results126,go_sem,c1,hz]
theorem EOb(s d:Nat):(s|||2^d=s)↔s.testBit d=EJ:=by
 constructor;·intro h;rw[<-h,Nat.testBit_or,Nat.testBit_two_pow];simp
 ·intro h;apply Nat.eq_of_testBit_eq;intro i;rw[Nat.testBit_or,Nat.testBit_two_pow];by_cases e:d=i;·subst e;simp[h]
  ·simp[e]
theorem EOc(v:Option (Nat×Nat))(n:Nat)(w:M)(hv:sI v)(hn:n<=4294967295): Eg EZ 126 #[pI v,E I n] w fun e w'=>e=Ei (Eu #[pI (O_ v n).1,Ec (O_ v n).2])/\El w w':=by
 rcases v with _|⟨h,s⟩;·refine(zw EI EJ 0 n 0 1 n w (fun w=>EOO n w hn)).mono ?_;rintro e w' ⟨rfl,hb⟩;exact⟨by simp[pI,O_],hb⟩
 ·obtain⟨h1,h2⟩:=hv;by_cases c1:h<n;·refine(zw EJ EJ h n s _ n w (fun w=>EOU h s n w h1 h2 c1 hn)).mono ?_;rintro e w' ⟨rfl,hb⟩;refine⟨?_,hb⟩;have e1: ¬((n:Int)=(h:Int)):=U;simp only[O_,if_pos c1,pI,e1,false_and,and_false,not_false_eq_true,decide_true]
  ·by_cases c2:h-n<64
   ·refine(zw EJ EJ h h s _ n w (fun w=>EOX h s n w h1 h2 U c2)).mono ?_;rintro e w' ⟨rfl,hb⟩;refine⟨?_,hb⟩;have e1:decide (¬(EJ=EJ/\(h:Int)=h/\((s|||2^(h-n):Nat):Int)=s))= !s.testBit (h-n):=by have:=EOb s (h-n);rw[Bool.eq_iff_iff];simp only[true_and,decide_eq_true_eq,Bool.not_eq_true',Int.natCast_inj];rw[this];simp
    rw[e1];simp only[O_,if_neg c1,if_pos c2,pI]
   ·refine(zw EJ EJ h h s s n w (fun w=>EOZ h s n w h1 h2 U U)).mono ?_;rintro e w' ⟨rfl,hb⟩;refine⟨?_,hb⟩;simp only[O_,if_neg c1,if_neg c2,pI];simp
def Ext(W:M):Type:={w':M//El W w'}
def EC(W:M)(x:Ext W):M:=x.1
instance(W:M):Nonempty (Ext W):=⟨⟨W,IU _ _⟩⟩
theorem EQ(x:Ext W):El W (EC W x):=x.2
theorem ao{x:Ext W}{v:Y}(h:Eg P f args (EC W x) fun e w'=>e=Ei v/\Ij (EC W x).heap.size (EC W x) w'): Eg P f args (EC W x) fun e w''=>e=Ei v/\ ∃y,w''=EC W y:=h.mono fun _ _ ⟨he,hb⟩=>⟨he,⟨⟨_,bt x.2 hb⟩,O⟩⟩
theorem mW{x:Ext W}{v:Y}(h:Eg P f args (EC W x) fun e w'=>e=Ei v/\EC W x=w'): Eg P f args (EC W x) fun e w''=>e=Ei v/\ ∃y,w''=EC W y:=h.mono fun _ _ ⟨he,hb⟩=>⟨he,⟨x,hb.symm⟩⟩
theorem ZQ{a:E_}(hm:P.follows .mixedOrders=EJ)(hB:Region.lexB .any l.toArray=EJ) (h:wpQuiet P l.toArray (fun w'=> ∃x,w'=EC w x) (fun a'=> ∀w',(∃x,w'=EC w x)->Q .normal a' w') l a):(bU id l.toArray EJ).wp P Q a w:=
 wp_region_quiet (C:=fun w'=> ∃x,w'=EC w x) hm hB ⟨⟨w.drew,Jn w⟩,O⟩ Ov
section
variable{P:Program}{ops:Array Oper}{rest:List Oper}{o:Oper}{a:Act}{w:World}{Q:Exit->Act->World->Prop}
theorem Jo(hw:JO o (Jg ops a.tmps)=EJ) {v:Y} {w':M} (hr:(Ig a.eval o).run P w= .ok (.value v) w') (h:Ib P ops Q rest (a.put o.dst v) w'):Ib P ops Q (o::rest) a w:=by exact Eo4
theorem EOd(hw:JO o (Jg ops a.tmps)=EJ) {w':M} (hr:(Ig a.eval o).run P w= .ok .skip w') (h:Ib P ops Q rest (a.put o.dst I6) w'):Ib P ops Q (o::rest) a w:=by exact Eo4
theorem Eh{o:EP}{ops:Array EP}(h:o.guard=Z):JO o (Jg ops tmps)=EJ:=by unfold JO;rw[h]
def IL(P:Jq)(T:EB)(n:Nat):Prop:=(∃d,P.underlying T=D d/\(match d with| .struct _| .array _ _=>true|_=>false)=EJ)/\(P.info? T).map (·.size)=D n
def mY(o:EP)(a:E_)(T:EB)(g:Nat):Prop:=match o.op with| .load t x=>t=T/\a.eval x=V (D ⟨g,0,Z⟩)|_=>False
def sJ(o:EP)(a:E_)(T:EB)(g:Nat)(cs:Array Y):Prop:=match o.op with| .store t x y=>t=T/\a.eval x=V (D ⟨g,0,Z⟩)/\a.eval y=Ea cs|_=>False
theorem EOf{T:EB}{n:Nat}(hT:IL P T n)(hw:JO o (Jg ops a.tmps)=EJ)(hl:mY o a T g)(hg:Ed (w.heap[g]?=D (Eb cs T (0,0))))(hn:cs.size=n) (h:Ib P ops Q rest (a.put o.dst (Ea cs)) w):Ib P ops Q (o::rest) a w:=by
 obtain⟨⟨d,hu,hd⟩,hi⟩:=hT;unfold mY at hl;split at hl
 ·rename_i t x ho;obtain⟨rfl,hx⟩:=hl;refine Jo hw ?_ h;unfold Ig;have hrun:(loadVar t ⟨g,0,Z⟩).run P w= .ok (Ea cs) w:=by cases d<;>first|(cases hd;done)|exact run_loadVar_row w g t t cs (0,0) _ hg.out hu rfl iO
  simp only[ho,hx,gJ,dp,OH,Oi,OM,hrun]
 ·exact hl.elim
theorem Gi{T:EB}{n:Nat}(hT:IL P T n)(hw:JO o (Jg ops a.tmps)=EJ)(hl:sJ o a T g cs)(hg:Ed (w.heap[g]?=D (Eb old T (0,0))))(ho:old.size=n)(hn:cs.size=n) (h1:cs.all (·.oneCell')=EJ) (h:Ib P ops Q rest (a.put o.dst I6) (w.setRow g cs)):Ib P ops Q (o::rest) a w:=by
 obtain⟨-,hi⟩:=hT;unfold sJ at hl;split at hl;·rename_i t x y hop;obtain⟨rfl,hx,hy⟩:=hl;refine EOd hw ?_ h;unfold Ig;simp only[hop,hx,hy,Instr.storeAt,dp,OH,Oi,OM,run_storeVar_row _ g t t old cs hg.out iO (by rw[ho,hn]) h1]
 ·exact hl.elim
theorem Gj{T:EB}{n:Nat}(hT:IL P T n)(h:fn.results= #[.cell p T])(tmps:Array Y)(w:M)(g:Nat)(cs:Array Y) (hp:tmps.getD p I6=V (D ⟨g,0,Z⟩)) (hg:w.heap[g]?=D (Eb cs T (0,0))) (hn:cs.size=n):(UA fn tmps).run P w= .ok (Ea cs) w:=by obtain⟨⟨d,hu,hd⟩,hi⟩:=hT;cases d<;>first|(cases hd;done)|exact results_cell_row h tmps w g T cs (0,0) _ hp hg hu rfl iO
end
section
variable{P:Program}{ops:Array Oper}{Q:Exit->Act->World->Prop}
def Ow(x:Nat->Y)(i:Nat)(v:Y):Nat->Y:=fun j=>if j=i then v else x j
@[simp] theorem m0(x:Nat->Y)(i:Nat)(v:Y):Ow x i v i=v:=by simp[Ow]
theorem pJ(x:Nat->Y)(i j:Nat)(v:Y)(h:j≠i):Ow x i v j=x j:=by simp[Ow,h]
@[irreducible] def P1(P:Jq)(ops:Array EP)(Q:UM->E_->M->Prop)(F:(Nat->Y)->E_)(R:Nat->Y->M->Prop)(i:Nat)(o:EP)(x:Nat->Y)(w:M):Prop:=
 if JO o (Jg ops (F x).tmps) then o.wp P (F x) w (fun a' w'=> ∃v,a'=(F x).put o.dst v/\El w w'/\R i v w') Q
 else R i I6 w
theorem EOg{o:EP}(ho:ops[k]?=D o)(rest:List EP)(a:E_)(w:M)(h:Ib P ops Q (o::rest) a w):wpOp P ops Q k (Ib P ops Q rest) a w:=by unfold wpOp;simp only[ho];unfold Ib at h;exact h
def XH(ops:Array EP)(listed:Array Bool):List Nat:=(U4 ops.size).filter fun i=> !listed.getD i EJ
theorem m_:i∈XH ops listed↔i<ops.size/\listed.getD i EJ=EI:=by unfold XH;rw[List.mem_filter,bX,Bool.not_eq_true']
theorem uC(hs:listed.size=ops.size)(hi:i<ops.size)(h:listed.getD i EJ=EI):(XH ops (listed.setIfInBounds i EJ)).length<(XH ops listed).length:=by
 have e:XH ops (listed.setIfInBounds i EJ)=(XH ops listed).filter fun j=>j !=i:=by
  unfold XH;rw[List.filter_filter];apply List.filter_congr;intro j hj;by_cases hij:i=j;·subst hij;exact EpC
  ·rw[aq EJ hij];have:(j !=i)=EJ:=I8;rw[this];simp
 rw[e,List.length_filter_lt_length_iff_exists];exact⟨i,m_.2 ⟨hi,h⟩,Ej⟩
def EM:List EP->Nat->(Nat->Y)->E_->E_
 |[],_,_,a=>a
 |o::l,i,x,a=>EM l (i+1) x (a.put o.dst (x i))
def Ub(l:List EP):List Tmp:=l.filterMap (·.dst)
theorem P2(d:Option Tmp)(v:Y): ∀(l:List EP) (i:Nat) (x:Nat->Y) (a:E_),(∀t,d=D t->t∉Ub l)->(EM l i x a).put d v=EM l i x (a.put d v)
 |[],_,_,_,_=>rfl
 |o::l,i,x,a,h=>by unfold EM;rw[P2 d v l (i+1) x _ (fun t ht hm=>h t ht (by unfold Ub at*;simp only[nE] at*;obtain⟨o',h1,h2⟩:=hm;exact⟨o',XU _ h1,h2⟩))];rw[Act.put_comm a (x:=o.dst) (y:=d) (x i) v];intro t ht e;refine h t e ?_;unfold Ub;exact nE.2 ⟨o,dq,ht⟩
theorem zx: ∀(l:List EP) (i:Nat) (x y:Nat->Y) (a:E_),(∀j,i<=j->x j=y j)->EM l i x a=EM l i y a
 |[],_,_,_,_,_=>rfl
 |o::l,i,x,y,a,h=>by unfold EM;rw[h i (E3 _)];exact zx l (i+1) x y _ fun j hj=>h j U
theorem EOh(a:E_)(d:Option Tmp)(Y3 v:Y):(a.put d Y3).put d v=a.put d v:=by
 cases d with
 |none=>rfl
 |some t=>simp[Ih]
theorem sO: ∀(l:List EP) (i k:Nat) (x:Nat->Y) (a:E_) (o:EP) (v:Y),(Ub l).Nodup->l[k]?=D o->(EM l i x a).put o.dst v=EM l i (Ow x (i+k) v) a
 |[],_,_,_,_,_,_,_,h=>sU
 |p::l,i,0,x,a,o,v,hn,h=>by simp at h;subst h;unfold EM;rw[show Ow x (i+0) v i=v from m0 x i v,zx l (i+1) (Ow x (i+0) v) x _ (fun j hj=>pJ _ _ _ _ U)];rw[P2 p.dst v l (i+1) x _ ?_,EOh];intro t ht hm;unfold Ub at hn;rw[List.filterMap_cons,ht] at hn;exact(nI.1 hn).1 hm
 |p::l,i,k+1,x,a,o,v,hn,h=>by
  unfold EM
  have hn':(Ub l).Nodup:=by
   unfold Ub at*;rw[List.filterMap_cons] at hn;cases hp:p.dst with
   |none=>rw[hp] at hn;exact hn
   |some t=>rw[hp] at hn;exact(nI.1 hn).2
  rw[sO l (i+1) k x _ o v hn' Ov,pJ _ _ _ _ (show i≠i+(k+1) from U),show i+1+k=i+(k+1) from U]
def held(l:List EP)(a:E_):Nat->Y:=fun i=>match l[i]? with
 |some o=>(match o.dst with|some d=>a.tmps.getD d I6|none=>I6)
 |none=>I6
theorem pO(a:E_): ∀(l:List EP) (i:Nat) (x:Nat->Y),(∀k o,l[k]?=D o-> ∀d,o.dst=D d->x (i+k)=a.tmps.getD d I6)->EM l i x a=a
 |[],_,_,_=>rfl
 |o::l,i,x,h=>by
  unfold EM
  have e:a.put o.dst (x i)=a:=by
   cases hd:o.dst with
   |none=>rfl
   |some d=>
    have:=h 0 o O d hd;rw[Nat.add_zero] at this;rw[this];simp only[Ih];congr 1;apply Array.ext;·simp
    ·intro j h1 h2;by_cases hj:d=j;·subst hj;simp[h2]
     ·rw[Array.getElem_setIfInBounds_ne h2 hj]
  rw[e];exact pO a l (i+1) x fun k o' ho d hd=>by have:=h (k+1) o' zy d hd;rw[<-this];congr 1;omega
def sX(R:Nat->Y->M->Prop)(o:EP)(x:Nat->Y)(w:M):Prop:= ∀e∈o.after,UN .any e=EJ->R e.on (x e.on) w
def zA(P:Jq)(ops:Array EP)(Q:UM->E_->M->Prop)(W:M)(F:(Nat->Y)->E_)(R:Nat->Y->M->Prop):Nat->List EP->Prop
 |_,[]=>True
 |i,o::l=>(∀x w,El W w->sX R o x w->P1 P ops Q F R i o x w)/\zA P ops Q W F R (i+1) l
theorem zA.at{W:M}{F:(Nat->Y)->E_}{R:Nat->Y->M->Prop}: ∀(l:List EP) (i:Nat),zA P ops Q W F R i l-> ∀k o,l[k]?=D o-> ∀x w,El W w->sX R o x w->P1 P ops Q F R (i+k) o x w
 |[],_,_,_,_,h=>sU
 |p::l,i,hs,0,o,h=>by simp at h;subst h;exact hs.1
 |p::l,i,hs,k+1,o,h=>by have:=zA.at l (i+1) hs.2 k o Ov;rw[show i+(k+1)=i+1+k from U];exact this
end
section
variable{P:Program}{ops:Array Oper}{Q:Exit->Act->World->Prop}{C:World->Prop}
def sZ(l:List EP)(ops:Array EP):Bool:=
 l.all fun o=>(U4 l.length).all fun j=>match l[j]? with
  |none=>EJ
  |some p=>(o.after.any fun e=>UN .any e&&e.on==j)||(match p.dst with|some d=> !(o.looksAt ops).contains d|none=>true)
theorem EOi(h:sZ l ops=EJ){o p:EP}(ho:o∈l)(hp:l[j]?=D p): (∃e∈o.after,UN .any e=EJ/\e.on=j)\/(∀d,p.dst=D d->d∉o.looksAt ops):=by
 have h1:=Xw.1 h o ho;have hj:=(Xx.1 hp).1;have h2:=Xw.1 h1 j (bX.2 hj);simp only[hp,nJ] at h2;rcases h2 with h2|h2;·left;obtain⟨e,he,hb⟩:=Array.any_eq_true'.1 h2;simp only[Oj,beq_iff_eq] at hb;exact⟨e,he,hb.1,hb.2⟩
 ·right;intro d hd;rw[hd] at h2;simpa using h2
def mix(x y:Nat->Y)(k:Nat):Nat->Y:=fun j=>if j<k then y j else x j
theorem EOj(x y:Nat->Y):mix x y 0=x:=by funext j;simp[mix]
theorem P4(x y:Nat->Y)(k:Nat):mix x y (k+1)=Ow (mix x y k) k (y k):=by
 funext j;unfold mix Ow;by_cases h:j=k;·subst h;simp
 ·rw[if_neg h];by_cases h2:j<k;·simp[h2,show j<k+1 from U]
  ·simp[h2,show¬j<k+1 from U]
theorem EOk(hnd:(Ub l).Nodup)(hap:sZ l ops=EJ)(hsel:Region.noSelect l.toArray=EJ){o:EP}(ho:o∈l)(x y:Nat->Y)(a:E_) (hd: ∀e∈o.after,UN .any e=EJ->x e.on=y e.on): ∀k,k<=l.length-> Ig (EM l 0 (mix x y k) a).eval o=Ig (EM l 0 x a).eval o/\JO o (Jg ops (EM l 0 (mix x y k) a).tmps)=JO o (Jg ops (EM l 0 x a).tmps):=by
 intro k;induction k with
 |zero=>intro _;rw[EOj];exact⟨O,O⟩
 |succ k ih=>
  intro hk;have ih:=ih U;have hp:l[k]?=D l[k]:=JV U;rcases EOi hap ho hp with⟨e,he,hb,heq⟩|h
  ·have e1:mix x y (k+1)=mix x y k:=by
    rw[P4];funext j;unfold Ow;split;·rename_i h;subst h;have:=hd e he hb;rw[heq] at this;simp[mix,this]
    ·rfl
   rw[e1];exact ih
  ·have e1:EM l 0 (mix x y (k+1)) a=(EM l 0 (mix x y k) a).put l[k].dst (y k):=by rw[P4,sO l 0 k _ a l[k] (y k) hnd hp,Ox]
   have hs: ∀cs b,o.op≠ .select cs b:=by obtain⟨i,hi⟩:=gO.1 ho;exact fun cs b=>Region.noSelect_spec hsel i o cs b U5
   rw[e1,execOp_put o hs _ _ _ h,wanted_put o _ _ _ h];exact ih
theorem sb: ∀(l:List EP) (i:Nat) (x y:Nat->Y) (a:E_),(∀j,i<=j->j<i+l.length->x j=y j)->EM l i x a=EM l i y a
 |[],_,_,_,_,_=>rfl
 |o::l,i,x,y,a,h=>by unfold EM;rw[h i (E3 _) Ej];exact sb l (i+1) x y _ fun j hj hl=>h j U I8
theorem Gk: ∀(l1 l2:List EP) (i:Nat) (x:Nat->Y) (a:E_),EM (l1++l2) i x a=EM l2 (i+l1.length) x (EM l1 i x a)
 |[],_,_,_,_=>rfl
 |o::l1,l2,i,x,a=>by rw[ku];unfold EM;rw[Gk l1 l2 (i+1) x _,show i+(o::l1).length=i+1+l1.length from I8];cases l2<;>rfl
theorem Gl: ∀(l:List EP) (i:Nat) (x:Nat->Y) (a:E_) (d:Tmp),d∉Ub l->(EM l i x a).tmps.getD d I6=a.tmps.getD d I6
 |[],_,_,_,_,_=>rfl
 |o::l,i,x,a,d,h=>by
  unfold EM;have h2:d∉Ub l:=fun hm=>h (by unfold Ub at*;simp only[nE] at*;obtain⟨o',h1,h2⟩:=hm;exact⟨o',XU _ h1,h2⟩);rw[Gl l (i+1) x _ d h2];cases ho:o.dst with
  |none=>rfl
  |some t=> have hne:t≠d:=fun e=>h (by subst e;unfold Ub;exact nE.2 ⟨o,dq,ho⟩);simp only[Ih,Array.getD_eq_getD_getElem?];rw[Array.getElem?_setIfInBounds_ne hne]
theorem P5(hn:(Ub l).Nodup){p:EP}{d:Tmp}(hp:l[k+j]?=D p)(hd:p.dst=D d):d∉Ub (l.take k):=by
 have hs:l=l.take k++l.drop k:=(iU k l).symm
 have hds:Ub l=Ub (l.take k)++Ub (l.drop k):=by
  conv=>lhs;rw[hs]
  unfold Ub;rw[List.filterMap_append]
 rw[hds,List.nodup_append] at hn;intro hm;have hm2:d∈Ub (l.drop k):=by unfold Ub;refine nE.2 ⟨p,gO.2 ⟨j,?_⟩,hd⟩;rw[List.getElem?_drop];exact hp
 exact hn.2.2 d hm d hm2 O
theorem zB{n:Nat}(h:j<(b_ n EI).size):(b_ n EI).getD j EJ=EI:=by have:j<n:=Ov;simp[this]
theorem P6(hnd:(Ub l).Nodup)(hap:sZ l ops=EJ)(hsel:Region.noSelect l.toArray=EJ){o:EP}(ho:o∈l)(x y:Nat->Y)(a:E_) (hd: ∀e∈o.after,UN .any e=EJ->x e.on=y e.on): Ig (EM l 0 y a).eval o=Ig (EM l 0 x a).eval o/\JO o (Jg ops (EM l 0 y a).tmps)=JO o (Jg ops (EM l 0 x a).tmps):=by
 have h:=EOk hnd hap hsel ho x y a hd l.length (E3 _);have e:EM l 0 (mix x y l.length) a=EM l 0 y a:=sb l 0 _ _ a fun j _ hj=>by simp[mix,show j<l.length from U]
 rw[e] at h;exact h
theorem Gm{K:E_->Prop}: ∀(l:List EP) (i:Nat) (a:E_),wpQuiet P ops C K l a-> ∃y:Nat->Y,(∀k o,l[k]?=D o->YieldsIn P ops C o (y (i+k)) (EM (l.take k) i y a))/\K (EM l i y a)
 |[],_,_,h=>⟨fun _=>I6,fun k o ho=>by simp at ho,h⟩
 |o::l,i,a,h=>by
  have hv: ∃v,YieldsIn P ops C o v a/\wpQuiet P ops C K l (a.put o.dst v):=by
   unfold wpQuiet at h;by_cases hw:JO o (Jg ops a.tmps)=EJ;·rw[if_pos hw] at h;obtain⟨v,h1,h2⟩:=h;exact⟨v,.inl ⟨hw,h1⟩,h2⟩
   ·rw[if_neg hw] at h;exact⟨I6,.inr ⟨by simpa using hw,O⟩,h⟩
  obtain⟨v,hy,hK⟩:=hv;obtain⟨y,h1,h2⟩:=Gm l (i+1) _ hK;have e: ∀j,i+1<=j->Ow y i v j=y j:=fun j hj=>pJ _ _ _ _ U;refine⟨Ow y i v,fun k p hp=> ?_,?_⟩
  ·cases k with
   |zero=> simp at hp;subst hp;rw[Nat.add_zero,m0];exact hy
   |succ k=> have:=h1 k p kw;rw[show i+(k+1)=i+1+k from U,e _ U];rw[Is];unfold EM;rw[m0,zx _ (i+1) (Ow y i v) y _ e];exact this
  ·unfold EM;rw[m0,zx _ (i+1) (Ow y i v) y _ e];exact h2
def kx(ops:Array EP)(m:Nat):Bool:=
 (U4 ops.size).all fun i=>match ops[i]? with
  |none=>EI
  |some o=>o.after.all (fun e=>decide (e.on<i))&&(decide (i<m)||(U4 i).all fun j=>(U4 (i+1)).any fun k=>decide (j<k)&&match ops[k]? with
   |some p=>p.after.any fun e=>UN .any e&&e.on==j
   |none=>EI)
theorem pU{m:Nat}(h:kx ops m=EJ){o:EP}(ho:ops[i]?=D o):(∀e∈o.after,e.on<i)/\(m<=i-> ∀j,j<i-> ∃k p,j<k/\k<=i/\ops[k]?=D p/\ ∃e∈p.after,UN .any e=EJ/\e.on=j):=by
 have hi:=(J3.1 ho).1;have h1:=Xw.1 h i (bX.2 hi);simp only[ho,Oj,nJ,decide_eq_true_eq] at h1;refine⟨fun e he=> ?_,fun hm j hj=> ?_⟩;·exact ErL
 ·rcases h1.2 with h2|h2;·omega
  ·have h3:=Xw.1 h2 j (bX.2 hj);obtain⟨k,hk,hk2⟩:=List.any_eq_true.1 h3;have hk1:=bX.1 hk;simp only[Oj,decide_eq_true_eq] at hk2;obtain⟨hjk,hk3⟩:=hk2;cases hp:ops[k]? with
   |none=>rw[hp] at hk3;cases hk3
   |some p=> rw[hp] at hk3;obtain⟨e,he,hb⟩:=Array.any_eq_true'.1 hk3;simp only[Oj,beq_iff_eq] at hb;exact⟨k,p,hjk,U,hp,e,he,hb.1,hb.2⟩
def fa(ops:Array EP)(listed:Array Bool):Prop:= ∀j o,ops[j]?=D o->listed.getD j EJ=EJ-> ∀e∈o.after,UN .any e=EJ->listed.getD e.on EJ=EJ
theorem Gn{m:Nat}(hB:kx ops m=EJ)(hs:listed.size=ops.size)(hc:fa ops listed)(hi:i∈ky .any ops listed)(hm:m<=i): ∀j,j<i->listed.getD j EJ=EJ:=by
 obtain⟨h1,o,ho,hall⟩:=ZR.1 hi;have hin:=(J3.1 ho).1
 have key: ∀d j,i-j=d->j<i->listed.getD j EJ=EJ:=by
  intro d;induction d using Nat.strongRecOn with
  |ind d ih=>
   intro j hd hj;obtain⟨k,p,hjk,hki,hp,e,he,hb,heq⟩:=(pU hB ho).2 hm j hj;by_cases h:k=i;·subst h;have:p=o:=fb (hp.symm.trans ho);subst this;have h3:=hall e he hb;rw[heq] at h3;have h5:j<listed.size:=U;simpa[h5] using h3
   ·exact Eq0
 exact fun j hj=>key _ j O hj
theorem fa.set(hs:listed.size=ops.size)(hc:fa ops listed)(hi:i∈ky .any ops listed):fa ops (listed.setIfInBounds i EJ):=by
 obtain⟨h1,o,ho,hall⟩:=ZR.1 hi;have hin:=(J3.1 ho).1
 have up: ∀j,listed.getD j EJ=EJ->(listed.setIfInBounds i EJ).getD j EJ=EJ:=by
  intro j hj;by_cases e:i=j;·subst e;exact EpC
  ·rw[aq EJ e];exact hj
 intro j p hp hl e he hb;by_cases hji:i=j
 ·subst hji;have:p=o:=fb (hp.symm.trans ho);subst this;have h3:=hall e he hb;refine up _ ?_;rcases JW e.on listed.size with h|h;·simpa[h] using h3
  ·simp[h]
 ·rw[aq EJ hji] at hl;exact up _ (hc j p hp hl e he hb)
theorem zC{m:Nat}(hB:kx ops m=EJ): ∀(fuel k:Nat) (listed:Array Bool) (a:E_) (w:M),m<=k->k<=ops.size->ops.size-k<=fuel->listed.size=ops.size-> (∀j,j<ops.size->listed.getD j EJ=decide (j<k))->fa ops listed->Ib P ops Q (ops.toList.drop k) a w->wpAny P .any ops Q fuel listed a w:=by
 intro fuel;induction fuel with
 |zero=> intro k listed a w hm hk hf hs hl hc h;have hkn:k=ops.size:=U;subst hkn;rw[List.drop_of_length_le Ej] at h;refine wpAny_done ?_ h 0;rw[List.eq_nil_iff_forall_not_mem];intro j hj;obtain⟨h1,o,ho,-⟩:=ZR.1 hj;have hjn:=(J3.1 ho).1;rw[hl j hjn] at h1;simp at h1;omega
 |succ fuel ih=>
  intro k listed a w hm hk hf hs hl hc h;rcases JW k ops.size with hlt|hge
  ·have ho:ops[k]?=D ops[k]:=kA hlt;have hd:ops.toList.drop k=ops[k]::ops.toList.drop (k+1):=by rw[nO (by simpa using hlt)];simp
   rw[hd] at h;have hmem:k∈ky .any ops listed:=by refine ZR.2 ⟨by rw[hl k hlt];simp,_,ho,fun e he _=> ?_⟩;have h1:=(pU hB ho).1 e he;exact EqZ
   refine⟨fun h0=>(by rw[h0] at hmem;cases hmem),fun i hi=> ?_⟩;obtain⟨h1,o,hoi,hall⟩:=ZR.1 hi;have hin:=(J3.1 hoi).1;have hki:k<=i:=by rw[hl i hin] at h1;simp at h1;exact h1
   have hik:i=k:=by
    rcases JW k i with h2|h2;·have h3:=Gn hB hs hc hi U k h2;rw[hl k hlt] at h3;simp at h3
    ·omega
   subst hik;refine wpOp_mono (fun a' w' h'=>ih (i+1) (listed.setIfInBounds i EJ) a' w' U U U pX (fun j hj=> ?_) (hc.set hs hi) h') (EOg ho _ a w h);by_cases e:i=j;·subst e;exact EpC
   ·exact Erk
  ·have hkn:k=ops.size:=U;subst hkn;rw[List.drop_of_length_le Ej] at h;refine wpAny_done ?_ h _;exact Epb
theorem EOl{m:Nat}(hB:kx ops m=EJ)(hmn:m<=ops.size){y:Nat->Y} (hF: ∀i o x v,i<m->ops[i]?=D o->(F x).put o.dst v=F (Ow x i v)) (hstep: ∀i o x,i<m->ops[i]?=D o->(∀e∈o.after,UN .any e=EJ->x e.on=y e.on)->YieldsIn P ops C o (y i) (F x)) (hend: ∀x w,C w->(∀i,i<m->x i=y i)->Ib P ops Q (ops.toList.drop m) (F x) w): ∀(fuel:Nat) (listed:Array Bool) (x:Nat->Y) (w:M),(XH ops listed).length<=fuel->listed.size=ops.size->(∀j,m<=j->j<ops.size->listed.getD j EJ=EI)->fa ops listed->C w-> (∀i,i<m->listed.getD i EJ=EJ->x i=y i)->wpAny P .any ops Q fuel listed (F x) w:=by
 intro fuel;induction fuel with
 |zero=>
  intro listed x w hf hs ht hc hb hr
  have hall: ∀j,j<ops.size->listed.getD j EJ=EJ:=by
   intro j hj;cases hc:listed.getD j EJ;·exact Eow
   ·rfl
  have hm:m=ops.size:=by
   rcases JW m ops.size with h|h;·exact Ep1
   ·omega
  refine zC hB 0 m listed _ w (E3 _) hmn U hs (fun j hj=>by rw[hall j hj,IJ U]) hc (hend x w hb fun i hi=>hr i hi (hall i U))
 |succ fuel ih=>
  intro listed x w hf hs ht hc hb hr;by_cases hall: ∀j,j<m->listed.getD j EJ=EJ
  ·have hlen:ops.size-m<=fuel+1:=by
    have hsub:(List.range' m (ops.size-m)).length<=(XH ops listed).length:=by
     apply List.Nodup.length_le_of_subset;·exact List.nodup_range'
     ·exact EoB
    simp at hsub;omega
   refine zC hB (fuel+1) m listed _ w (E3 _) hmn hlen hs (fun j hj=> ?_) hc (hend x w hb fun i hi=>hr i hi (hall i hi));rcases JW j m with h|h;·rw[hall j h,IJ h]
   ·rw[ht j h hj,IZ U]
  ·refine⟨fun h0=> ?_,fun i hi=> ?_⟩
   ·exfalso
    have hex: ∃j,j<m/\listed.getD j EJ=EI:=by
     apply sd;intro hno
     exact hall fun j hj=>by
      cases hc:listed.getD j EJ;·exact Erb
      ·rfl
    have hmin: ∃j,(j<m/\listed.getD j EJ=EI)/\ ∀k,k<j-> ¬(k<m/\listed.getD k EJ=EI):=by
     obtain⟨j,hj⟩:=hex;induction j using Nat.strongRecOn with
     |ind j pZ=>
      by_cases h: ∃k,k<j/\(k<m/\listed.getD k EJ=EI);·exact EpD
      ·exact Epn
    obtain⟨j,⟨hjm,hj⟩,hlt⟩:=hmin;have hjn:j<ops.size:=U;have ho:ops[j]?=D ops[j]:=kA hjn
    have:j∈ky .any ops listed:=by
     refine ZR.2 ⟨hj,_,ho,fun e he _=> ?_⟩;have h1:=(pU hB ho).1 e he;have h2:=hlt e.on h1;have h3:e.on<listed.size:=U;cases hc:listed.getD e.on EJ;·exact absurd ⟨U,hc⟩ h2
     ·simpa[h3] using hc
    rw[h0] at this;cases this
   ·obtain⟨h1,o,ho,pd⟩:=ZR.1 hi;have hin:=(J3.1 ho).1;have him:i<m:=by apply sd;intro hge;apply hall;intro j hj;exact Gn hB hs hc hi U j U
    have hdr: ∀e∈o.after,UN .any e=EJ->x e.on=y e.on:=by exact Epx
    have st:=hstep i o x him ho hdr;refine wpOp_of_qOp (C:=C) (K:=fun a'=>a'=F (Ow x i (y i))) hb (fun a' w' hw' ha'=> ?_) (st.qOp ho ?_)
    ·subst ha';have hlt:=uC hs hin h1;refine ih _ _ w' U pX (fun j hj hjn=> ?_) (hc.set hs hi) hw' (fun j hj hl=> ?_);·rw[aq EJ U];exact ht j hj hjn
     ·by_cases hji:j=i;·subst hji;rw[m0]
      ·exact Eqv
    ·exact hF i o x (y i) him ho
theorem P7{a0:E_}(m:Nat)(hm:P.follows .mixedOrders=EJ)(hB:kx l.toArray m=EJ)(hmn:m<=l.length)(hsel:Region.noSelect (l.take m).toArray=EJ)(hnd:(Ub (l.take m)).Nodup)(hap:sZ (l.take m) l.toArray=EJ) (hC:C w0.drew) (h:wpQuiet P l.toArray C (fun a'=> ∀w',C w'->Ib P l.toArray Q (l.drop m) a' w') (l.take m) a0):(bU id l.toArray EJ).wp P Q a0 w0:=by
 obtain⟨y,hy,hK⟩:=Gm (l.take m) 0 a0 h;have htk: ∀i o,i<m->l.toArray[i]?=D o->(l.take m)[i]?=D o:=fun i o hi ho=>by exact EqE
 have hlen:(l.take m).length=m:=mR;have uD:EM (l.take m) 0 (held (l.take m) a0) a0=a0:=pO a0 _ 0 _ (fun k o ho d hd=>by unfold held;rw[Ox,ho];simp only[hd]);refine wp_region_any hm ?_;have key:=EOl (P:=P) (Q:=Q) (C:=C) (ops:=l.toArray) (F:=fun x=>EM (l.take m) 0 x a0) (y:=y) hB Gp ?_ ?_ ?_ l.toArray.size (b_ l.toArray.size EI) (held (l.take m) a0) w0.drew ?_ Ej (fun j hj hjn=>zB (by simpa using hjn)) ?_ hC (fun i hi h=> ?_);·simp only[uD] at key;exact key
 ·intro i o x v hi ho;exact Eo5
 ·intro i o x hi ho hd;have hi':=htk i o hi ho;have h1:=hy i o hi';rw[Ox] at h1
  have e1:EM ((l.take m).take i) 0 y a0=EM (l.take m) 0 (mix (held (l.take m) a0) y i) a0:=by
   have e2:EM (l.take m) 0 (mix (held (l.take m) a0) y i) a0=EM ((l.take m).drop i) i (mix (held (l.take m) a0) y i) (EM ((l.take m).take i) 0 (mix (held (l.take m) a0) y i) a0):=by exact Epf
   have e3:EM ((l.take m).take i) 0 (mix (held (l.take m) a0) y i) a0=EM ((l.take m).take i) 0 y a0:=sb _ 0 _ _ _ fun j _ hj=>by have:j<i:=zF;simp[mix,this]
   rw[e2,e3];refine(pO _ _ _ _ fun k p hp d hd=> ?_).symm;have hk:(l.take m)[i+k]?=D p:=kw;have hkm:i+k<m:=P8;show mix (held (l.take m) a0) y i (i+k)=_;have e5:mix (held (l.take m) a0) y i (i+k)=a0.tmps.getD d I6:=by exact ErU
   rw[e5];exact Eqs
  rw[e1] at h1;have deps: ∀e∈o.after,UN .any e=EJ->x e.on=mix (held (l.take m) a0) y i e.on:=by intro e he hb;have:=(pU hB ho).1 e he;rw[hd e he hb];simp[mix,this]
  obtain⟨s1,s2⟩:=P6 (ops:=l.toArray) hnd hap hsel (gO.2 ⟨i,hi'⟩) (mix (held (l.take m) a0) y i) x a0 (fun e he hb=>(deps e he hb).symm);exact h1.of_same s1 s2
 ·exact Eo_
 ·exact Epu
 ·intro j o ho hl;have hj:=(J3.1 ho).1;rw[zB (by simpa using hj)] at hl;cases hl
 ·have:i<l.length:=U;simp[this] at h
theorem fc{o:EP}{ops:Array EP}(h:o.guard=D (j,want))(hd:(ops[j]?).bind (·.dst)=D d)(hv:tmps[d]?=D (Ec want)):JO o (Jg ops tmps)=EJ:=by unfold JO Jg;simp[h,hd,hv]
def zG(l:List EP)(m:Nat):Bool:=kx l.toArray m&&decide (m<=l.length)&&Region.noSelect (l.take m).toArray&&decide (Ub (l.take m)).Nodup&&sZ (l.take m) l.toArray
theorem uF{a0:E_}(m:Nat)(hm:P.follows .mixedOrders=EJ)(hB:zG l m=EJ) (h:wpQuiet P l.toArray (fun w'=> ∃n,w'=w0.drewN n) (fun a'=> ∀w',(∃n,w'=w0.drewN n)->Ib P l.toArray Q (l.drop m) a' w') (l.take m) a0):(bU id l.toArray EJ).wp P Q a0 w0:=by simp only[zG,Oj,decide_eq_true_eq] at hB;obtain⟨⟨⟨⟨h1,h2⟩,h3⟩,h4⟩,h5⟩:=hB;exact P7 m hm h1 h2 h3 h4 h5 ⟨1,O⟩ h
theorem Oa{a0:E_}(m:Nat)(hm:P.follows .mixedOrders=EJ)(hB:zG l m=EJ) (h:wpQuiet P l.toArray (fun w'=> ∃x,w'=EC w0 x) (fun a'=> ∀w',(∃x,w'=EC w0 x)->Ib P l.toArray Q (l.drop m) a' w') (l.take m) a0):(bU id l.toArray EJ).wp P Q a0 w0:=by simp only[zG,Oj,decide_eq_true_eq] at hB;obtain⟨⟨⟨⟨h1,h2⟩,h3⟩,h4⟩,h5⟩:=hB;exact P7 m hm h1 h2 h3 h4 h5 ⟨⟨_,Jn w0⟩,O⟩ h
end
def Kept(Rel:M->M->Prop):Prop:=(∀w,Rel w w)/\(∀a b c,Rel a b->Rel b c->Rel a c)/\ ∀w:M,Rel w w.drew
section
variable{P:Program}{ops:Array Oper}{Q:Exit->Act->World->Prop}
@[irreducible] def fd(Rel:M->M->Prop)(P:Jq)(ops:Array EP)(Q:UM->E_->M->Prop)(F:(Nat->Y)->E_)(R:Nat->Y->M->Prop)(i:Nat)(o:EP)(x:Nat->Y)(w:M):Prop:=
 if JO o (Jg ops (F x).tmps) then o.wp P (F x) w (fun a' w'=> ∃v,a'=(F x).put o.dst v/\Rel w w'/\R i v w') Q
 else R i I6 w
theorem EOm{Rel:M->M->Prop}(hT:Kept Rel){m:Nat}(hB:kx ops m=EJ)(hmn:m<=ops.size){R:Nat->Y->M->Prop} (hF: ∀i o x v,i<m->ops[i]?=D o->(F x).put o.dst v=F (Ow x i v)) (hR: ∀i v w w',i<m->R i v w->Rel w w'->R i v w') (hstep: ∀i o x w,i<m->ops[i]?=D o->Rel W w->(∀e∈o.after,UN .any e=EJ->R e.on (x e.on) w)->fd Rel P ops Q F R i o x w) (hend: ∀x w,Rel W w->(∀i,i<m->R i (x i) w)->Ib P ops Q (ops.toList.drop m) (F x) w): ∀(fuel:Nat) (listed:Array Bool) (x:Nat->Y) (w:M),(XH ops listed).length<=fuel->listed.size=ops.size->fa ops listed->(∀j,m<=j->j<ops.size->listed.getD j EJ=EI)->Rel W w-> (∀i,i<m->listed.getD i EJ=EJ->R i (x i) w)->wpAny P .any ops Q fuel listed (F x) w:=by
 intro fuel;induction fuel with
 |zero=>
  intro listed x w hf hs hcl ht hb hr
  have hall: ∀j,j<ops.size->listed.getD j EJ=EJ:=by
   intro j hj;cases hc:listed.getD j EJ;·exact Eow
   ·rfl
  have hm:m=ops.size:=by
   rcases JW m ops.size with h|h;·exact Ep1
   ·omega
  refine zC hB 0 m listed _ w (E3 _) hmn U hs (fun j hj=>by rw[hall j hj,IJ U]) hcl (hend x w hb fun i hi=>hr i hi (hall i U))
 |succ fuel ih=>
  intro listed x w hf hs hcl ht hb hr;by_cases hall: ∀j,j<m->listed.getD j EJ=EJ
  ·have hlen:ops.size-m<=fuel+1:=by
    have hsub:(List.range' m (ops.size-m)).length<=(XH ops listed).length:=by
     apply List.Nodup.length_le_of_subset;·exact List.nodup_range'
     ·exact EoB
    simp at hsub;omega
   refine zC hB (fuel+1) m listed _ w (E3 _) hmn hlen hs (fun j hj=> ?_) hcl (hend x w hb fun i hi=>hr i hi (hall i hi));rcases JW j m with h|h;·rw[hall j h,IJ h]
   ·rw[ht j h hj,IZ U]
  ·refine⟨fun h0=> ?_,fun i hi=> ?_⟩
   ·
     exfalso
     have hex: ∃j,j<m/\listed.getD j EJ=EI:=by
      apply sd;intro hno
      exact hall fun j hj=>by
       cases hc:listed.getD j EJ;·exact Erb
       ·rfl
     have hmin: ∃j,(j<m/\listed.getD j EJ=EI)/\ ∀k,k<j-> ¬(k<m/\listed.getD k EJ=EI):=by
      obtain⟨j,hj⟩:=hex;induction j using Nat.strongRecOn with
      |ind j pZ=>
       by_cases h: ∃k,k<j/\(k<m/\listed.getD k EJ=EI);·exact EpD
       ·exact Epn
     obtain⟨j,⟨hjm,hj⟩,hlt⟩:=hmin;have hjn:j<ops.size:=U;have ho:ops[j]?=D ops[j]:=kA hjn
     have:j∈ky .any ops listed:=by
      refine ZR.2 ⟨hj,_,ho,fun e he _=> ?_⟩;have h1:=(pU hB ho).1 e he;have h2:=hlt e.on h1;have h3:e.on<listed.size:=U;cases hc:listed.getD e.on EJ;·exact absurd ⟨U,hc⟩ h2
      ·simpa[h3] using hc
     rw[h0] at this;cases this
   ·obtain⟨h1,o,ho,pd⟩:=ZR.1 hi;have hin:=(J3.1 ho).1;have him:i<m:=by apply sd;intro hge;apply hall;intro j hj;exact Gn hB hs hcl hi U j U
    have hdr: ∀e∈o.after,UN .any e=EJ->R e.on (x e.on) w:=by exact Epx
    have st:=hstep i o x w him ho hb hdr
    have next: ∀v w',Rel w w'->R i v w'->wpAny P .any ops Q fuel (listed.setIfInBounds i EJ) ((F x).put o.dst v) w':=by
     intro v w' hb' hv;rw[hF i o x v him ho];have hlt:=uC hs hin h1;refine ih _ _ w' U pX (hcl.set hs hi) (fun j hj hjn=> ?_) (hT.2.1 _ _ _ hb hb') (fun j hj hl=> ?_);·rw[aq EJ U];exact ht j hj hjn
     ·by_cases hji:j=i;·subst hji;rw[m0];exact hv
      ·rw[pJ _ _ _ _ hji];rw[aq EJ (fun e=>hji e.symm)] at hl;exact hR j _ w w' hj (hr j hj hl) hb'
    unfold wpOp;simp only[ho];unfold fd at st;split;·rename_i hw;rw[if_pos hw] at st;refine .inl (Oper.wp_mono (fun a' w' h'=> ?_) st);obtain⟨v,rfl,hb',hv⟩:=h';exact next v w' hb' hv
    ·rename_i hw;rw[if_neg hw] at st;exact next I6 w (hT.1 _) st
theorem EOn{Rel:M->M->Prop}(hT:Kept Rel){a0:E_}(hm:P.follows .mixedOrders=EJ)(m:Nat)(hB:kx ops m=EJ)(hmn:m<=ops.size)(F:(Nat->Y)->E_)(R:Nat->Y->M->Prop)(x0:Nat->Y)(zH:a0=F x0) (hF: ∀i o x v,i<m->ops[i]?=D o->(F x).put o.dst v=F (Ow x i v)) (hR: ∀i v w w',i<m->R i v w->Rel w w'->R i v w') (hstep: ∀i o x w,i<m->ops[i]?=D o->Rel w0 w->(∀e∈o.after,UN .any e=EJ->R e.on (x e.on) w)->fd Rel P ops Q F R i o x w) (hend: ∀x w,Rel w0 w->(∀i,i<m->R i (x i) w)->Ib P ops Q (ops.toList.drop m) (F x) w):(bU id ops EJ).wp P Q a0 w0:=by
 subst zH;refine wp_region_any hm (EOm hT hB hmn hF hR hstep hend _ _ x0 _ ?_ Ej (fun j o _ h=>by by_cases hj:j<ops.size;(·simp[hj] at h);(·rename_i ho;exact absurd (J3.1 ho).1 hj)) (fun j hj hjn=>by simp[hjn]) (hT.2.2 w0) (fun i hi h=> ?_));·have:=List.length_filter_le (fun i=> !(b_ ops.size EI).getD i EJ) (U4 ops.size);simpa[XH] using this
 ·have:i<ops.size:=U;simp[this] at h
def Xl(Rel:M->M->Prop)(P:Jq)(ops:Array EP)(Q:UM->E_->M->Prop)(W:M)(F:(Nat->Y)->E_)(R:Nat->Y->M->Prop):Nat->List EP->Prop
 |_,[]=>True
 |i,o::l=>(∀x w,Rel W w->sX R o x w->fd Rel P ops Q F R i o x w)/\Xl Rel P ops Q W F R (i+1) l
theorem Xl.at{Rel:M->M->Prop}{W:M}{F:(Nat->Y)->E_}{R:Nat->Y->M->Prop}: ∀(l:List EP) (i:Nat),Xl Rel P ops Q W F R i l-> ∀k o,l[k]?=D o-> ∀x w,Rel W w->sX R o x w->fd Rel P ops Q F R (i+k) o x w
 |[],_,_,_,_,h=>sU
 |p::l,i,hs,0,o,h=>by simp at h;subst h;exact hs.1
 |p::l,i,hs,k+1,o,h=>by have:=Xl.at l (i+1) hs.2 k o Ov;rw[show i+(k+1)=i+1+k from U];exact this
theorem ZV{Rel:M->M->Prop}(hT:Kept Rel){a0:E_}(hm:P.follows .mixedOrders=EJ)(m:Nat)(hB:kx l.toArray m=EJ)(hmn:m<=l.length)(hnd:(Ub (l.take m)).Nodup)(R:Nat->Y->M->Prop) (hR: ∀i v w w',i<m->R i v w->Rel w w'->R i v w') (hstep:Xl Rel P l.toArray Q w0 (fun x=>EM (l.take m) 0 x a0) R 0 (l.take m)) (hend: ∀x w,Rel w0 w->(∀i,i<m->R i (x i) w)->Ib P l.toArray Q (l.drop m) (EM (l.take m) 0 x a0) w):(bU id l.toArray EJ).wp P Q a0 w0:=by
 have htk: ∀i o,i<m->l.toArray[i]?=D o->(l.take m)[i]?=D o:=fun i o hi ho=>by exact EqE
 refine EOn hT hm m hB Gp (fun x=>EM (l.take m) 0 x a0) R (held (l.take m) a0) (pO a0 _ 0 _ ?_).symm (fun i o x v hi ho=> ?_) hR (fun i o x w hi ho hb hd=> ?_) hend;·intro k o ho d hd;unfold held;rw[Ox,ho];simp only[hd]
 ·exact Eo5
 ·have:=Xl.at _ 0 hstep i o (htk i o hi ho) x w hb hd;exact Eqq
theorem IE{Rel:M->M->Prop}(hT:Kept Rel){R:Nat->Y->M->Prop}{o:EP}{v:Y}(hw:JO o (Jg ops (F x).tmps)=EJ) (hr:(Ig (F x).eval o).run P w= .ok (.value v) w) (h:R i v w):fd Rel P ops Q F R i o x w:=by unfold fd;exact Eq_
theorem Z9{Rel:M->M->Prop}{R:Nat->Y->M->Prop}{o:EP}{v:Y}(hw:JO o (Jg ops (F x).tmps)=EJ) (hr:(Ig (F x).eval o).run P w= .ok (.value v) w') (hb:Rel w w') (h:R i v w'):fd Rel P ops Q F R i o x w:=by unfold fd;exact Erg
theorem J4{Rel:M->M->Prop}{R:Nat->Y->M->Prop}{o:EP}(hw:JO o (Jg ops (F x).tmps)=EJ) (hr:(Ig (F x).eval o).run P w= .ok (.enter f args) w) (hc:Eg P f args w fun e w'=> ∃v,e=Ei v/\Rel w w'/\R i v w'):fd Rel P ops Q F R i o x w:=by unfold fd;exact Eqr
end
inductive KQ where|kq(x:Y)|kp(g i:Nat)
open KQ
@[irreducible] def Ex(p:Prop):Prop:=p
theorem Ex.mk{p:Prop}(h:Ex p):p:=by unfold Ex at h;exact h
theorem Ex.in{p:Prop}(h:p):Ex p:=by unfold Ex;exact h
theorem Es{p:Prop}(h:p):Ex p:=Ex.in h
theorem I4{rest:List EP}{o:EP}{a:E_}(hg:o.guard=Z)(t:EB)(parts:Array (Nat×J5))(ho:o.op= .build t parts) (cells:Array Y) (he:P.built t (parts.toList.map fun(i,x)=>(i,a.eval x))=D cells) (h:Ib P ops Q rest (a.put o.dst (Ea cells)) w):Ib P ops Q (o::rest) a w:=
 wpList_build hg t parts ho (by rw[Array.toList_map,he];rfl) (by rw[Array.toList_map,he];exact h)
theorem Io{a:E_}{x1 x2 x3 x4 x5}(d:Nat)(h:Ib P ops Q (⟨D d,x1,x2,x3,x4,x5⟩::l) a w):Ib P ops Q (⟨D d,x1,x2,x3,x4,x5⟩::l) a w:=h
theorem gdS{a:E_}{x0 x1 x2 x3 x4 x5 x6}(d:Nat)(h:Ib P ops Q (⟨x0,.store d x1 x2,x3,x4,x5,x6⟩::l) a w):Ib P ops Q (⟨x0,.store d x1 x2,x3,x4,x5,x6⟩::l) a w:=h
theorem I3{a:E_}{x0 x1 x2 x3 x4 x5}(d:Nat)(h:Ib P ops Q (⟨x0,.store d x1 x2,x3,x4,x5,Z⟩::l) a w):Ib P ops Q (⟨x0,.store d x1 x2,x3,x4,x5,Z⟩::l) a w:=h
theorem iX{a:E_}{x0 x1 x3 x4 x5 x6}(d:Nat)(h:Ib P ops Q (⟨x0,.load d x1,x3,x4,x5,x6⟩::l) a w):Ib P ops Q (⟨x0,.load d x1,x3,x4,x5,x6⟩::l) a w:=h
theorem Xm{a:E_}{x0 x1 x3 x4 x5}(d:Nat)(h:Ib P ops Q (⟨x0,.load d x1,x3,x4,x5,Z⟩::l) a w):Ib P ops Q (⟨x0,.load d x1,x3,x4,x5,Z⟩::l) a w:=h
theorem JE{a:E_}{x1 x2 x3 x4 x5}(d:Nat)(h:Ex (Ib P ops Q (⟨D d,x1,x2,x3,x4,x5⟩::l) a w)):Ib P ops Q (⟨D d,x1,x2,x3,x4,x5⟩::l) a w:=h.mk
theorem fg{a:E_}{x0 x1 x2 x3 x4 x5 x6}(d:Nat)(h:Ex (Ib P ops Q (⟨x0,.store d x1 x2,x3,x4,x5,x6⟩::l) a w)):Ib P ops Q (⟨x0,.store d x1 x2,x3,x4,x5,x6⟩::l) a w:=h.mk
theorem EOo{a:E_}{x0 x1 x2 x3 x4 x5}(d:Nat)(h:Ex (Ib P ops Q (⟨x0,.store d x1 x2,x3,x4,x5,Z⟩::l) a w)):Ib P ops Q (⟨x0,.store d x1 x2,x3,x4,x5,Z⟩::l) a w:=h.mk
theorem Elw{a:E_}{x0 x1 x3 x4 x5 x6}(d:Nat)(h:Ex (Ib P ops Q (⟨x0,.load d x1,x3,x4,x5,x6⟩::l) a w)):Ib P ops Q (⟨x0,.load d x1,x3,x4,x5,x6⟩::l) a w:=h.mk
theorem P_{a:E_}{x0 x1 x3 x4 x5}(d:Nat)(h:Ex (Ib P ops Q (⟨x0,.load d x1,x3,x4,x5,Z⟩::l) a w)):Ib P ops Q (⟨x0,.load d x1,x3,x4,x5,Z⟩::l) a w:=h.mk
def H(w:M)(g:Nat)(cs:Array Y)(T:EB):Prop:=w.heap[g]?=D (Eb cs T (0,0))
theorem H.B{T:EB}(h:H w g cs T)(hb:El w w'):H w' g cs T:=Xk h hb
theorem EH{T:EB}(h:Ed (H w g cs T))(b:Ij w.heap.size w w'):Ed (H w' g cs T):=J (h.out.B b)
theorem H.lt{T:EB}(h:H w g cs T):g<w.heap.size:=mT h
theorem H.drewN{T:EB}(h:H w g cs T)(n:Nat):H (w.drewN n) g cs T:=h
theorem H.drew{T:EB}(h:H w g cs T):H w.drew g cs T:=h
theorem H.new(w:M)(cs:Array Y)(T:EB):H (w.alloc (Eb cs T)) w.heap.size cs T:=gI w _
theorem QE(w:M)(o:Obj):(w.alloc o).heap.size=w.heap.size+1:=Ej
theorem H.new'(w:M)(cs:Array Y)(T:EB){g:Nat}(h:g=w.heap.size):H (w.alloc (Eb cs T)) g cs T:=by subst h;exact gI w _
theorem H.alloc{T:EB}(h:H w g cs T)(o:Obj):H (w.alloc o) g cs T:=h.B (Er w o)
theorem H.cell{T:EB}(h:H w g cs T)(i:Nat):w.cell? ⟨g,i,Z⟩=cs[i]?:=(Jf h).1 i
theorem H.JZ{T:EB}(h:H w g cs T)(i:Nat):w.frozen? ⟨g,i,Z⟩=EI:=(Jf h).2 i
theorem H.set{T:EB}(h:H w g cs T)(i:Nat)(v:Y):H (w.setCell ⟨g,i,Z⟩ v) g (cs.setIfInBounds i v) T:=mV h i v
theorem H.other{T:EB}(h:H w g cs T)(g' i:Nat)(v:Y)(hne:g≠g'):H (w.setCell ⟨g',i,Z⟩ v) g cs T:=by unfold H;rw[XK _ _ _ _ hne];exact h
theorem H.setRow{T:EB}(h:H w g old T)(cs:Array Y):H (w.setRow g cs) g cs T:=setRow_heap w g _ cs _ _ h
theorem H.setRow_other{T:EB}(h:H w g cs T)(g':Nat)(cs':Array Y)(hne:g≠g'):H (w.setRow g' cs') g cs T:=(_root_.Go.setRow_other w g' g cs' hne).trans h
def Jz(l:List Int):Array Y:=(l.map (E .u32)).toArray
def Em(l:List Int):Array Y:=(l.map (E .u8)).toArray
theorem Gq(l:List Int):(Jz l).size=l.length:=by simp[Jz]
theorem Ob(l:List Int):(Em l).size=l.length:=by simp[Em]
theorem uG(l:List Int)(i:Nat)(h:i<l.length):(Jz l)[i]?=D (E Ok (l.getD i 0)):=by simp[Jz,h]
theorem kB(l:List Int)(i:Nat)(h:i<l.length):(Em l)[i]?=D (E Ix (l.getD i 0)):=by simp[Em,h]
theorem Gr(l:List Int)(i:Nat)(x:Int):(Jz l).setIfInBounds i (E Ok x)=Jz (l.set i x):=by simp[Jz,List.map_set]
theorem pg(l:List Int)(i:Nat)(x:Int):(Em l).setIfInBounds i (E Ix x)=Em (l.set i x):=by simp[Em,List.map_set]
theorem QI(l:List Int):(Jz l).all (·.oneCell')=EJ:=by rw[Array.all_eq_true];intro i hi;simp[Jz,Oc]
theorem X6(l:List Int):(Em l).all (·.oneCell')=EJ:=by rw[Array.all_eq_true];intro i hi;simp[Em,Oc]
theorem iZ{l:List Int}{T:EB}(h:H w g (Em l) T)(hb: ∀x∈l,0<=x/\x<=255):Row w (D ⟨g,0,Z⟩) l:=Gh h O hb
def part(l:List Int)(i:Nat):List Int:=l.take i++fh (l.length-i) 0
theorem zK(l:List Int)(i:Nat)(h:i<=l.length):(part l i).length=l.length:=by simp[part];omega
theorem QJ(l:List Int):part l 0=fh l.length 0:=by simp[part]
theorem QO(l:List Int)(i:Nat)(h:l.length<=i):part l i=l:=by simp[part,OP h,show l.length-i=0 from U]
theorem EOp(l:List Int)(i k:Nat)(h:k<i)(hi:i<=l.length):(part l i).getD k 0=l.getD k 0:=by unfold part;simp only[OE];rw[Z_ I8,cE h]
theorem Gt(l:List Int)(i:Nat)(h:i<l.length):(part l i).set i (l.getD i 0)=part l (i+1):=by
 apply List.ext_getElem?;intro j;rw[List.getElem?_set];have hl:=zK l i U;by_cases e:i=j;·subst e;rw[if_pos O,if_pos U];unfold part;rw[Z_ I8,cE U];simp[h]
 ·rw[if_neg e];unfold part;rcases JW j i with hj|hj;·rw[Z_ I8,Z_ I8,cE hj,cE U]
  ·rw[aE I8,aE I8];simp only[ar,List.getElem?_replicate];rw[Nat.min_eq_left U,Nat.min_eq_left U];by_cases h1:j<l.length;·rw[if_pos U,if_pos U]
   ·rw[if_neg U,if_neg U]
def du(l old:List Int)(i:Nat):List Int:=l.take i++old.drop i
theorem QU(l old:List Int):du l old 0=old:=by simp[du]
theorem QX(l old:List Int)(i:Nat)(h:l.length<=i)(h2:old.length<=i):du l old i=l:=by simp[du,OP h,List.drop_of_length_le h2]
theorem Gu(l old:List Int)(i:Nat)(h:l.length=old.length)(hi:i<=l.length):(du l old i).length=l.length:=by simp[du];omega
theorem EOq(l old:List Int)(i k:Nat)(h:l.length=old.length)(hi:i<=k)(hk:k<l.length):(du l old i).getD k 0=old.getD k 0:=by unfold du;simp only[OE];rw[aE I8,List.getElem?_drop];congr 2;simp;omega
theorem uH(l old:List Int)(i:Nat)(h:l.length=old.length)(hi:i<l.length):(du l old i).set i (l.getD i 0)=du l old (i+1):=by
 apply List.ext_getElem?;intro j;rw[List.getElem?_set];have hl:=Gu l old i h U;by_cases e:i=j;·subst e;rw[if_pos O,if_pos U];unfold du;rw[Z_ I8,cE U];simp[hi]
 ·rw[if_neg e];unfold du;rcases JW j i with hj|hj;·rw[Z_ I8,Z_ I8,cE hj,cE U]
  ·rw[aE I8,aE I8,List.getElem?_drop,List.getElem?_drop];congr 1;simp;omega
def Od(P:Jq)(T:EB)(cs:Array Y):Prop:= ∀(ev:J5->Y) (o:EP) (w:M),o.op= .alloc T->(Ig ev o).run P w= .ok (.value (V (D ⟨w.heap.size,0,Z⟩))) (w.alloc (Eb cs T))
section
variable{P:Program}{ops:Array Oper}{rest:List Oper}{o:Oper}{a:Act}{w:World}{Q:Exit->Act->World->Prop}
theorem ph{T:EB}(hz:Od P T cs)(hw:JO o (Jg ops a.tmps)=EJ)(ho:o.op= .alloc T) (h:Ib P ops Q rest (a.put o.dst (V (D ⟨w.heap.size,0,Z⟩))) (w.alloc (Eb cs T))):Ib P ops Q (o::rest) a w:=Jo hw (hz _ _ _ ho) h
theorem aI{T:EB}{n:Nat}(hT:IL P T n)(hw:JO o (Jg ops a.tmps)=EJ)(hl:mY o a T g)(hg:Ed (H w g cs T))(hn:cs.size=n) (h:Ib P ops Q rest (a.put o.dst (Ea cs)) w):Ib P ops Q (o::rest) a w:=EOf hT hw hl hg hn h
theorem OQ{T:EB}{n:Nat}(hT:IL P T n)(hw:JO o (Jg ops a.tmps)=EJ)(hl:sJ o a T g cs)(hg:Ed (H w g old T))(ho:old.size=n)(hn:cs.size=n) (h1:cs.all (·.oneCell')=EJ) (h:Ib P ops Q rest (a.put o.dst I6) (w.setRow g cs)):Ib P ops Q (o::rest) a w:=Gi hT hw hl hg ho hn h1 h
def kC(o:EP)(a:E_)(T:EB)(g off:Nat):Prop:=match o.op with| .load t x=>t=T/\a.eval x=V (D ⟨g,off,Z⟩)|_=>False
theorem nU{T:EB}{n off:Nat}(hT:IL P T n)(hw:JO o (Jg ops a.tmps)=EJ)(hl:kC o a T g off)(hg:Ed (H w g big TB))(hn:cs.size=n)(he:big.extract off (off+n)=cs) (h:Ib P ops Q rest (a.put o.dst (Ea cs)) w):Ib P ops Q (o::rest) a w:=by
 obtain⟨⟨d,hu,hd⟩,hi⟩:=hT;unfold kC at hl;split at hl;·rename_i t x ho;obtain⟨rfl,hx⟩:=hl;refine Jo hw ?_ h;subst he;have hrun:=run_loadVar_mid w g off t _ d (World.rangeAt_of_block hg.out off n) hu nX zL;exact Eoo
 ·exact hl.elim
theorem Jd{T:EB}{n:Nat}(hT:IL P T n)(h:fn.results= #[.cell p T])(tmps:Array Y)(w:M)(g:Nat)(cs:Array Y) (hp:tmps.getD p I6=V (D ⟨g,0,Z⟩)) (hg:H w g cs T) (hn:cs.size=n):(UA fn tmps).run P w= .ok (Ea cs) w:=Gj hT h tmps w g cs hp hg hn
theorem wA{T:EB}(hz:Od P T cs)(h:Ib P ops Q rest (a.put o.dst (V (D ⟨w.heap.size,0,Z⟩))) (w.alloc (Eb cs T))) (hw:JO o (Jg ops a.tmps)=EJ:=by with_unfolding_all exact Eh O) (ho:o.op= .alloc T:=by with_unfolding_all exact O):Ib P ops Q (o::rest) a w:=ph hz hw ho h
theorem wL{T:EB}{n:Nat}(hT:IL P T n)(hg:Ed (H w g cs T))(h:Ib P ops Q rest (a.put o.dst (Ea cs)) w)(hn:cs.size=n:=by with_unfolding_all exact O) (hw:JO o (Jg ops a.tmps)=EJ:=by with_unfolding_all exact Eh O) (hl:mY o a T g:=by with_unfolding_all exact⟨O,O⟩):Ib P ops Q (o::rest) a w:=aI hT hw hl hg hn h
theorem wS{T:EB}{n:Nat}(hT:IL P T n)(hg:Ed (H w g old T))(h:Ib P ops Q rest (a.put o.dst I6) (w.setRow g cs))(hn:cs.size=n:=by with_unfolding_all exact O) (h1:cs.all (·.oneCell')=EJ:=by with_unfolding_all exact O) (ho:old.size=n:=by with_unfolding_all exact O) (hw:JO o (Jg ops a.tmps)=EJ:=by with_unfolding_all exact Eh O) (hl:sJ o a T g cs:=by with_unfolding_all exact⟨O,O,O⟩):Ib P ops Q (o::rest) a w:=OQ hT hw hl hg ho hn h1 h
theorem wM{T:EB}{n off:Nat}(hT:IL P T n)(hg:Ed (H w g big TB))(h:Ib P ops Q rest (a.put o.dst (Ea cs)) w)(he:big.extract off (off+n)=cs:=by with_unfolding_all exact O)(hn:cs.size=n:=by with_unfolding_all exact O) (hw:JO o (Jg ops a.tmps)=EJ:=by with_unfolding_all exact Eh O) (hl:kC o a T g off:=by with_unfolding_all exact⟨O,O⟩):Ib P ops Q (o::rest) a w:=nU hT hw hl hg hn he h
end
def J0(w w':M):Prop:=El w w'
theorem ER:Kept J0:=⟨fun _=>IU _ _,fun _ _ _ h k=>bt h k,fun w=>(IU _ w).drew⟩
theorem sX.at{R:Nat->Y->M->Prop}{o:EP}(hd:sX R o x w)(j:Nat)(h:(o.after.toList.any fun e=>UN .any e&&e.on==j)=EJ):R j (x j) w:=by exact Epa
theorem EOr{o:EP}{b:Bool}(h:o.guard=D (j,want))(hd:(ops[j]?).bind (·.dst)=D d)(hv:tmps[d]?=D (Ec b))(hb:(b==want)=EI):JO o (Jg ops tmps)=EI:=by unfold JO Jg;simp[h,hd,hv];cases b<;>cases want<;>simp_all
section
variable{P:Program}{ops:Array Oper}{Q:Exit->Act->World->Prop}{Rel:World->World->Prop}{F:(Nat->Value)->Act}{R:Nat->Value->World->Prop}{i:Nat}{o:Oper}{x:Nat->Value}{w:World}
theorem zM(hT:Kept Rel){T:EB}{n g:Nat}{cs:Array Y}(hA:IL P T n)(hw:JO o (Jg ops (F x).tmps)=EJ) (hl:mY o (F x) T g) (hg:H w g cs T) (hn:cs.size=n) (h:R i (Ea cs) w):fd Rel P ops Q F R i o x w:=by
 obtain⟨⟨d,hu,hd⟩,hi⟩:=hA;unfold mY at hl;split at hl
 ·rename_i t y ho;obtain⟨rfl,hx⟩:=hl;refine IE hT hw ?_ h;have hrun:(loadVar t ⟨g,0,Z⟩).run P w= .ok (Ea cs) w:=by cases d<;>first|(cases hd;done)|exact run_loadVar_row w g t t cs (0,0) _ hg hu rfl iO
  unfold Ig;exact EoK
 ·exact hl.elim
theorem EOs(hT:Kept Rel){T TB:EB}{n g off:Nat}{cs big:Array Y}(hA:IL P T n)(hw:JO o (Jg ops (F x).tmps)=EJ) (hl:kC o (F x) T g off) (hg:H w g big TB) (hn:cs.size=n) (he:big.extract off (off+n)=cs) (h:R i (Ea cs) w):fd Rel P ops Q F R i o x w:=by
 obtain⟨⟨d,hu,hd⟩,hi⟩:=hA;unfold kC at hl;split at hl;·rename_i t y ho;obtain⟨rfl,hx⟩:=hl;refine IE hT hw ?_ h;exact Erz
 ·exact hl.elim
theorem Ol{a:E_}{s y:J5}{v1 v2 v':Y}(ho:o.op= .call {callee:= .builtin .append,args:= #[s,y],argTypes:= #[t,t]})(hs:a.eval s=v1)(hx:a.eval y=v2) (hr:(ZX #[t,t] o.type #[v1,v2]).run P w= .ok v' w'):(Ig a.eval o).run P w= .ok (.value v') w':=by unfold Ig;simp only[ho,resolve,invoke,builtin,OH,Oi,OM,List.map_toArray,UB,Xn,hs,hx,hr]
end
section
variable{P:Program}
theorem EOt(ats:Array EB)(ty:EB)(p q:Int)(W:M):(Builtin.max_ ats ty #[E I p,E I q]).run P W= .ok (E I (max p q)) W:=by simp[Builtin.max_,Builtin.max2,go_sem];try omega
variable{ops:Array Oper}{rest:List Oper}{o:Oper}{a:Act}{w:World}{Q:Exit->Act->World->Prop}
theorem EOu{p q r:Int}(s x:J5)(ats:Array EB)(hgd:o.guard=Z)(ho:o.op= .call {callee:= .builtin .max,args:= #[s,x],argTypes:=ats})(h1:a.eval s=E I p)(h2:a.eval x=E I q)(hr:max p q=r)(h:Ib P ops Q rest (a.put o.dst (E I r)) w):Ib P ops Q (o::rest) a w:=by subst hr;refine wpList_plain hgd fun K hK=> ?_;unfold dn Ig;simp only[ho,resolve,invoke,builtin,OH,Oi,OM,List.map_toArray,UB,Xn,h1,h2,EOt];exact hK _ _ h
end
def Ev(n:Nat):List Int:=fh n 0
theorem gU(n:Nat):(Ev n).length=n:=by simp[Ev]
theorem QZ(n:Nat): ∀x∈Ev n,0<=x/\x<=255:=by intro x hx;simp[Ev] at hx;omega
def putAt(l:List Int)(off:Nat)(ys:List Int):List Int:=l.take off++ys++l.drop (off+ys.length)
theorem EOv(l:List Int)(off:Nat)(ys:List Int)(h:off+ys.length<=l.length):(putAt l off ys).length=l.length:=by simp[putAt];omega
theorem EOw(l:List Int)(off:Nat):putAt l off []=l:=by simp[putAt]
theorem Qa(k:Nat)(hk:k<=1000000000000)(W:M): (Instr.makeSlice 23 (E I (k:Int)) (E I (k:Int))).run EZ W= .ok (G (D ⟨W.heap.size,0,Z⟩) k k) (W.alloc (Eb (Em (Ev k)) 5)):=by
 obtain⟨i0,hi,hz0,hz1,hz2⟩:=au jl;have h:=run_make (P:=EZ) W 23 5 i0 _ aJ hi hz0 .i64 .i64 k k U U (by rw[hz2];omega) U;rw[h,hz1,kn,Nat.mul_one]
 have e:bZ (E IntKind.u8 0).cells k=Em (Ev k):=by
  apply Array.ext;·simp[bZ,Em,Ev]
  ·intro i h1 h2;simp[bZ,Em,Ev,Nat.mod_one,Value.cells]
 rw[e]
theorem EOx(w:M)(g off dLen dCap:Nat)(l:List Int)(T:EB)(hg:H w g (Em l) T)(A:Option Ep)(sLen sCap:Nat)(xs:List Int)(hx:xs.length=sLen)(hr:Row w A xs)(m:Nat)(hm:Nat.min sLen dLen=m) (hfit:off+m<=l.length) (Y_:Option Ep) (hD:0<m->Y_=D ⟨g,off,Z⟩) (ty:EB): ∃w',(Builtin.copy_ #[23,23] ty #[G Y_ dLen dCap,G A sLen sCap]).run EZ w= .ok (E I m) w'/\H w' g (Em (putAt l off (xs.take m))) T/\Ij g w w'/\(∀k,k≠g->w'.heap[k]?=w.heap[k]?)/\w'.heap.size=w.heap.size:=by
 have hs1:(Tryz.prog.info? 5).map (·.size)=D 1:=Ef;have hml:m<=xs.length:=by rw[hx,<-hm];exact Nat.min_le_left _ _
 rcases Nat.eq_zero_or_pos m with h0|h0
 ·subst h0;refine⟨w,?_,?_,IU _ _,fun _ _=>rfl,O⟩;·exact run_copy_none w _ _ ty _ Y_ A dLen dCap sLen sCap aJ hs1 hm
  ·rw[Iq,EOw];exact hg
 ·obtain rfl:=hD h0
  obtain⟨ad,rfl,hc⟩: ∃ad,A=D ad/\ ∀j v,((xs.take m).map (E .u8))[j]?=D v->w.cell? (ad.add j)=D v:=by
   rcases hr.1 with h|⟨b,o,h,hc⟩;·subst h;simp at hml;omega
   ·refine⟨_,h,fun j v hv=> ?_⟩
    have hj:j<(xs.take m).length:=by
     rcases JW j (xs.take m).length with h|h;·exact h
     ·rw[bJ Ov] at hv;cases hv
    have hj2:j<xs.length:=zF;rw[Addr.add_mid,hc j hj2];have Xy:j<m:=zF;simp[cE Xy,hj2] at hv;exact congrArg D hv
  have hrun:=run_copy_row (P:=EZ) w 23 23 ty 5 g off dLen dCap ad sLen sCap (Em l) T ((xs.take m).map (E .u8)) aJ hs1 hg (by simp[hml,hm]) hc (by rw[Ob];simp;omega) (by intro v hv;rw[dw] at hv;obtain⟨a,_,rfl⟩:=hv;rfl);have e:((Em l).toList.take off++(xs.take m).map (E .u8)++(Em l).toList.drop (off+((xs.take m).map (E .u8)).length)).toArray=Em (putAt l off (xs.take m)):=by simp[Em,putAt]
  rw[e] at hrun;refine⟨_,by rw[hrun];simp[goInt,hml],hg.setRow _,EY (IU _ _) (E3 _) _,fun k hk=>setRow_other w g k _ hk,Ej⟩
def Qb(o:EP)(a:E_)(Y_:Option Ep)(dLen dCap:Nat)(A:Option Ep)(sLen sCap:Nat):Prop:=match o.op with
 | .call ⟨.builtin .copy,args,tys⟩=>tys= #[23,23]/\ ∃d s,args= #[d,s]/\a.eval d=G Y_ dLen dCap/\a.eval s=G A sLen sCap
 |_=>False
section
variable{ops:Array Oper}{rest:List Oper}{o:Oper}{a:Act}{w:World}{Q:Exit->Act->World->Prop}
theorem kD(hw:JO o (Jg ops a.tmps)=EJ)(g off dLen dCap:Nat)(l:List Int)(T:EB)(A:Option Ep)(sLen sCap:Nat)(xs:List Int)(m:Nat)(Y_:Option Ep) (hc:Qb o a Y_ dLen dCap A sLen sCap) (hg:Ed (H w g (Em l) T)) (hx:xs.length=sLen) (hr:Ed (Row w A xs)) (hm:Nat.min sLen dLen=m) (hfit:off+m<=l.length) (hD:0<m->Y_=D ⟨g,off,Z⟩) (h: ∀w',H w' g (Em (putAt l off (xs.take m))) T->Ij g w w'->(∀k,k≠g->w'.heap[k]?=w.heap[k]?)->w'.heap.size=w.heap.size->Ib EZ ops Q rest (a.put o.dst (E I m)) w'):Ib EZ ops Q (o::rest) a w:=by
 obtain⟨w',hrun,h1,h2,h3,h4⟩:=EOx w g off dLen dCap l T hg.out A sLen sCap xs hx hr.out m hm hfit Y_ hD o.type;unfold Qb at hc;split at hc;·rename_i args tys ho;obtain⟨rfl,d,s,rfl,e1,e2⟩:=hc;refine Jo hw (v:=E I m) (w':=w') ?_ (h w' h1 h2 h3 h4);unfold Ig;simp only[ho,resolve,invoke,builtin,OH,Oi,OM,List.map_toArray,UB,Xn,e1,e2,hrun]
 ·exact hc.elim
end
def Ui:Option (Nat×Nat)->List Y
 |none=>[Ec EI,E I 0,E Im 0]
 |some (h,s)=>[Ec EJ,E I h,E Im s]
theorem Qc(v:Option (Nat×Nat)):pI v=Ea (Ui v).toArray:=Qd
theorem sf(v:Option (Nat×Nat)):(Ui v).length=3:=Qd
structure JF where
 on:Bool
 (a m r:Int)
 key:List Int
 win:Option (Nat×Nat)
def OV(on:Bool)(a m:Int):List Y:=[Ec on,E I a,E I m]
def JF.v(s:JF):List Y:=OV s.on s.a s.m++([E I s.r]++(s.key.map (E .u8)++Ui s.win))
def U6:JF:=⟨EI,0,0,0,Ev 32,Z⟩
structure JF.ok(s:JF):Prop where
 len:s.key.length=32
 bytes: ∀x∈s.key,0<=x/\x<=255
 win:sI s.win
theorem uK:U6.ok:=⟨O,QZ 32,trivial⟩
theorem JF.Zl{s:JF}(h:s.key.length=32):s.v.length=39:=by simp[JF.v,OV,h,sf]
structure EK where
 ZW:Bool
 (sa sm:Int)
 (s0 s1 s2:JF)
 (Iu most:Int)
def EK.E4(T:EK):Nat->JF
 |0=>T.s0
 |1=>T.s1
 |_=>T.s2
def EK.put(T:EK):Nat->JF->EK
 |0,s=>{T with s0:=s}
 |1,s=>{T with s1:=s}
 |_,s=>{T with s2:=s}
def EK.hd(T:EK):List Y:=[Ec T.ZW,E I T.sa,E I T.sm]
def EK.tl(T:EK):List Y:=[E I T.Iu,E I T.most]
def EK.v(T:EK):List Y:=T.hd++(T.s0.v++(T.s1.v++(T.s2.v++T.tl)))
def EK.pre(T:EK):Nat->List Y
 |0=>T.hd
 |1=>T.hd++T.s0.v
 |_=>T.hd++T.s0.v++T.s1.v
def EK.post(T:EK):Nat->List Y
 |0=>T.s1.v++(T.s2.v++T.tl)
 |1=>T.s2.v++T.tl
 |_=>T.tl
structure EK.ok(T:EK):Prop where
 s0:T.s0.ok
 s1:T.s1.ok
 s2:T.s2.ok
theorem EK.ok.E4{T:EK}(h:T.ok)(i:Nat):(T.E4 i).ok:=by
 match i with
 |0=>exact h.s0
 |1=>exact h.s1
 |_+2=>exact h.s2
theorem EK.ok.put{T:EK}(h:T.ok)(i:Nat){s:JF}(hs:s.ok):(T.put i s).ok:=by
 match i with
 |0=>exact⟨hs,h.s1,h.s2⟩
 |1=>exact⟨h.s0,hs,h.s2⟩
 |_+2=>exact⟨h.s0,h.s1,hs⟩
theorem EK.sg(T:EK)(i:Nat):T.v=T.pre i++((T.E4 i).v++T.post i):=by
 match i with
 |0=>rfl
 |1=>simp[EK.v,EK.pre,EK.post,EK.E4]
 |_+2=>simp[EK.v,EK.pre,EK.post,EK.E4]
theorem EK.uL(T:EK)(i:Nat)(s:JF):(T.put i s).v=T.pre i++(s.v++T.post i):=by
 match i with
 |0=>rfl
 |1=>simp[EK.v,EK.pre,EK.post,EK.put,EK.hd,EK.tl]
 |_+2=>simp[EK.v,EK.pre,EK.post,EK.put,EK.hd,EK.tl]
def so(i:Nat):Nat:=match i with|0=>3|1=>42|_=>81
theorem EK.pi{T:EK}(h:T.ok)(i:Nat):(T.pre i).length=so i:=by
 match i with
 |0=>rfl
 |1=>simp[EK.pre,so,EK.hd,JF.Zl h.s0.len]
 |_+2=>simp[EK.pre,so,EK.hd,JF.Zl h.s0.len,JF.Zl h.s1.len]
def Iv(W:M)(g:Nat)(T:EK):Prop:=H W g T.v.toArray 163
theorem cI{o:Nat}{pre old post:List Y}(K:H W g (pre++(old++post)).toArray S)(ho:pre.length=o)(j:Nat)(hj:j<old.length):W.cell? ⟨g,o+j,Z⟩=old[j]?:=by rw[K.cell (o+j),J2,aE U,Z_ U];congr 1;omega
theorem bf{o n:Nat}(K:H W g cs S)(h:o+n<=cs.size):W.there g o n:=fun j hj=>by refine⟨?_,K.JZ _⟩;rw[K.cell,kA U];rfl
structure E7(g:Nat)(W w':M):Prop where
 size:W.heap.size<=w'.heap.size
 keep: ∀k,k≠g->k<W.heap.size->w'.heap[k]?=W.heap[k]?
 bel: ∀b,b<=g->b<=W.heap.size->Ij b W w'
theorem E7.refl(g:Nat)(W:M):E7 g W W:=⟨E3 _,fun _ _ _=>rfl,fun _ _ _=>IU _ _⟩
theorem E7.trans{a b c:M}(h:E7 g a b)(k:E7 g b c):E7 g a c:=
 ⟨Ew h.size k.size,fun i hi hl=>(k.keep i hi (gX hl h.size)).trans (h.keep i hi hl),fun i hi hl=>(h.bel i hi hl).trans (k.bel i hi (Ew hl h.size))⟩
theorem E7.ED(h:El W w'):E7 g W w':=
 ⟨h.size,fun k _ hl=>h.block k hl,fun b _ hb=>h.mono hb⟩
theorem E7.Ek{g2:Nat}(h:E7 g W w')(K:H W g2 cs S)(hne:g2≠g):H w' g2 cs S:=(h.keep g2 hne K.lt).trans K
theorem JS(p:Nat)(v:Y):E7 g W (W.setCell ⟨g,p,Z⟩ v):=
 ⟨Gv,fun k hk _=>XK _ _ _ _ hk,fun b hb _=>(IU b W).setCell (p:=⟨g,p,Z⟩) hb v⟩
theorem JP{g:Nat}: ∀(vs:List Y) (o:Nat) (W:M),E7 g W (W.setCells g o vs)
 |[],_,W=>E7.refl g W
 |v::r,o,W=>(JS o v).trans (JP r (o+1) _)
theorem Zm{g:Nat}{post:List Y}{S:EB}: ∀(vs old pre:List Y) (o:Nat) (W:M),H W g (pre++(old++post)).toArray S->vs.length=old.length->pre.length=o->H (W.setCells g o vs) g (pre++(vs++post)).toArray S
 |[],old,pre,o,W,K,hl,ho=>by have:old=[]:=ZP hl.symm;subst this;exact K
 |v::vs,[],pre,o,W,K,hl,ho=>by simp at hl
 |v::vs,x::old,pre,o,W,K,hl,ho=>by
  have k1:=K.set o v;have e:(pre++(x::old++post)).toArray.setIfInBounds o v=((pre++[v])++(old++post)).toArray:=by rw[Ik];congr 1;rw[List.set_append_right _ _ U,ho,Nat.sub_self];simp
  rw[e] at k1;have k2:=Zm vs old (pre++[v]) (o+1) _ k1 (by simpa using hl) (by simp[ho]);rw[World.setCells];simpa using k2
theorem gZ:IL EZ 107 2:=⟨⟨_,Tryz.underlying107,O⟩,Ef⟩
theorem zN(most:Int)(w:M): Eg EZ 174 #[E I most] w fun e w'=>e=Ei (Ea #[E I 0,E I (max most 0)])/\El w w':=by obtain⟨mb,hmb⟩:=JK (max most 0);rw[hmb];go_enter Tryz.func174,Tryz.ntmps174;go_wp2_with ((with_reducible refine EOu (p:=most) (q:=0) (r:=mb) _ _ _ O O ?_ ?_ ?_ ?_);(·rfl);(·rfl);(·exact hmb));refine ET (by simp[UA,Tryz.results174,go_sem]) O ⟨O,?_⟩;exact Er w _
theorem zP(a m:Int)(w:M)(h1: -9223372036854775808<=a)(h3:m<=9223372036854775807): Eg EZ 148 #[Ea #[E I a,E I m]] w fun e w'=>e=Ei (Ea #[E I (sat a m),E I m])/\El w w':=by have CS:=J<|fun W=>uz a m W h1 h3;generalize sat a m=r at*;clear h1 h3;go_enter Tryz.func148,Tryz.ntmps148;go_wp2_with fail;refine(CS.out _).mono ?_;rintro e w' ⟨rfl,rfl⟩;go_wp2_with fail;refine ET Gw O ⟨O,?_⟩;exact JY w _ _
theorem zQ(a m:Int)(w:M): Eg EZ 149 #[Ea #[E I a,E I m]] w fun e w'=>e=Ei (Ec (decide (m<=a)))/\El w w':=by obtain⟨b,hb⟩:=JK (decide (m<=a));rw[hb];go_enter Tryz.func149,Tryz.ntmps149;go_wp2;go_ret;exact⟨O,Er w _⟩
theorem zR(g o:Nat)(pre post:List Y)(x y z:Y)(S:EB)(Iu:Int)(w:M)(K:H w g (pre++([x,y,z]++post)).toArray S)(ho:pre.length=o): Eg EZ 127 #[V (D ⟨g,o,Z⟩),E I Iu] w fun e w'=>e=Ei (Eu #[])/\H w' g (pre++(OV EJ 0 (max Iu 0)++post)).toArray S/\E7 g w w':=by have c0:w.cell? ⟨g,o,Z⟩=D x:=cI (old:=[x,y,z]) K ho 0 Ej;have f0:w.frozen? ⟨g,o,Z⟩=EI:=K.JZ o;have K1:Ed (H (w.setCell ⟨g,o,Z⟩ (Ec EJ)) g (pre++([Ec EJ,y,z]++post)).toArray S):=J<|Zm (post:=[y,z]++post) [Ec EJ] [x] pre o w (by simpa using K) O ho;have ON:=J<|JS (g:=g) (W:=w) o (Ec EJ);have HO:=J ho;have CT:=J<|fun W=>zN Iu W;generalize max Iu 0=mb at*;clear K ho;go_enter Tryz.func127,Tryz.ntmps127;go_wp2_with fail;clear c0 f0;generalize w.setCell ⟨g,o,Z⟩ (Ec EJ)=w1 at*;refine(CT.out _).mono ?_;rintro e w2 ⟨rfl,b2⟩;replace K1:=J<|K1.out.B b2;replace ON:=J<|ON.out.trans (E7.ED b2);clear b2 CT;have K2:Ed (H (w2.setCells g (o+1) [E I 0,E I mb]) g (pre++(OV EJ 0 mb++post)).toArray S):=J (by have:=Zm (g:=g) (post:=post) (S:=S) [E I 0,E I mb] [y,z] (pre++[Ec EJ]) (o+1) w2 (by simpa[OV] using K1.out) O (by simp[HO.out]);simpa[OV] using this);have Gx:=J<|ON.out.trans (JP (g:=g) [E I 0,E I mb] (o+1) w2);have HS:Ed (o+1+2<=(pre++([Ec EJ,y,z]++post)).toArray.size):=J (by have:=HO.out;simp[OV];omega);have c1:w2.cell? ⟨g,o+1,Z⟩=D y:=cI (old:=[Ec EJ,y,z]) K1.out HO.out 1 Ej;have c2:w2.cell? ⟨g,o+1+1,Z⟩=D z:=cI (old:=[Ec EJ,y,z]) K1.out HO.out 2 Ej;have f1:w2.frozen? ⟨g,o+1,Z⟩=EI:=K1.out.JZ _;have f2:w2.frozen? ⟨g,o+1+1,Z⟩=EI:=K1.out.JZ _;go_wp2;go_end0;exact⟨O,K2.out,Gx.out⟩
theorem Qf(g o:Nat)(pre post:List Y)(y z:Y)(S:EB)(w:M)(K:H w g (pre++([Ec EI,y,z]++post)).toArray S)(ho:pre.length=o): Eg EZ 145 #[V (D ⟨g,o,Z⟩)] w fun e w'=>e=Ei (Ec EI)/\w=w':=by have c0:w.cell? ⟨g,o,Z⟩=D (Ec EI):=cI (old:=[Ec EI,y,z]) K ho 0 Ej;clear K ho;go_enter Tryz.func145,Tryz.ntmps145;exact Enu
theorem Qg(g o:Nat)(pre post:List Y)(a m:Int)(S:EB)(w:M)(K:H w g (pre++(OV EJ a m++post)).toArray S)(ho:pre.length=o)(h1: -9223372036854775808<=a)(h3:m<=9223372036854775807): Eg EZ 145 #[V (D ⟨g,o,Z⟩)] w fun e w'=>e=Ei (Ec (decide (m<=sat a m)))/\H w' g (pre++(OV EJ (sat a m) m++post)).toArray S/\E7 g w w':=by have c0:w.cell? ⟨g,o,Z⟩=D (Ec EJ):=cI (old:=OV EJ a m) K ho 0 pj;have c1:w.cell? ⟨g,o+1,Z⟩=D (E I a):=cI (old:=OV EJ a m) K ho 1 pj;have c2:w.cell? ⟨g,o+2,Z⟩=D (E I m):=cI (old:=OV EJ a m) K ho 2 pj;have CS:=J<|fun W=>zP a m W h1 h3;have CD:=J<|fun W=>zQ (sat a m) m W;generalize sat a m=r at*;generalize decide (m<=r)=rb at*;have KK:=J K;have HO:=J ho;clear K ho h1 h3;go_enter Tryz.func145,Tryz.ntmps145;go_wp2_with fail;refine(CS.out _).mono ?_;rintro e w2 ⟨rfl,b2⟩;replace KK:=J<|KK.out.B b2;have ON:Ed (E7 g w w2):=J<|E7.ED b2;clear b2 CS c0 c1 c2;have K2:Ed (H (w2.setCells g (o+1) [E I r,E I m]) g (pre++(OV EJ r m++post)).toArray S):=J (by have:=Zm (g:=g) (post:=post) (S:=S) [E I r,E I m] [E I a,E I m] (pre++[Ec EJ]) (o+1) w2 (by simpa[OV] using KK.out) O (by simp[HO.out]);simpa[OV] using this);have Gx:=J<|ON.out.trans (JP (g:=g) [E I r,E I m] (o+1) w2);have HS:Ed (o+1+2<=(pre++(OV EJ a m++post)).toArray.size):=J (by have:=HO.out;simp[OV];omega);have c1:w2.cell? ⟨g,o+1,Z⟩=D (E I a):=cI (old:=OV EJ a m) KK.out HO.out 1 pj;have c2:w2.cell? ⟨g,o+1+1,Z⟩=D (E I m):=cI (old:=OV EJ a m) KK.out HO.out 2 pj;have f1:w2.frozen? ⟨g,o+1,Z⟩=EI:=KK.out.JZ _;have f2:w2.frozen? ⟨g,o+1+1,Z⟩=EI:=KK.out.JZ _;go_wp2_with (with_reducible refine JE 19 ?_);apply Es;clear c1 c2 f1 f2;rw[show(w2.setCell ⟨g,o+1,Z⟩ (E I r)).setCell ⟨g,o+1+1,Z⟩ (E I m)=w2.setCells g (o+1) [E I r,E I m] from rfl];generalize w2.setCells g (o+1) [E I r,E I m]=w3 at*;have c1:w3.cell? ⟨g,o+1,Z⟩=D (E I r):=cI (old:=OV EJ r m) K2.out HO.out 1 pj;have c2:w3.cell? ⟨g,o+2,Z⟩=D (E I m):=cI (old:=OV EJ r m) K2.out HO.out 2 pj;go_wp2_with fail;refine(CD.out _).mono ?_;rintro e w4 ⟨rfl,b4⟩;go_wp2;go_ret;exact⟨O,K2.out.B b4,Gx.out.trans (E7.ED b4)⟩
def Jl(w:M)(g:Nat)(Gs:List (List Y))(S:EB):Prop:=H w g Gs.flatten.toArray S
def bh(Gs:List (List Y))(k:Nat):Nat:=(Gs.take k).flatten.length
theorem uM{old:List Y}(hk:Gs[k]?=D old):Gs.flatten=(Gs.take k).flatten++(old++(Gs.drop (k+1)).flatten):=by obtain⟨h,e⟩:=Xx.1 hk;conv=>lhs;rw[<-iU k Gs,List.flatten_append,nO h,List.flatten_cons,e]
theorem EOy{old:List Y}(hk:Gs[k]?=D old)(vs:List Y):(Gs.set k vs).flatten=(Gs.take k).flatten++(vs++(Gs.drop (k+1)).flatten):=by
 obtain⟨h,e⟩:=Xx.1 hk;have h2:(Gs.set k vs)[k]?=D vs:=by rw[List.getElem?_set_self h]
 rw[uM h2,List.take_set_of_le (E3 _),List.drop_set_of_lt U]
theorem Jl.cell(K:Jl W g Gs S)(k:Nat){o:Nat}{old:List Y}(hk:Gs[k]?=D old)(ho:bh Gs k=o)(j:Nat)(hj:j<old.length):W.cell? ⟨g,o+j,Z⟩=old[j]?:=by unfold Jl at K;rw[uM hk] at K;exact cI K ho j hj
theorem Jl.set(K:Jl W g Gs S)(k:Nat){o:Nat}{old:List Y}(hk:Gs[k]?=D old)(ho:bh Gs k=o)(vs:List Y)(hl:vs.length=old.length):Jl (W.setCells g o vs) g (Gs.set k vs) S:=by unfold Jl at*;rw[uM hk] at K;rw[EOy hk];exact Zm vs old _ o W K hl ho
theorem Jl.extract(k:Nat){o:Nat}{old:List Y}(hk:Gs[k]?=D old)(ho:bh Gs k=o)(n:Nat)(hn:old.length=n):Gs.flatten.toArray.extract o (o+n)=old.toArray:=by subst ho hn;rw[uM hk];unfold bh;simp
theorem Jl.there(K:Jl W g Gs S)(k:Nat){o:Nat}{old:List Y}(hk:Gs[k]?=D old)(ho:bh Gs k=o)(n:Nat)(hn:n<=old.length):W.there g o n:=by refine bf K ?_;rw[uM hk,List.size_toArray,IY,IY];unfold bh at ho;omega
theorem Jl.B(K:Jl W g Gs S)(hb:El W w'):Jl w' g Gs S:=H.B K hb
theorem Jl.lt(K:Jl W g Gs S):g<W.heap.size:=H.lt K
theorem Jl.JZ(K:Jl W g Gs S)(i:Nat):W.frozen? ⟨g,i,Z⟩=EI:=H.JZ K i
section
variable{P:Program}{ops:Array Oper}{rest:List Oper}{o:Oper}{a:Act}{w:World}{Q:Exit->Act->World->Prop}
end
def kF:List EB:=[120,163,152,171,124]
def Gy(o:Option Obj):Bool:=match o with
 |some (Eb _ T _)=>kF.contains T
 |_=>EI
def uN(w:M)(k:Nat):Bool:=Gy w.heap[k]?
structure Gz(lo hi:Nat)(w w':M):Prop where
 os:w'.os=w.os
 tape:w'.tape=w.tape
 output:w'.output=w.output
 size:w.heap.size<=w'.heap.size
 keep: ∀k,k<hi->(lo<=k->uN w k=EI)->w'.heap[k]?=w.heap[k]?
 stay: ∀k,lo<=k->k<hi->uN w k=EJ->uN w' k=EJ
theorem Gz.B{lo hi:Nat}(h:Gz lo hi w w')(hl:lo<=hi):Ij lo w w':=
 ⟨h.os,h.tape,h.output,h.size,fun k hk=>h.keep k (gX hk hl) (fun hc=>absurd hc U)⟩
structure EN where
 (h e o oa om la lm:Int)
 bad:Bool
def EN.v(t:EN):List Y:=[E I t.h,E I t.e,E I t.o,E I t.oa,E I t.om,E I t.la,E I t.lm,Ec t.bad]
def I_(x:Int):Prop:= -9223372036854775808<=x/\x<=9223372036854775807
structure EN.ok(t:EN):Prop where
 h:0<=t.h/\t.h<=4
 e:0<=t.e/\t.e<=65535
 o: -1<=t.o/\t.o<=3
 oa:0<=t.oa/\t.oa<=1000
 om:0<=t.om/\t.om<=1000
 la:0<=t.la/\t.la<=1000
 lm:0<=t.lm/\t.lm<=1000
 off:0<=t.o->1<=t.h/\t.h<=3/\t.o≠t.h
def EN.pass(t:EN)(I1 e:Int):EN:=⟨I1,e,-1,0,0,0,0,t.bad⟩
def EN.Uj(t:EN)(I1:Int):EN×Int:=
 if I1<0\/5<=I1 then(t,1) else if I1=t.h then(t,25) else if 65535<=t.e then(t,24) else(t.pass I1 (t.e+1),0)
def EN.cJ(t:EN):EN:=t.pass 4 (if t.h≠4 then sat t.e 65535 else t.e)
def EN.end_(t:EN):EN:={t with o:= -1,oa:=0,om:=0}
def EN.make(t:EN)(po from_ I1:Int)(there:Bool):EN×Int:=
 if from_≠t.h then(t,20) else if 65535<=t.e then(t,24) else if I1=from_ then(t,25) else if I1<1\/3<I1\/there=EI then(t,2) else if 0<=t.o then(t,28)
 else({t with o:=I1,oa:=0,om:=max po 0},0)
def EN.accept(t:EN)(from_ OJ:Int):EN×Int:=
 if t.o<0\/t.o≠from_ then(t,28) else if OJ≠t.e then(t,21) else t.Uj from_
def EN.pk(t:EN)(from_:Int):EN×Int:=if t.o<0\/t.o≠from_ then(t,28) else(t.end_,0)
def EN.drop(t:EN)(s:Int):EN×Bool:=if t.o<0\/t.o≠s then(t,EI) else(t.end_,EJ)
def EN.Uu(t:EN):EN×Int:=
 if t.o<0 then(t,-1) else if sat t.oa t.om<t.om then({t with oa:=sat t.oa t.om},-1) else({t with oa:=sat t.oa t.om}.end_,t.o)
structure Xz where
 (r s q:Int)
def Xz.v(b:Xz):List Y:=[E I b.r,E I b.s,E I b.q]
structure Xz.ok(b:Xz):Prop where
 r:I_ b.r
 s:I_ b.s
 q:I_ b.q
def GA:Xz:=⟨2,4,0⟩
structure Pt where
 (c a0 a1 a2 a3 n0 n1 n2 n3:Int)
 b:Xz
def Pt.v(p:Pt):List Y:=[E I p.c,E I p.a0,E I p.a1,E I p.a2,E I p.a3,E I p.n0,E I p.n1,E I p.n2,E I p.n3,E I p.b.r,E I p.b.s,E I p.b.q]
structure Pt.ok(p:Pt):Prop where
 c:I_ p.c
 a0:I_ p.a0
 a1:I_ p.a1
 a2:I_ p.a2
 a3:I_ p.a3
 n0:I_ p.n0
 n1:I_ p.n1
 n2:I_ p.n2
 n3:I_ p.n3
structure Rec where
 (k s q e c h:Int)
deriving DecidableEq
def Rec.v(x:Rec):List Y:=[E I x.k,E I x.s,E I x.q,E I x.e,E I x.c,E I x.h]
def UC(l:List Rec):List Y:=l.flatMap Rec.v
theorem zS(l:List Rec):(UC l).length=l.length*6:=by
 induction l with
 |nil=>rfl
 |cons x r ih=>simp only[UC,kG,IY,Zn] at*;rw[ih];simp[Rec.v];omega
theorem Qh(a b:List Rec):UC (a++b)=UC a++UC b:=by simp[UC]
structure One where
 (s r a m:Int)
 n:Nat
def One.v(x:One):List Y:=[E I x.s,E I x.r,E I x.a,E I x.m,E Im x.n]
structure One.ok(x:One):Prop where
 s:I_ x.s
 r:I_ x.r
 a:0<=x.a/\x.a<=1000
 m:0<=x.m/\x.m<=1000
 n:x.n<18446744073709551616
def ID(l:List One):List Y:=l.flatMap One.v
theorem cU(l:List One):(ID l).length=l.length*5:=by
 induction l with
 |nil=>rfl
 |cons x r ih=>simp only[ID,kG,IY,Zn] at*;rw[ih];simp[One.v];omega
structure Ey where
 tok:EN
 q:List One
 T:EK
 (samples beyond mode:Int)
 En:Xz
 pt:Pt
section
variable{P:Program}
theorem Qi{T:EB}{n:Nat}(hA:IL P T n)(hg:H w g cs T)(hn:cs.size=n):(loadVar T ⟨g,0,Z⟩).run P w= .ok (Ea cs) w:=by obtain⟨⟨d,hu,hd⟩,hi⟩:=hA;cases d<;>first|(cases hd;done)|exact run_loadVar_row w g T T cs (0,0) _ hg hu rfl iO
theorem UD{q:Tmp}{T:EB}{n:Nat}(hT:IL P T n)(h:fn.results= #[.cell p T,.tmp q])(tmps:Array Y)(w:M)(g:Nat)(cs:Array Y)(v:Y) (hp:tmps.getD p I6=V (D ⟨g,0,Z⟩)) (hq:tmps.getD q I6=v) (hg:H w g cs T) (hn:cs.size=n):(UA fn tmps).run P w= .ok (Eu #[Ea cs,v]) w:=by have hp':tmps[p]?.getD I6=V (D ⟨g,0,Z⟩):=kw;have hq':tmps[q]?.getD I6=v:=kH;simp[UA,h,hp',hq',asAddr,Qi hT hg hn]
theorem jm{q r:Tmp}{T:EB}{n:Nat}(hT:IL P T n)(h:fn.results= #[.cell p T,.tmp q,.tmp r])(tmps:Array Y)(w:M)(g:Nat)(cs:Array Y)(v v2:Y) (hp:tmps.getD p I6=V (D ⟨g,0,Z⟩)) (hq:tmps.getD q I6=v) (hr:tmps.getD r I6=v2) (hg:H w g cs T) (hn:cs.size=n):(UA fn tmps).run P w= .ok (Eu #[Ea cs,v,v2]) w:=by
 have hp':tmps[p]?.getD I6=V (D ⟨g,0,Z⟩):=kw;have hq':tmps[q]?.getD I6=v:=kH;have hr':tmps[r]?.getD I6=v2:=by simpa using hr
 simp[UA,h,hp',hq',hr',asAddr,Qi hT hg hn]
end
def pp(ops:Array EP)(i k:Nat):Prop:= ∃o e,ops[i]?=D o/\e∈o.after/\UN .any e=EJ/\e.on=k
def sh(R:Nat->(Nat->Y)->M->Prop)(o:EP)(x:Nat->Y)(w:M):Prop:= ∀e∈o.after,UN .any e=EJ->R e.on x w
theorem sh.at{o:EP}(hd:sh R o x w)(j:Nat)(h:(o.after.toList.any fun e=>UN .any e&&e.on==j)=EJ):R j x w:=by exact Epa
section
variable{P:Program}{ops:Array Oper}{Q:Exit->Act->World->Prop}
@[irreducible] def Zo(Rel:M->M->Prop)(P:Jq)(ops:Array EP)(Q:UM->E_->M->Prop)(F:(Nat->Y)->E_)(R:Nat->(Nat->Y)->M->Prop)(i:Nat)(o:EP)(x:Nat->Y)(w:M):Prop:=
 if JO o (Jg ops (F x).tmps) then o.wp P (F x) w (fun a' w'=> ∃v,a'=(F x).put o.dst v/\Rel w w'/\R i (Ow x i v) w') Q
 else R i (Ow x i I6) w
def nZ(ops:Array EP):Bool:=(U4 ops.size).all fun i=>match ops[i]? with
 |none=>EI
 |some o=>o.after.all fun e=> !(UN .any e)||decide (e.on<i)
theorem Qj{ops:Array EP}(h:nZ ops=EJ){o:EP}(ho:ops[i]?=D o): ∀e∈o.after,UN .any e=EJ->e.on<i:=by have hi:=(J3.1 ho).1;have h1:=Xw.1 h i (bX.2 hi);simp only[ho] at h1;intro e he hb;have h2:=Array.all_eq_true_iff_forall_mem.1 h1 e he;rw[hb] at h2;simpa using h2
def zT(Rel:M->M->Prop)(P:Jq)(ops:Array EP)(Q:UM->E_->M->Prop)(W:M)(F:(Nat->Y)->E_)(R:Nat->(Nat->Y)->M->Prop):Nat->List EP->Prop
 |_,[]=>True
 |i,o::l=>(∀x w,Rel W w->sh R o x w->Zo Rel P ops Q F R i o x w)/\zT Rel P ops Q W F R (i+1) l
theorem IQ{Rel:M->M->Prop}(hT:Kept Rel){o:EP}{v:Y}(hw:JO o (Jg ops (F x).tmps)=EJ) (hr:(Ig (F x).eval o).run P w= .ok (.value v) w) (h:R i (Ow x i v) w):Zo Rel P ops Q F R i o x w:=by unfold Zo;exact Eq_
theorem Et{P:Jq}{ops:Array EP}{Q:UM->E_->M->Prop}{o:EP}{v:Y}(hr:(Ig (F x).eval o).run P w= .ok (.value v) w)(h:R i (Ow x i v) w)(hw:o.guard=Z:=by rfl):Zo J0 P ops Q F R i o x w:=IQ ER (Eh hw) hr h
theorem Zp{Rel:M->M->Prop}{o:EP}{v:Y}(hw:JO o (Jg ops (F x).tmps)=EJ) (hr:(Ig (F x).eval o).run P w= .ok (.value v) w') (hb:Rel w w') (h:R i (Ow x i v) w'):Zo Rel P ops Q F R i o x w:=by unfold Zo;exact Erg
theorem JL{Rel:M->M->Prop}{o:EP}(hw:JO o (Jg ops (F x).tmps)=EJ) (hr:(Ig (F x).eval o).run P w= .ok (.enter f args) w) (hc:Eg P f args w fun e w'=> ∃v,e=Ei v/\Rel w w'/\R i (Ow x i v) w'):Zo Rel P ops Q F R i o x w:=by unfold Zo;exact Eqr
end
def RX(S:Nat->Y->M->Prop)(j k:Nat)(S2:Y->M->Prop):Nat->(Nat->Y)->M->Prop:=fun i x w=>if i=j then S2 (x k) w else S i (x i) w
theorem RX.keep{Rel:M->M->Prop}{S:Nat->Y->M->Prop}{m:Nat}(h1: ∀i v w w',i<m->S i v w->Rel w w'->S i v w')(h2: ∀v w w',S2 v w->Rel w w'->S2 v w'): ∀i x w w',i<m->RX S j k S2 i x w->Rel w w'->RX S j k S2 i x w':=by
 intro i x w w' hi h hb;unfold RX at*;split;·rename_i e;rw[if_pos e] at h;exact h2 _ _ _ h hb
 ·rename_i e;rw[if_neg e] at h;exact h1 _ _ _ _ hi h hb
theorem RX.dep{S:Nat->Y->M->Prop}{m:Nat}(hw:pp ops j k): ∀i x y w,i<m->(∀q,(q=i\/pp ops i q)->x q=y q)->RX S j k S2 i x w->RX S j k S2 i y w:=by
 intro i x y w hi hq h;unfold RX at*;split;·rename_i e;rw[if_pos e] at h;subst e;rw[<-hq k (.inr hw)];exact h
 ·rename_i e;rw[if_neg e] at h;rw[<-hq i (.inl rfl)];exact h
theorem uP(h:(match ops[i]? with|some o=>o.after.toList.any (fun e=>UN .any e&&e.on==k)|none=>false)=EJ):pp ops i k:=by
 cases ho:ops[i]? with
 |none=>rw[ho] at h;cases h
 |some o=> rw[ho] at h;obtain⟨e,he,hb⟩:=List.any_eq_true.1 h;simp only[Oj,beq_iff_eq] at hb;exact⟨o,e,ho,Array.mem_toList_iff.1 he,hb.1,hb.2⟩
section
variable{P:Program}{ops:Array Oper}{Q:Exit->Act->World->Prop}{Rel:World->World->Prop}{F:(Nat->Value)->Act}{R:Nat->(Nat->Value)->World->Prop}{i:Nat}{o:Oper}{x:Nat->Value}{w:World}
theorem cX{T:EB}{n:Nat}(hA:IL P T n)(hw:JO o (Jg ops (F x).tmps)=EJ)(hl:sJ o (F x) T g cs)(hg:H w g old T)(ho:old.size=n)(hn:cs.size=n) (h1:cs.all (·.oneCell')=EJ) (hb:Rel w (w.setRow g cs)) (h:R i (Ow x i I6) (w.setRow g cs)):Zo Rel P ops Q F R i o x w:=by
 obtain⟨-,hi⟩:=hA;unfold sJ at hl;split at hl
 ·rename_i t a b hop;obtain⟨rfl,hx,hy⟩:=hl;unfold Zo;rw[if_pos hw];have hrun:(Ig (F x).eval o).run P w= .ok .skip (w.setRow g cs):=by unfold Ig;simp only[hop,hx,hy,Instr.storeAt,dp,OH,Oi,OM,run_storeVar_row _ g t t old cs hg iO (by rw[ho,hn]) h1]
  unfold dn;rw[hrun];exact⟨I6,rfl,hb,h⟩
 ·exact hl.elim
theorem jn(hT:Kept Rel){T:EB}{n g:Nat}{cs:Array Y}(hA:IL P T n)(hw:JO o (Jg ops (F x).tmps)=EJ) (hl:mY o (F x) T g) (hg:H w g cs T) (hn:cs.size=n) (h:R i (Ow x i (Ea cs)) w):Zo Rel P ops Q F R i o x w:=by
 obtain⟨⟨d,hu,hd⟩,hi⟩:=hA;unfold mY at hl;split at hl
 ·rename_i t y ho;obtain⟨rfl,hx⟩:=hl;refine IQ hT hw ?_ h;have hrun:(loadVar t ⟨g,0,Z⟩).run P w= .ok (Ea cs) w:=by cases d<;>first|(cases hd;done)|exact run_loadVar_row w g t t cs (0,0) _ hg hu rfl iO
  unfold Ig;exact EoK
 ·exact hl.elim
theorem bi(hT:Kept Rel){T TB:EB}{n g off:Nat}{cs big:Array Y}(hA:IL P T n)(hw:JO o (Jg ops (F x).tmps)=EJ) (hl:kC o (F x) T g off) (hg:H w g big TB) (hn:cs.size=n) (he:big.extract off (off+n)=cs) (h:R i (Ow x i (Ea cs)) w):Zo Rel P ops Q F R i o x w:=by
 obtain⟨⟨d,hu,hd⟩,hi⟩:=hA;unfold kC at hl;split at hl;·rename_i t y ho;obtain⟨rfl,hx⟩:=hl;refine IQ hT hw ?_ h;exact Erz
 ·exact hl.elim
end
def na(b0:Nat)(T:EB)(cs:Array Y)(w w':M):Prop:=
 w.heap.size<=w'.heap.size/\(b0<=w.heap.size->Ij b0 w w')/\
 ∀(g:Nat) (c:Array Y) (S:EB),H w g c S->H w' g c S\/(b0<=g/\S=T/\c.size=cs.size/\H w' g cs S)
theorem ia{T:EB}:Kept (na b0 T cs):=by
 refine⟨fun w=>⟨E3 _,fun _=>IU _ _,fun g c S h=> .inl h⟩,?_,fun w=>⟨E3 _,fun _=>(IU _ _).drew,fun g c S h=> .inl h⟩⟩;rintro a b c ⟨h1,h2,h3⟩ ⟨k1,k2,k3⟩;refine⟨Ew h1 k1,fun h=>(h2 h).trans (k2 (Ew h h1)),fun g d S hg=> ?_⟩;rcases h3 g d S hg with h|⟨l,e,z,h⟩;·exact k3 g d S h
 ·rcases k3 g cs S h with h'|⟨l',e',z',h'⟩;·exact .inr ⟨l,e,z,h'⟩
  ·exact .inr ⟨l,e,z,h'⟩
theorem Qk{T:EB}(hb:El w w'):na b0 T cs w w':=⟨hb.size,fun h=>hb.mono h,fun g c S h=> .inl (h.B hb)⟩
theorem EOz{T:EB}(hk:H w g old T)(hg:b0<=g)(hs:old.size=cs.size):na b0 T cs w (w.setRow g cs):=by
 refine⟨Ej,fun h=>EY (g:=g) (IU b0 w) hg cs,fun k c S h=> ?_⟩;by_cases e:k=g;·subst e;have e2:=(show D (Eb c S (0,0))=D (Eb old T (0,0)) from h.symm.trans hk);injection e2 with e2;injection e2 with e3 e4;subst e3 e4;exact .inr ⟨hg,O,hs,hk.setRow cs⟩
 ·exact .inl (h.setRow_other g cs e)
theorem Ql{T:EB}{c:Array Y}(h:na b0 T cs w w')(hk:H w g c S)(hn:g<b0\/S≠T\/c.size≠cs.size):H w' g c S:=by
 rcases h.2.2 g c S hk with h1|⟨l,e,z,-⟩;·exact h1
 ·rcases hn with hn|hn|hn;·omega
  ·exact absurd e hn
  ·exact absurd z hn
theorem EOA{T:EB}{c:Array Y}(h:na b0 T cs w w')(hk:H w g c T)(hs:c.size=cs.size): ∃c',c'.size=cs.size/\H w' g c' T:=by
 rcases h.2.2 g c T hk with h1|⟨-,-,-,h1⟩;·exact⟨c,hs,h1⟩
 ·exact⟨cs,O,h1⟩
theorem EOB{T:EB}(h:na b0 T cs w w')(hk:H w g cs T):H w' g cs T:=by
 rcases h.2.2 g cs T hk with h1|⟨-,-,-,h1⟩;·exact h1
 ·exact h1
def gd(ops:Array EP):Nat->Nat->Nat->Bool
 |0,_,_=>EI
 |f+1,i,k=>match ops[i]? with
  |none=>EI
  |some o=>o.after.any fun e=>UN .any e&&(e.on==k||gd ops f e.on k)
theorem zV{ops:Array EP}{listed:Array Bool}(hcl:fa ops listed): ∀(f i k:Nat),gd ops f i k=EJ->i<ops.size->listed.getD i EJ=EJ->listed.getD k EJ=EJ
 |0,_,_,h,_,_=>UL
 |f+1,i,k,h,hi,hl=>by
  unfold gd at h;rw[kA hi] at h;simp only at h;obtain⟨e,he,hb⟩:=Array.any_eq_true'.1 h;simp only[Oj,nJ,beq_iff_eq] at hb;have h1:=hcl i _ (kA hi) hl e he hb.1;rcases hb.2 with h2|h2;·rw[<-h2];exact h1
  ·by_cases he2:e.on<ops.size;·exact zV hcl f e.on k h2 he2 h1
   ·cases f with
    |zero=>cases h2
    |succ f=>unfold gd at h2;rw[iJ U] at h2;cases h2
def kK(ops:Array EP)(cs:List Nat)(ks:List (Nat×Nat)):Bool:=ks.length==ops.size&&cs.all (fun c=>decide (c<ops.size))&&decide cs.Nodup&&(U4 ops.size).all fun i=>match ks[i]? with
 |some (lo,hi)=>(U4 cs.length).all (fun j=>match cs[j]? with
  |some c=>if c=i then decide (lo=j)&&decide (hi=j) else(decide (lo<=j)||gd ops ops.size i c)&&(decide (j<hi)||gd ops ops.size c i)
  |none=>EI)
 |none=>EI
def cnt(cs:List Nat)(listed:Array Bool):Nat:=(cs.filter fun c=>listed.getD c EJ).length
theorem GB{listed:Array Bool}: ∀(cs:List Nat) (lo:Nat),lo<=cs.length->(∀j c,j<lo->cs[j]?=D c->listed.getD c EJ=EJ)->lo<=cnt cs listed
 |_,0,_,_=>aO _
 |[],_+1,h,_=>absurd h Ej
 |c::cs,lo+1,h,hl=>by have h0:=hl 0 c U O;have ih:=GB cs lo Ov (fun j c' hj hc=>hl (j+1) c' U zW);unfold cnt at*;rw[nf,if_pos h0];simpa using ih
theorem uQ{listed:Array Bool}: ∀(cs:List Nat) (hi:Nat),(∀j c,hi<=j->cs[j]?=D c->listed.getD c EJ=EI)->cnt cs listed<=hi
 |[],_,_=>aO _
 |c::cs,0,hl=>by have h0:=hl 0 c (E3 _) O;have ih:=uQ cs 0 (fun j c' _ hc=>hl (j+1) c' U zW);unfold cnt at*;rw[nf,if_neg (by rw[h0];exact Bool.false_ne_true)];exact ih
 |c::cs,hi+1,hl=>by
  have ih:=uQ cs hi (fun j c' hj hc=>hl (j+1) c' U zW);unfold cnt at*;rw[nf];split;·simpa using ih
  ·omega
theorem zY{listed:Array Bool}{i:Nat}: ∀(cs:List Nat),i∉cs->cnt cs (listed.setIfInBounds i EJ)=cnt cs listed
 |[],_=>rfl
 |c::cs,h=>by
  have hne:i≠c:=fun e=>h (by rw[e];exact dq);have ih:=zY (listed:=listed) cs (fun hm=>h (XU _ hm));unfold cnt at*;rw[nf,nf,aq EJ hne];split;·rw[Zn,Zn,ih]
  ·exact ih
theorem Qm{listed:Array Bool}{i:Nat}(hi:i<listed.size)(hu:listed.getD i EJ=EI): ∀(cs:List Nat),cs.Nodup->i∈cs->cnt cs (listed.setIfInBounds i EJ)=cnt cs listed+1
 |[],_,h=>UL
 |c::cs,hn,h=>by
  have hset:(listed.setIfInBounds i EJ).getD i EJ=EJ:=by simp[hi]
  by_cases e:i=c;·subst e;have ho:=zY (listed:=listed) cs (nI.1 hn).1;unfold cnt at*;rw[nf,if_pos hset,nf,if_neg (by rw[hu];exact Bool.false_ne_true),Zn,ho]
  ·have hm:i∈cs:=by
    rcases UJ.1 h with h|h;·exact absurd h e
    ·exact h
   have ih:=Qm hi hu cs (nI.1 hn).2 hm;unfold cnt at*;rw[nf,nf,aq EJ e];split;·rw[Zn,Zn,ih]
   ·exact ih
theorem Qn{cs:List Nat}(h:kK ops cs ks=EJ):(∀c∈cs,c<ops.size)/\cs.Nodup/\ ∀i,i<ops.size-> ∃lo hi,ks[i]?=D (lo,hi)/\ ∀j c,cs[j]?=D c->(c=i->lo=j/\hi=j)/\(c≠i->(lo<=j\/gd ops ops.size i c=EJ)/\(j<hi\/gd ops ops.size c i=EJ)):=by
 unfold kK at h;simp only[Oj] at h;obtain⟨⟨⟨-,h1⟩,h2⟩,h3⟩:=h;refine⟨fun c hc=>of_decide_eq_true (Xw.1 h1 c hc),of_decide_eq_true h2,fun i hi=> ?_⟩;have h4:=Xw.1 h3 i (bX.2 hi);cases hk:ks[i]? with
 |none=>rw[hk] at h4;cases h4
 |some p=>
  obtain⟨lo,hi'⟩:=p;rw[hk] at h4;refine⟨lo,hi',O,fun j c hj=> ?_⟩;have hjl:=(Xx.1 hj).1;have h5:=Xw.1 h4 j (bX.2 hjl);rw[hj] at h5;by_cases e:c=i;·simp only[if_pos e,Oj,decide_eq_true_eq] at h5;exact⟨fun _=>h5,fun h=>absurd e h⟩
  ·simp only[if_neg e,Oj,nJ,decide_eq_true_eq] at h5;exact⟨fun h=>absurd h e,fun _=>h5⟩
section
variable{P:Program}{ops:Array Oper}{Q:Exit->Act->World->Prop}
def GC(Ph:Nat->M->Prop)(Rel Iw:M->M->Prop)(P:Jq)(ops:Array EP)(Q:UM->E_->M->Prop)(F:(Nat->Y)->E_)(R:Nat->(Nat->Y)->M->Prop)(c:Bool)(lo hi i:Nat)(o:EP):Prop:=match c with
 |true=> ∀x w,Ph lo w->sh R o x w->Zo (fun w w'=>Iw w w'/\Ph (lo+1) w') P ops Q F R i o x w
 |false=> ∀x w p,lo<=p->p<=hi->Ph p w->sh R o x w->Zo Rel P ops Q F R i o x w
theorem EOC{Rel Iw:M->M->Prop}{cs:List Nat}(hB:nZ ops=EJ)(hK:kK ops cs ks=EJ)(hlk: ∀(i lo hi:Nat),ks[i]?=D (lo,hi)->lo<=cs.length) (hPh: ∀b w w',Ph b w->Rel w w'->Ph b w') (hF: ∀i o x v,i<ops.size->ops[i]?=D o->(F x).put o.dst v=F (Ow x i v)) (hR: ∀i x w w',i<ops.size->R i x w->Rel w w'->R i x w') (hR2: ∀i x w w' c,i<ops.size->c∈cs->i≠c->gd ops ops.size i c=EI->R i x w->Iw w w'->R i x w') (hD: ∀i x y w,i<ops.size->(∀k,(k=i\/pp ops i k)->x k=y k)->R i x w->R i y w) (hcw: ∀c o x,c∈cs->ops[c]?=D o->JO o (Jg ops (F x).tmps)=EJ) (hstep: ∀(i:Nat) (o:EP) (lo hi:Nat),ops[i]?=D o->ks[i]?=D (lo,hi)->GC Ph Rel Iw P ops Q F R (decide (i∈cs)) lo hi i o) (hend: ∀x w,Ph cs.length w->(∀i,i<ops.size->R i x w)->Ib P ops Q [] (F x) w): ∀(fuel:Nat) (listed:Array Bool) (x:Nat->Y) (w:M),(XH ops listed).length<=fuel->listed.size=ops.size->fa ops listed->Ph (cnt cs listed) w-> (∀i,i<ops.size->listed.getD i EJ=EJ->R i x w)->wpAny P .any ops Q fuel listed (F x) w:=by
 obtain⟨hcs,hcn,hKs⟩:=Qn hK
 have done: ∀(fuel:Nat) (listed:Array Bool) (x:Nat->Y) (w:M),(∀j,j<ops.size->listed.getD j EJ=EJ)->Ph (cnt cs listed) w->(∀i,i<ops.size->listed.getD i EJ=EJ->R i x w)->wpAny P .any ops Q fuel listed (F x) w:=by
  intro fuel listed x w hall hb hr;have hcl:cnt cs listed=cs.length:=by unfold cnt;rw[List.filter_eq_self.2 fun c hc=>hall c (hcs c hc)]
  rw[hcl] at hb;refine wpAny_done ?_ (hend x w hb fun i hi=>hr i hi (hall i hi)) fuel;rw[List.eq_nil_iff_forall_not_mem];intro j hj;obtain⟨h1,o,ho,-⟩:=ZR.1 hj;have hjn:=(J3.1 ho).1;rw[hall j hjn] at h1;cases h1
 intro fuel;induction fuel with
 |zero=>
  intro listed x w hf hs hcl hb hr;refine done 0 listed x w (fun j hj=> ?_) hb hr;cases hlj:listed.getD j EJ;·have:j∈XH ops listed:=m_.2 ⟨hj,hlj⟩;rw[List.length_eq_zero_iff.1 (Nat.le_zero.1 hf)] at this;cases this
  ·rfl
 |succ fuel ih=>
  intro listed x w hf hs hcl hb hr;by_cases hall: ∀j,j<ops.size->listed.getD j EJ=EJ;·exact done (fuel+1) listed x w hall hb hr
  ·refine⟨fun h0=> ?_,fun i hi=> ?_⟩
   ·exfalso
    have hex: ∃j,j<ops.size/\listed.getD j EJ=EI:=by
     apply sd;intro hno
     exact hall fun j hj=>by
      cases hlj:listed.getD j EJ;·exact absurd ⟨j,hj,hlj⟩ hno
      ·rfl
    have hmin: ∃j,(j<ops.size/\listed.getD j EJ=EI)/\ ∀k,k<j-> ¬(k<ops.size/\listed.getD k EJ=EI):=by
     obtain⟨j,hj⟩:=hex;induction j using Nat.strongRecOn with
     |ind j pZ=>
      by_cases h: ∃k,k<j/\(k<ops.size/\listed.getD k EJ=EI);·exact EpD
      ·exact Epn
    obtain⟨j,⟨hjn,hj⟩,hlt⟩:=hmin;have ho:ops[j]?=D ops[j]:=kA hjn
    have:j∈ky .any ops listed:=by
     refine ZR.2 ⟨hj,_,ho,fun e he hbe=> ?_⟩;have h1:=Qj hB ho e he hbe;have h2:=hlt e.on h1;have h3:e.on<listed.size:=U;cases hlj:listed.getD e.on EJ;·exact absurd ⟨U,hlj⟩ h2
     ·simpa[h3] using hlj
    rw[h0] at this;cases this
   ·obtain⟨h1,o,ho,pd⟩:=ZR.1 hi;have hin:=(J3.1 ho).1;have hdr:sh R o x w:=by intro e he hb';have h3:=pd e he hb';have h4:=Qj hB ho e he hb';have h5:e.on<listed.size:=U;exact hr e.on U zD
    obtain⟨lo,hi',hk,hkc⟩:=hKs i hin;have st:=hstep i o lo hi' ho hk;have Qo:=hcl.set hs hi;have hset:(listed.setIfInBounds i EJ).getD i EJ=EJ:=by exact EpC
    have next: ∀v w',Ph (cnt cs (listed.setIfInBounds i EJ)) w'->(∀j,j<ops.size->j≠i->listed.getD j EJ=EJ->R j x w')->R i (Ow x i v) w'->wpAny P .any ops Q fuel (listed.setIfInBounds i EJ) ((F x).put o.dst v) w':=by
     intro v w' hb' hrs hv;rw[hF i o x v hin ho];have hlt:=uC hs hin h1;refine ih _ _ w' U pX Qo hb' (fun j hj hl=> ?_);by_cases hji:j=i;·subst hji;exact hv
     ·rw[aq EJ (fun e=>hji e.symm)] at hl;refine hD j x _ w' hj (fun q hq=> ?_) (hrs j hj hji hl);rw[pJ];intro hqi;rw[hqi] at hq;rcases hq with hq|⟨oj,e,hoj,he,hbe,hek⟩;·exact hji hq.symm
      ·have h5:=hcl j oj hoj hl e he hbe;rw[hek] at h5;rw[h5] at h1;cases h1
    have early: ∀j c,cs[j]?=D c->c≠i->j<lo->listed.getD c EJ=EJ:=by
     intro j c hj hne hlt;rcases((hkc j c hj).2 hne).1 with h|h;·omega
     ·have:=zV Qo _ i c h hin hset;rwa [aq EJ (fun e=>hne e.symm)] at this
    have late: ∀j c,cs[j]?=D c->c≠i->hi'<=j->listed.getD c EJ=EI:=by
     intro j c hj hne hle;rcases((hkc j c hj).2 hne).2 with h|h;·omega
     ·cases hlc:listed.getD c EJ;·rfl
      ·have:=zV hcl _ c i h (hcs c (gO.2 ⟨j,hj⟩)) hlc;rw[this] at h1;cases h1
    by_cases hic:i∈cs
    ·obtain⟨j0,hj0⟩:=gO.1 hic;obtain⟨e1,e2⟩:=(hkc j0 i hj0).1 rfl;have hjl:=(Xx.1 hj0).1;have uniq: ∀j,cs[j]?=D i->j=j0:=by intro j hj;have Elx:=(Xx.1 hj).1;have h5:=(Xx.1 hj).2;have h6:=(Xx.1 hj0).2;exact(List.getElem_inj hcn).1 (h5.trans h6.symm)
     have hcnt:cnt cs listed=lo:=by
      refine Nat.le_antisymm (uQ cs lo fun j c hj hc=> ?_) (GB cs lo U fun j c hj hc=> ?_)
      ·by_cases e:c=i;·subst e;exact h1
       ·exact late j c hc e U
      ·by_cases e:c=i;·subst e;have:=uniq j hc;omega
       ·exact early j c hc e hj
     rw[IJ hic] at st;rw[hcnt] at hb;have st:=st x w hb hdr;unfold wpOp;simp only[ho];unfold Zo at st;rw[if_pos (hcw i o x hic ho)] at st⊢;refine .inl (Oper.wp_mono (fun a' w' h'=> ?_) st);obtain⟨v,rfl,⟨hb',hph⟩,hv⟩:=h';exact next v w' (by rw[Qm U h1 cs hcn hic,hcnt];exact hph) (fun j hj hji hl=>hR2 j _ w w' i hj hic hji (by cases hrb:gd ops ops.size j i with|false=>rfl|true=>exact absurd (zV hcl _ j i hrb hj hl) (by rw[h1];decide)) (hr j hj hl) hb') hv
    ·rw[IZ hic] at st;have hne: ∀j c,cs[j]?=D c->c≠i:=fun j c hj e=>hic (by rw[<-e];exact gO.2 ⟨j,hj⟩);have hlo2:lo<=cnt cs listed:=GB cs lo (hlk i lo hi' hk) fun j c hj hc=>early j c hc (hne j c hc) hj;have EOG:cnt cs listed<=hi':=uQ cs hi' fun j c hj hc=>late j c hc (hne j c hc) hj;have st:=st x w _ hlo2 EOG hb hdr;unfold wpOp;simp only[ho];unfold Zo at st;split;·rename_i hw;rw[if_pos hw] at st;refine .inl (Oper.wp_mono (fun a' w' h'=> ?_) st);obtain⟨v,rfl,hb',hv⟩:=h';exact next v w' (by rw[zY cs hic];exact hPh _ _ _ hb hb') (fun j hj _ hl=>hR j _ w w' hj (hr j hj hl) hb') hv
     ·rename_i hw;rw[if_neg hw] at st;exact next I6 w (by rw[zY cs hic];exact hb) (fun j hj _ hl=>hr j hj hl) st
def ib(Ph:Nat->M->Prop)(Rel Iw:M->M->Prop)(P:Jq)(ops:Array EP)(Q:UM->E_->M->Prop)(F:(Nat->Y)->E_)(R:Nat->(Nat->Y)->M->Prop)(cs:List Nat):Nat->List EP->List (Nat×Nat)->Prop
 |i,o::l,(lo,hi)::ks=>GC Ph Rel Iw P ops Q F R (decide (i∈cs)) lo hi i o/\ib Ph Rel Iw P ops Q F R cs (i+1) l ks
 |_,_,_=>True
theorem ib.at{Ph:Nat->M->Prop}{Rel Iw:M->M->Prop}{F:(Nat->Y)->E_}{R:Nat->(Nat->Y)->M->Prop}{cs:List Nat}: ∀(l:List EP) (ks:List (Nat×Nat)) (i:Nat),ib Ph Rel Iw P ops Q F R cs i l ks-> ∀j o lo hi,l[j]?=D o->ks[j]?=D (lo,hi)->GC Ph Rel Iw P ops Q F R (decide (i+j∈cs)) lo hi (i+j) o
 |[],_,_,_,_,_,_,_,h,_=>sU
 |_::_,[],_,_,_,_,_,_,_,h=>sU
 |p::l,(a,b)::ks,i,hs,0,o,lo,hi,h,h2=>by simp at h h2;obtain⟨rfl,rfl⟩:=h2;subst h;exact hs.1
 |p::l,(a,b)::ks,i,hs,j+1,o,lo,hi,h,h2=>by have:=ib.at l ks (i+1) hs.2 j o lo hi Ov (by simpa using h2);rw[show i+(j+1)=i+1+j from U];exact this
theorem z4{Rel Iw:M->M->Prop}{a0:E_}(cs:List Nat)(ks:List (Nat×Nat))(hm:P.follows .mixedOrders=EJ)(hB:nZ l.toArray=EJ)(hK:kK l.toArray cs ks=EJ)(hlk:(ks.all fun p=>decide (p.1<=cs.length))=EJ)(hnd:(Ub l).Nodup)(R:Nat->(Nat->Y)->M->Prop) (hcg:(cs.all fun c=>match l[c]? with|some o=>o.guard.isNone|none=>false)=EJ) (hPh: ∀b w w',Ph b w->Rel w w'->Ph b w') (hR: ∀i x w w',i<l.length->R i x w->Rel w w'->R i x w') (hR2: ∀i x w w' c,i<l.length->c∈cs->i≠c->gd l.toArray l.toArray.size i c=EI->R i x w->Iw w w'->R i x w') (hD: ∀i x y w,i<l.length->(∀k,(k=i\/pp l.toArray i k)->x k=y k)->R i x w->R i y w) (h0:Ph 0 w0.drew) (hstep:ib Ph Rel Iw P l.toArray Q (fun x=>EM l 0 x a0) R cs 0 l ks) (hend: ∀x w,Ph cs.length w->(∀i,i<l.length->R i x w)->Ib P l.toArray Q [] (EM l 0 x a0) w):(bU id l.toArray EJ).wp P Q a0 w0:=by
 have uD:EM l 0 (held l a0) a0=a0:=pO a0 _ 0 _ (fun k o ho d hd=>by unfold held;rw[Ox,ho];simp only[hd]);refine wp_region_any hm ?_
 have key:=EOC (P:=P) (Q:=Q) (ops:=l.toArray) (Ph:=Ph) (Rel:=Rel) (Iw:=Iw) (cs:=cs) (ks:=ks) (F:=fun x=>EM l 0 x a0) (R:=R) hB hK (by
  intro i lo hi h;have:=Xw.1 hlk (lo,hi) (gO.2 ⟨i,h⟩);simpa using this) hPh
  (fun i o x v hi ho=>by have:=sO l 0 i x a0 o v hnd zy;rw[Ox] at this;exact this) (fun i x w w' hi=>hR i x w w' U5) (fun i x w w' c hi hc hne hrb=>hR2 i x w w' c U5 hc hne hrb) (fun i x y w hi=>hD i x y w U5)
  (fun c o x hc ho=>by
   have h1:=Xw.1 hcg c hc;have:l[c]?=D o:=zy;rw[this] at h1;simp only at h1;unfold JO;cases hg:o.guard with
   |none=>rfl
   |some g=>rw[hg] at h1;cases h1)
  (fun i o lo hi ho hk=>by have:=ib.at l ks 0 hstep i o lo hi zy hk;rwa [Ox] at this)
  (fun x w hp hr=>hend x w hp fun i hi=>hr i U5)
  l.toArray.size (b_ l.toArray.size EI) (held l a0) w0.drew ?_ Ej ?_ ?_ ?_
 ·simp only[uD] at key;exact key
 ·exact Epu
 ·intro j o ho h;by_cases hj:j<l.toArray.size
  ·have:j<l.length:=by simpa using hj
   simp[this] at h
  ·exact absurd (J3.1 ho).1 hj
 ·have hz:cnt cs (b_ l.toArray.size EI)=0:=by
   refine Nat.le_zero.1 (uQ cs 0 fun j c _ hj=> ?_);have:=(Qn hK).1 c (gO.2 ⟨j,hj⟩);have h2:c<l.length:=by exact EpY
   simp[h2]
  rw[hz];exact h0
 ·intro i hi h;have:i<l.length:=U5;simp[this] at h
theorem EOH{Rel Iw:M->M->Prop}{a0:E_}(cs:List Nat)(ks:List (Nat×Nat))(hm:P.follows .mixedOrders=EJ)(hB:nZ l.toArray=EJ)(hK:kK l.toArray cs ks=EJ)(hlk:(ks.all fun p=>decide (p.1<=cs.length))=EJ)(hnd:(Ub l).Nodup)(R:Nat->(Nat->Y)->M->Prop) (hcg:(cs.all fun c=>match l[c]? with|some o=>o.guard.isNone|none=>false)=EJ) (hPh: ∀b w w',Ph b w->Rel w w'->Ph b w') (hR: ∀i x w w',i<l.length->R i x w->Rel w w'->R i x w') (hR2: ∀i x w w',i<l.length->R i x w->Iw w w'->R i x w') (hD: ∀i x y w,i<l.length->(∀k,(k=i\/pp l.toArray i k)->x k=y k)->R i x w->R i y w) (h0:Ph 0 w0.drew) (hstep:ib Ph Rel Iw P l.toArray Q (fun x=>EM l 0 x a0) R cs 0 l ks) (hend: ∀x w,Ph cs.length w->(∀i,i<l.length->R i x w)->Ib P l.toArray Q [] (EM l 0 x a0) w):(bU id l.toArray EJ).wp P Q a0 w0:=
 z4 cs ks hm hB hK hlk hnd R hcg hPh hR (fun i x w w' _ hi _ _ _=>hR2 i x w w' hi) hD h0 hstep hend
theorem Qp{Rel Iw:M->M->Prop}{W:M}{F:(Nat->Y)->E_}{R:Nat->(Nat->Y)->M->Prop}{ops:Array EP}: ∀(l:List EP) (i:Nat),zT Rel P ops Q W F R i l->ib (fun _ w=>Rel W w) Rel Iw P ops Q F R [] i l (fh l.length (0,0))
 |[],_,_=>trivial
 |_::l,i,h=>⟨fun x w _ _ _ hp hd=>h.1 x w hp hd,Qp l (i+1) h.2⟩
theorem EOK{Rel:M->M->Prop}(hT:Kept Rel){a0:E_}(hm:P.follows .mixedOrders=EJ)(m:Nat)(hB:nZ l.toArray=EJ)(hmn:m=l.length)(hnd:(Ub (l.take m)).Nodup)(R:Nat->(Nat->Y)->M->Prop) (hR: ∀i x w w',i<m->R i x w->Rel w w'->R i x w') (hD: ∀i x y w,i<m->(∀k,(k=i\/pp l.toArray i k)->x k=y k)->R i x w->R i y w) (hstep:zT Rel P l.toArray Q w0 (fun x=>EM (l.take m) 0 x a0) R 0 (l.take m)) (hend: ∀x w,Rel w0 w->(∀i,i<m->R i x w)->Ib P l.toArray Q (l.drop m) (EM (l.take m) 0 x a0) w):(bU id l.toArray EJ).wp P Q a0 w0:=by
 subst hmn;simp only[List.take_length,List.drop_length] at*;refine z4 (Ph:=fun _ w=>Rel w0 w) (Rel:=Rel) (Iw:=fun _ _=>True) [] (fh l.length (0,0)) hm hB ?_ ?_ hnd R O (fun _ w w' h hr=>hT.2.1 _ _ _ h hr) hR (fun _ _ _ _ c _ hc=>by cases hc) hD (hT.2.2 w0) (Qp _ _ hstep) (fun x w h hr=>hend x w h hr);·unfold kK;simp;intro x hx;rw[List.getElem?_replicate,if_pos hx]
 ·simp
end
structure JT(Y8:Nat->EB->Option (Array Y))(w w':M):Prop where
 os:w'.os=w.os
 tape:w'.tape=w.tape
 output:w'.output=w.output
 size:w.heap.size<=w'.heap.size
 keep: ∀k,k<w.heap.size->(∀c S,H w k c S->Y8 k S=Z)->w'.heap[k]?=w.heap[k]?
 sj: ∀k c S,H w k c S->H w' k c S\/ ∃cs,Y8 k S=D cs/\cs.size=c.size/\H w' k cs S
section
variable{Y8:Nat->TypeId->Option (Array Value)}{w w' w'':World}
theorem JT.refl(w:M):JT Y8 w w:=⟨O,O,O,E3 _,fun _ _ _=>rfl,fun _ _ _ h=> .inl h⟩
theorem JT.trans(h:JT Y8 w w')(k:JT Y8 w' w''):JT Y8 w w'':=by
 refine⟨k.os.trans h.os,k.tape.trans h.tape,k.output.trans h.output,Ew h.size k.size,fun i hi hm=> ?_,fun i c S hb=> ?_⟩;·have e:=h.keep i hi hm;refine(k.keep i (gX hi h.size) fun c S hb=>hm c S ?_).trans e;unfold H at*;rw[<-e];exact hb
 ·rcases h.sj i c S hb with h1|⟨cs,e,s,h1⟩;·exact k.sj i c S h1
  ·rcases k.sj i cs S h1 with h2|⟨cs',e',s',h2⟩;·exact .inr ⟨cs,e,s,h2⟩
   ·exact .inr ⟨cs',e',s'.trans s,h2⟩
theorem JT.kept:Kept (JT Y8):=⟨JT.refl,fun _ _ _ h k=>h.trans k,fun w=>⟨O,O,O,E3 _,fun _ _ _=>rfl,fun _ _ _ h=> .inl h⟩⟩
theorem JT.B(h:El w w'):JT Y8 w w':=⟨h.os,h.tape,h.output,h.size,fun k hk _=>h.block k hk,fun _ _ _ hb=> .inl (hb.B h)⟩
theorem JT.Ek(h:JT Y8 w w'){g:Nat}{c:Array Y}{S:EB}(k:H w g c S)(hm:Y8 g S=Z):H w' g c S:=by
 rcases h.sj g c S k with h1|⟨cs,e,-⟩;·exact h1
 ·rw[hm] at e;cases e
theorem JT.same(h:JT Y8 w w'){g:Nat}{c:Array Y}{S:EB}(k:H w g c S)(hm: ∀cs,Y8 g S=D cs->cs=c):H w' g c S:=by
 rcases h.sj g c S k with h1|⟨cs,e,-,h1⟩;·exact h1
 ·rw[hm cs e] at h1;exact h1
theorem JT.some(h:JT Y8 w w'){g:Nat}{c:Array Y}{S:EB}(k:H w g c S): ∃c',c'.size=c.size/\H w' g c' S:=by
 rcases h.sj g c S k with h1|⟨cs,-,s,h1⟩;·exact⟨c,O,h1⟩
 ·exact⟨cs,s,h1⟩
theorem JT.setRow(k:H w g old S)(hm:Y8 g S=Option.some cs)(hs:cs.size=old.size):JT Y8 w (w.setRow g cs):=by
 refine⟨O,O,O,Ej,fun i hi hn=>setRow_other w g i cs fun e=> ?_,fun i c T hb=> ?_⟩;·subst e;have:=hn old S k;rw[hm] at this;cases this
 ·by_cases e:i=g;·subst e;have e2:=(show Option.some (Eb c T (0,0))=Option.some (Eb old S (0,0)) from hb.symm.trans k);injection e2 with e2;injection e2 with e3 e4;subst e3 e4;exact .inr ⟨cs,hm,hs,k.setRow cs⟩
  ·exact .inl (hb.setRow_other g cs e)
theorem JT.Qq{hi:Nat}(h:JT Y8 w w')(hh:hi<=w.heap.size)(hm: ∀k S cs,Y8 k S=Option.some cs->hi<=k):Ij hi w w':=
 ⟨h.os,h.tape,h.output,h.size,fun k hk=>h.keep k U fun c S _=>by
  cases e:Y8 k S with
  |none=>rfl
  |some cs=>have:=hm k S cs e;omega⟩
end
def EOL(n0:Nat)(T:EB)(n:Nat)(v:Y)(w:M):Prop:= ∃(b:Nat) (c:Array Y),v=V (D ⟨b,0,Z⟩)/\n0<=b/\c.size=n/\H w b c T
def EOM(n0:Nat)(T:EB)(cs:Array Y)(v:Y)(w:M):Prop:= ∃b:Nat,v=V (D ⟨b,0,Z⟩)/\n0<=b/\H w b cs T
inductive Kn where
 |val (p:Y->Prop)
 |made (T:EB) (n:Nat)
 |into (k:Nat) (T:EB) (cs:Array Y)
 |onto (g:Nat) (T:EB) (cs:Array Y)
instance(x):CoeDep KQ (KQ.kq x) Kn:=⟨.val fun v=>v=x⟩
instance(g i):CoeDep KQ (KQ.kp g i) Kn:=⟨.val fun v=>v=V (D ⟨g,i,Z⟩)⟩
def RK(n0:Nat)(K:Nat->Kn)(i:Nat)(x:Nat->Y)(w:M):Prop:=match K i with
 | .val p=>p (x i)
 | .made T n=>EOL n0 T n (x i) w
 | .into k T cs=>EOM n0 T cs (x k) w
 | .onto g T cs=>H w g cs T
theorem RK.keep{n0:Nat}{K:Nat->Kn}{Rel:M->M->Prop}{n:Nat}(h1: ∀i T m,i<n->K i= .made T m-> ∀b c w w',H w b c T->Rel w w'-> ∃c',c'.size=c.size/\H w' b c' T) (h2: ∀i k T cs,i<n->K i= .into k T cs-> ∀b w w',n0<=b->H w b cs T->Rel w w'->H w' b cs T) (h3: ∀i g T cs,i<n->K i= .onto g T cs-> ∀w w',H w g cs T->Rel w w'->H w' g cs T): ∀i x w w',i<n->RK n0 K i x w->Rel w w'->RK n0 K i x w':=by
 intro i x w w' hi h hr;unfold RK at*;cases e:K i with
 |val p=>rw[e] at h;exact h
 |made T m=> rw[e] at h;obtain⟨b,c,hv,hb,hs,hk⟩:=h;obtain⟨c',hs',hk'⟩:=h1 i T m hi e b c w w' hk hr;exact⟨b,c',hv,hb,hs'.trans hs,hk'⟩
 |into k T cs=> rw[e] at h;obtain⟨b,hv,hb,hk⟩:=h;exact⟨b,hv,hb,h2 i k T cs hi e b w w' hb hk hr⟩
 |onto g T cs=>rw[e] at h;exact h3 i g T cs hi e w w' h hr
def kM(n0:Nat)(Ks:List Kn)(b:Nat)(S:EB):Option (Array Y):=Ks.findSome? fun k=>match k with
 | .into _ T cs=>if n0<=b/\S=T then D cs else Z
 | .onto g T cs=>if b=g/\S=T then D cs else Z
 |_=>Z
theorem Qr{n0:Nat}{Ks:List Kn}{b:Nat}(h:kM n0 Ks b S=D cs): ∃k∈Ks,(∃j,k= .into j S cs/\n0<=b)\/(k= .onto b S cs):=by
 unfold kM at h;obtain⟨k,hk,hv⟩:=List.exists_of_findSome?_eq_some h;refine⟨k,hk,?_⟩;cases k with
 |val p=>cases hv
 |made T n=>cases hv
 |into j T c=>
  simp only at hv;split at hv;·rename_i he;obtain⟨h1,rfl⟩:=he;injection hv with hv;subst hv;exact .inl ⟨j,rfl,h1⟩
  ·cases hv
 |onto g T c=>
  simp only at hv;split at hv;·rename_i he;obtain⟨rfl,rfl⟩:=he;injection hv with hv;subst hv;exact .inr rfl
  ·cases hv
theorem EON{n0:Nat}{Ks:List Kn}{b:Nat}{hi:Nat}(h:kM n0 Ks b S=D cs)(hon: ∀g T c,Kn.onto g T c∈Ks->hi<=g)(hn:hi<=n0):hi<=b:=by
 obtain⟨k,hk,⟨j,-,h1⟩|e⟩:=Qr h;·exact Ew hn h1
 ·subst e;exact hon b S cs hk
def Kn.st:Kn->Option EB
 | .into _ T _=>D T
 | .onto _ T _=>D T
 |_=>Z
def Kn.ty:Kn->Option EB
 | .made T _=>D T
 | .into _ T _=>D T
 | .onto _ T _=>D T
 |_=>Z
theorem Qs{n0:Nat}: ∀{Ks:List Kn},(Ks.filterMap Kn.st).Nodup-> ∀{b:Nat} {T:EB} {cs c':Array Y} {k:Kn},k∈Ks->(k.st=D T)->(∀c,(∃j,k= .into j T c)\/(∃g,k= .onto g T c)->c=cs)->kM n0 Ks b T=D c'->c'=cs:=by
 intro Ks hn b T cs c' k hk ht hc h;obtain⟨k',hk',h'⟩:=Qr h;have ht':k'.st=D T:=by rcases h' with⟨j,rfl,-⟩|rfl<;>rfl
 have e:k=k':=by
  obtain⟨i,hi⟩:=gO.1 hk;obtain⟨i',hi'⟩:=gO.1 hk';clear hc h h' hk hk';induction Ks generalizing i i' with
  |nil=>simp at hi
  |cons a r ih=>
   have hr:(r.filterMap Kn.st).Nodup:=by
    cases ha:a.st with
    |none=>rw[List.filterMap_cons_none ha] at hn;exact hn
    |some s=>rw[List.filterMap_cons_some ha] at hn;exact(nI.1 hn).2
   have hmem: ∀(q:Kn) (Y3:Nat),r[Y3]?=D q->q.st=D T->a.st≠D T:=by intro q Y3 hu hq ha;rw[List.filterMap_cons_some ha] at hn;exact(nI.1 hn).1 (nE.2 ⟨q,gO.2 ⟨Y3,hu⟩,hq⟩)
   cases i with
   |zero=>
    cases i' with
    |zero=>simp at hi hi';exact hi.symm.trans hi'
    |succ Y3=>simp at hi hi';subst hi;exact absurd ht (hmem k' Y3 hi' ht')
   |succ v=>
    cases i' with
    |zero=>simp at hi hi';subst hi';exact absurd ht' (hmem k v hi ht)
    |succ Y3=>exact ih hr v U5 Y3 (by simpa using hi')
 subst e;rcases h' with⟨j,e,-⟩|e;·exact hc c' (.inl ⟨j,e⟩)
 ·exact hc c' (.inr ⟨b,e⟩)
def kN(Ks:List Kn)(i:Nat):Kn:=Ks.getD i (.val fun _=>True)
theorem uR{Ks:List Kn}(h:i<Ks.length):kN Ks i∈Ks:=by unfold kN;rw[OE,JV h];exact gh h
section
variable{P:Program}{Q:Exit->Act->World->Prop}
def Qt(o:EP)(a:E_)(T:EB)(g off:Nat)(cs:Array Y):Prop:=match o.op with| .store t x y=>t=T/\a.eval x=V (D ⟨g,off,Z⟩)/\a.eval y=Ea cs|_=>False
theorem Qu{Rel:M->M->Prop}{o:EP}{T:EB}{n off:Nat}(hA:IL P T n)(hw:JO o (Jg ops (F x).tmps)=EJ)(hl:Qt o (F x) T g off cs)(ht:w.there g off n)(hn:cs.size=n) (h1:cs.all (·.oneCell')=EJ) (hb:Rel w (w.setCells g off cs.toList)) (h:R i (Ow x i I6) (w.setCells g off cs.toList)):Zo Rel P ops Q F R i o x w:=by
 obtain⟨-,hi⟩:=hA;unfold Qt at hl;split at hl
 ·rename_i t a b hop;obtain⟨rfl,hx,hy⟩:=hl;unfold Zo;rw[if_pos hw];subst hn;have hrun:(Ig (F x).eval o).run P w= .ok .skip (w.setCells g off cs.toList):=by unfold Ig;simp only[hop,hx,hy,OH,run_storeAt_mid w g off t cs ht hi h1,Oi,OM]
  unfold dn;rw[hrun];exact⟨I6,rfl,hb,h⟩
 ·exact hl.elim
theorem Qv{Iw:M->M->Prop}{a0:E_}(n0:Nat)(Ks:List Kn)(cs:List Nat)(ks:List (Nat×Nat))(hm:P.follows .mixedOrders=EJ)(hB:nZ l.toArray=EJ)(hK:kK l.toArray cs ks=EJ)(hlk:(ks.all fun p=>decide (p.1<=cs.length))=EJ)(hnd:(Ub l).Nodup) (hcg:(cs.all fun c=>match l[c]? with|some o=>o.guard.isNone|none=>false)=EJ) (hlen:Ks.length=l.length) (hst:(Ks.filterMap Kn.st).Nodup) (hwt:((U4 Ks.length).all fun i=>match kN Ks i with| .into k _ _=>(match l.toArray[i]? with|some o=>o.after.toList.any (fun e=>UN .any e&&e.on==k)|none=>false)|_=>true)=EJ) (hPh: ∀b w w',Ph b w->JT (kM n0 Ks) w w'->Ph b w') (hR2: ∀T,T∈Ks.filterMap Kn.ty-> ∀b c w w',H w b c T->Iw w w'->H w' b c T) (h0:Ph 0 w0.drew) (hstep:ib Ph (JT (kM n0 Ks)) Iw P l.toArray Q (fun x=>EM l 0 x a0) (RK n0 (kN Ks)) cs 0 l ks) (hend: ∀x w,Ph cs.length w->(∀i,i<l.length->RK n0 (kN Ks) i x w)->Ib P l.toArray Q [] (EM l 0 x a0) w):(bU id l.toArray EJ).wp P Q a0 w0:=by
 refine EOH cs ks hm hB hK hlk hnd (RK n0 (kN Ks)) hcg hPh (RK.keep ?_ ?_ ?_) (RK.keep ?_ ?_ ?_) ?_ h0 hstep hend;·intro i T m _ _ b c w w' hb hr;exact hr.some hb
 ·intro i k T c hi he b w w' _ hb hr;refine hr.same hb fun c' hc'=> ?_
  exact Qs hst (uR (U:i<Ks.length)) ng (fun c2 h=>by
   rw[he] at h;rcases h with⟨j,e⟩|⟨g,e⟩;·cases e;rfl
   ·cases e) hc'
 ·intro i g T c hi he w w' hb hr;refine hr.same hb fun c' hc'=> ?_
  exact Qs hst (uR (U:i<Ks.length)) ng (fun c2 h=>by
   rw[he] at h;rcases h with⟨j,e⟩|⟨g,e⟩;·cases e
   ·cases e;rfl) hc'
 ·intro i T m hi he b c w w' hb hr;exact⟨c,O,hR2 T (nE.2 ⟨_,uR (U:i<Ks.length),ng⟩) b c w w' hb hr⟩
 ·intro i k T c hi he b w w' _ hb hr;exact hR2 T (nE.2 ⟨_,uR (U:i<Ks.length),ng⟩) b c w w' hb hr
 ·intro i g T c hi he w w' hb hr;exact hR2 T (nE.2 ⟨_,uR (U:i<Ks.length),ng⟩) g c w w' hb hr
 ·intro i x y w hi hq h;unfold RK at*;cases e:kN Ks i with
  |val p=>rw[e] at h;simp only at h⊢;rw[<-hq i (.inl O)];exact h
  |made T m=>rw[e] at h;simp only at h⊢;rw[<-hq i (.inl O)];exact h
  |into k T c=> rw[e] at h;simp only at h⊢;have h1:=Xw.1 hwt i (bX.2 U);rw[e] at h1;rw[<-hq k (.inr (uP h1))];exact h
  |onto g T c=>rw[e] at h;exact h
theorem GD{Rel:M->M->Prop}{o:EP}(hw:JO o (Jg ops (F x).tmps)=EJ) (hr:(Ig (F x).eval o).run P w= .ok .skip w') (hb:Rel w w') (h:R i (Ow x i I6) w'):Zo Rel P ops Q F R i o x w:=by unfold Zo;rw[if_pos hw];unfold dn;rw[hr];exact⟨I6,O,hb,h⟩
inductive ic(Rel Iw:M->M->Prop) where
 |val (p:Y->Prop)
 |dep (s:Y->M->Prop) (h1: ∀v w w',s v w->Rel w w'->s v w') (h2: ∀v w w',s v w->Iw w w'->s v w')
 |late (s:Y->M->Prop) (h1: ∀v w w',s v w->Rel w w'->s v w')
instance{Rel Iw}(x):CoeDep KQ (KQ.kq x) (ic Rel Iw):=⟨.val fun v=>v=x⟩
instance{Rel Iw}(g i):CoeDep KQ (KQ.kp g i) (ic Rel Iw):=⟨.val fun v=>v=V (D ⟨g,i,Z⟩)⟩
def ic.nj{Rel Iw:M->M->Prop}:ic Rel Iw->Bool
 | .late _ _=>EJ
 |_=>EI
def RQ{Rel Iw:M->M->Prop}(K:Nat->ic Rel Iw)(i:Nat)(x:Nat->Y)(w:M):Prop:=match K i with
 | .val p=>p (x i)
 | .dep s _ _=>s (x i) w
 | .late s _=>s (x i) w
def kQ{Rel Iw:M->M->Prop}(Ks:List (ic Rel Iw))(i:Nat):ic Rel Iw:=Ks.getD i (.val fun _=>True)
def Qw(ops:Array EP)(cs:List Nat)(tags:List Bool):Bool:=(U4 tags.length).all fun i=> !(tags.getD i EI)||cs.all fun c=>decide (i=c)||gd ops ops.size i c
theorem EOP{Rel Iw:M->M->Prop}{Ks:List (ic Rel Iw)}{tags:List Bool}(h:Ks.map ic.nj=tags)(i:Nat)(hl:(kQ Ks i).nj=EJ):i<tags.length/\tags.getD i EI=EJ:=by
 subst h;unfold kQ at hl;by_cases hi:i<Ks.length;·exact Ep3
 ·rw[OE,bJ U] at hl;cases hl
theorem cZ{Rel Iw:M->M->Prop}{a0:E_}(Ks:List (ic Rel Iw))(tags:List Bool)(htag:Ks.map ic.nj=tags)(cs:List Nat)(ks:List (Nat×Nat))(hm:P.follows .mixedOrders=EJ)(hB:nZ l.toArray=EJ)(hK:kK l.toArray cs ks=EJ)(hlt:Qw l.toArray cs tags=EJ)(hlk:(ks.all fun p=>decide (p.1<=cs.length))=EJ)(hnd:(Ub l).Nodup) (hcg:(cs.all fun c=>match l[c]? with|some o=>o.guard.isNone|none=>false)=EJ) (hPh: ∀b w w',Ph b w->Rel w w'->Ph b w') (h0:Ph 0 w0.drew) (hstep:ib Ph Rel Iw P l.toArray Q (fun x=>EM l 0 x a0) (RQ (kQ Ks)) cs 0 l ks) (hend: ∀x w,Ph cs.length w->(∀i,i<l.length->RQ (kQ Ks) i x w)->Ib P l.toArray Q [] (EM l 0 x a0) w):(bU id l.toArray EJ).wp P Q a0 w0:=by
 refine z4 cs ks hm hB hK hlk hnd (RQ (kQ Ks)) hcg hPh ?_ ?_ ?_ h0 hstep hend
 ·intro i x w w' _ h hr;unfold RQ at*;split at h;·exact h
  ·rename_i s h1 h2 _;exact Eq1
  ·rename_i s h1 _;exact Eq1
 ·intro i x w w' c hi hc hne hrb h hr;unfold RQ at*;split at h;·exact h
  ·rename_i s h1 h2 _;exact h2 _ _ _ h hr
  ·rename_i s h1 he;exfalso;obtain⟨h3,h4⟩:=EOP htag i ng;have h5:=Xw.1 hlt i (bX.2 h3);rw[h4] at h5;simp only[Bool.not_true,Bool.false_or] at h5;have h6:=Xw.1 h5 c hc;rw[hrb] at h6;simp at h6;exact hne h6
 ·intro i x y w _ hq h;unfold RQ at*;exact Eq8
end
def Ln(W:M)(g:Nat)(L:List One)(rest:List Y):Prop:=H W g (ID L++rest).toArray 171
def less(a b:One):Bool:=if a.r=b.r then decide (a.n<b.n) else decide (a.r<b.r)
theorem EOQ(pre old post:List Y)(o n:Nat)(ho:pre.length=o)(hn:old.length=n):(pre++(old++post)).toArray.extract o (o+n)=old.toArray:=by subst ho hn;simp
theorem EOR(L:List One)(i:Nat)(h:i<L.length)(rest:List Y)(j:Nat)(hj:j<5):(ID L++rest)[i*5+j]?=(L[i]).v[j]?:=by
 induction L generalizing i with
 |nil=>simp at h
 |cons x r ih=>
  cases i with
  |zero=> simp only[ID,kG,U7,Nat.zero_mul,Ox,List.getElem_cons_zero];rw[Z_ z5]
  |succ i=> have:=ih i Ov;simp only[ID,kG,U7,List.getElem_cons_succ] at*;rw[aE z5,show(i+1)*5+j-x.v.length=i*5+j from z5];exact this
theorem Ln.cell{L:List One}(K:Ln W g L rest)(i:Nat){x:One}(h:L[i]?=D x):W.cell? ⟨g,i*5,Z⟩=D (E I x.s)/\W.cell? ⟨g,i*5+1,Z⟩=D (E I x.r)/\W.cell? ⟨g,i*5+2,Z⟩=D (E I x.a)/\W.cell? ⟨g,i*5+3,Z⟩=D (E I x.m)/\W.cell? ⟨g,i*5+4,Z⟩=D (E Im x.n):=by
 obtain⟨hl,rfl⟩:=Xx.1 h;have hk: ∀j,j<5->W.cell? ⟨g,i*5+j,Z⟩=(L[i]).v[j]?:=fun j hj=>by rw[H.cell K,J2];exact EOR L i hl rest j hj
 exact⟨hk 0 U,hk 1 U,hk 2 U,hk 3 U,hk 4 U⟩
theorem fi(A:Option Ep)(n c:Nat)(w:M): Eg EZ 272 #[G A n c] w fun e w'=>e=Ei (E I n)/\w=w':=by go_enter Tryz.func272,Tryz.ntmps272;exact Enu
theorem jo(g:Nat)(L:List One)(rest:List Y)(n c:Nat)(i j:Nat)(x z:One)(hi:L[i]?=D x)(hj:L[j]?=D z)(hn:L.length=n)(w:M)(K:Ln w g L rest): Eg EZ 273 #[G (D ⟨g,0,Z⟩) n c,E I i,E I j] w fun e w'=>e=Ei (Ec (less x z))/\El w w':=by
 have hi2:i<n:=Qx;have hj2:j<n:=Qy;have CI:Ed (∀W,Ln W g L rest->W.cell? ⟨g,i*5+1,Z⟩=D (E I x.r)/\W.cell? ⟨g,i*5+4,Z⟩=D (E Im x.n)):=J fun W k=>by have:=Ln.cell k i hi;exact⟨this.2.1,this.2.2.2.2⟩
 have CJ:Ed (∀W,Ln W g L rest->W.cell? ⟨g,j*5+1,Z⟩=D (E I z.r)/\W.cell? ⟨g,j*5+4,Z⟩=D (E Im z.n)):=J fun W k=>by have:=Ln.cell k j hj;exact⟨this.2.1,this.2.2.2.2⟩
 have KK:=J K;have u:=J<|IU w.heap.size w;clear K hi hj hn;by_cases hr:x.r=z.r
 ·have d1:(x.r !=z.r)=EI:=by rw[hr];simp
  have ci: ∀y:Ext w,(EC w y).cell? ⟨g,i*5+1,Z⟩=D (E I x.r):=fun y=>(CI.out _ (H.B KK.out (EQ y))).1;have cj: ∀y:Ext w,(EC w y).cell? ⟨g,j*5+1,Z⟩=D (E I z.r):=fun y=>(CJ.out _ (H.B KK.out (EQ y))).1;have er:less x z=decide (x.n<z.n):=by unfold less;rw[if_pos hr]
  rw[er];clear er hr;go_enter Tryz.func273,Tryz.ntmps273;go_wp2_with fail;refine ZQ Ef Ef ?_;repeat (go_big_quiet_step (fail))
  refine I5 ?_;intro _ hw';obtain⟨y9,rfl⟩:=hw';have En:=EQ y9;replace KK:Ed (Ln (EC w y9) g L rest):=EH KK En;replace u:=EV u En;clear ci cj;generalize EC w y9=w1 at*;go_wp2_with fail;have ci: ∀y:Ext w1,(EC w1 y).cell? ⟨g,i*5+4,Z⟩=D (E Im x.n):=fun y=>(CI.out _ (H.B KK.out (EQ y))).2;have cj: ∀y:Ext w1,(EC w1 y).cell? ⟨g,j*5+4,Z⟩=D (E Im z.n):=fun y=>(CJ.out _ (H.B KK.out (EQ y))).2;clear En;refine ZQ Ef Ef ?_;repeat (go_big_quiet_step (fail))
  refine I5 ?_;exact Eo2
 ·have d1:(x.r !=z.r)=EJ:=by simp[hr]
  have ci: ∀y:Ext w,(EC w y).cell? ⟨g,i*5+1,Z⟩=D (E I x.r):=fun y=>(CI.out _ (H.B KK.out (EQ y))).1;have cj: ∀y:Ext w,(EC w y).cell? ⟨g,j*5+1,Z⟩=D (E I z.r):=fun y=>(CJ.out _ (H.B KK.out (EQ y))).1;have er:less x z=decide (x.r<z.r):=by unfold less;rw[if_neg hr]
  rw[er];clear er hr;go_enter Tryz.func273,Tryz.ntmps273;go_wp2_with fail;refine ZQ Ef Ef ?_;repeat (go_big_quiet_step (fail))
  refine I5 ?_;intro _ hw';obtain⟨y9,rfl⟩:=hw';have En:=EQ y9;replace KK:Ed (Ln (EC w y9) g L rest):=EH KK En;replace u:=EV u En;clear ci cj;generalize EC w y9=w1 at*;go_wp2_with fail;have ci: ∀y:Ext w1,(EC w1 y).cell? ⟨g,i*5+1,Z⟩=D (E I x.r):=fun y=>(CI.out _ (H.B KK.out (EQ y))).1;have cj: ∀y:Ext w1,(EC w1 y).cell? ⟨g,j*5+1,Z⟩=D (E I z.r):=fun y=>(CJ.out _ (H.B KK.out (EQ y))).1;clear En;refine ZQ Ef Ef ?_;repeat (go_big_quiet_step (fail))
  refine I5 ?_;exact Eo2
theorem cg:IL EZ 171 5:=⟨⟨_,Tryz.underlying171,O⟩,Ef⟩
theorem Qz(L:List One)(i:Nat){x:One}(h:L[i]?=D x)(y:One):ID L=ID (L.take i)++(x.v++ID (L.drop (i+1)))/\ID (L.set i y)=ID (L.take i)++(y.v++ID (L.drop (i+1))):=by
 obtain⟨hl,rfl⟩:=Xx.1 h;have e: ∀(Y8:List One) (z:One),ID (Y8++z::L.drop (i+1))=ID Y8++(z.v++ID (L.drop (i+1))):=fun Y8 z=>by simp[ID]
 refine⟨?_,?_⟩;·rw[<-e,<-nO hl,iU]
 ·rw[<-e,List.set_eq_take_append_cons_drop,if_pos hl]
theorem Ln.set{L:List One}(K:Ln W g L rest)(i:Nat){x:One}(h:L[i]?=D x)(y:One):Ln (W.setCells g (i*5) y.v) g (L.set i y) rest:=by have hl:=(Xx.1 h).1;obtain⟨e1,e2⟩:=Qz L i h y;unfold Ln at*;rw[e1,U7,U7] at K;rw[e2,U7,U7];exact Zm y.v x.v _ (i*5) W K O QA
theorem Ln.there{L:List One}(K:Ln W g L rest)(i:Nat)(h:i<L.length):W.there g (i*5) 5:=by refine bf K ?_;rw[List.size_toArray,IY,cU];omega
theorem Ln.ext{L:List One}(i:Nat){x:One}(h:L[i]?=D x):(ID L++rest).toArray.extract (i*5) (i*5+5)=x.v.toArray:=by have hl:=(Xx.1 h).1;obtain⟨e1,-⟩:=Qz L i h x;rw[e1,U7,U7];exact EOQ _ _ _ _ _ QA O
theorem One.one(x:One):x.v.toArray.all (·.oneCell')=EJ:=GF
theorem fj(g:Nat)(L:List One)(rest:List Y)(n c:Nat)(i j:Nat)(x z:One)(hi:L[i]?=D x)(hj:L[j]?=D z)(hn:L.length=n)(w:M)(K:Ln w g L rest): Eg EZ 274 #[G (D ⟨g,0,Z⟩) n c,E I i,E I j] w fun e w'=>e=Ei (Eu #[])/\Ln w' g ((L.set i z).set j x) rest/\E7 g w w':=by
 have hi2:i<n:=Qx;have hj2:j<n:=Qy;have LI:=J (show i<L.length from U);have LJ:=J (show j<L.length from U);have HI:=J hi;have HJ:=J hj;obtain⟨z2,hz2⟩: ∃z2,(L.set i z)[j]?=D z2:=⟨_,JV (by simpa using LJ.out)⟩;have HJ2:=J hz2;have KK:=J K;clear K hi hj hn hz2;go_enter Tryz.func274,Tryz.ntmps274;refine Qv (Ph:=fun p wq=>match p with|0=>Ln wq g L rest/\E7 g w wq|1=>Ln wq g (L.set i z) rest/\E7 g w wq|_=>Ln wq g ((L.set i z).set j x) rest/\E7 g w wq) (Iw:=fun _ _=>True) (w.heap.size) [kq (G (D ⟨g,0,Z⟩) n c),kq (E I (i:Int)),kq (G (D ⟨g,0,Z⟩) n c),kq (E I (j:Int)),kq (G (D ⟨g,0,Z⟩) n c),kq (E I (j:Int)),kq (V (D ⟨g,j*5,Z⟩)),kq (Ea z.v.toArray),kq (G (D ⟨g,0,Z⟩) n c),kq (E I (i:Int)),kq (V (D ⟨g,i*5,Z⟩)),kq (Ea x.v.toArray),kq (V (D ⟨g,i*5,Z⟩)),.val (fun _=>True),kq (V (D ⟨g,j*5,Z⟩)),.val (fun _=>True)] [13,15] [(0,0),(0,0),(0,1),(0,1),(0,0),(0,0),(0,0),(0,0),(0,0),(0,0),(0,0),(0,0),(0,0),(0,0),(1,1),(1,1)] Ef Ef Ef Ef UP Ef O (show List.Nodup ([]:List EB) from EU) ig ?hPh ?hR2 ?h0 ?hstep ?hend
 case hPh=>
  exact fun p w1 w2 h hr=>by
   have hb:=hr.Qq (E3 _) (fun k S cs hk=>by simp[kM] at hk);match p,h with
   |0,h=>exact⟨H.B h.1 hb,h.2.trans (E7.ED hb)⟩
   |1,h=>exact⟨H.B h.1 hb,h.2.trans (E7.ED hb)⟩
   |_+2,h=>exact⟨H.B h.1 hb,h.2.trans (E7.ED hb)⟩
 case hR2=> intro T hT;simp[Kn.ty] at hT
 case h0=> exact⟨KK.out.drew,E7.ED (Jn w)⟩
 case hstep=>
  refine⟨?_,?_,?_,?_,?_,?_,?_,?_,?_,?_,?_,?_,?_,?_,?_,?_,trivial⟩;all_goals first|intro xv wq p hlo hhi hp hd|intro xv wq hp hd
  all_goals simp only[EM,Ih,Ik,Ic,If]
  ·exact EoC
  ·exact EoC
  ·exact EoV
  ·exact EoV
  ·exact EoC
  ·exact EoC
  ·obtain rfl:p=0:=U;have d4:xv 4=G (D ⟨g,0,Z⟩) n c:=hd.at 4 rfl;have d5:xv 5=E I (j:Int):=hd.at 5 rfl;exact IQ JT.kept (Eh O) (by simp[go_sem,d4,d5,hj2]) O
  ·obtain rfl:p=0:=U;have d6:xv 6=V (D ⟨g,j*5,Z⟩):=hd.at 6 rfl;exact bi JT.kept cg (Eh O) ⟨O,d6⟩ (hp.1) O (Ln.ext j HJ.out) O
  ·exact EoC
  ·exact EoC
  ·obtain rfl:p=0:=U;have d8:xv 8=G (D ⟨g,0,Z⟩) n c:=hd.at 8 rfl;have d9:xv 9=E I (i:Int):=hd.at 9 rfl;exact IQ JT.kept (Eh O) (by simp[go_sem,d8,d9,hi2]) O
  ·obtain rfl:p=0:=U;have d10:xv 10=V (D ⟨g,i*5,Z⟩):=hd.at 10 rfl;exact bi JT.kept cg (Eh O) ⟨O,d10⟩ (hp.1) O (Ln.ext i HI.out) O
  ·obtain rfl:p=0:=U;have d0:xv 0=G (D ⟨g,0,Z⟩) n c:=hd.at 0 rfl;have d1:xv 1=E I (i:Int):=hd.at 1 rfl;exact IQ JT.kept (Eh O) (by simp[go_sem,d0,d1,hi2]) O
  ·have d12:xv 12=V (D ⟨g,i*5,Z⟩):=hd.at 12 rfl;have d7:xv 7=Ea z.v.toArray:=hd.at 7 rfl;exact Qu cg (Eh O) ⟨O,d12,d7⟩ (Ln.there hp.1 i (by simpa using LI.out)) O (One.one _) ⟨trivial,⟨Ln.set hp.1 i HI.out z,hp.2.trans (JP _ _ _)⟩⟩ trivial
  ·obtain rfl:p=1:=U;have d2:xv 2=G (D ⟨g,0,Z⟩) n c:=hd.at 2 rfl;have d3:xv 3=E I (j:Int):=hd.at 3 rfl;exact IQ JT.kept (Eh O) (by simp[go_sem,d2,d3,hj2]) O
  ·have d14:xv 14=V (D ⟨g,j*5,Z⟩):=hd.at 14 rfl;have d11:xv 11=Ea x.v.toArray:=hd.at 11 rfl;exact Qu cg (Eh O) ⟨O,d14,d11⟩ (Ln.there hp.1 j (by simpa using LJ.out)) O (One.one _) ⟨trivial,⟨Ln.set hp.1 j HJ2.out x,hp.2.trans (JP _ _ _)⟩⟩ trivial
 case hend=> intro x2 W6 hp hr;clear hr;simp only[EM,Ih,Ik,Ic,If];have HP:=J hp;clear hp;go_wp2;go_end0;exact⟨O,HP.out⟩
def Jt:List One->List One
 |[a,b]=>if less b a then [b,a] else [a,b]
 |[a,b,c]=>if less b a then(if less c a then(if less c b then [c,b,a] else [b,c,a]) else [b,a,c]) else(if less c b then(if less c a then [c,a,b] else [a,c,b]) else [a,b,c])
 |l=>l
theorem ii: ∀(L:List One),(Jt L).length=L.length
 |[]=>rfl
 |[_]=>rfl
 |[a,b]=>by simp only[Jt];split<;>rfl
 |[a,b,c]=>by
  simp only[Jt];repeat' split
  all_goals rfl
 |_::_::_::_::_=>rfl
theorem EOS(g:Nat)(a b:One)(rest:List Y)(c:Nat)(w:M)(K:Ln w g [a,b] rest): Eg EZ 191 #[.iface 149 (G (D ⟨g,0,Z⟩) 2 c),E I 0,E I 2] w fun e w'=>e=Ei (Eu #[])/\Ln w' g (Jt [a,b]) rest/\E7 g w w':=by
 have mL: ∀w,Uv EZ (X7 460 149 (G (D ⟨g,0,Z⟩) 2 c) "Less") w= .ok (273,G (D ⟨g,0,Z⟩) 2 c) w:=fun _=>Ef;have mS: ∀w,Uv EZ (X7 460 149 (G (D ⟨g,0,Z⟩) 2 c) "Swap") w= .ok (274,G (D ⟨g,0,Z⟩) 2 c) w:=fun _=>Ef;have eL: ∀(args:Array Y) (W:M),(Jm 273 args).run EZ W= .ok (.enter 273 args) W:=fun _ _=>Ef;have eS: ∀(args:Array Y) (W:M),(Jm 274 args).run EZ W= .ok (.enter 274 args) W:=fun _ _=>Ef;have K:=J K;have ON:=J<|E7.refl g w;go_enter Tryz.func191,Tryz.ntmps191;(iterate 2 go_wp2_with fail;refine Uk 3 ?_;rw[Il]);go_wp2_with fail;have C1:Eg EZ 273 #[G (D ⟨g,0,Z⟩) 2 c,E I 1,E I 0] w _:=jo g [a,b] rest 2 c 1 0 b a O O O w K.out;replace C1:=J C1;cases l1:less b a;·rw[l1] at C1;refine C1.out.mono ?_;rintro e w1 ⟨rfl,b1⟩;replace K:Ed (Ln w1 g [a,b] rest):=EH K b1;replace ON:=J<|ON.out.trans (E7.ED b1);have h1:=J l1;clear b1 C1 l1;go_wp2_with fail;rw[Il];exact Ep7
 ·rw[l1] at C1;refine C1.out.mono ?_;rintro e w1 ⟨rfl,b1⟩;replace K:Ed (Ln w1 g [a,b] rest):=EH K b1;replace ON:=J<|ON.out.trans (E7.ED b1);have h1:=J l1;clear b1 C1 l1;go_wp2_with fail;have C2:Eg EZ 274 #[G (D ⟨g,0,Z⟩) 2 c,E I 1,E I 0] w1 _:=fj g [a,b] rest 2 c 1 0 b a O O O w1 K.out;refine C2.mono ?_;rintro e w2 ⟨rfl,k2,o2⟩;replace K:Ed (Ln w2 g [b,a] rest):=J k2;replace ON:=J<|ON.out.trans o2;clear k2 o2 C2;(iterate 2 go_wp2_with fail;rw[Il]);exact Ep7
theorem EOT(g:Nat)(a b d:One)(rest:List Y)(c:Nat)(w:M)(K:Ln w g [a,b,d] rest): Eg EZ 191 #[.iface 149 (G (D ⟨g,0,Z⟩) 3 c),E I 0,E I 3] w fun e w'=>e=Ei (Eu #[])/\Ln w' g (Jt [a,b,d]) rest/\E7 g w w':=by
 have mL: ∀w,Uv EZ (X7 460 149 (G (D ⟨g,0,Z⟩) 3 c) "Less") w= .ok (273,G (D ⟨g,0,Z⟩) 3 c) w:=fun _=>Ef;have mS: ∀w,Uv EZ (X7 460 149 (G (D ⟨g,0,Z⟩) 3 c) "Swap") w= .ok (274,G (D ⟨g,0,Z⟩) 3 c) w:=fun _=>Ef;have eL: ∀(args:Array Y) (W:M),(Jm 273 args).run EZ W= .ok (.enter 273 args) W:=fun _ _=>Ef;have eS: ∀(args:Array Y) (W:M),(Jm 274 args).run EZ W= .ok (.enter 274 args) W:=fun _ _=>Ef;have K:=J K;have ON:=J<|E7.refl g w;go_enter Tryz.func191,Tryz.ntmps191;go_wp2_with fail;refine Uk 4 ?_;rw[Il];go_wp2_with fail;refine Uk 3 ?_;rw[Il];go_wp2_with fail;have C1:Eg EZ 273 #[G (D ⟨g,0,Z⟩) 3 c,E I 1,E I 0] w _:=jo g [a,b,d] rest 3 c 1 0 b a O O O w K.out;replace C1:=J C1;cases l1:less b a
 ·
   rw[l1] at C1;refine C1.out.mono ?_;rintro e w1 ⟨rfl,b1⟩;replace K:Ed (Ln w1 g [a,b,d] rest):=EH K b1;replace ON:=J<|ON.out.trans (E7.ED b1);have h1:=J l1;clear b1 C1 l1;go_wp2_with fail;rw[Il];go_wp2_with fail;refine Uk 3 ?_;rw[Il];go_wp2_with fail;have C2:Eg EZ 273 #[G (D ⟨g,0,Z⟩) 3 c,E I 2,E I 1] w1 _:=jo g [a,b,d] rest 3 c 2 1 d b O O O w1 K.out;replace C2:=J C2;cases l2:less d b;·rw[l2] at C2;refine C2.out.mono ?_;rintro e w2 ⟨rfl,b2⟩;replace K:Ed (Ln w2 g [a,b,d] rest):=EH K b2;replace ON:=J<|ON.out.trans (E7.ED b2);have h2:=J l2;clear b2 C2 l2;go_wp2_with fail;rw[Il];go_wp2;go_end0;refine⟨O,?_,ON.out⟩;simp only[Jt,h1.out,h2.out,if_true,kL,if_false];exact K.out
   ·
     rw[l2] at C2;refine C2.out.mono ?_;rintro e w2 ⟨rfl,b2⟩;replace K:Ed (Ln w2 g [a,b,d] rest):=EH K b2;replace ON:=J<|ON.out.trans (E7.ED b2);have h2:=J l2;clear b2 C2 l2;go_wp2_with fail;have C3:Eg EZ 274 #[G (D ⟨g,0,Z⟩) 3 c,E I 2,E I 1] w2 _:=fj g [a,b,d] rest 3 c 2 1 d b O O O w2 K.out;refine C3.mono ?_;rintro e w3 ⟨rfl,k3,o3⟩;replace K:Ed (Ln w3 g [a,d,b] rest):=J k3;replace ON:=J<|ON.out.trans o3;clear k3 o3 C3;go_wp2_with fail;rw[Il];go_wp2_with fail;have C4:Eg EZ 273 #[G (D ⟨g,0,Z⟩) 3 c,E I 1,E I 0] w3 _:=jo g [a,d,b] rest 3 c 1 0 d a O O O w3 K.out;replace C4:=J C4;cases l4:less d a;·rw[l4] at C4;refine C4.out.mono ?_;rintro e w4 ⟨rfl,b4⟩;replace K:Ed (Ln w4 g [a,d,b] rest):=EH K b4;replace ON:=J<|ON.out.trans (E7.ED b4);have h4:=J l4;clear b4 C4 l4;go_wp2_with fail;rw[Il];exact EpH
     ·rw[l4] at C4;refine C4.out.mono ?_;rintro e w4 ⟨rfl,b4⟩;replace K:Ed (Ln w4 g [a,d,b] rest):=EH K b4;replace ON:=J<|ON.out.trans (E7.ED b4);have h4:=J l4;clear b4 C4 l4;go_wp2_with fail;have C5:Eg EZ 274 #[G (D ⟨g,0,Z⟩) 3 c,E I 1,E I 0] w4 _:=fj g [a,d,b] rest 3 c 1 0 d a O O O w4 K.out;refine C5.mono ?_;rintro e w5 ⟨rfl,k5,o5⟩;replace K:Ed (Ln w5 g [d,a,b] rest):=J k5;replace ON:=J<|ON.out.trans o5;clear k5 o5 C5;(iterate 2 go_wp2_with fail;rw[Il]);exact EpH
 ·
   rw[l1] at C1;refine C1.out.mono ?_;rintro e w1 ⟨rfl,b1⟩;replace K:Ed (Ln w1 g [a,b,d] rest):=EH K b1;replace ON:=J<|ON.out.trans (E7.ED b1);have h1:=J l1;clear b1 C1 l1;go_wp2_with fail;have C6:Eg EZ 274 #[G (D ⟨g,0,Z⟩) 3 c,E I 1,E I 0] w1 _:=fj g [a,b,d] rest 3 c 1 0 b a O O O w1 K.out;refine C6.mono ?_;rintro e w6 ⟨rfl,k6,o6⟩;replace K:Ed (Ln w6 g [b,a,d] rest):=J k6;replace ON:=J<|ON.out.trans o6;clear k6 o6 C6;(iterate 2 go_wp2_with fail;rw[Il]);go_wp2_with fail;refine Uk 3 ?_;rw[Il];go_wp2_with fail;have C7:Eg EZ 273 #[G (D ⟨g,0,Z⟩) 3 c,E I 2,E I 1] w6 _:=jo g [b,a,d] rest 3 c 2 1 d a O O O w6 K.out;replace C7:=J C7;cases l7:less d a;·rw[l7] at C7;refine C7.out.mono ?_;rintro e w7 ⟨rfl,b7⟩;replace K:Ed (Ln w7 g [b,a,d] rest):=EH K b7;replace ON:=J<|ON.out.trans (E7.ED b7);have h7:=J l7;clear b7 C7 l7;go_wp2_with fail;rw[Il];go_wp2;go_end0;refine⟨O,?_,ON.out⟩;simp only[Jt,h1.out,h7.out,if_true,kL,if_false];exact K.out
   ·
     rw[l7] at C7;refine C7.out.mono ?_;rintro e w7 ⟨rfl,b7⟩;replace K:Ed (Ln w7 g [b,a,d] rest):=EH K b7;replace ON:=J<|ON.out.trans (E7.ED b7);have h7:=J l7;clear b7 C7 l7;go_wp2_with fail;have C8:Eg EZ 274 #[G (D ⟨g,0,Z⟩) 3 c,E I 2,E I 1] w7 _:=fj g [b,a,d] rest 3 c 2 1 d a O O O w7 K.out;refine C8.mono ?_;rintro e w8 ⟨rfl,k8,o8⟩;replace K:Ed (Ln w8 g [b,d,a] rest):=J k8;replace ON:=J<|ON.out.trans o8;clear k8 o8 C8;go_wp2_with fail;rw[Il];go_wp2_with fail;have C9:Eg EZ 273 #[G (D ⟨g,0,Z⟩) 3 c,E I 1,E I 0] w8 _:=jo g [b,d,a] rest 3 c 1 0 d b O O O w8 K.out;replace C9:=J C9;cases l9:less d b;·rw[l9] at C9;refine C9.out.mono ?_;rintro e w9 ⟨rfl,b9⟩;replace K:Ed (Ln w9 g [b,d,a] rest):=EH K b9;replace ON:=J<|ON.out.trans (E7.ED b9);have h9:=J l9;clear b9 C9 l9;go_wp2_with fail;rw[Il];exact EpG
     ·rw[l9] at C9;refine C9.out.mono ?_;rintro e w9 ⟨rfl,b9⟩;replace K:Ed (Ln w9 g [b,d,a] rest):=EH K b9;replace ON:=J<|ON.out.trans (E7.ED b9);have h9:=J l9;clear b9 C9 l9;go_wp2_with fail;have QC:Eg EZ 274 #[G (D ⟨g,0,Z⟩) 3 c,E I 1,E I 0] w9 _:=fj g [b,d,a] rest 3 c 1 0 d b O O O w9 K.out;refine QC.mono ?_;rintro e U8 ⟨rfl,k10,pq⟩;replace K:Ed (Ln U8 g [d,b,a] rest):=J k10;replace ON:=J<|ON.out.trans pq;clear k10 pq QC;(iterate 2 go_wp2_with fail;rw[Il]);exact EpG
theorem EOV(w:M):Eg EZ 190 #[E Im 2] w fun e w'=>e=Ei (E I 2)/\w=w':=by go_enter Tryz.func190,Tryz.ntmps190;go_wp2;go_ret;refine⟨congrArg Ei (congrArg (E IntKind.i64) ?_),O⟩;show wrap64 (wrap64 (Lib.len8 2))=2;rw[Lib.len8_of 2 U U];have e:Lib.bitLenAux 64 2=2:=ig;simp[Lib.bitLen,wrap64,e]
theorem EOW(w:M):Eg EZ 190 #[E Im 3] w fun e w'=>e=Ei (E I 2)/\w=w':=by go_enter Tryz.func190,Tryz.ntmps190;go_wp2;go_ret;refine⟨congrArg Ei (congrArg (E IntKind.i64) ?_),O⟩;show wrap64 (wrap64 (Lib.len8 3))=2;rw[Lib.len8_of 3 U U];have e:Lib.bitLenAux 64 3=2:=ig;simp[Lib.bitLen,wrap64,e]
theorem EOY(A:Option Ep)(c:Nat)(w:M): Eg EZ 109 #[.iface 149 (G A 0 c)] w fun e w'=>e=Ei (Eu #[])/\w=w':=by have mL: ∀w,Uv EZ (X7 460 149 (G A 0 c) "Len") w= .ok (272,G A 0 c) w:=fun _=>Ef;have eL: ∀(args:Array Y) (W:M),(Jm 272 args).run EZ W= .ok (.enter 272 args) W:=fun _ _=>Ef;go_enter Tryz.func109,Tryz.ntmps109;go_wp2_with fail;refine(fi A 0 c _).mono ?_;rintro e w2 ⟨rfl,rfl⟩;rw[show((0:Nat):Int)=0 from rfl];exact Erd
theorem sort_1(A:Option Ep)(c:Nat)(w:M): Eg EZ 109 #[.iface 149 (G A 1 c)] w fun e w'=>e=Ei (Eu #[])/\w=w':=by have mL: ∀w,Uv EZ (X7 460 149 (G A 1 c) "Len") w= .ok (272,G A 1 c) w:=fun _=>Ef;have eL: ∀(args:Array Y) (W:M),(Jm 272 args).run EZ W= .ok (.enter 272 args) W:=fun _ _=>Ef;go_enter Tryz.func109,Tryz.ntmps109;go_wp2_with fail;refine(fi A 1 c _).mono ?_;rintro e w2 ⟨rfl,rfl⟩;rw[show((1:Nat):Int)=1 from rfl];exact Erd
theorem EO0(g:Nat)(a b:One)(rest:List Y)(c:Nat)(w:M)(K:Ln w g [a,b] rest): Eg EZ 109 #[.iface 149 (G (D ⟨g,0,Z⟩) 2 c)] w fun e w'=>e=Ei (Eu #[])/\Ln w' g (Jt [a,b]) rest/\E7 g w w':=by have K:=J K;have mL: ∀w,Uv EZ (X7 460 149 (G (D ⟨g,0,Z⟩) 2 c) "Len") w= .ok (272,G (D ⟨g,0,Z⟩) 2 c) w:=fun _=>Ef;have eL: ∀(args:Array Y) (W:M),(Jm 272 args).run EZ W= .ok (.enter 272 args) W:=fun _ _=>Ef;go_enter Tryz.func109,Tryz.ntmps109;go_wp2_with fail;refine(fi _ 2 c _).mono ?_;rintro e w2 ⟨rfl,rfl⟩;go_wp2_with (first|(go_at_call 190;(with_reducible refine(EOV _).mono ?_);rintro e w2 ⟨rfl,rfl⟩)|(go_at_call 153;go_in)|(go_at_call 154;go_in));refine Uk 1 ?_;rw[Il];go_wp2_with fail;refine(EOS g a b rest c _ K.out).mono ?_;exact EpB
theorem EO1(g:Nat)(a b d:One)(rest:List Y)(c:Nat)(w:M)(K:Ln w g [a,b,d] rest): Eg EZ 109 #[.iface 149 (G (D ⟨g,0,Z⟩) 3 c)] w fun e w'=>e=Ei (Eu #[])/\Ln w' g (Jt [a,b,d]) rest/\E7 g w w':=by have K:=J K;have mL: ∀w,Uv EZ (X7 460 149 (G (D ⟨g,0,Z⟩) 3 c) "Len") w= .ok (272,G (D ⟨g,0,Z⟩) 3 c) w:=fun _=>Ef;have eL: ∀(args:Array Y) (W:M),(Jm 272 args).run EZ W= .ok (.enter 272 args) W:=fun _ _=>Ef;go_enter Tryz.func109,Tryz.ntmps109;go_wp2_with fail;refine(fi _ 3 c _).mono ?_;rintro e w2 ⟨rfl,rfl⟩;go_wp2_with (first|(go_at_call 190;(with_reducible refine(EOW _).mono ?_);rintro e w2 ⟨rfl,rfl⟩)|(go_at_call 153;go_in)|(go_at_call 154;go_in));refine Uk 1 ?_;rw[Il];go_wp2_with fail;refine(EOT g a b d rest c _ K.out).mono ?_;exact EpB
theorem EW:IL EZ 109 8:=⟨⟨_,Tryz.underlying109,O⟩,Ef⟩
def Uc(h e o oa om la lm:Int)(b:Bool):Array Y:= #[E I h,E I e,E I o,E I oa,E I om,E I la,E I lm,Ec b]
def EN.a(t:EN):Y:=Ea (Uc t.h t.e t.o t.oa t.om t.la t.lm t.bad)
theorem gj(h e o oa om la lm:Int)(b:Bool):(Uc h e o oa om la lm b).all (·.oneCell')=EJ:=by simp[Uc,Oc]
theorem GG(t:EN)(I1 e2:Int)(w:M): Eg EZ 67 #[t.a,E I I1,E I e2] w fun x w'=>x=Ei (t.pass I1 e2).a/\El w w':=by unfold EN.a EN.pass Uc;obtain⟨h,e,o,oa,om,la,lm,b⟩:=t;simp only;go_enter Tryz.func67,Tryz.ntmps67;go_wp2_with fail;refine ET (by simp[UA,Tryz.results67,go_sem]) O ⟨O,?_⟩;exact bO _ _ _ _
theorem su(t:EN)(I1:Int)(w:M)(he: -9223372036854775808<=t.e): Eg EZ 140 #[t.a,E I I1] w fun x w'=>x=Ei (Eu #[(t.Uj I1).1.a,E I (t.Uj I1).2])/\El w w':=by
 have CP:=J<|fun e2 W=>GG t I1 e2 W;unfold EN.Uj;unfold EN.a at*;obtain⟨h,e,o,oa,om,la,lm,b⟩:=t;simp only[EN.pass] at*;by_cases h1:I1<0;·rw[if_pos (.inl h1)];have d1:decide (I1<0)=EJ:=IJ h1;clear CP;exact EoO
 have d1:decide (I1<0)=EI:=IZ h1;by_cases h2:5<=I1;·rw[if_pos (.inr h2)];have d2:decide (5<=I1)=EJ:=IJ h2;clear h1 h2 CP;exact EoO
 have d2:decide (5<=I1)=EI:=IZ h2;rw[if_neg U];by_cases h3:I1=h
 ·rw[if_pos h3];have d3:(I1==h)=EJ:=by rw[h3];exact beq_self_eq_true _
  clear h1 h2 h3 CP;exact EoO
 have d3:(I1==h)=EI:=beq_eq_false_iff_ne.2 h3;rw[if_neg h3];by_cases h4:65535<=e;·rw[if_pos h4];have d4:decide (65535<=e)=EJ:=IJ h4;clear h1 h2 h3 h4 CP;exact EoO
 have d4:decide (65535<=e)=EI:=IZ h4;rw[if_neg h4];have we:IntKind.i64.wrap (e+1)=e+1:=GH;clear h1 h2 h3 h4 he;replace CP:=J<|CP.out (e+1);obtain⟨r,hr⟩:=Eo (Uc I1 (e+1) (-1) 0 0 0 0 b);rw[<-hr] at CP⊢;have SR:Ed (r.size=8):=J uS;have OR:Ed (r.all (·.oneCell')=EJ):=J AJ;clear hr;unfold Uc at*;go_enter Tryz.func140,Tryz.ntmps140;go_wp2_with fail;have K4:=J<|H.new' (w.alloc (Eb #[E I h,E I e,E I o,E I oa,E I om,E I la,E I lm,Ec b] 109)) #[E I 0,E I 0,E I 0,E I 0,E I 0,E I 0,E I 0,Ec EI] 109 (g:=w.heap.size+1) Ej;have u:=J<|JY w (Eb #[E I h,E I e,E I o,E I oa,E I om,E I la,E I lm,Ec b] 109) (Eb #[E I 0,E I 0,E I 0,E I 0,E I 0,E I 0,E I 0,Ec EI] 109);generalize (w.alloc (Eb #[E I h,E I e,E I o,E I oa,E I om,E I la,E I lm,Ec b] 109)).alloc (Eb #[E I 0,E I 0,E I 0,E I 0,E I 0,E I 0,E I 0,Ec EI] 109)=w1 at*;refine(CP.out _).mono ?_;rintro x w2 ⟨rfl,b2⟩;replace K4:=J<|K4.out.B b2;replace u:=EV u b2;clear b2;go_wp2_with (with_reducible refine wS (cs:=r) EW K4 ?_ (hn:=SR.out) (h1:=OR.out));refine ET (UD EW O _ _ (w.heap.size+1) r _ O O (K4.out.setRow r) SR.out) O ⟨O,?_⟩;exact EqH
theorem uT(t:EN)(w:M)(h1: -9223372036854775808<=t.e): Eg EZ 96 #[t.a] w fun x w'=>x=Ei t.cJ.a/\El w w':=by
 have CP:=J<|fun e2 W=>GG t 4 e2 W;have CS:=J<|fun W=>uz t.e 65535 W h1 U;unfold EN.cJ;unfold EN.a at*;obtain⟨h,e,o,oa,om,la,lm,b⟩:=t;simp only[EN.pass] at*;clear h1;by_cases h4:h=4
 ·rw[if_neg ij];have d4:(h !=4)=EI:=by rw[h4];rfl
  clear CS;subst h4;replace CP:=J<|CP.out e;obtain⟨r,hr⟩:=Eo (Uc 4 e (-1) 0 0 0 0 b);rw[<-hr] at CP⊢;have SR:Ed (r.size=8):=J uS;have OR:Ed (r.all (·.oneCell')=EJ):=J AJ;clear hr;unfold Uc at*;go_enter Tryz.func96,Tryz.ntmps96;go_wp2_with fail;have K4:=J<|H.new' (w.alloc (Eb #[E I 4,E I e,E I o,E I oa,E I om,E I la,E I lm,Ec b] 109)) #[E I 0,E I 0,E I 0,E I 0,E I 0,E I 0,E I 0,Ec EI] 109 (g:=w.heap.size+1) Ej;have u:=J<|JY w (Eb #[E I 4,E I e,E I o,E I oa,E I om,E I la,E I lm,Ec b] 109) (Eb #[E I 0,E I 0,E I 0,E I 0,E I 0,E I 0,E I 0,Ec EI] 109);generalize (w.alloc (Eb #[E I 4,E I e,E I o,E I oa,E I om,E I la,E I lm,Ec b] 109)).alloc (Eb #[E I 0,E I 0,E I 0,E I 0,E I 0,E I 0,E I 0,Ec EI] 109)=w1 at*;exact EoI
 ·rw[if_pos h4];have d4:(h !=4)=EJ:=ij;generalize sat e 65535=e2 at*;replace CP:=J<|CP.out e2;obtain⟨r,hr⟩:=Eo (Uc 4 e2 (-1) 0 0 0 0 b);rw[<-hr] at CP⊢;have SR:Ed (r.size=8):=J uS;have OR:Ed (r.all (·.oneCell')=EJ):=J AJ;clear hr h4;unfold Uc at*;go_enter Tryz.func96,Tryz.ntmps96;go_wp2_with fail;refine(CS.out _).mono ?_;rintro x w2 ⟨rfl,rfl⟩;go_wp2_with fail;have K4:=J<|H.new' (w.alloc (Eb #[E I h,E I e,E I o,E I oa,E I om,E I la,E I lm,Ec b] 109)) #[E I 0,E I 0,E I 0,E I 0,E I 0,E I 0,E I 0,Ec EI] 109 (g:=w.heap.size+1) Ej;have u:=J<|JY w (Eb #[E I h,E I e,E I o,E I oa,E I om,E I la,E I lm,Ec b] 109) (Eb #[E I 0,E I 0,E I 0,E I 0,E I 0,E I 0,E I 0,Ec EI] 109);generalize (w.alloc (Eb #[E I h,E I e,E I o,E I oa,E I om,E I la,E I lm,Ec b] 109)).alloc (Eb #[E I 0,E I 0,E I 0,E I 0,E I 0,E I 0,E I 0,Ec EI] 109)=w1 at*;exact EoI
theorem EO2(t:EN)(s:Int)(w:M): Eg EZ 146 #[t.a,E I s] w fun x w'=>x=Ei (Eu #[(t.drop s).1.a,Ec (t.drop s).2])/\El w w':=by
 unfold EN.drop;unfold EN.a;obtain⟨h,e,o,oa,om,la,lm,b⟩:=t;simp only[EN.end_];by_cases h1:o<0;·rw[if_pos (.inl h1)];have d1:decide (0<=o)=EI:=IZ U;unfold Uc;clear h1;exact ErD
 have d1:decide (0<=o)=EJ:=IJ U;by_cases h2:o=s;·rw[if_neg U];have d2:(o !=s)=EI:=AU;unfold Uc;clear h1;subst h2;go_enter Tryz.func146,Tryz.ntmps146;go_wp2;refine ET (v:=Ea #[E I h,E I e,E I (-1),E I 0,E I 0,E I la,E I lm,Ec b]) GL O ?_;exact ErG
 ·rw[if_pos (.inr h2)];have d2:(o !=s)=EJ:=by simp[h2]
  unfold Uc;clear h1 h2;exact ErD
theorem EO3(t:EN)(s:Int)(w:M): Eg EZ 180 #[t.a,E I s] w fun x w'=>x=Ei (Eu #[(t.pk s).1.a,E I (t.pk s).2])/\El w w':=by
 unfold EN.pk;unfold EN.a;obtain⟨h,e,o,oa,om,la,lm,b⟩:=t;simp only[EN.end_];by_cases h1:o<0;·rw[if_pos (.inl h1)];have d1:decide (0<=o)=EI:=IZ U;unfold Uc;clear h1;exact ErC
 have d1:decide (0<=o)=EJ:=IJ U;by_cases h2:o=s;·rw[if_neg U];have d2:(o !=s)=EI:=AU;unfold Uc;clear h1;subst h2;go_enter Tryz.func180,Tryz.ntmps180;go_wp2;refine ET (v:=Ea #[E I h,E I e,E I (-1),E I 0,E I 0,E I la,E I lm,Ec b]) GL O ?_;exact ErF
 ·rw[if_pos (.inr h2)];have d2:(o !=s)=EJ:=by simp[h2]
  unfold Uc;clear h1 h2;exact ErC
theorem EO4(t:EN)(w:M):Eg EZ 150 #[t.a] w fun x w'=>x=Ei t.end_.a/\El w w':=by unfold EN.a;obtain⟨h,e,o,oa,om,la,lm,b⟩:=t;simp only[EN.end_];unfold Uc;go_enter Tryz.func150,Tryz.ntmps150;go_wp2;refine ET GL O ⟨O,?_⟩;exact EnL
theorem EO5(t:EN)(w:M)(h1: -9223372036854775808<=t.oa)(h3:t.om<=9223372036854775807): Eg EZ 104 #[t.a] w fun x w'=>x=Ei (Eu #[t.Uu.1.a,E I t.Uu.2])/\El w w':=by
 have CS:=J<|fun W=>uz t.oa t.om W h1 h3;have CE:=J<|fun W=>EO4 {t with oa:=sat t.oa t.om} W;unfold EN.Uu;unfold EN.a at*;obtain⟨h,e,o,oa,om,la,lm,b⟩:=t;simp only[EN.end_] at*;clear h1 h3;by_cases h1:o<0;·rw[if_pos h1];have d1:decide (0<=o)=EI:=IZ U;unfold Uc;clear h1 CS CE;go_enter Tryz.func104,Tryz.ntmps104;go_wp2;refine ET QD O ⟨O,?_⟩;exact EnL
 have d1:decide (0<=o)=EJ:=IJ U;rw[if_neg h1];generalize sat oa om=a2 at*;clear h1;by_cases h2:a2<om;·rw[if_pos h2];have d2:decide (om<=a2)=EI:=IZ U;clear h2 CE;unfold Uc at*;go_enter Tryz.func104,Tryz.ntmps104;go_wp2_with (first|(go_at_call 90;(with_reducible refine(CS.out _).mono ?_);rintro x w9 ⟨rfl,rfl⟩)|go_in);refine ET (v:=Ea #[E I a2,E I om]) Gw O ?_;go_wp2;refine ET QD O ⟨O,?_⟩;exact EnL
 ·rw[if_neg h2];have d2:decide (om<=a2)=EJ:=IJ U;clear h2;obtain⟨r,hr⟩:=Eo (Uc h e (-1) 0 0 la lm b);rw[<-hr] at CE⊢;have SR:Ed (r.size=8):=J uS;have OR:Ed (r.all (·.oneCell')=EJ):=J AJ;clear hr;unfold Uc at*;go_enter Tryz.func104,Tryz.ntmps104;go_wp2_with (first|(go_at_call 90;(with_reducible refine(CS.out _).mono ?_);rintro x w9 ⟨rfl,rfl⟩)|go_in);refine ET (v:=Ea #[E I a2,E I om]) Gw O ?_;go_wp2_with (first|(go_at_call 90;(with_reducible refine(CS.out _).mono ?_);rintro x w9 ⟨rfl,rfl⟩)|go_in);generalize hW:Xo _ _=W at*;have K1:Ed (H W w.heap.size #[E I h,E I e,E I o,E I a2,E I om,E I la,E I lm,Ec b] 109):=J (by subst hW;repeat (first|exact H.new _ _ _|refine H.alloc ?_ _));have K2:Ed (H W (w.heap.size+1) #[E I 0,E I 0,E I 0,E I 0,E I 0,E I 0,E I 0,Ec EI] 109):=J (by subst hW;repeat (first|exact H.new' (w.alloc _) _ _ Ej|refine H.alloc ?_ _));have u:Ed (El w W):=J (by subst hW;(repeat (first|exact IU _ _|(refine J6 ?_ IF _)|(refine J7 ?_ IF _))));clear hW;refine Qv (Ph:=fun _ wq=>H wq w.heap.size #[E I h,E I e,E I o,E I a2,E I om,E I la,E I lm,Ec b] 109/\(∃c,c.size=8/\H wq (w.heap.size+1) c 109)/\El w wq) (Iw:=fun w w'=>w=w') (W.heap.size) [kq (Ea #[E I h,E I e,E I o,E I a2,E I om,E I la,E I lm,Ec b]),kq (Ea r),kq (V (D ⟨w.heap.size,2,Z⟩)),kq (E I o),.onto (w.heap.size+1) 109 (r),kq (E I o)] [] [(0,0),(0,0),(0,0),(0,0),(0,0),(0,0)] Ef Ef Ef Ef UP Ef O (show List.Nodup ([109]:List EB) from EU) ig ?hPh ?hR2 ?h0 ?hstep ?hend;case hPh=>exact fun _ w1 w2 h hr=>⟨hr.Ek h.1 (by simp[kM]),by obtain⟨c,hs,hk⟩:=h.2.1;obtain⟨c2,hs2,hk2⟩:=hr.some hk;exact⟨c2,hs2.trans hs,hk2⟩,h.2.2.trans (hr.Qq h.2.2.size (fun k S cs hk=>EON hk (by intro g T c hm;simp at hm;obtain⟨rfl,-⟩:=hm;omega) (by have:=u.out.size;omega)))⟩
  case hR2=>exact fun _ _ _ _ _ _ h k=>k▸h
  case h0=>exact⟨K1.out.drew,⟨_,O,K2.out.drew⟩,u.out.drew⟩
  case hstep=>
   refine⟨?_,?_,?_,?_,?_,?_,trivial⟩;·intro x wq p hlo hhi hp hd;simp only[EM,Ih,Ik,Ic,If];exact jn JT.kept EW (Eh O) ⟨O,O⟩ (hp.1) O O
   ·intro x wq p hlo hhi hp hd;simp only[EM,Ih,Ik,Ic,If];have d0:x 0=Ea #[E I h,E I e,E I o,E I a2,E I om,E I la,E I lm,Ec b]:=hd.at 0 rfl;refine JL (f:=150) (args:= #[x 0]) (Eh O) Ez ?_;rw[d0];exact(CE.out wq).mono fun e w2 ⟨he,hb⟩=>⟨_,he,JT.B hb,O⟩
   ·intro x wq p hlo hhi hp hd;simp only[EM,Ih,Ik,Ic,If];exact EoV
   ·intro x wq p hlo hhi hp hd;simp only[EM,Ih,Ik,Ic,If];have d2:x 2=V (D ⟨w.heap.size,2,Z⟩):=hd.at 2 rfl;have cc:wq.cell? ⟨w.heap.size,2,Z⟩=D (E I o):=(H.cell hp.1 2).trans O;exact IQ JT.kept (Eh O) co O
   ·intro x wq p hlo hhi hp hd;simp only[EM,Ih,Ik,Ic,If];have d1:x 1=Ea r:=hd.at 1 rfl;obtain⟨cz,hz,kz⟩:=hp.2.1;exact cX EW (Eh O) ⟨O,O,d1⟩ (kz) hz SR.out OR.out (JT.setRow (kz) (by simp[kM]) (by rw[SR.out,hz])) (H.setRow (kz) _)
   ·intro x wq p hlo hhi hp hd;simp only[EM,Ih,Ik,Ic,If];have d3:x 3=E I o:=hd.at 3 rfl;exact IQ JT.kept (Eh O) ct O
  case hend=> intro x W6 hp hr;have d5:x 5=E I o:=hr 5 EU;have k4:H W6 (w.heap.size+1) r 109:=hr 4 EU;simp only[EM,Ih,Ik,Ic,If];rw[d5];have AX:=J hp.2.2;clear hr hp d5 K1 K2;go_wp2_with fail;refine ET (UD EW O _ _ (w.heap.size+1) r _ O O k4 SR.out) O ⟨O,AX.out⟩
def Own(w:M)(base:Nat)(A:Option Ep)(cap:Nat)(xs:List Int):Prop:=
 w.ownsRow base 5 1 (G A xs.length cap) xs.length (xs.map (E .u8))/\ ∀x∈xs,0<=x/\x<=255
theorem Own.row(h:Own w base A cap xs):Row w A xs:=by
 obtain⟨h,hb⟩:=h;refine⟨?_,hb⟩;rcases h.2 with⟨hv,hn⟩|⟨g,cap',cur,hv,hg,hh,hl,hm,hs,ht⟩;·exact .inl (ZP hn)
 ·right;injection hv with h1 h2 h3;refine⟨g,0,h1,fun i hi=> ?_⟩;subst h1;have:=h.cellAt i U;rw[Ox,this];simp[hi]
theorem Own.EO6(h:Own w base A cap xs):zq w (G A xs.length cap):=by
 refine⟨A,xs,cap,O,?_,?_,h.row,?_⟩
 all_goals
  rcases h.1.2 with⟨hv,hn⟩|⟨g,cap',cur,hv,hg,hh,hl,hm,hs,ht⟩
  ·simp at hv;first|omega|(intro _;exact hv.2.2)
  ·injection hv with h1 h2 h3;subst h1 h3;unfold maxLen at hm;first|omega|(intro h;cases h)
theorem XL(w:M)(base:Nat):Own w base Z 0 []:=⟨cu _ _ _ _,fun x hx=>uB⟩
theorem GP(w:M)(base:Nat)(hb:base<=w.heap.size):Own (w.alloc (Eb #[] 5)) base (D ⟨w.heap.size,0,Z⟩) 0 []:=
 ⟨nm w #[] 0 hb J8 O,fun x hx=>uB⟩
theorem XM(h:Own w base A cap xs)(hb:El w w'):Own w' base A cap xs:=by
 refine⟨?_,h.2⟩;obtain⟨h1,h2⟩:=h.1;refine⟨h1,?_⟩;rcases h2 with h2|⟨g,cap',cur,hv,hg,hh,hl⟩;·exact .inl h2
 ·refine .inr ⟨g,cap',cur,hv,hg,?_,hl⟩;rw[hb.block g ?_];·exact hh
  ·rcases JW g w.heap.size with h|h;·exact h
   ·rw[iJ h] at hh;cases hh
theorem EO7(w:M)(base:Nat)(A:Option Ep)(cap:Nat)(xs:List Int)(hown:Own w base A cap xs)(Y4:Option Ep)(c:Nat)(ys:List Int)(hr:Row w Y4 ys) (hsmall:xs.length+ys.length<=1000000000) (hbase:base<=w.heap.size) (ty:EB): ∃A' cap' w',(ZX #[23,23] ty #[G A xs.length cap,G Y4 ys.length c]).run EZ w= .ok (G A' (xs.length+ys.length) cap') w'/\ Own w' base A' cap' (xs++ys)/\Ij base w w':=by
 obtain⟨i0,hi,hz0,hz1,hz2⟩:=au jl
 have hbb: ∀x∈xs++ys,0<=x/\x<=255:=by
  intro x hx;rcases Xp.1 hx with h|h;·exact hown.2 x h
  ·exact hr.2 x h
 rcases Y4 with _|ad
 ·have hy:ys=[]:=by
   rcases hr.1 with h|⟨b,off,h,_⟩;·exact h
   ·cases h
  subst hy;refine⟨A,cap,w,?_,GT,IU _ _⟩;rcases hown.1.2 with⟨hv,hn⟩|⟨g,cap',cur,hv,_,_,hnc,_⟩;·exact Epo
  ·exact Epp
 ·have hcells: ∀(j:Nat) Y3,(ys.map (E .u8))[j]?=D Y3->w.cell? (ad.add j)=D Y3:=by
   intro j Y3 hu
   have hj:j<ys.length:=by
    rcases JW j ys.length with h|h;·exact h
    ·exact Eq9
   rcases hr.1 with h|⟨b,off,h,hc⟩;·subst h;simp at hj
   ·exact Eou
  obtain⟨v',w',hrun,h2,h3,_,h5⟩:=run_append_own_at (P:=EZ) w base 23 ty 5 i0 (E Ix 0) 1 1 aJ hi hz0 hz1 hz2 O U _ _ _ hown.1 ad ys.length c (ys.map (E .u8)) Ej hcells
   GV J8 U hbase
  have hbel:Ij base w w':=by refine(IU _ _).grown h3 hbase (fun k hk=> ?_);exact(hown.1.lt k hk).1
  rcases h2.2 with⟨hv,hn⟩|⟨g,cap',cur,hv,hrest⟩
  ·refine⟨Z,0,w',?_,⟨?_,hbb⟩,hbel⟩;·rw[hrun,hv,hn]
   ·exact Eqk
  ·refine⟨D ⟨g,0,Z⟩,cap',w',by rw[hrun,hv],⟨?_,hbb⟩,hbel⟩;rw[hv] at h2;rw[IY,ik];exact h2
theorem uV{rest:List EP}{o:EP}{a:E_}(w:M)(hgd:o.guard=Z)(s x:J5) (ho:o.op= .call {callee:= .builtin .append,args:= #[s,x],argTypes:= #[23,23]}) (base:Nat) (A:Option Ep) (cap n:Nat) (xs:List Int) (hn:xs.length=n) (hs:a.eval s=G A n cap) (hown:Own w base A cap xs) (Y4:Option Ep) (c m:Nat) (ys:List Int) (hm:ys.length=m) (hx:a.eval x=G Y4 m c) (hr:Row w Y4 ys) (hsmall:n+m<=1000000000) (hbase:base<=w.heap.size) (h: ∀A' cap' w',Own w' base A' cap' (xs++ys)->Ij base w w'->Ib EZ ops Q rest (a.put o.dst (G A' (n+m) cap')) w'):Ib EZ ops Q (o::rest) a w:=by subst hn hm;refine wpList_plain hgd fun K hK=> ?_;obtain⟨A',cap',w',hrun,h2,h3⟩:=EO7 w base A cap xs hown Y4 c ys hr hsmall hbase o.type;unfold dn Ig;simp only[ho,resolve,invoke,builtin,OH,Oi,OM,List.map_toArray,UB,Xn,hs,hx,hrun];exact hK _ _ (h A' cap' w' h2 h3)
end Go.Proofs.YtclmichaaiohjaaGreatDoor
