import Derived.Test.YtclmichaaiohjaaGreatDoorU00
import Derived.Laws.CopyRow
import Derived.Laws.IdiomCopy
import Derived.Laws.MakeOwn
set_option maxRecDepth 100000
set_option linter.unusedVariables false
set_option linter.unusedSimpArgs false
set_option maxHeartbeats 6400000
namespace Go.Proofs.YtclmichaaiohjaaGreatDoor
open RowKit
open _root_.Array renaming getElem?_eq_none->gQ,replicate->bh,getElem?_eq_some_iff->J6,getElem?_eq_getElem->j7
open BitVec renaming ofInt->gN
open Bool renaming true->EI,false->B,or_eq_true->mf,and_eq_true->Oc
open Classical renaming byContradiction->rg
open Go renaming bits->Iu,World->H,Calls->Ef,TypeId->EB,Value->Y,Addr->Eu,Program->Jh,heap_alloc_new->fz,bodyPost_ret->EV,binOp->XW,results->UL,Exit->UM,Act->E6,Oper->EL,yielded->JO,execOp->If,wpList->Ic,undef->I2,getD_set_ne->aI,mem_ready->Zz,Operand->J7,info_parts->bz,madeCells->aL,below_setRow->E2
open Act renaming put->Ig
open Builtin renaming append_->bv
open Code renaming region->aG
open DataW renaming trod->Zx
open Ending renaming returned->Eg
open Instr renaming loadAt->fB,sureAddr->dJ
open IntKind renaming wrap->oI,bits->jV,signed->jW,i64->I,u8->IL,u64->Im,u32->Oh
open Lib renaming hid->J
open Obj renaming cells->EJ
open Oper renaming wp->dI
open Go.Proofs.Tryz renaming prog->Eb,underlying23->bA
open Region renaming wanted->I5,binds->UN,ready->j6
open Result renaming andThen_ok->OC
open RowKit renaming Below->Ik,Hid->Ec
open RowKit.Below renaming refl->E9,heap_setCell->XK
open Sem renaming run_bind->Oz,run_pure->Og
open Value renaming bool->EU,int->E,agg->EZ,slice->G,tuple->Et,pointer->M,oneCell'->OF
open World renaming block_lt_of_cell?->Xv,setCell->dN
open Int renaming toNat_natCast->mO
open List renaming getElem?_eq_none->bf,mem_of_mem_take->fy,eq_nil_of_length_eq_zero->aF,getElem?_eq_getElem->J5,range->U4,mem_range->aH,mem_filterMap->ma,mem_cons_of_mem->aJ,mem_cons_self->gS,nodup_cons->mc,all_eq_true->Xk,getElem?_eq_some_iff->Xx,mem_iff_getElem?->fC,take_append_drop->gT,take_succ_cons->Iq,drop_eq_getElem_cons->mg,length_take->aO,replicate->dT,take_of_length_le->OY,getD_eq_getElem?_getD->Uq,getElem?_append_left->bi,getElem?_take_of_lt->bj,getElem?_append_right->aX,map_cons->Uv,map_nil->Xn,take_zero->Io,mem_map->dU,getElem?_toArray->OE,setIfInBounds_toArray->Ii,length_append->IY,flatMap_cons->kI,length_cons->ZC,filter_cons->mq,mem_cons->UJ
open Nat renaming lt_or_ge->JY,le_trans->Ez,le_refl->E7,zero_add->OD,zero_le->bG
open Option renaming some->Z,none->X,map_some->jY
open Option.some renaming inj->dQ
variable{k Y4 g id i j d b0:Nat}{w w' W w'' w0:H}{xs:List Int}{x:Nat->Y}{P:Jh}{t TB S:EB}{cs args tmps big:Array Y}{p:Tmp}{f:FuncId}{Q:UM->E6->H->Prop}{l:List EL}{old:List Y}{fn:Func}{listed:Array Bool}{F:(Nat->Y)->E6}{want:Bool}{Rel Is:H->H->Prop}{R:Nat->(Nat->Y)->H->Prop}{ops:Array EL}{Gs:List (List Y)}{S2:Y->H->Prop}{ks:List (Nat×Nat)}{Ph:Nat->H->Prop}
theorem i8(k:Nat)(hk:k<=62)(a:Int)(m:Int)(hm:m=((2^k-1:Nat):Int)):Iu .and .i64 a m=a%(2^k:Nat):=by
 subst hm;have hp:2^k<=2^62:=Nat.pow_le_pow_right U hk;have hp0:0<2^k:=Nat.two_pow_pos k;show IntKind.i64.wrap ((gN 64 a&&&gN 64 ((2^k-1:Nat):Int)).toNat:Int)=_;rw[BitVec.toNat_and,BitVec.toNat_ofInt,BitVec.ofInt_natCast,BitVec.toNat_ofNat,Nat.mod_eq_of_lt U,Nat.and_two_pow_sub_one_eq_mod];have e:(((a%((2^64:Nat):Int)).toNat%2^k:Nat):Int)=a%((2^k:Nat):Int):=by rw[Int.natCast_emod,Int.toNat_of_nonneg (Int.emod_nonneg _ U)];apply Int.emod_emod_of_dvd;exact_mod_cast Nat.pow_dvd_pow 2 U
 rw[e];have h1:=Int.emod_nonneg a (b:=((2^k:Nat):Int)) U;have h2:=Int.emod_lt_of_pos a (b:=((2^k:Nat):Int)) U;exact IntWalk.i64_in _ U
theorem EIu(a:Int):Iu .and .i64 a 1=a%2:=i8 1 U a 1 rfl
theorem EIv(a:Int):Iu .and .i64 a 3=a%4:=i8 2 U a 3 rfl
theorem EIw(a:Int):Iu .and .i64 a 7=a%8:=i8 3 U a 7 rfl
theorem EIx(a:Int):Iu .and .i64 a 15=a%16:=i8 4 U a 15 rfl
theorem EIy(a:Int):Iu .and .i64 a 31=a%32:=i8 5 U a 31 rfl
theorem EIz(a:Int):Iu .and .i64 a 255=a%256:=i8 8 U a 255 rfl
theorem EIA(a:Int):Iu .and .i64 a 1023=a%1024:=i8 10 U a 1023 rfl
theorem EIB(a:Int):Iu .and .i64 a 65535=a%65536:=i8 16 U a 65535 rfl
theorem EIC(a:Int):Iu .and .i64 a 1048575=a%1048576:=i8 20 U a 1048575 rfl
theorem EID(a:Int):Iu .and .i64 a 4294967295=a%4294967296:=i8 32 U a 4294967295 rfl
attribute [go_sem] EIu EIv EIw EIx EIy EIz EIA EIB EIC EID
theorem i9{k:IntKind}{a b:Int}(h:a=b):Eg (.int k a)=Eg (.int k b):=by rw[h]
theorem yg{a b:Bool}(h:a=b):Eg (EU a)=Eg (EU b):=by rw[h]
def sat(n most:Int):Int:=if n<most then n+1 else most
def aC(n low high:Int):Int:=if n<low then low else if high<n then high else n
def Jv(now aD Em:Int):Int:=
 if Em<1 then now
 else if now<=aD then(if aD-now<=Em then aD else now+Em)
 else if now-aD<=Em then aD else now-Em
def has(oE i:Int):Bool:=decide (0<=oE/\0<=i/\i<=62)&&(oE/2^i.toNat%2==1)
theorem EIF(n:Int):IntKind.u64.wrap n=n%18446744073709551616:=by simp[oI,jV,jW]
theorem Nv(a b:Int)(h1: -9223372036854775808<=b)(h2:a<=9223372036854775807)(h:b<=a): IntKind.u64.wrap (IntKind.u64.wrap a-IntKind.u64.wrap b)=a-b:=by simp only[EIF];omega
theorem tK(n most:Int)(w:H)(h1: -9223372036854775808<=n)(h3:most<=9223372036854775807): Ef Eb 90 #[E I n,E I most] w fun e w'=>e=Eg (E I (sat n most))/\w=w':=by
 go_enter Tryz.func90,Tryz.ntmps90;go_wp2
 all_goals
  go_ret
  refine⟨i9 ?_,O⟩
  unfold sat
  split<;>omega
theorem tL(n low high:Int)(w:H): Ef Eb 184 #[E I n,E I low,E I high] w fun e w'=>e=Eg (E I (aC n low high))/\w=w':=by
 go_enter Tryz.func184,Tryz.ntmps184;go_wp2
 all_goals
  go_ret
  refine⟨i9 ?_,O⟩
  unfold aC
  repeat' split
  all_goals omega
theorem yh(now aD Em:Int)(w:H)(h1: -9223372036854775808<=now)(h2:now<=9223372036854775807)(h3: -9223372036854775808<=aD)(h4:aD<=9223372036854775807) (h5: -9223372036854775808<=Em) (h6:Em<=9223372036854775807): Ef Eb 152 #[E I now,E I aD,E I Em] w fun e w'=>e=Eg (E I (Jv now aD Em))/\w=w':=by
 by_cases hc:now<=aD
 ·have e1:=Nv aD now h1 h4 hc;go_enter Tryz.func152,Tryz.ntmps152;go_wp2
  all_goals
   go_ret
   refine⟨i9 ?_,O⟩
   unfold Jv
   repeat' split
   all_goals omega
 ·have e1:=Nv now aD h3 h2 U;go_enter Tryz.func152,Tryz.ntmps152;go_wp2
  all_goals
   go_ret
   refine⟨i9 ?_,O⟩
   unfold Jv
   repeat' split
   all_goals omega
theorem Fa(oE i:Int)(w:H)(h1: -9223372036854775808<=oE)(h2:oE<=9223372036854775807): Ef Eb 163 #[E I oE,E I i] w fun e w'=>e=Eg (EU (has oE i))/\w=w':=by
 go_enter Tryz.func163,Tryz.ntmps163;go_wp2
 all_goals
  go_ret
  refine⟨yg ?_,O⟩
  unfold has
 ·rw[IJ U];rfl
 ·rw[IU U];rfl
 ·rw[IJ U];rfl
 ·rw[IJ U];rfl
section
open Go.ChangeShapes Go.WideShapes
section
variable{P:Program}{w:World}{r:Reach}{base:Nat}{t:TypeId}{v:Value}
theorem EIG{k:IntKind}(ht:P.underlying t=Z (.int k))(h:Cell.okWide P w r base t v): ∃n,v= .int k n/\k.min<=n/\n<=k.max:=by simp only[Cell.okWide,ht,Cell.ok,IntKind.has] at h;cases v<;>simp_all
theorem EIH(ht:P.underlying t=Z (.int .i64))(h:Cell.okWide P w r base t v): ∃n:Int,v=E I n/\ -9223372036854775808<=n/\n<=9223372036854775807:=by obtain⟨n,rfl,h1,h2⟩:=EIG ht h;exact⟨n,O,by simpa[IntKind.min,jW,jV] using h1,by simp[IntKind.max,jW,jV] at h2;omega⟩
theorem flat{ts:List EB}(ha:(∃fs,P.underlying t=Z (.struct fs))\/ ∃n e,P.underlying t=Z (.array n e))(hts:P.cellTypes P.depth t=Z ts)(hn:P.cellsOf t=ts.length) (h:Value.okWide P w r base t v): ∃cs:Array Y,v=EZ cs/\cs.size=ts.length/\ ∀(i:Nat) Y3 c,ts[i]?=Z Y3->cs[i]?=Z c->Cell.okWide P w r base Y3 c:=by
 have h': ∃cs,v=EZ cs/\cs.size=P.cellsOf t/\Row.okWide P w r base t cs:=by rcases ha with⟨fs,ha⟩|⟨n,e,ha⟩<;>simpa only[Value.okWide,ha] using h
 obtain⟨cs,rfl,hs,ts',Nw,_,hc⟩:=h';rw[hts] at Nw;obtain rfl:ts=ts':=by simpa using Nw
 refine⟨cs,O,U,fun i Y3 c hu hcs=> ?_⟩;obtain⟨u',hu',hok⟩:=hc i c hcs
 have hi:i<ts.length:=by
  rcases JY i ts.length with h|h;·exact h
  ·rw[bf h] at hu;cases hu
 rw[Nat.mod_eq_of_lt hi,hu] at hu';obtain rfl:Y3=u':=by simpa using hu'
 exact hok
def Nx(k:IntKind)(w:H)(v:Y):Prop:=
 v= .slice X 0 0\/
 ∃(x:Eu) (len cap:Nat) (zs:List Int),v=G (Z x) len cap/\(0<cap->x.block<w.heap.size/\x.spot=X)/\len<=cap/\cap<=9223372036854775807/\zs.length=cap/\(∀i,i<zs.length->w.cell? (x.add i)=Z (.int k (zs.getD i 0)))/\ ∀n∈zs,(Lit.int k n).wf=EI
end
end
section
open Go.ChangeShapes Go.WideShapes
def Row(w:H)(a:Option Eu)(xs:List Int):Prop:=
 (xs=[]\/ ∃b off,a=Z ⟨b,off,X⟩/\ ∀i (h:i<xs.length),w.cell? ⟨b,off+i,X⟩=Z (E IL xs[i]))/\ ∀x∈xs,0<=x/\x<=255
theorem Ix{a:Option Eu}(h:Row w a xs)(hb:El w w'):Row w' a xs:=by
 obtain⟨h|⟨b,off,rfl,hc⟩,h2⟩:=h;·exact⟨.inl h,h2⟩
 ·exact⟨.inr ⟨b,off,O,fun i hi=>by rw[hb.cell (Xv _ _ (hc i hi))];exact hc i hi⟩,h2⟩
theorem yi{a:Option Eu}(h:Row W a xs)(q:Nat):Row (W.drewN q) a xs:=h
theorem oJ(W:H)(a:Option Eu):Row W a []:=⟨.inl O,fun x hx=>tM⟩
theorem oO{a:Option Eu}(h:Row W a xs)(n:Nat):Row W a (xs.take n):=by
 obtain⟨h|⟨b,off,rfl,hc⟩,h2⟩:=h;·subst h;simpa using oJ W a
 ·refine⟨.inr ⟨b,off,O,fun i hi=> ?_⟩,fun x hx=>h2 x (fy hx)⟩;rw[hc i rJ];simp
def yj(w:H)(v:Y):Prop:=
 ∃(A:Option Eu) (xs:List Int) (cap:Nat),v=G A xs.length cap/\xs.length<=cap/\cap<=9223372036854775807/\Row w A xs/\(A=X->cap=0)
theorem Ny{x:Int}(h:(Lit.int .u8 x).wf=EI):0<=x/\x<=255:=by exact Eo7
theorem Nz{Y9:Type}{enc:EB×Y->Y9}{e:EB}{v:Y}{fuel:Nat}{x:DataW Y9×List MemPlace}(ht:P.underlying t=Z (.slice e))(he:P.underlying e=Z (.int .u8))(hc:P.cellsOf e=1) (hd:Zx enc P w 0 (fun _=>EI) EI fuel t [v]=Z x):yj w v:=by
 rcases open_ints ht he hc hd with⟨hcs,_⟩|⟨ad,l,c,zs,hcs,_,hl,hm,hz,hx,hcell,hwz⟩;·simp at hcs;subst hcs;exact⟨X,[],0,O,Eh,Eh,oJ _ _,fun _=>rfl⟩
 ·simp at hcs;subst hcs;have hzc:zs.length=c:=by simpa using hz
  have hlen:(zs.take l).length=l:=l_;refine⟨Z ad,zs.take l,c,by rw[hlen],U,by unfold maxLen at hm;omega,⟨?_,fun y hy=>Ny (hwz y (fy hy))⟩,fun h=>XE⟩;rcases Nat.eq_zero_or_pos c with h0|h0;·left;exact aF U
  ·right;have h1:=hcell 0 U;have e0:ad.add 0=ad:=by simp[Addr.add]
   rw[e0] at h1;obtain⟨b,off,spot⟩:=ad;have hs:=World.cell?_spot h1;simp at hs;subst hs;refine⟨b,off,O,fun i hi=> ?_⟩;have hi':i<l:=U;have:=hcell i U;have e:(⟨b,off,X⟩:Eu).add i=⟨b,off+i,X⟩:=Xw;rw[e] at this;exact Eop
theorem yk(h:Ik Y4 w w')(k:El w' w'')(hB:Y4<=w.heap.size):Ik Y4 w w'':=
 h.trans (k.mono (Ez hB h.size))
theorem bt(h:El w w')(k:El w' w''):El w w'':=h.trans (k.mono h.size)
theorem ET(h:Ec (Ik w.heap.size w w'))(k:Ik w'.heap.size w' w''):Ec (Ik w.heap.size w w''):=J (bt h.out k)
theorem gP{a:H}(h:Ik Y4 a w)(n:Nat):Ik Y4 a (w.drewN n):=⟨h.os,h.tape,h.output,h.size,h.block⟩
theorem Jg(w:H):El w w.drew:=⟨O,O,O,E7 _,fun _ _=>rfl⟩
theorem Er(w:H)(o:Obj):El w (w.alloc o):=(E9 _ _).alloc (E7 _) o
theorem JV(w:H)(o o':Obj):El w ((w.alloc o).alloc o'):=(Er w o).alloc Eh o'
theorem Z_(w:H)(o o' o'':Obj):El w (((w.alloc o).alloc o').alloc o''):=(JV w o o').alloc Ji o''
theorem JU(h:w.heap[g]?=Z (EJ cs t (0,0))):(∀i,w.cell? ⟨g,i,X⟩=cs[i]?)/\(∀i,w.frozen? ⟨g,i,X⟩=B):=
 ⟨fun i=>cell_of_row w g i cs t (0,0) h,fun i=>frozen_of_row w g i cs t h⟩
theorem mE{o:Obj}(h:w.heap[g]?=Z o):g<w.heap.size:=by
 rcases JY g w.heap.size with h1|h1;·exact h1
 ·rw[gQ h1] at h;cases h
theorem Xj{o:Obj}(h:w.heap[g]?=Z o)(hb:El w w'):w'.heap[g]?=Z o:=(hb.block g (mE h)).trans h
theorem ND{o o':Obj}(hb:Ik ((w.alloc o).alloc o').heap.size ((w.alloc o).alloc o') w'):w'.heap[w.heap.size]?=Z o/\w'.heap[w.heap.size+1]?=Z o'/\w.heap.size+1<w'.heap.size:=by refine⟨Xj (heap_alloc2_old _ _ _) hb,Xj (heap_alloc2_new _ _ _) hb,?_⟩;have:=hb.size;simp at this;omega
theorem Fb(hg:W.heap[g]?=Z (EJ cs t (0,0)))(hc:cs=(xs.map (E .u8)).toArray)(hb: ∀x∈xs,0<=x/\x<=255): Row W (Z ⟨g,0,X⟩) xs:=by subst hc;refine⟨.inr ⟨g,0,O,fun i h=> ?_⟩,hb⟩;rw[cell_of_row W g (0+i) _ t (0,0) hg];simp[h]
theorem EIK(i:Nat):(w.alloc (EJ cs t)).cell? ⟨w.heap.size,i,X⟩=cs[i]?:=cell_of_row _ _ i cs t (0,0) (fz w _)
theorem NF(hb:Ik (w.alloc (EJ cs t)).heap.size (w.alloc (EJ cs t)) w')(i:Nat):w'.cell? ⟨w.heap.size,i,X⟩=cs[i]?:=
 (hb.cell (p:=⟨w.heap.size,i,X⟩) Eh).trans (EIK i)
theorem NG{o:Obj}(hb:Ik (w.alloc o).heap.size (w.alloc o) w'):El w w':=
 yk ((E9 _ _).alloc (E7 _) o) hb (E7 _)
theorem mI{p:Nat×Nat}(h:w.heap[g]?=Z (EJ cs t p))(i:Nat)(v:Y):(w.setCell ⟨g,i,X⟩ v).heap[g]?=Z (EJ (cs.setIfInBounds i v) t p):=by simp only[dN,Array.getElem?_modify,if_true,h,jY];rfl
theorem NH(h:Ik Y4 w.drew w'):Ik Y4 w w':=⟨h.os,h.tape,h.output,h.size,h.block⟩
theorem mJ:(Tryz.prog.info? 5).map (fun i=>(i.zero,i.size,i.bytes))=Z (Z (E IL 0),1,1):=Ed
end
def oU:Option (Nat×Nat)->Y
 |none=>EZ #[EU B,E I 0,E Im 0]
 |some (h,s)=>EZ #[EU EI,E I h,E Im s]
def Zc:Option (Nat×Nat)->Nat->Option (Nat×Nat)×Bool
 |none,n=>(Z (n,1),EI)
 |some (h,s),n=>
  if h<n then(Z (n,(s*2^(n-h))%2^64|||1),EI)
  else if h-n<64 then(Z (h,s|||2^(h-n)),!s.testBit (h-n))
  else(Z (h,s),B)
def rO:Option (Nat×Nat)->Prop
 |none=>True
 |some (h,s)=>h<=4294967295/\s<2^64
theorem EIL(s d:Nat)(c:Int)(hs:s<2^64)(hc:c=d)(W:H):(Op.shift BinOp.shl Im (s:Int) Im c).run Eb W= .ok (E Im ((s*2^d%2^64:Nat):Int)) W:=by
 subst hc
 have e:IntKind.u64.wrap ((s:Int)*2^(min d 64))=((s*2^d%2^64:Nat):Int):=by
  have c1:(s:Int)*2^(min d 64)=((s*2^(min d 64):Nat):Int):=Eh;rw[c1];have c2:IntKind.u64.wrap ((s*2^(min d 64):Nat):Int)=((s*2^(min d 64)%2^64:Nat):Int):=by simp[oI,jV,jW]
  rw[c2];congr 1;rcases JY d 64 with h|h;·rw[Nat.min_eq_left U]
  ·rw[Nat.min_eq_right h,Nat.mul_mod_left,show d=(d-64)+64 from U,Nat.pow_add,<-Nat.mul_assoc,Nat.mul_mod_left]
 unfold Op.shift;rw[if_neg U,mO];show(pure (E .u64 (IntKind.u64.wrap ((s:Int)*2^(min d 64)))):Sem Y).run Eb W=_;rw[e];rfl
theorem EIM(n:Nat)(w:H)(h6:n<=4294967295): Ef Eb 173 #[EZ #[EU B,E I 0,E Im 0],E I n] w fun e w'=>e=Eg (EZ #[EU EI,E I n,E Im 1])/\El w w':=by go_enter Tryz.func173,Tryz.ntmps173;go_wp2;exact EV (v:=EZ #[EU EI,E I n,E Im 1]) yl O ⟨O,JV _ _ _⟩
theorem EIN(h s n:Nat)(w:H)(h2:h<=4294967295)(h4:s<2^64)(h5:h<n)(h6:n<=4294967295): Ef Eb 173 #[EZ #[EU EI,E I h,E Im s],E I n] w fun e w'=>e=Eg (EZ #[EU EI,E I n,E Im (s*2^(n-h)%2^64|||1:Nat)])/\El w w':=by have hsh:=EIL s (n-h) ((n:Int)-(h:Int)) h4 U;have hor:Iu .or .u64 ((s*2^(n-h)%2^64:Nat):Int) 1=((s*2^(n-h)%2^64|||1:Nat):Int):=u64_or_nat _ 1 (Nat.mod_lt _ U) U;obtain⟨x,hx⟩:=Jl (s*2^(n-h)%2^64);rw[hx] at hsh hor;rw[hx];clear hx;go_enter Tryz.func173,Tryz.ntmps173;go_wp2;exact EV (v:=EZ #[EU EI,E I n,E Im (x|||1:Nat)]) yl O ⟨O,JV _ _ _⟩
theorem EIP(h s n:Nat)(w:H)(h2:h<=4294967295)(h4:s<2^64)(h5:n<=h)(h7:h-n<64): Ef Eb 173 #[EZ #[EU EI,E I h,E Im s],E I n] w fun e w'=>e=Eg (EZ #[EU EI,E I h,E Im (s|||2^(h-n):Nat)])/\El w w':=by
 have hp:2^(h-n)<2^64:=Nat.pow_lt_pow_right U h7;have hor:Iu .or .u64 (s:Int) (IntKind.u64.wrap (2^(h-n)))=((s|||2^(h-n):Nat):Int):=by have c1:((2:Int)^(h-n))=((2^(h-n):Nat):Int):=Eh;rw[c1,IntWalk.u64_in _ ⟨Int.natCast_nonneg _,U⟩];exact u64_or_nat _ _ U U
 have h8:(h:Int)-(n:Int)<64:=U;have h9:(n:Int)<=h:=U;obtain⟨x,hx⟩:=Jl (s|||2^(h-n));rw[hx] at hor;rw[hx];clear hx hp;go_enter Tryz.func173,Tryz.ntmps173;go_wp2;go_region;go_wp2;exact EV (v:=EZ #[EU EI,E I h,E Im x]) yl O ⟨O,(JV _ _ _).drew⟩
theorem EIQ(h s n:Nat)(w:H)(h2:h<=4294967295)(h4:s<2^64)(h5:n<=h)(h7:64<=h-n): Ef Eb 173 #[EZ #[EU EI,E I h,E Im s],E I n] w fun e w'=>e=Eg (EZ #[EU EI,E I h,E Im s])/\El w w':=by have h8:64<=(h:Int)-(n:Int):=U;have h9:(n:Int)<=h:=U;go_enter Tryz.func173,Tryz.ntmps173;go_wp2;exact EV (v:=EZ #[EU EI,E I h,E Im s]) yl O ⟨O,JV _ _ _⟩
theorem EIR(a1 a2:Bool)(h1 h2 s1 s2:Int)(W:H): (XW .neq 158 (EZ #[EU a2,E I h2,E Im s2]) (EZ #[EU a1,E I h1,E Im s1])).run Eb W= .ok (EU (decide (¬(a2=a1/\h2=h1/\s2=s1)))) W:=by by_cases e1:a2=a1<;>by_cases e2:h2=h1<;>by_cases e3:s2=s1<;>simp[go_sem,e1,e2,e3]
theorem yn(a1 a2:Bool)(h1 h2 s1 s2:Int)(n:Int)(w:H) (hc: ∀w,Ef Eb 173 #[EZ #[EU a1,E I h1,E Im s1],E I n] w fun e w'=>e=Eg (EZ #[EU a2,E I h2,E Im s2])/\El w w'): Ef Eb 126 #[EZ #[EU a1,E I h1,E Im s1],E I n] w fun e w'=>e=Eg (Et #[EZ #[EU a2,E I h2,E Im s2],EU (decide (¬(a2=a1/\h2=h1/\s2=s1)))])/\El w w':=by have HC:=J hc;have hn:=EIR a1 a2 h1 h2 s1 s2;obtain⟨b,hb⟩:=Jl (decide (¬(a2=a1/\h2=h1/\s2=s1)));rw[hb] at hn;rw[hb];clear hc hb;go_enter Tryz.func126,Tryz.ntmps126;go_wp2_with fail;refine(HC.out _).mono ?_;rintro e w1 ⟨rfl,b1⟩;obtain⟨q0,q1,hz⟩:=ND b1;obtain⟨c0,f0⟩:=JU q0;obtain⟨c1,f1⟩:=JU q1;have Y4:=J<|(JV w _ _).trans (b1.mono Ji);have hz0:w.heap.size<w1.heap.size:=U;clear q0 q1 b1 f0;go_wp2;go_region;go_wp2;refine EV (v:=Et #[EZ #[EU a2,E I h2,E Im s2],EU b]) ?_ O ⟨O,((((Y4.out.setCell Eh _).setCell Eh _).setCell Eh _).alloc (by simp[dN];omega) _).drew⟩;simp[UL,Tryz.results126,go_sem,c1,hz]
theorem EIS(s d:Nat):(s|||2^d=s)↔s.testBit d=EI:=by
 constructor;·intro h;rw[<-h,Nat.testBit_or,Nat.testBit_two_pow];simp
 ·intro h;apply Nat.eq_of_testBit_eq;intro i;rw[Nat.testBit_or,Nat.testBit_two_pow];by_cases e:d=i;·subst e;simp[h]
  ·simp[e]
theorem EIT(v:Option (Nat×Nat))(n:Nat)(w:H)(hv:rO v)(hn:n<=4294967295): Ef Eb 126 #[oU v,E I n] w fun e w'=>e=Eg (Et #[oU (Zc v n).1,EU (Zc v n).2])/\El w w':=by
 rcases v with _|⟨h,s⟩;·refine(yn B EI 0 n 0 1 n w (fun w=>EIM n w hn)).mono ?_;rintro e w' ⟨rfl,hb⟩;exact⟨by simp[oU,Zc],hb⟩
 ·obtain⟨h1,h2⟩:=hv;by_cases c1:h<n;·refine(yn EI EI h n s _ n w (fun w=>EIN h s n w h1 h2 c1 hn)).mono ?_;rintro e w' ⟨rfl,hb⟩;refine⟨?_,hb⟩;have e1: ¬((n:Int)=(h:Int)):=U;simp only[Zc,if_pos c1,oU,e1,false_and,and_false,not_false_eq_true,decide_true]
  ·by_cases c2:h-n<64
   ·refine(yn EI EI h h s _ n w (fun w=>EIP h s n w h1 h2 U c2)).mono ?_;rintro e w' ⟨rfl,hb⟩;refine⟨?_,hb⟩;have e1:decide (¬(EI=EI/\(h:Int)=h/\((s|||2^(h-n):Nat):Int)=s))= !s.testBit (h-n):=by have:=EIS s (h-n);rw[Bool.eq_iff_iff];simp only[true_and,decide_eq_true_eq,Bool.not_eq_true',Int.natCast_inj];rw[this];simp
    rw[e1];simp only[Zc,if_neg c1,if_pos c2,oU]
   ·refine(yn EI EI h h s s n w (fun w=>EIQ h s n w h1 h2 U U)).mono ?_;rintro e w' ⟨rfl,hb⟩;refine⟨?_,hb⟩;simp only[Zc,if_neg c1,if_neg c2,oU];simp
def Ext(W:H):Type:={w':H//El W w'}
def EC(W:H)(x:Ext W):H:=x.1
instance(W:H):Nonempty (Ext W):=⟨⟨W,E9 _ _⟩⟩
theorem EN(x:Ext W):El W (EC W x):=x.2
theorem aE{x:Ext W}{v:Y}(h:Ef P f args (EC W x) fun e w'=>e=Eg v/\Ik (EC W x).heap.size (EC W x) w'): Ef P f args (EC W x) fun e w''=>e=Eg v/\ ∃y,w''=EC W y:=h.mono fun _ _ ⟨he,hb⟩=>⟨he,⟨⟨_,bt x.2 hb⟩,O⟩⟩
theorem i_{x:Ext W}{v:Y}(h:Ef P f args (EC W x) fun e w'=>e=Eg v/\EC W x=w'): Ef P f args (EC W x) fun e w''=>e=Eg v/\ ∃y,w''=EC W y:=h.mono fun _ _ ⟨he,hb⟩=>⟨he,⟨x,hb.symm⟩⟩
theorem Zy{a:E6}(hm:P.follows .mixedOrders=EI)(hB:Region.lexB .any l.toArray=EI) (h:wpQuiet P l.toArray (fun w'=> ∃x,w'=EC w x) (fun a'=> ∀w',(∃x,w'=EC w x)->Q .normal a' w') l a):(aG id l.toArray EI).wp P Q a w:=
 wp_region_quiet (C:=fun w'=> ∃x,w'=EC w x) hm hB ⟨⟨w.drew,Jg w⟩,O⟩ Up
section
variable{P:Program}{ops:Array Oper}{rest:List Oper}{o:Oper}{a:Act}{w:World}{Q:Exit->Act->World->Prop}
theorem Jr(hw:I5 o (JO ops a.tmps)=EI) {v:Y} {w':H} (hr:(If a.eval o).run P w= .ok (.value v) w') (h:Ic P ops Q rest (a.put o.dst v) w'):Ic P ops Q (o::rest) a w:=by exact EmW
theorem EIV(hw:I5 o (JO ops a.tmps)=EI) {w':H} (hr:(If a.eval o).run P w= .ok .skip w') (h:Ic P ops Q rest (a.put o.dst I2) w'):Ic P ops Q (o::rest) a w:=by exact EmW
theorem Ei{o:EL}{ops:Array EL}(h:o.guard=X):I5 o (JO ops tmps)=EI:=by unfold I5;rw[h]
def IG(P:Jh)(T:EB)(n:Nat):Prop:=(∃d,P.underlying T=Z d/\(match d with| .struct _| .array _ _=>true|_=>false)=EI)/\(P.info? T).map (·.size)=Z n
def mU(o:EL)(a:E6)(T:EB)(g:Nat):Prop:=match o.op with| .load t x=>t=T/\a.eval x=M (Z ⟨g,0,X⟩)|_=>False
def rU(o:EL)(a:E6)(T:EB)(g:Nat)(cs:Array Y):Prop:=match o.op with| .store t x y=>t=T/\a.eval x=M (Z ⟨g,0,X⟩)/\a.eval y=EZ cs|_=>False
theorem EIW{T:EB}{n:Nat}(hT:IG P T n)(hw:I5 o (JO ops a.tmps)=EI)(hl:mU o a T g)(hg:Ec (w.heap[g]?=Z (EJ cs T (0,0))))(hn:cs.size=n) (h:Ic P ops Q rest (a.put o.dst (EZ cs)) w):Ic P ops Q (o::rest) a w:=by
 obtain⟨⟨d,hu,hd⟩,hi⟩:=hT;unfold mU at hl;split at hl
 ·rename_i t x ho;obtain⟨rfl,hx⟩:=hl;refine Jr hw ?_ h;unfold If;have hrun:(loadVar t ⟨g,0,X⟩).run P w= .ok (EZ cs) w:=by cases d<;>first|(cases hd;done)|exact run_loadVar_row w g t t cs (0,0) _ hg.out hu rfl gR
  simp only[ho,hx,fB,dJ,Oz,Og,OC,hrun]
 ·exact hl.elim
theorem Fc{T:EB}{n:Nat}{old:Array Y}(hT:IG P T n)(hw:I5 o (JO ops a.tmps)=EI)(hl:rU o a T g cs)(hg:Ec (w.heap[g]?=Z (EJ old T (0,0))))(ho:old.size=n)(hn:cs.size=n) (h1:cs.all (·.oneCell')=EI) (h:Ic P ops Q rest (a.put o.dst I2) (w.setRow g cs)):Ic P ops Q (o::rest) a w:=by
 obtain⟨-,hi⟩:=hT;unfold rU at hl;split at hl;·rename_i t x y hop;obtain⟨rfl,hx,hy⟩:=hl;refine EIV hw ?_ h;unfold If;simp only[hop,hx,hy,Instr.storeAt,dJ,Oz,Og,OC,run_storeVar_row _ g t t old cs hg.out gR (by rw[ho,hn]) h1]
 ·exact hl.elim
theorem Ff{T:EB}{n:Nat}(hT:IG P T n)(h:fn.results= #[.cell p T])(tmps:Array Y)(w:H)(g:Nat)(cs:Array Y) (hp:tmps.getD p I2=M (Z ⟨g,0,X⟩)) (hg:w.heap[g]?=Z (EJ cs T (0,0))) (hn:cs.size=n):(UL fn tmps).run P w= .ok (EZ cs) w:=by obtain⟨⟨d,hu,hd⟩,hi⟩:=hT;cases d<;>first|(cases hd;done)|exact results_cell_row h tmps w g T cs (0,0) _ hp hg hu rfl gR
end
section
variable{P:Program}{ops:Array Oper}{Q:Exit->Act->World->Prop}
def Oo(x:Nat->Y)(i:Nat)(v:Y):Nat->Y:=fun j=>if j=i then v else x j
@[simp] theorem mX(x:Nat->Y)(i:Nat)(v:Y):Oo x i v i=v:=by simp[Oo]
theorem oX(x:Nat->Y)(i j:Nat)(v:Y)(h:j≠i):Oo x i v j=x j:=by simp[Oo,h]
@[irreducible] def NK(P:Jh)(ops:Array EL)(Q:UM->E6->H->Prop)(F:(Nat->Y)->E6)(R:Nat->Y->H->Prop)(i:Nat)(o:EL)(x:Nat->Y)(w:H):Prop:=
 if I5 o (JO ops (F x).tmps) then o.wp P (F x) w (fun a' w'=> ∃v,a'=(F x).put o.dst v/\El w w'/\R i v w') Q
 else R i I2 w
theorem EIY{o:EL}(ho:ops[k]?=Z o)(rest:List EL)(a:E6)(w:H)(h:Ic P ops Q (o::rest) a w):wpOp P ops Q k (Ic P ops Q rest) a w:=by unfold wpOp;simp only[ho];unfold Ic at h;exact h
def XF(ops:Array EL)(listed:Array Bool):List Nat:=(U4 ops.size).filter fun i=> !listed.getD i EI
theorem mZ:i∈XF ops listed↔i<ops.size/\listed.getD i EI=B:=by unfold XF;rw[List.mem_filter,aH,Bool.not_eq_true']
theorem tN(hs:listed.size=ops.size)(hi:i<ops.size)(h:listed.getD i EI=B):(XF ops (listed.setIfInBounds i EI)).length<(XF ops listed).length:=by
 have e:XF ops (listed.setIfInBounds i EI)=(XF ops listed).filter fun j=>j !=i:=by
  unfold XF;rw[List.filter_filter];apply List.filter_congr;intro j hj;by_cases hij:i=j;·subst hij;exact Enz
  ·rw[aI EI hij];have:(j !=i)=EI:=Ji;rw[this];simp
 rw[e,List.length_filter_lt_length_iff_exists];exact⟨i,mZ.2 ⟨hi,h⟩,Eh⟩
def EH:List EL->Nat->(Nat->Y)->E6->E6
 |[],_,_,a=>a
 |o::l,i,x,a=>EH l (i+1) x (a.put o.dst (x i))
def O9(l:List EL):List Tmp:=l.filterMap (·.dst)
theorem NM(d:Option Tmp)(v:Y): ∀(l:List EL) (i:Nat) (x:Nat->Y) (a:E6),(∀t,d=Z t->t∉O9 l)->(EH l i x a).put d v=EH l i x (a.put d v)
 |[],_,_,_,_=>rfl
 |o::l,i,x,a,h=>by unfold EH;rw[NM d v l (i+1) x _ (fun t ht hm=>h t ht (by unfold O9 at*;simp only[ma] at*;obtain⟨o',h1,h2⟩:=hm;exact⟨o',aJ _ h1,h2⟩))];rw[Act.put_comm a (x:=o.dst) (y:=d) (x i) v];intro t ht e;refine h t e ?_;unfold O9;exact ma.2 ⟨o,gS,ht⟩
theorem yo: ∀(l:List EL) (i:Nat) (x y:Nat->Y) (a:E6),(∀j,i<=j->x j=y j)->EH l i x a=EH l i y a
 |[],_,_,_,_,_=>rfl
 |o::l,i,x,y,a,h=>by unfold EH;rw[h i (E7 _)];exact yo l (i+1) x y _ fun j hj=>h j U
theorem EI0(a:E6)(d:Option Tmp)(Y3 v:Y):(a.put d Y3).put d v=a.put d v:=by
 cases d with
 |none=>rfl
 |some t=>simp[Ig]
theorem rX: ∀(l:List EL) (i k:Nat) (x:Nat->Y) (a:E6) (o:EL) (v:Y),(O9 l).Nodup->l[k]?=Z o->(EH l i x a).put o.dst v=EH l i (Oo x (i+k) v) a
 |[],_,_,_,_,_,_,_,h=>rZ
 |p::l,i,0,x,a,o,v,hn,h=>by simp at h;subst h;unfold EH;rw[show Oo x (i+0) v i=v from mX x i v,yo l (i+1) (Oo x (i+0) v) x _ (fun j hj=>oX _ _ _ _ U)];rw[NM p.dst v l (i+1) x _ ?_,EI0];intro t ht hm;unfold O9 at hn;rw[List.filterMap_cons,ht] at hn;exact(mc.1 hn).1 hm
 |p::l,i,k+1,x,a,o,v,hn,h=>by
  unfold EH
  have hn':(O9 l).Nodup:=by
   unfold O9 at*;rw[List.filterMap_cons] at hn;cases hp:p.dst with
   |none=>rw[hp] at hn;exact hn
   |some t=>rw[hp] at hn;exact(mc.1 hn).2
  rw[rX l (i+1) k x _ o v hn' Up,oX _ _ _ _ (show i≠i+(k+1) from U),show i+1+k=i+(k+1) from U]
def held(l:List EL)(a:E6):Nat->Y:=fun i=>match l[i]? with
 |some o=>(match o.dst with|some d=>a.tmps.getD d I2|none=>I2)
 |none=>I2
theorem oZ(a:E6): ∀(l:List EL) (i:Nat) (x:Nat->Y),(∀k o,l[k]?=Z o-> ∀d,o.dst=Z d->x (i+k)=a.tmps.getD d I2)->EH l i x a=a
 |[],_,_,_=>rfl
 |o::l,i,x,h=>by
  unfold EH
  have e:a.put o.dst (x i)=a:=by
   cases hd:o.dst with
   |none=>rfl
   |some d=>
    have:=h 0 o O d hd;rw[Nat.add_zero] at this;rw[this];simp only[Ig];congr 1;apply Array.ext;·simp
    ·intro j h1 h2;by_cases hj:d=j;·subst hj;simp[h2]
     ·rw[Array.getElem_setIfInBounds_ne h2 hj]
  rw[e];exact oZ a l (i+1) x fun k o' ho d hd=>by have:=h (k+1) o' yp d hd;rw[<-this];congr 1;omega
def ra(R:Nat->Y->H->Prop)(o:EL)(x:Nat->Y)(w:H):Prop:= ∀e∈o.after,UN .any e=EI->R e.on (x e.on) w
def yq(P:Jh)(ops:Array EL)(Q:UM->E6->H->Prop)(W:H)(F:(Nat->Y)->E6)(R:Nat->Y->H->Prop):Nat->List EL->Prop
 |_,[]=>True
 |i,o::l=>(∀x w,El W w->ra R o x w->NK P ops Q F R i o x w)/\yq P ops Q W F R (i+1) l
theorem yq.at{W:H}{F:(Nat->Y)->E6}{R:Nat->Y->H->Prop}: ∀(l:List EL) (i:Nat),yq P ops Q W F R i l-> ∀k o,l[k]?=Z o-> ∀x w,El W w->ra R o x w->NK P ops Q F R (i+k) o x w
 |[],_,_,_,_,h=>rZ
 |p::l,i,hs,0,o,h=>by simp at h;subst h;exact hs.1
 |p::l,i,hs,k+1,o,h=>by have:=yq.at l (i+1) hs.2 k o Up;rw[show i+(k+1)=i+1+k from U];exact this
end
section
variable{P:Program}{ops:Array Oper}{Q:Exit->Act->World->Prop}{C:World->Prop}
def rd(l:List EL)(ops:Array EL):Bool:=
 l.all fun o=>(U4 l.length).all fun j=>match l[j]? with
  |none=>EI
  |some p=>(o.after.any fun e=>UN .any e&&e.on==j)||(match p.dst with|some d=> !(o.looksAt ops).contains d|none=>true)
theorem EI1(h:rd l ops=EI){o p:EL}(ho:o∈l)(hp:l[j]?=Z p): (∃e∈o.after,UN .any e=EI/\e.on=j)\/(∀d,p.dst=Z d->d∉o.looksAt ops):=by
 have h1:=Xk.1 h o ho;have hj:=(Xx.1 hp).1;have h2:=Xk.1 h1 j (aH.2 hj);simp only[hp,mf] at h2;rcases h2 with h2|h2;·left;obtain⟨e,he,hb⟩:=Array.any_eq_true'.1 h2;simp only[Oc,beq_iff_eq] at hb;exact⟨e,he,hb.1,hb.2⟩
 ·right;intro d hd;rw[hd] at h2;simpa using h2
def mix(x y:Nat->Y)(k:Nat):Nat->Y:=fun j=>if j<k then y j else x j
theorem EI2(x y:Nat->Y):mix x y 0=x:=by funext j;simp[mix]
theorem NP(x y:Nat->Y)(k:Nat):mix x y (k+1)=Oo (mix x y k) k (y k):=by
 funext j;unfold mix Oo;by_cases h:j=k;·subst h;simp
 ·rw[if_neg h];by_cases h2:j<k;·simp[h2,show j<k+1 from U]
  ·simp[h2,show¬j<k+1 from U]
theorem EI3(hnd:(O9 l).Nodup)(hap:rd l ops=EI)(hsel:Region.noSelect l.toArray=EI){o:EL}(ho:o∈l)(x y:Nat->Y)(a:E6) (hd: ∀e∈o.after,UN .any e=EI->x e.on=y e.on): ∀k,k<=l.length-> If (EH l 0 (mix x y k) a).eval o=If (EH l 0 x a).eval o/\I5 o (JO ops (EH l 0 (mix x y k) a).tmps)=I5 o (JO ops (EH l 0 x a).tmps):=by
 intro k;induction k with
 |zero=>intro _;rw[EI2];exact⟨O,O⟩
 |succ k ih=>
  intro hk;have ih:=ih U;have hp:l[k]?=Z l[k]:=J5 U;rcases EI1 hap ho hp with⟨e,he,hb,heq⟩|h
  ·have e1:mix x y (k+1)=mix x y k:=by
    rw[NP];funext j;unfold Oo;split;·rename_i h;subst h;have:=hd e he hb;rw[heq] at this;simp[mix,this]
    ·rfl
   rw[e1];exact ih
  ·have e1:EH l 0 (mix x y (k+1)) a=(EH l 0 (mix x y k) a).put l[k].dst (y k):=by rw[NP,rX l 0 k _ a l[k] (y k) hnd hp,OD]
   have hs: ∀cs b,o.op≠ .select cs b:=by obtain⟨i,hi⟩:=fC.1 ho;exact fun cs b=>Region.noSelect_spec hsel i o cs b U5
   rw[e1,execOp_put o hs _ _ _ h,wanted_put o _ _ _ h];exact ih
theorem rf: ∀(l:List EL) (i:Nat) (x y:Nat->Y) (a:E6),(∀j,i<=j->j<i+l.length->x j=y j)->EH l i x a=EH l i y a
 |[],_,_,_,_,_=>rfl
 |o::l,i,x,y,a,h=>by unfold EH;rw[h i (E7 _) Eh];exact rf l (i+1) x y _ fun j hj hl=>h j U Ji
theorem Fg: ∀(l1 l2:List EL) (i:Nat) (x:Nat->Y) (a:E6),EH (l1++l2) i x a=EH l2 (i+l1.length) x (EH l1 i x a)
 |[],_,_,_,_=>rfl
 |o::l1,l2,i,x,a=>by rw[List.cons_append];unfold EH;rw[Fg l1 l2 (i+1) x _,show i+(o::l1).length=i+1+l1.length from Ji];cases l2<;>rfl
theorem Fh: ∀(l:List EL) (i:Nat) (x:Nat->Y) (a:E6) (d:Tmp),d∉O9 l->(EH l i x a).tmps.getD d I2=a.tmps.getD d I2
 |[],_,_,_,_,_=>rfl
 |o::l,i,x,a,d,h=>by
  unfold EH;have h2:d∉O9 l:=fun hm=>h (by unfold O9 at*;simp only[ma] at*;obtain⟨o',h1,h2⟩:=hm;exact⟨o',aJ _ h1,h2⟩);rw[Fh l (i+1) x _ d h2];cases ho:o.dst with
  |none=>rfl
  |some t=> have hne:t≠d:=fun e=>h (by subst e;unfold O9;exact ma.2 ⟨o,gS,ho⟩);simp only[Ig,Array.getD_eq_getD_getElem?];rw[Array.getElem?_setIfInBounds_ne hne]
theorem NT(hn:(O9 l).Nodup){p:EL}{d:Tmp}(hp:l[k+j]?=Z p)(hd:p.dst=Z d):d∉O9 (l.take k):=by
 have hs:l=l.take k++l.drop k:=(gT k l).symm
 have hds:O9 l=O9 (l.take k)++O9 (l.drop k):=by
  conv=>lhs;rw[hs]
  unfold O9;rw[List.filterMap_append]
 rw[hds,List.nodup_append] at hn;intro hm;have hm2:d∈O9 (l.drop k):=by unfold O9;refine ma.2 ⟨p,fC.2 ⟨j,?_⟩,hd⟩;rw[List.getElem?_drop];exact hp
 exact hn.2.2 d hm d hm2 O
theorem yr{n:Nat}(h:j<(bh n B).size):(bh n B).getD j EI=B:=by have:j<n:=Up;simp[this]
theorem NV(hnd:(O9 l).Nodup)(hap:rd l ops=EI)(hsel:Region.noSelect l.toArray=EI){o:EL}(ho:o∈l)(x y:Nat->Y)(a:E6) (hd: ∀e∈o.after,UN .any e=EI->x e.on=y e.on): If (EH l 0 y a).eval o=If (EH l 0 x a).eval o/\I5 o (JO ops (EH l 0 y a).tmps)=I5 o (JO ops (EH l 0 x a).tmps):=by
 have h:=EI3 hnd hap hsel ho x y a hd l.length (E7 _);have e:EH l 0 (mix x y l.length) a=EH l 0 y a:=rf l 0 _ _ a fun j _ hj=>by simp[mix,show j<l.length from U]
 rw[e] at h;exact h
theorem Fi{K:E6->Prop}: ∀(l:List EL) (i:Nat) (a:E6),wpQuiet P ops C K l a-> ∃y:Nat->Y,(∀k o,l[k]?=Z o->YieldsIn P ops C o (y (i+k)) (EH (l.take k) i y a))/\K (EH l i y a)
 |[],_,_,h=>⟨fun _=>I2,fun k o ho=>by simp at ho,h⟩
 |o::l,i,a,h=>by
  have hv: ∃v,YieldsIn P ops C o v a/\wpQuiet P ops C K l (a.put o.dst v):=by
   unfold wpQuiet at h;by_cases hw:I5 o (JO ops a.tmps)=EI;·rw[if_pos hw] at h;obtain⟨v,h1,h2⟩:=h;exact⟨v,.inl ⟨hw,h1⟩,h2⟩
   ·rw[if_neg hw] at h;exact⟨I2,.inr ⟨by simpa using hw,O⟩,h⟩
  obtain⟨v,hy,hK⟩:=hv;obtain⟨y,h1,h2⟩:=Fi l (i+1) _ hK;have e: ∀j,i+1<=j->Oo y i v j=y j:=fun j hj=>oX _ _ _ _ U;refine⟨Oo y i v,fun k p hp=> ?_,?_⟩
  ·cases k with
   |zero=> simp at hp;subst hp;rw[Nat.add_zero,mX];exact hy
   |succ k=> have:=h1 k p j4;rw[show i+(k+1)=i+1+k from U,e _ U];rw[Iq];unfold EH;rw[mX,yo _ (i+1) (Oo y i v) y _ e];exact this
  ·unfold EH;rw[mX,yo _ (i+1) (Oo y i v) y _ e];exact h2
def j5(ops:Array EL)(m:Nat):Bool:=
 (U4 ops.size).all fun i=>match ops[i]? with
  |none=>B
  |some o=>o.after.all (fun e=>decide (e.on<i))&&(decide (i<m)||(U4 i).all fun j=>(U4 (i+1)).any fun k=>decide (j<k)&&match ops[k]? with
   |some p=>p.after.any fun e=>UN .any e&&e.on==j
   |none=>B)
theorem oc{m:Nat}(h:j5 ops m=EI){o:EL}(ho:ops[i]?=Z o):(∀e∈o.after,e.on<i)/\(m<=i-> ∀j,j<i-> ∃k p,j<k/\k<=i/\ops[k]?=Z p/\ ∃e∈p.after,UN .any e=EI/\e.on=j):=by
 have hi:=(J6.1 ho).1;have h1:=Xk.1 h i (aH.2 hi);simp only[ho,Oc,mf,decide_eq_true_eq] at h1;refine⟨fun e he=> ?_,fun hm j hj=> ?_⟩;·exact Epw
 ·rcases h1.2 with h2|h2;·omega
  ·have h3:=Xk.1 h2 j (aH.2 hj);obtain⟨k,hk,hk2⟩:=List.any_eq_true.1 h3;have hk1:=aH.1 hk;simp only[Oc,decide_eq_true_eq] at hk2;obtain⟨hjk,hk3⟩:=hk2;cases hp:ops[k]? with
   |none=>rw[hp] at hk3;cases hk3
   |some p=> rw[hp] at hk3;obtain⟨e,he,hb⟩:=Array.any_eq_true'.1 hk3;simp only[Oc,beq_iff_eq] at hb;exact⟨k,p,hjk,U,hp,e,he,hb.1,hb.2⟩
def dP(ops:Array EL)(listed:Array Bool):Prop:= ∀j o,ops[j]?=Z o->listed.getD j EI=EI-> ∀e∈o.after,UN .any e=EI->listed.getD e.on EI=EI
theorem Fj{m:Nat}(hB:j5 ops m=EI)(hs:listed.size=ops.size)(hc:dP ops listed)(hi:i∈j6 .any ops listed)(hm:m<=i): ∀j,j<i->listed.getD j EI=EI:=by
 obtain⟨h1,o,ho,hall⟩:=Zz.1 hi;have hin:=(J6.1 ho).1
 have key: ∀d j,i-j=d->j<i->listed.getD j EI=EI:=by
  intro d;induction d using Nat.strongRecOn with
  |ind d ih=>
   intro j hd hj;obtain⟨k,p,hjk,hki,hp,e,he,hb,heq⟩:=(oc hB ho).2 hm j hj;by_cases h:k=i;·subst h;have:p=o:=dQ (hp.symm.trans ho);subst this;have h3:=hall e he hb;rw[heq] at h3;have h5:j<listed.size:=U;simpa[h5] using h3
   ·exact EoR
 exact fun j hj=>key _ j O hj
theorem dP.set(hs:listed.size=ops.size)(hc:dP ops listed)(hi:i∈j6 .any ops listed):dP ops (listed.setIfInBounds i EI):=by
 obtain⟨h1,o,ho,hall⟩:=Zz.1 hi;have hin:=(J6.1 ho).1
 have up: ∀j,listed.getD j EI=EI->(listed.setIfInBounds i EI).getD j EI=EI:=by
  intro j hj;by_cases e:i=j;·subst e;exact Enz
  ·rw[aI EI e];exact hj
 intro j p hp hl e he hb;by_cases hji:i=j
 ·subst hji;have:p=o:=dQ (hp.symm.trans ho);subst this;have h3:=hall e he hb;refine up _ ?_;rcases JY e.on listed.size with h|h;·simpa[h] using h3
  ·simp[h]
 ·rw[aI EI hji] at hl;exact up _ (hc j p hp hl e he hb)
theorem yt{m:Nat}(hB:j5 ops m=EI): ∀(fuel k:Nat) (listed:Array Bool) (a:E6) (w:H),m<=k->k<=ops.size->ops.size-k<=fuel->listed.size=ops.size-> (∀j,j<ops.size->listed.getD j EI=decide (j<k))->dP ops listed->Ic P ops Q (ops.toList.drop k) a w->wpAny P .any ops Q fuel listed a w:=by
 intro fuel;induction fuel with
 |zero=> intro k listed a w hm hk hf hs hl hc h;have hkn:k=ops.size:=U;subst hkn;rw[List.drop_of_length_le Eh] at h;refine wpAny_done ?_ h 0;rw[List.eq_nil_iff_forall_not_mem];intro j hj;obtain⟨h1,o,ho,-⟩:=Zz.1 hj;have hjn:=(J6.1 ho).1;rw[hl j hjn] at h1;simp at h1;omega
 |succ fuel ih=>
  intro k listed a w hm hk hf hs hl hc h;rcases JY k ops.size with hlt|hge
  ·have ho:ops[k]?=Z ops[k]:=j7 hlt;have hd:ops.toList.drop k=ops[k]::ops.toList.drop (k+1):=by rw[mg (by simpa using hlt)];simp
   rw[hd] at h;have hmem:k∈j6 .any ops listed:=by refine Zz.2 ⟨by rw[hl k hlt];simp,_,ho,fun e he _=> ?_⟩;have h1:=(oc hB ho).1 e he;exact EoO
   refine⟨fun h0=>(by rw[h0] at hmem;cases hmem),fun i hi=> ?_⟩;obtain⟨h1,o,hoi,hall⟩:=Zz.1 hi;have hin:=(J6.1 hoi).1;have hki:k<=i:=by rw[hl i hin] at h1;simp at h1;exact h1
   have hik:i=k:=by
    rcases JY k i with h2|h2;·have h3:=Fj hB hs hc hi U k h2;rw[hl k hlt] at h3;simp at h3
    ·omega
   subst hik;refine wpOp_mono (fun a' w' h'=>ih (i+1) (listed.setIfInBounds i EI) a' w' U U U oh (fun j hj=> ?_) (hc.set hs hi) h') (EIY ho _ a w h);by_cases e:i=j;·subst e;exact Enz
   ·exact EpZ
  ·have hkn:k=ops.size:=U;subst hkn;rw[List.drop_of_length_le Eh] at h;refine wpAny_done ?_ h _;exact EnJ
theorem EI4{m:Nat}(hB:j5 ops m=EI)(hmn:m<=ops.size){y:Nat->Y} (hF: ∀i o x v,i<m->ops[i]?=Z o->(F x).put o.dst v=F (Oo x i v)) (hstep: ∀i o x,i<m->ops[i]?=Z o->(∀e∈o.after,UN .any e=EI->x e.on=y e.on)->YieldsIn P ops C o (y i) (F x)) (hend: ∀x w,C w->(∀i,i<m->x i=y i)->Ic P ops Q (ops.toList.drop m) (F x) w): ∀(fuel:Nat) (listed:Array Bool) (x:Nat->Y) (w:H),(XF ops listed).length<=fuel->listed.size=ops.size->(∀j,m<=j->j<ops.size->listed.getD j EI=B)->dP ops listed->C w-> (∀i,i<m->listed.getD i EI=EI->x i=y i)->wpAny P .any ops Q fuel listed (F x) w:=by
 intro fuel;induction fuel with
 |zero=>
  intro listed x w hf hs ht hc hb hr
  have hall: ∀j,j<ops.size->listed.getD j EI=EI:=by
   intro j hj;cases hc:listed.getD j EI;·exact Emr
   ·rfl
  have hm:m=ops.size:=by
   rcases JY m ops.size with h|h;·exact EnY
   ·omega
  refine yt hB 0 m listed _ w (E7 _) hmn U hs (fun j hj=>by rw[hall j hj,IU U]) hc (hend x w hb fun i hi=>hr i hi (hall i U))
 |succ fuel ih=>
  intro listed x w hf hs ht hc hb hr;by_cases hall: ∀j,j<m->listed.getD j EI=EI
  ·have hlen:ops.size-m<=fuel+1:=by
    have hsub:(List.range' m (ops.size-m)).length<=(XF ops listed).length:=by
     apply List.Nodup.length_le_of_subset;·exact List.nodup_range'
     ·exact Emu
    simp at hsub;omega
   refine yt hB (fuel+1) m listed _ w (E7 _) hmn hlen hs (fun j hj=> ?_) hc (hend x w hb fun i hi=>hr i hi (hall i hi));rcases JY j m with h|h;·rw[hall j h,IU h]
   ·rw[ht j h hj,IJ U]
  ·refine⟨fun h0=> ?_,fun i hi=> ?_⟩
   ·exfalso
    have hex: ∃j,j<m/\listed.getD j EI=B:=by
     apply rg;intro hno
     exact hall fun j hj=>by
      cases hc:listed.getD j EI;·exact Eo_
      ·rfl
    have hmin: ∃j,(j<m/\listed.getD j EI=B)/\ ∀k,k<j-> ¬(k<m/\listed.getD k EI=B):=by
     obtain⟨j,hj⟩:=hex;induction j using Nat.strongRecOn with
     |ind j ol=>
      by_cases h: ∃k,k<j/\(k<m/\listed.getD k EI=B);·exact EnA
      ·exact Enm
    obtain⟨j,⟨hjm,hj⟩,hlt⟩:=hmin;have hjn:j<ops.size:=U;have ho:ops[j]?=Z ops[j]:=j7 hjn
    have:j∈j6 .any ops listed:=by
     refine Zz.2 ⟨hj,_,ho,fun e he _=> ?_⟩;have h1:=(oc hB ho).1 e he;have h2:=hlt e.on h1;have h3:e.on<listed.size:=U;cases hc:listed.getD e.on EI;·exact absurd ⟨U,hc⟩ h2
     ·simpa[h3] using hc
    rw[h0] at this;cases this
   ·obtain⟨h1,o,ho,oo⟩:=Zz.1 hi;have hin:=(J6.1 ho).1;have him:i<m:=by apply rg;intro hge;apply hall;intro j hj;exact Fj hB hs hc hi U j U
    have hdr: ∀e∈o.after,UN .any e=EI->x e.on=y e.on:=by exact Enw
    have st:=hstep i o x him ho hdr;refine wpOp_of_qOp (C:=C) (K:=fun a'=>a'=F (Oo x i (y i))) hb (fun a' w' hw' ha'=> ?_) (st.qOp ho ?_)
    ·subst ha';have hlt:=tN hs hin h1;refine ih _ _ w' U oh (fun j hj hjn=> ?_) (hc.set hs hi) hw' (fun j hj hl=> ?_);·rw[aI EI U];exact ht j hj hjn
     ·by_cases hji:j=i;·subst hji;rw[mX]
      ·exact Eoq
    ·exact hF i o x (y i) him ho
theorem NW{a0:E6}(m:Nat)(hm:P.follows .mixedOrders=EI)(hB:j5 l.toArray m=EI)(hmn:m<=l.length)(hsel:Region.noSelect (l.take m).toArray=EI)(hnd:(O9 (l.take m)).Nodup)(hap:rd (l.take m) l.toArray=EI) (hC:C w0.drew) (h:wpQuiet P l.toArray C (fun a'=> ∀w',C w'->Ic P l.toArray Q (l.drop m) a' w') (l.take m) a0):(aG id l.toArray EI).wp P Q a0 w0:=by
 obtain⟨y,hy,hK⟩:=Fi (l.take m) 0 a0 h;have htk: ∀i o,i<m->l.toArray[i]?=Z o->(l.take m)[i]?=Z o:=fun i o hi ho=>by exact En_
 have hlen:(l.take m).length=m:=l_;have tP:EH (l.take m) 0 (held (l.take m) a0) a0=a0:=oZ a0 _ 0 _ (fun k o ho d hd=>by unfold held;rw[OD,ho];simp only[hd]);refine wp_region_any hm ?_;have key:=EI4 (P:=P) (Q:=Q) (C:=C) (ops:=l.toArray) (F:=fun x=>EH (l.take m) 0 x a0) (y:=y) hB Fk ?_ ?_ ?_ l.toArray.size (bh l.toArray.size B) (held (l.take m) a0) w0.drew ?_ Eh (fun j hj hjn=>yr (by simpa using hjn)) ?_ hC (fun i hi h=> ?_);·simp only[tP] at key;exact key
 ·intro i o x v hi ho;exact EmY
 ·intro i o x hi ho hd;have hi':=htk i o hi ho;have h1:=hy i o hi';rw[OD] at h1
  have e1:EH ((l.take m).take i) 0 y a0=EH (l.take m) 0 (mix (held (l.take m) a0) y i) a0:=by
   have e2:EH (l.take m) 0 (mix (held (l.take m) a0) y i) a0=EH ((l.take m).drop i) i (mix (held (l.take m) a0) y i) (EH ((l.take m).take i) 0 (mix (held (l.take m) a0) y i) a0):=by exact Enb
   have e3:EH ((l.take m).take i) 0 (mix (held (l.take m) a0) y i) a0=EH ((l.take m).take i) 0 y a0:=rf _ 0 _ _ _ fun j _ hj=>by have:j<i:=yw;simp[mix,this]
   rw[e2,e3];refine(oZ _ _ _ _ fun k p hp d hd=> ?_).symm;have hk:(l.take m)[i+k]?=Z p:=j4;have hkm:i+k<m:=NY;show mix (held (l.take m) a0) y i (i+k)=_;have e5:mix (held (l.take m) a0) y i (i+k)=a0.tmps.getD d I2:=by exact Eo8
   rw[e5];exact Eoo
  rw[e1] at h1;have deps: ∀e∈o.after,UN .any e=EI->x e.on=mix (held (l.take m) a0) y i e.on:=by intro e he hb;have:=(oc hB ho).1 e he;rw[hd e he hb];simp[mix,this]
  obtain⟨s1,s2⟩:=NV (ops:=l.toArray) hnd hap hsel (fC.2 ⟨i,hi'⟩) (mix (held (l.take m) a0) y i) x a0 (fun e he hb=>(deps e he hb).symm);exact h1.of_same s1 s2
 ·exact Em6
 ·exact Enu
 ·intro j o ho hl;have hj:=(J6.1 ho).1;rw[yr (by simpa using hj)] at hl;cases hl
 ·have:i<l.length:=U;simp[this] at h
theorem XG{o:EL}{ops:Array EL}(h:o.guard=Z (j,want))(hd:(ops[j]?).bind (·.dst)=Z d)(hv:tmps[d]?=Z (EU want)):I5 o (JO ops tmps)=EI:=by unfold I5 JO;simp[h,hd,hv]
def yA(l:List EL)(m:Nat):Bool:=j5 l.toArray m&&decide (m<=l.length)&&Region.noSelect (l.take m).toArray&&decide (O9 (l.take m)).Nodup&&rd (l.take m) l.toArray
theorem tQ{a0:E6}(m:Nat)(hm:P.follows .mixedOrders=EI)(hB:yA l m=EI) (h:wpQuiet P l.toArray (fun w'=> ∃n,w'=w0.drewN n) (fun a'=> ∀w',(∃n,w'=w0.drewN n)->Ic P l.toArray Q (l.drop m) a' w') (l.take m) a0):(aG id l.toArray EI).wp P Q a0 w0:=by simp only[yA,Oc,decide_eq_true_eq] at hB;obtain⟨⟨⟨⟨h1,h2⟩,h3⟩,h4⟩,h5⟩:=hB;exact NW m hm h1 h2 h3 h4 h5 ⟨1,O⟩ h
theorem J_{a0:E6}(m:Nat)(hm:P.follows .mixedOrders=EI)(hB:yA l m=EI) (h:wpQuiet P l.toArray (fun w'=> ∃x,w'=EC w0 x) (fun a'=> ∀w',(∃x,w'=EC w0 x)->Ic P l.toArray Q (l.drop m) a' w') (l.take m) a0):(aG id l.toArray EI).wp P Q a0 w0:=by simp only[yA,Oc,decide_eq_true_eq] at hB;obtain⟨⟨⟨⟨h1,h2⟩,h3⟩,h4⟩,h5⟩:=hB;exact NW m hm h1 h2 h3 h4 h5 ⟨⟨_,Jg w0⟩,O⟩ h
end
def Kept(Rel:H->H->Prop):Prop:=(∀w,Rel w w)/\(∀a b c,Rel a b->Rel b c->Rel a c)/\ ∀w:H,Rel w w.drew
section
variable{P:Program}{ops:Array Oper}{Q:Exit->Act->World->Prop}
@[irreducible] def dR(Rel:H->H->Prop)(P:Jh)(ops:Array EL)(Q:UM->E6->H->Prop)(F:(Nat->Y)->E6)(R:Nat->Y->H->Prop)(i:Nat)(o:EL)(x:Nat->Y)(w:H):Prop:=
 if I5 o (JO ops (F x).tmps) then o.wp P (F x) w (fun a' w'=> ∃v,a'=(F x).put o.dst v/\Rel w w'/\R i v w') Q
 else R i I2 w
theorem EI5(hT:Kept Rel){m:Nat}(hB:j5 ops m=EI)(hmn:m<=ops.size){R:Nat->Y->H->Prop} (hF: ∀i o x v,i<m->ops[i]?=Z o->(F x).put o.dst v=F (Oo x i v)) (hR: ∀i v w w',i<m->R i v w->Rel w w'->R i v w') (hstep: ∀i o x w,i<m->ops[i]?=Z o->Rel W w->(∀e∈o.after,UN .any e=EI->R e.on (x e.on) w)->dR Rel P ops Q F R i o x w) (hend: ∀x w,Rel W w->(∀i,i<m->R i (x i) w)->Ic P ops Q (ops.toList.drop m) (F x) w): ∀(fuel:Nat) (listed:Array Bool) (x:Nat->Y) (w:H),(XF ops listed).length<=fuel->listed.size=ops.size->dP ops listed->(∀j,m<=j->j<ops.size->listed.getD j EI=B)->Rel W w-> (∀i,i<m->listed.getD i EI=EI->R i (x i) w)->wpAny P .any ops Q fuel listed (F x) w:=by
 intro fuel;induction fuel with
 |zero=>
  intro listed x w hf hs hcl ht hb hr
  have hall: ∀j,j<ops.size->listed.getD j EI=EI:=by
   intro j hj;cases hc:listed.getD j EI;·exact Emr
   ·rfl
  have hm:m=ops.size:=by
   rcases JY m ops.size with h|h;·exact EnY
   ·omega
  refine yt hB 0 m listed _ w (E7 _) hmn U hs (fun j hj=>by rw[hall j hj,IU U]) hcl (hend x w hb fun i hi=>hr i hi (hall i U))
 |succ fuel ih=>
  intro listed x w hf hs hcl ht hb hr;by_cases hall: ∀j,j<m->listed.getD j EI=EI
  ·have hlen:ops.size-m<=fuel+1:=by
    have hsub:(List.range' m (ops.size-m)).length<=(XF ops listed).length:=by
     apply List.Nodup.length_le_of_subset;·exact List.nodup_range'
     ·exact Emu
    simp at hsub;omega
   refine yt hB (fuel+1) m listed _ w (E7 _) hmn hlen hs (fun j hj=> ?_) hcl (hend x w hb fun i hi=>hr i hi (hall i hi));rcases JY j m with h|h;·rw[hall j h,IU h]
   ·rw[ht j h hj,IJ U]
  ·refine⟨fun h0=> ?_,fun i hi=> ?_⟩
   ·
     exfalso
     have hex: ∃j,j<m/\listed.getD j EI=B:=by
      apply rg;intro hno
      exact hall fun j hj=>by
       cases hc:listed.getD j EI;·exact Eo_
       ·rfl
     have hmin: ∃j,(j<m/\listed.getD j EI=B)/\ ∀k,k<j-> ¬(k<m/\listed.getD k EI=B):=by
      obtain⟨j,hj⟩:=hex;induction j using Nat.strongRecOn with
      |ind j ol=>
       by_cases h: ∃k,k<j/\(k<m/\listed.getD k EI=B);·exact EnA
       ·exact Enm
     obtain⟨j,⟨hjm,hj⟩,hlt⟩:=hmin;have hjn:j<ops.size:=U;have ho:ops[j]?=Z ops[j]:=j7 hjn
     have:j∈j6 .any ops listed:=by
      refine Zz.2 ⟨hj,_,ho,fun e he _=> ?_⟩;have h1:=(oc hB ho).1 e he;have h2:=hlt e.on h1;have h3:e.on<listed.size:=U;cases hc:listed.getD e.on EI;·exact absurd ⟨U,hc⟩ h2
      ·simpa[h3] using hc
     rw[h0] at this;cases this
   ·obtain⟨h1,o,ho,oo⟩:=Zz.1 hi;have hin:=(J6.1 ho).1;have him:i<m:=by apply rg;intro hge;apply hall;intro j hj;exact Fj hB hs hcl hi U j U
    have hdr: ∀e∈o.after,UN .any e=EI->R e.on (x e.on) w:=by exact Enw
    have st:=hstep i o x w him ho hb hdr
    have next: ∀v w',Rel w w'->R i v w'->wpAny P .any ops Q fuel (listed.setIfInBounds i EI) ((F x).put o.dst v) w':=by
     intro v w' hb' hv;rw[hF i o x v him ho];have hlt:=tN hs hin h1;refine ih _ _ w' U oh (hcl.set hs hi) (fun j hj hjn=> ?_) (hT.2.1 _ _ _ hb hb') (fun j hj hl=> ?_);·rw[aI EI U];exact ht j hj hjn
     ·by_cases hji:j=i;·subst hji;rw[mX];exact hv
      ·rw[oX _ _ _ _ hji];rw[aI EI (fun e=>hji e.symm)] at hl;exact hR j _ w w' hj (hr j hj hl) hb'
    unfold wpOp;simp only[ho];unfold dR at st;split;·rename_i hw;rw[if_pos hw] at st;refine .inl (Oper.wp_mono (fun a' w' h'=> ?_) st);obtain⟨v,rfl,hb',hv⟩:=h';exact next v w' hb' hv
    ·rename_i hw;rw[if_neg hw] at st;exact next I2 w (hT.1 _) st
theorem EI6(hT:Kept Rel){a0:E6}(hm:P.follows .mixedOrders=EI)(m:Nat)(hB:j5 ops m=EI)(hmn:m<=ops.size)(F:(Nat->Y)->E6)(R:Nat->Y->H->Prop)(x0:Nat->Y)(yB:a0=F x0) (hF: ∀i o x v,i<m->ops[i]?=Z o->(F x).put o.dst v=F (Oo x i v)) (hR: ∀i v w w',i<m->R i v w->Rel w w'->R i v w') (hstep: ∀i o x w,i<m->ops[i]?=Z o->Rel w0 w->(∀e∈o.after,UN .any e=EI->R e.on (x e.on) w)->dR Rel P ops Q F R i o x w) (hend: ∀x w,Rel w0 w->(∀i,i<m->R i (x i) w)->Ic P ops Q (ops.toList.drop m) (F x) w):(aG id ops EI).wp P Q a0 w0:=by
 subst yB;refine wp_region_any hm (EI5 hT hB hmn hF hR hstep hend _ _ x0 _ ?_ Eh (fun j o _ h=>by by_cases hj:j<ops.size;(·simp[hj] at h);(·rename_i ho;exact absurd (J6.1 ho).1 hj)) (fun j hj hjn=>by simp[hjn]) (hT.2.2 w0) (fun i hi h=> ?_));·have:=List.length_filter_le (fun i=> !(bh ops.size B).getD i EI) (U4 ops.size);simpa[XF] using this
 ·have:i<ops.size:=U;simp[this] at h
def Xl(Rel:H->H->Prop)(P:Jh)(ops:Array EL)(Q:UM->E6->H->Prop)(W:H)(F:(Nat->Y)->E6)(R:Nat->Y->H->Prop):Nat->List EL->Prop
 |_,[]=>True
 |i,o::l=>(∀x w,Rel W w->ra R o x w->dR Rel P ops Q F R i o x w)/\Xl Rel P ops Q W F R (i+1) l
theorem Xl.at{Rel:H->H->Prop}{W:H}{F:(Nat->Y)->E6}{R:Nat->Y->H->Prop}: ∀(l:List EL) (i:Nat),Xl Rel P ops Q W F R i l-> ∀k o,l[k]?=Z o-> ∀x w,Rel W w->ra R o x w->dR Rel P ops Q F R (i+k) o x w
 |[],_,_,_,_,h=>rZ
 |p::l,i,hs,0,o,h=>by simp at h;subst h;exact hs.1
 |p::l,i,hs,k+1,o,h=>by have:=Xl.at l (i+1) hs.2 k o Up;rw[show i+(k+1)=i+1+k from U];exact this
theorem ZB(hT:Kept Rel){a0:E6}(hm:P.follows .mixedOrders=EI)(m:Nat)(hB:j5 l.toArray m=EI)(hmn:m<=l.length)(hnd:(O9 (l.take m)).Nodup)(R:Nat->Y->H->Prop) (hR: ∀i v w w',i<m->R i v w->Rel w w'->R i v w') (hstep:Xl Rel P l.toArray Q w0 (fun x=>EH (l.take m) 0 x a0) R 0 (l.take m)) (hend: ∀x w,Rel w0 w->(∀i,i<m->R i (x i) w)->Ic P l.toArray Q (l.drop m) (EH (l.take m) 0 x a0) w):(aG id l.toArray EI).wp P Q a0 w0:=by
 have htk: ∀i o,i<m->l.toArray[i]?=Z o->(l.take m)[i]?=Z o:=fun i o hi ho=>by exact En_
 refine EI6 hT hm m hB Fk (fun x=>EH (l.take m) 0 x a0) R (held (l.take m) a0) (oZ a0 _ 0 _ ?_).symm (fun i o x v hi ho=> ?_) hR (fun i o x w hi ho hb hd=> ?_) hend;·intro k o ho d hd;unfold held;rw[OD,ho];simp only[hd]
 ·exact EmY
 ·have:=Xl.at _ 0 hstep i o (htk i o hi ho) x w hb hd;exact Eom
theorem E_(hT:Kept Rel){R:Nat->Y->H->Prop}{o:EL}{v:Y}(hw:I5 o (JO ops (F x).tmps)=EI) (hr:(If (F x).eval o).run P w= .ok (.value v) w) (h:R i v w):dR Rel P ops Q F R i o x w:=by unfold dR;exact Eo4
theorem aU{R:Nat->Y->H->Prop}{o:EL}{v:Y}(hw:I5 o (JO ops (F x).tmps)=EI) (hr:(If (F x).eval o).run P w= .ok (.value v) w') (hb:Rel w w') (h:R i v w'):dR Rel P ops Q F R i o x w:=by unfold dR;exact EpO
theorem JL{R:Nat->Y->H->Prop}{o:EL}(hw:I5 o (JO ops (F x).tmps)=EI) (hr:(If (F x).eval o).run P w= .ok (.enter f args) w) (hc:Ef P f args w fun e w'=> ∃v,e=Eg v/\Rel w w'/\R i v w'):dR Rel P ops Q F R i o x w:=by unfold dR;exact Eon
end
inductive KQ where|kq(x:Y)|kp(g i:Nat)
open KQ
@[irreducible] def Ev(p:Prop):Prop:=p
theorem Ev.mk{p:Prop}(h:Ev p):p:=by unfold Ev at h;exact h
theorem Ev.in{p:Prop}(h:p):Ev p:=by unfold Ev;exact h
theorem Eo{p:Prop}(h:p):Ev p:=Ev.in h
theorem I3{rest:List EL}{o:EL}{a:E6}(hg:o.guard=X)(t:EB)(parts:Array (Nat×J7))(ho:o.op= .build t parts) (cells:Array Y) (he:P.built t (parts.toList.map fun(i,x)=>(i,a.eval x))=Z cells) (h:Ic P ops Q rest (a.put o.dst (EZ cells)) w):Ic P ops Q (o::rest) a w:=
 wpList_build hg t parts ho (by rw[Array.toList_map,he];rfl) (by rw[Array.toList_map,he];exact h)
theorem It{a:E6}{x1 x2 x3 x4 x5}(d:Nat)(h:Ic P ops Q (⟨Z d,x1,x2,x3,x4,x5⟩::l) a w):Ic P ops Q (⟨Z d,x1,x2,x3,x4,x5⟩::l) a w:=h
theorem gdS{a:E6}{x0 x1 x2 x3 x4 x5 x6}(d:Nat)(h:Ic P ops Q (⟨x0,.store d x1 x2,x3,x4,x5,x6⟩::l) a w):Ic P ops Q (⟨x0,.store d x1 x2,x3,x4,x5,x6⟩::l) a w:=h
theorem JB{a:E6}{x0 x1 x2 x3 x4 x5}(d:Nat)(h:Ic P ops Q (⟨x0,.store d x1 x2,x3,x4,x5,X⟩::l) a w):Ic P ops Q (⟨x0,.store d x1 x2,x3,x4,x5,X⟩::l) a w:=h
theorem fD{a:E6}{x0 x1 x3 x4 x5 x6}(d:Nat)(h:Ic P ops Q (⟨x0,.load d x1,x3,x4,x5,x6⟩::l) a w):Ic P ops Q (⟨x0,.load d x1,x3,x4,x5,x6⟩::l) a w:=h
theorem XH{a:E6}{x0 x1 x3 x4 x5}(d:Nat)(h:Ic P ops Q (⟨x0,.load d x1,x3,x4,x5,X⟩::l) a w):Ic P ops Q (⟨x0,.load d x1,x3,x4,x5,X⟩::l) a w:=h
theorem I7{a:E6}{x1 x2 x3 x4 x5}(d:Nat)(h:Ev (Ic P ops Q (⟨Z d,x1,x2,x3,x4,x5⟩::l) a w)):Ic P ops Q (⟨Z d,x1,x2,x3,x4,x5⟩::l) a w:=h.mk
theorem dS{a:E6}{x0 x1 x2 x3 x4 x5 x6}(d:Nat)(h:Ev (Ic P ops Q (⟨x0,.store d x1 x2,x3,x4,x5,x6⟩::l) a w)):Ic P ops Q (⟨x0,.store d x1 x2,x3,x4,x5,x6⟩::l) a w:=h.mk
theorem EI7{a:E6}{x0 x1 x2 x3 x4 x5}(d:Nat)(h:Ev (Ic P ops Q (⟨x0,.store d x1 x2,x3,x4,x5,X⟩::l) a w)):Ic P ops Q (⟨x0,.store d x1 x2,x3,x4,x5,X⟩::l) a w:=h.mk
theorem Ejo{a:E6}{x0 x1 x3 x4 x5 x6}(d:Nat)(h:Ev (Ic P ops Q (⟨x0,.load d x1,x3,x4,x5,x6⟩::l) a w)):Ic P ops Q (⟨x0,.load d x1,x3,x4,x5,x6⟩::l) a w:=h.mk
theorem N4{a:E6}{x0 x1 x3 x4 x5}(d:Nat)(h:Ev (Ic P ops Q (⟨x0,.load d x1,x3,x4,x5,X⟩::l) a w)):Ic P ops Q (⟨x0,.load d x1,x3,x4,x5,X⟩::l) a w:=h.mk
def D(w:H)(g:Nat)(cs:Array Y)(T:EB):Prop:=w.heap[g]?=Z (EJ cs T (0,0))
theorem D.V{T:EB}(h:D w g cs T)(hb:El w w'):D w' g cs T:=Xj h hb
theorem EM{T:EB}(h:Ec (D w g cs T))(b:Ik w.heap.size w w'):Ec (D w' g cs T):=J (h.out.V b)
theorem D.lt{T:EB}(h:D w g cs T):g<w.heap.size:=mE h
theorem D.drewN{T:EB}(h:D w g cs T)(n:Nat):D (w.drewN n) g cs T:=h
theorem D.drew{T:EB}(h:D w g cs T):D w.drew g cs T:=h
theorem D.new(w:H)(cs:Array Y)(T:EB):D (w.alloc (EJ cs T)) w.heap.size cs T:=fz w _
theorem N5(w:H)(o:Obj):(w.alloc o).heap.size=w.heap.size+1:=Eh
theorem D.new'(w:H)(cs:Array Y)(T:EB){g:Nat}(h:g=w.heap.size):D (w.alloc (EJ cs T)) g cs T:=by subst h;exact fz w _
theorem D.alloc{T:EB}(h:D w g cs T)(o:Obj):D (w.alloc o) g cs T:=h.V (Er w o)
theorem D.cell{T:EB}(h:D w g cs T)(i:Nat):w.cell? ⟨g,i,X⟩=cs[i]?:=(JU h).1 i
theorem D.JX{T:EB}(h:D w g cs T)(i:Nat):w.frozen? ⟨g,i,X⟩=B:=(JU h).2 i
theorem D.set{T:EB}(h:D w g cs T)(i:Nat)(v:Y):D (w.setCell ⟨g,i,X⟩ v) g (cs.setIfInBounds i v) T:=mI h i v
theorem D.other{T:EB}(h:D w g cs T)(g' i:Nat)(v:Y)(hne:g≠g'):D (w.setCell ⟨g',i,X⟩ v) g cs T:=by unfold D;rw[XK _ _ _ _ hne];exact h
theorem D.setRow{old:Array Y}{T:EB}(h:D w g old T)(cs:Array Y):D (w.setRow g cs) g cs T:=setRow_heap w g _ cs _ _ h
theorem D.setRow_other{T:EB}(h:D w g cs T)(g':Nat)(cs':Array Y)(hne:g≠g'):D (w.setRow g' cs') g cs T:=(_root_.Go.setRow_other w g' g cs' hne).trans h
def Jw(l:List Int):Array Y:=(l.map (E .u32)).toArray
def Ej(l:List Int):Array Y:=(l.map (E .u8)).toArray
theorem Fl(l:List Int):(Jw l).size=l.length:=by simp[Jw]
theorem Od(l:List Int):(Ej l).size=l.length:=by simp[Ej]
theorem tR(l:List Int)(i:Nat)(h:i<l.length):(Jw l)[i]?=Z (E Oh (l.getD i 0)):=by simp[Jw,h]
theorem j8(l:List Int)(i:Nat)(h:i<l.length):(Ej l)[i]?=Z (E IL (l.getD i 0)):=by simp[Ej,h]
theorem Fm(l:List Int)(i:Nat)(x:Int):(Jw l).setIfInBounds i (E Oh x)=Jw (l.set i x):=by simp[Jw,List.map_set]
theorem oq(l:List Int)(i:Nat)(x:Int):(Ej l).setIfInBounds i (E IL x)=Ej (l.set i x):=by simp[Ej,List.map_set]
theorem N6(l:List Int):(Jw l).all (·.oneCell')=EI:=by rw[Array.all_eq_true];intro i hi;simp[Jw,OF]
theorem Xm(l:List Int):(Ej l).all (·.oneCell')=EI:=by rw[Array.all_eq_true];intro i hi;simp[Ej,OF]
theorem aK{l:List Int}{T:EB}(h:D w g (Ej l) T)(hb: ∀x∈l,0<=x/\x<=255):Row w (Z ⟨g,0,X⟩) l:=Fb h O hb
def part(l:List Int)(i:Nat):List Int:=l.take i++dT (l.length-i) 0
theorem yC(l:List Int)(i:Nat)(h:i<=l.length):(part l i).length=l.length:=by simp[part];omega
theorem N7(l:List Int):part l 0=dT l.length 0:=by simp[part]
theorem N8(l:List Int)(i:Nat)(h:l.length<=i):part l i=l:=by simp[part,OY h,show l.length-i=0 from U]
theorem EI8(l:List Int)(i k:Nat)(h:k<i)(hi:i<=l.length):(part l i).getD k 0=l.getD k 0:=by unfold part;simp only[Uq];rw[bi Ji,bj h]
theorem Fo(l:List Int)(i:Nat)(h:i<l.length):(part l i).set i (l.getD i 0)=part l (i+1):=by
 apply List.ext_getElem?;intro j;rw[List.getElem?_set];have hl:=yC l i U;by_cases e:i=j;·subst e;rw[if_pos O,if_pos U];unfold part;rw[bi Ji,bj U];simp[h]
 ·rw[if_neg e];unfold part;rcases JY j i with hj|hj;·rw[bi Ji,bi Ji,bj hj,bj U]
  ·rw[aX Ji,aX Ji];simp only[aO,List.getElem?_replicate];rw[Nat.min_eq_left U,Nat.min_eq_left U];by_cases h1:j<l.length;·rw[if_pos U,if_pos U]
   ·rw[if_neg U,if_neg U]
def dO(l old:List Int)(i:Nat):List Int:=l.take i++old.drop i
theorem N9(l old:List Int):dO l old 0=old:=by simp[dO]
theorem N_(l old:List Int)(i:Nat)(h:l.length<=i)(h2:old.length<=i):dO l old i=l:=by simp[dO,OY h,List.drop_of_length_le h2]
theorem Fp(l old:List Int)(i:Nat)(h:l.length=old.length)(hi:i<=l.length):(dO l old i).length=l.length:=by simp[dO];omega
theorem EI9(l old:List Int)(i k:Nat)(h:l.length=old.length)(hi:i<=k)(hk:k<l.length):(dO l old i).getD k 0=old.getD k 0:=by unfold dO;simp only[Uq];rw[aX Ji,List.getElem?_drop];congr 2;simp;omega
theorem tS(l old:List Int)(i:Nat)(h:l.length=old.length)(hi:i<l.length):(dO l old i).set i (l.getD i 0)=dO l old (i+1):=by
 apply List.ext_getElem?;intro j;rw[List.getElem?_set];have hl:=Fp l old i h U;by_cases e:i=j;·subst e;rw[if_pos O,if_pos U];unfold dO;rw[bi Ji,bj U];simp[hi]
 ·rw[if_neg e];unfold dO;rcases JY j i with hj|hj;·rw[bi Ji,bi Ji,bj hj,bj U]
  ·rw[aX Ji,aX Ji,List.getElem?_drop,List.getElem?_drop];congr 1;simp;omega
def Oq(P:Jh)(T:EB)(cs:Array Y):Prop:= ∀(ev:J7->Y) (o:EL) (w:H),o.op= .alloc T->(If ev o).run P w= .ok (.value (M (Z ⟨w.heap.size,0,X⟩))) (w.alloc (EJ cs T))
section
variable{P:Program}{ops:Array Oper}{rest:List Oper}{o:Oper}{a:Act}{w:World}{Q:Exit->Act->World->Prop}
theorem EI_{T:EB}(hz:Oq P T cs)(hw:I5 o (JO ops a.tmps)=EI)(ho:o.op= .alloc T) (h:Ic P ops Q rest (a.put o.dst (M (Z ⟨w.heap.size,0,X⟩))) (w.alloc (EJ cs T))):Ic P ops Q (o::rest) a w:=Jr hw (hz _ _ _ ho) h
theorem ZR{T:EB}{n:Nat}(hT:IG P T n)(hw:I5 o (JO ops a.tmps)=EI)(hl:mU o a T g)(hg:Ec (D w g cs T))(hn:cs.size=n) (h:Ic P ops Q rest (a.put o.dst (EZ cs)) w):Ic P ops Q (o::rest) a w:=EIW hT hw hl hg hn h
theorem bu{T:EB}{n:Nat}{old:Array Y}(hT:IG P T n)(hw:I5 o (JO ops a.tmps)=EI)(hl:rU o a T g cs)(hg:Ec (D w g old T))(ho:old.size=n)(hn:cs.size=n) (h1:cs.all (·.oneCell')=EI) (h:Ic P ops Q rest (a.put o.dst I2) (w.setRow g cs)):Ic P ops Q (o::rest) a w:=Fc hT hw hl hg ho hn h1 h
def j9(o:EL)(a:E6)(T:EB)(g off:Nat):Prop:=match o.op with| .load t x=>t=T/\a.eval x=M (Z ⟨g,off,X⟩)|_=>False
theorem mh{T:EB}{n off:Nat}(hT:IG P T n)(hw:I5 o (JO ops a.tmps)=EI)(hl:j9 o a T g off)(hg:Ec (D w g big TB))(hn:cs.size=n)(he:big.extract off (off+n)=cs) (h:Ic P ops Q rest (a.put o.dst (EZ cs)) w):Ic P ops Q (o::rest) a w:=by
 obtain⟨⟨d,hu,hd⟩,hi⟩:=hT;unfold j9 at hl;split at hl;·rename_i t x ho;obtain⟨rfl,hx⟩:=hl;refine Jr hw ?_ h;subst he;have hrun:=run_loadVar_mid w g off t _ d (World.rangeAt_of_block hg.out off n) hu mj yD;exact Eml
 ·exact hl.elim
theorem Jj{T:EB}{n:Nat}(hT:IG P T n)(h:fn.results= #[.cell p T])(tmps:Array Y)(w:H)(g:Nat)(cs:Array Y) (hp:tmps.getD p I2=M (Z ⟨g,0,X⟩)) (hg:D w g cs T) (hn:cs.size=n):(UL fn tmps).run P w= .ok (EZ cs) w:=Ff hT h tmps w g cs hp hg hn
theorem wA{T:EB}(hz:Oq P T cs)(h:Ic P ops Q rest (a.put o.dst (M (Z ⟨w.heap.size,0,X⟩))) (w.alloc (EJ cs T))) (hw:I5 o (JO ops a.tmps)=EI:=by with_unfolding_all exact Ei O) (ho:o.op= .alloc T:=by with_unfolding_all exact O):Ic P ops Q (o::rest) a w:=EI_ hz hw ho h
theorem wL{T:EB}{n:Nat}(hT:IG P T n)(hg:Ec (D w g cs T))(h:Ic P ops Q rest (a.put o.dst (EZ cs)) w)(hn:cs.size=n:=by with_unfolding_all exact O) (hw:I5 o (JO ops a.tmps)=EI:=by with_unfolding_all exact Ei O) (hl:mU o a T g:=by with_unfolding_all exact⟨O,O⟩):Ic P ops Q (o::rest) a w:=ZR hT hw hl hg hn h
theorem wS{T:EB}{n:Nat}{old:Array Y}(hT:IG P T n)(hg:Ec (D w g old T))(h:Ic P ops Q rest (a.put o.dst I2) (w.setRow g cs))(hn:cs.size=n:=by with_unfolding_all exact O) (h1:cs.all (·.oneCell')=EI:=by with_unfolding_all exact O) (ho:old.size=n:=by with_unfolding_all exact O) (hw:I5 o (JO ops a.tmps)=EI:=by with_unfolding_all exact Ei O) (hl:rU o a T g cs:=by with_unfolding_all exact⟨O,O,O⟩):Ic P ops Q (o::rest) a w:=bu hT hw hl hg ho hn h1 h
theorem wM{T:EB}{n off:Nat}(hT:IG P T n)(hg:Ec (D w g big TB))(h:Ic P ops Q rest (a.put o.dst (EZ cs)) w)(he:big.extract off (off+n)=cs:=by with_unfolding_all exact O)(hn:cs.size=n:=by with_unfolding_all exact O) (hw:I5 o (JO ops a.tmps)=EI:=by with_unfolding_all exact Ei O) (hl:j9 o a T g off:=by with_unfolding_all exact⟨O,O⟩):Ic P ops Q (o::rest) a w:=mh hT hw hl hg hn he h
end
def J0(w w':H):Prop:=El w w'
theorem EF:Kept J0:=⟨fun _=>E9 _ _,fun _ _ _ h k=>bt h k,fun w=>(E9 _ w).drew⟩
theorem ra.at{R:Nat->Y->H->Prop}{o:EL}(hd:ra R o x w)(j:Nat)(h:(o.after.toList.any fun e=>UN .any e&&e.on==j)=EI):R j (x j) w:=by exact EnI
theorem EJE{o:EL}{b:Bool}(h:o.guard=Z (j,want))(hd:(ops[j]?).bind (·.dst)=Z d)(hv:tmps[d]?=Z (EU b))(hb:(b==want)=B):I5 o (JO ops tmps)=B:=by unfold I5 JO;simp[h,hd,hv];cases b<;>cases want<;>simp_all
section
variable{P:Program}{ops:Array Oper}{Q:Exit->Act->World->Prop}{Rel:World->World->Prop}{F:(Nat->Value)->Act}{R:Nat->Value->World->Prop}{i:Nat}{o:Oper}{x:Nat->Value}{w:World}
theorem rh(hT:Kept Rel){T:EB}{n g:Nat}{cs:Array Y}(hA:IG P T n)(hw:I5 o (JO ops (F x).tmps)=EI) (hl:mU o (F x) T g) (hg:D w g cs T) (hn:cs.size=n) (h:R i (EZ cs) w):dR Rel P ops Q F R i o x w:=by
 obtain⟨⟨d,hu,hd⟩,hi⟩:=hA;unfold mU at hl;split at hl
 ·rename_i t y ho;obtain⟨rfl,hx⟩:=hl;refine E_ hT hw ?_ h;have hrun:(loadVar t ⟨g,0,X⟩).run P w= .ok (EZ cs) w:=by cases d<;>first|(cases hd;done)|exact run_loadVar_row w g t t cs (0,0) _ hg hu rfl gR
  unfold If;exact EmB
 ·exact hl.elim
theorem EJI(hT:Kept Rel){T TB:EB}{n g off:Nat}{cs big:Array Y}(hA:IG P T n)(hw:I5 o (JO ops (F x).tmps)=EI) (hl:j9 o (F x) T g off) (hg:D w g big TB) (hn:cs.size=n) (he:big.extract off (off+n)=cs) (h:R i (EZ cs) w):dR Rel P ops Q F R i o x w:=by
 obtain⟨⟨d,hu,hd⟩,hi⟩:=hA;unfold j9 at hl;split at hl;·rename_i t y ho;obtain⟨rfl,hx⟩:=hl;refine E_ hT hw ?_ h;exact Epo
 ·exact hl.elim
theorem Ua{a:E6}{s y:J7}{v1 v2 v':Y}(ho:o.op= .call {callee:= .builtin .append,args:= #[s,y],argTypes:= #[t,t]})(hs:a.eval s=v1)(hx:a.eval y=v2) (hr:(bv #[t,t] o.type #[v1,v2]).run P w= .ok v' w'):(If a.eval o).run P w= .ok (.value v') w':=by unfold If;simp only[ho,resolve,invoke,builtin,Oz,Og,OC,List.map_toArray,Uv,Xn,hs,hx,hr]
end
section
variable{P:Program}
theorem EJJ(ats:Array EB)(ty:EB)(p q:Int)(W:H):(Builtin.max_ ats ty #[E I p,E I q]).run P W= .ok (E I (max p q)) W:=by simp[Builtin.max_,Builtin.max2,go_sem];try omega
variable{ops:Array Oper}{rest:List Oper}{o:Oper}{a:Act}{w:World}{Q:Exit->Act->World->Prop}
theorem EJO{p q r:Int}(s x:J7)(ats:Array EB)(hgd:o.guard=X)(ho:o.op= .call {callee:= .builtin .max,args:= #[s,x],argTypes:=ats})(h1:a.eval s=E I p)(h2:a.eval x=E I q)(hr:max p q=r)(h:Ic P ops Q rest (a.put o.dst (E I r)) w):Ic P ops Q (o::rest) a w:=by subst hr;refine wpList_plain hgd fun K hK=> ?_;unfold dI If;simp only[ho,resolve,invoke,builtin,Oz,Og,OC,List.map_toArray,Uv,Xn,h1,h2,EJJ];exact hK _ _ h
end
def Ep(n:Nat):List Int:=dT n 0
theorem fF(n:Nat):(Ep n).length=n:=by simp[Ep]
theorem PJ(n:Nat): ∀x∈Ep n,0<=x/\x<=255:=by intro x hx;simp[Ep] at hx;omega
def putAt(l:List Int)(off:Nat)(ys:List Int):List Int:=l.take off++ys++l.drop (off+ys.length)
theorem EJU(l:List Int)(off:Nat)(ys:List Int)(h:off+ys.length<=l.length):(putAt l off ys).length=l.length:=by simp[putAt];omega
theorem EJX(l:List Int)(off:Nat):putAt l off []=l:=by simp[putAt]
theorem PU(k:Nat)(hk:k<=1000000000000)(W:H): (Instr.makeSlice 23 (E I (k:Int)) (E I (k:Int))).run Eb W= .ok (G (Z ⟨W.heap.size,0,X⟩) k k) (W.alloc (EJ (Ej (Ep k)) 5)):=by
 obtain⟨i0,hi,hz0,hz1,hz2⟩:=bz mJ;have h:=run_make (P:=Eb) W 23 5 i0 _ bA hi hz0 .i64 .i64 k k U U (by rw[hz2];omega) U;rw[h,hz1,mO,Nat.mul_one]
 have e:aL (E IntKind.u8 0).cells k=Ej (Ep k):=by
  apply Array.ext;·simp[aL,Ej,Ep]
  ·intro i h1 h2;simp[aL,Ej,Ep,Nat.mod_one,Value.cells]
 rw[e]
theorem EJZ(w:H)(g off dLen dCap:Nat)(l:List Int)(T:EB)(hg:D w g (Ej l) T)(A:Option Eu)(sLen sCap:Nat)(xs:List Int)(hx:xs.length=sLen)(hr:Row w A xs)(m:Nat)(hm:Nat.min sLen dLen=m) (hfit:off+m<=l.length) (Y_:Option Eu) (hD:0<m->Y_=Z ⟨g,off,X⟩) (ty:EB): ∃w',(Builtin.copy_ #[23,23] ty #[G Y_ dLen dCap,G A sLen sCap]).run Eb w= .ok (E I m) w'/\D w' g (Ej (putAt l off (xs.take m))) T/\Ik g w w'/\(∀k,k≠g->w'.heap[k]?=w.heap[k]?)/\w'.heap.size=w.heap.size:=by
 have hs1:(Tryz.prog.info? 5).map (·.size)=Z 1:=Ed;have hml:m<=xs.length:=by rw[hx,<-hm];exact Nat.min_le_left _ _
 rcases Nat.eq_zero_or_pos m with h0|h0
 ·subst h0;refine⟨w,?_,?_,E9 _ _,fun _ _=>rfl,O⟩;·exact run_copy_none w _ _ ty _ Y_ A dLen dCap sLen sCap bA hs1 hm
  ·rw[Io,EJX];exact hg
 ·obtain rfl:=hD h0
  obtain⟨ad,rfl,hc⟩: ∃ad,A=Z ad/\ ∀j v,((xs.take m).map (E .u8))[j]?=Z v->w.cell? (ad.add j)=Z v:=by
   rcases hr.1 with h|⟨b,o,h,hc⟩;·subst h;simp at hml;omega
   ·refine⟨_,h,fun j v hv=> ?_⟩
    have hj:j<(xs.take m).length:=by
     rcases JY j (xs.take m).length with h|h;·exact h
     ·rw[bf Up] at hv;cases hv
    have hj2:j<xs.length:=yw;rw[Addr.add_mid,hc j hj2];have Xy:j<m:=yw;simp[bj Xy,hj2] at hv;exact congrArg Z hv
  have hrun:=run_copy_row (P:=Eb) w 23 23 ty 5 g off dLen dCap ad sLen sCap (Ej l) T ((xs.take m).map (E .u8)) bA hs1 hg (by simp[hml,hm]) hc (by rw[Od];simp;omega) (by intro v hv;rw[dU] at hv;obtain⟨a,_,rfl⟩:=hv;rfl);have e:((Ej l).toList.take off++(xs.take m).map (E .u8)++(Ej l).toList.drop (off+((xs.take m).map (E .u8)).length)).toArray=Ej (putAt l off (xs.take m)):=by simp[Ej,putAt]
  rw[e] at hrun;refine⟨_,by rw[hrun];simp[goInt,hml],hg.setRow _,E2 (E9 _ _) (E7 _) _,fun k hk=>setRow_other w g k _ hk,Eh⟩
def PX(o:EL)(a:E6)(Y_:Option Eu)(dLen dCap:Nat)(A:Option Eu)(sLen sCap:Nat):Prop:=match o.op with
 | .call ⟨.builtin .copy,args,tys⟩=>tys= #[23,23]/\ ∃d s,args= #[d,s]/\a.eval d=G Y_ dLen dCap/\a.eval s=G A sLen sCap
 |_=>False
section
variable{ops:Array Oper}{rest:List Oper}{o:Oper}{a:Act}{w:World}{Q:Exit->Act->World->Prop}
theorem j_(hw:I5 o (JO ops a.tmps)=EI)(g off dLen dCap:Nat)(l:List Int)(T:EB)(A:Option Eu)(sLen sCap:Nat)(xs:List Int)(m:Nat)(Y_:Option Eu) (hc:PX o a Y_ dLen dCap A sLen sCap) (hg:Ec (D w g (Ej l) T)) (hx:xs.length=sLen) (hr:Ec (Row w A xs)) (hm:Nat.min sLen dLen=m) (hfit:off+m<=l.length) (hD:0<m->Y_=Z ⟨g,off,X⟩) (h: ∀w',D w' g (Ej (putAt l off (xs.take m))) T->Ik g w w'->(∀k,k≠g->w'.heap[k]?=w.heap[k]?)->w'.heap.size=w.heap.size->Ic Eb ops Q rest (a.put o.dst (E I m)) w'):Ic Eb ops Q (o::rest) a w:=by
 obtain⟨w',hrun,h1,h2,h3,h4⟩:=EJZ w g off dLen dCap l T hg.out A sLen sCap xs hx hr.out m hm hfit Y_ hD o.type;unfold PX at hc;split at hc;·rename_i args tys ho;obtain⟨rfl,d,s,rfl,e1,e2⟩:=hc;refine Jr hw (v:=E I m) (w':=w') ?_ (h w' h1 h2 h3 h4);unfold If;simp only[ho,resolve,invoke,builtin,Oz,Og,OC,List.map_toArray,Uv,Xn,e1,e2,hrun]
 ·exact hc.elim
end
def O_:Option (Nat×Nat)->List Y
 |none=>[EU B,E I 0,E Im 0]
 |some (h,s)=>[EU EI,E I h,E Im s]
theorem PZ(v:Option (Nat×Nat)):oU v=EZ (O_ v).toArray:=Pa
theorem ri(v:Option (Nat×Nat)):(O_ v).length=3:=Pa
structure Jm where
 on:Bool
 (a m r:Int)
 key:List Int
 win:Option (Nat×Nat)
def OH(on:Bool)(a m:Int):List Y:=[EU on,E I a,E I m]
def Jm.v(s:Jm):List Y:=OH s.on s.a s.m++([E I s.r]++(s.key.map (E .u8)++O_ s.win))
def Ub:Jm:=⟨B,0,0,0,Ep 32,X⟩
structure Jm.ok(s:Jm):Prop where
 len:s.key.length=32
 bytes: ∀x∈s.key,0<=x/\x<=255
 win:rO s.win
theorem tT:Ub.ok:=⟨O,PJ 32,trivial⟩
theorem Jm.XL{s:Jm}(h:s.key.length=32):s.v.length=39:=by simp[Jm.v,OH,h,ri]
structure EQ where
 X_:Bool
 (sa sm:Int)
 (s0 s1 s2:Jm)
 (In most:Int)
def EQ.E4(T:EQ):Nat->Jm
 |0=>T.s0
 |1=>T.s1
 |_=>T.s2
def EQ.put(T:EQ):Nat->Jm->EQ
 |0,s=>{T with s0:=s}
 |1,s=>{T with s1:=s}
 |_,s=>{T with s2:=s}
def EQ.hd(T:EQ):List Y:=[EU T.X_,E I T.sa,E I T.sm]
def EQ.tl(T:EQ):List Y:=[E I T.In,E I T.most]
def EQ.v(T:EQ):List Y:=T.hd++(T.s0.v++(T.s1.v++(T.s2.v++T.tl)))
def EQ.pre(T:EQ):Nat->List Y
 |0=>T.hd
 |1=>T.hd++T.s0.v
 |_=>T.hd++T.s0.v++T.s1.v
def EQ.post(T:EQ):Nat->List Y
 |0=>T.s1.v++(T.s2.v++T.tl)
 |1=>T.s2.v++T.tl
 |_=>T.tl
structure EQ.ok(T:EQ):Prop where
 s0:T.s0.ok
 s1:T.s1.ok
 s2:T.s2.ok
theorem EQ.ok.E4{T:EQ}(h:T.ok)(i:Nat):(T.E4 i).ok:=by
 match i with
 |0=>exact h.s0
 |1=>exact h.s1
 |_+2=>exact h.s2
theorem EQ.ok.put{T:EQ}(h:T.ok)(i:Nat){s:Jm}(hs:s.ok):(T.put i s).ok:=by
 match i with
 |0=>exact⟨hs,h.s1,h.s2⟩
 |1=>exact⟨h.s0,hs,h.s2⟩
 |_+2=>exact⟨h.s0,h.s1,hs⟩
theorem EQ.rj(T:EQ)(i:Nat):T.v=T.pre i++((T.E4 i).v++T.post i):=by
 match i with
 |0=>rfl
 |1=>simp[EQ.v,EQ.pre,EQ.post,EQ.E4]
 |_+2=>simp[EQ.v,EQ.pre,EQ.post,EQ.E4]
theorem EQ.tV(T:EQ)(i:Nat)(s:Jm):(T.put i s).v=T.pre i++(s.v++T.post i):=by
 match i with
 |0=>rfl
 |1=>simp[EQ.v,EQ.pre,EQ.post,EQ.put,EQ.hd,EQ.tl]
 |_+2=>simp[EQ.v,EQ.pre,EQ.post,EQ.put,EQ.hd,EQ.tl]
def so(i:Nat):Nat:=match i with|0=>3|1=>42|_=>81
theorem EQ.ou{T:EQ}(h:T.ok)(i:Nat):(T.pre i).length=so i:=by
 match i with
 |0=>rfl
 |1=>simp[EQ.pre,so,EQ.hd,Jm.XL h.s0.len]
 |_+2=>simp[EQ.pre,so,EQ.hd,Jm.XL h.s0.len,Jm.XL h.s1.len]
def Il(W:H)(g:Nat)(T:EQ):Prop:=D W g T.v.toArray 163
theorem bB{o:Nat}{pre post:List Y}(K:D W g (pre++(old++post)).toArray S)(ho:pre.length=o)(j:Nat)(hj:j<old.length):W.cell? ⟨g,o+j,X⟩=old[j]?:=by rw[K.cell (o+j),OE,aX U,bi U];congr 1;omega
theorem aZ{o n:Nat}(K:D W g cs S)(h:o+n<=cs.size):W.there g o n:=fun j hj=>by refine⟨?_,K.JX _⟩;rw[K.cell,j7 U];rfl
structure E3(g:Nat)(W w':H):Prop where
 size:W.heap.size<=w'.heap.size
 keep: ∀k,k≠g->k<W.heap.size->w'.heap[k]?=W.heap[k]?
 bel: ∀b,b<=g->b<=W.heap.size->Ik b W w'
theorem E3.refl(g:Nat)(W:H):E3 g W W:=⟨E7 _,fun _ _ _=>rfl,fun _ _ _=>E9 _ _⟩
theorem E3.trans{a b c:H}(h:E3 g a b)(k:E3 g b c):E3 g a c:=
 ⟨Ez h.size k.size,fun i hi hl=>(k.keep i hi (Nat.lt_of_lt_of_le hl h.size)).trans (h.keep i hi hl),fun i hi hl=>(h.bel i hi hl).trans (k.bel i hi (Ez hl h.size))⟩
theorem E3.EA(h:El W w'):E3 g W w':=
 ⟨h.size,fun k _ hl=>h.block k hl,fun b _ hb=>h.mono hb⟩
theorem E3.Ek{g2:Nat}(h:E3 g W w')(K:D W g2 cs S)(hne:g2≠g):D w' g2 cs S:=(h.keep g2 hne K.lt).trans K
theorem J1(p:Nat)(v:Y):E3 g W (W.setCell ⟨g,p,X⟩ v):=
 ⟨Fq,fun k hk _=>XK _ _ _ _ hk,fun b hb _=>(E9 b W).setCell (p:=⟨g,p,X⟩) hb v⟩
theorem JG{g:Nat}: ∀(vs:List Y) (o:Nat) (W:H),E3 g W (W.setCells g o vs)
 |[],_,W=>E3.refl g W
 |v::r,o,W=>(J1 o v).trans (JG r (o+1) _)
theorem Zd{g:Nat}{post:List Y}{S:EB}: ∀(vs old pre:List Y) (o:Nat) (W:H),D W g (pre++(old++post)).toArray S->vs.length=old.length->pre.length=o->D (W.setCells g o vs) g (pre++(vs++post)).toArray S
 |[],old,pre,o,W,K,hl,ho=>by have:old=[]:=aF hl.symm;subst this;exact K
 |v::vs,[],pre,o,W,K,hl,ho=>by simp at hl
 |v::vs,x::old,pre,o,W,K,hl,ho=>by
  have k1:=K.set o v;have e:(pre++(x::old++post)).toArray.setIfInBounds o v=((pre++[v])++(old++post)).toArray:=by rw[Ii];congr 1;rw[List.set_append_right _ _ U,ho,Nat.sub_self];simp
  rw[e] at k1;have k2:=Zd vs old (pre++[v]) (o+1) _ k1 (by simpa using hl) (by simp[ho]);rw[World.setCells];simpa using k2
theorem fG:IG Eb 107 2:=⟨⟨_,Tryz.underlying107,O⟩,Ed⟩
theorem yF(most:Int)(w:H): Ef Eb 174 #[E I most] w fun e w'=>e=Eg (EZ #[E I 0,E I (max most 0)])/\El w w':=by obtain⟨mb,hmb⟩:=Jl (max most 0);rw[hmb];go_enter Tryz.func174,Tryz.ntmps174;go_wp2_with ((with_reducible refine EJO (p:=most) (q:=0) (r:=mb) _ _ _ O O ?_ ?_ ?_ ?_);(·rfl);(·rfl);(·exact hmb));refine EV (by simp[UL,Tryz.results174,go_sem]) O ⟨O,?_⟩;exact Er w _
theorem yG(a m:Int)(w:H)(h1: -9223372036854775808<=a)(h3:m<=9223372036854775807): Ef Eb 148 #[EZ #[E I a,E I m]] w fun e w'=>e=Eg (EZ #[E I (sat a m),E I m])/\El w w':=by have CS:=J<|fun W=>tK a m W h1 h3;generalize sat a m=r at*;clear h1 h3;go_enter Tryz.func148,Tryz.ntmps148;go_wp2_with fail;refine(CS.out _).mono ?_;rintro e w' ⟨rfl,rfl⟩;go_wp2_with fail;refine EV Fr O ⟨O,?_⟩;exact JV w _ _
theorem yH(a m:Int)(w:H): Ef Eb 149 #[EZ #[E I a,E I m]] w fun e w'=>e=Eg (EU (decide (m<=a)))/\El w w':=by obtain⟨b,hb⟩:=Jl (decide (m<=a));rw[hb];go_enter Tryz.func149,Tryz.ntmps149;go_wp2_with fail;go_ret;exact⟨O,Er w _⟩
theorem tW(g o:Nat)(pre post:List Y)(x y z:Y)(S:EB)(In:Int)(w:H)(K:D w g (pre++([x,y,z]++post)).toArray S)(ho:pre.length=o): Ef Eb 127 #[M (Z ⟨g,o,X⟩),E I In] w fun e w'=>e=Eg (Et #[])/\D w' g (pre++(OH EI 0 (max In 0)++post)).toArray S/\E3 g w w':=by have c0:w.cell? ⟨g,o,X⟩=Z x:=bB (old:=[x,y,z]) K ho 0 Eh;have f0:w.frozen? ⟨g,o,X⟩=B:=K.JX o;have K1:Ec (D (w.setCell ⟨g,o,X⟩ (EU EI)) g (pre++([EU EI,y,z]++post)).toArray S):=J<|Zd (post:=[y,z]++post) [EU EI] [x] pre o w (by simpa using K) O ho;have ON:=J<|J1 (g:=g) (W:=w) o (EU EI);have HO:=J ho;have CT:=J<|fun W=>yF In W;generalize max In 0=mb at*;clear K ho;go_enter Tryz.func127,Tryz.ntmps127;go_wp2_with fail;clear c0 f0;generalize w.setCell ⟨g,o,X⟩ (EU EI)=w1 at*;refine(CT.out _).mono ?_;rintro e w2 ⟨rfl,b2⟩;replace K1:=J<|K1.out.V b2;replace ON:=J<|ON.out.trans (E3.EA b2);clear b2 CT;have K2:Ec (D (w2.setCells g (o+1) [E I 0,E I mb]) g (pre++(OH EI 0 mb++post)).toArray S):=J (by have:=Zd (g:=g) (post:=post) (S:=S) [E I 0,E I mb] [y,z] (pre++[EU EI]) (o+1) w2 (by simpa[OH] using K1.out) O (by simp[HO.out]);simpa[OH] using this);have Fs:=J<|ON.out.trans (JG (g:=g) [E I 0,E I mb] (o+1) w2);have HS:Ec (o+1+2<=(pre++([EU EI,y,z]++post)).toArray.size):=J (by have:=HO.out;simp[OH];omega);have c1:w2.cell? ⟨g,o+1,X⟩=Z y:=bB (old:=[EU EI,y,z]) K1.out HO.out 1 Eh;have c2:w2.cell? ⟨g,o+1+1,X⟩=Z z:=bB (old:=[EU EI,y,z]) K1.out HO.out 2 Eh;have f1:w2.frozen? ⟨g,o+1,X⟩=B:=K1.out.JX _;have f2:w2.frozen? ⟨g,o+1+1,X⟩=B:=K1.out.JX _;go_wp2_with fail;go_end0;exact⟨O,K2.out,Fs.out⟩
theorem Pb(g o:Nat)(pre post:List Y)(y z:Y)(S:EB)(w:H)(K:D w g (pre++([EU B,y,z]++post)).toArray S)(ho:pre.length=o): Ef Eb 145 #[M (Z ⟨g,o,X⟩)] w fun e w'=>e=Eg (EU B)/\w=w':=by have c0:w.cell? ⟨g,o,X⟩=Z (EU B):=bB (old:=[EU B,y,z]) K ho 0 Eh;clear K ho;go_enter Tryz.func145,Tryz.ntmps145;exact Eli
theorem Pc(g o:Nat)(pre post:List Y)(a m:Int)(S:EB)(w:H)(K:D w g (pre++(OH EI a m++post)).toArray S)(ho:pre.length=o)(h1: -9223372036854775808<=a)(h3:m<=9223372036854775807): Ef Eb 145 #[M (Z ⟨g,o,X⟩)] w fun e w'=>e=Eg (EU (decide (m<=sat a m)))/\D w' g (pre++(OH EI (sat a m) m++post)).toArray S/\E3 g w w':=by have c0:w.cell? ⟨g,o,X⟩=Z (EU EI):=bB (old:=OH EI a m) K ho 0 ox;have c1:w.cell? ⟨g,o+1,X⟩=Z (E I a):=bB (old:=OH EI a m) K ho 1 ox;have c2:w.cell? ⟨g,o+2,X⟩=Z (E I m):=bB (old:=OH EI a m) K ho 2 ox;have CS:=J<|fun W=>yG a m W h1 h3;have CD:=J<|fun W=>yH (sat a m) m W;generalize sat a m=r at*;generalize decide (m<=r)=rb at*;have KK:=J K;have HO:=J ho;clear K ho h1 h3;go_enter Tryz.func145,Tryz.ntmps145;go_wp2_with fail;refine(CS.out _).mono ?_;rintro e w2 ⟨rfl,b2⟩;replace KK:=J<|KK.out.V b2;have ON:Ec (E3 g w w2):=J<|E3.EA b2;clear b2 CS c0 c1 c2;have K2:Ec (D (w2.setCells g (o+1) [E I r,E I m]) g (pre++(OH EI r m++post)).toArray S):=J (by have:=Zd (g:=g) (post:=post) (S:=S) [E I r,E I m] [E I a,E I m] (pre++[EU EI]) (o+1) w2 (by simpa[OH] using KK.out) O (by simp[HO.out]);simpa[OH] using this);have Fs:=J<|ON.out.trans (JG (g:=g) [E I r,E I m] (o+1) w2);have HS:Ec (o+1+2<=(pre++(OH EI a m++post)).toArray.size):=J (by have:=HO.out;simp[OH];omega);have c1:w2.cell? ⟨g,o+1,X⟩=Z (E I a):=bB (old:=OH EI a m) KK.out HO.out 1 ox;have c2:w2.cell? ⟨g,o+1+1,X⟩=Z (E I m):=bB (old:=OH EI a m) KK.out HO.out 2 ox;have f1:w2.frozen? ⟨g,o+1,X⟩=B:=KK.out.JX _;have f2:w2.frozen? ⟨g,o+1+1,X⟩=B:=KK.out.JX _;go_wp2_with (with_reducible refine I7 19 ?_);apply Eo;clear c1 c2 f1 f2;rw[show(w2.setCell ⟨g,o+1,X⟩ (E I r)).setCell ⟨g,o+1+1,X⟩ (E I m)=w2.setCells g (o+1) [E I r,E I m] from rfl];generalize w2.setCells g (o+1) [E I r,E I m]=w3 at*;have c1:w3.cell? ⟨g,o+1,X⟩=Z (E I r):=bB (old:=OH EI r m) K2.out HO.out 1 ox;have c2:w3.cell? ⟨g,o+2,X⟩=Z (E I m):=bB (old:=OH EI r m) K2.out HO.out 2 ox;go_wp2_with fail;refine(CD.out _).mono ?_;rintro e w4 ⟨rfl,b4⟩;go_wp2_with fail;go_ret;exact⟨O,K2.out.V b4,Fs.out.trans (E3.EA b4)⟩
def Jc(w:H)(g:Nat)(Gs:List (List Y))(S:EB):Prop:=D w g Gs.flatten.toArray S
def aM(Gs:List (List Y))(k:Nat):Nat:=(Gs.take k).flatten.length
theorem tY(hk:Gs[k]?=Z old):Gs.flatten=(Gs.take k).flatten++(old++(Gs.drop (k+1)).flatten):=by obtain⟨h,e⟩:=Xx.1 hk;conv=>lhs;rw[<-gT k Gs,List.flatten_append,mg h,List.flatten_cons,e]
theorem EJa(hk:Gs[k]?=Z old)(vs:List Y):(Gs.set k vs).flatten=(Gs.take k).flatten++(vs++(Gs.drop (k+1)).flatten):=by
 obtain⟨h,e⟩:=Xx.1 hk;have h2:(Gs.set k vs)[k]?=Z vs:=by rw[List.getElem?_set_self h]
 rw[tY h2,List.take_set_of_le (E7 _),List.drop_set_of_lt U]
theorem Jc.cell(K:Jc W g Gs S)(k:Nat){o:Nat}(hk:Gs[k]?=Z old)(ho:aM Gs k=o)(j:Nat)(hj:j<old.length):W.cell? ⟨g,o+j,X⟩=old[j]?:=by unfold Jc at K;rw[tY hk] at K;exact bB K ho j hj
theorem Jc.set(K:Jc W g Gs S)(k:Nat){o:Nat}(hk:Gs[k]?=Z old)(ho:aM Gs k=o)(vs:List Y)(hl:vs.length=old.length):Jc (W.setCells g o vs) g (Gs.set k vs) S:=by unfold Jc at*;rw[tY hk] at K;rw[EJa hk];exact Zd vs old _ o W K hl ho
theorem Jc.extract(k:Nat){o:Nat}(hk:Gs[k]?=Z old)(ho:aM Gs k=o)(n:Nat)(hn:old.length=n):Gs.flatten.toArray.extract o (o+n)=old.toArray:=by subst ho hn;rw[tY hk];unfold aM;simp
theorem Jc.there(K:Jc W g Gs S)(k:Nat){o:Nat}(hk:Gs[k]?=Z old)(ho:aM Gs k=o)(n:Nat)(hn:n<=old.length):W.there g o n:=by refine aZ K ?_;rw[tY hk,List.size_toArray,IY,IY];unfold aM at ho;omega
theorem Jc.V(K:Jc W g Gs S)(hb:El W w'):Jc w' g Gs S:=D.V K hb
theorem Jc.lt(K:Jc W g Gs S):g<W.heap.size:=D.lt K
theorem Jc.JX(K:Jc W g Gs S)(i:Nat):W.frozen? ⟨g,i,X⟩=B:=D.JX K i
section
variable{P:Program}{ops:Array Oper}{rest:List Oper}{o:Oper}{a:Act}{w:World}{Q:Exit->Act->World->Prop}
end
def kE:List EB:=[120,163,152,171,124]
def Ft(o:Option Obj):Bool:=match o with
 |some (EJ _ T _)=>kE.contains T
 |_=>B
def t_(w:H)(k:Nat):Bool:=Ft w.heap[k]?
structure Fu(lo hi:Nat)(w w':H):Prop where
 os:w'.os=w.os
 tape:w'.tape=w.tape
 output:w'.output=w.output
 size:w.heap.size<=w'.heap.size
 keep: ∀k,k<hi->(lo<=k->t_ w k=B)->w'.heap[k]?=w.heap[k]?
 stay: ∀k,lo<=k->k<hi->t_ w k=EI->t_ w' k=EI
theorem Fu.V{lo hi:Nat}(h:Fu lo hi w w')(hl:lo<=hi):Ik lo w w':=
 ⟨h.os,h.tape,h.output,h.size,fun k hk=>h.keep k (Nat.lt_of_lt_of_le hk hl) (fun hc=>absurd hc U)⟩
structure EK where
 (h e o oa om la lm:Int)
 bad:Bool
def EK.v(t:EK):List Y:=[E I t.h,E I t.e,E I t.o,E I t.oa,E I t.om,E I t.la,E I t.lm,EU t.bad]
def I9(x:Int):Prop:= -9223372036854775808<=x/\x<=9223372036854775807
structure EK.ok(t:EK):Prop where
 h:0<=t.h/\t.h<=4
 e:0<=t.e/\t.e<=65535
 o: -1<=t.o/\t.o<=3
 oa:0<=t.oa/\t.oa<=1000
 om:0<=t.om/\t.om<=1000
 la:0<=t.la/\t.la<=1000
 lm:0<=t.lm/\t.lm<=1000
 off:0<=t.o->1<=t.h/\t.h<=3/\t.o≠t.h
def EK.pass(t:EK)(IT e:Int):EK:=⟨IT,e,-1,0,0,0,0,t.bad⟩
def EK.Uc(t:EK)(IT:Int):EK×Int:=
 if IT<0\/5<=IT then(t,1) else if IT=t.h then(t,25) else if 65535<=t.e then(t,24) else(t.pass IT (t.e+1),0)
def EK.bC(t:EK):EK:=t.pass 4 (if t.h≠4 then sat t.e 65535 else t.e)
def EK.end_(t:EK):EK:={t with o:= -1,oa:=0,om:=0}
def EK.make(t:EK)(po from_ IT:Int)(there:Bool):EK×Int:=
 if from_≠t.h then(t,20) else if 65535<=t.e then(t,24) else if IT=from_ then(t,25) else if IT<1\/3<IT\/there=B then(t,2) else if 0<=t.o then(t,28)
 else({t with o:=IT,oa:=0,om:=max po 0},0)
def EK.accept(t:EK)(from_ OJ:Int):EK×Int:=
 if t.o<0\/t.o≠from_ then(t,28) else if OJ≠t.e then(t,21) else t.Uc from_
def EK.oy(t:EK)(from_:Int):EK×Int:=if t.o<0\/t.o≠from_ then(t,28) else(t.end_,0)
def EK.drop(t:EK)(s:Int):EK×Bool:=if t.o<0\/t.o≠s then(t,B) else(t.end_,EI)
def EK.Ur(t:EK):EK×Int:=
 if t.o<0 then(t,-1) else if sat t.oa t.om<t.om then({t with oa:=sat t.oa t.om},-1) else({t with oa:=sat t.oa t.om}.end_,t.o)
structure Xz where
 (r s q:Int)
def Xz.v(b:Xz):List Y:=[E I b.r,E I b.s,E I b.q]
structure Xz.ok(b:Xz):Prop where
 r:I9 b.r
 s:I9 b.s
 q:I9 b.q
def Fv:Xz:=⟨2,4,0⟩
structure Pt where
 (c a0 a1 a2 a3 n0 n1 n2 n3:Int)
 b:Xz
def Pt.v(p:Pt):List Y:=[E I p.c,E I p.a0,E I p.a1,E I p.a2,E I p.a3,E I p.n0,E I p.n1,E I p.n2,E I p.n3,E I p.b.r,E I p.b.s,E I p.b.q]
structure Pt.ok(p:Pt):Prop where
 c:I9 p.c
 a0:I9 p.a0
 a1:I9 p.a1
 a2:I9 p.a2
 a3:I9 p.a3
 n0:I9 p.n0
 n1:I9 p.n1
 n2:I9 p.n2
 n3:I9 p.n3
structure Rec where
 (k s q e c h:Int)
deriving DecidableEq
def Rec.v(x:Rec):List Y:=[E I x.k,E I x.s,E I x.q,E I x.e,E I x.c,E I x.h]
def Uw(l:List Rec):List Y:=l.flatMap Rec.v
theorem yK(l:List Rec):(Uw l).length=l.length*6:=by
 induction l with
 |nil=>rfl
 |cons x r ih=>simp only[Uw,kI,IY,ZC] at*;rw[ih];simp[Rec.v];omega
theorem Pd(a b:List Rec):Uw (a++b)=Uw a++Uw b:=by simp[Uw]
structure One where
 (s r a m:Int)
 n:Nat
def One.v(x:One):List Y:=[E I x.s,E I x.r,E I x.a,E I x.m,E Im x.n]
structure One.ok(x:One):Prop where
 s:I9 x.s
 r:I9 x.r
 a:0<=x.a/\x.a<=1000
 m:0<=x.m/\x.m<=1000
 n:x.n<18446744073709551616
def IC(l:List One):List Y:=l.flatMap One.v
theorem bD(l:List One):(IC l).length=l.length*5:=by
 induction l with
 |nil=>rfl
 |cons x r ih=>simp only[IC,kI,IY,ZC] at*;rw[ih];simp[One.v];omega
structure Ey where
 tok:EK
 q:List One
 T:EQ
 (samples beyond mode:Int)
 Em:Xz
 pt:Pt
section
variable{P:Program}
theorem Pf{T:EB}{n:Nat}(hA:IG P T n)(hg:D w g cs T)(hn:cs.size=n):(loadVar T ⟨g,0,X⟩).run P w= .ok (EZ cs) w:=by obtain⟨⟨d,hu,hd⟩,hi⟩:=hA;cases d<;>first|(cases hd;done)|exact run_loadVar_row w g T T cs (0,0) _ hg hu rfl gR
theorem Ux{q:Tmp}{T:EB}{n:Nat}(hT:IG P T n)(h:fn.results= #[.cell p T,.tmp q])(tmps:Array Y)(w:H)(g:Nat)(cs:Array Y)(v:Y) (hp:tmps.getD p I2=M (Z ⟨g,0,X⟩)) (hq:tmps.getD q I2=v) (hg:D w g cs T) (hn:cs.size=n):(UL fn tmps).run P w= .ok (Et #[EZ cs,v]) w:=by have hp':tmps[p]?.getD I2=M (Z ⟨g,0,X⟩):=j4;have hq':tmps[q]?.getD I2=v:=oz;simp[UL,h,hp',hq',asAddr,Pf hT hg hn]
theorem jE{q r:Tmp}{T:EB}{n:Nat}(hT:IG P T n)(h:fn.results= #[.cell p T,.tmp q,.tmp r])(tmps:Array Y)(w:H)(g:Nat)(cs:Array Y)(v v2:Y) (hp:tmps.getD p I2=M (Z ⟨g,0,X⟩)) (hq:tmps.getD q I2=v) (hr:tmps.getD r I2=v2) (hg:D w g cs T) (hn:cs.size=n):(UL fn tmps).run P w= .ok (Et #[EZ cs,v,v2]) w:=by
 have hp':tmps[p]?.getD I2=M (Z ⟨g,0,X⟩):=j4;have hq':tmps[q]?.getD I2=v:=oz;have hr':tmps[r]?.getD I2=v2:=by simpa using hr
 simp[UL,h,hp',hq',hr',asAddr,Pf hT hg hn]
end
def oA(ops:Array EL)(i k:Nat):Prop:= ∃o e,ops[i]?=Z o/\e∈o.after/\UN .any e=EI/\e.on=k
def rm(R:Nat->(Nat->Y)->H->Prop)(o:EL)(x:Nat->Y)(w:H):Prop:= ∀e∈o.after,UN .any e=EI->R e.on x w
theorem rm.at{o:EL}(hd:rm R o x w)(j:Nat)(h:(o.after.toList.any fun e=>UN .any e&&e.on==j)=EI):R j x w:=by exact EnI
section
variable{P:Program}{ops:Array Oper}{Q:Exit->Act->World->Prop}
@[irreducible] def Zf(Rel:H->H->Prop)(P:Jh)(ops:Array EL)(Q:UM->E6->H->Prop)(F:(Nat->Y)->E6)(R:Nat->(Nat->Y)->H->Prop)(i:Nat)(o:EL)(x:Nat->Y)(w:H):Prop:=
 if I5 o (JO ops (F x).tmps) then o.wp P (F x) w (fun a' w'=> ∃v,a'=(F x).put o.dst v/\Rel w w'/\R i (Oo x i v) w') Q
 else R i (Oo x i I2) w
def mn(ops:Array EL):Bool:=(U4 ops.size).all fun i=>match ops[i]? with
 |none=>B
 |some o=>o.after.all fun e=> !(UN .any e)||decide (e.on<i)
theorem Pg{ops:Array EL}(h:mn ops=EI){o:EL}(ho:ops[i]?=Z o): ∀e∈o.after,UN .any e=EI->e.on<i:=by have hi:=(J6.1 ho).1;have h1:=Xk.1 h i (aH.2 hi);simp only[ho] at h1;intro e he hb;have h2:=Array.all_eq_true_iff_forall_mem.1 h1 e he;rw[hb] at h2;simpa using h2
def yL(Rel:H->H->Prop)(P:Jh)(ops:Array EL)(Q:UM->E6->H->Prop)(W:H)(F:(Nat->Y)->E6)(R:Nat->(Nat->Y)->H->Prop):Nat->List EL->Prop
 |_,[]=>True
 |i,o::l=>(∀x w,Rel W w->rm R o x w->Zf Rel P ops Q F R i o x w)/\yL Rel P ops Q W F R (i+1) l
theorem IM(hT:Kept Rel){o:EL}{v:Y}(hw:I5 o (JO ops (F x).tmps)=EI) (hr:(If (F x).eval o).run P w= .ok (.value v) w) (h:R i (Oo x i v) w):Zf Rel P ops Q F R i o x w:=by unfold Zf;exact Eo4
theorem Es{P:Jh}{ops:Array EL}{Q:UM->E6->H->Prop}{o:EL}{v:Y}(hr:(If (F x).eval o).run P w= .ok (.value v) w)(h:R i (Oo x i v) w)(hw:o.guard=X:=by rfl):Zf J0 P ops Q F R i o x w:=IM EF (Ei hw) hr h
theorem Zg{o:EL}{v:Y}(hw:I5 o (JO ops (F x).tmps)=EI) (hr:(If (F x).eval o).run P w= .ok (.value v) w') (hb:Rel w w') (h:R i (Oo x i v) w'):Zf Rel P ops Q F R i o x w:=by unfold Zf;exact EpO
theorem JH{o:EL}(hw:I5 o (JO ops (F x).tmps)=EI) (hr:(If (F x).eval o).run P w= .ok (.enter f args) w) (hc:Ef P f args w fun e w'=> ∃v,e=Eg v/\Rel w w'/\R i (Oo x i v) w'):Zf Rel P ops Q F R i o x w:=by unfold Zf;exact Eon
end
def RX(S:Nat->Y->H->Prop)(j k:Nat)(S2:Y->H->Prop):Nat->(Nat->Y)->H->Prop:=fun i x w=>if i=j then S2 (x k) w else S i (x i) w
theorem RX.keep{S:Nat->Y->H->Prop}{m:Nat}(h1: ∀i v w w',i<m->S i v w->Rel w w'->S i v w')(h2: ∀v w w',S2 v w->Rel w w'->S2 v w'): ∀i x w w',i<m->RX S j k S2 i x w->Rel w w'->RX S j k S2 i x w':=by
 intro i x w w' hi h hb;unfold RX at*;split;·rename_i e;rw[if_pos e] at h;exact h2 _ _ _ h hb
 ·rename_i e;rw[if_neg e] at h;exact h1 _ _ _ _ hi h hb
theorem RX.dep{S:Nat->Y->H->Prop}{m:Nat}(hw:oA ops j k): ∀i x y w,i<m->(∀q,(q=i\/oA ops i q)->x q=y q)->RX S j k S2 i x w->RX S j k S2 i y w:=by
 intro i x y w hi hq h;unfold RX at*;split;·rename_i e;rw[if_pos e] at h;subst e;rw[<-hq k (.inr hw)];exact h
 ·rename_i e;rw[if_neg e] at h;rw[<-hq i (.inl rfl)];exact h
theorem uE(h:(match ops[i]? with|some o=>o.after.toList.any (fun e=>UN .any e&&e.on==k)|none=>false)=EI):oA ops i k:=by
 cases ho:ops[i]? with
 |none=>rw[ho] at h;cases h
 |some o=> rw[ho] at h;obtain⟨e,he,hb⟩:=List.any_eq_true.1 h;simp only[Oc,beq_iff_eq] at hb;exact⟨o,e,ho,Array.mem_toList_iff.1 he,hb.1,hb.2⟩
section
variable{P:Program}{ops:Array Oper}{Q:Exit->Act->World->Prop}{Rel:World->World->Prop}{F:(Nat->Value)->Act}{R:Nat->(Nat->Value)->World->Prop}{i:Nat}{o:Oper}{x:Nat->Value}{w:World}
theorem bF{T:EB}{n:Nat}{old:Array Y}(hA:IG P T n)(hw:I5 o (JO ops (F x).tmps)=EI)(hl:rU o (F x) T g cs)(hg:D w g old T)(ho:old.size=n)(hn:cs.size=n) (h1:cs.all (·.oneCell')=EI) (hb:Rel w (w.setRow g cs)) (h:R i (Oo x i I2) (w.setRow g cs)):Zf Rel P ops Q F R i o x w:=by
 obtain⟨-,hi⟩:=hA;unfold rU at hl;split at hl
 ·rename_i t a b hop;obtain⟨rfl,hx,hy⟩:=hl;unfold Zf;rw[if_pos hw];have hrun:(If (F x).eval o).run P w= .ok .skip (w.setRow g cs):=by unfold If;simp only[hop,hx,hy,Instr.storeAt,dJ,Oz,Og,OC,run_storeVar_row _ g t t old cs hg gR (by rw[ho,hn]) h1]
  unfold dI;rw[hrun];exact⟨I2,rfl,hb,h⟩
 ·exact hl.elim
theorem jI(hT:Kept Rel){T:EB}{n g:Nat}{cs:Array Y}(hA:IG P T n)(hw:I5 o (JO ops (F x).tmps)=EI) (hl:mU o (F x) T g) (hg:D w g cs T) (hn:cs.size=n) (h:R i (Oo x i (EZ cs)) w):Zf Rel P ops Q F R i o x w:=by
 obtain⟨⟨d,hu,hd⟩,hi⟩:=hA;unfold mU at hl;split at hl
 ·rename_i t y ho;obtain⟨rfl,hx⟩:=hl;refine IM hT hw ?_ h;have hrun:(loadVar t ⟨g,0,X⟩).run P w= .ok (EZ cs) w:=by cases d<;>first|(cases hd;done)|exact run_loadVar_row w g t t cs (0,0) _ hg hu rfl gR
  unfold If;exact EmB
 ·exact hl.elim
theorem aN(hT:Kept Rel){T TB:EB}{n g off:Nat}{cs big:Array Y}(hA:IG P T n)(hw:I5 o (JO ops (F x).tmps)=EI) (hl:j9 o (F x) T g off) (hg:D w g big TB) (hn:cs.size=n) (he:big.extract off (off+n)=cs) (h:R i (Oo x i (EZ cs)) w):Zf Rel P ops Q F R i o x w:=by
 obtain⟨⟨d,hu,hd⟩,hi⟩:=hA;unfold j9 at hl;split at hl;·rename_i t y ho;obtain⟨rfl,hx⟩:=hl;refine IM hT hw ?_ h;exact Epo
 ·exact hl.elim
end
def mo(b0:Nat)(T:EB)(cs:Array Y)(w w':H):Prop:=
 w.heap.size<=w'.heap.size/\(b0<=w.heap.size->Ik b0 w w')/\
 ∀(g:Nat) (c:Array Y) (S:EB),D w g c S->D w' g c S\/(b0<=g/\S=T/\c.size=cs.size/\D w' g cs S)
theorem gV{T:EB}:Kept (mo b0 T cs):=by
 refine⟨fun w=>⟨E7 _,fun _=>E9 _ _,fun g c S h=> .inl h⟩,?_,fun w=>⟨E7 _,fun _=>(E9 _ _).drew,fun g c S h=> .inl h⟩⟩;rintro a b c ⟨h1,h2,h3⟩ ⟨k1,k2,k3⟩;refine⟨Ez h1 k1,fun h=>(h2 h).trans (k2 (Ez h h1)),fun g d S hg=> ?_⟩;rcases h3 g d S hg with h|⟨l,e,z,h⟩;·exact k3 g d S h
 ·rcases k3 g cs S h with h'|⟨l',e',z',h'⟩;·exact .inr ⟨l,e,z,h'⟩
  ·exact .inr ⟨l,e,z,h'⟩
theorem Pi{T:EB}(hb:El w w'):mo b0 T cs w w':=⟨hb.size,fun h=>hb.mono h,fun g c S h=> .inl (h.V hb)⟩
theorem EJb{T:EB}{old:Array Y}(hk:D w g old T)(hg:b0<=g)(hs:old.size=cs.size):mo b0 T cs w (w.setRow g cs):=by
 refine⟨Eh,fun h=>E2 (g:=g) (E9 b0 w) hg cs,fun k c S h=> ?_⟩;by_cases e:k=g;·subst e;have e2:=(show Z (EJ c S (0,0))=Z (EJ old T (0,0)) from h.symm.trans hk);injection e2 with e2;injection e2 with e3 e4;subst e3 e4;exact .inr ⟨hg,O,hs,hk.setRow cs⟩
 ·exact .inl (h.setRow_other g cs e)
theorem Pj{T:EB}{c:Array Y}(h:mo b0 T cs w w')(hk:D w g c S)(hn:g<b0\/S≠T\/c.size≠cs.size):D w' g c S:=by
 rcases h.2.2 g c S hk with h1|⟨l,e,z,-⟩;·exact h1
 ·rcases hn with hn|hn|hn;·omega
  ·exact absurd e hn
  ·exact absurd z hn
theorem EJc{T:EB}{c:Array Y}(h:mo b0 T cs w w')(hk:D w g c T)(hs:c.size=cs.size): ∃c',c'.size=cs.size/\D w' g c' T:=by
 rcases h.2.2 g c T hk with h1|⟨-,-,-,h1⟩;·exact⟨c,hs,h1⟩
 ·exact⟨cs,O,h1⟩
theorem EJd{T:EB}(h:mo b0 T cs w w')(hk:D w g cs T):D w' g cs T:=by
 rcases h.2.2 g cs T hk with h1|⟨-,-,-,h1⟩;·exact h1
 ·exact h1
def fH(ops:Array EL):Nat->Nat->Nat->Bool
 |0,_,_=>B
 |f+1,i,k=>match ops[i]? with
  |none=>B
  |some o=>o.after.any fun e=>UN .any e&&(e.on==k||fH ops f e.on k)
theorem yM{ops:Array EL}{listed:Array Bool}(hcl:dP ops listed): ∀(f i k:Nat),fH ops f i k=EI->i<ops.size->listed.getD i EI=EI->listed.getD k EI=EI
 |0,_,_,h,_,_=>XE
 |f+1,i,k,h,hi,hl=>by
  unfold fH at h;rw[j7 hi] at h;simp only at h;obtain⟨e,he,hb⟩:=Array.any_eq_true'.1 h;simp only[Oc,mf,beq_iff_eq] at hb;have h1:=hcl i _ (j7 hi) hl e he hb.1;rcases hb.2 with h2|h2;·rw[<-h2];exact h1
  ·by_cases he2:e.on<ops.size;·exact yM hcl f e.on k h2 he2 h1
   ·cases f with
    |zero=>cases h2
    |succ f=>unfold fH at h2;rw[gQ U] at h2;cases h2
def kJ(ops:Array EL)(cs:List Nat)(ks:List (Nat×Nat)):Bool:=ks.length==ops.size&&cs.all (fun c=>decide (c<ops.size))&&decide cs.Nodup&&(U4 ops.size).all fun i=>match ks[i]? with
 |some (lo,hi)=>(U4 cs.length).all (fun j=>match cs[j]? with
  |some c=>if c=i then decide (lo=j)&&decide (hi=j) else(decide (lo<=j)||fH ops ops.size i c)&&(decide (j<hi)||fH ops ops.size c i)
  |none=>B)
 |none=>B
def cnt(cs:List Nat)(listed:Array Bool):Nat:=(cs.filter fun c=>listed.getD c EI).length
theorem Fw{listed:Array Bool}: ∀(cs:List Nat) (lo:Nat),lo<=cs.length->(∀j c,j<lo->cs[j]?=Z c->listed.getD c EI=EI)->lo<=cnt cs listed
 |_,0,_,_=>bG _
 |[],_+1,h,_=>absurd h Eh
 |c::cs,lo+1,h,hl=>by have h0:=hl 0 c U O;have ih:=Fw cs lo Up (fun j c' hj hc=>hl (j+1) c' U yN);unfold cnt at*;rw[mq,if_pos h0];simpa using ih
theorem uI{listed:Array Bool}: ∀(cs:List Nat) (hi:Nat),(∀j c,hi<=j->cs[j]?=Z c->listed.getD c EI=B)->cnt cs listed<=hi
 |[],_,_=>bG _
 |c::cs,0,hl=>by have h0:=hl 0 c (E7 _) O;have ih:=uI cs 0 (fun j c' _ hc=>hl (j+1) c' U yN);unfold cnt at*;rw[mq,if_neg (by rw[h0];exact Bool.false_ne_true)];exact ih
 |c::cs,hi+1,hl=>by
  have ih:=uI cs hi (fun j c' hj hc=>hl (j+1) c' U yN);unfold cnt at*;rw[mq];split;·simpa using ih
  ·omega
theorem yP{listed:Array Bool}{i:Nat}: ∀(cs:List Nat),i∉cs->cnt cs (listed.setIfInBounds i EI)=cnt cs listed
 |[],_=>rfl
 |c::cs,h=>by
  have hne:i≠c:=fun e=>h (by rw[e];exact gS);have ih:=yP (listed:=listed) cs (fun hm=>h (aJ _ hm));unfold cnt at*;rw[mq,mq,aI EI hne];split;·rw[ZC,ZC,ih]
  ·exact ih
theorem Pk{listed:Array Bool}{i:Nat}(hi:i<listed.size)(hu:listed.getD i EI=B): ∀(cs:List Nat),cs.Nodup->i∈cs->cnt cs (listed.setIfInBounds i EI)=cnt cs listed+1
 |[],_,h=>XE
 |c::cs,hn,h=>by
  have hset:(listed.setIfInBounds i EI).getD i EI=EI:=by simp[hi]
  by_cases e:i=c;·subst e;have ho:=yP (listed:=listed) cs (mc.1 hn).1;unfold cnt at*;rw[mq,if_pos hset,mq,if_neg (by rw[hu];exact Bool.false_ne_true),ZC,ho]
  ·have hm:i∈cs:=by
    rcases UJ.1 h with h|h;·exact absurd h e
    ·exact h
   have ih:=Pk hi hu cs (mc.1 hn).2 hm;unfold cnt at*;rw[mq,mq,aI EI e];split;·rw[ZC,ZC,ih]
   ·exact ih
theorem Pm{cs:List Nat}(h:kJ ops cs ks=EI):(∀c∈cs,c<ops.size)/\cs.Nodup/\ ∀i,i<ops.size-> ∃lo hi,ks[i]?=Z (lo,hi)/\ ∀j c,cs[j]?=Z c->(c=i->lo=j/\hi=j)/\(c≠i->(lo<=j\/fH ops ops.size i c=EI)/\(j<hi\/fH ops ops.size c i=EI)):=by
 unfold kJ at h;simp only[Oc] at h;obtain⟨⟨⟨-,h1⟩,h2⟩,h3⟩:=h;refine⟨fun c hc=>of_decide_eq_true (Xk.1 h1 c hc),of_decide_eq_true h2,fun i hi=> ?_⟩;have h4:=Xk.1 h3 i (aH.2 hi);cases hk:ks[i]? with
 |none=>rw[hk] at h4;cases h4
 |some p=>
  obtain⟨lo,hi'⟩:=p;rw[hk] at h4;refine⟨lo,hi',O,fun j c hj=> ?_⟩;have hjl:=(Xx.1 hj).1;have h5:=Xk.1 h4 j (aH.2 hjl);rw[hj] at h5;by_cases e:c=i;·simp only[if_pos e,Oc,decide_eq_true_eq] at h5;exact⟨fun _=>h5,fun h=>absurd e h⟩
  ·simp only[if_neg e,Oc,mf,decide_eq_true_eq] at h5;exact⟨fun h=>absurd h e,fun _=>h5⟩
section
variable{P:Program}{ops:Array Oper}{Q:Exit->Act->World->Prop}
def Fx(Ph:Nat->H->Prop)(Rel Is:H->H->Prop)(P:Jh)(ops:Array EL)(Q:UM->E6->H->Prop)(F:(Nat->Y)->E6)(R:Nat->(Nat->Y)->H->Prop)(c:Bool)(lo hi i:Nat)(o:EL):Prop:=match c with
 |true=> ∀x w,Ph lo w->rm R o x w->Zf (fun w w'=>Is w w'/\Ph (lo+1) w') P ops Q F R i o x w
 |false=> ∀x w p,lo<=p->p<=hi->Ph p w->rm R o x w->Zf Rel P ops Q F R i o x w
theorem EJf{cs:List Nat}(hB:mn ops=EI)(hK:kJ ops cs ks=EI)(hlk: ∀(i lo hi:Nat),ks[i]?=Z (lo,hi)->lo<=cs.length) (hPh: ∀b w w',Ph b w->Rel w w'->Ph b w') (hF: ∀i o x v,i<ops.size->ops[i]?=Z o->(F x).put o.dst v=F (Oo x i v)) (hR: ∀i x w w',i<ops.size->R i x w->Rel w w'->R i x w') (hR2: ∀i x w w' c,i<ops.size->c∈cs->i≠c->fH ops ops.size i c=B->R i x w->Is w w'->R i x w') (hD: ∀i x y w,i<ops.size->(∀k,(k=i\/oA ops i k)->x k=y k)->R i x w->R i y w) (hcw: ∀c o x,c∈cs->ops[c]?=Z o->I5 o (JO ops (F x).tmps)=EI) (hstep: ∀(i:Nat) (o:EL) (lo hi:Nat),ops[i]?=Z o->ks[i]?=Z (lo,hi)->Fx Ph Rel Is P ops Q F R (decide (i∈cs)) lo hi i o) (hend: ∀x w,Ph cs.length w->(∀i,i<ops.size->R i x w)->Ic P ops Q [] (F x) w): ∀(fuel:Nat) (listed:Array Bool) (x:Nat->Y) (w:H),(XF ops listed).length<=fuel->listed.size=ops.size->dP ops listed->Ph (cnt cs listed) w-> (∀i,i<ops.size->listed.getD i EI=EI->R i x w)->wpAny P .any ops Q fuel listed (F x) w:=by
 obtain⟨hcs,hcn,hKs⟩:=Pm hK
 have done: ∀(fuel:Nat) (listed:Array Bool) (x:Nat->Y) (w:H),(∀j,j<ops.size->listed.getD j EI=EI)->Ph (cnt cs listed) w->(∀i,i<ops.size->listed.getD i EI=EI->R i x w)->wpAny P .any ops Q fuel listed (F x) w:=by
  intro fuel listed x w hall hb hr;have hcl:cnt cs listed=cs.length:=by unfold cnt;rw[List.filter_eq_self.2 fun c hc=>hall c (hcs c hc)]
  rw[hcl] at hb;refine wpAny_done ?_ (hend x w hb fun i hi=>hr i hi (hall i hi)) fuel;rw[List.eq_nil_iff_forall_not_mem];intro j hj;obtain⟨h1,o,ho,-⟩:=Zz.1 hj;have hjn:=(J6.1 ho).1;rw[hall j hjn] at h1;cases h1
 intro fuel;induction fuel with
 |zero=>
  intro listed x w hf hs hcl hb hr;refine done 0 listed x w (fun j hj=> ?_) hb hr;cases hlj:listed.getD j EI;·have:j∈XF ops listed:=mZ.2 ⟨hj,hlj⟩;rw[List.length_eq_zero_iff.1 (Nat.le_zero.1 hf)] at this;cases this
  ·rfl
 |succ fuel ih=>
  intro listed x w hf hs hcl hb hr;by_cases hall: ∀j,j<ops.size->listed.getD j EI=EI;·exact done (fuel+1) listed x w hall hb hr
  ·refine⟨fun h0=> ?_,fun i hi=> ?_⟩
   ·exfalso
    have hex: ∃j,j<ops.size/\listed.getD j EI=B:=by
     apply rg;intro hno
     exact hall fun j hj=>by
      cases hlj:listed.getD j EI;·exact absurd ⟨j,hj,hlj⟩ hno
      ·rfl
    have hmin: ∃j,(j<ops.size/\listed.getD j EI=B)/\ ∀k,k<j-> ¬(k<ops.size/\listed.getD k EI=B):=by
     obtain⟨j,hj⟩:=hex;induction j using Nat.strongRecOn with
     |ind j ol=>
      by_cases h: ∃k,k<j/\(k<ops.size/\listed.getD k EI=B);·exact EnA
      ·exact Enm
    obtain⟨j,⟨hjn,hj⟩,hlt⟩:=hmin;have ho:ops[j]?=Z ops[j]:=j7 hjn
    have:j∈j6 .any ops listed:=by
     refine Zz.2 ⟨hj,_,ho,fun e he hbe=> ?_⟩;have h1:=Pg hB ho e he hbe;have h2:=hlt e.on h1;have h3:e.on<listed.size:=U;cases hlj:listed.getD e.on EI;·exact absurd ⟨U,hlj⟩ h2
     ·simpa[h3] using hlj
    rw[h0] at this;cases this
   ·obtain⟨h1,o,ho,oo⟩:=Zz.1 hi;have hin:=(J6.1 ho).1;have hdr:rm R o x w:=by intro e he hb';have h3:=oo e he hb';have h4:=Pg hB ho e he hb';have h5:e.on<listed.size:=U;exact hr e.on U yu
    obtain⟨lo,hi',hk,hkc⟩:=hKs i hin;have st:=hstep i o lo hi' ho hk;have Pn:=hcl.set hs hi;have hset:(listed.setIfInBounds i EI).getD i EI=EI:=by exact Enz
    have next: ∀v w',Ph (cnt cs (listed.setIfInBounds i EI)) w'->(∀j,j<ops.size->j≠i->listed.getD j EI=EI->R j x w')->R i (Oo x i v) w'->wpAny P .any ops Q fuel (listed.setIfInBounds i EI) ((F x).put o.dst v) w':=by
     intro v w' hb' hrs hv;rw[hF i o x v hin ho];have hlt:=tN hs hin h1;refine ih _ _ w' U oh Pn hb' (fun j hj hl=> ?_);by_cases hji:j=i;·subst hji;exact hv
     ·rw[aI EI (fun e=>hji e.symm)] at hl;refine hD j x _ w' hj (fun q hq=> ?_) (hrs j hj hji hl);rw[oX];intro hqi;rw[hqi] at hq;rcases hq with hq|⟨oj,e,hoj,he,hbe,hek⟩;·exact hji hq.symm
      ·have h5:=hcl j oj hoj hl e he hbe;rw[hek] at h5;rw[h5] at h1;cases h1
    have early: ∀j c,cs[j]?=Z c->c≠i->j<lo->listed.getD c EI=EI:=by
     intro j c hj hne hlt;rcases((hkc j c hj).2 hne).1 with h|h;·omega
     ·have:=yM Pn _ i c h hin hset;rwa [aI EI (fun e=>hne e.symm)] at this
    have late: ∀j c,cs[j]?=Z c->c≠i->hi'<=j->listed.getD c EI=B:=by
     intro j c hj hne hle;rcases((hkc j c hj).2 hne).2 with h|h;·omega
     ·cases hlc:listed.getD c EI;·rfl
      ·have:=yM hcl _ c i h (hcs c (fC.2 ⟨j,hj⟩)) hlc;rw[this] at h1;cases h1
    by_cases hic:i∈cs
    ·obtain⟨j0,hj0⟩:=fC.1 hic;obtain⟨e1,e2⟩:=(hkc j0 i hj0).1 rfl;have hjl:=(Xx.1 hj0).1;have uniq: ∀j,cs[j]?=Z i->j=j0:=by intro j hj;have Ejp:=(Xx.1 hj).1;have h5:=(Xx.1 hj).2;have h6:=(Xx.1 hj0).2;exact(List.getElem_inj hcn).1 (h5.trans h6.symm)
     have hcnt:cnt cs listed=lo:=by
      refine Nat.le_antisymm (uI cs lo fun j c hj hc=> ?_) (Fw cs lo U fun j c hj hc=> ?_)
      ·by_cases e:c=i;·subst e;exact h1
       ·exact late j c hc e U
      ·by_cases e:c=i;·subst e;have:=uniq j hc;omega
       ·exact early j c hc e hj
     rw[IU hic] at st;rw[hcnt] at hb;have st:=st x w hb hdr;unfold wpOp;simp only[ho];unfold Zf at st;rw[if_pos (hcw i o x hic ho)] at st⊢;refine .inl (Oper.wp_mono (fun a' w' h'=> ?_) st);obtain⟨v,rfl,⟨hb',hph⟩,hv⟩:=h';exact next v w' (by rw[Pk U h1 cs hcn hic,hcnt];exact hph) (fun j hj hji hl=>hR2 j _ w w' i hj hic hji (by cases hrb:fH ops ops.size j i with|false=>rfl|true=>exact absurd (yM hcl _ j i hrb hj hl) (by rw[h1];decide)) (hr j hj hl) hb') hv
    ·rw[IJ hic] at st;have hne: ∀j c,cs[j]?=Z c->c≠i:=fun j c hj e=>hic (by rw[<-e];exact fC.2 ⟨j,hj⟩);have hlo2:lo<=cnt cs listed:=Fw cs lo (hlk i lo hi' hk) fun j c hj hc=>early j c hc (hne j c hc) hj;have EJi:cnt cs listed<=hi':=uI cs hi' fun j c hj hc=>late j c hc (hne j c hc) hj;have st:=st x w _ hlo2 EJi hb hdr;unfold wpOp;simp only[ho];unfold Zf at st;split;·rename_i hw;rw[if_pos hw] at st;refine .inl (Oper.wp_mono (fun a' w' h'=> ?_) st);obtain⟨v,rfl,hb',hv⟩:=h';exact next v w' (by rw[yP cs hic];exact hPh _ _ _ hb hb') (fun j hj _ hl=>hR j _ w w' hj (hr j hj hl) hb') hv
     ·rename_i hw;rw[if_neg hw] at st;exact next I2 w (by rw[yP cs hic];exact hb) (fun j hj _ hl=>hr j hj hl) st
def gW(Ph:Nat->H->Prop)(Rel Is:H->H->Prop)(P:Jh)(ops:Array EL)(Q:UM->E6->H->Prop)(F:(Nat->Y)->E6)(R:Nat->(Nat->Y)->H->Prop)(cs:List Nat):Nat->List EL->List (Nat×Nat)->Prop
 |i,o::l,(lo,hi)::ks=>Fx Ph Rel Is P ops Q F R (decide (i∈cs)) lo hi i o/\gW Ph Rel Is P ops Q F R cs (i+1) l ks
 |_,_,_=>True
theorem gW.at{Ph:Nat->H->Prop}{Rel Is:H->H->Prop}{F:(Nat->Y)->E6}{R:Nat->(Nat->Y)->H->Prop}{cs:List Nat}: ∀(l:List EL) (ks:List (Nat×Nat)) (i:Nat),gW Ph Rel Is P ops Q F R cs i l ks-> ∀j o lo hi,l[j]?=Z o->ks[j]?=Z (lo,hi)->Fx Ph Rel Is P ops Q F R (decide (i+j∈cs)) lo hi (i+j) o
 |[],_,_,_,_,_,_,_,h,_=>rZ
 |_::_,[],_,_,_,_,_,_,_,h=>rZ
 |p::l,(a,b)::ks,i,hs,0,o,lo,hi,h,h2=>by simp at h h2;obtain⟨rfl,rfl⟩:=h2;subst h;exact hs.1
 |p::l,(a,b)::ks,i,hs,j+1,o,lo,hi,h,h2=>by have:=gW.at l ks (i+1) hs.2 j o lo hi Up (by simpa using h2);rw[show i+(j+1)=i+1+j from U];exact this
theorem yQ{a0:E6}(cs:List Nat)(ks:List (Nat×Nat))(hm:P.follows .mixedOrders=EI)(hB:mn l.toArray=EI)(hK:kJ l.toArray cs ks=EI)(hlk:(ks.all fun p=>decide (p.1<=cs.length))=EI)(hnd:(O9 l).Nodup)(R:Nat->(Nat->Y)->H->Prop) (hcg:(cs.all fun c=>match l[c]? with|some o=>o.guard.isNone|none=>false)=EI) (hPh: ∀b w w',Ph b w->Rel w w'->Ph b w') (hR: ∀i x w w',i<l.length->R i x w->Rel w w'->R i x w') (hR2: ∀i x w w' c,i<l.length->c∈cs->i≠c->fH l.toArray l.toArray.size i c=B->R i x w->Is w w'->R i x w') (hD: ∀i x y w,i<l.length->(∀k,(k=i\/oA l.toArray i k)->x k=y k)->R i x w->R i y w) (h0:Ph 0 w0.drew) (hstep:gW Ph Rel Is P l.toArray Q (fun x=>EH l 0 x a0) R cs 0 l ks) (hend: ∀x w,Ph cs.length w->(∀i,i<l.length->R i x w)->Ic P l.toArray Q [] (EH l 0 x a0) w):(aG id l.toArray EI).wp P Q a0 w0:=by
 have tP:EH l 0 (held l a0) a0=a0:=oZ a0 _ 0 _ (fun k o ho d hd=>by unfold held;rw[OD,ho];simp only[hd]);refine wp_region_any hm ?_
 have key:=EJf (P:=P) (Q:=Q) (ops:=l.toArray) (Ph:=Ph) (Rel:=Rel) (Is:=Is) (cs:=cs) (ks:=ks) (F:=fun x=>EH l 0 x a0) (R:=R) hB hK (by
  intro i lo hi h;have:=Xk.1 hlk (lo,hi) (fC.2 ⟨i,h⟩);simpa using this) hPh
  (fun i o x v hi ho=>by have:=rX l 0 i x a0 o v hnd yp;rw[OD] at this;exact this) (fun i x w w' hi=>hR i x w w' U5) (fun i x w w' c hi hc hne hrb=>hR2 i x w w' c U5 hc hne hrb) (fun i x y w hi=>hD i x y w U5)
  (fun c o x hc ho=>by
   have h1:=Xk.1 hcg c hc;have:l[c]?=Z o:=yp;rw[this] at h1;simp only at h1;unfold I5;cases hg:o.guard with
   |none=>rfl
   |some g=>rw[hg] at h1;cases h1)
  (fun i o lo hi ho hk=>by have:=gW.at l ks 0 hstep i o lo hi yp hk;rwa [OD] at this)
  (fun x w hp hr=>hend x w hp fun i hi=>hr i U5)
  l.toArray.size (bh l.toArray.size B) (held l a0) w0.drew ?_ Eh ?_ ?_ ?_
 ·simp only[tP] at key;exact key
 ·exact Enu
 ·intro j o ho h;by_cases hj:j<l.toArray.size
  ·have:j<l.length:=by simpa using hj
   simp[this] at h
  ·exact absurd (J6.1 ho).1 hj
 ·have hz:cnt cs (bh l.toArray.size B)=0:=by
   refine Nat.le_zero.1 (uI cs 0 fun j c _ hj=> ?_);have:=(Pm hK).1 c (fC.2 ⟨j,hj⟩);have h2:c<l.length:=by exact EnV
   simp[h2]
  rw[hz];exact h0
 ·intro i hi h;have:i<l.length:=U5;simp[this] at h
theorem EJj{a0:E6}(cs:List Nat)(ks:List (Nat×Nat))(hm:P.follows .mixedOrders=EI)(hB:mn l.toArray=EI)(hK:kJ l.toArray cs ks=EI)(hlk:(ks.all fun p=>decide (p.1<=cs.length))=EI)(hnd:(O9 l).Nodup)(R:Nat->(Nat->Y)->H->Prop) (hcg:(cs.all fun c=>match l[c]? with|some o=>o.guard.isNone|none=>false)=EI) (hPh: ∀b w w',Ph b w->Rel w w'->Ph b w') (hR: ∀i x w w',i<l.length->R i x w->Rel w w'->R i x w') (hR2: ∀i x w w',i<l.length->R i x w->Is w w'->R i x w') (hD: ∀i x y w,i<l.length->(∀k,(k=i\/oA l.toArray i k)->x k=y k)->R i x w->R i y w) (h0:Ph 0 w0.drew) (hstep:gW Ph Rel Is P l.toArray Q (fun x=>EH l 0 x a0) R cs 0 l ks) (hend: ∀x w,Ph cs.length w->(∀i,i<l.length->R i x w)->Ic P l.toArray Q [] (EH l 0 x a0) w):(aG id l.toArray EI).wp P Q a0 w0:=
 yQ cs ks hm hB hK hlk hnd R hcg hPh hR (fun i x w w' _ hi _ _ _=>hR2 i x w w' hi) hD h0 hstep hend
theorem Po{Rel Is:H->H->Prop}{W:H}{F:(Nat->Y)->E6}{R:Nat->(Nat->Y)->H->Prop}{ops:Array EL}: ∀(l:List EL) (i:Nat),yL Rel P ops Q W F R i l->gW (fun _ w=>Rel W w) Rel Is P ops Q F R [] i l (dT l.length (0,0))
 |[],_,_=>trivial
 |_::l,i,h=>⟨fun x w _ _ _ hp hd=>h.1 x w hp hd,Po l (i+1) h.2⟩
theorem EJk(hT:Kept Rel){a0:E6}(hm:P.follows .mixedOrders=EI)(m:Nat)(hB:mn l.toArray=EI)(hmn:m=l.length)(hnd:(O9 (l.take m)).Nodup)(R:Nat->(Nat->Y)->H->Prop) (hR: ∀i x w w',i<m->R i x w->Rel w w'->R i x w') (hD: ∀i x y w,i<m->(∀k,(k=i\/oA l.toArray i k)->x k=y k)->R i x w->R i y w) (hstep:yL Rel P l.toArray Q w0 (fun x=>EH (l.take m) 0 x a0) R 0 (l.take m)) (hend: ∀x w,Rel w0 w->(∀i,i<m->R i x w)->Ic P l.toArray Q (l.drop m) (EH (l.take m) 0 x a0) w):(aG id l.toArray EI).wp P Q a0 w0:=by
 subst hmn;simp only[List.take_length,List.drop_length] at*;refine yQ (Ph:=fun _ w=>Rel w0 w) (Rel:=Rel) (Is:=fun _ _=>True) [] (dT l.length (0,0)) hm hB ?_ ?_ hnd R O (fun _ w w' h hr=>hT.2.1 _ _ _ h hr) hR (fun _ _ _ _ c _ hc=>by cases hc) hD (hT.2.2 w0) (Po _ _ hstep) (fun x w h hr=>hend x w h hr);·unfold kJ;simp;intro x hx;rw[List.getElem?_replicate,if_pos hx]
 ·simp
end
end Go.Proofs.YtclmichaaiohjaaGreatDoor
