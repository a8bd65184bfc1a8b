import Derived.Test.YtclmichaaiohjaaGreatDoorR00
import Derived.Laws.CopyRow
import Derived.Laws.IdiomCopy
import Derived.Laws.MakeOwn
set_option maxRecDepth 100000
set_option linter.unusedVariables false
set_option linter.unusedSimpArgs false
set_option maxHeartbeats 6400000
namespace Go.Proofs.YtclmichaaiohjaaGreatDoor
open RowKit
open _root_.Array renaming getElem?_eq_none->g_,getElem?_eq_some_iff->Jt,getElem?_eq_getElem->dY,replicate->Zn
open BitVec renaming ofInt->gY
open Bool renaming true->u,false->B,and_eq_true->Oc,or_eq_true->kI
open Classical renaming byContradiction->jZ
open Go renaming bits->Ix,World->M,Calls->Ef,TypeId->EC,Value->V,Addr->Eu,Program->Js,heap_alloc_new->fL,bodyPost_ret->ET,results->Xa,Exit->UW,Act->E6,Oper->EN,yielded->Jd,execOp->Iw,wpList->IZ,undef->I6,mem_ready->Uo,getD_set_ne->XL,Operand->UH,info_parts->bQ,madeCells->aS,below_setRow->E3
open Act renaming put->In
open Builtin renaming append_->bP
open Code renaming region->ZP
open DataW renaming trod->ZN
open Ending renaming returned->Eg
open Instr renaming loadAt->fN,sureAddr->dU
open IntKind renaming wrap->oD,bits->j7,signed->j8,i64->I,u8->IP,u64->Il,u32->Ou
open Lib renaming hid->O
open Obj renaming cells->EJ
open Oper renaming wp->ah
open Go.Proofs.Tryz renaming prog->EU,underlying23->bR
open Region renaming wanted->I_,binds->Oq,ready->d_
open Result renaming andThen_ok->Uf
open RowKit renaming Below->Io,Hid->Ea
open RowKit.Below renaming refl->IE,heap_setCell->XM
open Sem renaming run_bind->Ud,run_pure->UU
open Value renaming bool->Ec,int->E,agg->EZ,slice->EI,tuple->Et,pointer->Y,oneCell'->OC
open World renaming block_lt_of_cell?->XA,setCell->dW
open Int renaming toNat_natCast->mo
open List renaming getElem?_eq_none->aM,mem_of_mem_take->fK,eq_nil_of_length_eq_zero->aN,getElem?_eq_getElem->Ok,range->UA,all_eq_true->UY,mem_range->Z6,drop_of_length_le->mq,eq_nil_iff_forall_not_mem->mr,drop_eq_getElem_cons->kJ,length_filter_le->mA,mem_filterMap->mB,mem_cons_of_mem->ai,mem_cons_self->hO,nodup_cons->mC,getElem?_eq_some_iff->UG,mem_iff_getElem?->aP,take_append_drop->hU,take_succ_cons->Ir,length_take->aj,replicate->hX,take_of_length_le->UZ,getD_eq_getElem?_getD->UK,getElem?_append_left->bM,getElem?_take_of_lt->bN,getElem?_append_right->ak,map_cons->UL,map_nil->Xu,take_zero->Im,mem_map->da,getElem?_toArray->Og,setIfInBounds_toArray->Ip,length_append->I2,flatMap_cons->kj,length_cons->ZV
open Nat renaming lt_or_ge->JG,le_trans->EA,le_refl->E7,strongRecOn->mx,zero_add->JV
open Option renaming some->D,none->Z,map_some->j_
open Option.some renaming inj->fI
variable{k Y4 g id i j b0:Nat}{w w' W w'' w0:M}{xs:List Int}{x:Nat->V}{P:Js}{t TB S:EC}{cs args tmps big:Array V}{p:Tmp}{f:FuncId}{Q:UW->E6->M->Prop}{l:List EN}{old:List V}{fn:Func}{listed:Array Bool}{F:(Nat->V)->E6}{R:Nat->V->M->Prop}{Rel:M->M->Prop}{ops:Array EN}{Gs:List (List V)}{S2:V->M->Prop}
theorem jJ(k:Nat)(hk:k<=62)(a:Int)(m:Int)(hm:m=((2^k-1:Nat):Int)):Ix .and .i64 a m=a%(2^k:Nat):=by
 subst hm;have hp:2^k<=2^62:=Nat.pow_le_pow_right X hk;have hp0:0<2^k:=Nat.two_pow_pos k;show IntKind.i64.wrap ((gY 64 a&&&gY 64 ((2^k-1:Nat):Int)).toNat:Int)=_;rw[BitVec.toNat_and,BitVec.toNat_ofInt,BitVec.ofInt_natCast,BitVec.toNat_ofNat,Nat.mod_eq_of_lt X,Nat.and_two_pow_sub_one_eq_mod];have e:(((a%((2^64:Nat):Int)).toNat%2^k:Nat):Int)=a%((2^k:Nat):Int):=by rw[Int.natCast_emod,Int.toNat_of_nonneg (Int.emod_nonneg _ X)];apply Int.emod_emod_of_dvd;exact_mod_cast Nat.pow_dvd_pow 2 X
 rw[e];have h1:=Int.emod_nonneg a (b:=((2^k:Nat):Int)) X;have h2:=Int.emod_lt_of_pos a (b:=((2^k:Nat):Int)) X;exact IntWalk.i64_in _ X
theorem EIH(a:Int):Ix .and .i64 a 1=a%2:=jJ 1 X a 1 rfl
theorem EIK(a:Int):Ix .and .i64 a 3=a%4:=jJ 2 X a 3 rfl
theorem EIL(a:Int):Ix .and .i64 a 7=a%8:=jJ 3 X a 7 rfl
theorem EIM(a:Int):Ix .and .i64 a 15=a%16:=jJ 4 X a 15 rfl
theorem EIN(a:Int):Ix .and .i64 a 31=a%32:=jJ 5 X a 31 rfl
theorem EIP(a:Int):Ix .and .i64 a 255=a%256:=jJ 8 X a 255 rfl
theorem EIQ(a:Int):Ix .and .i64 a 1023=a%1024:=jJ 10 X a 1023 rfl
theorem EIR(a:Int):Ix .and .i64 a 65535=a%65536:=jJ 16 X a 65535 rfl
theorem EIS(a:Int):Ix .and .i64 a 1048575=a%1048576:=jJ 20 X a 1048575 rfl
theorem EIT(a:Int):Ix .and .i64 a 4294967295=a%4294967296:=jJ 32 X a 4294967295 rfl
attribute [go_sem] EIH EIK EIL EIM EIN EIP EIQ EIR EIS EIT
theorem jO{k:IntKind}{a b:Int}(h:a=b):Eg (.int k a)=Eg (.int k b):=by rw[h]
theorem yC{a b:Bool}(h:a=b):Eg (Ec a)=Eg (Ec b):=by rw[h]
def sat(n most:Int):Int:=if n<most then n+1 else most
def OU(n low high:Int):Int:=if n<low then low else if high<n then high else n
def Jz(now aL Em:Int):Int:=
 if Em<1 then now
 else if now<=aL then(if aL-now<=Em then aL else now+Em)
 else if now-aL<=Em then aL else now-Em
def has(oC i:Int):Bool:=decide (0<=oC/\0<=i/\i<=62)&&(oC/2^i.toNat%2==1)
theorem EIV(n:Int):IntKind.u64.wrap n=n%18446744073709551616:=by simp[oD,j7,j8]
theorem NT(a b:Int)(h1: -9223372036854775808<=b)(h2:a<=9223372036854775807)(h:b<=a): IntKind.u64.wrap (IntKind.u64.wrap a-IntKind.u64.wrap b)=a-b:=by simp only[EIV];omega
theorem uJ(n most:Int)(w:M)(h1: -9223372036854775808<=n)(h3:most<=9223372036854775807): Ef EU 90 #[E I n,E I most] w fun e w'=>e=Eg (E I (sat n most))/\w=w':=by
 go_enter Tryz.func90,Tryz.ntmps90;go_wp2
 all_goals
  go_ret
  refine⟨jO ?_,U⟩
  unfold sat
  split<;>omega
theorem Zl(n low high:Int)(w:M): Ef EU 184 #[E I n,E I low,E I high] w fun e w'=>e=Eg (E I (OU n low high))/\w=w':=by
 go_enter Tryz.func184,Tryz.ntmps184;go_wp2
 all_goals
  go_ret
  refine⟨jO ?_,U⟩
  unfold OU
  repeat' split
  all_goals omega
theorem yD(now aL Em:Int)(w:M)(h1: -9223372036854775808<=now)(h2:now<=9223372036854775807)(h3: -9223372036854775808<=aL)(h4:aL<=9223372036854775807) (h5: -9223372036854775808<=Em) (h6:Em<=9223372036854775807): Ef EU 152 #[E I now,E I aL,E I Em] w fun e w'=>e=Eg (E I (Jz now aL Em))/\w=w':=by
 by_cases hc:now<=aL
 ·have e1:=NT aL now h1 h4 hc;go_enter Tryz.func152,Tryz.ntmps152;go_wp2
  all_goals
   go_ret
   refine⟨jO ?_,U⟩
   unfold Jz
   repeat' split
   all_goals omega
 ·have e1:=NT now aL h3 h2 X;go_enter Tryz.func152,Tryz.ntmps152;go_wp2
  all_goals
   go_ret
   refine⟨jO ?_,U⟩
   unfold Jz
   repeat' split
   all_goals omega
theorem Fg(oC i:Int)(w:M)(h1: -9223372036854775808<=oC)(h2:oC<=9223372036854775807): Ef EU 163 #[E I oC,E I i] w fun e w'=>e=Eg (Ec (has oC i))/\w=w':=by
 go_enter Tryz.func163,Tryz.ntmps163;go_wp2
 all_goals
  go_ret
  refine⟨yC ?_,U⟩
  unfold has
 ·rw[IJ X];rfl
 ·rw[Ib X];rfl
 ·rw[IJ X];rfl
 ·rw[IJ X];rfl
section
open Go.ChangeShapes Go.WideShapes
section
variable{P:Program}{w:World}{r:Reach}{base:Nat}{t:TypeId}{v:Value}
theorem EIW{k:IntKind}(ht:P.underlying t=D (.int k))(h:Cell.okWide P w r base t v): ∃n,v= .int k n/\k.min<=n/\n<=k.max:=by simp only[Cell.okWide,ht,Cell.ok,IntKind.has] at h;cases v<;>simp_all
theorem EIY(ht:P.underlying t=D (.int .i64))(h:Cell.okWide P w r base t v): ∃n:Int,v=E I n/\ -9223372036854775808<=n/\n<=9223372036854775807:=by obtain⟨n,rfl,h1,h2⟩:=EIW ht h;exact⟨n,U,by simpa[IntKind.min,j8,j7] using h1,by simp[IntKind.max,j8,j7] at h2;omega⟩
theorem flat{ts:List EC}(ha:(∃fs,P.underlying t=D (.struct fs))\/ ∃n e,P.underlying t=D (.array n e))(hts:P.cellTypes P.depth t=D ts)(hn:P.cellsOf t=ts.length) (h:Value.okWide P w r base t v): ∃cs:Array V,v=EZ cs/\cs.size=ts.length/\ ∀(i:Nat) Y3 c,ts[i]?=D Y3->cs[i]?=D c->Cell.okWide P w r base Y3 c:=by
 have h': ∃cs,v=EZ cs/\cs.size=P.cellsOf t/\Row.okWide P w r base t cs:=by rcases ha with⟨fs,ha⟩|⟨n,e,ha⟩<;>simpa only[Value.okWide,ha] using h
 obtain⟨cs,rfl,hs,ts',NV,_,hc⟩:=h';rw[hts] at NV;obtain rfl:ts=ts':=by simpa using NV
 refine⟨cs,U,X,fun i Y3 c hu hcs=> ?_⟩;obtain⟨u',hu',hok⟩:=hc i c hcs
 have hi:i<ts.length:=by
  rcases JG i ts.length with h|h;·exact h
  ·rw[aM h] at hu;cases hu
 rw[Nat.mod_eq_of_lt hi,hu] at hu';obtain rfl:Y3=u':=by simpa using hu'
 exact hok
def NW(k:IntKind)(w:M)(v:V):Prop:=
 v= .slice Z 0 0\/
 ∃(x:Eu) (len cap:Nat) (zs:List Int),v=EI (D x) len cap/\(0<cap->x.block<w.heap.size/\x.spot=Z)/\len<=cap/\cap<=9223372036854775807/\zs.length=cap/\(∀i,i<zs.length->w.cell? (x.add i)=D (.int k (zs.getD i 0)))/\ ∀n∈zs,(Lit.int k n).wf=u
end
end
section
open Go.ChangeShapes Go.WideShapes
def Row(w:M)(a:Option Eu)(xs:List Int):Prop:=
 (xs=[]\/ ∃b off,a=D ⟨b,off,Z⟩/\ ∀i (h:i<xs.length),w.cell? ⟨b,off+i,Z⟩=D (E IP xs[i]))/\ ∀x∈xs,0<=x/\x<=255
theorem Iy{a:Option Eu}(h:Row w a xs)(hb:El w w'):Row w' a xs:=by
 obtain⟨h|⟨b,off,rfl,hc⟩,h2⟩:=h;·exact⟨.inl h,h2⟩
 ·exact⟨.inr ⟨b,off,U,fun i hi=>by rw[hb.cell (XA _ _ (hc i hi))];exact hc i hi⟩,h2⟩
theorem yF{a:Option Eu}(h:Row W a xs)(q:Nat):Row (W.drewN q) a xs:=h
theorem oF(W:M)(a:Option Eu):Row W a []:=⟨.inl U,fun x hx=>uO⟩
theorem oG{a:Option Eu}(h:Row W a xs)(n:Nat):Row W a (xs.take n):=by
 obtain⟨h|⟨b,off,rfl,hc⟩,h2⟩:=h;·subst h;simpa using oF W a
 ·refine⟨.inr ⟨b,off,U,fun i hi=> ?_⟩,fun x hx=>h2 x (fK hx)⟩;rw[hc i rB];simp
def yG(w:M)(v:V):Prop:=
 ∃(A:Option Eu) (xs:List Int) (cap:Nat),v=EI A xs.length cap/\xs.length<=cap/\cap<=9223372036854775807/\Row w A xs/\(A=Z->cap=0)
theorem NY{x:Int}(h:(Lit.int .u8 x).wf=u):0<=x/\x<=255:=by exact Epu
theorem N0{Y9:Type}{enc:EC×V->Y9}{e:EC}{v:V}{fuel:Nat}{x:DataW Y9×List MemPlace}(ht:P.underlying t=D (.slice e))(he:P.underlying e=D (.int .u8))(hc:P.cellsOf e=1) (hd:ZN enc P w 0 (fun _=>u) u fuel t [v]=D x):yG w v:=by
 rcases open_ints ht he hc hd with⟨hcs,_⟩|⟨ad,l,c,zs,hcs,_,hl,hm,hz,hx,hcell,hwz⟩;·simp at hcs;subst hcs;exact⟨Z,[],0,U,Eh,Eh,oF _ _,fun _=>rfl⟩
 ·simp at hcs;subst hcs;have hzc:zs.length=c:=by simpa using hz
  have hlen:(zs.take l).length=l:=mg;refine⟨D ad,zs.take l,c,by rw[hlen],X,by unfold maxLen at hm;omega,⟨?_,fun y hy=>NY (hwz y (fK hy))⟩,fun h=>XZ⟩;rcases Nat.eq_zero_or_pos c with h0|h0;·left;exact aN X
  ·right;have h1:=hcell 0 X;have e0:ad.add 0=ad:=by simp[Addr.add]
   rw[e0] at h1;obtain⟨b,off,spot⟩:=ad;have hs:=World.cell?_spot h1;simp at hs;subst hs;refine⟨b,off,U,fun i hi=> ?_⟩;have hi':i<l:=X;have:=hcell i X;have e:(⟨b,off,Z⟩:Eu).add i=⟨b,off+i,Z⟩:=XB;rw[e] at this;exact EoS
theorem yH(h:Io Y4 w w')(k:El w' w'')(hB:Y4<=w.heap.size):Io Y4 w w'':=
 h.trans (k.mono (EA hB h.size))
theorem bt(h:El w w')(k:El w' w''):El w w'':=h.trans (k.mono h.size)
theorem EW(h:Ea (Io w.heap.size w w'))(k:Io w'.heap.size w' w''):Ea (Io w.heap.size w w''):=O (bt h.out k)
theorem j9{a:M}(h:Io Y4 a w)(n:Nat):Io Y4 a (w.drewN n):=⟨h.os,h.tape,h.output,h.size,h.block⟩
theorem Jk(w:M):El w w.drew:=⟨U,U,U,E7 _,fun _ _=>rfl⟩
theorem Ep(w:M)(o:Obj):El w (w.alloc o):=(IE _ _).alloc (E7 _) o
theorem J9(w:M)(o o':Obj):El w ((w.alloc o).alloc o'):=(Ep w o).alloc Eh o'
theorem af(w:M)(o o' o'':Obj):El w (((w.alloc o).alloc o').alloc o''):=(J9 w o o').alloc Jn o''
theorem Ja(h:w.heap[g]?=D (EJ cs t (0,0))):(∀i,w.cell? ⟨g,i,Z⟩=cs[i]?)/\(∀i,w.frozen? ⟨g,i,Z⟩=B):=
 ⟨fun i=>cell_of_row w g i cs t (0,0) h,fun i=>frozen_of_row w g i cs t h⟩
theorem mh{o:Obj}(h:w.heap[g]?=D o):g<w.heap.size:=by
 rcases JG g w.heap.size with h1|h1;·exact h1
 ·rw[g_ h1] at h;cases h
theorem Xr{o:Obj}(h:w.heap[g]?=D o)(hb:El w w'):w'.heap[g]?=D o:=(hb.block g (mh h)).trans h
theorem N4{o o':Obj}(hb:Io ((w.alloc o).alloc o').heap.size ((w.alloc o).alloc o') w'):w'.heap[w.heap.size]?=D o/\w'.heap[w.heap.size+1]?=D o'/\w.heap.size+1<w'.heap.size:=by refine⟨Xr (heap_alloc2_old _ _ _) hb,Xr (heap_alloc2_new _ _ _) hb,?_⟩;have:=hb.size;simp at this;omega
theorem Fh(hg:W.heap[g]?=D (EJ cs t (0,0)))(hc:cs=(xs.map (E .u8)).toArray)(hb: ∀x∈xs,0<=x/\x<=255): Row W (D ⟨g,0,Z⟩) xs:=by subst hc;refine⟨.inr ⟨g,0,U,fun i h=> ?_⟩,hb⟩;rw[cell_of_row W g (0+i) _ t (0,0) hg];simp[h]
theorem EI0(i:Nat):(w.alloc (EJ cs t)).cell? ⟨w.heap.size,i,Z⟩=cs[i]?:=cell_of_row _ _ i cs t (0,0) (fL w _)
theorem N5(hb:Io (w.alloc (EJ cs t)).heap.size (w.alloc (EJ cs t)) w')(i:Nat):w'.cell? ⟨w.heap.size,i,Z⟩=cs[i]?:=
 (hb.cell (p:=⟨w.heap.size,i,Z⟩) Eh).trans (EI0 i)
theorem N6{o:Obj}(hb:Io (w.alloc o).heap.size (w.alloc o) w'):El w w':=
 yH ((IE _ _).alloc (E7 _) o) hb (E7 _)
theorem mj{p:Nat×Nat}(h:w.heap[g]?=D (EJ cs t p))(i:Nat)(v:V):(w.setCell ⟨g,i,Z⟩ v).heap[g]?=D (EJ (cs.setIfInBounds i v) t p):=by simp only[dW,Array.getElem?_modify,if_true,h,j_];rfl
theorem N7(h:Io Y4 w.drew w'):Io Y4 w w':=⟨h.os,h.tape,h.output,h.size,h.block⟩
theorem mn:(Tryz.prog.info? 5).map (fun i=>(i.zero,i.size,i.bytes))=D (D (E IP 0),1,1):=Ed
end
def oH:Option (Nat×Nat)->V
 |none=>EZ #[Ec B,E I 0,E Il 0]
 |some (h,s)=>EZ #[Ec u,E I h,E Il s]
def Zm:Option (Nat×Nat)->Nat->Option (Nat×Nat)×Bool
 |none,n=>(D (n,1),u)
 |some (h,s),n=>
  if h<n then(D (n,(s*2^(n-h))%2^64|||1),u)
  else if h-n<64 then(D (h,s|||2^(h-n)),!s.testBit (h-n))
  else(D (h,s),B)
def rC:Option (Nat×Nat)->Prop
 |none=>True
 |some (h,s)=>h<=4294967295/\s<2^64
theorem EI1(s d:Nat)(c:Int)(hs:s<2^64)(hc:c=d)(W:M):(Op.shift BinOp.shl Il (s:Int) Il c).run EU W= .ok (E Il ((s*2^d%2^64:Nat):Int)) W:=by
 subst hc
 have e:IntKind.u64.wrap ((s:Int)*2^(min d 64))=((s*2^d%2^64:Nat):Int):=by
  have c1:(s:Int)*2^(min d 64)=((s*2^(min d 64):Nat):Int):=Eh;rw[c1];have c2:IntKind.u64.wrap ((s*2^(min d 64):Nat):Int)=((s*2^(min d 64)%2^64:Nat):Int):=by simp[oD,j7,j8]
  rw[c2];congr 1;rcases JG d 64 with h|h;·rw[Nat.min_eq_left X]
  ·rw[Nat.min_eq_right h,Nat.mul_mod_left,show d=(d-64)+64 from X,Nat.pow_add,<-Nat.mul_assoc,Nat.mul_mod_left]
 unfold Op.shift;rw[if_neg X,mo];show(pure (E .u64 (IntKind.u64.wrap ((s:Int)*2^(min d 64)))):Sem V).run EU W=_;rw[e];rfl
theorem EI2(n:Nat)(w:M)(h6:n<=4294967295): Ef EU 173 #[EZ #[Ec B,E I 0,E Il 0],E I n] w fun e w'=>e=Eg (EZ #[Ec u,E I n,E Il 1])/\El w w':=by go_enter Tryz.func173,Tryz.ntmps173;go_wp2;exact ET (v:=EZ #[Ec u,E I n,E Il 1]) yK U ⟨U,J9 _ _ _⟩
theorem EI3(h s n:Nat)(w:M)(h2:h<=4294967295)(h4:s<2^64)(h5:h<n)(h6:n<=4294967295): Ef EU 173 #[EZ #[Ec u,E I h,E Il s],E I n] w fun e w'=>e=Eg (EZ #[Ec u,E I n,E Il (s*2^(n-h)%2^64|||1:Nat)])/\El w w':=by have hsh:=EI1 s (n-h) ((n:Int)-(h:Int)) h4 X;have hor:Ix .or .u64 ((s*2^(n-h)%2^64:Nat):Int) 1=((s*2^(n-h)%2^64|||1:Nat):Int):=u64_or_nat _ 1 (Nat.mod_lt _ X) X;obtain⟨x,hx⟩:=Jo (s*2^(n-h)%2^64);rw[hx] at hsh hor;rw[hx];clear hx;go_enter Tryz.func173,Tryz.ntmps173;go_wp2;exact ET (v:=EZ #[Ec u,E I n,E Il (x|||1:Nat)]) yK U ⟨U,J9 _ _ _⟩
theorem EI4(h s n:Nat)(w:M)(h2:h<=4294967295)(h4:s<2^64)(h5:n<=h)(h7:h-n<64): Ef EU 173 #[EZ #[Ec u,E I h,E Il s],E I n] w fun e w'=>e=Eg (EZ #[Ec u,E I h,E Il (s|||2^(h-n):Nat)])/\El w w':=by
 have hp:2^(h-n)<2^64:=Nat.pow_lt_pow_right X h7;have hor:Ix .or .u64 (s:Int) (IntKind.u64.wrap (2^(h-n)))=((s|||2^(h-n):Nat):Int):=by have c1:((2:Int)^(h-n))=((2^(h-n):Nat):Int):=Eh;rw[c1,IntWalk.u64_in _ ⟨Int.natCast_nonneg _,X⟩];exact u64_or_nat _ _ X X
 have h8:(h:Int)-(n:Int)<64:=X;have h9:(n:Int)<=h:=X;obtain⟨x,hx⟩:=Jo (s|||2^(h-n));rw[hx] at hor;rw[hx];clear hx hp;go_enter Tryz.func173,Tryz.ntmps173;go_wp2;go_region;go_wp2;exact ET (v:=EZ #[Ec u,E I h,E Il x]) yK U ⟨U,(J9 _ _ _).drew⟩
theorem EI5(h s n:Nat)(w:M)(h2:h<=4294967295)(h4:s<2^64)(h5:n<=h)(h7:64<=h-n): Ef EU 173 #[EZ #[Ec u,E I h,E Il s],E I n] w fun e w'=>e=Eg (EZ #[Ec u,E I h,E Il s])/\El w w':=by have h8:64<=(h:Int)-(n:Int):=X;have h9:(n:Int)<=h:=X;go_enter Tryz.func173,Tryz.ntmps173;go_wp2;exact ET (v:=EZ #[Ec u,E I h,E Il s]) yK U ⟨U,J9 _ _ _⟩
theorem EI6(a1 a2:Bool)(h1 h2 s1 s2:Int)(W:M): (binOp .neq 158 (EZ #[Ec a2,E I h2,E Il s2]) (EZ #[Ec a1,E I h1,E Il s1])).run EU W= .ok (Ec (decide (¬(a2=a1/\h2=h1/\s2=s1)))) W:=by by_cases e1:a2=a1<;>by_cases e2:h2=h1<;>by_cases e3:s2=s1<;>simp[go_sem,e1,e2,e3]
theorem yL(a1 a2:Bool)(h1 h2 s1 s2:Int)(n:Int)(w:M) (hc: ∀w,Ef EU 173 #[EZ #[Ec a1,E I h1,E Il s1],E I n] w fun e w'=>e=Eg (EZ #[Ec a2,E I h2,E Il s2])/\El w w'): Ef EU 126 #[EZ #[Ec a1,E I h1,E Il s1],E I n] w fun e w'=>e=Eg (Et #[EZ #[Ec a2,E I h2,E Il s2],Ec (decide (¬(a2=a1/\h2=h1/\s2=s1)))])/\El w w':=by have HC:=O hc;have hn:=EI6 a1 a2 h1 h2 s1 s2;obtain⟨b,hb⟩:=Jo (decide (¬(a2=a1/\h2=h1/\s2=s1)));rw[hb] at hn;rw[hb];clear hc hb;go_enter Tryz.func126,Tryz.ntmps126;go_wp2_with fail;refine(HC.out _).mono ?_;rintro e w1 ⟨rfl,b1⟩;obtain⟨q0,q1,hz⟩:=N4 b1;obtain⟨c0,f0⟩:=Ja q0;obtain⟨c1,f1⟩:=Ja q1;have Y4:=O<|(J9 w _ _).trans (b1.mono Jn);have hz0:w.heap.size<w1.heap.size:=X;clear q0 q1 b1 f0;go_wp2;go_region;go_wp2;refine ET (v:=Et #[EZ #[Ec a2,E I h2,E Il s2],Ec b]) ?_ U ⟨U,((((Y4.out.setCell Eh _).setCell Eh _).setCell Eh _).alloc (by simp[dW];omega) _).drew⟩;simp[Xa,Tryz.results126,go_sem,c1,hz]
theorem EI7(s d:Nat):(s|||2^d=s)↔s.testBit d=u:=by
 constructor;·intro h;rw[<-h,Nat.testBit_or,Nat.testBit_two_pow];simp
 ·intro h;apply Nat.eq_of_testBit_eq;intro i;rw[Nat.testBit_or,Nat.testBit_two_pow];by_cases e:d=i;·subst e;simp[h]
  ·simp[e]
theorem EI8(v:Option (Nat×Nat))(n:Nat)(w:M)(hv:rC v)(hn:n<=4294967295): Ef EU 126 #[oH v,E I n] w fun e w'=>e=Eg (Et #[oH (Zm v n).1,Ec (Zm v n).2])/\El w w':=by
 rcases v with _|⟨h,s⟩;·refine(yL B u 0 n 0 1 n w (fun w=>EI2 n w hn)).mono ?_;rintro e w' ⟨rfl,hb⟩;exact⟨by simp[oH,Zm],hb⟩
 ·obtain⟨h1,h2⟩:=hv;by_cases c1:h<n;·refine(yL u u h n s _ n w (fun w=>EI3 h s n w h1 h2 c1 hn)).mono ?_;rintro e w' ⟨rfl,hb⟩;refine⟨?_,hb⟩;have e1: ¬((n:Int)=(h:Int)):=X;simp only[Zm,if_pos c1,oH,e1,false_and,and_false,not_false_eq_true,decide_true]
  ·by_cases c2:h-n<64
   ·refine(yL u u h h s _ n w (fun w=>EI4 h s n w h1 h2 X c2)).mono ?_;rintro e w' ⟨rfl,hb⟩;refine⟨?_,hb⟩;have e1:decide (¬(u=u/\(h:Int)=h/\((s|||2^(h-n):Nat):Int)=s))= !s.testBit (h-n):=by have:=EI7 s (h-n);rw[Bool.eq_iff_iff];simp only[true_and,decide_eq_true_eq,Bool.not_eq_true',Int.natCast_inj];rw[this];simp
    rw[e1];simp only[Zm,if_neg c1,if_pos c2,oH]
   ·refine(yL u u h h s s n w (fun w=>EI5 h s n w h1 h2 X X)).mono ?_;rintro e w' ⟨rfl,hb⟩;refine⟨?_,hb⟩;simp only[Zm,if_neg c1,if_neg c2,oH];simp
def Ext(W:M):Type:={w':M//El W w'}
def Ey(W:M)(x:Ext W):M:=x.1
instance(W:M):Nonempty (Ext W):=⟨⟨W,IE _ _⟩⟩
theorem ED(x:Ext W):El W (Ey W x):=x.2
theorem ag{x:Ext W}{v:V}(h:Ef P f args (Ey W x) fun e w'=>e=Eg v/\Io (Ey W x).heap.size (Ey W x) w'): Ef P f args (Ey W x) fun e w''=>e=Eg v/\ ∃y,w''=Ey W y:=h.mono fun _ _ ⟨he,hb⟩=>⟨he,⟨⟨_,bt x.2 hb⟩,U⟩⟩
theorem X5{x:Ext W}{v:V}(h:Ef P f args (Ey W x) fun e w'=>e=Eg v/\Ey W x=w'): Ef P f args (Ey W x) fun e w''=>e=Eg v/\ ∃y,w''=Ey W y:=h.mono fun _ _ ⟨he,hb⟩=>⟨he,⟨x,hb.symm⟩⟩
theorem Xs{a:E6}(hm:P.follows .mixedOrders=u)(hB:Region.lexB .any l.toArray=u) (h:wpQuiet P l.toArray (fun w'=> ∃x,w'=Ey w x) (fun a'=> ∀w',(∃x,w'=Ey w x)->Q .normal a' w') l a):(ZP id l.toArray u).wp P Q a w:=
 wp_region_quiet (C:=fun w'=> ∃x,w'=Ey w x) hm hB ⟨⟨w.drew,Jk w⟩,U⟩ Un
section
variable{P:Program}{ops:Array Oper}{rest:List Oper}{o:Oper}{a:Act}{w:World}{Q:Exit->Act->World->Prop}
theorem Ol(hw:I_ o (Jd ops a.tmps)=u) {v:V} {w':M} (hr:(Iw a.eval o).run P w= .ok (.value v) w') (h:IZ P ops Q rest (a.put o.dst v) w'):IZ P ops Q (o::rest) a w:=by exact Enj
theorem EI9(hw:I_ o (Jd ops a.tmps)=u) {w':M} (hr:(Iw a.eval o).run P w= .ok .skip w') (h:IZ P ops Q rest (a.put o.dst I6) w'):IZ P ops Q (o::rest) a w:=by exact Enj
theorem Ei{o:EN}{ops:Array EN}(h:o.guard=Z):I_ o (Jd ops tmps)=u:=by unfold I_;rw[h]
def IW(P:Js)(T:EC)(n:Nat):Prop:=(∃d,P.underlying T=D d/\(match d with| .struct _| .array _ _=>true|_=>false)=u)/\(P.info? T).map (·.size)=D n
def jU(o:EN)(a:E6)(T:EC)(g:Nat):Prop:=match o.op with| .load t x=>t=T/\a.eval x=Y (D ⟨g,0,Z⟩)|_=>False
def rD(o:EN)(a:E6)(T:EC)(g:Nat)(cs:Array V):Prop:=match o.op with| .store t x y=>t=T/\a.eval x=Y (D ⟨g,0,Z⟩)/\a.eval y=EZ cs|_=>False
theorem EI_{T:EC}{n:Nat}(hT:IW P T n)(hw:I_ o (Jd ops a.tmps)=u)(hl:jU o a T g)(hg:Ea (w.heap[g]?=D (EJ cs T (0,0))))(hn:cs.size=n) (h:IZ P ops Q rest (a.put o.dst (EZ cs)) w):IZ P ops Q (o::rest) a w:=by
 obtain⟨⟨d,hu,hd⟩,hi⟩:=hT;unfold jU at hl;split at hl
 ·rename_i t x ho;obtain⟨rfl,hx⟩:=hl;refine Ol hw ?_ h;unfold Iw;have hrun:(loadVar t ⟨g,0,Z⟩).run P w= .ok (EZ cs) w:=by cases d<;>first|(cases hd;done)|exact run_loadVar_row w g t t cs (0,0) _ hg.out hu rfl fM
  simp only[ho,hx,fN,dU,Ud,UU,Uf,hrun]
 ·exact EpD
theorem Fi{T:EC}{n:Nat}{old:Array V}(hT:IW P T n)(hw:I_ o (Jd ops a.tmps)=u)(hl:rD o a T g cs)(hg:Ea (w.heap[g]?=D (EJ old T (0,0))))(ho:old.size=n)(hn:cs.size=n) (h1:cs.all (·.oneCell')=u) (h:IZ P ops Q rest (a.put o.dst I6) (w.setRow g cs)):IZ P ops Q (o::rest) a w:=by
 obtain⟨-,hi⟩:=hT;unfold rD at hl;split at hl;·rename_i t x y hop;obtain⟨rfl,hx,hy⟩:=hl;refine EI9 hw ?_ h;unfold Iw;simp only[hop,hx,hy,Instr.storeAt,dU,Ud,UU,Uf,run_storeVar_row _ g t t old cs hg.out fM (by rw[ho,hn]) h1]
 ·exact EpD
theorem Fj{T:EC}{n:Nat}(hT:IW P T n)(h:fn.results= #[.cell p T])(tmps:Array V)(w:M)(g:Nat)(cs:Array V) (hp:tmps.getD p I6=Y (D ⟨g,0,Z⟩)) (hg:w.heap[g]?=D (EJ cs T (0,0))) (hn:cs.size=n):(Xa fn tmps).run P w= .ok (EZ cs) w:=by obtain⟨⟨d,hu,hd⟩,hi⟩:=hT;cases d<;>first|(cases hd;done)|exact results_cell_row h tmps w g T cs (0,0) _ hp hg hu rfl fM
end
section
variable{P:Program}{ops:Array Oper}{Q:Exit->Act->World->Prop}
def J4(x:Nat->V)(i:Nat)(v:V):Nat->V:=fun j=>if j=i then v else x j
@[simp] theorem kE(x:Nat->V)(i:Nat)(v:V):J4 x i v i=v:=by simp[J4]
theorem jX(x:Nat->V)(i j:Nat)(v:V)(h:j≠i):J4 x i v j=x j:=by simp[J4,h]
def uU(ops:Array EN)(m:Nat):Bool:=
 (UA ops.size).all fun i=>match ops[i]? with
  |none=>B
  |some o=>o.after.all (fun e=>decide (e.on<i))&&(decide (i<m)||(UA i).all fun j=>o.after.any fun e=>Oq .any e&&e.on==j)
theorem uX{m:Nat}(h:uU ops m=u){o:EN}(ho:ops[i]?=D o):(∀e∈o.after,e.on<i)/\(m<=i-> ∀j,j<i-> ∃e∈o.after,Oq .any e=u/\e.on=j):=by
 have hi:=(Jt.1 ho).1;have h1:=UY.1 h i (Z6.2 hi);simp only[ho,Oc,kI,decide_eq_true_eq] at h1;refine⟨fun e he=> ?_,fun hm j hj=> ?_⟩;·exact EnM
 ·rcases h1.2 with h2|h2;·omega
  ·have:=UY.1 h2 j (Z6.2 hj);obtain⟨e,he,hb⟩:=Array.any_eq_true'.1 this;exact Epp
@[irreducible] def fP(P:Js)(ops:Array EN)(Q:UW->E6->M->Prop)(F:(Nat->V)->E6)(R:Nat->V->M->Prop)(i:Nat)(o:EN)(x:Nat->V)(w:M):Prop:=
 if I_ o (Jd ops (F x).tmps) then o.wp P (F x) w (fun a' w'=> ∃v,a'=(F x).put o.dst v/\El w w'/\R i v w') Q
 else R i I6 w
theorem N8{o:EN}(ho:ops[k]?=D o)(rest:List EN)(a:E6)(w:M)(h:IZ P ops Q (o::rest) a w):wpOp P ops Q k (IZ P ops Q rest) a w:=by unfold wpOp;simp only[ho];unfold IZ at h;exact h
theorem N9{m:Nat}(hB:uU ops m=u): ∀(fuel k:Nat) (listed:Array Bool) (a:E6) (w:M),m<=k->k<=ops.size->ops.size-k<=fuel->listed.size=ops.size-> (∀j,j<ops.size->listed.getD j u=decide (j<k))->IZ P ops Q (ops.toList.drop k) a w->wpAny P .any ops Q fuel listed a w:=by
 intro fuel;induction fuel with
 |zero=> intro k listed a w hm hk hf hs hl h;have hkn:k=ops.size:=X;subst hkn;rw[mq Eh] at h;refine wpAny_done ?_ h 0;rw[mr];intro j hj;obtain⟨h1,o,ho,-⟩:=Uo.1 hj;have hjn:=(Jt.1 ho).1;rw[hl j hjn] at h1;simp at h1;omega
 |succ fuel ih=>
  intro k listed a w hm hk hf hs hl h;rcases JG k ops.size with hlt|hge
  ·have ho:ops[k]?=D ops[k]:=dY hlt;have hd:ops.toList.drop k=ops[k]::ops.toList.drop (k+1):=by rw[kJ Fk];simp
   rw[hd] at h;have hmem:k∈d_ .any ops listed:=by refine Uo.2 ⟨Fl,_,ho,fun e he _=> ?_⟩;have h1:=(uX hB ho).1 e he;exact Enf
   refine⟨fun h0=>Fm,fun i hi=> ?_⟩;obtain⟨h1,o,hoi,hall⟩:=Uo.1 hi;have hin:=(Jt.1 hoi).1;have hki:k<=i:=by exact Eo1
   have hik:i=k:=by
    rcases JG k i with h2|h2;·obtain⟨e,he,hb,heq⟩:=(uX hB hoi).2 X k h2;have h3:=hall e he hb;rw[heq] at h3;have h4:=hl k hlt;have h5:k<listed.size:=X;simp[h5] at h3 h4;rw[h3] at h4;simp at h4
    ·omega
   subst hik;refine wpOp_mono (fun a' w' h'=>ih (i+1) (listed.setIfInBounds i u) a' w' X X X hI (fun j hj=> ?_) h') (N8 ho _ a w h);by_cases e:i=j;·subst e;exact Enc
   ·exact Eou
  ·exact Ep1
def UX(ops:Array EN)(listed:Array Bool):List Nat:=(UA ops.size).filter fun i=> !listed.getD i u
theorem fR:i∈UX ops listed↔i<ops.size/\listed.getD i u=B:=by unfold UX;rw[List.mem_filter,Z6,Bool.not_eq_true']
theorem mw(hs:listed.size=ops.size)(hi:i<ops.size)(h:listed.getD i u=B):(UX ops (listed.setIfInBounds i u)).length<(UX ops listed).length:=by
 have e:UX ops (listed.setIfInBounds i u)=(UX ops listed).filter fun j=>j !=i:=by
  unfold UX;rw[List.filter_filter];apply List.filter_congr;intro j hj;by_cases hij:i=j;·subst hij;exact Enc
  ·rw[XL u hij];have:(j !=i)=u:=Jn;rw[this];simp
 rw[e,List.length_filter_lt_length_iff_exists];exact⟨i,fR.2 ⟨hi,h⟩,Eh⟩
theorem EJE{m:Nat}(hB:uU ops m=u)(hmn:m<=ops.size) (hF: ∀i o x v,i<m->ops[i]?=D o->(F x).put o.dst v=F (J4 x i v)) (hR: ∀i v w w',i<m->R i v w->El w w'->R i v w') (hstep: ∀i o x w,i<m->ops[i]?=D o->El W w->(∀e∈o.after,Oq .any e=u->R e.on (x e.on) w)->fP P ops Q F R i o x w) (hend: ∀x w,El W w->(∀i,i<m->R i (x i) w)->IZ P ops Q (ops.toList.drop m) (F x) w): ∀(fuel:Nat) (listed:Array Bool) (x:Nat->V) (w:M),(UX ops listed).length<=fuel->listed.size=ops.size->(∀j,m<=j->j<ops.size->listed.getD j u=B)->El W w-> (∀i,i<m->listed.getD i u=u->R i (x i) w)->wpAny P .any ops Q fuel listed (F x) w:=by
 intro fuel;induction fuel with
 |zero=>
  intro listed x w hf hs ht hb hr
  have hall: ∀j,j<ops.size->listed.getD j u=u:=by
   intro j hj;cases hc:listed.getD j u;·exact El_
   ·rfl
  have hm:m=ops.size:=by
   rcases JG m ops.size with h|h;·exact Env
   ·omega
  refine N9 hB 0 m listed _ w (E7 _) hmn X hs (fun j hj=>by rw[hall j hj,Ib X]) (hend x w hb fun i hi=>hr i hi (hall i X))
 |succ fuel ih=>
  intro listed x w hf hs ht hb hr;by_cases hall: ∀j,j<m->listed.getD j u=u
  ·have hlen:ops.size-m<=fuel+1:=by
    have hsub:(List.range' m (ops.size-m)).length<=(UX ops listed).length:=by
     apply List.Nodup.length_le_of_subset;·exact Epy
     ·exact Emg
    simp at hsub;omega
   refine N9 hB (fuel+1) m listed _ w (E7 _) hmn hlen hs (fun j hj=> ?_) (hend x w hb fun i hi=>hr i hi (hall i hi));rcases JG j m with h|h;·rw[hall j h,Ib h]
   ·rw[ht j h hj,IJ X]
  ·refine⟨fun h0=> ?_,fun i hi=> ?_⟩
   ·
     exfalso
     have hex: ∃j,j<m/\listed.getD j u=B:=by
      apply jZ;intro hno
      exact hall fun j hj=>by
       cases hc:listed.getD j u;·exact Eog
       ·rfl
     have hmin: ∃j,(j<m/\listed.getD j u=B)/\ ∀k,k<j-> ¬(k<m/\listed.getD k u=B):=by
      obtain⟨j,hj⟩:=hex;induction j using mx with
      |ind j fE=>
       by_cases h: ∃k,k<j/\(k<m/\listed.getD k u=B);·exact EmN
       ·exact Emz
     obtain⟨j,⟨hjm,hj⟩,hlt⟩:=hmin;have hjn:j<ops.size:=X;have ho:ops[j]?=D ops[j]:=dY hjn
     have:j∈d_ .any ops listed:=by
      refine Uo.2 ⟨hj,_,ho,fun e he _=> ?_⟩;have h1:=(uX hB ho).1 e he;have h2:=hlt e.on h1;have h3:e.on<listed.size:=X;cases hc:listed.getD e.on u;·exact EoH
      ·simpa[h3] using hc
     rw[h0] at this;cases this
   ·obtain⟨h1,o,ho,dX⟩:=Uo.1 hi;have hin:=(Jt.1 ho).1;have him:i<m:=by apply jZ;intro hge;apply hall;intro j hj;obtain⟨e,he,hb',heq⟩:=(uX hB ho).2 X j X;have h3:=dX e he hb';rw[heq] at h3;have h5:j<listed.size:=X;simpa[h5] using h3
    have hdr: ∀e∈o.after,Oq .any e=u->R e.on (x e.on) w:=by intro e he hb';have h3:=dX e he hb';have h4:=(uX hB ho).1 e he;exact EnS
    have st:=hstep i o x w him ho hb hdr
    have next: ∀v w',El w w'->R i v w'->wpAny P .any ops Q fuel (listed.setIfInBounds i u) ((F x).put o.dst v) w':=by
     intro v w' hb' hv;rw[hF i o x v him ho];have hlt:=mw hs hin h1;refine ih _ _ w' X hI (fun j hj hjn=> ?_) (bt hb hb') (fun j hj hl=> ?_);·rw[XL u X];exact ht j hj hjn
     ·by_cases hji:j=i;·subst hji;rw[kE];exact hv
      ·exact Eop
    unfold wpOp;simp only[ho];unfold fP at st;split;·exact Emt
    ·rename_i hw;rw[if_neg hw] at st;exact next I6 w (IE _ _) st
theorem EJI{a0:E6}(hm:P.follows .mixedOrders=u)(m:Nat)(hB:uU ops m=u)(hmn:m<=ops.size)(F:(Nat->V)->E6)(R:Nat->V->M->Prop)(x0:Nat->V)(my:a0=F x0) (hF: ∀i o x v,i<m->ops[i]?=D o->(F x).put o.dst v=F (J4 x i v)) (hR: ∀i v w w',i<m->R i v w->El w w'->R i v w') (hstep: ∀i o x w,i<m->ops[i]?=D o->El w0 w->(∀e∈o.after,Oq .any e=u->R e.on (x e.on) w)->fP P ops Q F R i o x w) (hend: ∀x w,El w0 w->(∀i,i<m->R i (x i) w)->IZ P ops Q (ops.toList.drop m) (F x) w):(ZP id ops u).wp P Q a0 w0:=by
 subst my;refine wp_region_any hm (EJE hB hmn hF hR hstep hend _ _ x0 _ ?_ Eh (fun j hj hjn=>by simp[hjn]) (Jk w0) (fun i hi h=> ?_));·exact Eni
 ·exact Epk
def EL:List EN->Nat->(Nat->V)->E6->E6
 |[],_,_,a=>a
 |o::l,i,x,a=>EL l (i+1) x (a.put o.dst (x i))
def O4(l:List EN):List Tmp:=l.filterMap (·.dst)
theorem N_(d:Option Tmp)(v:V): ∀(l:List EN) (i:Nat) (x:Nat->V) (a:E6),(∀t,d=D t->t∉O4 l)->(EL l i x a).put d v=EL l i x (a.put d v)
 |[],_,_,_,_=>rfl
 |o::l,i,x,a,h=>by unfold EL;rw[N_ d v l (i+1) x _ (fun t ht hm=>h t ht (by unfold O4 at*;simp only[mB] at*;obtain⟨o',h1,h2⟩:=hm;exact⟨o',ai _ h1,h2⟩))];rw[Act.put_comm a (x:=o.dst) (y:=d) (x i) v];intro t ht e;refine h t e ?_;unfold O4;exact mB.2 ⟨o,hO,ht⟩
theorem yM: ∀(l:List EN) (i:Nat) (x y:Nat->V) (a:E6),(∀j,i<=j->x j=y j)->EL l i x a=EL l i y a
 |[],_,_,_,_,_=>rfl
 |o::l,i,x,y,a,h=>by unfold EL;rw[h i (E7 _)];exact yM l (i+1) x y _ fun j hj=>h j X
theorem EJJ(a:E6)(d:Option Tmp)(Y3 v:V):(a.put d Y3).put d v=a.put d v:=by
 cases d with
 |none=>rfl
 |some t=>simp[In]
theorem kO: ∀(l:List EN) (i k:Nat) (x:Nat->V) (a:E6) (o:EN) (v:V),(O4 l).Nodup->l[k]?=D o->(EL l i x a).put o.dst v=EL l i (J4 x (i+k) v) a
 |[],_,_,_,_,_,_,_,h=>oL
 |p::l,i,0,x,a,o,v,hn,h=>by simp at h;subst h;unfold EL;rw[show J4 x (i+0) v i=v from kE x i v,yM l (i+1) (J4 x (i+0) v) x _ (fun j hj=>jX _ _ _ _ X)];rw[N_ p.dst v l (i+1) x _ ?_,EJJ];intro t ht hm;unfold O4 at hn;rw[List.filterMap_cons,ht] at hn;exact(mC.1 hn).1 hm
 |p::l,i,k+1,x,a,o,v,hn,h=>by
  unfold EL
  have hn':(O4 l).Nodup:=by
   unfold O4 at*;rw[List.filterMap_cons] at hn;cases hp:p.dst with
   |none=>rw[hp] at hn;exact hn
   |some t=>rw[hp] at hn;exact(mC.1 hn).2
  rw[kO l (i+1) k x _ o v hn' Un,jX _ _ _ _ (show i≠i+(k+1) from X),show i+1+k=i+(k+1) from X]
def held(l:List EN)(a:E6):Nat->V:=fun i=>match l[i]? with
 |some o=>(match o.dst with|some d=>a.tmps.getD d I6|none=>I6)
 |none=>I6
theorem ja(a:E6): ∀(l:List EN) (i:Nat) (x:Nat->V),(∀k o,l[k]?=D o-> ∀d,o.dst=D d->x (i+k)=a.tmps.getD d I6)->EL l i x a=a
 |[],_,_,_=>rfl
 |o::l,i,x,h=>by
  unfold EL
  have e:a.put o.dst (x i)=a:=by
   cases hd:o.dst with
   |none=>rfl
   |some d=>
    have:=h 0 o U d hd;rw[Nat.add_zero] at this;rw[this];simp only[In];congr 1;apply Array.ext;·simp
    ·intro j h1 h2;by_cases hj:d=j;·subst hj;simp[h2]
     ·rw[Array.getElem_setIfInBounds_ne h2 hj]
  rw[e];exact ja a l (i+1) x fun k o' ho d hd=>by have:=h (k+1) o' oM d hd;rw[<-this];congr 1;omega
def rF(R:Nat->V->M->Prop)(o:EN)(x:Nat->V)(w:M):Prop:= ∀e∈o.after,Oq .any e=u->R e.on (x e.on) w
def mD(P:Js)(ops:Array EN)(Q:UW->E6->M->Prop)(W:M)(F:(Nat->V)->E6)(R:Nat->V->M->Prop):Nat->List EN->Prop
 |_,[]=>True
 |i,o::l=>(∀x w,El W w->rF R o x w->fP P ops Q F R i o x w)/\mD P ops Q W F R (i+1) l
theorem mD.at{W:M}{F:(Nat->V)->E6}{R:Nat->V->M->Prop}: ∀(l:List EN) (i:Nat),mD P ops Q W F R i l-> ∀k o,l[k]?=D o-> ∀x w,El W w->rF R o x w->fP P ops Q F R (i+k) o x w
 |[],_,_,_,_,h=>oL
 |p::l,i,hs,0,o,h=>by simp at h;subst h;exact hs.1
 |p::l,i,hs,k+1,o,h=>by have:=mD.at l (i+1) hs.2 k o Un;rw[show i+(k+1)=i+1+k from X];exact this
theorem PJ{a0:E6}(hm:P.follows .mixedOrders=u)(m:Nat)(hB:uU l.toArray m=u)(hmn:m<=l.length)(hnd:(O4 (l.take m)).Nodup)(R:Nat->V->M->Prop) (hR: ∀i v w w',i<m->R i v w->El w w'->R i v w') (hstep:mD P l.toArray Q w0 (fun x=>EL (l.take m) 0 x a0) R 0 (l.take m)) (hend: ∀x w,El w0 w->(∀i,i<m->R i (x i) w)->IZ P l.toArray Q (l.drop m) (EL (l.take m) 0 x a0) w):(ZP id l.toArray u).wp P Q a0 w0:=by
 have htk: ∀i o,i<m->l.toArray[i]?=D o->(l.take m)[i]?=D o:=fun i o hi ho=>by exact EnX
 refine EJI hm m hB uZ (fun x=>EL (l.take m) 0 x a0) R (held (l.take m) a0) (ja a0 _ 0 _ ?_).symm (fun i o x v hi ho=> ?_) hR (fun i o x w hi ho hb hd=> ?_) hend;·exact Eoa
 ·exact Emj
 ·have:=mD.at _ 0 hstep i o (htk i o hi ho) x w hb hd;exact Ens
theorem Fo{o:EN}{v:V}(hw:I_ o (Jd ops (F x).tmps)=u) (hr:(Iw (F x).eval o).run P w= .ok (.value v) w) (h:R i v w):fP P ops Q F R i o x w:=by unfold fP;rw[if_pos hw];unfold ah;rw[hr];exact⟨v,U,IE _ _,h⟩
theorem PU{o:EN}{v:V}(hw:I_ o (Jd ops (F x).tmps)=u) (hr:(Iw (F x).eval o).run P w= .ok (.value v) w') (hb:El w w') (h:R i v w'):fP P ops Q F R i o x w:=by unfold fP;exact Eon
theorem rG{o:EN}(hw:I_ o (Jd ops (F x).tmps)=u) (hr:(Iw (F x).eval o).run P w= .ok (.enter f args) w) (hc:Ef P f args w fun e w'=> ∃v,e=Eg v/\El w w'/\R i v w'):fP P ops Q F R i o x w:=by unfold fP;exact Ent
theorem PX{o:EN}{T:EC}{n:Nat}(hT:IW P T n)(hw:I_ o (Jd ops (F x).tmps)=u) (hl:jU o (F x) T g) (hg:w.heap[g]?=D (EJ cs T (0,0))) (hn:cs.size=n) (h:R i (EZ cs) w):fP P ops Q F R i o x w:=by
 obtain⟨⟨d,hu,hd⟩,hi⟩:=hT;unfold jU at hl;split at hl
 ·rename_i t y ho;obtain⟨rfl,hx⟩:=hl;refine Fo hw ?_ h;have hrun:(loadVar t ⟨g,0,Z⟩).run P w= .ok (EZ cs) w:=by cases d<;>first|(cases hd;done)|exact run_loadVar_row w g t t cs (0,0) _ hg hu rfl fM
  unfold Iw;exact Em6
 ·exact EpD
end
section
variable{P:Program}{ops:Array Oper}{Q:Exit->Act->World->Prop}{C:World->Prop}
def rH(l:List EN)(ops:Array EN):Bool:=
 l.all fun o=>(UA l.length).all fun j=>match l[j]? with
  |none=>u
  |some p=>(o.after.any fun e=>Oq .any e&&e.on==j)||(match p.dst with|some d=> !(o.looksAt ops).contains d|none=>true)
theorem EJO(h:rH l ops=u){o p:EN}(ho:o∈l)(hp:l[j]?=D p): (∃e∈o.after,Oq .any e=u/\e.on=j)\/(∀d,p.dst=D d->d∉o.looksAt ops):=by
 have h1:=UY.1 h o ho;have hj:=(UG.1 hp).1;have h2:=UY.1 h1 j (Z6.2 hj);simp only[hp,kI] at h2;rcases h2 with h2|h2;·left;obtain⟨e,he,hb⟩:=Array.any_eq_true'.1 h2;exact Epp
 ·right;intro d hd;rw[hd] at h2;simpa using h2
def mix(x y:Nat->V)(k:Nat):Nat->V:=fun j=>if j<k then y j else x j
theorem EJU(x y:Nat->V):mix x y 0=x:=by funext j;simp[mix]
theorem PZ(x y:Nat->V)(k:Nat):mix x y (k+1)=J4 (mix x y k) k (y k):=by
 funext j;unfold mix J4;by_cases h:j=k;·subst h;simp
 ·rw[if_neg h];by_cases h2:j<k;·simp[h2,show j<k+1 from X]
  ·simp[h2,show¬j<k+1 from X]
theorem EJX(hnd:(O4 l).Nodup)(hap:rH l ops=u)(hsel:Region.noSelect l.toArray=u){o:EN}(ho:o∈l)(x y:Nat->V)(a:E6) (hd: ∀e∈o.after,Oq .any e=u->x e.on=y e.on): ∀k,k<=l.length-> Iw (EL l 0 (mix x y k) a).eval o=Iw (EL l 0 x a).eval o/\I_ o (Jd ops (EL l 0 (mix x y k) a).tmps)=I_ o (Jd ops (EL l 0 x a).tmps):=by
 intro k;induction k with
 |zero=>intro _;rw[EJU];exact⟨U,U⟩
 |succ k ih=>
  intro hk;have ih:=ih X;have hp:l[k]?=D l[k]:=Ok X;rcases EJO hap ho hp with⟨e,he,hb,heq⟩|h
  ·have e1:mix x y (k+1)=mix x y k:=by
    rw[PZ];funext j;unfold J4;split;·rename_i h;subst h;have:=hd e he hb;rw[heq] at this;simp[mix,this]
    ·rfl
   rw[e1];exact ih
  ·have e1:EL l 0 (mix x y (k+1)) a=(EL l 0 (mix x y k) a).put l[k].dst (y k):=by rw[PZ,kO l 0 k _ a l[k] (y k) hnd hp,JV]
   have hs: ∀cs b,o.op≠ .select cs b:=by obtain⟨i,hi⟩:=aP.1 ho;exact fun cs b=>Region.noSelect_spec hsel i o cs b Ug
   rw[e1,execOp_put o hs _ _ _ h,wanted_put o _ _ _ h];exact ih
theorem rK: ∀(l:List EN) (i:Nat) (x y:Nat->V) (a:E6),(∀j,i<=j->j<i+l.length->x j=y j)->EL l i x a=EL l i y a
 |[],_,_,_,_,_=>rfl
 |o::l,i,x,y,a,h=>by unfold EL;rw[h i (E7 _) Eh];exact rK l (i+1) x y _ fun j hj hl=>h j X Jn
theorem Fq: ∀(l1 l2:List EN) (i:Nat) (x:Nat->V) (a:E6),EL (l1++l2) i x a=EL l2 (i+l1.length) x (EL l1 i x a)
 |[],_,_,_,_=>rfl
 |o::l1,l2,i,x,a=>by rw[List.cons_append];unfold EL;rw[Fq l1 l2 (i+1) x _,show i+(o::l1).length=i+1+l1.length from Jn];cases l2<;>rfl
theorem Fr: ∀(l:List EN) (i:Nat) (x:Nat->V) (a:E6) (d:Tmp),d∉O4 l->(EL l i x a).tmps.getD d I6=a.tmps.getD d I6
 |[],_,_,_,_,_=>rfl
 |o::l,i,x,a,d,h=>by
  unfold EL;have h2:d∉O4 l:=fun hm=>h (by unfold O4 at*;simp only[mB] at*;obtain⟨o',h1,h2⟩:=hm;exact⟨o',ai _ h1,h2⟩);rw[Fr l (i+1) x _ d h2];cases ho:o.dst with
  |none=>rfl
  |some t=> have hne:t≠d:=fun e=>h (by subst e;unfold O4;exact mB.2 ⟨o,hO,ho⟩);simp only[In,Array.getD_eq_getD_getElem?];rw[Array.getElem?_setIfInBounds_ne hne]
theorem Pa(hn:(O4 l).Nodup){p:EN}{d:Tmp}(hp:l[k+j]?=D p)(hd:p.dst=D d):d∉O4 (l.take k):=by
 have hs:l=l.take k++l.drop k:=(hU k l).symm
 have hds:O4 l=O4 (l.take k)++O4 (l.drop k):=by
  conv=>lhs;rw[hs]
  unfold O4;rw[List.filterMap_append]
 rw[hds,List.nodup_append] at hn;intro hm;have hm2:d∈O4 (l.drop k):=by unfold O4;refine mB.2 ⟨p,aP.2 ⟨j,?_⟩,hd⟩;rw[List.getElem?_drop];exact hp
 exact hn.2.2 d hm d hm2 U
theorem yN{n:Nat}(h:j<(Zn n B).size):(Zn n B).getD j u=B:=by have:j<n:=Un;simp[this]
theorem Pb(hnd:(O4 l).Nodup)(hap:rH l ops=u)(hsel:Region.noSelect l.toArray=u){o:EN}(ho:o∈l)(x y:Nat->V)(a:E6) (hd: ∀e∈o.after,Oq .any e=u->x e.on=y e.on): Iw (EL l 0 y a).eval o=Iw (EL l 0 x a).eval o/\I_ o (Jd ops (EL l 0 y a).tmps)=I_ o (Jd ops (EL l 0 x a).tmps):=by
 have h:=EJX hnd hap hsel ho x y a hd l.length (E7 _);have e:EL l 0 (mix x y l.length) a=EL l 0 y a:=rK l 0 _ _ a fun j _ hj=>by simp[mix,show j<l.length from X]
 rw[e] at h;exact h
theorem Fs{K:E6->Prop}: ∀(l:List EN) (i:Nat) (a:E6),wpQuiet P ops C K l a-> ∃y:Nat->V,(∀k o,l[k]?=D o->YieldsIn P ops C o (y (i+k)) (EL (l.take k) i y a))/\K (EL l i y a)
 |[],_,_,h=>⟨fun _=>I6,fun k o ho=>by simp at ho,h⟩
 |o::l,i,a,h=>by
  have hv: ∃v,YieldsIn P ops C o v a/\wpQuiet P ops C K l (a.put o.dst v):=by
   unfold wpQuiet at h;by_cases hw:I_ o (Jd ops a.tmps)=u;·rw[if_pos hw] at h;obtain⟨v,h1,h2⟩:=h;exact⟨v,.inl ⟨hw,h1⟩,h2⟩
   ·rw[if_neg hw] at h;exact⟨I6,.inr ⟨by simpa using hw,U⟩,h⟩
  obtain⟨v,hy,hK⟩:=hv;obtain⟨y,h1,h2⟩:=Fs l (i+1) _ hK;have e: ∀j,i+1<=j->J4 y i v j=y j:=fun j hj=>jX _ _ _ _ X;refine⟨J4 y i v,fun k p hp=> ?_,?_⟩
  ·cases k with
   |zero=> simp at hp;subst hp;rw[Nat.add_zero,kE];exact hy
   |succ k=> have:=h1 k p mF;rw[show i+(k+1)=i+1+k from X,e _ X];rw[Ir];unfold EL;rw[kE,yM _ (i+1) (J4 y i v) y _ e];exact this
  ·unfold EL;rw[kE,yM _ (i+1) (J4 y i v) y _ e];exact h2
def kU(ops:Array EN)(m:Nat):Bool:=
 (UA ops.size).all fun i=>match ops[i]? with
  |none=>B
  |some o=>o.after.all (fun e=>decide (e.on<i))&&(decide (i<m)||(UA i).all fun j=>(UA (i+1)).any fun k=>decide (j<k)&&match ops[k]? with
   |some p=>p.after.any fun e=>Oq .any e&&e.on==j
   |none=>B)
theorem oN{m:Nat}(h:kU ops m=u){o:EN}(ho:ops[i]?=D o):(∀e∈o.after,e.on<i)/\(m<=i-> ∀j,j<i-> ∃k p,j<k/\k<=i/\ops[k]?=D p/\ ∃e∈p.after,Oq .any e=u/\e.on=j):=by
 have hi:=(Jt.1 ho).1;have h1:=UY.1 h i (Z6.2 hi);simp only[ho,Oc,kI,decide_eq_true_eq] at h1;refine⟨fun e he=> ?_,fun hm j hj=> ?_⟩;·exact EnM
 ·rcases h1.2 with h2|h2;·omega
  ·have h3:=UY.1 h2 j (Z6.2 hj);obtain⟨k,hk,hk2⟩:=List.any_eq_true.1 h3;have hk1:=Z6.1 hk;simp only[Oc,decide_eq_true_eq] at hk2;obtain⟨hjk,hk3⟩:=hk2;cases hp:ops[k]? with
   |none=>rw[hp] at hk3;cases hk3
   |some p=> rw[hp] at hk3;obtain⟨e,he,hb⟩:=Array.any_eq_true'.1 hk3;simp only[Oc,beq_iff_eq] at hb;exact⟨k,p,hjk,X,hp,e,he,hb.1,hb.2⟩
def bK(ops:Array EN)(listed:Array Bool):Prop:= ∀j o,ops[j]?=D o->listed.getD j u=u-> ∀e∈o.after,Oq .any e=u->listed.getD e.on u=u
theorem Ft{m:Nat}(hB:kU ops m=u)(hs:listed.size=ops.size)(hc:bK ops listed)(hi:i∈d_ .any ops listed)(hm:m<=i): ∀j,j<i->listed.getD j u=u:=by
 obtain⟨h1,o,ho,hall⟩:=Uo.1 hi;have hin:=(Jt.1 ho).1
 have key: ∀d j,i-j=d->j<i->listed.getD j u=u:=by
  intro d;induction d using mx with
  |ind d ih=>
   intro j hd hj;obtain⟨k,p,hjk,hki,hp,e,he,hb,heq⟩:=(oN hB ho).2 hm j hj;by_cases h:k=i;·subst h;have:p=o:=fI (hp.symm.trans ho);subst this;have h3:=hall e he hb;rw[heq] at h3;have h5:j<listed.size:=X;simpa[h5] using h3
   ·exact Eph
 exact fun j hj=>key _ j U hj
theorem bK.set(hs:listed.size=ops.size)(hc:bK ops listed)(hi:i∈d_ .any ops listed):bK ops (listed.setIfInBounds i u):=by
 obtain⟨h1,o,ho,hall⟩:=Uo.1 hi;have hin:=(Jt.1 ho).1
 have up: ∀j,listed.getD j u=u->(listed.setIfInBounds i u).getD j u=u:=by
  intro j hj;by_cases e:i=j;·subst e;exact Enc
  ·rw[XL u e];exact hj
 intro j p hp hl e he hb;by_cases hji:i=j
 ·subst hji;have:p=o:=fI (hp.symm.trans ho);subst this;have h3:=hall e he hb;refine up _ ?_;rcases JG e.on listed.size with h|h;·simpa[h] using h3
  ·simp[h]
 ·rw[XL u hji] at hl;exact up _ (hc j p hp hl e he hb)
theorem yP{m:Nat}(hB:kU ops m=u): ∀(fuel k:Nat) (listed:Array Bool) (a:E6) (w:M),m<=k->k<=ops.size->ops.size-k<=fuel->listed.size=ops.size-> (∀j,j<ops.size->listed.getD j u=decide (j<k))->bK ops listed->IZ P ops Q (ops.toList.drop k) a w->wpAny P .any ops Q fuel listed a w:=by
 intro fuel;induction fuel with
 |zero=> intro k listed a w hm hk hf hs hl hc h;have hkn:k=ops.size:=X;subst hkn;rw[mq Eh] at h;refine wpAny_done ?_ h 0;rw[mr];intro j hj;obtain⟨h1,o,ho,-⟩:=Uo.1 hj;have hjn:=(Jt.1 ho).1;rw[hl j hjn] at h1;simp at h1;omega
 |succ fuel ih=>
  intro k listed a w hm hk hf hs hl hc h;rcases JG k ops.size with hlt|hge
  ·have ho:ops[k]?=D ops[k]:=dY hlt;have hd:ops.toList.drop k=ops[k]::ops.toList.drop (k+1):=by rw[kJ Fk];simp
   rw[hd] at h;have hmem:k∈d_ .any ops listed:=by refine Uo.2 ⟨Fl,_,ho,fun e he _=> ?_⟩;have h1:=(oN hB ho).1 e he;exact Enf
   refine⟨fun h0=>Fm,fun i hi=> ?_⟩;obtain⟨h1,o,hoi,hall⟩:=Uo.1 hi;have hin:=(Jt.1 hoi).1;have hki:k<=i:=by exact Eo1
   have hik:i=k:=by
    rcases JG k i with h2|h2;·have h3:=Ft hB hs hc hi X k h2;rw[hl k hlt] at h3;simp at h3
    ·omega
   subst hik;refine wpOp_mono (fun a' w' h'=>ih (i+1) (listed.setIfInBounds i u) a' w' X X X hI (fun j hj=> ?_) (hc.set hs hi) h') (N8 ho _ a w h);by_cases e:i=j;·subst e;exact Enc
   ·exact Eou
  ·exact Ep1
theorem EJZ{m:Nat}(hB:kU ops m=u)(hmn:m<=ops.size){y:Nat->V} (hF: ∀i o x v,i<m->ops[i]?=D o->(F x).put o.dst v=F (J4 x i v)) (hstep: ∀i o x,i<m->ops[i]?=D o->(∀e∈o.after,Oq .any e=u->x e.on=y e.on)->YieldsIn P ops C o (y i) (F x)) (hend: ∀x w,C w->(∀i,i<m->x i=y i)->IZ P ops Q (ops.toList.drop m) (F x) w): ∀(fuel:Nat) (listed:Array Bool) (x:Nat->V) (w:M),(UX ops listed).length<=fuel->listed.size=ops.size->(∀j,m<=j->j<ops.size->listed.getD j u=B)->bK ops listed->C w-> (∀i,i<m->listed.getD i u=u->x i=y i)->wpAny P .any ops Q fuel listed (F x) w:=by
 intro fuel;induction fuel with
 |zero=>
  intro listed x w hf hs ht hc hb hr
  have hall: ∀j,j<ops.size->listed.getD j u=u:=by
   intro j hj;cases hc:listed.getD j u;·exact El_
   ·rfl
  have hm:m=ops.size:=by
   rcases JG m ops.size with h|h;·exact Env
   ·omega
  refine yP hB 0 m listed _ w (E7 _) hmn X hs (fun j hj=>by rw[hall j hj,Ib X]) hc (hend x w hb fun i hi=>hr i hi (hall i X))
 |succ fuel ih=>
  intro listed x w hf hs ht hc hb hr;by_cases hall: ∀j,j<m->listed.getD j u=u
  ·have hlen:ops.size-m<=fuel+1:=by
    have hsub:(List.range' m (ops.size-m)).length<=(UX ops listed).length:=by
     apply List.Nodup.length_le_of_subset;·exact Epy
     ·exact Emg
    simp at hsub;omega
   refine yP hB (fuel+1) m listed _ w (E7 _) hmn hlen hs (fun j hj=> ?_) hc (hend x w hb fun i hi=>hr i hi (hall i hi));rcases JG j m with h|h;·rw[hall j h,Ib h]
   ·rw[ht j h hj,IJ X]
  ·refine⟨fun h0=> ?_,fun i hi=> ?_⟩
   ·exfalso
    have hex: ∃j,j<m/\listed.getD j u=B:=by
     apply jZ;intro hno
     exact hall fun j hj=>by
      cases hc:listed.getD j u;·exact Eog
      ·rfl
    have hmin: ∃j,(j<m/\listed.getD j u=B)/\ ∀k,k<j-> ¬(k<m/\listed.getD k u=B):=by
     obtain⟨j,hj⟩:=hex;induction j using mx with
     |ind j fE=>
      by_cases h: ∃k,k<j/\(k<m/\listed.getD k u=B);·exact EmN
      ·exact Emz
    obtain⟨j,⟨hjm,hj⟩,hlt⟩:=hmin;have hjn:j<ops.size:=X;have ho:ops[j]?=D ops[j]:=dY hjn
    have:j∈d_ .any ops listed:=by
     refine Uo.2 ⟨hj,_,ho,fun e he _=> ?_⟩;have h1:=(oN hB ho).1 e he;have h2:=hlt e.on h1;have h3:e.on<listed.size:=X;cases hc:listed.getD e.on u;·exact EoH
     ·simpa[h3] using hc
    rw[h0] at this;cases this
   ·obtain⟨h1,o,ho,dX⟩:=Uo.1 hi;have hin:=(Jt.1 ho).1;have him:i<m:=by apply jZ;intro hge;apply hall;intro j hj;exact Ft hB hs hc hi X j X
    have hdr: ∀e∈o.after,Oq .any e=u->x e.on=y e.on:=by exact Ep9
    have st:=hstep i o x him ho hdr;refine wpOp_of_qOp (C:=C) (K:=fun a'=>a'=F (J4 x i (y i))) hb (fun a' w' hw' ha'=> ?_) (st.qOp ho ?_)
    ·subst ha';have hlt:=mw hs hin h1;refine ih _ _ w' X hI (fun j hj hjn=> ?_) (hc.set hs hi) hw' (fun j hj hl=> ?_);·rw[XL u X];exact ht j hj hjn
     ·by_cases hji:j=i;·subst hji;rw[kE]
      ·exact EoT
    ·exact hF i o x (y i) him ho
theorem Pc{a0:E6}(m:Nat)(hm:P.follows .mixedOrders=u)(hB:kU l.toArray m=u)(hmn:m<=l.length)(hsel:Region.noSelect (l.take m).toArray=u)(hnd:(O4 (l.take m)).Nodup)(hap:rH (l.take m) l.toArray=u) (hC:C w0.drew) (h:wpQuiet P l.toArray C (fun a'=> ∀w',C w'->IZ P l.toArray Q (l.drop m) a' w') (l.take m) a0):(ZP id l.toArray u).wp P Q a0 w0:=by
 obtain⟨y,hy,hK⟩:=Fs (l.take m) 0 a0 h;have htk: ∀i o,i<m->l.toArray[i]?=D o->(l.take m)[i]?=D o:=fun i o hi ho=>by exact EnX
 have hlen:(l.take m).length=m:=mg;have oP:EL (l.take m) 0 (held (l.take m) a0) a0=a0:=ja a0 _ 0 _ (fun k o ho d hd=>by unfold held;rw[JV,ho];simp only[hd]);refine wp_region_any hm ?_;have key:=EJZ (P:=P) (Q:=Q) (C:=C) (ops:=l.toArray) (F:=fun x=>EL (l.take m) 0 x a0) (y:=y) hB uZ ?_ ?_ ?_ l.toArray.size (Zn l.toArray.size B) (held (l.take m) a0) w0.drew ?_ Eh (fun j hj hjn=>yN (by simpa using hjn)) ?_ hC (fun i hi h=> ?_);·exact Epz
 ·intro i o x v hi ho;exact Emj
 ·intro i o x hi ho hd;have hi':=htk i o hi ho;have h1:=hy i o hi';rw[JV] at h1
  have e1:EL ((l.take m).take i) 0 y a0=EL (l.take m) 0 (mix (held (l.take m) a0) y i) a0:=by
   have e2:EL (l.take m) 0 (mix (held (l.take m) a0) y i) a0=EL ((l.take m).drop i) i (mix (held (l.take m) a0) y i) (EL ((l.take m).take i) 0 (mix (held (l.take m) a0) y i) a0):=by exact EnG
   have e3:EL ((l.take m).take i) 0 (mix (held (l.take m) a0) y i) a0=EL ((l.take m).take i) 0 y a0:=rK _ 0 _ _ _ fun j _ hj=>by have:j<i:=yQ;simp[mix,this]
   rw[e2,e3];refine(ja _ _ _ _ fun k p hp d hd=> ?_).symm;have hk:(l.take m)[i+k]?=D p:=mF;have hkm:i+k<m:=Pd;show mix (held (l.take m) a0) y i (i+k)=_;have e5:mix (held (l.take m) a0) y i (i+k)=a0.tmps.getD d I6:=by exact Epv
   rw[e5];exact EoR
  rw[e1] at h1;have deps: ∀e∈o.after,Oq .any e=u->x e.on=mix (held (l.take m) a0) y i e.on:=by intro e he hb;have:=(oN hB ho).1 e he;rw[hd e he hb];simp[mix,this]
  obtain⟨s1,s2⟩:=Pb (ops:=l.toArray) hnd hap hsel (aP.2 ⟨i,hi'⟩) (mix (held (l.take m) a0) y i) x a0 (fun e he hb=>(deps e he hb).symm);exact h1.of_same s1 s2
 ·exact Enp
 ·exact Em4
 ·intro j o ho hl;have hj:=(Jt.1 ho).1;rw[yN yR] at hl;cases hl
 ·have:i<l.length:=X;simp[this] at h
theorem Z7{o:EN}{ops:Array EN}{d:Nat}{want:Bool}(h:o.guard=D (j,want))(hd:(ops[j]?).bind (·.dst)=D d)(hv:tmps[d]?=D (Ec want)):I_ o (Jd ops tmps)=u:=by unfold I_ Jd;simp[h,hd,hv]
def yS(l:List EN)(m:Nat):Bool:=kU l.toArray m&&decide (m<=l.length)&&Region.noSelect (l.take m).toArray&&decide (O4 (l.take m)).Nodup&&rH (l.take m) l.toArray
theorem ua{a0:E6}(m:Nat)(hm:P.follows .mixedOrders=u)(hB:yS l m=u) (h:wpQuiet P l.toArray (fun w'=> ∃n,w'=w0.drewN n) (fun a'=> ∀w',(∃n,w'=w0.drewN n)->IZ P l.toArray Q (l.drop m) a' w') (l.take m) a0):(ZP id l.toArray u).wp P Q a0 w0:=by simp only[yS,Oc,decide_eq_true_eq] at hB;obtain⟨⟨⟨⟨h1,h2⟩,h3⟩,h4⟩,h5⟩:=hB;exact Pc m hm h1 h2 h3 h4 h5 ⟨1,U⟩ h
theorem J5{a0:E6}(m:Nat)(hm:P.follows .mixedOrders=u)(hB:yS l m=u) (h:wpQuiet P l.toArray (fun w'=> ∃x,w'=Ey w0 x) (fun a'=> ∀w',(∃x,w'=Ey w0 x)->IZ P l.toArray Q (l.drop m) a' w') (l.take m) a0):(ZP id l.toArray u).wp P Q a0 w0:=by simp only[yS,Oc,decide_eq_true_eq] at hB;obtain⟨⟨⟨⟨h1,h2⟩,h3⟩,h4⟩,h5⟩:=hB;exact Pc m hm h1 h2 h3 h4 h5 ⟨⟨_,Jk w0⟩,U⟩ h
end
def Kept(Rel:M->M->Prop):Prop:=(∀w,Rel w w)/\(∀a b c,Rel a b->Rel b c->Rel a c)/\ ∀w:M,Rel w w.drew
section
variable{P:Program}{ops:Array Oper}{Q:Exit->Act->World->Prop}
@[irreducible] def fJ(Rel:M->M->Prop)(P:Js)(ops:Array EN)(Q:UW->E6->M->Prop)(F:(Nat->V)->E6)(R:Nat->V->M->Prop)(i:Nat)(o:EN)(x:Nat->V)(w:M):Prop:=
 if I_ o (Jd ops (F x).tmps) then o.wp P (F x) w (fun a' w'=> ∃v,a'=(F x).put o.dst v/\Rel w w'/\R i v w') Q
 else R i I6 w
theorem EJa(hT:Kept Rel){m:Nat}(hB:kU ops m=u)(hmn:m<=ops.size) (hF: ∀i o x v,i<m->ops[i]?=D o->(F x).put o.dst v=F (J4 x i v)) (hR: ∀i v w w',i<m->R i v w->Rel w w'->R i v w') (hstep: ∀i o x w,i<m->ops[i]?=D o->Rel W w->(∀e∈o.after,Oq .any e=u->R e.on (x e.on) w)->fJ Rel P ops Q F R i o x w) (hend: ∀x w,Rel W w->(∀i,i<m->R i (x i) w)->IZ P ops Q (ops.toList.drop m) (F x) w): ∀(fuel:Nat) (listed:Array Bool) (x:Nat->V) (w:M),(UX ops listed).length<=fuel->listed.size=ops.size->bK ops listed->(∀j,m<=j->j<ops.size->listed.getD j u=B)->Rel W w-> (∀i,i<m->listed.getD i u=u->R i (x i) w)->wpAny P .any ops Q fuel listed (F x) w:=by
 intro fuel;induction fuel with
 |zero=>
  intro listed x w hf hs hcl ht hb hr
  have hall: ∀j,j<ops.size->listed.getD j u=u:=by
   intro j hj;cases hc:listed.getD j u;·exact El_
   ·rfl
  have hm:m=ops.size:=by
   rcases JG m ops.size with h|h;·exact Env
   ·omega
  refine yP hB 0 m listed _ w (E7 _) hmn X hs (fun j hj=>by rw[hall j hj,Ib X]) hcl (hend x w hb fun i hi=>hr i hi (hall i X))
 |succ fuel ih=>
  intro listed x w hf hs hcl ht hb hr;by_cases hall: ∀j,j<m->listed.getD j u=u
  ·have hlen:ops.size-m<=fuel+1:=by
    have hsub:(List.range' m (ops.size-m)).length<=(UX ops listed).length:=by
     apply List.Nodup.length_le_of_subset;·exact Epy
     ·exact Emg
    simp at hsub;omega
   refine yP hB (fuel+1) m listed _ w (E7 _) hmn hlen hs (fun j hj=> ?_) hcl (hend x w hb fun i hi=>hr i hi (hall i hi));rcases JG j m with h|h;·rw[hall j h,Ib h]
   ·rw[ht j h hj,IJ X]
  ·refine⟨fun h0=> ?_,fun i hi=> ?_⟩
   ·
     exfalso
     have hex: ∃j,j<m/\listed.getD j u=B:=by
      apply jZ;intro hno
      exact hall fun j hj=>by
       cases hc:listed.getD j u;·exact Eog
       ·rfl
     have hmin: ∃j,(j<m/\listed.getD j u=B)/\ ∀k,k<j-> ¬(k<m/\listed.getD k u=B):=by
      obtain⟨j,hj⟩:=hex;induction j using mx with
      |ind j fE=>
       by_cases h: ∃k,k<j/\(k<m/\listed.getD k u=B);·exact EmN
       ·exact Emz
     obtain⟨j,⟨hjm,hj⟩,hlt⟩:=hmin;have hjn:j<ops.size:=X;have ho:ops[j]?=D ops[j]:=dY hjn
     have:j∈d_ .any ops listed:=by
      refine Uo.2 ⟨hj,_,ho,fun e he _=> ?_⟩;have h1:=(oN hB ho).1 e he;have h2:=hlt e.on h1;have h3:e.on<listed.size:=X;cases hc:listed.getD e.on u;·exact EoH
      ·simpa[h3] using hc
     rw[h0] at this;cases this
   ·obtain⟨h1,o,ho,dX⟩:=Uo.1 hi;have hin:=(Jt.1 ho).1;have him:i<m:=by apply jZ;intro hge;apply hall;intro j hj;exact Ft hB hs hcl hi X j X
    have hdr: ∀e∈o.after,Oq .any e=u->R e.on (x e.on) w:=by exact Ep9
    have st:=hstep i o x w him ho hb hdr
    have next: ∀v w',Rel w w'->R i v w'->wpAny P .any ops Q fuel (listed.setIfInBounds i u) ((F x).put o.dst v) w':=by
     intro v w' hb' hv;rw[hF i o x v him ho];have hlt:=mw hs hin h1;refine ih _ _ w' X hI (hcl.set hs hi) (fun j hj hjn=> ?_) (hT.2.1 _ _ _ hb hb') (fun j hj hl=> ?_);·rw[XL u X];exact ht j hj hjn
     ·by_cases hji:j=i;·subst hji;rw[kE];exact hv
      ·exact Eop
    unfold wpOp;simp only[ho];unfold fJ at st;split;·exact Emt
    ·exact Epl
theorem EJb(hT:Kept Rel){a0:E6}(hm:P.follows .mixedOrders=u)(m:Nat)(hB:kU ops m=u)(hmn:m<=ops.size)(F:(Nat->V)->E6)(R:Nat->V->M->Prop)(x0:Nat->V)(my:a0=F x0) (hF: ∀i o x v,i<m->ops[i]?=D o->(F x).put o.dst v=F (J4 x i v)) (hR: ∀i v w w',i<m->R i v w->Rel w w'->R i v w') (hstep: ∀i o x w,i<m->ops[i]?=D o->Rel w0 w->(∀e∈o.after,Oq .any e=u->R e.on (x e.on) w)->fJ Rel P ops Q F R i o x w) (hend: ∀x w,Rel w0 w->(∀i,i<m->R i (x i) w)->IZ P ops Q (ops.toList.drop m) (F x) w):(ZP id ops u).wp P Q a0 w0:=by
 subst my;refine wp_region_any hm (EJa hT hB hmn hF hR hstep hend _ _ x0 _ ?_ Eh (fun j o _ h=>Pf) (fun j hj hjn=>by simp[hjn]) (hT.2.2 w0) (fun i hi h=> ?_));·exact Eni
 ·exact Epk
def X6(Rel:M->M->Prop)(P:Js)(ops:Array EN)(Q:UW->E6->M->Prop)(W:M)(F:(Nat->V)->E6)(R:Nat->V->M->Prop):Nat->List EN->Prop
 |_,[]=>True
 |i,o::l=>(∀x w,Rel W w->rF R o x w->fJ Rel P ops Q F R i o x w)/\X6 Rel P ops Q W F R (i+1) l
theorem X6.at{Rel:M->M->Prop}{W:M}{F:(Nat->V)->E6}{R:Nat->V->M->Prop}: ∀(l:List EN) (i:Nat),X6 Rel P ops Q W F R i l-> ∀k o,l[k]?=D o-> ∀x w,Rel W w->rF R o x w->fJ Rel P ops Q F R (i+k) o x w
 |[],_,_,_,_,h=>oL
 |p::l,i,hs,0,o,h=>by simp at h;subst h;exact hs.1
 |p::l,i,hs,k+1,o,h=>by have:=X6.at l (i+1) hs.2 k o Un;rw[show i+(k+1)=i+1+k from X];exact this
theorem aQ(hT:Kept Rel){a0:E6}(hm:P.follows .mixedOrders=u)(m:Nat)(hB:kU l.toArray m=u)(hmn:m<=l.length)(hnd:(O4 (l.take m)).Nodup)(R:Nat->V->M->Prop) (hR: ∀i v w w',i<m->R i v w->Rel w w'->R i v w') (hstep:X6 Rel P l.toArray Q w0 (fun x=>EL (l.take m) 0 x a0) R 0 (l.take m)) (hend: ∀x w,Rel w0 w->(∀i,i<m->R i (x i) w)->IZ P l.toArray Q (l.drop m) (EL (l.take m) 0 x a0) w):(ZP id l.toArray u).wp P Q a0 w0:=by
 have htk: ∀i o,i<m->l.toArray[i]?=D o->(l.take m)[i]?=D o:=fun i o hi ho=>by exact EnX
 refine EJb hT hm m hB uZ (fun x=>EL (l.take m) 0 x a0) R (held (l.take m) a0) (ja a0 _ 0 _ ?_).symm (fun i o x v hi ho=> ?_) hR (fun i o x w hi ho hb hd=> ?_) hend;·exact Eoa
 ·exact Emj
 ·have:=X6.at _ 0 hstep i o (htk i o hi ho) x w hb hd;exact Ens
theorem IU(hT:Kept Rel){o:EN}{v:V}(hw:I_ o (Jd ops (F x).tmps)=u) (hr:(Iw (F x).eval o).run P w= .ok (.value v) w) (h:R i v w):fJ Rel P ops Q F R i o x w:=by unfold fJ;exact Epr
theorem bL{o:EN}{v:V}(hw:I_ o (Jd ops (F x).tmps)=u) (hr:(Iw (F x).eval o).run P w= .ok (.value v) w') (hb:Rel w w') (h:R i v w'):fJ Rel P ops Q F R i o x w:=by unfold fJ;exact Eon
theorem Ot{o:EN}(hw:I_ o (Jd ops (F x).tmps)=u) (hr:(Iw (F x).eval o).run P w= .ok (.enter f args) w) (hc:Ef P f args w fun e w'=> ∃v,e=Eg v/\Rel w w'/\R i v w'):fJ Rel P ops Q F R i o x w:=by unfold fJ;exact Ent
end
inductive KQ where|kq(x:V)|kp(g i:Nat)
open KQ
@[irreducible] def Ev(p:Prop):Prop:=p
theorem Ev.mk{p:Prop}(h:Ev p):p:=by unfold Ev at h;exact h
theorem Ev.in{p:Prop}(h:p):Ev p:=by unfold Ev;exact h
theorem Eo{p:Prop}(h:p):Ev p:=Ev.in h
theorem I3{rest:List EN}{o:EN}{a:E6}(hg:o.guard=Z)(t:EC)(parts:Array (Nat×UH))(ho:o.op= .build t parts) (cells:Array V) (he:P.built t (parts.toList.map fun(i,x)=>(i,a.eval x))=D cells) (h:IZ P ops Q rest (a.put o.dst (EZ cells)) w):IZ P ops Q (o::rest) a w:=
 wpList_build hg t parts ho (by rw[Array.toList_map,he];rfl) (by rw[Array.toList_map,he];exact h)
theorem Is{a:E6}{x1 x2 x3 x4 x5}(d:Nat)(h:IZ P ops Q (⟨D d,x1,x2,x3,x4,x5⟩::l) a w):IZ P ops Q (⟨D d,x1,x2,x3,x4,x5⟩::l) a w:=h
theorem gdS{a:E6}{x0 x1 x2 x3 x4 x5 x6}(d:Nat)(h:IZ P ops Q (⟨x0,.store d x1 x2,x3,x4,x5,x6⟩::l) a w):IZ P ops Q (⟨x0,.store d x1 x2,x3,x4,x5,x6⟩::l) a w:=h
theorem JE{a:E6}{x0 x1 x2 x3 x4 x5}(d:Nat)(h:IZ P ops Q (⟨x0,.store d x1 x2,x3,x4,x5,Z⟩::l) a w):IZ P ops Q (⟨x0,.store d x1 x2,x3,x4,x5,Z⟩::l) a w:=h
theorem kX{a:E6}{x0 x1 x3 x4 x5 x6}(d:Nat)(h:IZ P ops Q (⟨x0,.load d x1,x3,x4,x5,x6⟩::l) a w):IZ P ops Q (⟨x0,.load d x1,x3,x4,x5,x6⟩::l) a w:=h
theorem U0{a:E6}{x0 x1 x3 x4 x5}(d:Nat)(h:IZ P ops Q (⟨x0,.load d x1,x3,x4,x5,Z⟩::l) a w):IZ P ops Q (⟨x0,.load d x1,x3,x4,x5,Z⟩::l) a w:=h
theorem I7{a:E6}{x1 x2 x3 x4 x5}(d:Nat)(h:Ev (IZ P ops Q (⟨D d,x1,x2,x3,x4,x5⟩::l) a w)):IZ P ops Q (⟨D d,x1,x2,x3,x4,x5⟩::l) a w:=h.mk
theorem fU{a:E6}{x0 x1 x2 x3 x4 x5 x6}(d:Nat)(h:Ev (IZ P ops Q (⟨x0,.store d x1 x2,x3,x4,x5,x6⟩::l) a w)):IZ P ops Q (⟨x0,.store d x1 x2,x3,x4,x5,x6⟩::l) a w:=h.mk
theorem EJc{a:E6}{x0 x1 x2 x3 x4 x5}(d:Nat)(h:Ev (IZ P ops Q (⟨x0,.store d x1 x2,x3,x4,x5,Z⟩::l) a w)):IZ P ops Q (⟨x0,.store d x1 x2,x3,x4,x5,Z⟩::l) a w:=h.mk
theorem Ejw{a:E6}{x0 x1 x3 x4 x5 x6}(d:Nat)(h:Ev (IZ P ops Q (⟨x0,.load d x1,x3,x4,x5,x6⟩::l) a w)):IZ P ops Q (⟨x0,.load d x1,x3,x4,x5,x6⟩::l) a w:=h.mk
theorem Pg{a:E6}{x0 x1 x3 x4 x5}(d:Nat)(h:Ev (IZ P ops Q (⟨x0,.load d x1,x3,x4,x5,Z⟩::l) a w)):IZ P ops Q (⟨x0,.load d x1,x3,x4,x5,Z⟩::l) a w:=h.mk
def H(w:M)(g:Nat)(cs:Array V)(T:EC):Prop:=w.heap[g]?=D (EJ cs T (0,0))
theorem H.G{T:EC}(h:H w g cs T)(hb:El w w'):H w' g cs T:=Xr h hb
theorem EQ{T:EC}(h:Ea (H w g cs T))(b:Io w.heap.size w w'):Ea (H w' g cs T):=O (h.out.G b)
theorem H.lt{T:EC}(h:H w g cs T):g<w.heap.size:=mh h
theorem H.drewN{T:EC}(h:H w g cs T)(n:Nat):H (w.drewN n) g cs T:=h
theorem H.drew{T:EC}(h:H w g cs T):H w.drew g cs T:=h
theorem H.new(w:M)(cs:Array V)(T:EC):H (w.alloc (EJ cs T)) w.heap.size cs T:=fL w _
theorem Pi(w:M)(o:Obj):(w.alloc o).heap.size=w.heap.size+1:=Eh
theorem H.new'(w:M)(cs:Array V)(T:EC){g:Nat}(h:g=w.heap.size):H (w.alloc (EJ cs T)) g cs T:=by subst h;exact fL w _
theorem H.alloc{T:EC}(h:H w g cs T)(o:Obj):H (w.alloc o) g cs T:=h.G (Ep w o)
theorem H.cell{T:EC}(h:H w g cs T)(i:Nat):w.cell? ⟨g,i,Z⟩=cs[i]?:=(Ja h).1 i
theorem H.JX{T:EC}(h:H w g cs T)(i:Nat):w.frozen? ⟨g,i,Z⟩=B:=(Ja h).2 i
theorem H.set{T:EC}(h:H w g cs T)(i:Nat)(v:V):H (w.setCell ⟨g,i,Z⟩ v) g (cs.setIfInBounds i v) T:=mj h i v
theorem H.other{T:EC}(h:H w g cs T)(g' i:Nat)(v:V)(hne:g≠g'):H (w.setCell ⟨g',i,Z⟩ v) g cs T:=by unfold H;rw[XM _ _ _ _ hne];exact h
theorem H.setRow{old:Array V}{T:EC}(h:H w g old T)(cs:Array V):H (w.setRow g cs) g cs T:=setRow_heap w g _ cs _ _ h
theorem H.setRow_other{T:EC}(h:H w g cs T)(g':Nat)(cs':Array V)(hne:g≠g'):H (w.setRow g' cs') g cs T:=(_root_.Go.setRow_other w g' g cs' hne).trans h
def JA(l:List Int):Array V:=(l.map (E .u32)).toArray
def Ej(l:List Int):Array V:=(l.map (E .u8)).toArray
theorem Fu(l:List Int):(JA l).size=l.length:=by simp[JA]
theorem Om(l:List Int):(Ej l).size=l.length:=by simp[Ej]
theorem ub(l:List Int)(i:Nat)(h:i<l.length):(JA l)[i]?=D (E Ou (l.getD i 0)):=by simp[JA,h]
theorem kZ(l:List Int)(i:Nat)(h:i<l.length):(Ej l)[i]?=D (E IP (l.getD i 0)):=by simp[Ej,h]
theorem Fv(l:List Int)(i:Nat)(x:Int):(JA l).setIfInBounds i (E Ou x)=JA (l.set i x):=by simp[JA,List.map_set]
theorem oQ(l:List Int)(i:Nat)(x:Int):(Ej l).setIfInBounds i (E IP x)=Ej (l.set i x):=by simp[Ej,List.map_set]
theorem Pj(l:List Int):(JA l).all (·.oneCell')=u:=by rw[Array.all_eq_true];intro i hi;simp[JA,OC]
theorem Xt(l:List Int):(Ej l).all (·.oneCell')=u:=by rw[Array.all_eq_true];intro i hi;simp[Ej,OC]
theorem aR{l:List Int}{T:EC}(h:H w g (Ej l) T)(hb: ∀x∈l,0<=x/\x<=255):Row w (D ⟨g,0,Z⟩) l:=Fh h U hb
def part(l:List Int)(i:Nat):List Int:=l.take i++hX (l.length-i) 0
theorem yT(l:List Int)(i:Nat)(h:i<=l.length):(part l i).length=l.length:=by simp[part];omega
theorem Pk(l:List Int):part l 0=hX l.length 0:=by simp[part]
theorem Pm(l:List Int)(i:Nat)(h:l.length<=i):part l i=l:=by simp[part,UZ h,show l.length-i=0 from X]
theorem EJd(l:List Int)(i k:Nat)(h:k<i)(hi:i<=l.length):(part l i).getD k 0=l.getD k 0:=by unfold part;simp only[UK];rw[bM Jn,bN h]
theorem Fw(l:List Int)(i:Nat)(h:i<l.length):(part l i).set i (l.getD i 0)=part l (i+1):=by
 apply List.ext_getElem?;intro j;rw[List.getElem?_set];have hl:=yT l i X;by_cases e:i=j;·subst e;rw[if_pos U,if_pos X];unfold part;rw[bM Jn,bN X];simp[h]
 ·rw[if_neg e];unfold part;rcases JG j i with hj|hj;·rw[bM Jn,bM Jn,bN hj,bN X]
  ·rw[ak Jn,ak Jn];simp only[aj,List.getElem?_replicate];rw[Nat.min_eq_left X,Nat.min_eq_left X];by_cases h1:j<l.length;·rw[if_pos X,if_pos X]
   ·rw[if_neg X,if_neg X]
def dZ(l old:List Int)(i:Nat):List Int:=l.take i++old.drop i
theorem Pn(l old:List Int):dZ l old 0=old:=by simp[dZ]
theorem Po(l old:List Int)(i:Nat)(h:l.length<=i)(h2:old.length<=i):dZ l old i=l:=by simp[dZ,UZ h,mq h2]
theorem Fx(l old:List Int)(i:Nat)(h:l.length=old.length)(hi:i<=l.length):(dZ l old i).length=l.length:=by simp[dZ];omega
theorem EJf(l old:List Int)(i k:Nat)(h:l.length=old.length)(hi:i<=k)(hk:k<l.length):(dZ l old i).getD k 0=old.getD k 0:=by unfold dZ;simp only[UK];rw[ak Jn,List.getElem?_drop];congr 2;simp;omega
theorem uc(l old:List Int)(i:Nat)(h:l.length=old.length)(hi:i<l.length):(dZ l old i).set i (l.getD i 0)=dZ l old (i+1):=by
 apply List.ext_getElem?;intro j;rw[List.getElem?_set];have hl:=Fx l old i h X;by_cases e:i=j;·subst e;rw[if_pos U,if_pos X];unfold dZ;rw[bM Jn,bN X];simp[hi]
 ·rw[if_neg e];unfold dZ;rcases JG j i with hj|hj;·rw[bM Jn,bM Jn,bN hj,bN X]
  ·rw[ak Jn,ak Jn,List.getElem?_drop,List.getElem?_drop];congr 1;simp;omega
def Od(P:Js)(T:EC)(cs:Array V):Prop:= ∀(ev:UH->V) (o:EN) (w:M),o.op= .alloc T->(Iw ev o).run P w= .ok (.value (Y (D ⟨w.heap.size,0,Z⟩))) (w.alloc (EJ cs T))
section
variable{P:Program}{ops:Array Oper}{rest:List Oper}{o:Oper}{a:Act}{w:World}{Q:Exit->Act->World->Prop}
theorem oR{T:EC}(hz:Od P T cs)(hw:I_ o (Jd ops a.tmps)=u)(ho:o.op= .alloc T) (h:IZ P ops Q rest (a.put o.dst (Y (D ⟨w.heap.size,0,Z⟩))) (w.alloc (EJ cs T))):IZ P ops Q (o::rest) a w:=Ol hw (hz _ _ _ ho) h
theorem Zo{T:EC}{n:Nat}(hT:IW P T n)(hw:I_ o (Jd ops a.tmps)=u)(hl:jU o a T g)(hg:Ea (H w g cs T))(hn:cs.size=n) (h:IZ P ops Q rest (a.put o.dst (EZ cs)) w):IZ P ops Q (o::rest) a w:=EI_ hT hw hl hg hn h
theorem X7{T:EC}{n:Nat}{old:Array V}(hT:IW P T n)(hw:I_ o (Jd ops a.tmps)=u)(hl:rD o a T g cs)(hg:Ea (H w g old T))(ho:old.size=n)(hn:cs.size=n) (h1:cs.all (·.oneCell')=u) (h:IZ P ops Q rest (a.put o.dst I6) (w.setRow g cs)):IZ P ops Q (o::rest) a w:=Fi hT hw hl hg ho hn h1 h
def kf(o:EN)(a:E6)(T:EC)(g off:Nat):Prop:=match o.op with| .load t x=>t=T/\a.eval x=Y (D ⟨g,off,Z⟩)|_=>False
theorem rL{T:EC}{n off:Nat}(hT:IW P T n)(hw:I_ o (Jd ops a.tmps)=u)(hl:kf o a T g off)(hg:Ea (H w g big TB))(hn:cs.size=n)(he:big.extract off (off+n)=cs) (h:IZ P ops Q rest (a.put o.dst (EZ cs)) w):IZ P ops Q (o::rest) a w:=by
 obtain⟨⟨d,hu,hd⟩,hi⟩:=hT;unfold kf at hl;split at hl;·rename_i t x ho;obtain⟨rfl,hx⟩:=hl;refine Ol hw ?_ h;subst he;have hrun:=run_loadVar_mid w g off t _ d (World.rangeAt_of_block hg.out off n) hu oS Fy;rw[Array.toArray_toList] at hrun;unfold Iw;exact Em6
 ·exact EpD
theorem Jl{T:EC}{n:Nat}(hT:IW P T n)(h:fn.results= #[.cell p T])(tmps:Array V)(w:M)(g:Nat)(cs:Array V) (hp:tmps.getD p I6=Y (D ⟨g,0,Z⟩)) (hg:H w g cs T) (hn:cs.size=n):(Xa fn tmps).run P w= .ok (EZ cs) w:=Fj hT h tmps w g cs hp hg hn
theorem wA{T:EC}(hz:Od P T cs)(h:IZ P ops Q rest (a.put o.dst (Y (D ⟨w.heap.size,0,Z⟩))) (w.alloc (EJ cs T))) (hw:I_ o (Jd ops a.tmps)=u:=by with_unfolding_all exact Ei U) (ho:o.op= .alloc T:=by with_unfolding_all exact U):IZ P ops Q (o::rest) a w:=oR hz hw ho h
theorem wL{T:EC}{n:Nat}(hT:IW P T n)(hg:Ea (H w g cs T))(h:IZ P ops Q rest (a.put o.dst (EZ cs)) w)(hn:cs.size=n:=by with_unfolding_all exact U) (hw:I_ o (Jd ops a.tmps)=u:=by with_unfolding_all exact Ei U) (hl:jU o a T g:=by with_unfolding_all exact⟨U,U⟩):IZ P ops Q (o::rest) a w:=Zo hT hw hl hg hn h
theorem wS{T:EC}{n:Nat}{old:Array V}(hT:IW P T n)(hg:Ea (H w g old T))(h:IZ P ops Q rest (a.put o.dst I6) (w.setRow g cs))(hn:cs.size=n:=by with_unfolding_all exact U) (h1:cs.all (·.oneCell')=u:=by with_unfolding_all exact U) (ho:old.size=n:=by with_unfolding_all exact U) (hw:I_ o (Jd ops a.tmps)=u:=by with_unfolding_all exact Ei U) (hl:rD o a T g cs:=by with_unfolding_all exact⟨U,U,U⟩):IZ P ops Q (o::rest) a w:=X7 hT hw hl hg ho hn h1 h
theorem wM{T:EC}{n off:Nat}(hT:IW P T n)(hg:Ea (H w g big TB))(h:IZ P ops Q rest (a.put o.dst (EZ cs)) w)(he:big.extract off (off+n)=cs:=by with_unfolding_all exact U)(hn:cs.size=n:=by with_unfolding_all exact U) (hw:I_ o (Jd ops a.tmps)=u:=by with_unfolding_all exact Ei U) (hl:kf o a T g off:=by with_unfolding_all exact⟨U,U⟩):IZ P ops Q (o::rest) a w:=rL hT hw hl hg hn he h
end
def Oa(w w':M):Prop:=El w w'
theorem EM:Kept Oa:=⟨fun _=>IE _ _,fun _ _ _ h k=>bt h k,fun w=>(IE _ w).drew⟩
theorem rF.at{o:EN}(hd:rF R o x w)(j:Nat)(h:(o.after.toList.any fun e=>Oq .any e&&e.on==j)=u):R j (x j) w:=by exact Eny
section
variable{P:Program}{ops:Array Oper}{Q:Exit->Act->World->Prop}{Rel:World->World->Prop}{F:(Nat->Value)->Act}{R:Nat->Value->World->Prop}{i:Nat}{o:Oper}{x:Nat->Value}{w:World}
theorem Fz(hT:Kept Rel){T:EC}{n g:Nat}{cs:Array V}(hA:IW P T n)(hw:I_ o (Jd ops (F x).tmps)=u) (hl:jU o (F x) T g) (hg:H w g cs T) (hn:cs.size=n) (h:R i (EZ cs) w):fJ Rel P ops Q F R i o x w:=by
 obtain⟨⟨d,hu,hd⟩,hi⟩:=hA;unfold jU at hl;split at hl
 ·rename_i t y ho;obtain⟨rfl,hx⟩:=hl;refine IU hT hw ?_ h;have hrun:(loadVar t ⟨g,0,Z⟩).run P w= .ok (EZ cs) w:=by cases d<;>first|(cases hd;done)|exact run_loadVar_row w g t t cs (0,0) _ hg hu rfl fM
  unfold Iw;exact Em6
 ·exact EpD
theorem EJg(hT:Kept Rel){T TB:EC}{n g off:Nat}{cs big:Array V}(hA:IW P T n)(hw:I_ o (Jd ops (F x).tmps)=u) (hl:kf o (F x) T g off) (hg:H w g big TB) (hn:cs.size=n) (he:big.extract off (off+n)=cs) (h:R i (EZ cs) w):fJ Rel P ops Q F R i o x w:=by
 obtain⟨⟨d,hu,hd⟩,hi⟩:=hA;unfold kf at hl;split at hl;·rename_i t y ho;obtain⟨rfl,hx⟩:=hl;refine IU hT hw ?_ h;exact Em5
 ·exact EpD
theorem Up{a:E6}{s y:UH}{v1 v2 v':V}(ho:o.op= .call {callee:= .builtin .append,args:= #[s,y],argTypes:= #[t,t]})(hs:a.eval s=v1)(hx:a.eval y=v2) (hr:(bP #[t,t] o.type #[v1,v2]).run P w= .ok v' w'):(Iw a.eval o).run P w= .ok (.value v') w':=by unfold Iw;simp only[ho,resolve,invoke,builtin,Ud,UU,Uf,List.map_toArray,UL,Xu,hs,hx,hr]
end
section
variable{P:Program}
theorem EJh(ats:Array EC)(ty:EC)(p q:Int)(W:M):(Builtin.max_ ats ty #[E I p,E I q]).run P W= .ok (E I (max p q)) W:=by simp[Builtin.max_,Builtin.max2,go_sem];try omega
variable{ops:Array Oper}{rest:List Oper}{o:Oper}{a:Act}{w:World}{Q:Exit->Act->World->Prop}
theorem EJi{p q r:Int}(s x:UH)(ats:Array EC)(hgd:o.guard=Z)(ho:o.op= .call {callee:= .builtin .max,args:= #[s,x],argTypes:=ats})(h1:a.eval s=E I p)(h2:a.eval x=E I q)(hr:max p q=r)(h:IZ P ops Q rest (a.put o.dst (E I r)) w):IZ P ops Q (o::rest) a w:=by subst hr;refine wpList_plain hgd fun K hK=> ?_;unfold ah Iw;simp only[ho,resolve,invoke,builtin,Ud,UU,Uf,List.map_toArray,UL,Xu,h1,h2,EJh];exact hK _ _ h
end
def Er(n:Nat):List Int:=hX n 0
theorem fS(n:Nat):(Er n).length=n:=by simp[Er]
theorem Pp(n:Nat): ∀x∈Er n,0<=x/\x<=255:=by intro x hx;simp[Er] at hx;omega
def putAt(l:List Int)(off:Nat)(ys:List Int):List Int:=l.take off++ys++l.drop (off+ys.length)
theorem EJj(l:List Int)(off:Nat)(ys:List Int)(h:off+ys.length<=l.length):(putAt l off ys).length=l.length:=by simp[putAt];omega
theorem EJk(l:List Int)(off:Nat):putAt l off []=l:=by simp[putAt]
theorem Pq(k:Nat)(hk:k<=1000000000000)(W:M): (Instr.makeSlice 23 (E I (k:Int)) (E I (k:Int))).run EU W= .ok (EI (D ⟨W.heap.size,0,Z⟩) k k) (W.alloc (EJ (Ej (Er k)) 5)):=by
 obtain⟨i0,hi,hz0,hz1,hz2⟩:=bQ mn;have h:=run_make (P:=EU) W 23 5 i0 _ bR hi hz0 .i64 .i64 k k X X (by rw[hz2];omega) X;rw[h,hz1,mo,Nat.mul_one]
 have e:aS (E IntKind.u8 0).cells k=Ej (Er k):=by
  apply Array.ext;·simp[aS,Ej,Er]
  ·intro i h1 h2;simp[aS,Ej,Er,Nat.mod_one,Value.cells]
 rw[e]
theorem EJl(w:M)(g off dLen dCap:Nat)(l:List Int)(T:EC)(hg:H w g (Ej l) T)(A:Option Eu)(sLen sCap:Nat)(xs:List Int)(hx:xs.length=sLen)(hr:Row w A xs)(m:Nat)(hm:Nat.min sLen dLen=m) (hfit:off+m<=l.length) (Y_:Option Eu) (hD:0<m->Y_=D ⟨g,off,Z⟩) (ty:EC): ∃w',(Builtin.copy_ #[23,23] ty #[EI Y_ dLen dCap,EI A sLen sCap]).run EU w= .ok (E I m) w'/\H w' g (Ej (putAt l off (xs.take m))) T/\Io g w w'/\(∀k,k≠g->w'.heap[k]?=w.heap[k]?)/\w'.heap.size=w.heap.size:=by
 have hs1:(Tryz.prog.info? 5).map (·.size)=D 1:=Ed;have hml:m<=xs.length:=by rw[hx,<-hm];exact Nat.min_le_left _ _
 rcases Nat.eq_zero_or_pos m with h0|h0
 ·subst h0;refine⟨w,?_,?_,IE _ _,fun _ _=>rfl,U⟩;·exact run_copy_none w _ _ ty _ Y_ A dLen dCap sLen sCap bR hs1 hm
  ·rw[Im,EJk];exact hg
 ·obtain rfl:=hD h0
  obtain⟨ad,rfl,hc⟩: ∃ad,A=D ad/\ ∀j v,((xs.take m).map (E .u8))[j]?=D v->w.cell? (ad.add j)=D v:=by
   rcases hr.1 with h|⟨b,o,h,hc⟩;·subst h;simp at hml;omega
   ·refine⟨_,h,fun j v hv=> ?_⟩
    have hj:j<(xs.take m).length:=by
     rcases JG j (xs.take m).length with h|h;·exact h
     ·rw[aM Un] at hv;cases hv
    have hj2:j<xs.length:=yQ;rw[Addr.add_mid,hc j hj2];have XC:j<m:=yQ;simp[bN XC,hj2] at hv;exact congrArg D hv
  have hrun:=run_copy_row (P:=EU) w 23 23 ty 5 g off dLen dCap ad sLen sCap (Ej l) T ((xs.take m).map (E .u8)) bR hs1 hg (by simp[hml,hm]) hc (by rw[Om];simp;omega) (by intro v hv;rw[da] at hv;obtain⟨a,_,rfl⟩:=hv;rfl);have e:((Ej l).toList.take off++(xs.take m).map (E .u8)++(Ej l).toList.drop (off+((xs.take m).map (E .u8)).length)).toArray=Ej (putAt l off (xs.take m)):=by simp[Ej,putAt]
  rw[e] at hrun;refine⟨_,by rw[hrun];simp[goInt,hml],hg.setRow _,E3 (IE _ _) (E7 _) _,fun k hk=>setRow_other w g k _ hk,Eh⟩
def Pr(o:EN)(a:E6)(Y_:Option Eu)(dLen dCap:Nat)(A:Option Eu)(sLen sCap:Nat):Prop:=match o.op with
 | .call ⟨.builtin .copy,args,tys⟩=>tys= #[23,23]/\ ∃d s,args= #[d,s]/\a.eval d=EI Y_ dLen dCap/\a.eval s=EI A sLen sCap
 |_=>False
section
variable{ops:Array Oper}{rest:List Oper}{o:Oper}{a:Act}{w:World}{Q:Exit->Act->World->Prop}
theorem kh(hw:I_ o (Jd ops a.tmps)=u)(g off dLen dCap:Nat)(l:List Int)(T:EC)(A:Option Eu)(sLen sCap:Nat)(xs:List Int)(m:Nat)(Y_:Option Eu) (hc:Pr o a Y_ dLen dCap A sLen sCap) (hg:Ea (H w g (Ej l) T)) (hx:xs.length=sLen) (hr:Ea (Row w A xs)) (hm:Nat.min sLen dLen=m) (hfit:off+m<=l.length) (hD:0<m->Y_=D ⟨g,off,Z⟩) (h: ∀w',H w' g (Ej (putAt l off (xs.take m))) T->Io g w w'->(∀k,k≠g->w'.heap[k]?=w.heap[k]?)->w'.heap.size=w.heap.size->IZ EU ops Q rest (a.put o.dst (E I m)) w'):IZ EU ops Q (o::rest) a w:=by
 obtain⟨w',hrun,h1,h2,h3,h4⟩:=EJl w g off dLen dCap l T hg.out A sLen sCap xs hx hr.out m hm hfit Y_ hD o.type;unfold Pr at hc;split at hc;·rename_i args tys ho;obtain⟨rfl,d,s,rfl,e1,e2⟩:=hc;refine Ol hw (v:=E I m) (w':=w') ?_ (h w' h1 h2 h3 h4);unfold Iw;simp only[ho,resolve,invoke,builtin,Ud,UU,Uf,List.map_toArray,UL,Xu,e1,e2,hrun]
 ·exact hc.elim
end
def Of:Option (Nat×Nat)->List V
 |none=>[Ec B,E I 0,E Il 0]
 |some (h,s)=>[Ec u,E I h,E Il s]
theorem Ps(v:Option (Nat×Nat)):oH v=EZ (Of v).toArray:=Pu
theorem rM(v:Option (Nat×Nat)):(Of v).length=3:=Pu
structure I4 where
 on:Bool
 (a m r:Int)
 key:List Int
 win:Option (Nat×Nat)
def O8(on:Bool)(a m:Int):List V:=[Ec on,E I a,E I m]
def I4.v(s:I4):List V:=O8 s.on s.a s.m++([E I s.r]++(s.key.map (E .u8)++Of s.win))
def Jp:I4:=⟨B,0,0,0,Er 32,Z⟩
structure I4.ok(s:I4):Prop where
 len:s.key.length=32
 bytes: ∀x∈s.key,0<=x/\x<=255
 win:rC s.win
theorem ud:Jp.ok:=⟨U,Pp 32,trivial⟩
theorem I4.J_{s:I4}(h:s.key.length=32):s.v.length=39:=by simp[I4.v,O8,h,rM]
structure EP where
 ZQ:Bool
 (sa sm:Int)
 (s0 s1 s2:I4)
 (E9 most:Int)
def EP.EY(T:EP):Nat->I4
 |0=>T.s0
 |1=>T.s1
 |_=>T.s2
def EP.put(T:EP):Nat->I4->EP
 |0,s=>{T with s0:=s}
 |1,s=>{T with s1:=s}
 |_,s=>{T with s2:=s}
def EP.hd(T:EP):List V:=[Ec T.ZQ,E I T.sa,E I T.sm]
def EP.tl(T:EP):List V:=[E I T.E9,E I T.most]
def EP.v(T:EP):List V:=T.hd++(T.s0.v++(T.s1.v++(T.s2.v++T.tl)))
def EP.pre(T:EP):Nat->List V
 |0=>T.hd
 |1=>T.hd++T.s0.v
 |_=>T.hd++T.s0.v++T.s1.v
def EP.post(T:EP):Nat->List V
 |0=>T.s1.v++(T.s2.v++T.tl)
 |1=>T.s2.v++T.tl
 |_=>T.tl
structure EP.ok(T:EP):Prop where
 s0:T.s0.ok
 s1:T.s1.ok
 s2:T.s2.ok
theorem EP.ok.EY{T:EP}(h:T.ok)(i:Nat):(T.EY i).ok:=by
 match i with
 |0=>exact h.s0
 |1=>exact h.s1
 |_+2=>exact h.s2
theorem EP.ok.put{T:EP}(h:T.ok)(i:Nat){s:I4}(hs:s.ok):(T.put i s).ok:=by
 match i with
 |0=>exact⟨hs,h.s1,h.s2⟩
 |1=>exact⟨h.s0,hs,h.s2⟩
 |_+2=>exact⟨h.s0,h.s1,hs⟩
theorem EP.rN(T:EP)(i:Nat):T.v=T.pre i++((T.EY i).v++T.post i):=by
 match i with
 |0=>rfl
 |1=>simp[EP.v,EP.pre,EP.post,EP.EY]
 |_+2=>simp[EP.v,EP.pre,EP.post,EP.EY]
theorem EP.uf(T:EP)(i:Nat)(s:I4):(T.put i s).v=T.pre i++(s.v++T.post i):=by
 match i with
 |0=>rfl
 |1=>simp[EP.v,EP.pre,EP.post,EP.put,EP.hd,EP.tl]
 |_+2=>simp[EP.v,EP.pre,EP.post,EP.put,EP.hd,EP.tl]
def so(i:Nat):Nat:=match i with|0=>3|1=>42|_=>81
theorem EP.oT{T:EP}(h:T.ok)(i:Nat):(T.pre i).length=so i:=by
 match i with
 |0=>rfl
 |1=>simp[EP.pre,so,EP.hd,I4.J_ h.s0.len]
 |_+2=>simp[EP.pre,so,EP.hd,I4.J_ h.s0.len,I4.J_ h.s1.len]
def E2(W:M)(g:Nat)(T:EP):Prop:=H W g T.v.toArray 163
theorem bS{o:Nat}{pre post:List V}(K:H W g (pre++(old++post)).toArray S)(ho:pre.length=o)(j:Nat)(hj:j<old.length):W.cell? ⟨g,o+j,Z⟩=old[j]?:=by rw[K.cell (o+j),Og,ak X,bM X];congr 1;omega
theorem XN{o n:Nat}(K:H W g cs S)(h:o+n<=cs.size):W.there g o n:=fun j hj=>by refine⟨?_,K.JX _⟩;rw[K.cell,dY X];rfl
structure EH(g:Nat)(W w':M):Prop where
 size:W.heap.size<=w'.heap.size
 keep: ∀k,k≠g->k<W.heap.size->w'.heap[k]?=W.heap[k]?
 bel: ∀b,b<=g->b<=W.heap.size->Io b W w'
theorem EH.refl(g:Nat)(W:M):EH g W W:=⟨E7 _,fun _ _ _=>rfl,fun _ _ _=>IE _ _⟩
theorem EH.trans{a b c:M}(h:EH g a b)(k:EH g b c):EH g a c:=
 ⟨EA h.size k.size,fun i hi hl=>(k.keep i hi (Nat.lt_of_lt_of_le hl h.size)).trans (h.keep i hi hl),fun i hi hl=>(h.bel i hi hl).trans (k.bel i hi (EA hl h.size))⟩
theorem EH.Ew(h:El W w'):EH g W w':=
 ⟨h.size,fun k _ hl=>h.block k hl,fun b _ hb=>h.mono hb⟩
theorem EH.Ek{g2:Nat}(h:EH g W w')(K:H W g2 cs S)(hne:g2≠g):H w' g2 cs S:=(h.keep g2 hne K.lt).trans K
theorem J6(p:Nat)(v:V):EH g W (W.setCell ⟨g,p,Z⟩ v):=
 ⟨FF,fun k hk _=>XM _ _ _ _ hk,fun b hb _=>(IE b W).setCell (p:=⟨g,p,Z⟩) hb v⟩
theorem Jq{g:Nat}: ∀(vs:List V) (o:Nat) (W:M),EH g W (W.setCells g o vs)
 |[],_,W=>EH.refl g W
 |v::r,o,W=>(J6 o v).trans (Jq r (o+1) _)
theorem Zp{g:Nat}{post:List V}{S:EC}: ∀(vs old pre:List V) (o:Nat) (W:M),H W g (pre++(old++post)).toArray S->vs.length=old.length->pre.length=o->H (W.setCells g o vs) g (pre++(vs++post)).toArray S
 |[],old,pre,o,W,K,hl,ho=>by have:old=[]:=aN hl.symm;subst this;exact K
 |v::vs,[],pre,o,W,K,hl,ho=>by simp at hl
 |v::vs,x::old,pre,o,W,K,hl,ho=>by
  have k1:=K.set o v;have e:(pre++(x::old++post)).toArray.setIfInBounds o v=((pre++[v])++(old++post)).toArray:=by rw[Ip];congr 1;rw[List.set_append_right _ _ X,ho,Nat.sub_self];simp
  rw[e] at k1;have k2:=Zp vs old (pre++[v]) (o+1) _ k1 (by simpa using hl) (by simp[ho]);rw[World.setCells];simpa using k2
theorem fT:IW EU 107 2:=⟨⟨_,Tryz.underlying107,U⟩,Ed⟩
theorem yV(most:Int)(w:M): Ef EU 174 #[E I most] w fun e w'=>e=Eg (EZ #[E I 0,E I (max most 0)])/\El w w':=by obtain⟨mb,hmb⟩:=Jo (max most 0);rw[hmb];go_enter Tryz.func174,Tryz.ntmps174;go_wp2_with ((with_reducible refine EJi (p:=most) (q:=0) (r:=mb) _ _ _ U U ?_ ?_ ?_ ?_);(·rfl);(·rfl);(·exact hmb));refine ET (by simp[Xa,Tryz.results174,go_sem]) U ⟨U,?_⟩;exact Ep w _
theorem yW(a m:Int)(w:M)(h1: -9223372036854775808<=a)(h3:m<=9223372036854775807): Ef EU 148 #[EZ #[E I a,E I m]] w fun e w'=>e=Eg (EZ #[E I (sat a m),E I m])/\El w w':=by have CS:=O<|fun W=>uJ a m W h1 h3;generalize sat a m=r at*;clear h1 h3;go_enter Tryz.func148,Tryz.ntmps148;go_wp2_with fail;refine(CS.out _).mono ?_;rintro e w' ⟨rfl,rfl⟩;go_wp2_with fail;refine ET FG U ⟨U,?_⟩;exact J9 w _ _
theorem yY(a m:Int)(w:M): Ef EU 149 #[EZ #[E I a,E I m]] w fun e w'=>e=Eg (Ec (decide (m<=a)))/\El w w':=by obtain⟨b,hb⟩:=Jo (decide (m<=a));rw[hb];go_enter Tryz.func149,Tryz.ntmps149;go_wp2_with fail;go_ret;exact⟨U,Ep w _⟩
theorem hZ(g o:Nat)(pre post:List V)(x y z:V)(S:EC)(E9:Int)(w:M)(K:H w g (pre++([x,y,z]++post)).toArray S)(ho:pre.length=o): Ef EU 127 #[Y (D ⟨g,o,Z⟩),E I E9] w fun e w'=>e=Eg (Et #[])/\H w' g (pre++(O8 u 0 (max E9 0)++post)).toArray S/\EH g w w':=by have c0:w.cell? ⟨g,o,Z⟩=D x:=bS (old:=[x,y,z]) K ho 0 Eh;have f0:w.frozen? ⟨g,o,Z⟩=B:=K.JX o;have K1:Ea (H (w.setCell ⟨g,o,Z⟩ (Ec u)) g (pre++([Ec u,y,z]++post)).toArray S):=O<|Zp (post:=[y,z]++post) [Ec u] [x] pre o w (by simpa using K) U ho;have ON:=O<|J6 (g:=g) (W:=w) o (Ec u);have HO:=O ho;have CT:=O<|fun W=>yV E9 W;generalize max E9 0=mb at*;clear K ho;go_enter Tryz.func127,Tryz.ntmps127;go_wp2_with fail;clear c0 f0;generalize w.setCell ⟨g,o,Z⟩ (Ec u)=w1 at*;refine(CT.out _).mono ?_;rintro e w2 ⟨rfl,b2⟩;replace K1:=O<|K1.out.G b2;replace ON:=O<|ON.out.trans (EH.Ew b2);clear b2 CT;have K2:Ea (H (w2.setCells g (o+1) [E I 0,E I mb]) g (pre++(O8 u 0 mb++post)).toArray S):=O (by have:=Zp (g:=g) (post:=post) (S:=S) [E I 0,E I mb] [y,z] (pre++[Ec u]) (o+1) w2 (by simpa[O8] using K1.out) U (by simp[HO.out]);simpa[O8] using this);have FH:=O<|ON.out.trans (Jq (g:=g) [E I 0,E I mb] (o+1) w2);have HS:Ea (o+1+2<=(pre++([Ec u,y,z]++post)).toArray.size):=O (by have:=HO.out;simp[O8];omega);have c1:w2.cell? ⟨g,o+1,Z⟩=D y:=bS (old:=[Ec u,y,z]) K1.out HO.out 1 Eh;have c2:w2.cell? ⟨g,o+1+1,Z⟩=D z:=bS (old:=[Ec u,y,z]) K1.out HO.out 2 Eh;have f1:w2.frozen? ⟨g,o+1,Z⟩=B:=K1.out.JX _;have f2:w2.frozen? ⟨g,o+1+1,Z⟩=B:=K1.out.JX _;go_wp2_with fail;go_end0;exact⟨U,K2.out,FH.out⟩
theorem Pv(g o:Nat)(pre post:List V)(y z:V)(S:EC)(w:M)(K:H w g (pre++([Ec B,y,z]++post)).toArray S)(ho:pre.length=o): Ef EU 145 #[Y (D ⟨g,o,Z⟩)] w fun e w'=>e=Eg (Ec B)/\w=w':=by have c0:w.cell? ⟨g,o,Z⟩=D (Ec B):=bS (old:=[Ec B,y,z]) K ho 0 Eh;clear K ho;go_enter Tryz.func145,Tryz.ntmps145;exact Els
theorem Pw(g o:Nat)(pre post:List V)(a m:Int)(S:EC)(w:M)(K:H w g (pre++(O8 u a m++post)).toArray S)(ho:pre.length=o)(h1: -9223372036854775808<=a)(h3:m<=9223372036854775807): Ef EU 145 #[Y (D ⟨g,o,Z⟩)] w fun e w'=>e=Eg (Ec (decide (m<=sat a m)))/\H w' g (pre++(O8 u (sat a m) m++post)).toArray S/\EH g w w':=by have c0:w.cell? ⟨g,o,Z⟩=D (Ec u):=bS (old:=O8 u a m) K ho 0 oV;have c1:w.cell? ⟨g,o+1,Z⟩=D (E I a):=bS (old:=O8 u a m) K ho 1 oV;have c2:w.cell? ⟨g,o+2,Z⟩=D (E I m):=bS (old:=O8 u a m) K ho 2 oV;have CS:=O<|fun W=>yW a m W h1 h3;have CD:=O<|fun W=>yY (sat a m) m W;generalize sat a m=r at*;generalize decide (m<=r)=rb at*;have KK:=O K;have HO:=O ho;clear K ho h1 h3;go_enter Tryz.func145,Tryz.ntmps145;go_wp2_with fail;refine(CS.out _).mono ?_;rintro e w2 ⟨rfl,b2⟩;replace KK:=O<|KK.out.G b2;have ON:Ea (EH g w w2):=O<|EH.Ew b2;clear b2 CS c0 c1 c2;have K2:Ea (H (w2.setCells g (o+1) [E I r,E I m]) g (pre++(O8 u r m++post)).toArray S):=O (by have:=Zp (g:=g) (post:=post) (S:=S) [E I r,E I m] [E I a,E I m] (pre++[Ec u]) (o+1) w2 (by simpa[O8] using KK.out) U (by simp[HO.out]);simpa[O8] using this);have FH:=O<|ON.out.trans (Jq (g:=g) [E I r,E I m] (o+1) w2);have HS:Ea (o+1+2<=(pre++(O8 u a m++post)).toArray.size):=O (by have:=HO.out;simp[O8];omega);have c1:w2.cell? ⟨g,o+1,Z⟩=D (E I a):=bS (old:=O8 u a m) KK.out HO.out 1 oV;have c2:w2.cell? ⟨g,o+1+1,Z⟩=D (E I m):=bS (old:=O8 u a m) KK.out HO.out 2 oV;have f1:w2.frozen? ⟨g,o+1,Z⟩=B:=KK.out.JX _;have f2:w2.frozen? ⟨g,o+1+1,Z⟩=B:=KK.out.JX _;go_wp2_with (with_reducible refine I7 19 ?_);apply Eo;clear c1 c2 f1 f2;rw[show(w2.setCell ⟨g,o+1,Z⟩ (E I r)).setCell ⟨g,o+1+1,Z⟩ (E I m)=w2.setCells g (o+1) [E I r,E I m] from rfl];generalize w2.setCells g (o+1) [E I r,E I m]=w3 at*;have c1:w3.cell? ⟨g,o+1,Z⟩=D (E I r):=bS (old:=O8 u r m) K2.out HO.out 1 oV;have c2:w3.cell? ⟨g,o+2,Z⟩=D (E I m):=bS (old:=O8 u r m) K2.out HO.out 2 oV;go_wp2_with fail;refine(CD.out _).mono ?_;rintro e w4 ⟨rfl,b4⟩;go_wp2_with fail;go_ret;exact⟨U,K2.out.G b4,FH.out.trans (EH.Ew b4)⟩
def Ji(w:M)(g:Nat)(Gs:List (List V))(S:EC):Prop:=H w g Gs.flatten.toArray S
def aT(Gs:List (List V))(k:Nat):Nat:=(Gs.take k).flatten.length
theorem ug(hk:Gs[k]?=D old):Gs.flatten=(Gs.take k).flatten++(old++(Gs.drop (k+1)).flatten):=by obtain⟨h,e⟩:=UG.1 hk;conv=>lhs;rw[<-hU k Gs,List.flatten_append,kJ h,List.flatten_cons,e]
theorem EJm(hk:Gs[k]?=D old)(vs:List V):(Gs.set k vs).flatten=(Gs.take k).flatten++(vs++(Gs.drop (k+1)).flatten):=by
 obtain⟨h,e⟩:=UG.1 hk;have h2:(Gs.set k vs)[k]?=D vs:=by rw[List.getElem?_set_self h]
 rw[ug h2,List.take_set_of_le (E7 _),List.drop_set_of_lt X]
theorem Ji.cell(K:Ji W g Gs S)(k:Nat){o:Nat}(hk:Gs[k]?=D old)(ho:aT Gs k=o)(j:Nat)(hj:j<old.length):W.cell? ⟨g,o+j,Z⟩=old[j]?:=by unfold Ji at K;rw[ug hk] at K;exact bS K ho j hj
theorem Ji.set(K:Ji W g Gs S)(k:Nat){o:Nat}(hk:Gs[k]?=D old)(ho:aT Gs k=o)(vs:List V)(hl:vs.length=old.length):Ji (W.setCells g o vs) g (Gs.set k vs) S:=by unfold Ji at*;rw[ug hk] at K;rw[EJm hk];exact Zp vs old _ o W K hl ho
theorem Ji.extract(k:Nat){o:Nat}(hk:Gs[k]?=D old)(ho:aT Gs k=o)(n:Nat)(hn:old.length=n):Gs.flatten.toArray.extract o (o+n)=old.toArray:=by subst ho hn;rw[ug hk];unfold aT;simp
theorem Ji.there(K:Ji W g Gs S)(k:Nat){o:Nat}(hk:Gs[k]?=D old)(ho:aT Gs k=o)(n:Nat)(hn:n<=old.length):W.there g o n:=by refine XN K ?_;rw[ug hk,List.size_toArray,I2,I2];unfold aT at ho;omega
theorem Ji.G(K:Ji W g Gs S)(hb:El W w'):Ji w' g Gs S:=H.G K hb
theorem Ji.lt(K:Ji W g Gs S):g<W.heap.size:=H.lt K
theorem Ji.JX(K:Ji W g Gs S)(i:Nat):W.frozen? ⟨g,i,Z⟩=B:=H.JX K i
section
variable{P:Program}{ops:Array Oper}{rest:List Oper}{o:Oper}{a:Act}{w:World}{Q:Exit->Act->World->Prop}
end
def ki:List EC:=[120,163,152,171,124]
def FM(o:Option Obj):Bool:=match o with
 |some (EJ _ T _)=>ki.contains T
 |_=>B
def uh(w:M)(k:Nat):Bool:=FM w.heap[k]?
structure FN(lo hi:Nat)(w w':M):Prop where
 os:w'.os=w.os
 tape:w'.tape=w.tape
 output:w'.output=w.output
 size:w.heap.size<=w'.heap.size
 keep: ∀k,k<hi->(lo<=k->uh w k=B)->w'.heap[k]?=w.heap[k]?
 stay: ∀k,lo<=k->k<hi->uh w k=u->uh w' k=u
theorem FN.G{lo hi:Nat}(h:FN lo hi w w')(hl:lo<=hi):Io lo w w':=
 ⟨h.os,h.tape,h.output,h.size,fun k hk=>h.keep k (Nat.lt_of_lt_of_le hk hl) (fun hc=>absurd hc X)⟩
structure EG where
 (h e o oa om la lm:Int)
 bad:Bool
def EG.v(t:EG):List V:=[E I t.h,E I t.e,E I t.o,E I t.oa,E I t.om,E I t.la,E I t.lm,Ec t.bad]
def JI(x:Int):Prop:= -9223372036854775808<=x/\x<=9223372036854775807
structure EG.ok(t:EG):Prop where
 h:0<=t.h/\t.h<=4
 e:0<=t.e/\t.e<=65535
 o: -1<=t.o/\t.o<=3
 oa:0<=t.oa/\t.oa<=1000
 om:0<=t.om/\t.om<=1000
 la:0<=t.la/\t.la<=1000
 lm:0<=t.lm/\t.lm<=1000
 off:0<=t.o->1<=t.h/\t.h<=3/\t.o≠t.h
def EG.pass(t:EG)(IY e:Int):EG:=⟨IY,e,-1,0,0,0,0,t.bad⟩
def EG.Uq(t:EG)(IY:Int):EG×Int:=
 if IY<0\/5<=IY then(t,1) else if IY=t.h then(t,25) else if 65535<=t.e then(t,24) else(t.pass IY (t.e+1),0)
def EG.bT(t:EG):EG:=t.pass 4 (if t.h≠4 then sat t.e 65535 else t.e)
def EG.end_(t:EG):EG:={t with o:= -1,oa:=0,om:=0}
def EG.make(t:EG)(po from_ IY:Int)(there:Bool):EG×Int:=
 if from_≠t.h then(t,20) else if 65535<=t.e then(t,24) else if IY=from_ then(t,25) else if IY<1\/3<IY\/there=B then(t,2) else if 0<=t.o then(t,28)
 else({t with o:=IY,oa:=0,om:=max po 0},0)
def EG.accept(t:EG)(from_ Oh:Int):EG×Int:=
 if t.o<0\/t.o≠from_ then(t,28) else if Oh≠t.e then(t,21) else t.Uq from_
def EG.oW(t:EG)(from_:Int):EG×Int:=if t.o<0\/t.o≠from_ then(t,28) else(t.end_,0)
def EG.drop(t:EG)(s:Int):EG×Bool:=if t.o<0\/t.o≠s then(t,B) else(t.end_,u)
def EG.UB(t:EG):EG×Int:=
 if t.o<0 then(t,-1) else if sat t.oa t.om<t.om then({t with oa:=sat t.oa t.om},-1) else({t with oa:=sat t.oa t.om}.end_,t.o)
structure XD where
 (r s q:Int)
def XD.v(b:XD):List V:=[E I b.r,E I b.s,E I b.q]
structure XD.ok(b:XD):Prop where
 r:JI b.r
 s:JI b.s
 q:JI b.q
def FR:XD:=⟨2,4,0⟩
structure Pt where
 (c a0 a1 a2 a3 n0 n1 n2 n3:Int)
 b:XD
def Pt.v(p:Pt):List V:=[E I p.c,E I p.a0,E I p.a1,E I p.a2,E I p.a3,E I p.n0,E I p.n1,E I p.n2,E I p.n3,E I p.b.r,E I p.b.s,E I p.b.q]
structure Pt.ok(p:Pt):Prop where
 c:JI p.c
 a0:JI p.a0
 a1:JI p.a1
 a2:JI p.a2
 a3:JI p.a3
 n0:JI p.n0
 n1:JI p.n1
 n2:JI p.n2
 n3:JI p.n3
structure Rec where
 (k s q e c h:Int)
deriving DecidableEq
def Rec.v(x:Rec):List V:=[E I x.k,E I x.s,E I x.q,E I x.e,E I x.c,E I x.h]
def Uh(l:List Rec):List V:=l.flatMap Rec.v
theorem ui(l:List Rec):(Uh l).length=l.length*6:=by
 induction l with
 |nil=>rfl
 |cons x r ih=>simp only[Uh,kj,I2,ZV] at*;rw[ih];simp[Rec.v];omega
theorem Px(a b:List Rec):Uh (a++b)=Uh a++Uh b:=by simp[Uh]
structure One where
 (s r a m:Int)
 n:Nat
def One.v(x:One):List V:=[E I x.s,E I x.r,E I x.a,E I x.m,E Il x.n]
structure One.ok(x:One):Prop where
 s:JI x.s
 r:JI x.r
 a:0<=x.a/\x.a<=1000
 m:0<=x.m/\x.m<=1000
 n:x.n<18446744073709551616
def ID(l:List One):List V:=l.flatMap One.v
theorem bV(l:List One):(ID l).length=l.length*5:=by
 induction l with
 |nil=>rfl
 |cons x r ih=>simp only[ID,kj,I2,ZV] at*;rw[ih];simp[One.v];omega
structure EB where
 tok:EG
 q:List One
 T:EP
 (samples beyond mode:Int)
 Em:XD
 pt:Pt
section
variable{P:Program}
theorem Py{T:EC}{n:Nat}(hA:IW P T n)(hg:H w g cs T)(hn:cs.size=n):(loadVar T ⟨g,0,Z⟩).run P w= .ok (EZ cs) w:=by obtain⟨⟨d,hu,hd⟩,hi⟩:=hA;cases d<;>first|(cases hd;done)|exact run_loadVar_row w g T T cs (0,0) _ hg hu rfl fM
theorem UM{q:Tmp}{T:EC}{n:Nat}(hT:IW P T n)(h:fn.results= #[.cell p T,.tmp q])(tmps:Array V)(w:M)(g:Nat)(cs:Array V)(v:V) (hp:tmps.getD p I6=Y (D ⟨g,0,Z⟩)) (hq:tmps.getD q I6=v) (hg:H w g cs T) (hn:cs.size=n):(Xa fn tmps).run P w= .ok (Et #[EZ cs,v]) w:=by have hp':tmps[p]?.getD I6=Y (D ⟨g,0,Z⟩):=mF;have hq':tmps[q]?.getD I6=v:=rP;simp[Xa,h,hp',hq',asAddr,Py hT hg hn]
theorem jb{q r:Tmp}{T:EC}{n:Nat}(hT:IW P T n)(h:fn.results= #[.cell p T,.tmp q,.tmp r])(tmps:Array V)(w:M)(g:Nat)(cs:Array V)(v v2:V) (hp:tmps.getD p I6=Y (D ⟨g,0,Z⟩)) (hq:tmps.getD q I6=v) (hr:tmps.getD r I6=v2) (hg:H w g cs T) (hn:cs.size=n):(Xa fn tmps).run P w= .ok (Et #[EZ cs,v,v2]) w:=by
 have hp':tmps[p]?.getD I6=Y (D ⟨g,0,Z⟩):=mF;have hq':tmps[q]?.getD I6=v:=rP;have hr':tmps[r]?.getD I6=v2:=by simpa using hr
 simp[Xa,h,hp',hq',hr',asAddr,Py hT hg hn]
end
def jc(ops:Array EN)(i k:Nat):Prop:= ∃o e,ops[i]?=D o/\e∈o.after/\Oq .any e=u/\e.on=k
def mG(R:Nat->(Nat->V)->M->Prop)(o:EN)(x:Nat->V)(w:M):Prop:= ∀e∈o.after,Oq .any e=u->R e.on x w
theorem mG.at{R:Nat->(Nat->V)->M->Prop}{o:EN}(hd:mG R o x w)(j:Nat)(h:(o.after.toList.any fun e=>Oq .any e&&e.on==j)=u):R j x w:=by exact Eny
section
variable{P:Program}{ops:Array Oper}{Q:Exit->Act->World->Prop}
@[irreducible] def Xb(Rel:M->M->Prop)(P:Js)(ops:Array EN)(Q:UW->E6->M->Prop)(F:(Nat->V)->E6)(R:Nat->(Nat->V)->M->Prop)(i:Nat)(o:EN)(x:Nat->V)(w:M):Prop:=
 if I_ o (Jd ops (F x).tmps) then o.wp P (F x) w (fun a' w'=> ∃v,a'=(F x).put o.dst v/\Rel w w'/\R i (J4 x i v) w') Q
 else R i (J4 x i I6) w
def fV(ops:Array EN):Bool:=(UA ops.size).all fun i=>match ops[i]? with
 |none=>B
 |some o=>o.after.all fun e=> !(Oq .any e)||decide (e.on<i)
theorem rQ{ops:Array EN}(h:fV ops=u){o:EN}(ho:ops[i]?=D o): ∀e∈o.after,Oq .any e=u->e.on<i:=by have hi:=(Jt.1 ho).1;have h1:=UY.1 h i (Z6.2 hi);simp only[ho] at h1;intro e he hb;have h2:=Array.all_eq_true_iff_forall_mem.1 h1 e he;rw[hb] at h2;simpa using h2
theorem EJn(hT:Kept Rel){m:Nat}(hB:fV ops=u)(hmn:m=ops.size){R:Nat->(Nat->V)->M->Prop} (hF: ∀i o x v,i<m->ops[i]?=D o->(F x).put o.dst v=F (J4 x i v)) (hR: ∀i x w w',i<m->R i x w->Rel w w'->R i x w') (hD: ∀i x y w,i<m->(∀k,(k=i\/jc ops i k)->x k=y k)->R i x w->R i y w) (hstep: ∀i o x w,i<m->ops[i]?=D o->Rel W w->(∀e∈o.after,Oq .any e=u->R e.on x w)->Xb Rel P ops Q F R i o x w) (hend: ∀x w,Rel W w->(∀i,i<m->R i x w)->IZ P ops Q (ops.toList.drop m) (F x) w): ∀(fuel:Nat) (listed:Array Bool) (x:Nat->V) (w:M),(UX ops listed).length<=fuel->listed.size=ops.size->bK ops listed->(∀j,m<=j->j<ops.size->listed.getD j u=B)->Rel W w-> (∀i,i<m->listed.getD i u=u->R i x w)->wpAny P .any ops Q fuel listed (F x) w:=by
 subst hmn;have done: ∀(fuel:Nat) (listed:Array Bool) (x:Nat->V) (w:M),(∀j,j<ops.size->listed.getD j u=u)->Rel W w->(∀i,i<ops.size->listed.getD i u=u->R i x w)->wpAny P .any ops Q fuel listed (F x) w:=by intro fuel listed x w hall hb hr;have he:=hend x w hb fun i hi=>hr i hi (hall i hi);rw[mq Eh] at he;refine wpAny_done ?_ he fuel;exact EmV
 intro fuel;induction fuel with
 |zero=>
  intro listed x w hf hs hcl ht hb hr;refine done 0 listed x w (fun j hj=> ?_) hb hr;cases hc:listed.getD j u;·exact El_
  ·rfl
 |succ fuel ih=>
  intro listed x w hf hs hcl ht hb hr;by_cases hall: ∀j,j<ops.size->listed.getD j u=u;·exact EoQ
  ·refine⟨fun h0=> ?_,fun i hi=> ?_⟩
   ·exfalso
    have hex: ∃j,j<ops.size/\listed.getD j u=B:=by
     apply jZ;intro hno
     exact hall fun j hj=>by
      cases hc:listed.getD j u;·exact Eog
      ·rfl
    have hmin: ∃j,(j<ops.size/\listed.getD j u=B)/\ ∀k,k<j-> ¬(k<ops.size/\listed.getD k u=B):=by
     obtain⟨j,hj⟩:=hex;induction j using mx with
     |ind j fE=>
      by_cases h: ∃k,k<j/\(k<ops.size/\listed.getD k u=B);·exact EmN
      ·exact Emz
    obtain⟨j,⟨hjn,hj⟩,hlt⟩:=hmin;have ho:ops[j]?=D ops[j]:=dY hjn
    have:j∈d_ .any ops listed:=by
     refine Uo.2 ⟨hj,_,ho,fun e he hbe=> ?_⟩;have h1:=rQ hB ho e he hbe;have h2:=hlt e.on h1;have h3:e.on<listed.size:=X;cases hc:listed.getD e.on u;·exact EoH
     ·simpa[h3] using hc
    rw[h0] at this;cases this
   ·obtain⟨h1,o,ho,dX⟩:=Uo.1 hi;have hin:=(Jt.1 ho).1;have hdr: ∀e∈o.after,Oq .any e=u->R e.on x w:=by intro e he hb';have h3:=dX e he hb';have h4:=rQ hB ho e he hb';have h5:e.on<listed.size:=X;exact hr e.on X oK
    have st:=hstep i o x w hin ho hb hdr
    have next: ∀v w',Rel w w'->R i (J4 x i v) w'->wpAny P .any ops Q fuel (listed.setIfInBounds i u) ((F x).put o.dst v) w':=by
     intro v w' hb' hv;rw[hF i o x v hin ho];have hlt:=mw hs hin h1;refine ih _ _ w' X hI (hcl.set hs hi) (fun j hj hjn=>absurd hjn X) (hT.2.1 _ _ _ hb hb') (fun j hj hl=> ?_);by_cases hji:j=i;·subst hji;exact hv
     ·rw[XL u (fun e=>hji e.symm)] at hl;refine hD j x _ w' hj (fun k hk=> ?_) (hR j _ w w' hj (hr j hj hl) hb');rw[jX];rintro rfl;rcases hk with hk|⟨oj,e,hoj,he,hbe,uj⟩;·exact hji hk.symm
      ·exact EnK
    unfold wpOp;simp only[ho];unfold Xb at st;split;·exact Emt
    ·exact Epl
theorem EJo(hT:Kept Rel){a0:E6}(hm:P.follows .mixedOrders=u)(m:Nat)(hB:fV ops=u)(hmn:m=ops.size)(F:(Nat->V)->E6)(R:Nat->(Nat->V)->M->Prop)(x0:Nat->V)(my:a0=F x0) (hF: ∀i o x v,i<m->ops[i]?=D o->(F x).put o.dst v=F (J4 x i v)) (hR: ∀i x w w',i<m->R i x w->Rel w w'->R i x w') (hD: ∀i x y w,i<m->(∀k,(k=i\/jc ops i k)->x k=y k)->R i x w->R i y w) (hstep: ∀i o x w,i<m->ops[i]?=D o->Rel w0 w->(∀e∈o.after,Oq .any e=u->R e.on x w)->Xb Rel P ops Q F R i o x w) (hend: ∀x w,Rel w0 w->(∀i,i<m->R i x w)->IZ P ops Q (ops.toList.drop m) (F x) w):(ZP id ops u).wp P Q a0 w0:=by
 subst my;refine wp_region_any hm (EJn hT hB hmn hF hR hD hstep hend _ _ x0 _ ?_ Eh (fun j o _ h=>Pf) (fun j hj hjn=>by simp[hjn]) (hT.2.2 w0) (fun i hi h=> ?_));·exact Eni
 ·exact Epk
def oY(Rel:M->M->Prop)(P:Js)(ops:Array EN)(Q:UW->E6->M->Prop)(W:M)(F:(Nat->V)->E6)(R:Nat->(Nat->V)->M->Prop):Nat->List EN->Prop
 |_,[]=>True
 |i,o::l=>(∀x w,Rel W w->mG R o x w->Xb Rel P ops Q F R i o x w)/\oY Rel P ops Q W F R (i+1) l
theorem oY.at{Rel:M->M->Prop}{W:M}{F:(Nat->V)->E6}{R:Nat->(Nat->V)->M->Prop}: ∀(l:List EN) (i:Nat),oY Rel P ops Q W F R i l-> ∀k o,l[k]?=D o-> ∀x w,Rel W w->mG R o x w->Xb Rel P ops Q F R (i+k) o x w
 |[],_,_,_,_,h=>oL
 |p::l,i,hs,0,o,h=>by simp at h;subst h;exact hs.1
 |p::l,i,hs,k+1,o,h=>by have:=oY.at l (i+1) hs.2 k o Un;rw[show i+(k+1)=i+1+k from X];exact this
theorem EJp(hT:Kept Rel){a0:E6}(hm:P.follows .mixedOrders=u)(m:Nat)(hB:fV l.toArray=u)(hmn:m=l.length)(hnd:(O4 (l.take m)).Nodup)(R:Nat->(Nat->V)->M->Prop) (hR: ∀i x w w',i<m->R i x w->Rel w w'->R i x w') (hD: ∀i x y w,i<m->(∀k,(k=i\/jc l.toArray i k)->x k=y k)->R i x w->R i y w) (hstep:oY Rel P l.toArray Q w0 (fun x=>EL (l.take m) 0 x a0) R 0 (l.take m)) (hend: ∀x w,Rel w0 w->(∀i,i<m->R i x w)->IZ P l.toArray Q (l.drop m) (EL (l.take m) 0 x a0) w):(ZP id l.toArray u).wp P Q a0 w0:=by
 have htk: ∀i o,i<m->l.toArray[i]?=D o->(l.take m)[i]?=D o:=fun i o hi ho=>by exact EnX
 refine EJo hT hm m hB uZ (fun x=>EL (l.take m) 0 x a0) R (held (l.take m) a0) (ja a0 _ 0 _ ?_).symm (fun i o x v hi ho=> ?_) hR hD (fun i o x w hi ho hb hd=> ?_) hend;·exact Eoa
 ·exact Emj
 ·have:=oY.at _ 0 hstep i o (htk i o hi ho) x w hb hd;exact Ens
theorem IQ(hT:Kept Rel){R:Nat->(Nat->V)->M->Prop}{o:EN}{v:V}(hw:I_ o (Jd ops (F x).tmps)=u) (hr:(Iw (F x).eval o).run P w= .ok (.value v) w) (h:R i (J4 x i v) w):Xb Rel P ops Q F R i o x w:=by unfold Xb;exact Epr
theorem Es{P:Js}{ops:Array EN}{Q:UW->E6->M->Prop}{R:Nat->(Nat->V)->M->Prop}{o:EN}{v:V}(hr:(Iw (F x).eval o).run P w= .ok (.value v) w)(h:R i (J4 x i v) w)(hw:o.guard=Z:=by rfl):Xb Oa P ops Q F R i o x w:=IQ EM (Ei hw) hr h
theorem Zq{R:Nat->(Nat->V)->M->Prop}{o:EN}{v:V}(hw:I_ o (Jd ops (F x).tmps)=u) (hr:(Iw (F x).eval o).run P w= .ok (.value v) w') (hb:Rel w w') (h:R i (J4 x i v) w'):Xb Rel P ops Q F R i o x w:=by unfold Xb;exact Eon
theorem JR{R:Nat->(Nat->V)->M->Prop}{o:EN}(hw:I_ o (Jd ops (F x).tmps)=u) (hr:(Iw (F x).eval o).run P w= .ok (.enter f args) w) (hc:Ef P f args w fun e w'=> ∃v,e=Eg v/\Rel w w'/\R i (J4 x i v) w'):Xb Rel P ops Q F R i o x w:=by unfold Xb;exact Ent
end
def RX(S:Nat->V->M->Prop)(j k:Nat)(S2:V->M->Prop):Nat->(Nat->V)->M->Prop:=fun i x w=>if i=j then S2 (x k) w else S i (x i) w
theorem RX.keep{S:Nat->V->M->Prop}{m:Nat}(h1: ∀i v w w',i<m->S i v w->Rel w w'->S i v w')(h2: ∀v w w',S2 v w->Rel w w'->S2 v w'): ∀i x w w',i<m->RX S j k S2 i x w->Rel w w'->RX S j k S2 i x w':=by
 intro i x w w' hi h hb;unfold RX at*;split;·rename_i e;rw[if_pos e] at h;exact h2 _ _ _ h hb
 ·rename_i e;rw[if_neg e] at h;exact h1 _ _ _ _ hi h hb
theorem RX.dep{S:Nat->V->M->Prop}{m:Nat}(hw:jc ops j k): ∀i x y w,i<m->(∀q,(q=i\/jc ops i q)->x q=y q)->RX S j k S2 i x w->RX S j k S2 i y w:=by
 intro i x y w hi hq h;unfold RX at*;split;·rename_i e;rw[if_pos e] at h;subst e;rw[<-hq k (.inr hw)];exact h
 ·rename_i e;rw[if_neg e] at h;rw[<-hq i (.inl rfl)];exact h
theorem uk(h:(match ops[i]? with|some o=>o.after.toList.any (fun e=>Oq .any e&&e.on==k)|none=>false)=u):jc ops i k:=by
 cases ho:ops[i]? with
 |none=>rw[ho] at h;cases h
 |some o=> rw[ho] at h;obtain⟨e,he,hb⟩:=List.any_eq_true.1 h;simp only[Oc,beq_iff_eq] at hb;exact⟨o,e,ho,Array.mem_toList_iff.1 he,hb.1,hb.2⟩
section
variable{P:Program}{ops:Array Oper}{Q:Exit->Act->World->Prop}{Rel:World->World->Prop}{F:(Nat->Value)->Act}{R:Nat->(Nat->Value)->World->Prop}{i:Nat}{o:Oper}{x:Nat->Value}{w:World}
theorem db{T:EC}{n:Nat}{old:Array V}(hA:IW P T n)(hw:I_ o (Jd ops (F x).tmps)=u)(hl:rD o (F x) T g cs)(hg:H w g old T)(ho:old.size=n)(hn:cs.size=n) (h1:cs.all (·.oneCell')=u) (hb:Rel w (w.setRow g cs)) (h:R i (J4 x i I6) (w.setRow g cs)):Xb Rel P ops Q F R i o x w:=by
 obtain⟨-,hi⟩:=hA;unfold rD at hl;split at hl
 ·rename_i t a b hop;obtain⟨rfl,hx,hy⟩:=hl;unfold Xb;rw[if_pos hw];have hrun:(Iw (F x).eval o).run P w= .ok .skip (w.setRow g cs):=by unfold Iw;simp only[hop,hx,hy,Instr.storeAt,dU,Ud,UU,Uf,run_storeVar_row _ g t t old cs hg fM (by rw[ho,hn]) h1]
  unfold ah;rw[hrun];exact⟨I6,rfl,hb,h⟩
 ·exact EpD
theorem mH(hT:Kept Rel){T:EC}{n g:Nat}{cs:Array V}(hA:IW P T n)(hw:I_ o (Jd ops (F x).tmps)=u) (hl:jU o (F x) T g) (hg:H w g cs T) (hn:cs.size=n) (h:R i (J4 x i (EZ cs)) w):Xb Rel P ops Q F R i o x w:=by
 obtain⟨⟨d,hu,hd⟩,hi⟩:=hA;unfold jU at hl;split at hl
 ·rename_i t y ho;obtain⟨rfl,hx⟩:=hl;refine IQ hT hw ?_ h;have hrun:(loadVar t ⟨g,0,Z⟩).run P w= .ok (EZ cs) w:=by cases d<;>first|(cases hd;done)|exact run_loadVar_row w g t t cs (0,0) _ hg hu rfl fM
  unfold Iw;exact Em6
 ·exact EpD
theorem aV(hT:Kept Rel){T TB:EC}{n g off:Nat}{cs big:Array V}(hA:IW P T n)(hw:I_ o (Jd ops (F x).tmps)=u) (hl:kf o (F x) T g off) (hg:H w g big TB) (hn:cs.size=n) (he:big.extract off (off+n)=cs) (h:R i (J4 x i (EZ cs)) w):Xb Rel P ops Q F R i o x w:=by
 obtain⟨⟨d,hu,hd⟩,hi⟩:=hA;unfold kf at hl;split at hl;·rename_i t y ho;obtain⟨rfl,hx⟩:=hl;refine IQ hT hw ?_ h;exact Em5
 ·exact EpD
end
def mK(b0:Nat)(T:EC)(cs:Array V)(w w':M):Prop:=
 w.heap.size<=w'.heap.size/\(b0<=w.heap.size->Io b0 w w')/\
 ∀(g:Nat) (c:Array V) (S:EC),H w g c S->H w' g c S\/(b0<=g/\S=T/\c.size=cs.size/\H w' g cs S)
theorem hG{T:EC}:Kept (mK b0 T cs):=by
 refine⟨fun w=>⟨E7 _,fun _=>IE _ _,fun g c S h=> .inl h⟩,?_,fun w=>⟨E7 _,fun _=>(IE _ _).drew,fun g c S h=> .inl h⟩⟩;rintro a b c ⟨h1,h2,h3⟩ ⟨k1,k2,k3⟩;refine⟨EA h1 k1,fun h=>(h2 h).trans (k2 (EA h h1)),fun g d S hg=> ?_⟩;rcases h3 g d S hg with h|⟨l,e,z,h⟩;·exact k3 g d S h
 ·rcases k3 g cs S h with h'|⟨l',e',z',h'⟩;·exact .inr ⟨l,e,z,h'⟩
  ·exact .inr ⟨l,e,z,h'⟩
theorem Pz{T:EC}(hb:El w w'):mK b0 T cs w w':=⟨hb.size,fun h=>hb.mono h,fun g c S h=> .inl (h.G hb)⟩
theorem EJq{T:EC}{old:Array V}(hk:H w g old T)(hg:b0<=g)(hs:old.size=cs.size):mK b0 T cs w (w.setRow g cs):=by
 refine⟨Eh,fun h=>E3 (g:=g) (IE b0 w) hg cs,fun k c S h=> ?_⟩;by_cases e:k=g;·subst e;have e2:=(show D (EJ c S (0,0))=D (EJ old T (0,0)) from h.symm.trans hk);injection e2 with e2;injection e2 with e3 e4;subst e3 e4;exact .inr ⟨hg,U,hs,hk.setRow cs⟩
 ·exact .inl (h.setRow_other g cs e)
theorem PA{T:EC}{c:Array V}(h:mK b0 T cs w w')(hk:H w g c S)(hn:g<b0\/S≠T\/c.size≠cs.size):H w' g c S:=by
 rcases h.2.2 g c S hk with h1|⟨l,e,z,-⟩;·exact h1
 ·rcases hn with hn|hn|hn;·omega
  ·exact absurd e hn
  ·exact absurd z hn
theorem EJr{T:EC}{c:Array V}(h:mK b0 T cs w w')(hk:H w g c T)(hs:c.size=cs.size): ∃c',c'.size=cs.size/\H w' g c' T:=by
 rcases h.2.2 g c T hk with h1|⟨-,-,-,h1⟩;·exact⟨c,hs,h1⟩
 ·exact⟨cs,U,h1⟩
theorem EJs{T:EC}(h:mK b0 T cs w w')(hk:H w g cs T):H w' g cs T:=by
 rcases h.2.2 g cs T hk with h1|⟨-,-,-,h1⟩;·exact h1
 ·exact h1
end Go.Proofs.YtclmichaaiohjaaGreatDoor
