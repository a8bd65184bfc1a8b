import Derived.Test.YtclmichaaiohjaaGreatDoorU00
import Derived.Laws.CopyRow
import Derived.Laws.IdiomCopy
import Derived.Laws.MakeOwn
set_option maxRecDepth 100000
set_option linter.unusedVariables false
set_option linter.unusedSimpArgs false
set_option maxHeartbeats 6400000
namespace Go.Proofs.YtclmichaaiohjaaGreatDoor
open RowKit
open _root_.Array renaming getElem?_eq_none->fD,replicate->au,getElem?_eq_some_iff->J4,getElem?_eq_getElem->ji
open Bool renaming true->EI,false->V,or_eq_true->k_,and_eq_true->UJ
open Classical renaming byContradiction->qi
open Go renaming bits->Iu,World->M,Calls->Eg,TypeId->Ez,Value->G,Addr->Ev,Program->Jd,bodyPost_ret->EV,binOp->XG,results->UW,Exit->UL,Act->E2,Oper->EG,wpQuiet->Xd,yielded->Ja,execOp->Ig,wpList->Ih,undef->Iv,getD_set_ne->Z4,mem_ready->Zt,Operand->JN,info_parts->bZ,madeCells->az,below_setRow->E6,wpQuiet_nil->I2
open Act renaming put->Ic
open Builtin renaming append_->bX
open Code renaming region->Z3
open DataW renaming trod->Zr
open Ending renaming returned->Eh
open Instr renaming loadAt->dZ,sureAddr->bI
open IntKind renaming wrap->na,bits->jZ,signed->ja,i64->I,u8->IT,u64->Il,u32->Of
open Lib renaming hid->J
open Obj renaming cells->Ec
open Oper renaming wp->cE
open Go.Proofs.Tryz renaming prog->Ea,underlying23->ba
open Region renaming wanted->I8,binds->Ur,ready->jh
open Result renaming andThen_ok->On
open RowKit renaming Below->Ir,Hid->Ed
open RowKit.Below renaming refl->E_,heap_setCell->ax
open Sem renaming run_bind->Om,run_pure->Oa
open Value renaming bool->EU,int->E,agg->EZ,slice->EJ,tuple->Es,pointer->Y,oneCell'->Ov
open World renaming block_lt_of_cell?->UV
open Int renaming toNat_natCast->kL
open List renaming getElem?_eq_none->am,mem_of_mem_take->fC,eq_nil_of_length_eq_zero->ao,getElem?_eq_getElem->JY,range->UM,mem_range->ar,mem_filterMap->kV,mem_cons_of_mem->Z5,mem_cons_self->fG,nodup_cons->kY,all_eq_true->XJ,getElem?_eq_some_iff->Xr,mem_iff_getElem?->da,cons_append->lI,take_append_drop->dR,take_succ_cons->Is,drop_eq_getElem_cons->lO,length_take->ZJ,replicate->dg,take_of_length_le->OV,getD_eq_getElem?_getD->Uj,getElem?_append_left->bO,getElem?_take_of_lt->bU,getElem?_append_right->ay,map_cons->Xs,map_nil->Zu,take_zero->Io,mem_map->bc,getElem?_toArray->J0,setIfInBounds_toArray->Ii,length_append->I1,flatMap_cons->nA,length_cons->Zw,filter_cons->ld,mem_cons->OY,getElem_mem->dW,getElem?_map->ls,append_assoc->UY,set_cons_succ->IJ,set_cons_zero->IU
open Nat renaming lt_or_ge->JW,le_trans->EB,le_refl->E9,zero_add->J9,zero_le->fL
open Option renaming some->X,none->Z,map_some->jb
open Option.some renaming inj->cI
variable{k Y4 g id i j d b0:Nat}{w w' W w'' w0:M}{xs:List Int}{x:Nat->G}{P:Jd}{t TB S:Ez}{cs args tmps old big:Array G}{p:Tmp}{f:FuncId}{Q:UL->E2->M->Prop}{l:List EG}{fn:Func}{listed:Array Bool}{F:(Nat->G)->E2}{want:Bool}{R:Nat->(Nat->G)->M->Prop}{ops:Array EG}{rest:List G}{Gs:List (List G)}{S2:G->M->Prop}{ks:List (Nat×Nat)}{Ph:Nat->M->Prop}
theorem iI(k:Nat)(hk:k<=62)(a:Int)(m:Int)(hm:m=((2^k-1:Nat):Int)):Iu .and .i64 a m=a%(2^k:Nat):=by
 subst hm;have hp:2^k<=2^62:=Nat.pow_le_pow_right D hk;have hp0:0<2^k:=Nat.two_pow_pos k;show IntKind.i64.wrap ((BitVec.ofInt 64 a&&&BitVec.ofInt 64 ((2^k-1:Nat):Int)).toNat:Int)=_;rw[BitVec.toNat_and,BitVec.toNat_ofInt,BitVec.ofInt_natCast,BitVec.toNat_ofNat,Nat.mod_eq_of_lt D,Nat.and_two_pow_sub_one_eq_mod];have e:(((a%((2^64:Nat):Int)).toNat%2^k:Nat):Int)=a%((2^k:Nat):Int):=by rw[Int.natCast_emod,Int.toNat_of_nonneg (Int.emod_nonneg _ D)];apply Int.emod_emod_of_dvd;exact_mod_cast Nat.pow_dvd_pow 2 D
 rw[e];have h1:=Int.emod_nonneg a (b:=((2^k:Nat):Int)) D;have h2:=Int.emod_lt_of_pos a (b:=((2^k:Nat):Int)) D;exact IntWalk.i64_in _ D
theorem EEJ(a:Int):Iu .and .i64 a 1=a%2:=iI 1 D a 1 rfl
theorem EEO(a:Int):Iu .and .i64 a 3=a%4:=iI 2 D a 3 rfl
theorem EEU(a:Int):Iu .and .i64 a 7=a%8:=iI 3 D a 7 rfl
theorem EEX(a:Int):Iu .and .i64 a 15=a%16:=iI 4 D a 15 rfl
theorem EEZ(a:Int):Iu .and .i64 a 31=a%32:=iI 5 D a 31 rfl
theorem EEa(a:Int):Iu .and .i64 a 255=a%256:=iI 8 D a 255 rfl
theorem EEb(a:Int):Iu .and .i64 a 1023=a%1024:=iI 10 D a 1023 rfl
theorem EEc(a:Int):Iu .and .i64 a 65535=a%65536:=iI 16 D a 65535 rfl
theorem EEd(a:Int):Iu .and .i64 a 1048575=a%1048576:=iI 20 D a 1048575 rfl
theorem EEf(a:Int):Iu .and .i64 a 4294967295=a%4294967296:=iI 32 D a 4294967295 rfl
attribute [go_sem] EEJ EEO EEU EEX EEZ EEa EEb EEc EEd EEf
theorem iJ{k:IntKind}{a b:Int}(h:a=b):Eh (.int k a)=Eh (.int k b):=by rw[h]
theorem xO{a b:Bool}(h:a=b):Eh (EU a)=Eh (EU b):=by rw[h]
def sat(n most:Int):Int:=if n<most then n+1 else most
def ak(n low high:Int):Int:=if n<low then low else if high<n then high else n
def Jp(now al En:Int):Int:=
 if En<1 then now
 else if now<=al then(if al-now<=En then al else now+En)
 else if now-al<=En then al else now-En
def has(nZ i:Int):Bool:=decide (0<=nZ/\0<=i/\i<=62)&&(nZ/2^i.toNat%2==1)
theorem EEg(n:Int):IntKind.u64.wrap n=n%18446744073709551616:=by simp[na,jZ,ja]
theorem L7(a b:Int)(h1: -9223372036854775808<=b)(h2:a<=9223372036854775807)(h:b<=a): IntKind.u64.wrap (IntKind.u64.wrap a-IntKind.u64.wrap b)=a-b:=by simp only[EEg];omega
theorem sF(n most:Int)(w:M)(h1: -9223372036854775808<=n)(h3:most<=9223372036854775807): Eg Ea 90 #[E I n,E I most] w fun e w'=>e=Eh (E I (sat n most))/\w=w':=by
 go_enter Tryz.func90,Tryz.ntmps90;go_wp2
 all_goals
  go_ret
  refine⟨iJ ?_,U⟩
  unfold sat
  split<;>omega
theorem sG(n low high:Int)(w:M): Eg Ea 184 #[E I n,E I low,E I high] w fun e w'=>e=Eh (E I (ak n low high))/\w=w':=by
 go_enter Tryz.func184,Tryz.ntmps184;go_wp2
 all_goals
  go_ret
  refine⟨iJ ?_,U⟩
  unfold ak
  repeat' split
  all_goals omega
theorem xU(now al En:Int)(w:M)(h1: -9223372036854775808<=now)(h2:now<=9223372036854775807)(h3: -9223372036854775808<=al)(h4:al<=9223372036854775807) (h5: -9223372036854775808<=En) (h6:En<=9223372036854775807): Eg Ea 152 #[E I now,E I al,E I En] w fun e w'=>e=Eh (E I (Jp now al En))/\w=w':=by
 by_cases hc:now<=al
 ·have e1:=L7 al now h1 h4 hc;go_enter Tryz.func152,Tryz.ntmps152;go_wp2
  all_goals
   go_ret
   refine⟨iJ ?_,U⟩
   unfold Jp
   repeat' split
   all_goals omega
 ·have e1:=L7 now al h3 h2 D;go_enter Tryz.func152,Tryz.ntmps152;go_wp2
  all_goals
   go_ret
   refine⟨iJ ?_,U⟩
   unfold Jp
   repeat' split
   all_goals omega
theorem Co(nZ i:Int)(w:M)(h1: -9223372036854775808<=nZ)(h2:nZ<=9223372036854775807): Eg Ea 163 #[E I nZ,E I i] w fun e w'=>e=Eh (EU (has nZ i))/\w=w':=by
 go_enter Tryz.func163,Tryz.ntmps163;go_wp2
 all_goals
  go_ret
  refine⟨xO ?_,U⟩
  unfold has
 ·rw[Ia D];rfl
 ·rw[IE D];rfl
 ·rw[Ia D];rfl
 ·rw[Ia D];rfl
section
open Go.ChangeShapes Go.WideShapes
section
variable{P:Program}{w:World}{r:Reach}{base:Nat}{t:TypeId}{v:Value}
theorem EEh{k:IntKind}(ht:P.underlying t=X (.int k))(h:Cell.okWide P w r base t v): ∃n,v= .int k n/\k.min<=n/\n<=k.max:=by simp only[Cell.okWide,ht,Cell.ok,IntKind.has] at h;cases v<;>simp_all
theorem EEi(ht:P.underlying t=X (.int .i64))(h:Cell.okWide P w r base t v): ∃n:Int,v=E I n/\ -9223372036854775808<=n/\n<=9223372036854775807:=by obtain⟨n,rfl,h1,h2⟩:=EEh ht h;exact⟨n,U,by simpa[IntKind.min,ja,jZ] using h1,by simp[IntKind.max,ja,jZ] at h2;omega⟩
theorem flat{ts:List Ez}(ha:(∃fs,P.underlying t=X (.struct fs))\/ ∃n e,P.underlying t=X (.array n e))(hts:P.cellTypes P.depth t=X ts)(hn:P.cellsOf t=ts.length) (h:Value.okWide P w r base t v): ∃cs:Array G,v=EZ cs/\cs.size=ts.length/\ ∀(i:Nat) Y3 c,ts[i]?=X Y3->cs[i]?=X c->Cell.okWide P w r base Y3 c:=by
 have h': ∃cs,v=EZ cs/\cs.size=P.cellsOf t/\Row.okWide P w r base t cs:=by rcases ha with⟨fs,ha⟩|⟨n,e,ha⟩<;>simpa only[Value.okWide,ha] using h
 obtain⟨cs,rfl,hs,ts',L8,_,hc⟩:=h';rw[hts] at L8;obtain rfl:ts=ts':=by simpa using L8
 refine⟨cs,U,D,fun i Y3 c hu hcs=> ?_⟩;obtain⟨u',hu',hok⟩:=hc i c hcs
 have hi:i<ts.length:=by
  rcases JW i ts.length with h|h;·exact h
  ·rw[am h] at hu;cases hu
 rw[Nat.mod_eq_of_lt hi,hu] at hu';obtain rfl:Y3=u':=by simpa using hu'
 exact hok
def L9(k:IntKind)(w:M)(v:G):Prop:=
 v= .slice Z 0 0\/
 ∃(x:Ev) (len cap:Nat) (zs:List Int),v=EJ (X x) len cap/\(0<cap->x.block<w.heap.size/\x.spot=Z)/\len<=cap/\cap<=9223372036854775807/\zs.length=cap/\(∀i,i<zs.length->w.cell? (x.add i)=X (.int k (zs.getD i 0)))/\ ∀n∈zs,(Lit.int k n).wf=EI
end
end
section
open Go.ChangeShapes Go.WideShapes
def Row(w:M)(a:Option Ev)(xs:List Int):Prop:=
 (xs=[]\/ ∃b off,a=X ⟨b,off,Z⟩/\ ∀i (h:i<xs.length),w.cell? ⟨b,off+i,Z⟩=X (E IT xs[i]))/\ ∀x∈xs,0<=x/\x<=255
theorem IH{a:Option Ev}(h:Row w a xs)(hb:Ek w w'):Row w' a xs:=by
 obtain⟨h|⟨b,off,rfl,hc⟩,h2⟩:=h;·exact⟨.inl h,h2⟩
 ·exact⟨.inr ⟨b,off,U,fun i hi=>by rw[hb.cell (UV _ _ (hc i hi))];exact hc i hi⟩,h2⟩
theorem L_{a:Option Ev}(h:Row W a xs)(q:Nat):Row (W.drewN q) a xs:=h
theorem nf(W:M)(a:Option Ev):Row W a []:=⟨.inl U,fun x hx=>sH⟩
theorem qI{a:Option Ev}(h:Row W a xs)(n:Nat):Row W a (xs.take n):=by
 obtain⟨h|⟨b,off,rfl,hc⟩,h2⟩:=h;·subst h;simpa using nf W a
 ·refine⟨.inr ⟨b,off,U,fun i hi=> ?_⟩,fun x hx=>h2 x (fC hx)⟩;rw[hc i qJ];simp
def xX(w:M)(v:G):Prop:=
 ∃(A:Option Ev) (xs:List Int) (cap:Nat),v=EJ A xs.length cap/\xs.length<=cap/\cap<=9223372036854775807/\Row w A xs/\(A=Z->cap=0)
theorem ME{x:Int}(h:(Lit.int .u8 x).wf=EI):0<=x/\x<=255:=by exact EnS
theorem MI{Y9:Type}{enc:Ez×G->Y9}{e:Ez}{v:G}{fuel:Nat}{x:DataW Y9×List MemPlace}(ht:P.underlying t=X (.slice e))(he:P.underlying e=X (.int .u8))(hc:P.cellsOf e=1) (hd:Zr enc P w 0 (fun _=>EI) EI fuel t [v]=X x):xX w v:=by
 rcases open_ints ht he hc hd with⟨hcs,_⟩|⟨ad,l,c,zs,hcs,_,hl,hm,hz,hx,hcell,hwz⟩;·simp at hcs;subst hcs;exact⟨Z,[],0,U,Ej,Ej,nf _ _,fun _=>rfl⟩
 ·simp at hcs;subst hcs;have hzc:zs.length=c:=by simpa using hz
  have hlen:(zs.take l).length=l:=ng;refine⟨X ad,zs.take l,c,by rw[hlen],D,by unfold maxLen at hm;omega,⟨?_,fun y hy=>ME (hwz y (fC hy))⟩,fun h=>Uq⟩;rcases Nat.eq_zero_or_pos c with h0|h0;·left;exact ao D
  ·right;have h1:=hcell 0 D;have e0:ad.add 0=ad:=by simp[Addr.add]
   rw[e0] at h1;obtain⟨b,off,spot⟩:=ad;have hs:=World.cell?_spot h1;simp at hs;subst hs;refine⟨b,off,U,fun i hi=> ?_⟩;have hi':i<l:=D;have:=hcell i D;have e:(⟨b,off,Z⟩:Ev).add i=⟨b,off+i,Z⟩:=Xo;rw[e] at this;exact Enh
theorem MJ(h:Ir Y4 w w')(k:Ek w' w'')(hB:Y4<=w.heap.size):Ir Y4 w w'':=
 h.trans (k.mono (EB hB h.size))
theorem bt(h:Ek w w')(k:Ek w' w''):Ek w w'':=h.trans (k.mono h.size)
theorem EW(h:Ed (Ir w.heap.size w w'))(k:Ir w'.heap.size w' w''):Ed (Ir w.heap.size w w''):=J (bt h.out k)
theorem iO{a:M}(h:Ir Y4 a w)(n:Nat):Ir Y4 a (w.drewN n):=⟨h.os,h.tape,h.output,h.size,h.block⟩
theorem JZ(w:M):Ek w w.drew:=⟨U,U,U,E9 _,fun _ _=>rfl⟩
theorem Er(w:M)(o:Obj):Ek w (w.alloc o):=(E_ _ _).alloc (E9 _) o
theorem J3(w:M)(o o':Obj):Ek w ((w.alloc o).alloc o'):=(Er w o).alloc Ej o'
theorem aq(w:M)(o o' o'':Obj):Ek w (((w.alloc o).alloc o').alloc o''):=(J3 w o o').alloc Jm o''
theorem XW(h:w.heap[g]?=X (Ec cs t (0,0))):(∀i,w.cell? ⟨g,i,Z⟩=cs[i]?)/\(∀i,w.frozen? ⟨g,i,Z⟩=V):=
 ⟨fun i=>cell_of_row w g i cs t (0,0) h,fun i=>frozen_of_row w g i cs t h⟩
theorem xZ{o:Obj}(h:w.heap[g]?=X o):g<w.heap.size:=by
 rcases JW g w.heap.size with h1|h1;·exact h1
 ·rw[fD h1] at h;cases h
theorem ZE{o:Obj}(h:w.heap[g]?=X o)(hb:Ek w w'):w'.heap[g]?=X o:=(hb.block g (xZ h)).trans h
theorem EEj{o o':Obj}(hb:Ir ((w.alloc o).alloc o').heap.size ((w.alloc o).alloc o') w'):w'.heap[w.heap.size]?=X o/\w'.heap[w.heap.size+1]?=X o'/\w.heap.size+1<w'.heap.size:=by refine⟨ZE (heap_alloc2_old _ _ _) hb,ZE (heap_alloc2_new _ _ _) hb,?_⟩;have:=hb.size;simp at this;omega
theorem Cp(hg:W.heap[g]?=X (Ec cs t (0,0)))(hc:cs=(xs.map (E .u8)).toArray)(hb: ∀x∈xs,0<=x/\x<=255): Row W (X ⟨g,0,Z⟩) xs:=by subst hc;refine⟨.inr ⟨g,0,U,fun i h=> ?_⟩,hb⟩;rw[cell_of_row W g (0+i) _ t (0,0) hg];simp[h]
theorem EEk(i:Nat):(w.alloc (Ec cs t)).cell? ⟨w.heap.size,i,Z⟩=cs[i]?:=cell_of_row _ _ i cs t (0,0) (heap_alloc_new w _)
theorem MO(hb:Ir (w.alloc (Ec cs t)).heap.size (w.alloc (Ec cs t)) w')(i:Nat):w'.cell? ⟨w.heap.size,i,Z⟩=cs[i]?:=
 (hb.cell (p:=⟨w.heap.size,i,Z⟩) Ej).trans (EEk i)
theorem MX{o:Obj}(hb:Ir (w.alloc o).heap.size (w.alloc o) w'):Ek w w':=
 MJ ((E_ _ _).alloc (E9 _) o) hb (E9 _)
theorem sK{p:Nat×Nat}(h:w.heap[g]?=X (Ec cs t p))(i:Nat)(v:G):(w.setCell ⟨g,i,Z⟩ v).heap[g]?=X (Ec (cs.setIfInBounds i v) t p):=by simp only[World.setCell,Array.getElem?_modify,if_true,h,jb];rfl
theorem MZ(h:Ir Y4 w.drew w'):Ir Y4 w w':=⟨h.os,h.tape,h.output,h.size,h.block⟩
theorem kK:(Tryz.prog.info? 5).map (fun i=>(i.zero,i.size,i.bytes))=X (X (E IT 0),1,1):=Ef
end
def nj:Option (Nat×Nat)->G
 |none=>EZ #[EU V,E I 0,E Il 0]
 |some (h,s)=>EZ #[EU EI,E I h,E Il s]
def ZI:Option (Nat×Nat)->Nat->Option (Nat×Nat)×Bool
 |none,n=>(X (n,1),EI)
 |some (h,s),n=>
  if h<n then(X (n,(s*2^(n-h))%2^64|||1),EI)
  else if h-n<64 then(X (h,s|||2^(h-n)),!s.testBit (h-n))
  else(X (h,s),V)
def qO:Option (Nat×Nat)->Prop
 |none=>True
 |some (h,s)=>h<=4294967295/\s<2^64
theorem EEl(s d:Nat)(c:Int)(hs:s<2^64)(hc:c=d)(W:M):(Op.shift BinOp.shl Il (s:Int) Il c).run Ea W= .ok (E Il ((s*2^d%2^64:Nat):Int)) W:=by
 subst hc
 have e:IntKind.u64.wrap ((s:Int)*2^(min d 64))=((s*2^d%2^64:Nat):Int):=by
  have c1:(s:Int)*2^(min d 64)=((s*2^(min d 64):Nat):Int):=Ej;rw[c1];have c2:IntKind.u64.wrap ((s*2^(min d 64):Nat):Int)=((s*2^(min d 64)%2^64:Nat):Int):=by simp[na,jZ,ja]
  rw[c2];congr 1;rcases JW d 64 with h|h;·rw[Nat.min_eq_left D]
  ·rw[Nat.min_eq_right h,Nat.mul_mod_left,show d=(d-64)+64 from D,Nat.pow_add,<-Nat.mul_assoc,Nat.mul_mod_left]
 unfold Op.shift;rw[if_neg D,kL];show(pure (E .u64 (IntKind.u64.wrap ((s:Int)*2^(min d 64)))):Sem G).run Ea W=_;rw[e];rfl
theorem EEm(n:Nat)(w:M)(h6:n<=4294967295): Eg Ea 173 #[EZ #[EU V,E I 0,E Il 0],E I n] w fun e w'=>e=Eh (EZ #[EU EI,E I n,E Il 1])/\Ek w w':=by go_enter Tryz.func173,Tryz.ntmps173;go_wp2;exact EV (v:=EZ #[EU EI,E I n,E Il 1]) xa U ⟨U,J3 _ _ _⟩
theorem EEn(h s n:Nat)(w:M)(h2:h<=4294967295)(h4:s<2^64)(h5:h<n)(h6:n<=4294967295): Eg Ea 173 #[EZ #[EU EI,E I h,E Il s],E I n] w fun e w'=>e=Eh (EZ #[EU EI,E I n,E Il (s*2^(n-h)%2^64|||1:Nat)])/\Ek w w':=by have hsh:=EEl s (n-h) ((n:Int)-(h:Int)) h4 D;have hor:Iu .or .u64 ((s*2^(n-h)%2^64:Nat):Int) 1=((s*2^(n-h)%2^64|||1:Nat):Int):=u64_or_nat _ 1 (Nat.mod_lt _ D) D;obtain⟨x,hx⟩:=OQ (s*2^(n-h)%2^64);rw[hx] at hsh hor;rw[hx];clear hx;go_enter Tryz.func173,Tryz.ntmps173;go_wp2;exact EV (v:=EZ #[EU EI,E I n,E Il (x|||1:Nat)]) xa U ⟨U,J3 _ _ _⟩
theorem EEo(h s n:Nat)(w:M)(h2:h<=4294967295)(h4:s<2^64)(h5:n<=h)(h7:h-n<64): Eg Ea 173 #[EZ #[EU EI,E I h,E Il s],E I n] w fun e w'=>e=Eh (EZ #[EU EI,E I h,E Il (s|||2^(h-n):Nat)])/\Ek w w':=by
 have hp:2^(h-n)<2^64:=Nat.pow_lt_pow_right D h7;have hor:Iu .or .u64 (s:Int) (IntKind.u64.wrap (2^(h-n)))=((s|||2^(h-n):Nat):Int):=by have c1:((2:Int)^(h-n))=((2^(h-n):Nat):Int):=Ej;rw[c1,IntWalk.u64_in _ ⟨Int.natCast_nonneg _,D⟩];exact u64_or_nat _ _ D D
 have h8:(h:Int)-(n:Int)<64:=D;have h9:(n:Int)<=h:=D;obtain⟨x,hx⟩:=OQ (s|||2^(h-n));rw[hx] at hor;rw[hx];clear hx hp;go_enter Tryz.func173,Tryz.ntmps173;go_wp2;go_region;go_wp2;exact EV (v:=EZ #[EU EI,E I h,E Il x]) xa U ⟨U,(J3 _ _ _).drew⟩
theorem EEp(h s n:Nat)(w:M)(h2:h<=4294967295)(h4:s<2^64)(h5:n<=h)(h7:64<=h-n): Eg Ea 173 #[EZ #[EU EI,E I h,E Il s],E I n] w fun e w'=>e=Eh (EZ #[EU EI,E I h,E Il s])/\Ek w w':=by have h8:64<=(h:Int)-(n:Int):=D;have h9:(n:Int)<=h:=D;go_enter Tryz.func173,Tryz.ntmps173;go_wp2;exact EV (v:=EZ #[EU EI,E I h,E Il s]) xa U ⟨U,J3 _ _ _⟩
theorem EEq(a1 a2:Bool)(h1 h2 s1 s2:Int)(W:M): (XG .neq 158 (EZ #[EU a2,E I h2,E Il s2]) (EZ #[EU a1,E I h1,E Il s1])).run Ea W= .ok (EU (decide (¬(a2=a1/\h2=h1/\s2=s1)))) W:=by by_cases e1:a2=a1<;>by_cases e2:h2=h1<;>by_cases e3:s2=s1<;>simp[go_sem,e1,e2,e3]
theorem xc(a1 a2:Bool)(h1 h2 s1 s2:Int)(n:Int)(w:M) (hc: ∀w,Eg Ea 173 #[EZ #[EU a1,E I h1,E Il s1],E I n] w fun e w'=>e=Eh (EZ #[EU a2,E I h2,E Il s2])/\Ek w w'): Eg Ea 126 #[EZ #[EU a1,E I h1,E Il s1],E I n] w fun e w'=>e=Eh (Es #[EZ #[EU a2,E I h2,E Il s2],EU (decide (¬(a2=a1/\h2=h1/\s2=s1)))])/\Ek w w':=by have HC:=J hc;have hn:=EEq a1 a2 h1 h2 s1 s2;obtain⟨b,hb⟩:=OQ (decide (¬(a2=a1/\h2=h1/\s2=s1)));rw[hb] at hn;rw[hb];clear hc hb;go_enter Tryz.func126,Tryz.ntmps126;go_wp2_with fail;refine(HC.out _).mono ?_;rintro e w1 ⟨rfl,b1⟩;obtain⟨q0,q1,hz⟩:=EEj b1;obtain⟨c0,f0⟩:=XW q0;obtain⟨c1,f1⟩:=XW q1;have Y4:=J<|(J3 w _ _).trans (b1.mono Jm);have hz0:w.heap.size<w1.heap.size:=D;clear q0 q1 b1 f0;go_wp2;go_region;go_wp2;refine EV (v:=Es #[EZ #[EU a2,E I h2,E Il s2],EU b]) ?_ U ⟨U,((((Y4.out.setCell Ej _).setCell Ej _).setCell Ej _).alloc (by simp[World.setCell];omega) _).drew⟩;simp[UW,Tryz.results126,go_sem,c1,hz]
theorem EEr(s d:Nat):(s|||2^d=s)↔s.testBit d=EI:=by
 constructor;·intro h;rw[<-h,Nat.testBit_or,Nat.testBit_two_pow];simp
 ·intro h;apply Nat.eq_of_testBit_eq;intro i;rw[Nat.testBit_or,Nat.testBit_two_pow];by_cases e:d=i;·subst e;simp[h]
  ·simp[e]
theorem EEs(v:Option (Nat×Nat))(n:Nat)(w:M)(hv:qO v)(hn:n<=4294967295): Eg Ea 126 #[nj v,E I n] w fun e w'=>e=Eh (Es #[nj (ZI v n).1,EU (ZI v n).2])/\Ek w w':=by
 rcases v with _|⟨h,s⟩;·refine(xc V EI 0 n 0 1 n w (fun w=>EEm n w hn)).mono ?_;rintro e w' ⟨rfl,hb⟩;exact⟨by simp[nj,ZI],hb⟩
 ·obtain⟨h1,h2⟩:=hv;by_cases c1:h<n;·refine(xc EI EI h n s _ n w (fun w=>EEn h s n w h1 h2 c1 hn)).mono ?_;rintro e w' ⟨rfl,hb⟩;refine⟨?_,hb⟩;have e1: ¬((n:Int)=(h:Int)):=D;simp only[ZI,if_pos c1,nj,e1,false_and,and_false,not_false_eq_true,decide_true]
  ·by_cases c2:h-n<64
   ·refine(xc EI EI h h s _ n w (fun w=>EEo h s n w h1 h2 D c2)).mono ?_;rintro e w' ⟨rfl,hb⟩;refine⟨?_,hb⟩;have e1:decide (¬(EI=EI/\(h:Int)=h/\((s|||2^(h-n):Nat):Int)=s))= !s.testBit (h-n):=by have:=EEr s (h-n);rw[Bool.eq_iff_iff];simp only[true_and,decide_eq_true_eq,Bool.not_eq_true',Int.natCast_inj];rw[this];simp
    rw[e1];simp only[ZI,if_neg c1,if_pos c2,nj]
   ·refine(xc EI EI h h s s n w (fun w=>EEp h s n w h1 h2 D D)).mono ?_;rintro e w' ⟨rfl,hb⟩;refine⟨?_,hb⟩;simp only[ZI,if_neg c1,if_neg c2,nj];simp
def Ext(W:M):Type:={w':M//Ek W w'}
def EA(W:M)(x:Ext W):M:=x.1
instance(W:M):Nonempty (Ext W):=⟨⟨W,E_ _ _⟩⟩
theorem EL(x:Ext W):Ek W (EA W x):=x.2
theorem IY{x:Ext W}{v:G}(h:Eg P f args (EA W x) fun e w'=>e=Eh v/\Ir (EA W x).heap.size (EA W x) w'): Eg P f args (EA W x) fun e w''=>e=Eh v/\ ∃y,w''=EA W y:=h.mono fun _ _ ⟨he,hb⟩=>⟨he,⟨⟨_,bt x.2 hb⟩,U⟩⟩
theorem Xp{x:Ext W}{v:G}(h:Eg P f args (EA W x) fun e w'=>e=Eh v/\EA W x=w'): Eg P f args (EA W x) fun e w''=>e=Eh v/\ ∃y,w''=EA W y:=h.mono fun _ _ ⟨he,hb⟩=>⟨he,⟨x,hb.symm⟩⟩
theorem Zs{a:E2}(hm:P.follows .mixedOrders=EI)(hB:Region.lexB .any l.toArray=EI) (h:Xd P l.toArray (fun w'=> ∃x,w'=EA w x) (fun a'=> ∀w',(∃x,w'=EA w x)->Q .normal a' w') l a):(Z3 id l.toArray EI).wp P Q a w:=
 wp_region_quiet (C:=fun w'=> ∃x,w'=EA w x) hm hB ⟨⟨w.drew,JZ w⟩,U⟩ UB
section
variable{P:Program}{ops:Array Oper}{rest:List Oper}{o:Oper}{a:Act}{w:World}{Q:Exit->Act->World->Prop}
theorem Jq(hw:I8 o (Ja ops a.tmps)=EI) {v:G} {w':M} (hr:(Ig a.eval o).run P w= .ok (.value v) w') (h:Ih P ops Q rest (a.put o.dst v) w'):Ih P ops Q (o::rest) a w:=by exact ElK
theorem EEt(hw:I8 o (Ja ops a.tmps)=EI) {w':M} (hr:(Ig a.eval o).run P w= .ok .skip w') (h:Ih P ops Q rest (a.put o.dst Iv) w'):Ih P ops Q (o::rest) a w:=by exact ElK
theorem Ei{o:EG}{ops:Array EG}(h:o.guard=Z):I8 o (Ja ops tmps)=EI:=by unfold I8;rw[h]
def IF(P:Jd)(T:Ez)(n:Nat):Prop:=(∃d,P.underlying T=X d/\(match d with| .struct _| .array _ _=>true|_=>false)=EI)/\(P.info? T).map (·.size)=X n
def kP(o:EG)(a:E2)(T:Ez)(g:Nat):Prop:=match o.op with| .load t x=>t=T/\a.eval x=Y (X ⟨g,0,Z⟩)|_=>False
def qU(o:EG)(a:E2)(T:Ez)(g:Nat)(cs:Array G):Prop:=match o.op with| .store t x y=>t=T/\a.eval x=Y (X ⟨g,0,Z⟩)/\a.eval y=EZ cs|_=>False
theorem EEu{T:Ez}{n:Nat}(hT:IF P T n)(hw:I8 o (Ja ops a.tmps)=EI)(hl:kP o a T g)(hg:Ed (w.heap[g]?=X (Ec cs T (0,0))))(hn:cs.size=n) (h:Ih P ops Q rest (a.put o.dst (EZ cs)) w):Ih P ops Q (o::rest) a w:=by
 obtain⟨⟨d,hu,hd⟩,hi⟩:=hT;unfold kP at hl;split at hl
 ·rename_i t x ho;obtain⟨rfl,hx⟩:=hl;refine Jq hw ?_ h;unfold Ig;have hrun:(loadVar t ⟨g,0,Z⟩).run P w= .ok (EZ cs) w:=by cases d<;>first|(cases hd;done)|exact run_loadVar_row w g t t cs (0,0) _ hg.out hu rfl fF
  simp only[ho,hx,dZ,bI,Om,Oa,On,hrun]
 ·exact hl.elim
theorem Cq{T:Ez}{n:Nat}(hT:IF P T n)(hw:I8 o (Ja ops a.tmps)=EI)(hl:qU o a T g cs)(hg:Ed (w.heap[g]?=X (Ec old T (0,0))))(ho:old.size=n)(hn:cs.size=n) (h1:cs.all (·.oneCell')=EI) (h:Ih P ops Q rest (a.put o.dst Iv) (w.setRow g cs)):Ih P ops Q (o::rest) a w:=by
 obtain⟨-,hi⟩:=hT;unfold qU at hl;split at hl;·rename_i t x y hop;obtain⟨rfl,hx,hy⟩:=hl;refine EEt hw ?_ h;unfold Ig;simp only[hop,hx,hy,Instr.storeAt,bI,Om,Oa,On,run_storeVar_row _ g t t old cs hg.out fF (by rw[ho,hn]) h1]
 ·exact hl.elim
theorem Cr{T:Ez}{n:Nat}(hT:IF P T n)(h:fn.results= #[.cell p T])(tmps:Array G)(w:M)(g:Nat)(cs:Array G) (hp:tmps.getD p Iv=Y (X ⟨g,0,Z⟩)) (hg:w.heap[g]?=X (Ec cs T (0,0))) (hn:cs.size=n):(UW fn tmps).run P w= .ok (EZ cs) w:=by obtain⟨⟨d,hu,hd⟩,hi⟩:=hT;cases d<;>first|(cases hd;done)|exact results_cell_row h tmps w g T cs (0,0) _ hp hg hu rfl fF
end
section
variable{P:Program}{ops:Array Oper}{Q:Exit->Act->World->Prop}
def J7(x:Nat->G)(i:Nat)(v:G):Nat->G:=fun j=>if j=i then v else x j
@[simp] theorem kR(x:Nat->G)(i:Nat)(v:G):J7 x i v i=v:=by simp[J7]
theorem nk(x:Nat->G)(i j:Nat)(v:G)(h:j≠i):J7 x i v j=x j:=by simp[J7,h]
@[irreducible] def Eh4(P:Jd)(ops:Array EG)(Q:UL->E2->M->Prop)(F:(Nat->G)->E2)(R:Nat->G->M->Prop)(i:Nat)(o:EG)(x:Nat->G)(w:M):Prop:=
 if I8 o (Ja ops (F x).tmps) then o.wp P (F x) w (fun a' w'=> ∃v,a'=(F x).put o.dst v/\Ek w w'/\R i v w') Q
 else R i Iv w
theorem EEv{o:EG}(ho:ops[k]?=X o)(rest:List EG)(a:E2)(w:M)(h:Ih P ops Q (o::rest) a w):wpOp P ops Q k (Ih P ops Q rest) a w:=by unfold wpOp;simp only[ho];unfold Ih at h;exact h
def Xq(ops:Array EG)(listed:Array Bool):List Nat:=(UM ops.size).filter fun i=> !listed.getD i EI
theorem kS:i∈Xq ops listed↔i<ops.size/\listed.getD i EI=V:=by unfold Xq;rw[List.mem_filter,ar,Bool.not_eq_true']
theorem sL(hs:listed.size=ops.size)(hi:i<ops.size)(h:listed.getD i EI=V):(Xq ops (listed.setIfInBounds i EI)).length<(Xq ops listed).length:=by
 have e:Xq ops (listed.setIfInBounds i EI)=(Xq ops listed).filter fun j=>j !=i:=by
  unfold Xq;rw[List.filter_filter];apply List.filter_congr;intro j hj;by_cases hij:i=j;·subst hij;exact Eml
  ·rw[Z4 EI hij];have:(j !=i)=EI:=Jm;rw[this];simp
 rw[e,List.length_filter_lt_length_iff_exists];exact⟨i,kS.2 ⟨hi,h⟩,Ej⟩
def ED:List EG->Nat->(Nat->G)->E2->E2
 |[],_,_,a=>a
 |o::l,i,x,a=>ED l (i+1) x (a.put o.dst (x i))
def J8(l:List EG):List Tmp:=l.filterMap (·.dst)
theorem Ma(d:Option Tmp)(v:G): ∀(l:List EG) (i:Nat) (x:Nat->G) (a:E2),(∀t,d=X t->t∉J8 l)->(ED l i x a).put d v=ED l i x (a.put d v)
 |[],_,_,_,_=>rfl
 |o::l,i,x,a,h=>by unfold ED;rw[Ma d v l (i+1) x _ (fun t ht hm=>h t ht (by unfold J8 at*;simp only[kV] at*;obtain⟨o',h1,h2⟩:=hm;exact⟨o',Z5 _ h1,h2⟩))];rw[Act.put_comm a (x:=o.dst) (y:=d) (x i) v];intro t ht e;refine h t e ?_;unfold J8;exact kV.2 ⟨o,fG,ht⟩
theorem xd: ∀(l:List EG) (i:Nat) (x y:Nat->G) (a:E2),(∀j,i<=j->x j=y j)->ED l i x a=ED l i y a
 |[],_,_,_,_,_=>rfl
 |o::l,i,x,y,a,h=>by unfold ED;rw[h i (E9 _)];exact xd l (i+1) x y _ fun j hj=>h j D
theorem EEw(a:E2)(d:Option Tmp)(Y3 v:G):(a.put d Y3).put d v=a.put d v:=by
 cases d with
 |none=>rfl
 |some t=>simp[Ic]
theorem kW: ∀(l:List EG) (i k:Nat) (x:Nat->G) (a:E2) (o:EG) (v:G),(J8 l).Nodup->l[k]?=X o->(ED l i x a).put o.dst v=ED l i (J7 x (i+k) v) a
 |[],_,_,_,_,_,_,_,h=>qX
 |p::l,i,0,x,a,o,v,hn,h=>by simp at h;subst h;unfold ED;rw[show J7 x (i+0) v i=v from kR x i v,xd l (i+1) (J7 x (i+0) v) x _ (fun j hj=>nk _ _ _ _ D)];rw[Ma p.dst v l (i+1) x _ ?_,EEw];intro t ht hm;unfold J8 at hn;rw[List.filterMap_cons,ht] at hn;exact(kY.1 hn).1 hm
 |p::l,i,k+1,x,a,o,v,hn,h=>by
  unfold ED
  have hn':(J8 l).Nodup:=by
   unfold J8 at*;rw[List.filterMap_cons] at hn;cases hp:p.dst with
   |none=>rw[hp] at hn;exact hn
   |some t=>rw[hp] at hn;exact(kY.1 hn).2
  rw[kW l (i+1) k x _ o v hn' UB,nk _ _ _ _ (show i≠i+(k+1) from D),show i+1+k=i+(k+1) from D]
def held(l:List EG)(a:E2):Nat->G:=fun i=>match l[i]? with
 |some o=>(match o.dst with|some d=>a.tmps.getD d Iv|none=>Iv)
 |none=>Iv
theorem jc(a:E2): ∀(l:List EG) (i:Nat) (x:Nat->G),(∀k o,l[k]?=X o-> ∀d,o.dst=X d->x (i+k)=a.tmps.getD d Iv)->ED l i x a=a
 |[],_,_,_=>rfl
 |o::l,i,x,h=>by
  unfold ED
  have e:a.put o.dst (x i)=a:=by
   cases hd:o.dst with
   |none=>rfl
   |some d=>
    have:=h 0 o U d hd;rw[Nat.add_zero] at this;rw[this];simp only[Ic];congr 1;apply Array.ext;·simp
    ·intro j h1 h2;by_cases hj:d=j;·subst hj;simp[h2]
     ·rw[Array.getElem_setIfInBounds_ne h2 hj]
  rw[e];exact jc a l (i+1) x fun k o' ho d hd=>by have:=h (k+1) o' sM d hd;rw[<-this];congr 1;omega
def xf(R:Nat->G->M->Prop)(o:EG)(x:Nat->G)(w:M):Prop:= ∀e∈o.after,Ur .any e=EI->R e.on (x e.on) w
end
section
variable{P:Program}{ops:Array Oper}{Q:Exit->Act->World->Prop}{C:World->Prop}
def qZ(l:List EG)(ops:Array EG):Bool:=
 l.all fun o=>(UM l.length).all fun j=>match l[j]? with
  |none=>EI
  |some p=>(o.after.any fun e=>Ur .any e&&e.on==j)||(match p.dst with|some d=> !(o.looksAt ops).contains d|none=>true)
theorem EEx(h:qZ l ops=EI){o p:EG}(ho:o∈l)(hp:l[j]?=X p): (∃e∈o.after,Ur .any e=EI/\e.on=j)\/(∀d,p.dst=X d->d∉o.looksAt ops):=by
 have h1:=XJ.1 h o ho;have hj:=(Xr.1 hp).1;have h2:=XJ.1 h1 j (ar.2 hj);simp only[hp,k_] at h2;rcases h2 with h2|h2;·left;obtain⟨e,he,hb⟩:=Array.any_eq_true'.1 h2;simp only[UJ,beq_iff_eq] at hb;exact⟨e,he,hb.1,hb.2⟩
 ·right;intro d hd;rw[hd] at h2;simpa using h2
def mix(x y:Nat->G)(k:Nat):Nat->G:=fun j=>if j<k then y j else x j
theorem EEy(x y:Nat->G):mix x y 0=x:=by funext j;simp[mix]
theorem Mb(x y:Nat->G)(k:Nat):mix x y (k+1)=J7 (mix x y k) k (y k):=by
 funext j;unfold mix J7;by_cases h:j=k;·subst h;simp
 ·rw[if_neg h];by_cases h2:j<k;·simp[h2,show j<k+1 from D]
  ·simp[h2,show¬j<k+1 from D]
theorem EEz(hnd:(J8 l).Nodup)(hap:qZ l ops=EI)(hsel:Region.noSelect l.toArray=EI){o:EG}(ho:o∈l)(x y:Nat->G)(a:E2) (hd: ∀e∈o.after,Ur .any e=EI->x e.on=y e.on): ∀k,k<=l.length-> Ig (ED l 0 (mix x y k) a).eval o=Ig (ED l 0 x a).eval o/\I8 o (Ja ops (ED l 0 (mix x y k) a).tmps)=I8 o (Ja ops (ED l 0 x a).tmps):=by
 intro k;induction k with
 |zero=>intro _;rw[EEy];exact⟨U,U⟩
 |succ k ih=>
  intro hk;have ih:=ih D;have hp:l[k]?=X l[k]:=JY D;rcases EEx hap ho hp with⟨e,he,hb,heq⟩|h
  ·have e1:mix x y (k+1)=mix x y k:=by
    rw[Mb];funext j;unfold J7;split;·rename_i h;subst h;have:=hd e he hb;rw[heq] at this;simp[mix,this]
    ·rfl
   rw[e1];exact ih
  ·have e1:ED l 0 (mix x y (k+1)) a=(ED l 0 (mix x y k) a).put l[k].dst (y k):=by rw[Mb,kW l 0 k _ a l[k] (y k) hnd hp,J9]
   have hs: ∀cs b,o.op≠ .select cs b:=by obtain⟨i,hi⟩:=da.1 ho;exact fun cs b=>Region.noSelect_spec hsel i o cs b XO
   rw[e1,execOp_put o hs _ _ _ h,wanted_put o _ _ _ h];exact ih
theorem lE: ∀(l:List EG) (i:Nat) (x y:Nat->G) (a:E2),(∀j,i<=j->j<i+l.length->x j=y j)->ED l i x a=ED l i y a
 |[],_,_,_,_,_=>rfl
 |o::l,i,x,y,a,h=>by unfold ED;rw[h i (E9 _) Ej];exact lE l (i+1) x y _ fun j hj hl=>h j D Jm
theorem sN: ∀(l1 l2:List EG) (i:Nat) (x:Nat->G) (a:E2),ED (l1++l2) i x a=ED l2 (i+l1.length) x (ED l1 i x a)
 |[],_,_,_,_=>rfl
 |o::l1,l2,i,x,a=>by rw[lI];unfold ED;rw[sN l1 l2 (i+1) x _,show i+(o::l1).length=i+1+l1.length from Jm];cases l2<;>rfl
theorem xg: ∀(l:List EG) (i:Nat) (x:Nat->G) (a:E2) (d:Tmp),d∉J8 l->(ED l i x a).tmps.getD d Iv=a.tmps.getD d Iv
 |[],_,_,_,_,_=>rfl
 |o::l,i,x,a,d,h=>by
  unfold ED;have h2:d∉J8 l:=fun hm=>h (by unfold J8 at*;simp only[kV] at*;obtain⟨o',h1,h2⟩:=hm;exact⟨o',Z5 _ h1,h2⟩);rw[xg l (i+1) x _ d h2];cases ho:o.dst with
  |none=>rfl
  |some t=> have hne:t≠d:=fun e=>h (by subst e;unfold J8;exact kV.2 ⟨o,fG,ho⟩);simp only[Ic,Array.getD_eq_getD_getElem?];rw[Array.getElem?_setIfInBounds_ne hne]
theorem Cs(hn:(J8 l).Nodup){p:EG}{d:Tmp}(hp:l[k+j]?=X p)(hd:p.dst=X d):d∉J8 (l.take k):=by
 have hs:l=l.take k++l.drop k:=(dR k l).symm
 have hds:J8 l=J8 (l.take k)++J8 (l.drop k):=by
  conv=>lhs;rw[hs]
  unfold J8;rw[List.filterMap_append]
 rw[hds,List.nodup_append] at hn;intro hm;have hm2:d∈J8 (l.drop k):=by unfold J8;refine kV.2 ⟨p,da.2 ⟨j,?_⟩,hd⟩;rw[List.getElem?_drop];exact hp
 exact hn.2.2 d hm d hm2 U
theorem xh{n:Nat}(h:j<(au n V).size):(au n V).getD j EI=V:=by have:j<n:=UB;simp[this]
theorem Ct(hnd:(J8 l).Nodup)(hap:qZ l ops=EI)(hsel:Region.noSelect l.toArray=EI){o:EG}(ho:o∈l)(x y:Nat->G)(a:E2) (hd: ∀e∈o.after,Ur .any e=EI->x e.on=y e.on): Ig (ED l 0 y a).eval o=Ig (ED l 0 x a).eval o/\I8 o (Ja ops (ED l 0 y a).tmps)=I8 o (Ja ops (ED l 0 x a).tmps):=by
 have h:=EEz hnd hap hsel ho x y a hd l.length (E9 _);have e:ED l 0 (mix x y l.length) a=ED l 0 y a:=lE l 0 _ _ a fun j _ hj=>by simp[mix,show j<l.length from D]
 rw[e] at h;exact h
theorem xi{K:E2->Prop}: ∀(l:List EG) (i:Nat) (a:E2),Xd P ops C K l a-> ∃y:Nat->G,(∀k o,l[k]?=X o->YieldsIn P ops C o (y (i+k)) (ED (l.take k) i y a))/\K (ED l i y a)
 |[],_,_,h=>⟨fun _=>Iv,fun k o ho=>by simp at ho,h⟩
 |o::l,i,a,h=>by
  have hv: ∃v,YieldsIn P ops C o v a/\Xd P ops C K l (a.put o.dst v):=by
   unfold Xd at h;by_cases hw:I8 o (Ja ops a.tmps)=EI;·rw[if_pos hw] at h;obtain⟨v,h1,h2⟩:=h;exact⟨v,.inl ⟨hw,h1⟩,h2⟩
   ·rw[if_neg hw] at h;exact⟨Iv,.inr ⟨by simpa using hw,U⟩,h⟩
  obtain⟨v,hy,hK⟩:=hv;obtain⟨y,h1,h2⟩:=xi l (i+1) _ hK;have e: ∀j,i+1<=j->J7 y i v j=y j:=fun j hj=>nk _ _ _ _ D;refine⟨J7 y i v,fun k p hp=> ?_,?_⟩
  ·cases k with
   |zero=> simp at hp;subst hp;rw[Nat.add_zero,kR];exact hy
   |succ k=> have:=h1 k p jf;rw[show i+(k+1)=i+1+k from D,e _ D];rw[Is];unfold ED;rw[kR,xd _ (i+1) (J7 y i v) y _ e];exact this
  ·unfold ED;rw[kR,xd _ (i+1) (J7 y i v) y _ e];exact h2
def jg(ops:Array EG)(m:Nat):Bool:=
 (UM ops.size).all fun i=>match ops[i]? with
  |none=>V
  |some o=>o.after.all (fun e=>decide (e.on<i))&&(decide (i<m)||(UM i).all fun j=>(UM (i+1)).any fun k=>decide (j<k)&&match ops[k]? with
   |some p=>p.after.any fun e=>Ur .any e&&e.on==j
   |none=>V)
theorem lJ{m:Nat}(h:jg ops m=EI){o:EG}(ho:ops[i]?=X o):(∀e∈o.after,e.on<i)/\(m<=i-> ∀j,j<i-> ∃k p,j<k/\k<=i/\ops[k]?=X p/\ ∃e∈p.after,Ur .any e=EI/\e.on=j):=by
 have hi:=(J4.1 ho).1;have h1:=XJ.1 h i (ar.2 hi);simp only[ho,UJ,k_,decide_eq_true_eq] at h1;refine⟨fun e he=> ?_,fun hm j hj=> ?_⟩;·exact Eop
 ·rcases h1.2 with h2|h2;·omega
  ·have h3:=XJ.1 h2 j (ar.2 hj);obtain⟨k,hk,hk2⟩:=List.any_eq_true.1 h3;have hk1:=ar.1 hk;simp only[UJ,decide_eq_true_eq] at hk2;obtain⟨hjk,hk3⟩:=hk2;cases hp:ops[k]? with
   |none=>rw[hp] at hk3;cases hk3
   |some p=> rw[hp] at hk3;obtain⟨e,he,hb⟩:=Array.any_eq_true'.1 hk3;simp only[UJ,beq_iff_eq] at hb;exact⟨k,p,hjk,D,hp,e,he,hb.1,hb.2⟩
def db(ops:Array EG)(listed:Array Bool):Prop:= ∀j o,ops[j]?=X o->listed.getD j EI=EI-> ∀e∈o.after,Ur .any e=EI->listed.getD e.on EI=EI
theorem Cu{m:Nat}(hB:jg ops m=EI)(hs:listed.size=ops.size)(hc:db ops listed)(hi:i∈jh .any ops listed)(hm:m<=i): ∀j,j<i->listed.getD j EI=EI:=by
 obtain⟨h1,o,ho,hall⟩:=Zt.1 hi;have hin:=(J4.1 ho).1
 have key: ∀d j,i-j=d->j<i->listed.getD j EI=EI:=by
  intro d;induction d using Nat.strongRecOn with
  |ind d ih=>
   intro j hd hj;obtain⟨k,p,hjk,hki,hp,e,he,hb,heq⟩:=(lJ hB ho).2 hm j hj;by_cases h:k=i;·subst h;have:p=o:=cI (hp.symm.trans ho);subst this;have h3:=hall e he hb;rw[heq] at h3;have h5:j<listed.size:=D;simpa[h5] using h3
   ·exact EnG
 exact fun j hj=>key _ j U hj
theorem db.set(hs:listed.size=ops.size)(hc:db ops listed)(hi:i∈jh .any ops listed):db ops (listed.setIfInBounds i EI):=by
 obtain⟨h1,o,ho,hall⟩:=Zt.1 hi;have hin:=(J4.1 ho).1
 have up: ∀j,listed.getD j EI=EI->(listed.setIfInBounds i EI).getD j EI=EI:=by
  intro j hj;by_cases e:i=j;·subst e;exact Eml
  ·rw[Z4 EI e];exact hj
 intro j p hp hl e he hb;by_cases hji:i=j
 ·subst hji;have:p=o:=cI (hp.symm.trans ho);subst this;have h3:=hall e he hb;refine up _ ?_;rcases JW e.on listed.size with h|h;·simpa[h] using h3
  ·simp[h]
 ·rw[Z4 EI hji] at hl;exact up _ (hc j p hp hl e he hb)
theorem xj{m:Nat}(hB:jg ops m=EI): ∀(fuel k:Nat) (listed:Array Bool) (a:E2) (w:M),m<=k->k<=ops.size->ops.size-k<=fuel->listed.size=ops.size-> (∀j,j<ops.size->listed.getD j EI=decide (j<k))->db ops listed->Ih P ops Q (ops.toList.drop k) a w->wpAny P .any ops Q fuel listed a w:=by
 intro fuel;induction fuel with
 |zero=> intro k listed a w hm hk hf hs hl hc h;have hkn:k=ops.size:=D;subst hkn;rw[List.drop_of_length_le Ej] at h;refine wpAny_done ?_ h 0;rw[List.eq_nil_iff_forall_not_mem];intro j hj;obtain⟨h1,o,ho,-⟩:=Zt.1 hj;have hjn:=(J4.1 ho).1;rw[hl j hjn] at h1;simp at h1;omega
 |succ fuel ih=>
  intro k listed a w hm hk hf hs hl hc h;rcases JW k ops.size with hlt|hge
  ·have ho:ops[k]?=X ops[k]:=ji hlt;have hd:ops.toList.drop k=ops[k]::ops.toList.drop (k+1):=by rw[lO (by simpa using hlt)];simp
   rw[hd] at h;have hmem:k∈jh .any ops listed:=by refine Zt.2 ⟨by rw[hl k hlt];simp,_,ho,fun e he _=> ?_⟩;have h1:=(lJ hB ho).1 e he;exact EmY
   refine⟨fun h0=>(by rw[h0] at hmem;cases hmem),fun i hi=> ?_⟩;obtain⟨h1,o,hoi,hall⟩:=Zt.1 hi;have hin:=(J4.1 hoi).1;have hki:k<=i:=by rw[hl i hin] at h1;simp at h1;exact h1
   have hik:i=k:=by
    rcases JW k i with h2|h2;·have h3:=Cu hB hs hc hi D k h2;rw[hl k hlt] at h3;simp at h3
    ·omega
   subst hik;refine wpOp_mono (fun a' w' h'=>ih (i+1) (listed.setIfInBounds i EI) a' w' D D D nm (fun j hj=> ?_) (hc.set hs hi) h') (EEv ho _ a w h);by_cases e:i=j;·subst e;exact Eml
   ·exact En7
  ·have hkn:k=ops.size:=D;subst hkn;rw[List.drop_of_length_le Ej] at h;refine wpAny_done ?_ h _;exact El3
theorem EEA{m:Nat}(hB:jg ops m=EI)(hmn:m<=ops.size){y:Nat->G} (hF: ∀i o x v,i<m->ops[i]?=X o->(F x).put o.dst v=F (J7 x i v)) (hstep: ∀i o x,i<m->ops[i]?=X o->(∀e∈o.after,Ur .any e=EI->x e.on=y e.on)->YieldsIn P ops C o (y i) (F x)) (hend: ∀x w,C w->(∀i,i<m->x i=y i)->Ih P ops Q (ops.toList.drop m) (F x) w): ∀(fuel:Nat) (listed:Array Bool) (x:Nat->G) (w:M),(Xq ops listed).length<=fuel->listed.size=ops.size->(∀j,m<=j->j<ops.size->listed.getD j EI=V)->db ops listed->C w-> (∀i,i<m->listed.getD i EI=EI->x i=y i)->wpAny P .any ops Q fuel listed (F x) w:=by
 intro fuel;induction fuel with
 |zero=>
  intro listed x w hf hs ht hc hb hr
  have hall: ∀j,j<ops.size->listed.getD j EI=EI:=by
   intro j hj;cases hc:listed.getD j EI;·exact Eld
   ·rfl
  have hm:m=ops.size:=by
   rcases JW m ops.size with h|h;·exact EmC
   ·omega
  refine xj hB 0 m listed _ w (E9 _) hmn D hs (fun j hj=>by rw[hall j hj,IE D]) hc (hend x w hb fun i hi=>hr i hi (hall i D))
 |succ fuel ih=>
  intro listed x w hf hs ht hc hb hr;by_cases hall: ∀j,j<m->listed.getD j EI=EI
  ·have hlen:ops.size-m<=fuel+1:=by
    have hsub:(List.range' m (ops.size-m)).length<=(Xq ops listed).length:=by
     apply List.Nodup.length_le_of_subset;·exact List.nodup_range'
     ·exact Eli
    simp at hsub;omega
   refine xj hB (fuel+1) m listed _ w (E9 _) hmn hlen hs (fun j hj=> ?_) hc (hend x w hb fun i hi=>hr i hi (hall i hi));rcases JW j m with h|h;·rw[hall j h,IE h]
   ·rw[ht j h hj,Ia D]
  ·refine⟨fun h0=> ?_,fun i hi=> ?_⟩
   ·exfalso
    have hex: ∃j,j<m/\listed.getD j EI=V:=by
     apply qi;intro hno
     exact hall fun j hj=>by
      cases hc:listed.getD j EI;·exact EnW
      ·rfl
    have hmin: ∃j,(j<m/\listed.getD j EI=V)/\ ∀k,k<j-> ¬(k<m/\listed.getD k EI=V):=by
     obtain⟨j,hj⟩:=hex;induction j using Nat.strongRecOn with
     |ind j np=>
      by_cases h: ∃k,k<j/\(k<m/\listed.getD k EI=V);·exact Emm
      ·exact EmX
    obtain⟨j,⟨hjm,hj⟩,hlt⟩:=hmin;have hjn:j<ops.size:=D;have ho:ops[j]?=X ops[j]:=ji hjn
    have:j∈jh .any ops listed:=by
     refine Zt.2 ⟨hj,_,ho,fun e he _=> ?_⟩;have h1:=(lJ hB ho).1 e he;have h2:=hlt e.on h1;have h3:e.on<listed.size:=D;cases hc:listed.getD e.on EI;·exact absurd ⟨D,hc⟩ h2
     ·simpa[h3] using hc
    rw[h0] at this;cases this
   ·obtain⟨h1,o,ho,nr⟩:=Zt.1 hi;have hin:=(J4.1 ho).1;have him:i<m:=by apply qi;intro hge;apply hall;intro j hj;exact Cu hB hs hc hi D j D
    have hdr: ∀e∈o.after,Ur .any e=EI->x e.on=y e.on:=by exact Emh
    have st:=hstep i o x him ho hdr;refine wpOp_of_qOp (C:=C) (K:=fun a'=>a'=F (J7 x i (y i))) hb (fun a' w' hw' ha'=> ?_) (st.qOp ho ?_)
    ·subst ha';have hlt:=sL hs hin h1;refine ih _ _ w' D nm (fun j hj hjn=> ?_) (hc.set hs hi) hw' (fun j hj hl=> ?_);·rw[Z4 EI D];exact ht j hj hjn
     ·by_cases hji:j=i;·subst hji;rw[kR]
      ·exact Eni
    ·exact hF i o x (y i) him ho
theorem Mc{a0:E2}(m:Nat)(hm:P.follows .mixedOrders=EI)(hB:jg l.toArray m=EI)(hmn:m<=l.length)(hsel:Region.noSelect (l.take m).toArray=EI)(hnd:(J8 (l.take m)).Nodup)(hap:qZ (l.take m) l.toArray=EI) (hC:C w0.drew) (h:Xd P l.toArray C (fun a'=> ∀w',C w'->Ih P l.toArray Q (l.drop m) a' w') (l.take m) a0):(Z3 id l.toArray EI).wp P Q a0 w0:=by
 obtain⟨y,hy,hK⟩:=xi (l.take m) 0 a0 h;have htk: ∀i o,i<m->l.toArray[i]?=X o->(l.take m)[i]?=X o:=fun i o hi ho=>by exact EmO
 have hlen:(l.take m).length=m:=ng;have sP:ED (l.take m) 0 (held (l.take m) a0) a0=a0:=jc a0 _ 0 _ (fun k o ho d hd=>by unfold held;rw[J9,ho];simp only[hd]);refine wp_region_any hm ?_;have key:=EEA (P:=P) (Q:=Q) (C:=C) (ops:=l.toArray) (F:=fun x=>ED (l.take m) 0 x a0) (y:=y) hB xm ?_ ?_ ?_ l.toArray.size (au l.toArray.size V) (held (l.take m) a0) w0.drew ?_ Ej (fun j hj hjn=>xh (by simpa using hjn)) ?_ hC (fun i hi h=> ?_);·simp only[sP] at key;exact key
 ·intro i o x v hi ho;exact ElL
 ·intro i o x hi ho hd;have hi':=htk i o hi ho;have h1:=hy i o hi';rw[J9] at h1
  have e1:ED ((l.take m).take i) 0 y a0=ED (l.take m) 0 (mix (held (l.take m) a0) y i) a0:=by
   have e2:ED (l.take m) 0 (mix (held (l.take m) a0) y i) a0=ED ((l.take m).drop i) i (mix (held (l.take m) a0) y i) (ED ((l.take m).take i) 0 (mix (held (l.take m) a0) y i) a0):=by exact El9
   have e3:ED ((l.take m).take i) 0 (mix (held (l.take m) a0) y i) a0=ED ((l.take m).take i) 0 y a0:=lE _ 0 _ _ _ fun j _ hj=>by have:j<i:=sQ;simp[mix,this]
   rw[e2,e3];refine(jc _ _ _ _ fun k p hp d hd=> ?_).symm;have hk:(l.take m)[i+k]?=X p:=jf;have hkm:i+k<m:=Md;show mix (held (l.take m) a0) y i (i+k)=_;have e5:mix (held (l.take m) a0) y i (i+k)=a0.tmps.getD d Iv:=by exact Emy
   rw[e5];exact Enf
  rw[e1] at h1;have deps: ∀e∈o.after,Ur .any e=EI->x e.on=mix (held (l.take m) a0) y i e.on:=by intro e he hb;have:=(lJ hB ho).1 e he;rw[hd e he hb];simp[mix,this]
  obtain⟨s1,s2⟩:=Ct (ops:=l.toArray) hnd hap hsel (da.2 ⟨i,hi'⟩) (mix (held (l.take m) a0) y i) x a0 (fun e he hb=>(deps e he hb).symm);exact h1.of_same s1 s2
 ·exact ElR
 ·exact Emf
 ·intro j o ho hl;have hj:=(J4.1 ho).1;rw[xh xn] at hl;cases hl
 ·have:i<l.length:=D;simp[this] at h
theorem iU{o:EG}{ops:Array EG}(h:o.guard=X (j,want))(hd:(ops[j]?).bind (·.dst)=X d)(hv:tmps[d]?=X (EU want)):I8 o (Ja ops tmps)=EI:=by unfold I8 Ja;simp[h,hd,hv]
def qj(l:List EG)(m:Nat):Bool:=jg l.toArray m&&decide (m<=l.length)&&Region.noSelect (l.take m).toArray&&decide (J8 (l.take m)).Nodup&&qZ (l.take m) l.toArray
theorem sR{a0:E2}(m:Nat)(hm:P.follows .mixedOrders=EI)(hB:qj l m=EI) (h:Xd P l.toArray (fun w'=> ∃n,w'=w0.drewN n) (fun a'=> ∀w',(∃n,w'=w0.drewN n)->Ih P l.toArray Q (l.drop m) a' w') (l.take m) a0):(Z3 id l.toArray EI).wp P Q a0 w0:=by simp only[qj,UJ,decide_eq_true_eq] at hB;obtain⟨⟨⟨⟨h1,h2⟩,h3⟩,h4⟩,h5⟩:=hB;exact Mc m hm h1 h2 h3 h4 h5 ⟨1,U⟩ h
theorem J_{a0:E2}(m:Nat)(hm:P.follows .mixedOrders=EI)(hB:qj l m=EI) (h:Xd P l.toArray (fun w'=> ∃x,w'=EA w0 x) (fun a'=> ∀w',(∃x,w'=EA w0 x)->Ih P l.toArray Q (l.drop m) a' w') (l.take m) a0):(Z3 id l.toArray EI).wp P Q a0 w0:=by simp only[qj,UJ,decide_eq_true_eq] at hB;obtain⟨⟨⟨⟨h1,h2⟩,h3⟩,h4⟩,h5⟩:=hB;exact Mc m hm h1 h2 h3 h4 h5 ⟨⟨_,JZ w0⟩,U⟩ h
end
def Kept(Rel:M->M->Prop):Prop:=(∀w,Rel w w)/\(∀a b c,Rel a b->Rel b c->Rel a c)/\ ∀w:M,Rel w w.drew
section
variable{P:Program}{ops:Array Oper}{Q:Exit->Act->World->Prop}
@[irreducible] def bJ(Rel:M->M->Prop)(P:Jd)(ops:Array EG)(Q:UL->E2->M->Prop)(F:(Nat->G)->E2)(R:Nat->G->M->Prop)(i:Nat)(o:EG)(x:Nat->G)(w:M):Prop:=
 if I8 o (Ja ops (F x).tmps) then o.wp P (F x) w (fun a' w'=> ∃v,a'=(F x).put o.dst v/\Rel w w'/\R i v w') Q
 else R i Iv w
theorem EEB{Rel:M->M->Prop}(hT:Kept Rel){m:Nat}(hB:jg ops m=EI)(hmn:m<=ops.size){R:Nat->G->M->Prop} (hF: ∀i o x v,i<m->ops[i]?=X o->(F x).put o.dst v=F (J7 x i v)) (hR: ∀i v w w',i<m->R i v w->Rel w w'->R i v w') (hstep: ∀i o x w,i<m->ops[i]?=X o->Rel W w->(∀e∈o.after,Ur .any e=EI->R e.on (x e.on) w)->bJ Rel P ops Q F R i o x w) (hend: ∀x w,Rel W w->(∀i,i<m->R i (x i) w)->Ih P ops Q (ops.toList.drop m) (F x) w): ∀(fuel:Nat) (listed:Array Bool) (x:Nat->G) (w:M),(Xq ops listed).length<=fuel->listed.size=ops.size->db ops listed->(∀j,m<=j->j<ops.size->listed.getD j EI=V)->Rel W w-> (∀i,i<m->listed.getD i EI=EI->R i (x i) w)->wpAny P .any ops Q fuel listed (F x) w:=by
 intro fuel;induction fuel with
 |zero=>
  intro listed x w hf hs hcl ht hb hr
  have hall: ∀j,j<ops.size->listed.getD j EI=EI:=by
   intro j hj;cases hc:listed.getD j EI;·exact Eld
   ·rfl
  have hm:m=ops.size:=by
   rcases JW m ops.size with h|h;·exact EmC
   ·omega
  refine xj hB 0 m listed _ w (E9 _) hmn D hs (fun j hj=>by rw[hall j hj,IE D]) hcl (hend x w hb fun i hi=>hr i hi (hall i D))
 |succ fuel ih=>
  intro listed x w hf hs hcl ht hb hr;by_cases hall: ∀j,j<m->listed.getD j EI=EI
  ·have hlen:ops.size-m<=fuel+1:=by
    have hsub:(List.range' m (ops.size-m)).length<=(Xq ops listed).length:=by
     apply List.Nodup.length_le_of_subset;·exact List.nodup_range'
     ·exact Eli
    simp at hsub;omega
   refine xj hB (fuel+1) m listed _ w (E9 _) hmn hlen hs (fun j hj=> ?_) hcl (hend x w hb fun i hi=>hr i hi (hall i hi));rcases JW j m with h|h;·rw[hall j h,IE h]
   ·rw[ht j h hj,Ia D]
  ·refine⟨fun h0=> ?_,fun i hi=> ?_⟩
   ·
     exfalso
     have hex: ∃j,j<m/\listed.getD j EI=V:=by
      apply qi;intro hno
      exact hall fun j hj=>by
       cases hc:listed.getD j EI;·exact EnW
       ·rfl
     have hmin: ∃j,(j<m/\listed.getD j EI=V)/\ ∀k,k<j-> ¬(k<m/\listed.getD k EI=V):=by
      obtain⟨j,hj⟩:=hex;induction j using Nat.strongRecOn with
      |ind j np=>
       by_cases h: ∃k,k<j/\(k<m/\listed.getD k EI=V);·exact Emm
       ·exact EmX
     obtain⟨j,⟨hjm,hj⟩,hlt⟩:=hmin;have hjn:j<ops.size:=D;have ho:ops[j]?=X ops[j]:=ji hjn
     have:j∈jh .any ops listed:=by
      refine Zt.2 ⟨hj,_,ho,fun e he _=> ?_⟩;have h1:=(lJ hB ho).1 e he;have h2:=hlt e.on h1;have h3:e.on<listed.size:=D;cases hc:listed.getD e.on EI;·exact absurd ⟨D,hc⟩ h2
      ·simpa[h3] using hc
     rw[h0] at this;cases this
   ·obtain⟨h1,o,ho,nr⟩:=Zt.1 hi;have hin:=(J4.1 ho).1;have him:i<m:=by apply qi;intro hge;apply hall;intro j hj;exact Cu hB hs hcl hi D j D
    have hdr: ∀e∈o.after,Ur .any e=EI->R e.on (x e.on) w:=by exact Emh
    have st:=hstep i o x w him ho hb hdr
    have next: ∀v w',Rel w w'->R i v w'->wpAny P .any ops Q fuel (listed.setIfInBounds i EI) ((F x).put o.dst v) w':=by
     intro v w' hb' hv;rw[hF i o x v him ho];have hlt:=sL hs hin h1;refine ih _ _ w' D nm (hcl.set hs hi) (fun j hj hjn=> ?_) (hT.2.1 _ _ _ hb hb') (fun j hj hl=> ?_);·rw[Z4 EI D];exact ht j hj hjn
     ·by_cases hji:j=i;·subst hji;rw[kR];exact hv
      ·rw[nk _ _ _ _ hji];rw[Z4 EI (fun e=>hji e.symm)] at hl;exact hR j _ w w' hj (hr j hj hl) hb'
    unfold wpOp;simp only[ho];unfold bJ at st;split;·rename_i hw;rw[if_pos hw] at st;refine .inl (Oper.wp_mono (fun a' w' h'=> ?_) st);obtain⟨v,rfl,hb',hv⟩:=h';exact next v w' hb' hv
    ·rename_i hw;rw[if_neg hw] at st;exact next Iv w (hT.1 _) st
theorem Mf{Rel:M->M->Prop}(hT:Kept Rel){a0:E2}(hm:P.follows .mixedOrders=EI)(m:Nat)(hB:jg ops m=EI)(hmn:m<=ops.size)(F:(Nat->G)->E2)(R:Nat->G->M->Prop)(x0:Nat->G)(xo:a0=F x0) (hF: ∀i o x v,i<m->ops[i]?=X o->(F x).put o.dst v=F (J7 x i v)) (hR: ∀i v w w',i<m->R i v w->Rel w w'->R i v w') (hstep: ∀i o x w,i<m->ops[i]?=X o->Rel w0 w->(∀e∈o.after,Ur .any e=EI->R e.on (x e.on) w)->bJ Rel P ops Q F R i o x w) (hend: ∀x w,Rel w0 w->(∀i,i<m->R i (x i) w)->Ih P ops Q (ops.toList.drop m) (F x) w):(Z3 id ops EI).wp P Q a0 w0:=by
 subst xo;refine wp_region_any hm (EEB hT hB hmn hF hR hstep hend _ _ x0 _ ?_ Ej (fun j o _ h=>by by_cases hj:j<ops.size;(·simp[hj] at h);(·rename_i ho;exact absurd (J4.1 ho).1 hj)) (fun j hj hjn=>by simp[hjn]) (hT.2.2 w0) (fun i hi h=> ?_));·have:=List.length_filter_le (fun i=> !(au ops.size V).getD i EI) (UM ops.size);simpa[Xq] using this
 ·have:i<ops.size:=D;simp[this] at h
def XH(Rel:M->M->Prop)(P:Jd)(ops:Array EG)(Q:UL->E2->M->Prop)(W:M)(F:(Nat->G)->E2)(R:Nat->G->M->Prop):Nat->List EG->Prop
 |_,[]=>True
 |i,o::l=>(∀x w,Rel W w->xf R o x w->bJ Rel P ops Q F R i o x w)/\XH Rel P ops Q W F R (i+1) l
theorem XH.at{Rel:M->M->Prop}{W:M}{F:(Nat->G)->E2}{R:Nat->G->M->Prop}: ∀(l:List EG) (i:Nat),XH Rel P ops Q W F R i l-> ∀k o,l[k]?=X o-> ∀x w,Rel W w->xf R o x w->bJ Rel P ops Q F R (i+k) o x w
 |[],_,_,_,_,h=>qX
 |p::l,i,hs,0,o,h=>by simp at h;subst h;exact hs.1
 |p::l,i,hs,k+1,o,h=>by have:=XH.at l (i+1) hs.2 k o UB;rw[show i+(k+1)=i+1+k from D];exact this
theorem aw{Rel:M->M->Prop}(hT:Kept Rel){a0:E2}(hm:P.follows .mixedOrders=EI)(m:Nat)(hB:jg l.toArray m=EI)(hmn:m<=l.length)(hnd:(J8 (l.take m)).Nodup)(R:Nat->G->M->Prop) (hR: ∀i v w w',i<m->R i v w->Rel w w'->R i v w') (hstep:XH Rel P l.toArray Q w0 (fun x=>ED (l.take m) 0 x a0) R 0 (l.take m)) (hend: ∀x w,Rel w0 w->(∀i,i<m->R i (x i) w)->Ih P l.toArray Q (l.drop m) (ED (l.take m) 0 x a0) w):(Z3 id l.toArray EI).wp P Q a0 w0:=by
 have htk: ∀i o,i<m->l.toArray[i]?=X o->(l.take m)[i]?=X o:=fun i o hi ho=>by exact EmO
 refine Mf hT hm m hB xm (fun x=>ED (l.take m) 0 x a0) R (held (l.take m) a0) (jc a0 _ 0 _ ?_).symm (fun i o x v hi ho=> ?_) hR (fun i o x w hi ho hb hd=> ?_) hend;·exact EnT
 ·exact ElL
 ·have:=XH.at _ 0 hstep i o (htk i o hi ho) x w hb hd;exact EmM
theorem If{Rel:M->M->Prop}(hT:Kept Rel){R:Nat->G->M->Prop}{o:EG}{v:G}(hw:I8 o (Ja ops (F x).tmps)=EI) (hr:(Ig (F x).eval o).run P w= .ok (.value v) w) (h:R i v w):bJ Rel P ops Q F R i o x w:=by unfold bJ;exact EnR
theorem Z6{Rel:M->M->Prop}{R:Nat->G->M->Prop}{o:EG}{v:G}(hw:I8 o (Ja ops (F x).tmps)=EI) (hr:(Ig (F x).eval o).run P w= .ok (.value v) w') (hb:Rel w w') (h:R i v w'):bJ Rel P ops Q F R i o x w:=by unfold bJ;exact En2
theorem Ob{Rel:M->M->Prop}{R:Nat->G->M->Prop}{o:EG}(hw:I8 o (Ja ops (F x).tmps)=EI) (hr:(Ig (F x).eval o).run P w= .ok (.enter f args) w) (hc:Eg P f args w fun e w'=> ∃v,e=Eh v/\Rel w w'/\R i v w'):bJ Rel P ops Q F R i o x w:=by unfold bJ;exact Enc
end
inductive KQ where|kq(x:G)|kp(g i:Nat)
open KQ
@[irreducible] def Ey(p:Prop):Prop:=p
theorem Ey.mk{p:Prop}(h:Ey p):p:=by unfold Ey at h;exact h
theorem Ey.in{p:Prop}(h:p):Ey p:=by unfold Ey;exact h
theorem Et{p:Prop}(h:p):Ey p:=Ey.in h
theorem JO{rest:List EG}{o:EG}{a:E2}(hg:o.guard=Z)(t:Ez)(parts:Array (Nat×JN))(ho:o.op= .build t parts) (cells:Array G) (he:P.built t (parts.toList.map fun(i,x)=>(i,a.eval x))=X cells) (h:Ih P ops Q rest (a.put o.dst (EZ cells)) w):Ih P ops Q (o::rest) a w:=
 wpList_build hg t parts ho (by rw[Array.toList_map,he];rfl) (by rw[Array.toList_map,he];exact h)
theorem It{a:E2}{x1 x2 x3 x4 x5}(d:Nat)(h:Ih P ops Q (⟨X d,x1,x2,x3,x4,x5⟩::l) a w):Ih P ops Q (⟨X d,x1,x2,x3,x4,x5⟩::l) a w:=h
theorem gdS{a:E2}{x0 x1 x2 x3 x4 x5 x6}(d:Nat)(h:Ih P ops Q (⟨x0,.store d x1 x2,x3,x4,x5,x6⟩::l) a w):Ih P ops Q (⟨x0,.store d x1 x2,x3,x4,x5,x6⟩::l) a w:=h
theorem Jr{a:E2}{x0 x1 x2 x3 x4 x5}(d:Nat)(h:Ih P ops Q (⟨x0,.store d x1 x2,x3,x4,x5,Z⟩::l) a w):Ih P ops Q (⟨x0,.store d x1 x2,x3,x4,x5,Z⟩::l) a w:=h
theorem jj{a:E2}{x0 x1 x3 x4 x5 x6}(d:Nat)(h:Ih P ops Q (⟨x0,.load d x1,x3,x4,x5,x6⟩::l) a w):Ih P ops Q (⟨x0,.load d x1,x3,x4,x5,x6⟩::l) a w:=h
theorem XU{a:E2}{x0 x1 x3 x4 x5}(d:Nat)(h:Ih P ops Q (⟨x0,.load d x1,x3,x4,x5,Z⟩::l) a w):Ih P ops Q (⟨x0,.load d x1,x3,x4,x5,Z⟩::l) a w:=h
theorem JU{a:E2}{x1 x2 x3 x4 x5}(d:Nat)(h:Ey (Ih P ops Q (⟨X d,x1,x2,x3,x4,x5⟩::l) a w)):Ih P ops Q (⟨X d,x1,x2,x3,x4,x5⟩::l) a w:=h.mk
theorem dc{a:E2}{x0 x1 x2 x3 x4 x5 x6}(d:Nat)(h:Ey (Ih P ops Q (⟨x0,.store d x1 x2,x3,x4,x5,x6⟩::l) a w)):Ih P ops Q (⟨x0,.store d x1 x2,x3,x4,x5,x6⟩::l) a w:=h.mk
theorem EEC{a:E2}{x0 x1 x2 x3 x4 x5}(d:Nat)(h:Ey (Ih P ops Q (⟨x0,.store d x1 x2,x3,x4,x5,Z⟩::l) a w)):Ih P ops Q (⟨x0,.store d x1 x2,x3,x4,x5,Z⟩::l) a w:=h.mk
theorem Eh6{a:E2}{x0 x1 x3 x4 x5 x6}(d:Nat)(h:Ey (Ih P ops Q (⟨x0,.load d x1,x3,x4,x5,x6⟩::l) a w)):Ih P ops Q (⟨x0,.load d x1,x3,x4,x5,x6⟩::l) a w:=h.mk
theorem Mh{a:E2}{x0 x1 x3 x4 x5}(d:Nat)(h:Ey (Ih P ops Q (⟨x0,.load d x1,x3,x4,x5,Z⟩::l) a w)):Ih P ops Q (⟨x0,.load d x1,x3,x4,x5,Z⟩::l) a w:=h.mk
def H(w:M)(g:Nat)(cs:Array G)(T:Ez):Prop:=w.heap[g]?=X (Ec cs T (0,0))
theorem H.u{T:Ez}(h:H w g cs T)(hb:Ek w w'):H w' g cs T:=ZE h hb
theorem EP{T:Ez}(h:Ed (H w g cs T))(b:Ir w.heap.size w w'):Ed (H w' g cs T):=J (h.out.u b)
theorem H.lt{T:Ez}(h:H w g cs T):g<w.heap.size:=xZ h
theorem H.drewN{T:Ez}(h:H w g cs T)(n:Nat):H (w.drewN n) g cs T:=h
theorem H.drew{T:Ez}(h:H w g cs T):H w.drew g cs T:=h
theorem H.new(w:M)(cs:Array G)(T:Ez):H (w.alloc (Ec cs T)) w.heap.size cs T:=heap_alloc_new w _
theorem Mi(w:M)(o:Obj):(w.alloc o).heap.size=w.heap.size+1:=Ej
theorem H.new'(w:M)(cs:Array G)(T:Ez){g:Nat}(h:g=w.heap.size):H (w.alloc (Ec cs T)) g cs T:=by subst h;exact heap_alloc_new w _
theorem H.alloc{T:Ez}(h:H w g cs T)(o:Obj):H (w.alloc o) g cs T:=h.u (Er w o)
theorem H.cell{T:Ez}(h:H w g cs T)(i:Nat):w.cell? ⟨g,i,Z⟩=cs[i]?:=(XW h).1 i
theorem H.I_{T:Ez}(h:H w g cs T)(i:Nat):w.frozen? ⟨g,i,Z⟩=V:=(XW h).2 i
theorem H.set{T:Ez}(h:H w g cs T)(i:Nat)(v:G):H (w.setCell ⟨g,i,Z⟩ v) g (cs.setIfInBounds i v) T:=sK h i v
theorem H.other{T:Ez}(h:H w g cs T)(g' i:Nat)(v:G)(hne:g≠g'):H (w.setCell ⟨g',i,Z⟩ v) g cs T:=by unfold H;rw[ax _ _ _ _ hne];exact h
theorem H.setRow{T:Ez}(h:H w g old T)(cs:Array G):H (w.setRow g cs) g cs T:=setRow_heap w g _ cs _ _ h
theorem H.setRow_other{T:Ez}(h:H w g cs T)(g':Nat)(cs':Array G)(hne:g≠g'):H (w.setRow g' cs') g cs T:=(_root_.Go.setRow_other w g' g cs' hne).trans h
def Js(l:List Int):Array G:=(l.map (E .u32)).toArray
def Em(l:List Int):Array G:=(l.map (E .u8)).toArray
theorem Cv(l:List Int):(Js l).size=l.length:=by simp[Js]
theorem Oc(l:List Int):(Em l).size=l.length:=by simp[Em]
theorem sS(l:List Int)(i:Nat)(h:i<l.length):(Js l)[i]?=X (E Of (l.getD i 0)):=by simp[Js,h]
theorem jk(l:List Int)(i:Nat)(h:i<l.length):(Em l)[i]?=X (E IT (l.getD i 0)):=by simp[Em,h]
theorem Cw(l:List Int)(i:Nat)(x:Int):(Js l).setIfInBounds i (E Of x)=Js (l.set i x):=by simp[Js,List.map_set]
theorem nt(l:List Int)(i:Nat)(x:Int):(Em l).setIfInBounds i (E IT x)=Em (l.set i x):=by simp[Em,List.map_set]
theorem Mj(l:List Int):(Js l).all (·.oneCell')=EI:=by rw[Array.all_eq_true];intro i hi;simp[Js,Ov]
theorem XK(l:List Int):(Em l).all (·.oneCell')=EI:=by rw[Array.all_eq_true];intro i hi;simp[Em,Ov]
theorem fH{l:List Int}{T:Ez}(h:H w g (Em l) T)(hb: ∀x∈l,0<=x/\x<=255):Row w (X ⟨g,0,Z⟩) l:=Cp h U hb
def part(l:List Int)(i:Nat):List Int:=l.take i++dg (l.length-i) 0
theorem xp(l:List Int)(i:Nat)(h:i<=l.length):(part l i).length=l.length:=by simp[part];omega
theorem Mk(l:List Int):part l 0=dg l.length 0:=by simp[part]
theorem Ml(l:List Int)(i:Nat)(h:l.length<=i):part l i=l:=by simp[part,OV h,show l.length-i=0 from D]
theorem EED(l:List Int)(i k:Nat)(h:k<i)(hi:i<=l.length):(part l i).getD k 0=l.getD k 0:=by unfold part;simp only[Uj];rw[bO Jm,bU h]
theorem Cx(l:List Int)(i:Nat)(h:i<l.length):(part l i).set i (l.getD i 0)=part l (i+1):=by
 apply List.ext_getElem?;intro j;rw[List.getElem?_set];have hl:=xp l i D;by_cases e:i=j;·subst e;rw[if_pos U,if_pos D];unfold part;rw[bO Jm,bU D];simp[h]
 ·rw[if_neg e];unfold part;rcases JW j i with hj|hj;·rw[bO Jm,bO Jm,bU hj,bU D]
  ·rw[ay Jm,ay Jm];simp only[ZJ,List.getElem?_replicate];rw[Nat.min_eq_left D,Nat.min_eq_left D];by_cases h1:j<l.length;·rw[if_pos D,if_pos D]
   ·rw[if_neg D,if_neg D]
def cJ(l old:List Int)(i:Nat):List Int:=l.take i++old.drop i
theorem Mm(l old:List Int):cJ l old 0=old:=by simp[cJ]
theorem Mn(l old:List Int)(i:Nat)(h:l.length<=i)(h2:old.length<=i):cJ l old i=l:=by simp[cJ,OV h,List.drop_of_length_le h2]
theorem Cy(l old:List Int)(i:Nat)(h:l.length=old.length)(hi:i<=l.length):(cJ l old i).length=l.length:=by simp[cJ];omega
theorem EEF(l old:List Int)(i k:Nat)(h:l.length=old.length)(hi:i<=k)(hk:k<l.length):(cJ l old i).getD k 0=old.getD k 0:=by unfold cJ;simp only[Uj];rw[ay Jm,List.getElem?_drop];congr 2;simp;omega
theorem sT(l old:List Int)(i:Nat)(h:l.length=old.length)(hi:i<l.length):(cJ l old i).set i (l.getD i 0)=cJ l old (i+1):=by
 apply List.ext_getElem?;intro j;rw[List.getElem?_set];have hl:=Cy l old i h D;by_cases e:i=j;·subst e;rw[if_pos U,if_pos D];unfold cJ;rw[bO Jm,bU D];simp[hi]
 ·rw[if_neg e];unfold cJ;rcases JW j i with hj|hj;·rw[bO Jm,bO Jm,bU hj,bU D]
  ·rw[ay Jm,ay Jm,List.getElem?_drop,List.getElem?_drop];congr 1;simp;omega
def Ow(P:Jd)(T:Ez)(cs:Array G):Prop:= ∀(ev:JN->G) (o:EG) (w:M),o.op= .alloc T->(Ig ev o).run P w= .ok (.value (Y (X ⟨w.heap.size,0,Z⟩))) (w.alloc (Ec cs T))
section
variable{P:Program}{ops:Array Oper}{rest:List Oper}{o:Oper}{a:Act}{w:World}{Q:Exit->Act->World->Prop}
theorem Mo{T:Ez}(hz:Ow P T cs)(hw:I8 o (Ja ops a.tmps)=EI)(ho:o.op= .alloc T) (h:Ih P ops Q rest (a.put o.dst (Y (X ⟨w.heap.size,0,Z⟩))) (w.alloc (Ec cs T))):Ih P ops Q (o::rest) a w:=Jq hw (hz _ _ _ ho) h
theorem ZU{T:Ez}{n:Nat}(hT:IF P T n)(hw:I8 o (Ja ops a.tmps)=EI)(hl:kP o a T g)(hg:Ed (H w g cs T))(hn:cs.size=n) (h:Ih P ops Q rest (a.put o.dst (EZ cs)) w):Ih P ops Q (o::rest) a w:=EEu hT hw hl hg hn h
theorem Z7{T:Ez}{n:Nat}(hT:IF P T n)(hw:I8 o (Ja ops a.tmps)=EI)(hl:qU o a T g cs)(hg:Ed (H w g old T))(ho:old.size=n)(hn:cs.size=n) (h1:cs.all (·.oneCell')=EI) (h:Ih P ops Q rest (a.put o.dst Iv) (w.setRow g cs)):Ih P ops Q (o::rest) a w:=Cq hT hw hl hg ho hn h1 h
def jl(o:EG)(a:E2)(T:Ez)(g off:Nat):Prop:=match o.op with| .load t x=>t=T/\a.eval x=Y (X ⟨g,off,Z⟩)|_=>False
theorem qk{T:Ez}{n off:Nat}(hT:IF P T n)(hw:I8 o (Ja ops a.tmps)=EI)(hl:jl o a T g off)(hg:Ed (H w g big TB))(hn:cs.size=n)(he:big.extract off (off+n)=cs) (h:Ih P ops Q rest (a.put o.dst (EZ cs)) w):Ih P ops Q (o::rest) a w:=by
 obtain⟨⟨d,hu,hd⟩,hi⟩:=hT;unfold jl at hl;split at hl;·rename_i t x ho;obtain⟨rfl,hx⟩:=hl;refine Jq hw ?_ h;subst he;have hrun:=run_loadVar_mid w g off t _ d (World.rangeAt_of_block hg.out off n) hu jm sV;exact ElO
 ·exact hl.elim
theorem JB{T:Ez}{n:Nat}(hT:IF P T n)(h:fn.results= #[.cell p T])(tmps:Array G)(w:M)(g:Nat)(cs:Array G) (hp:tmps.getD p Iv=Y (X ⟨g,0,Z⟩)) (hg:H w g cs T) (hn:cs.size=n):(UW fn tmps).run P w= .ok (EZ cs) w:=Cr hT h tmps w g cs hp hg hn
theorem wA{T:Ez}(hz:Ow P T cs)(h:Ih P ops Q rest (a.put o.dst (Y (X ⟨w.heap.size,0,Z⟩))) (w.alloc (Ec cs T))) (hw:I8 o (Ja ops a.tmps)=EI:=by with_unfolding_all exact Ei U) (ho:o.op= .alloc T:=by with_unfolding_all exact U):Ih P ops Q (o::rest) a w:=Mo hz hw ho h
theorem wL{T:Ez}{n:Nat}(hT:IF P T n)(hg:Ed (H w g cs T))(h:Ih P ops Q rest (a.put o.dst (EZ cs)) w)(hn:cs.size=n:=by with_unfolding_all exact U) (hw:I8 o (Ja ops a.tmps)=EI:=by with_unfolding_all exact Ei U) (hl:kP o a T g:=by with_unfolding_all exact⟨U,U⟩):Ih P ops Q (o::rest) a w:=ZU hT hw hl hg hn h
theorem wS{T:Ez}{n:Nat}(hT:IF P T n)(hg:Ed (H w g old T))(h:Ih P ops Q rest (a.put o.dst Iv) (w.setRow g cs))(hn:cs.size=n:=by with_unfolding_all exact U) (h1:cs.all (·.oneCell')=EI:=by with_unfolding_all exact U) (ho:old.size=n:=by with_unfolding_all exact U) (hw:I8 o (Ja ops a.tmps)=EI:=by with_unfolding_all exact Ei U) (hl:qU o a T g cs:=by with_unfolding_all exact⟨U,U,U⟩):Ih P ops Q (o::rest) a w:=Z7 hT hw hl hg ho hn h1 h
theorem wM{T:Ez}{n off:Nat}(hT:IF P T n)(hg:Ed (H w g big TB))(h:Ih P ops Q rest (a.put o.dst (EZ cs)) w)(he:big.extract off (off+n)=cs:=by with_unfolding_all exact U)(hn:cs.size=n:=by with_unfolding_all exact U) (hw:I8 o (Ja ops a.tmps)=EI:=by with_unfolding_all exact Ei U) (hl:jl o a T g off:=by with_unfolding_all exact⟨U,U⟩):Ih P ops Q (o::rest) a w:=qk hT hw hl hg hn he h
end
def Jn(w w':M):Prop:=Ek w w'
theorem EK:Kept Jn:=⟨fun _=>E_ _ _,fun _ _ _ h k=>bt h k,fun w=>(E_ _ w).drew⟩
theorem xf.at{R:Nat->G->M->Prop}{o:EG}(hd:xf R o x w)(j:Nat)(h:(o.after.toList.any fun e=>Ur .any e&&e.on==j)=EI):R j (x j) w:=by exact El2
theorem Xf{o:EG}{b:Bool}(h:o.guard=X (j,want))(hd:(ops[j]?).bind (·.dst)=X d)(hv:tmps[d]?=X (EU b))(hb:(b==want)=V):I8 o (Ja ops tmps)=V:=by unfold I8 Ja;simp[h,hd,hv];cases b<;>cases want<;>simp_all
section
variable{P:Program}{ops:Array Oper}{Q:Exit->Act->World->Prop}{Rel:World->World->Prop}{F:(Nat->Value)->Act}{R:Nat->Value->World->Prop}{i:Nat}{o:Oper}{x:Nat->Value}{w:World}
theorem Cz(hT:Kept Rel){T:Ez}{n g:Nat}{cs:Array G}(hA:IF P T n)(hw:I8 o (Ja ops (F x).tmps)=EI) (hl:kP o (F x) T g) (hg:H w g cs T) (hn:cs.size=n) (h:R i (EZ cs) w):bJ Rel P ops Q F R i o x w:=by
 obtain⟨⟨d,hu,hd⟩,hi⟩:=hA;unfold kP at hl;split at hl
 ·rename_i t y ho;obtain⟨rfl,hx⟩:=hl;refine If hT hw ?_ h;have hrun:(loadVar t ⟨g,0,Z⟩).run P w= .ok (EZ cs) w:=by cases d<;>first|(cases hd;done)|exact run_loadVar_row w g t t cs (0,0) _ hg hu rfl fF
  unfold Ig;exact Elq
 ·exact hl.elim
theorem EEG(hT:Kept Rel){T TB:Ez}{n g off:Nat}{cs big:Array G}(hA:IF P T n)(hw:I8 o (Ja ops (F x).tmps)=EI) (hl:jl o (F x) T g off) (hg:H w g big TB) (hn:cs.size=n) (he:big.extract off (off+n)=cs) (h:R i (EZ cs) w):bJ Rel P ops Q F R i o x w:=by
 obtain⟨⟨d,hu,hd⟩,hi⟩:=hA;unfold jl at hl;split at hl;·rename_i t y ho;obtain⟨rfl,hx⟩:=hl;refine If hT hw ?_ h;exact Eoh
 ·exact hl.elim
theorem UU{a:E2}{s y:JN}{v1 v2 v':G}(ho:o.op= .call {callee:= .builtin .append,args:= #[s,y],argTypes:= #[t,t]})(hs:a.eval s=v1)(hx:a.eval y=v2) (hr:(bX #[t,t] o.type #[v1,v2]).run P w= .ok v' w'):(Ig a.eval o).run P w= .ok (.value v') w':=by unfold Ig;simp only[ho,resolve,invoke,builtin,Om,Oa,On,List.map_toArray,Xs,Zu,hs,hx,hr]
end
section
variable{P:Program}
theorem EEH(ats:Array Ez)(ty:Ez)(p q:Int)(W:M):(Builtin.max_ ats ty #[E I p,E I q]).run P W= .ok (E I (max p q)) W:=by simp[Builtin.max_,Builtin.max2,go_sem];try omega
variable{ops:Array Oper}{rest:List Oper}{o:Oper}{a:Act}{w:World}{Q:Exit->Act->World->Prop}
theorem EEK{p q r:Int}(s x:JN)(ats:Array Ez)(hgd:o.guard=Z)(ho:o.op= .call {callee:= .builtin .max,args:= #[s,x],argTypes:=ats})(h1:a.eval s=E I p)(h2:a.eval x=E I q)(hr:max p q=r)(h:Ih P ops Q rest (a.put o.dst (E I r)) w):Ih P ops Q (o::rest) a w:=by subst hr;refine wpList_plain hgd fun K hK=> ?_;unfold cE Ig;simp only[ho,resolve,invoke,builtin,Om,Oa,On,List.map_toArray,Xs,Zu,h1,h2,EEH];exact hK _ _ h
end
def Eu(n:Nat):List Int:=dg n 0
theorem dS(n:Nat):(Eu n).length=n:=by simp[Eu]
theorem Mp(n:Nat): ∀x∈Eu n,0<=x/\x<=255:=by intro x hx;simp[Eu] at hx;omega
def putAt(l:List Int)(off:Nat)(ys:List Int):List Int:=l.take off++ys++l.drop (off+ys.length)
theorem EEL(l:List Int)(off:Nat)(ys:List Int)(h:off+ys.length<=l.length):(putAt l off ys).length=l.length:=by simp[putAt];omega
theorem EEM(l:List Int)(off:Nat):putAt l off []=l:=by simp[putAt]
theorem Mq(k:Nat)(hk:k<=1000000000000)(W:M): (Instr.makeSlice 23 (E I (k:Int)) (E I (k:Int))).run Ea W= .ok (EJ (X ⟨W.heap.size,0,Z⟩) k k) (W.alloc (Ec (Em (Eu k)) 5)):=by
 obtain⟨i0,hi,hz0,hz1,hz2⟩:=bZ kK;have h:=run_make (P:=Ea) W 23 5 i0 _ ba hi hz0 .i64 .i64 k k D D (by rw[hz2];omega) D;rw[h,hz1,kL,Nat.mul_one]
 have e:az (E IntKind.u8 0).cells k=Em (Eu k):=by
  apply Array.ext;·simp[az,Em,Eu]
  ·intro i h1 h2;simp[az,Em,Eu,Nat.mod_one,Value.cells]
 rw[e]
theorem EEN(w:M)(g off dLen dCap:Nat)(l:List Int)(T:Ez)(hg:H w g (Em l) T)(A:Option Ev)(sLen sCap:Nat)(xs:List Int)(hx:xs.length=sLen)(hr:Row w A xs)(m:Nat)(hm:Nat.min sLen dLen=m) (hfit:off+m<=l.length) (Y_:Option Ev) (hD:0<m->Y_=X ⟨g,off,Z⟩) (ty:Ez): ∃w',(Builtin.copy_ #[23,23] ty #[EJ Y_ dLen dCap,EJ A sLen sCap]).run Ea w= .ok (E I m) w'/\H w' g (Em (putAt l off (xs.take m))) T/\Ir g w w'/\(∀k,k≠g->w'.heap[k]?=w.heap[k]?)/\w'.heap.size=w.heap.size:=by
 have hs1:(Tryz.prog.info? 5).map (·.size)=X 1:=Ef;have hml:m<=xs.length:=by rw[hx,<-hm];exact Nat.min_le_left _ _
 rcases Nat.eq_zero_or_pos m with h0|h0
 ·subst h0;refine⟨w,?_,?_,E_ _ _,fun _ _=>rfl,U⟩;·exact run_copy_none w _ _ ty _ Y_ A dLen dCap sLen sCap ba hs1 hm
  ·rw[Io,EEM];exact hg
 ·obtain rfl:=hD h0
  obtain⟨ad,rfl,hc⟩: ∃ad,A=X ad/\ ∀j v,((xs.take m).map (E .u8))[j]?=X v->w.cell? (ad.add j)=X v:=by
   rcases hr.1 with h|⟨b,o,h,hc⟩;·subst h;simp at hml;omega
   ·refine⟨_,h,fun j v hv=> ?_⟩
    have hj:j<(xs.take m).length:=by
     rcases JW j (xs.take m).length with h|h;·exact h
     ·rw[am UB] at hv;cases hv
    have hj2:j<xs.length:=sQ;rw[Addr.add_mid,hc j hj2];have Xg:j<m:=sQ;simp[bU Xg,hj2] at hv;exact congrArg X hv
  have hrun:=run_copy_row (P:=Ea) w 23 23 ty 5 g off dLen dCap ad sLen sCap (Em l) T ((xs.take m).map (E .u8)) ba hs1 hg (by simp[hml,hm]) hc (by rw[Oc];simp;omega) (by intro v hv;rw[bc] at hv;obtain⟨a,_,rfl⟩:=hv;rfl);have e:((Em l).toList.take off++(xs.take m).map (E .u8)++(Em l).toList.drop (off+((xs.take m).map (E .u8)).length)).toArray=Em (putAt l off (xs.take m)):=by simp[Em,putAt]
  rw[e] at hrun;refine⟨_,by rw[hrun];simp[goInt,hml],hg.setRow _,E6 (E_ _ _) (E9 _) _,fun k hk=>setRow_other w g k _ hk,Ej⟩
def Mr(o:EG)(a:E2)(Y_:Option Ev)(dLen dCap:Nat)(A:Option Ev)(sLen sCap:Nat):Prop:=match o.op with
 | .call ⟨.builtin .copy,args,tys⟩=>tys= #[23,23]/\ ∃d s,args= #[d,s]/\a.eval d=EJ Y_ dLen dCap/\a.eval s=EJ A sLen sCap
 |_=>False
section
variable{ops:Array Oper}{rest:List Oper}{o:Oper}{a:Act}{w:World}{Q:Exit->Act->World->Prop}
theorem jn(hw:I8 o (Ja ops a.tmps)=EI)(g off dLen dCap:Nat)(l:List Int)(T:Ez)(A:Option Ev)(sLen sCap:Nat)(xs:List Int)(m:Nat)(Y_:Option Ev) (hc:Mr o a Y_ dLen dCap A sLen sCap) (hg:Ed (H w g (Em l) T)) (hx:xs.length=sLen) (hr:Ed (Row w A xs)) (hm:Nat.min sLen dLen=m) (hfit:off+m<=l.length) (hD:0<m->Y_=X ⟨g,off,Z⟩) (h: ∀w',H w' g (Em (putAt l off (xs.take m))) T->Ir g w w'->(∀k,k≠g->w'.heap[k]?=w.heap[k]?)->w'.heap.size=w.heap.size->Ih Ea ops Q rest (a.put o.dst (E I m)) w'):Ih Ea ops Q (o::rest) a w:=by
 obtain⟨w',hrun,h1,h2,h3,h4⟩:=EEN w g off dLen dCap l T hg.out A sLen sCap xs hx hr.out m hm hfit Y_ hD o.type;unfold Mr at hc;split at hc;·rename_i args tys ho;obtain⟨rfl,d,s,rfl,e1,e2⟩:=hc;refine Jq hw (v:=E I m) (w':=w') ?_ (h w' h1 h2 h3 h4);unfold Ig;simp only[ho,resolve,invoke,builtin,Om,Oa,On,List.map_toArray,Xs,Zu,e1,e2,hrun]
 ·exact hc.elim
end
def UX:Option (Nat×Nat)->List G
 |none=>[EU V,E I 0,E Il 0]
 |some (h,s)=>[EU EI,E I h,E Il s]
theorem Ms(v:Option (Nat×Nat)):nj v=EZ (UX v).toArray:=Mt
theorem ql(v:Option (Nat×Nat)):(UX v).length=3:=Mt
structure JC where
 on:Bool
 (a m r:Int)
 key:List Int
 win:Option (Nat×Nat)
def Ox(on:Bool)(a m:Int):List G:=[EU on,E I a,E I m]
def JC.v(s:JC):List G:=Ox s.on s.a s.m++([E I s.r]++(s.key.map (E .u8)++UX s.win))
def UN:JC:=⟨V,0,0,0,Eu 32,Z⟩
structure JC.ok(s:JC):Prop where
 len:s.key.length=32
 bytes: ∀x∈s.key,0<=x/\x<=255
 win:qO s.win
theorem sW:UN.ok:=⟨U,Mp 32,trivial⟩
theorem JC.ZX{s:JC}(h:s.key.length=32):s.v.length=39:=by simp[JC.v,Ox,h,ql]
structure ET where
 Zv:Bool
 (sa sm:Int)
 (s0 s1 s2:JC)
 (Iq most:Int)
def ET.E5(T:ET):Nat->JC
 |0=>T.s0
 |1=>T.s1
 |_=>T.s2
def ET.put(T:ET):Nat->JC->ET
 |0,s=>{T with s0:=s}
 |1,s=>{T with s1:=s}
 |_,s=>{T with s2:=s}
def ET.hd(T:ET):List G:=[EU T.Zv,E I T.sa,E I T.sm]
def ET.tl(T:ET):List G:=[E I T.Iq,E I T.most]
def ET.v(T:ET):List G:=T.hd++(T.s0.v++(T.s1.v++(T.s2.v++T.tl)))
def ET.pre(T:ET):Nat->List G
 |0=>T.hd
 |1=>T.hd++T.s0.v
 |_=>T.hd++T.s0.v++T.s1.v
def ET.post(T:ET):Nat->List G
 |0=>T.s1.v++(T.s2.v++T.tl)
 |1=>T.s2.v++T.tl
 |_=>T.tl
structure ET.ok(T:ET):Prop where
 s0:T.s0.ok
 s1:T.s1.ok
 s2:T.s2.ok
theorem ET.ok.E5{T:ET}(h:T.ok)(i:Nat):(T.E5 i).ok:=by
 match i with
 |0=>exact h.s0
 |1=>exact h.s1
 |_+2=>exact h.s2
theorem ET.ok.put{T:ET}(h:T.ok)(i:Nat){s:JC}(hs:s.ok):(T.put i s).ok:=by
 match i with
 |0=>exact⟨hs,h.s1,h.s2⟩
 |1=>exact⟨h.s0,hs,h.s2⟩
 |_+2=>exact⟨h.s0,h.s1,hs⟩
theorem ET.qm(T:ET)(i:Nat):T.v=T.pre i++((T.E5 i).v++T.post i):=by
 match i with
 |0=>rfl
 |1=>simp[ET.v,ET.pre,ET.post,ET.E5]
 |_+2=>simp[ET.v,ET.pre,ET.post,ET.E5]
theorem ET.sY(T:ET)(i:Nat)(s:JC):(T.put i s).v=T.pre i++(s.v++T.post i):=by
 match i with
 |0=>rfl
 |1=>simp[ET.v,ET.pre,ET.post,ET.put,ET.hd,ET.tl]
 |_+2=>simp[ET.v,ET.pre,ET.post,ET.put,ET.hd,ET.tl]
def so(i:Nat):Nat:=match i with|0=>3|1=>42|_=>81
theorem ET.nu{T:ET}(h:T.ok)(i:Nat):(T.pre i).length=so i:=by
 match i with
 |0=>rfl
 |1=>simp[ET.pre,so,ET.hd,JC.ZX h.s0.len]
 |_+2=>simp[ET.pre,so,ET.hd,JC.ZX h.s0.len,JC.ZX h.s1.len]
def Ip(W:M)(g:Nat)(T:ET):Prop:=H W g T.v.toArray 163
theorem bf{o:Nat}{pre old post:List G}(K:H W g (pre++(old++post)).toArray S)(ho:pre.length=o)(j:Nat)(hj:j<old.length):W.cell? ⟨g,o+j,Z⟩=old[j]?:=by rw[K.cell (o+j),J0,ay D,bO D];congr 1;omega
theorem aA{o n:Nat}(K:H W g cs S)(h:o+n<=cs.size):W.there g o n:=fun j hj=>by refine⟨?_,K.I_ _⟩;rw[K.cell,ji D];rfl
structure E3(g:Nat)(W w':M):Prop where
 size:W.heap.size<=w'.heap.size
 keep: ∀k,k≠g->k<W.heap.size->w'.heap[k]?=W.heap[k]?
 bel: ∀b,b<=g->b<=W.heap.size->Ir b W w'
theorem E3.refl(g:Nat)(W:M):E3 g W W:=⟨E9 _,fun _ _ _=>rfl,fun _ _ _=>E_ _ _⟩
theorem E3.trans{a b c:M}(h:E3 g a b)(k:E3 g b c):E3 g a c:=
 ⟨EB h.size k.size,fun i hi hl=>(k.keep i hi (Nat.lt_of_lt_of_le hl h.size)).trans (h.keep i hi hl),fun i hi hl=>(h.bel i hi hl).trans (k.bel i hi (EB hl h.size))⟩
theorem E3.EC(h:Ek W w'):E3 g W w':=
 ⟨h.size,fun k _ hl=>h.block k hl,fun b _ hb=>h.mono hb⟩
theorem E3.El{g2:Nat}(h:E3 g W w')(K:H W g2 cs S)(hne:g2≠g):H w' g2 cs S:=(h.keep g2 hne K.lt).trans K
theorem JS(p:Nat)(v:G):E3 g W (W.setCell ⟨g,p,Z⟩ v):=
 ⟨CY,fun k hk _=>ax _ _ _ _ hk,fun b hb _=>(E_ b W).setCell (p:=⟨g,p,Z⟩) hb v⟩
theorem JG{g:Nat}: ∀(vs:List G) (o:Nat) (W:M),E3 g W (W.setCells g o vs)
 |[],_,W=>E3.refl g W
 |v::r,o,W=>(JS o v).trans (JG r (o+1) _)
theorem ZZ{g:Nat}{post:List G}{S:Ez}: ∀(vs old pre:List G) (o:Nat) (W:M),H W g (pre++(old++post)).toArray S->vs.length=old.length->pre.length=o->H (W.setCells g o vs) g (pre++(vs++post)).toArray S
 |[],old,pre,o,W,K,hl,ho=>by have:old=[]:=ao hl.symm;subst this;exact K
 |v::vs,[],pre,o,W,K,hl,ho=>by simp at hl
 |v::vs,x::old,pre,o,W,K,hl,ho=>by
  have k1:=K.set o v;have e:(pre++(x::old++post)).toArray.setIfInBounds o v=((pre++[v])++(old++post)).toArray:=by rw[Ii];congr 1;rw[List.set_append_right _ _ D,ho,Nat.sub_self];simp
  rw[e] at k1;have k2:=ZZ vs old (pre++[v]) (o+1) _ k1 (by simpa using hl) (by simp[ho]);rw[World.setCells];simpa using k2
theorem dT:IF Ea 107 2:=⟨⟨_,Tryz.underlying107,U⟩,Ef⟩
theorem xq(most:Int)(w:M): Eg Ea 174 #[E I most] w fun e w'=>e=Eh (EZ #[E I 0,E I (max most 0)])/\Ek w w':=by obtain⟨mb,hmb⟩:=OQ (max most 0);rw[hmb];go_enter Tryz.func174,Tryz.ntmps174;go_wp2_with ((with_reducible refine EEK (p:=most) (q:=0) (r:=mb) _ _ _ U U ?_ ?_ ?_ ?_);(·rfl);(·rfl);(·exact hmb));refine EV (by simp[UW,Tryz.results174,go_sem]) U ⟨U,?_⟩;exact Er w _
theorem xr(a m:Int)(w:M)(h1: -9223372036854775808<=a)(h3:m<=9223372036854775807): Eg Ea 148 #[EZ #[E I a,E I m]] w fun e w'=>e=Eh (EZ #[E I (sat a m),E I m])/\Ek w w':=by have CS:=J<|fun W=>sF a m W h1 h3;generalize sat a m=r at*;clear h1 h3;go_enter Tryz.func148,Tryz.ntmps148;go_wp2_with fail;refine(CS.out _).mono ?_;rintro e w' ⟨rfl,rfl⟩;go_wp2_with fail;refine EV C_ U ⟨U,?_⟩;exact J3 w _ _
theorem xt(a m:Int)(w:M): Eg Ea 149 #[EZ #[E I a,E I m]] w fun e w'=>e=Eh (EU (decide (m<=a)))/\Ek w w':=by obtain⟨b,hb⟩:=OQ (decide (m<=a));rw[hb];go_enter Tryz.func149,Tryz.ntmps149;go_wp2;go_ret;exact⟨U,Er w _⟩
theorem xu(g o:Nat)(pre post:List G)(x y z:G)(S:Ez)(Iq:Int)(w:M)(K:H w g (pre++([x,y,z]++post)).toArray S)(ho:pre.length=o): Eg Ea 127 #[Y (X ⟨g,o,Z⟩),E I Iq] w fun e w'=>e=Eh (Es #[])/\H w' g (pre++(Ox EI 0 (max Iq 0)++post)).toArray S/\E3 g w w':=by have c0:w.cell? ⟨g,o,Z⟩=X x:=bf (old:=[x,y,z]) K ho 0 Ej;have f0:w.frozen? ⟨g,o,Z⟩=V:=K.I_ o;have K1:Ed (H (w.setCell ⟨g,o,Z⟩ (EU EI)) g (pre++([EU EI,y,z]++post)).toArray S):=J<|ZZ (post:=[y,z]++post) [EU EI] [x] pre o w (by simpa using K) U ho;have ON:=J<|JS (g:=g) (W:=w) o (EU EI);have HO:=J ho;have CT:=J<|fun W=>xq Iq W;generalize max Iq 0=mb at*;clear K ho;go_enter Tryz.func127,Tryz.ntmps127;go_wp2_with fail;clear c0 f0;generalize w.setCell ⟨g,o,Z⟩ (EU EI)=w1 at*;refine(CT.out _).mono ?_;rintro e w2 ⟨rfl,b2⟩;replace K1:=J<|K1.out.u b2;replace ON:=J<|ON.out.trans (E3.EC b2);clear b2 CT;have K2:Ed (H (w2.setCells g (o+1) [E I 0,E I mb]) g (pre++(Ox EI 0 mb++post)).toArray S):=J (by have:=ZZ (g:=g) (post:=post) (S:=S) [E I 0,E I mb] [y,z] (pre++[EU EI]) (o+1) w2 (by simpa[Ox] using K1.out) U (by simp[HO.out]);simpa[Ox] using this);have DE:=J<|ON.out.trans (JG (g:=g) [E I 0,E I mb] (o+1) w2);have HS:Ed (o+1+2<=(pre++([EU EI,y,z]++post)).toArray.size):=J (by have:=HO.out;simp[Ox];omega);have c1:w2.cell? ⟨g,o+1,Z⟩=X y:=bf (old:=[EU EI,y,z]) K1.out HO.out 1 Ej;have c2:w2.cell? ⟨g,o+1+1,Z⟩=X z:=bf (old:=[EU EI,y,z]) K1.out HO.out 2 Ej;have f1:w2.frozen? ⟨g,o+1,Z⟩=V:=K1.out.I_ _;have f2:w2.frozen? ⟨g,o+1+1,Z⟩=V:=K1.out.I_ _;go_wp2;go_end0;exact⟨U,K2.out,DE.out⟩
theorem Mu(g o:Nat)(pre post:List G)(y z:G)(S:Ez)(w:M)(K:H w g (pre++([EU V,y,z]++post)).toArray S)(ho:pre.length=o): Eg Ea 145 #[Y (X ⟨g,o,Z⟩)] w fun e w'=>e=Eh (EU V)/\w=w':=by have c0:w.cell? ⟨g,o,Z⟩=X (EU V):=bf (old:=[EU V,y,z]) K ho 0 Ej;clear K ho;go_enter Tryz.func145,Tryz.ntmps145;exact Ej7
theorem Mv(g o:Nat)(pre post:List G)(a m:Int)(S:Ez)(w:M)(K:H w g (pre++(Ox EI a m++post)).toArray S)(ho:pre.length=o)(h1: -9223372036854775808<=a)(h3:m<=9223372036854775807): Eg Ea 145 #[Y (X ⟨g,o,Z⟩)] w fun e w'=>e=Eh (EU (decide (m<=sat a m)))/\H w' g (pre++(Ox EI (sat a m) m++post)).toArray S/\E3 g w w':=by have c0:w.cell? ⟨g,o,Z⟩=X (EU EI):=bf (old:=Ox EI a m) K ho 0 ny;have c1:w.cell? ⟨g,o+1,Z⟩=X (E I a):=bf (old:=Ox EI a m) K ho 1 ny;have c2:w.cell? ⟨g,o+2,Z⟩=X (E I m):=bf (old:=Ox EI a m) K ho 2 ny;have CS:=J<|fun W=>xr a m W h1 h3;have CD:=J<|fun W=>xt (sat a m) m W;generalize sat a m=r at*;generalize decide (m<=r)=rb at*;have KK:=J K;have HO:=J ho;clear K ho h1 h3;go_enter Tryz.func145,Tryz.ntmps145;go_wp2_with fail;refine(CS.out _).mono ?_;rintro e w2 ⟨rfl,b2⟩;replace KK:=J<|KK.out.u b2;have ON:Ed (E3 g w w2):=J<|E3.EC b2;clear b2 CS c0 c1 c2;have K2:Ed (H (w2.setCells g (o+1) [E I r,E I m]) g (pre++(Ox EI r m++post)).toArray S):=J (by have:=ZZ (g:=g) (post:=post) (S:=S) [E I r,E I m] [E I a,E I m] (pre++[EU EI]) (o+1) w2 (by simpa[Ox] using KK.out) U (by simp[HO.out]);simpa[Ox] using this);have DE:=J<|ON.out.trans (JG (g:=g) [E I r,E I m] (o+1) w2);have HS:Ed (o+1+2<=(pre++(Ox EI a m++post)).toArray.size):=J (by have:=HO.out;simp[Ox];omega);have c1:w2.cell? ⟨g,o+1,Z⟩=X (E I a):=bf (old:=Ox EI a m) KK.out HO.out 1 ny;have c2:w2.cell? ⟨g,o+1+1,Z⟩=X (E I m):=bf (old:=Ox EI a m) KK.out HO.out 2 ny;have f1:w2.frozen? ⟨g,o+1,Z⟩=V:=KK.out.I_ _;have f2:w2.frozen? ⟨g,o+1+1,Z⟩=V:=KK.out.I_ _;go_wp2_with (with_reducible refine JU 19 ?_);apply Et;clear c1 c2 f1 f2;rw[show(w2.setCell ⟨g,o+1,Z⟩ (E I r)).setCell ⟨g,o+1+1,Z⟩ (E I m)=w2.setCells g (o+1) [E I r,E I m] from rfl];generalize w2.setCells g (o+1) [E I r,E I m]=w3 at*;have c1:w3.cell? ⟨g,o+1,Z⟩=X (E I r):=bf (old:=Ox EI r m) K2.out HO.out 1 ny;have c2:w3.cell? ⟨g,o+2,Z⟩=X (E I m):=bf (old:=Ox EI r m) K2.out HO.out 2 ny;go_wp2_with fail;refine(CD.out _).mono ?_;rintro e w4 ⟨rfl,b4⟩;go_wp2;go_ret;exact⟨U,K2.out.u b4,DE.out.trans (E3.EC b4)⟩
def Jh(w:M)(g:Nat)(Gs:List (List G))(S:Ez):Prop:=H w g Gs.flatten.toArray S
def aB(Gs:List (List G))(k:Nat):Nat:=(Gs.take k).flatten.length
theorem s_{old:List G}(hk:Gs[k]?=X old):Gs.flatten=(Gs.take k).flatten++(old++(Gs.drop (k+1)).flatten):=by obtain⟨h,e⟩:=Xr.1 hk;conv=>lhs;rw[<-dR k Gs,List.flatten_append,lO h,List.flatten_cons,e]
theorem EEP{old:List G}(hk:Gs[k]?=X old)(vs:List G):(Gs.set k vs).flatten=(Gs.take k).flatten++(vs++(Gs.drop (k+1)).flatten):=by
 obtain⟨h,e⟩:=Xr.1 hk;have h2:(Gs.set k vs)[k]?=X vs:=by rw[List.getElem?_set_self h]
 rw[s_ h2,List.take_set_of_le (E9 _),List.drop_set_of_lt D]
theorem Jh.cell(K:Jh W g Gs S)(k:Nat){o:Nat}{old:List G}(hk:Gs[k]?=X old)(ho:aB Gs k=o)(j:Nat)(hj:j<old.length):W.cell? ⟨g,o+j,Z⟩=old[j]?:=by unfold Jh at K;rw[s_ hk] at K;exact bf K ho j hj
theorem Jh.set(K:Jh W g Gs S)(k:Nat){o:Nat}{old:List G}(hk:Gs[k]?=X old)(ho:aB Gs k=o)(vs:List G)(hl:vs.length=old.length):Jh (W.setCells g o vs) g (Gs.set k vs) S:=by unfold Jh at*;rw[s_ hk] at K;rw[EEP hk];exact ZZ vs old _ o W K hl ho
theorem Jh.extract(k:Nat){o:Nat}{old:List G}(hk:Gs[k]?=X old)(ho:aB Gs k=o)(n:Nat)(hn:old.length=n):Gs.flatten.toArray.extract o (o+n)=old.toArray:=by subst ho hn;rw[s_ hk];unfold aB;simp
theorem Jh.there(K:Jh W g Gs S)(k:Nat){o:Nat}{old:List G}(hk:Gs[k]?=X old)(ho:aB Gs k=o)(n:Nat)(hn:n<=old.length):W.there g o n:=by refine aA K ?_;rw[s_ hk,List.size_toArray,I1,I1];unfold aB at ho;omega
theorem Jh.u(K:Jh W g Gs S)(hb:Ek W w'):Jh w' g Gs S:=H.u K hb
theorem Jh.lt(K:Jh W g Gs S):g<W.heap.size:=H.lt K
theorem Jh.I_(K:Jh W g Gs S)(i:Nat):W.frozen? ⟨g,i,Z⟩=V:=H.I_ K i
section
variable{P:Program}{ops:Array Oper}{rest:List Oper}{o:Oper}{a:Act}{w:World}{Q:Exit->Act->World->Prop}
end
def jo:List Ez:=[120,163,152,171,124]
def DI(o:Option Obj):Bool:=match o with
 |some (Ec _ T _)=>jo.contains T
 |_=>V
def tE(w:M)(k:Nat):Bool:=DI w.heap[k]?
structure DJ(lo hi:Nat)(w w':M):Prop where
 os:w'.os=w.os
 tape:w'.tape=w.tape
 output:w'.output=w.output
 size:w.heap.size<=w'.heap.size
 keep: ∀k,k<hi->(lo<=k->tE w k=V)->w'.heap[k]?=w.heap[k]?
 stay: ∀k,lo<=k->k<hi->tE w k=EI->tE w' k=EI
theorem DJ.u{lo hi:Nat}(h:DJ lo hi w w')(hl:lo<=hi):Ir lo w w':=
 ⟨h.os,h.tape,h.output,h.size,fun k hk=>h.keep k (Nat.lt_of_lt_of_le hk hl) (fun hc=>absurd hc D)⟩
structure EM where
 (h e o oa om la lm:Int)
 bad:Bool
def EM.v(t:EM):List G:=[E I t.h,E I t.e,E I t.o,E I t.oa,E I t.om,E I t.la,E I t.lm,EU t.bad]
def I4(x:Int):Prop:= -9223372036854775808<=x/\x<=9223372036854775807
structure EM.ok(t:EM):Prop where
 h:0<=t.h/\t.h<=4
 e:0<=t.e/\t.e<=65535
 o: -1<=t.o/\t.o<=3
 oa:0<=t.oa/\t.oa<=1000
 om:0<=t.om/\t.om<=1000
 la:0<=t.la/\t.la<=1000
 lm:0<=t.lm/\t.lm<=1000
 off:0<=t.o->1<=t.h/\t.h<=3/\t.o≠t.h
def EM.pass(t:EM)(IW e:Int):EM:=⟨IW,e,-1,0,0,0,0,t.bad⟩
def EM.UZ(t:EM)(IW:Int):EM×Int:=
 if IW<0\/5<=IW then(t,1) else if IW=t.h then(t,25) else if 65535<=t.e then(t,24) else(t.pass IW (t.e+1),0)
def EM.bh(t:EM):EM:=t.pass 4 (if t.h≠4 then sat t.e 65535 else t.e)
def EM.end_(t:EM):EM:={t with o:= -1,oa:=0,om:=0}
def EM.make(t:EM)(po from_ IW:Int)(there:Bool):EM×Int:=
 if from_≠t.h then(t,20) else if 65535<=t.e then(t,24) else if IW=from_ then(t,25) else if IW<1\/3<IW\/there=V then(t,2) else if 0<=t.o then(t,28)
 else({t with o:=IW,oa:=0,om:=max po 0},0)
def EM.accept(t:EM)(from_ OE:Int):EM×Int:=
 if t.o<0\/t.o≠from_ then(t,28) else if OE≠t.e then(t,21) else t.UZ from_
def EM.nz(t:EM)(from_:Int):EM×Int:=if t.o<0\/t.o≠from_ then(t,28) else(t.end_,0)
def EM.drop(t:EM)(s:Int):EM×Bool:=if t.o<0\/t.o≠s then(t,V) else(t.end_,EI)
def EM.Uk(t:EM):EM×Int:=
 if t.o<0 then(t,-1) else if sat t.oa t.om<t.om then({t with oa:=sat t.oa t.om},-1) else({t with oa:=sat t.oa t.om}.end_,t.o)
structure Xh where
 (r s q:Int)
def Xh.v(b:Xh):List G:=[E I b.r,E I b.s,E I b.q]
structure Xh.ok(b:Xh):Prop where
 r:I4 b.r
 s:I4 b.s
 q:I4 b.q
def DO:Xh:=⟨2,4,0⟩
structure Pt where
 (c a0 a1 a2 a3 n0 n1 n2 n3:Int)
 b:Xh
def Pt.v(p:Pt):List G:=[E I p.c,E I p.a0,E I p.a1,E I p.a2,E I p.a3,E I p.n0,E I p.n1,E I p.n2,E I p.n3,E I p.b.r,E I p.b.s,E I p.b.q]
structure Pt.ok(p:Pt):Prop where
 c:I4 p.c
 a0:I4 p.a0
 a1:I4 p.a1
 a2:I4 p.a2
 a3:I4 p.a3
 n0:I4 p.n0
 n1:I4 p.n1
 n2:I4 p.n2
 n3:I4 p.n3
structure Rec where
 (k s q e c h:Int)
deriving DecidableEq
def Rec.v(x:Rec):List G:=[E I x.k,E I x.s,E I x.q,E I x.e,E I x.c,E I x.h]
def Xi(l:List Rec):List G:=l.flatMap Rec.v
theorem DU(l:List Rec):(Xi l).length=l.length*6:=by
 induction l with
 |nil=>rfl
 |cons x r ih=>simp only[Xi,nA,I1,Zw] at*;rw[ih];simp[Rec.v];omega
theorem Mw(a b:List Rec):Xi (a++b)=Xi a++Xi b:=by simp[Xi]
structure One where
 (s r a m:Int)
 n:Nat
def One.v(x:One):List G:=[E I x.s,E I x.r,E I x.a,E I x.m,E Il x.n]
structure One.ok(x:One):Prop where
 s:I4 x.s
 r:I4 x.r
 a:0<=x.a/\x.a<=1000
 m:0<=x.m/\x.m<=1000
 n:x.n<18446744073709551616
def IB(l:List One):List G:=l.flatMap One.v
theorem bi(l:List One):(IB l).length=l.length*5:=by
 induction l with
 |nil=>rfl
 |cons x r ih=>simp only[IB,nA,I1,Zw] at*;rw[ih];simp[One.v];omega
structure EF where
 tok:EM
 q:List One
 T:ET
 (samples beyond mode:Int)
 En:Xh
 pt:Pt
section
variable{P:Program}
theorem Mx{T:Ez}{n:Nat}(hA:IF P T n)(hg:H w g cs T)(hn:cs.size=n):(loadVar T ⟨g,0,Z⟩).run P w= .ok (EZ cs) w:=by obtain⟨⟨d,hu,hd⟩,hi⟩:=hA;cases d<;>first|(cases hd;done)|exact run_loadVar_row w g T T cs (0,0) _ hg hu rfl fF
theorem Us{q:Tmp}{T:Ez}{n:Nat}(hT:IF P T n)(h:fn.results= #[.cell p T,.tmp q])(tmps:Array G)(w:M)(g:Nat)(cs:Array G)(v:G) (hp:tmps.getD p Iv=Y (X ⟨g,0,Z⟩)) (hq:tmps.getD q Iv=v) (hg:H w g cs T) (hn:cs.size=n):(UW fn tmps).run P w= .ok (Es #[EZ cs,v]) w:=by have hp':tmps[p]?.getD Iv=Y (X ⟨g,0,Z⟩):=jf;have hq':tmps[q]?.getD Iv=v:=qn;simp[UW,h,hp',hq',asAddr,Mx hT hg hn]
theorem iX{q r:Tmp}{T:Ez}{n:Nat}(hT:IF P T n)(h:fn.results= #[.cell p T,.tmp q,.tmp r])(tmps:Array G)(w:M)(g:Nat)(cs:Array G)(v v2:G) (hp:tmps.getD p Iv=Y (X ⟨g,0,Z⟩)) (hq:tmps.getD q Iv=v) (hr:tmps.getD r Iv=v2) (hg:H w g cs T) (hn:cs.size=n):(UW fn tmps).run P w= .ok (Es #[EZ cs,v,v2]) w:=by
 have hp':tmps[p]?.getD Iv=Y (X ⟨g,0,Z⟩):=jf;have hq':tmps[q]?.getD Iv=v:=qn;have hr':tmps[r]?.getD Iv=v2:=by simpa using hr
 simp[UW,h,hp',hq',hr',asAddr,Mx hT hg hn]
end
def nB(ops:Array EG)(i k:Nat):Prop:= ∃o e,ops[i]?=X o/\e∈o.after/\Ur .any e=EI/\e.on=k
def qo(R:Nat->(Nat->G)->M->Prop)(o:EG)(x:Nat->G)(w:M):Prop:= ∀e∈o.after,Ur .any e=EI->R e.on x w
theorem qo.at{o:EG}(hd:qo R o x w)(j:Nat)(h:(o.after.toList.any fun e=>Ur .any e&&e.on==j)=EI):R j x w:=by exact El2
section
variable{P:Program}{ops:Array Oper}{Q:Exit->Act->World->Prop}
@[irreducible] def XL(Rel:M->M->Prop)(P:Jd)(ops:Array EG)(Q:UL->E2->M->Prop)(F:(Nat->G)->E2)(R:Nat->(Nat->G)->M->Prop)(i:Nat)(o:EG)(x:Nat->G)(w:M):Prop:=
 if I8 o (Ja ops (F x).tmps) then o.wp P (F x) w (fun a' w'=> ∃v,a'=(F x).put o.dst v/\Rel w w'/\R i (J7 x i v) w') Q
 else R i (J7 x i Iv) w
def lU(ops:Array EG):Bool:=(UM ops.size).all fun i=>match ops[i]? with
 |none=>V
 |some o=>o.after.all fun e=> !(Ur .any e)||decide (e.on<i)
theorem My{ops:Array EG}(h:lU ops=EI){o:EG}(ho:ops[i]?=X o): ∀e∈o.after,Ur .any e=EI->e.on<i:=by have hi:=(J4.1 ho).1;have h1:=XJ.1 h i (ar.2 hi);simp only[ho] at h1;intro e he hb;have h2:=Array.all_eq_true_iff_forall_mem.1 h1 e he;rw[hb] at h2;simpa using h2
def xw(Rel:M->M->Prop)(P:Jd)(ops:Array EG)(Q:UL->E2->M->Prop)(W:M)(F:(Nat->G)->E2)(R:Nat->(Nat->G)->M->Prop):Nat->List EG->Prop
 |_,[]=>True
 |i,o::l=>(∀x w,Rel W w->qo R o x w->XL Rel P ops Q F R i o x w)/\xw Rel P ops Q W F R (i+1) l
theorem Iw{Rel:M->M->Prop}(hT:Kept Rel){o:EG}{v:G}(hw:I8 o (Ja ops (F x).tmps)=EI) (hr:(Ig (F x).eval o).run P w= .ok (.value v) w) (h:R i (J7 x i v) w):XL Rel P ops Q F R i o x w:=by unfold XL;exact EnR
theorem Ep{P:Jd}{ops:Array EG}{Q:UL->E2->M->Prop}{o:EG}{v:G}(hr:(Ig (F x).eval o).run P w= .ok (.value v) w)(h:R i (J7 x i v) w)(hw:o.guard=Z:=by rfl):XL Jn P ops Q F R i o x w:=Iw EK (Ei hw) hr h
theorem Za{Rel:M->M->Prop}{o:EG}{v:G}(hw:I8 o (Ja ops (F x).tmps)=EI) (hr:(Ig (F x).eval o).run P w= .ok (.value v) w') (hb:Rel w w') (h:R i (J7 x i v) w'):XL Rel P ops Q F R i o x w:=by unfold XL;exact En2
theorem JE{Rel:M->M->Prop}{o:EG}(hw:I8 o (Ja ops (F x).tmps)=EI) (hr:(Ig (F x).eval o).run P w= .ok (.enter f args) w) (hc:Eg P f args w fun e w'=> ∃v,e=Eh v/\Rel w w'/\R i (J7 x i v) w'):XL Rel P ops Q F R i o x w:=by unfold XL;exact Enc
theorem Zb{Rel:M->M->Prop}{o:EG}(hw:I8 o (Ja ops (F x).tmps)=V)(h:R i (J7 x i Iv) w):XL Rel P ops Q F R i o x w:=by unfold XL;rw[if_neg DX];exact h
end
def RX(S:Nat->G->M->Prop)(j k:Nat)(S2:G->M->Prop):Nat->(Nat->G)->M->Prop:=fun i x w=>if i=j then S2 (x k) w else S i (x i) w
theorem RX.keep{Rel:M->M->Prop}{S:Nat->G->M->Prop}{m:Nat}(h1: ∀i v w w',i<m->S i v w->Rel w w'->S i v w')(h2: ∀v w w',S2 v w->Rel w w'->S2 v w'): ∀i x w w',i<m->RX S j k S2 i x w->Rel w w'->RX S j k S2 i x w':=by
 intro i x w w' hi h hb;unfold RX at*;split;·rename_i e;rw[if_pos e] at h;exact h2 _ _ _ h hb
 ·rename_i e;rw[if_neg e] at h;exact h1 _ _ _ _ hi h hb
theorem RX.dep{S:Nat->G->M->Prop}{m:Nat}(hw:nB ops j k): ∀i x y w,i<m->(∀q,(q=i\/nB ops i q)->x q=y q)->RX S j k S2 i x w->RX S j k S2 i y w:=by
 intro i x y w hi hq h;unfold RX at*;split;·rename_i e;rw[if_pos e] at h;subst e;rw[<-hq k (.inr hw)];exact h
 ·rename_i e;rw[if_neg e] at h;rw[<-hq i (.inl rfl)];exact h
theorem tI(h:(match ops[i]? with|some o=>o.after.toList.any (fun e=>Ur .any e&&e.on==k)|none=>false)=EI):nB ops i k:=by
 cases ho:ops[i]? with
 |none=>rw[ho] at h;cases h
 |some o=> rw[ho] at h;obtain⟨e,he,hb⟩:=List.any_eq_true.1 h;simp only[UJ,beq_iff_eq] at hb;exact⟨o,e,ho,Array.mem_toList_iff.1 he,hb.1,hb.2⟩
section
variable{P:Program}{ops:Array Oper}{Q:Exit->Act->World->Prop}{Rel:World->World->Prop}{F:(Nat->Value)->Act}{R:Nat->(Nat->Value)->World->Prop}{i:Nat}{o:Oper}{x:Nat->Value}{w:World}
theorem cO{T:Ez}{n:Nat}(hA:IF P T n)(hw:I8 o (Ja ops (F x).tmps)=EI)(hl:qU o (F x) T g cs)(hg:H w g old T)(ho:old.size=n)(hn:cs.size=n) (h1:cs.all (·.oneCell')=EI) (hb:Rel w (w.setRow g cs)) (h:R i (J7 x i Iv) (w.setRow g cs)):XL Rel P ops Q F R i o x w:=by
 obtain⟨-,hi⟩:=hA;unfold qU at hl;split at hl
 ·rename_i t a b hop;obtain⟨rfl,hx,hy⟩:=hl;unfold XL;rw[if_pos hw];have hrun:(Ig (F x).eval o).run P w= .ok .skip (w.setRow g cs):=by unfold Ig;simp only[hop,hx,hy,Instr.storeAt,bI,Om,Oa,On,run_storeVar_row _ g t t old cs hg fF (by rw[ho,hn]) h1]
  unfold cE;rw[hrun];exact⟨Iv,rfl,hb,h⟩
 ·exact hl.elim
theorem lX(hT:Kept Rel){T:Ez}{n g:Nat}{cs:Array G}(hA:IF P T n)(hw:I8 o (Ja ops (F x).tmps)=EI) (hl:kP o (F x) T g) (hg:H w g cs T) (hn:cs.size=n) (h:R i (J7 x i (EZ cs)) w):XL Rel P ops Q F R i o x w:=by
 obtain⟨⟨d,hu,hd⟩,hi⟩:=hA;unfold kP at hl;split at hl
 ·rename_i t y ho;obtain⟨rfl,hx⟩:=hl;refine Iw hT hw ?_ h;have hrun:(loadVar t ⟨g,0,Z⟩).run P w= .ok (EZ cs) w:=by cases d<;>first|(cases hd;done)|exact run_loadVar_row w g t t cs (0,0) _ hg hu rfl fF
  unfold Ig;exact Elq
 ·exact hl.elim
theorem aC(hT:Kept Rel){T TB:Ez}{n g off:Nat}{cs big:Array G}(hA:IF P T n)(hw:I8 o (Ja ops (F x).tmps)=EI) (hl:jl o (F x) T g off) (hg:H w g big TB) (hn:cs.size=n) (he:big.extract off (off+n)=cs) (h:R i (J7 x i (EZ cs)) w):XL Rel P ops Q F R i o x w:=by
 obtain⟨⟨d,hu,hd⟩,hi⟩:=hA;unfold jl at hl;split at hl;·rename_i t y ho;obtain⟨rfl,hx⟩:=hl;refine Iw hT hw ?_ h;exact Eoh
 ·exact hl.elim
end
def lZ(b0:Nat)(T:Ez)(cs:Array G)(w w':M):Prop:=
 w.heap.size<=w'.heap.size/\(b0<=w.heap.size->Ir b0 w w')/\
 ∀(g:Nat) (c:Array G) (S:Ez),H w g c S->H w' g c S\/(b0<=g/\S=T/\c.size=cs.size/\H w' g cs S)
theorem fK{T:Ez}:Kept (lZ b0 T cs):=by
 refine⟨fun w=>⟨E9 _,fun _=>E_ _ _,fun g c S h=> .inl h⟩,?_,fun w=>⟨E9 _,fun _=>(E_ _ _).drew,fun g c S h=> .inl h⟩⟩;rintro a b c ⟨h1,h2,h3⟩ ⟨k1,k2,k3⟩;refine⟨EB h1 k1,fun h=>(h2 h).trans (k2 (EB h h1)),fun g d S hg=> ?_⟩;rcases h3 g d S hg with h|⟨l,e,z,h⟩;·exact k3 g d S h
 ·rcases k3 g cs S h with h'|⟨l',e',z',h'⟩;·exact .inr ⟨l,e,z,h'⟩
  ·exact .inr ⟨l,e,z,h'⟩
theorem Mz{T:Ez}(hb:Ek w w'):lZ b0 T cs w w':=⟨hb.size,fun h=>hb.mono h,fun g c S h=> .inl (h.u hb)⟩
theorem EEQ{T:Ez}(hk:H w g old T)(hg:b0<=g)(hs:old.size=cs.size):lZ b0 T cs w (w.setRow g cs):=by
 refine⟨Ej,fun h=>E6 (g:=g) (E_ b0 w) hg cs,fun k c S h=> ?_⟩;by_cases e:k=g;·subst e;have e2:=(show X (Ec c S (0,0))=X (Ec old T (0,0)) from h.symm.trans hk);injection e2 with e2;injection e2 with e3 e4;subst e3 e4;exact .inr ⟨hg,U,hs,hk.setRow cs⟩
 ·exact .inl (h.setRow_other g cs e)
theorem MA{T:Ez}{c:Array G}(h:lZ b0 T cs w w')(hk:H w g c S)(hn:g<b0\/S≠T\/c.size≠cs.size):H w' g c S:=by
 rcases h.2.2 g c S hk with h1|⟨l,e,z,-⟩;·exact h1
 ·rcases hn with hn|hn|hn;·omega
  ·exact absurd e hn
  ·exact absurd z hn
theorem EER{T:Ez}{c:Array G}(h:lZ b0 T cs w w')(hk:H w g c T)(hs:c.size=cs.size): ∃c',c'.size=cs.size/\H w' g c' T:=by
 rcases h.2.2 g c T hk with h1|⟨-,-,-,h1⟩;·exact⟨c,hs,h1⟩
 ·exact⟨cs,U,h1⟩
theorem EES{T:Ez}(h:lZ b0 T cs w w')(hk:H w g cs T):H w' g cs T:=by
 rcases h.2.2 g cs T hk with h1|⟨-,-,-,h1⟩;·exact h1
 ·exact h1
def dV(ops:Array EG):Nat->Nat->Nat->Bool
 |0,_,_=>V
 |f+1,i,k=>match ops[i]? with
  |none=>V
  |some o=>o.after.any fun e=>Ur .any e&&(e.on==k||dV ops f e.on k)
theorem xx{ops:Array EG}{listed:Array Bool}(hcl:db ops listed): ∀(f i k:Nat),dV ops f i k=EI->i<ops.size->listed.getD i EI=EI->listed.getD k EI=EI
 |0,_,_,h,_,_=>Uq
 |f+1,i,k,h,hi,hl=>by
  unfold dV at h;rw[ji hi] at h;simp only at h;obtain⟨e,he,hb⟩:=Array.any_eq_true'.1 h;simp only[UJ,k_,beq_iff_eq] at hb;have h1:=hcl i _ (ji hi) hl e he hb.1;rcases hb.2 with h2|h2;·rw[<-h2];exact h1
  ·by_cases he2:e.on<ops.size;·exact xx hcl f e.on k h2 he2 h1
   ·cases f with
    |zero=>cases h2
    |succ f=>unfold dV at h2;rw[fD D] at h2;cases h2
def jp(ops:Array EG)(cs:List Nat)(ks:List (Nat×Nat)):Bool:=ks.length==ops.size&&cs.all (fun c=>decide (c<ops.size))&&decide cs.Nodup&&(UM ops.size).all fun i=>match ks[i]? with
 |some (lo,hi)=>(UM cs.length).all (fun j=>match cs[j]? with
  |some c=>if c=i then decide (lo=j)&&decide (hi=j) else(decide (lo<=j)||dV ops ops.size i c)&&(decide (j<hi)||dV ops ops.size c i)
  |none=>V)
 |none=>V
def cnt(cs:List Nat)(listed:Array Bool):Nat:=(cs.filter fun c=>listed.getD c EI).length
theorem DZ{listed:Array Bool}: ∀(cs:List Nat) (lo:Nat),lo<=cs.length->(∀j c,j<lo->cs[j]?=X c->listed.getD c EI=EI)->lo<=cnt cs listed
 |_,0,_,_=>fL _
 |[],_+1,h,_=>absurd h Ej
 |c::cs,lo+1,h,hl=>by have h0:=hl 0 c D U;have ih:=DZ cs lo UB (fun j c' hj hc=>hl (j+1) c' D xy);unfold cnt at*;rw[ld,if_pos h0];simpa using ih
theorem tJ{listed:Array Bool}: ∀(cs:List Nat) (hi:Nat),(∀j c,hi<=j->cs[j]?=X c->listed.getD c EI=V)->cnt cs listed<=hi
 |[],_,_=>fL _
 |c::cs,0,hl=>by have h0:=hl 0 c (E9 _) U;have ih:=tJ cs 0 (fun j c' _ hc=>hl (j+1) c' D xy);unfold cnt at*;rw[ld,if_neg (by rw[h0];exact Bool.false_ne_true)];exact ih
 |c::cs,hi+1,hl=>by
  have ih:=tJ cs hi (fun j c' hj hc=>hl (j+1) c' D xy);unfold cnt at*;rw[ld];split;·simpa using ih
  ·omega
theorem xz{listed:Array Bool}{i:Nat}: ∀(cs:List Nat),i∉cs->cnt cs (listed.setIfInBounds i EI)=cnt cs listed
 |[],_=>rfl
 |c::cs,h=>by
  have hne:i≠c:=fun e=>h (by rw[e];exact fG);have ih:=xz (listed:=listed) cs (fun hm=>h (Z5 _ hm));unfold cnt at*;rw[ld,ld,Z4 EI hne];split;·rw[Zw,Zw,ih]
  ·exact ih
theorem MC{listed:Array Bool}{i:Nat}(hi:i<listed.size)(hu:listed.getD i EI=V): ∀(cs:List Nat),cs.Nodup->i∈cs->cnt cs (listed.setIfInBounds i EI)=cnt cs listed+1
 |[],_,h=>Uq
 |c::cs,hn,h=>by
  have hset:(listed.setIfInBounds i EI).getD i EI=EI:=by simp[hi]
  by_cases e:i=c;·subst e;have ho:=xz (listed:=listed) cs (kY.1 hn).1;unfold cnt at*;rw[ld,if_pos hset,ld,if_neg (by rw[hu];exact Bool.false_ne_true),Zw,ho]
  ·have hm:i∈cs:=by
    rcases OY.1 h with h|h;·exact absurd h e
    ·exact h
   have ih:=MC hi hu cs (kY.1 hn).2 hm;unfold cnt at*;rw[ld,ld,Z4 EI e];split;·rw[Zw,Zw,ih]
   ·exact ih
theorem MD{cs:List Nat}(h:jp ops cs ks=EI):(∀c∈cs,c<ops.size)/\cs.Nodup/\ ∀i,i<ops.size-> ∃lo hi,ks[i]?=X (lo,hi)/\ ∀j c,cs[j]?=X c->(c=i->lo=j/\hi=j)/\(c≠i->(lo<=j\/dV ops ops.size i c=EI)/\(j<hi\/dV ops ops.size c i=EI)):=by
 unfold jp at h;simp only[UJ] at h;obtain⟨⟨⟨-,h1⟩,h2⟩,h3⟩:=h;refine⟨fun c hc=>of_decide_eq_true (XJ.1 h1 c hc),of_decide_eq_true h2,fun i hi=> ?_⟩;have h4:=XJ.1 h3 i (ar.2 hi);cases hk:ks[i]? with
 |none=>rw[hk] at h4;cases h4
 |some p=>
  obtain⟨lo,hi'⟩:=p;rw[hk] at h4;refine⟨lo,hi',U,fun j c hj=> ?_⟩;have hjl:=(Xr.1 hj).1;have h5:=XJ.1 h4 j (ar.2 hjl);rw[hj] at h5;by_cases e:c=i;·simp only[if_pos e,UJ,decide_eq_true_eq] at h5;exact⟨fun _=>h5,fun h=>absurd e h⟩
  ·simp only[if_neg e,UJ,k_,decide_eq_true_eq] at h5;exact⟨fun h=>absurd h e,fun _=>h5⟩
section
variable{P:Program}{ops:Array Oper}{Q:Exit->Act->World->Prop}
def Da(Ph:Nat->M->Prop)(Rel In:M->M->Prop)(P:Jd)(ops:Array EG)(Q:UL->E2->M->Prop)(F:(Nat->G)->E2)(R:Nat->(Nat->G)->M->Prop)(c:Bool)(lo hi i:Nat)(o:EG):Prop:=match c with
 |true=> ∀x w,Ph lo w->qo R o x w->XL (fun w w'=>In w w'/\Ph (lo+1) w') P ops Q F R i o x w
 |false=> ∀x w p,lo<=p->p<=hi->Ph p w->qo R o x w->XL Rel P ops Q F R i o x w
theorem EET{Rel In:M->M->Prop}{cs:List Nat}(hB:lU ops=EI)(hK:jp ops cs ks=EI)(hlk: ∀(i lo hi:Nat),ks[i]?=X (lo,hi)->lo<=cs.length) (hPh: ∀b w w',Ph b w->Rel w w'->Ph b w') (hF: ∀i o x v,i<ops.size->ops[i]?=X o->(F x).put o.dst v=F (J7 x i v)) (hR: ∀i x w w',i<ops.size->R i x w->Rel w w'->R i x w') (hR2: ∀i x w w' c,i<ops.size->c∈cs->i≠c->dV ops ops.size i c=V->R i x w->In w w'->R i x w') (hD: ∀i x y w,i<ops.size->(∀k,(k=i\/nB ops i k)->x k=y k)->R i x w->R i y w) (hcw: ∀c o x,c∈cs->ops[c]?=X o->I8 o (Ja ops (F x).tmps)=EI) (hstep: ∀(i:Nat) (o:EG) (lo hi:Nat),ops[i]?=X o->ks[i]?=X (lo,hi)->Da Ph Rel In P ops Q F R (decide (i∈cs)) lo hi i o) (hend: ∀x w,Ph cs.length w->(∀i,i<ops.size->R i x w)->Ih P ops Q [] (F x) w): ∀(fuel:Nat) (listed:Array Bool) (x:Nat->G) (w:M),(Xq ops listed).length<=fuel->listed.size=ops.size->db ops listed->Ph (cnt cs listed) w-> (∀i,i<ops.size->listed.getD i EI=EI->R i x w)->wpAny P .any ops Q fuel listed (F x) w:=by
 obtain⟨hcs,hcn,hKs⟩:=MD hK
 have done: ∀(fuel:Nat) (listed:Array Bool) (x:Nat->G) (w:M),(∀j,j<ops.size->listed.getD j EI=EI)->Ph (cnt cs listed) w->(∀i,i<ops.size->listed.getD i EI=EI->R i x w)->wpAny P .any ops Q fuel listed (F x) w:=by
  intro fuel listed x w hall hb hr;have hcl:cnt cs listed=cs.length:=by unfold cnt;rw[List.filter_eq_self.2 fun c hc=>hall c (hcs c hc)]
  rw[hcl] at hb;refine wpAny_done ?_ (hend x w hb fun i hi=>hr i hi (hall i hi)) fuel;rw[List.eq_nil_iff_forall_not_mem];intro j hj;obtain⟨h1,o,ho,-⟩:=Zt.1 hj;have hjn:=(J4.1 ho).1;rw[hall j hjn] at h1;cases h1
 intro fuel;induction fuel with
 |zero=>
  intro listed x w hf hs hcl hb hr;refine done 0 listed x w (fun j hj=> ?_) hb hr;cases hlj:listed.getD j EI;·have:j∈Xq ops listed:=kS.2 ⟨hj,hlj⟩;rw[List.length_eq_zero_iff.1 (Nat.le_zero.1 hf)] at this;cases this
  ·rfl
 |succ fuel ih=>
  intro listed x w hf hs hcl hb hr;by_cases hall: ∀j,j<ops.size->listed.getD j EI=EI;·exact done (fuel+1) listed x w hall hb hr
  ·refine⟨fun h0=> ?_,fun i hi=> ?_⟩
   ·exfalso
    have hex: ∃j,j<ops.size/\listed.getD j EI=V:=by
     apply qi;intro hno
     exact hall fun j hj=>by
      cases hlj:listed.getD j EI;·exact absurd ⟨j,hj,hlj⟩ hno
      ·rfl
    have hmin: ∃j,(j<ops.size/\listed.getD j EI=V)/\ ∀k,k<j-> ¬(k<ops.size/\listed.getD k EI=V):=by
     obtain⟨j,hj⟩:=hex;induction j using Nat.strongRecOn with
     |ind j np=>
      by_cases h: ∃k,k<j/\(k<ops.size/\listed.getD k EI=V);·exact Emm
      ·exact EmX
    obtain⟨j,⟨hjn,hj⟩,hlt⟩:=hmin;have ho:ops[j]?=X ops[j]:=ji hjn
    have:j∈jh .any ops listed:=by
     refine Zt.2 ⟨hj,_,ho,fun e he hbe=> ?_⟩;have h1:=My hB ho e he hbe;have h2:=hlt e.on h1;have h3:e.on<listed.size:=D;cases hlj:listed.getD e.on EI;·exact absurd ⟨D,hlj⟩ h2
     ·simpa[h3] using hlj
    rw[h0] at this;cases this
   ·obtain⟨h1,o,ho,nr⟩:=Zt.1 hi;have hin:=(J4.1 ho).1;have hdr:qo R o x w:=by intro e he hb';have h3:=nr e he hb';have h4:=My hB ho e he hb';have h5:e.on<listed.size:=D;exact hr e.on D xk
    obtain⟨lo,hi',hk,hkc⟩:=hKs i hin;have st:=hstep i o lo hi' ho hk;have MF:=hcl.set hs hi;have hset:(listed.setIfInBounds i EI).getD i EI=EI:=by exact Eml
    have next: ∀v w',Ph (cnt cs (listed.setIfInBounds i EI)) w'->(∀j,j<ops.size->j≠i->listed.getD j EI=EI->R j x w')->R i (J7 x i v) w'->wpAny P .any ops Q fuel (listed.setIfInBounds i EI) ((F x).put o.dst v) w':=by
     intro v w' hb' hrs hv;rw[hF i o x v hin ho];have hlt:=sL hs hin h1;refine ih _ _ w' D nm MF hb' (fun j hj hl=> ?_);by_cases hji:j=i;·subst hji;exact hv
     ·rw[Z4 EI (fun e=>hji e.symm)] at hl;refine hD j x _ w' hj (fun q hq=> ?_) (hrs j hj hji hl);rw[nk];intro hqi;rw[hqi] at hq;rcases hq with hq|⟨oj,e,hoj,he,hbe,hek⟩;·exact hji hq.symm
      ·have h5:=hcl j oj hoj hl e he hbe;rw[hek] at h5;rw[h5] at h1;cases h1
    have early: ∀j c,cs[j]?=X c->c≠i->j<lo->listed.getD c EI=EI:=by
     intro j c hj hne hlt;rcases((hkc j c hj).2 hne).1 with h|h;·omega
     ·have:=xx MF _ i c h hin hset;rwa [Z4 EI (fun e=>hne e.symm)] at this
    have late: ∀j c,cs[j]?=X c->c≠i->hi'<=j->listed.getD c EI=V:=by
     intro j c hj hne hle;rcases((hkc j c hj).2 hne).2 with h|h;·omega
     ·cases hlc:listed.getD c EI;·rfl
      ·have:=xx hcl _ c i h (hcs c (da.2 ⟨j,hj⟩)) hlc;rw[this] at h1;cases h1
    by_cases hic:i∈cs
    ·obtain⟨j0,hj0⟩:=da.1 hic;obtain⟨e1,e2⟩:=(hkc j0 i hj0).1 rfl;have hjl:=(Xr.1 hj0).1;have uniq: ∀j,cs[j]?=X i->j=j0:=by intro j hj;have Eh7:=(Xr.1 hj).1;have h5:=(Xr.1 hj).2;have h6:=(Xr.1 hj0).2;exact(List.getElem_inj hcn).1 (h5.trans h6.symm)
     have hcnt:cnt cs listed=lo:=by
      refine Nat.le_antisymm (tJ cs lo fun j c hj hc=> ?_) (DZ cs lo D fun j c hj hc=> ?_)
      ·by_cases e:c=i;·subst e;exact h1
       ·exact late j c hc e D
      ·by_cases e:c=i;·subst e;have:=uniq j hc;omega
       ·exact early j c hc e hj
     rw[IE hic] at st;rw[hcnt] at hb;have st:=st x w hb hdr;unfold wpOp;simp only[ho];unfold XL at st;rw[if_pos (hcw i o x hic ho)] at st⊢;refine .inl (Oper.wp_mono (fun a' w' h'=> ?_) st);obtain⟨v,rfl,⟨hb',hph⟩,hv⟩:=h';exact next v w' (by rw[MC D h1 cs hcn hic,hcnt];exact hph) (fun j hj hji hl=>hR2 j _ w w' i hj hic hji (by cases hrb:dV ops ops.size j i with|false=>rfl|true=>exact absurd (xx hcl _ j i hrb hj hl) (by rw[h1];decide)) (hr j hj hl) hb') hv
    ·rw[Ia hic] at st;have hne: ∀j c,cs[j]?=X c->c≠i:=fun j c hj e=>hic (by rw[<-e];exact da.2 ⟨j,hj⟩);have hlo2:lo<=cnt cs listed:=DZ cs lo (hlk i lo hi' hk) fun j c hj hc=>early j c hc (hne j c hc) hj;have EEY:cnt cs listed<=hi':=tJ cs hi' fun j c hj hc=>late j c hc (hne j c hc) hj;have st:=st x w _ hlo2 EEY hb hdr;unfold wpOp;simp only[ho];unfold XL at st;split;·rename_i hw;rw[if_pos hw] at st;refine .inl (Oper.wp_mono (fun a' w' h'=> ?_) st);obtain⟨v,rfl,hb',hv⟩:=h';exact next v w' (by rw[xz cs hic];exact hPh _ _ _ hb hb') (fun j hj _ hl=>hR j _ w w' hj (hr j hj hl) hb') hv
     ·rename_i hw;rw[if_neg hw] at st;exact next Iv w (by rw[xz cs hic];exact hb) (fun j hj _ hl=>hr j hj hl) st
def fM(Ph:Nat->M->Prop)(Rel In:M->M->Prop)(P:Jd)(ops:Array EG)(Q:UL->E2->M->Prop)(F:(Nat->G)->E2)(R:Nat->(Nat->G)->M->Prop)(cs:List Nat):Nat->List EG->List (Nat×Nat)->Prop
 |i,o::l,(lo,hi)::ks=>Da Ph Rel In P ops Q F R (decide (i∈cs)) lo hi i o/\fM Ph Rel In P ops Q F R cs (i+1) l ks
 |_,_,_=>True
theorem fM.at{Ph:Nat->M->Prop}{Rel In:M->M->Prop}{F:(Nat->G)->E2}{R:Nat->(Nat->G)->M->Prop}{cs:List Nat}: ∀(l:List EG) (ks:List (Nat×Nat)) (i:Nat),fM Ph Rel In P ops Q F R cs i l ks-> ∀j o lo hi,l[j]?=X o->ks[j]?=X (lo,hi)->Da Ph Rel In P ops Q F R (decide (i+j∈cs)) lo hi (i+j) o
 |[],_,_,_,_,_,_,_,h,_=>qX
 |_::_,[],_,_,_,_,_,_,_,h=>qX
 |p::l,(a,b)::ks,i,hs,0,o,lo,hi,h,h2=>by simp at h h2;obtain⟨rfl,rfl⟩:=h2;subst h;exact hs.1
 |p::l,(a,b)::ks,i,hs,j+1,o,lo,hi,h,h2=>by have:=fM.at l ks (i+1) hs.2 j o lo hi UB (by simpa using h2);rw[show i+(j+1)=i+1+j from D];exact this
theorem xA{Rel In:M->M->Prop}{a0:E2}(cs:List Nat)(ks:List (Nat×Nat))(hm:P.follows .mixedOrders=EI)(hB:lU l.toArray=EI)(hK:jp l.toArray cs ks=EI)(hlk:(ks.all fun p=>decide (p.1<=cs.length))=EI)(hnd:(J8 l).Nodup)(R:Nat->(Nat->G)->M->Prop) (hcg:(cs.all fun c=>match l[c]? with|some o=>o.guard.isNone|none=>false)=EI) (hPh: ∀b w w',Ph b w->Rel w w'->Ph b w') (hR: ∀i x w w',i<l.length->R i x w->Rel w w'->R i x w') (hR2: ∀i x w w' c,i<l.length->c∈cs->i≠c->dV l.toArray l.toArray.size i c=V->R i x w->In w w'->R i x w') (hD: ∀i x y w,i<l.length->(∀k,(k=i\/nB l.toArray i k)->x k=y k)->R i x w->R i y w) (h0:Ph 0 w0.drew) (hstep:fM Ph Rel In P l.toArray Q (fun x=>ED l 0 x a0) R cs 0 l ks) (hend: ∀x w,Ph cs.length w->(∀i,i<l.length->R i x w)->Ih P l.toArray Q [] (ED l 0 x a0) w):(Z3 id l.toArray EI).wp P Q a0 w0:=by
 have sP:ED l 0 (held l a0) a0=a0:=jc a0 _ 0 _ (fun k o ho d hd=>by unfold held;rw[J9,ho];simp only[hd]);refine wp_region_any hm ?_
 have key:=EET (P:=P) (Q:=Q) (ops:=l.toArray) (Ph:=Ph) (Rel:=Rel) (In:=In) (cs:=cs) (ks:=ks) (F:=fun x=>ED l 0 x a0) (R:=R) hB hK (by
  intro i lo hi h;have:=XJ.1 hlk (lo,hi) (da.2 ⟨i,h⟩);simpa using this) hPh
  (fun i o x v hi ho=>by have:=kW l 0 i x a0 o v hnd sM;rw[J9] at this;exact this) (fun i x w w' hi=>hR i x w w' XO) (fun i x w w' c hi hc hne hrb=>hR2 i x w w' c XO hc hne hrb) (fun i x y w hi=>hD i x y w XO)
  (fun c o x hc ho=>by
   have h1:=XJ.1 hcg c hc;have:l[c]?=X o:=sM;rw[this] at h1;simp only at h1;unfold I8;cases hg:o.guard with
   |none=>rfl
   |some g=>rw[hg] at h1;cases h1)
  (fun i o lo hi ho hk=>by have:=fM.at l ks 0 hstep i o lo hi sM hk;rwa [J9] at this)
  (fun x w hp hr=>hend x w hp fun i hi=>hr i XO)
  l.toArray.size (au l.toArray.size V) (held l a0) w0.drew ?_ Ej ?_ ?_ ?_
 ·simp only[sP] at key;exact key
 ·exact Emf
 ·intro j o ho h;by_cases hj:j<l.toArray.size;·have:j<l.length:=xn;simp[this] at h
  ·exact absurd (J4.1 ho).1 hj
 ·have hz:cnt cs (au l.toArray.size V)=0:=by
   refine Nat.le_zero.1 (tJ cs 0 fun j c _ hj=> ?_);have:=(MD hK).1 c (da.2 ⟨j,hj⟩);have h2:c<l.length:=by exact Emu
   simp[h2]
  rw[hz];exact h0
 ·intro i hi h;have:i<l.length:=XO;simp[this] at h
theorem EE0{Rel In:M->M->Prop}{a0:E2}(cs:List Nat)(ks:List (Nat×Nat))(hm:P.follows .mixedOrders=EI)(hB:lU l.toArray=EI)(hK:jp l.toArray cs ks=EI)(hlk:(ks.all fun p=>decide (p.1<=cs.length))=EI)(hnd:(J8 l).Nodup)(R:Nat->(Nat->G)->M->Prop) (hcg:(cs.all fun c=>match l[c]? with|some o=>o.guard.isNone|none=>false)=EI) (hPh: ∀b w w',Ph b w->Rel w w'->Ph b w') (hR: ∀i x w w',i<l.length->R i x w->Rel w w'->R i x w') (hR2: ∀i x w w',i<l.length->R i x w->In w w'->R i x w') (hD: ∀i x y w,i<l.length->(∀k,(k=i\/nB l.toArray i k)->x k=y k)->R i x w->R i y w) (h0:Ph 0 w0.drew) (hstep:fM Ph Rel In P l.toArray Q (fun x=>ED l 0 x a0) R cs 0 l ks) (hend: ∀x w,Ph cs.length w->(∀i,i<l.length->R i x w)->Ih P l.toArray Q [] (ED l 0 x a0) w):(Z3 id l.toArray EI).wp P Q a0 w0:=
 xA cs ks hm hB hK hlk hnd R hcg hPh hR (fun i x w w' _ hi _ _ _=>hR2 i x w w' hi) hD h0 hstep hend
theorem MH{Rel In:M->M->Prop}{W:M}{F:(Nat->G)->E2}{R:Nat->(Nat->G)->M->Prop}{ops:Array EG}: ∀(l:List EG) (i:Nat),xw Rel P ops Q W F R i l->fM (fun _ w=>Rel W w) Rel In P ops Q F R [] i l (dg l.length (0,0))
 |[],_,_=>trivial
 |_::l,i,h=>⟨fun x w _ _ _ hp hd=>h.1 x w hp hd,MH l (i+1) h.2⟩
theorem EE1{Rel:M->M->Prop}(hT:Kept Rel){a0:E2}(hm:P.follows .mixedOrders=EI)(m:Nat)(hB:lU l.toArray=EI)(hmn:m=l.length)(hnd:(J8 (l.take m)).Nodup)(R:Nat->(Nat->G)->M->Prop) (hR: ∀i x w w',i<m->R i x w->Rel w w'->R i x w') (hD: ∀i x y w,i<m->(∀k,(k=i\/nB l.toArray i k)->x k=y k)->R i x w->R i y w) (hstep:xw Rel P l.toArray Q w0 (fun x=>ED (l.take m) 0 x a0) R 0 (l.take m)) (hend: ∀x w,Rel w0 w->(∀i,i<m->R i x w)->Ih P l.toArray Q (l.drop m) (ED (l.take m) 0 x a0) w):(Z3 id l.toArray EI).wp P Q a0 w0:=by
 subst hmn;simp only[List.take_length,List.drop_length] at*;refine xA (Ph:=fun _ w=>Rel w0 w) (Rel:=Rel) (In:=fun _ _=>True) [] (dg l.length (0,0)) hm hB ?_ ?_ hnd R U (fun _ w w' h hr=>hT.2.1 _ _ _ h hr) hR (fun _ _ _ _ c _ hc=>by cases hc) hD (hT.2.2 w0) (MH _ _ hstep) (fun x w h hr=>hend x w h hr);·unfold jp;simp;intro x hx;rw[List.getElem?_replicate,if_pos hx]
 ·simp
end
structure JL(Y8:Nat->Ez->Option (Array G))(w w':M):Prop where
 os:w'.os=w.os
 tape:w'.tape=w.tape
 output:w'.output=w.output
 size:w.heap.size<=w'.heap.size
 keep: ∀k,k<w.heap.size->(∀c S,H w k c S->Y8 k S=Z)->w'.heap[k]?=w.heap[k]?
 qp: ∀k c S,H w k c S->H w' k c S\/ ∃cs,Y8 k S=X cs/\cs.size=c.size/\H w' k cs S
section
variable{Y8:Nat->TypeId->Option (Array Value)}{w w' w'':World}
theorem JL.refl(w:M):JL Y8 w w:=⟨U,U,U,E9 _,fun _ _ _=>rfl,fun _ _ _ h=> .inl h⟩
theorem JL.trans(h:JL Y8 w w')(k:JL Y8 w' w''):JL Y8 w w'':=by
 refine⟨k.os.trans h.os,k.tape.trans h.tape,k.output.trans h.output,EB h.size k.size,fun i hi hm=> ?_,fun i c S hb=> ?_⟩;·have e:=h.keep i hi hm;refine(k.keep i (Nat.lt_of_lt_of_le hi h.size) fun c S hb=>hm c S ?_).trans e;unfold H at*;rw[<-e];exact hb
 ·rcases h.qp i c S hb with h1|⟨cs,e,s,h1⟩;·exact k.qp i c S h1
  ·rcases k.qp i cs S h1 with h2|⟨cs',e',s',h2⟩;·exact .inr ⟨cs,e,s,h2⟩
   ·exact .inr ⟨cs',e',s'.trans s,h2⟩
theorem JL.kept:Kept (JL Y8):=⟨JL.refl,fun _ _ _ h k=>h.trans k,fun w=>⟨U,U,U,E9 _,fun _ _ _=>rfl,fun _ _ _ h=> .inl h⟩⟩
theorem JL.u(h:Ek w w'):JL Y8 w w':=⟨h.os,h.tape,h.output,h.size,fun k hk _=>h.block k hk,fun _ _ _ hb=> .inl (hb.u h)⟩
theorem JL.El(h:JL Y8 w w'){g:Nat}{c:Array G}{S:Ez}(k:H w g c S)(hm:Y8 g S=Z):H w' g c S:=by
 rcases h.qp g c S k with h1|⟨cs,e,-⟩;·exact h1
 ·rw[hm] at e;cases e
theorem JL.same(h:JL Y8 w w'){g:Nat}{c:Array G}{S:Ez}(k:H w g c S)(hm: ∀cs,Y8 g S=X cs->cs=c):H w' g c S:=by
 rcases h.qp g c S k with h1|⟨cs,e,-,h1⟩;·exact h1
 ·rw[hm cs e] at h1;exact h1
theorem JL.some(h:JL Y8 w w'){g:Nat}{c:Array G}{S:Ez}(k:H w g c S): ∃c',c'.size=c.size/\H w' g c' S:=by
 rcases h.qp g c S k with h1|⟨cs,-,s,h1⟩;·exact⟨c,U,h1⟩
 ·exact⟨cs,s,h1⟩
theorem JL.setRow(k:H w g old S)(hm:Y8 g S=Option.some cs)(hs:cs.size=old.size):JL Y8 w (w.setRow g cs):=by
 refine⟨U,U,U,Ej,fun i hi hn=>setRow_other w g i cs fun e=> ?_,fun i c T hb=> ?_⟩;·subst e;have:=hn old S k;rw[hm] at this;cases this
 ·by_cases e:i=g;·subst e;have e2:=(show Option.some (Ec c T (0,0))=Option.some (Ec old S (0,0)) from hb.symm.trans k);injection e2 with e2;injection e2 with e3 e4;subst e3 e4;exact .inr ⟨cs,hm,hs,k.setRow cs⟩
  ·exact .inl (hb.setRow_other g cs e)
theorem JL.MK{hi:Nat}(h:JL Y8 w w')(hh:hi<=w.heap.size)(hm: ∀k S cs,Y8 k S=Option.some cs->hi<=k):Ir hi w w':=
 ⟨h.os,h.tape,h.output,h.size,fun k hk=>h.keep k D fun c S _=>by
  cases e:Y8 k S with
  |none=>rfl
  |some cs=>have:=hm k S cs e;omega⟩
end
def EE3(n0:Nat)(T:Ez)(n:Nat)(v:G)(w:M):Prop:= ∃(b:Nat) (c:Array G),v=Y (X ⟨b,0,Z⟩)/\n0<=b/\c.size=n/\H w b c T
def EE4(n0:Nat)(T:Ez)(cs:Array G)(v:G)(w:M):Prop:= ∃b:Nat,v=Y (X ⟨b,0,Z⟩)/\n0<=b/\H w b cs T
inductive Kn where
 |val (p:G->Prop)
 |made (T:Ez) (n:Nat)
 |into (k:Nat) (T:Ez) (cs:Array G)
 |onto (g:Nat) (T:Ez) (cs:Array G)
instance(x):CoeDep KQ (KQ.kq x) Kn:=⟨.val fun v=>v=x⟩
instance(g i):CoeDep KQ (KQ.kp g i) Kn:=⟨.val fun v=>v=Y (X ⟨g,i,Z⟩)⟩
def RK(n0:Nat)(K:Nat->Kn)(i:Nat)(x:Nat->G)(w:M):Prop:=match K i with
 | .val p=>p (x i)
 | .made T n=>EE3 n0 T n (x i) w
 | .into k T cs=>EE4 n0 T cs (x k) w
 | .onto g T cs=>H w g cs T
theorem RK.keep{n0:Nat}{K:Nat->Kn}{Rel:M->M->Prop}{n:Nat}(h1: ∀i T m,i<n->K i= .made T m-> ∀b c w w',H w b c T->Rel w w'-> ∃c',c'.size=c.size/\H w' b c' T) (h2: ∀i k T cs,i<n->K i= .into k T cs-> ∀b w w',n0<=b->H w b cs T->Rel w w'->H w' b cs T) (h3: ∀i g T cs,i<n->K i= .onto g T cs-> ∀w w',H w g cs T->Rel w w'->H w' g cs T): ∀i x w w',i<n->RK n0 K i x w->Rel w w'->RK n0 K i x w':=by
 intro i x w w' hi h hr;unfold RK at*;cases e:K i with
 |val p=>rw[e] at h;exact h
 |made T m=> rw[e] at h;obtain⟨b,c,hv,hb,hs,hk⟩:=h;obtain⟨c',hs',hk'⟩:=h1 i T m hi e b c w w' hk hr;exact⟨b,c',hv,hb,hs'.trans hs,hk'⟩
 |into k T cs=> rw[e] at h;obtain⟨b,hv,hb,hk⟩:=h;exact⟨b,hv,hb,h2 i k T cs hi e b w w' hb hk hr⟩
 |onto g T cs=>rw[e] at h;exact h3 i g T cs hi e w w' h hr
def kM(n0:Nat)(Ks:List Kn)(b:Nat)(S:Ez):Option (Array G):=Ks.findSome? fun k=>match k with
 | .into _ T cs=>if n0<=b/\S=T then X cs else Z
 | .onto g T cs=>if b=g/\S=T then X cs else Z
 |_=>Z
theorem ML{n0:Nat}{Ks:List Kn}{b:Nat}(h:kM n0 Ks b S=X cs): ∃k∈Ks,(∃j,k= .into j S cs/\n0<=b)\/(k= .onto b S cs):=by
 unfold kM at h;obtain⟨k,hk,hv⟩:=List.exists_of_findSome?_eq_some h;refine⟨k,hk,?_⟩;cases k with
 |val p=>cases hv
 |made T n=>cases hv
 |into j T c=>
  simp only at hv;split at hv;·rename_i he;obtain⟨h1,rfl⟩:=he;injection hv with hv;subst hv;exact .inl ⟨j,rfl,h1⟩
  ·cases hv
 |onto g T c=>
  simp only at hv;split at hv;·rename_i he;obtain⟨rfl,rfl⟩:=he;injection hv with hv;subst hv;exact .inr rfl
  ·cases hv
theorem EE7{n0:Nat}{Ks:List Kn}{b:Nat}{hi:Nat}(h:kM n0 Ks b S=X cs)(hon: ∀g T c,Kn.onto g T c∈Ks->hi<=g)(hn:hi<=n0):hi<=b:=by
 obtain⟨k,hk,⟨j,-,h1⟩|e⟩:=ML h;·exact EB hn h1
 ·subst e;exact hon b S cs hk
def Kn.st:Kn->Option Ez
 | .into _ T _=>X T
 | .onto _ T _=>X T
 |_=>Z
def Kn.ty:Kn->Option Ez
 | .made T _=>X T
 | .into _ T _=>X T
 | .onto _ T _=>X T
 |_=>Z
theorem MN{n0:Nat}: ∀{Ks:List Kn},(Ks.filterMap Kn.st).Nodup-> ∀{b:Nat} {T:Ez} {cs c':Array G} {k:Kn},k∈Ks->(k.st=X T)->(∀c,(∃j,k= .into j T c)\/(∃g,k= .onto g T c)->c=cs)->kM n0 Ks b T=X c'->c'=cs:=by
 intro Ks hn b T cs c' k hk ht hc h;obtain⟨k',hk',h'⟩:=ML h;have ht':k'.st=X T:=by rcases h' with⟨j,rfl,-⟩|rfl<;>rfl
 have e:k=k':=by
  obtain⟨i,hi⟩:=da.1 hk;obtain⟨i',hi'⟩:=da.1 hk';clear hc h h' hk hk';induction Ks generalizing i i' with
  |nil=>simp at hi
  |cons a r ih=>
   have hr:(r.filterMap Kn.st).Nodup:=by
    cases ha:a.st with
    |none=>rw[List.filterMap_cons_none ha] at hn;exact hn
    |some s=>rw[List.filterMap_cons_some ha] at hn;exact(kY.1 hn).2
   have hmem: ∀(q:Kn) (Y3:Nat),r[Y3]?=X q->q.st=X T->a.st≠X T:=by intro q Y3 hu hq ha;rw[List.filterMap_cons_some ha] at hn;exact(kY.1 hn).1 (kV.2 ⟨q,da.2 ⟨Y3,hu⟩,hq⟩)
   cases i with
   |zero=>
    cases i' with
    |zero=>simp at hi hi';exact hi.symm.trans hi'
    |succ Y3=>simp at hi hi';subst hi;exact absurd ht (hmem k' Y3 hi' ht')
   |succ v=>
    cases i' with
    |zero=>simp at hi hi';subst hi';exact absurd ht' (hmem k v hi ht)
    |succ Y3=>exact ih hr v XO Y3 (by simpa using hi')
 subst e;rcases h' with⟨j,e,-⟩|e;·exact hc c' (.inl ⟨j,e⟩)
 ·exact hc c' (.inr ⟨b,e⟩)
def kN(Ks:List Kn)(i:Nat):Kn:=Ks.getD i (.val fun _=>True)
theorem tO{Ks:List Kn}(h:i<Ks.length):kN Ks i∈Ks:=by unfold kN;rw[Uj,JY h];exact dW h
section
variable{P:Program}{Q:Exit->Act->World->Prop}
def MP(o:EG)(a:E2)(T:Ez)(g off:Nat)(cs:Array G):Prop:=match o.op with| .store t x y=>t=T/\a.eval x=Y (X ⟨g,off,Z⟩)/\a.eval y=EZ cs|_=>False
theorem MQ{Rel:M->M->Prop}{o:EG}{T:Ez}{n off:Nat}(hA:IF P T n)(hw:I8 o (Ja ops (F x).tmps)=EI)(hl:MP o (F x) T g off cs)(ht:w.there g off n)(hn:cs.size=n) (h1:cs.all (·.oneCell')=EI) (hb:Rel w (w.setCells g off cs.toList)) (h:R i (J7 x i Iv) (w.setCells g off cs.toList)):XL Rel P ops Q F R i o x w:=by
 obtain⟨-,hi⟩:=hA;unfold MP at hl;split at hl
 ·rename_i t a b hop;obtain⟨rfl,hx,hy⟩:=hl;unfold XL;rw[if_pos hw];subst hn;have hrun:(Ig (F x).eval o).run P w= .ok .skip (w.setCells g off cs.toList):=by unfold Ig;simp only[hop,hx,hy,Om,run_storeAt_mid w g off t cs ht hi h1,Oa,On]
  unfold cE;rw[hrun];exact⟨Iv,rfl,hb,h⟩
 ·exact hl.elim
theorem MR{In:M->M->Prop}{a0:E2}(n0:Nat)(Ks:List Kn)(cs:List Nat)(ks:List (Nat×Nat))(hm:P.follows .mixedOrders=EI)(hB:lU l.toArray=EI)(hK:jp l.toArray cs ks=EI)(hlk:(ks.all fun p=>decide (p.1<=cs.length))=EI)(hnd:(J8 l).Nodup) (hcg:(cs.all fun c=>match l[c]? with|some o=>o.guard.isNone|none=>false)=EI) (hlen:Ks.length=l.length) (hst:(Ks.filterMap Kn.st).Nodup) (hwt:((UM Ks.length).all fun i=>match kN Ks i with| .into k _ _=>(match l.toArray[i]? with|some o=>o.after.toList.any (fun e=>Ur .any e&&e.on==k)|none=>false)|_=>true)=EI) (hPh: ∀b w w',Ph b w->JL (kM n0 Ks) w w'->Ph b w') (hR2: ∀T,T∈Ks.filterMap Kn.ty-> ∀b c w w',H w b c T->In w w'->H w' b c T) (h0:Ph 0 w0.drew) (hstep:fM Ph (JL (kM n0 Ks)) In P l.toArray Q (fun x=>ED l 0 x a0) (RK n0 (kN Ks)) cs 0 l ks) (hend: ∀x w,Ph cs.length w->(∀i,i<l.length->RK n0 (kN Ks) i x w)->Ih P l.toArray Q [] (ED l 0 x a0) w):(Z3 id l.toArray EI).wp P Q a0 w0:=by
 refine EE0 cs ks hm hB hK hlk hnd (RK n0 (kN Ks)) hcg hPh (RK.keep ?_ ?_ ?_) (RK.keep ?_ ?_ ?_) ?_ h0 hstep hend;·intro i T m _ _ b c w w' hb hr;exact hr.some hb
 ·intro i k T c hi he b w w' _ hb hr;refine hr.same hb fun c' hc'=> ?_
  exact MN hst (tO (D:i<Ks.length)) lf (fun c2 h=>by
   rw[he] at h;rcases h with⟨j,e⟩|⟨g,e⟩;·cases e;rfl
   ·cases e) hc'
 ·intro i g T c hi he w w' hb hr;refine hr.same hb fun c' hc'=> ?_
  exact MN hst (tO (D:i<Ks.length)) lf (fun c2 h=>by
   rw[he] at h;rcases h with⟨j,e⟩|⟨g,e⟩;·cases e
   ·cases e;rfl) hc'
 ·intro i T m hi he b c w w' hb hr;exact⟨c,U,hR2 T (kV.2 ⟨_,tO (D:i<Ks.length),lf⟩) b c w w' hb hr⟩
 ·intro i k T c hi he b w w' _ hb hr;exact hR2 T (kV.2 ⟨_,tO (D:i<Ks.length),lf⟩) b c w w' hb hr
 ·intro i g T c hi he w w' hb hr;exact hR2 T (kV.2 ⟨_,tO (D:i<Ks.length),lf⟩) g c w w' hb hr
 ·intro i x y w hi hq h;unfold RK at*;cases e:kN Ks i with
  |val p=>rw[e] at h;simp only at h⊢;rw[<-hq i (.inl U)];exact h
  |made T m=>rw[e] at h;simp only at h⊢;rw[<-hq i (.inl U)];exact h
  |into k T c=> rw[e] at h;simp only at h⊢;have h1:=XJ.1 hwt i (ar.2 D);rw[e] at h1;rw[<-hq k (.inr (tI h1))];exact h
  |onto g T c=>rw[e] at h;exact h
theorem Db{Rel:M->M->Prop}{o:EG}(hw:I8 o (Ja ops (F x).tmps)=EI) (hr:(Ig (F x).eval o).run P w= .ok .skip w') (hb:Rel w w') (h:R i (J7 x i Iv) w'):XL Rel P ops Q F R i o x w:=by unfold XL;rw[if_pos hw];unfold cE;rw[hr];exact⟨Iv,U,hb,h⟩
inductive fN(Rel In:M->M->Prop) where
 |val (p:G->Prop)
 |dep (s:G->M->Prop) (h1: ∀v w w',s v w->Rel w w'->s v w') (h2: ∀v w w',s v w->In w w'->s v w')
 |late (s:G->M->Prop) (h1: ∀v w w',s v w->Rel w w'->s v w')
instance{Rel In}(x):CoeDep KQ (KQ.kq x) (fN Rel In):=⟨.val fun v=>v=x⟩
instance{Rel In}(g i):CoeDep KQ (KQ.kp g i) (fN Rel In):=⟨.val fun v=>v=Y (X ⟨g,i,Z⟩)⟩
def fN.lj{Rel In:M->M->Prop}:fN Rel In->Bool
 | .late _ _=>EI
 |_=>V
def RQ{Rel In:M->M->Prop}(K:Nat->fN Rel In)(i:Nat)(x:Nat->G)(w:M):Prop:=match K i with
 | .val p=>p (x i)
 | .dep s _ _=>s (x i) w
 | .late s _=>s (x i) w
def kQ{Rel In:M->M->Prop}(Ks:List (fN Rel In))(i:Nat):fN Rel In:=Ks.getD i (.val fun _=>True)
def MS(ops:Array EG)(cs:List Nat)(tags:List Bool):Bool:=(UM tags.length).all fun i=> !(tags.getD i V)||cs.all fun c=>decide (i=c)||dV ops ops.size i c
theorem EE8{Rel In:M->M->Prop}{Ks:List (fN Rel In)}{tags:List Bool}(h:Ks.map fN.lj=tags)(i:Nat)(hl:(kQ Ks i).lj=EI):i<tags.length/\tags.getD i V=EI:=by
 subst h;unfold kQ at hl;by_cases hi:i<Ks.length;·exact Em7
 ·rw[Uj,am D] at hl;cases hl
theorem Zx{Rel In:M->M->Prop}{a0:E2}(Ks:List (fN Rel In))(tags:List Bool)(htag:Ks.map fN.lj=tags)(cs:List Nat)(ks:List (Nat×Nat))(hm:P.follows .mixedOrders=EI)(hB:lU l.toArray=EI)(hK:jp l.toArray cs ks=EI)(hlt:MS l.toArray cs tags=EI)(hlk:(ks.all fun p=>decide (p.1<=cs.length))=EI)(hnd:(J8 l).Nodup) (hcg:(cs.all fun c=>match l[c]? with|some o=>o.guard.isNone|none=>false)=EI) (hPh: ∀b w w',Ph b w->Rel w w'->Ph b w') (h0:Ph 0 w0.drew) (hstep:fM Ph Rel In P l.toArray Q (fun x=>ED l 0 x a0) (RQ (kQ Ks)) cs 0 l ks) (hend: ∀x w,Ph cs.length w->(∀i,i<l.length->RQ (kQ Ks) i x w)->Ih P l.toArray Q [] (ED l 0 x a0) w):(Z3 id l.toArray EI).wp P Q a0 w0:=by
 refine xA cs ks hm hB hK hlk hnd (RQ (kQ Ks)) hcg hPh ?_ ?_ ?_ h0 hstep hend
 ·intro i x w w' _ h hr;unfold RQ at*;split at h;·exact h
  ·rename_i s h1 h2 _;exact EnH
  ·rename_i s h1 _;exact EnH
 ·intro i x w w' c hi hc hne hrb h hr;unfold RQ at*;split at h;·exact h
  ·rename_i s h1 h2 _;exact h2 _ _ _ h hr
  ·rename_i s h1 he;exfalso;obtain⟨h3,h4⟩:=EE8 htag i lf;have h5:=XJ.1 hlt i (ar.2 h3);rw[h4] at h5;simp only[Bool.not_true,Bool.false_or] at h5;have h6:=XJ.1 h5 c hc;rw[hrb] at h6;simp at h6;exact hne h6
 ·intro i x y w _ hq h;unfold RQ at*;exact EnQ
end
def Ln(W:M)(g:Nat)(L:List One)(rest:List G):Prop:=H W g (IB L++rest).toArray 171
def less(a b:One):Bool:=if a.r=b.r then decide (a.n<b.n) else decide (a.r<b.r)
theorem EE_(pre old post:List G)(o n:Nat)(ho:pre.length=o)(hn:old.length=n):(pre++(old++post)).toArray.extract o (o+n)=old.toArray:=by subst ho hn;simp
theorem EIE(L:List One)(i:Nat)(h:i<L.length)(rest:List G)(j:Nat)(hj:j<5):(IB L++rest)[i*5+j]?=(L[i]).v[j]?:=by
 induction L generalizing i with
 |nil=>simp at h
 |cons x r ih=>
  cases i with
  |zero=> simp only[IB,nA,UY,Nat.zero_mul,J9,List.getElem_cons_zero];rw[bO xB]
  |succ i=> have:=ih i UB;simp only[IB,nA,UY,List.getElem_cons_succ] at*;rw[ay xB,show(i+1)*5+j-x.v.length=i*5+j from xB];exact this
theorem Ln.cell{L:List One}(K:Ln W g L rest)(i:Nat){x:One}(h:L[i]?=X x):W.cell? ⟨g,i*5,Z⟩=X (E I x.s)/\W.cell? ⟨g,i*5+1,Z⟩=X (E I x.r)/\W.cell? ⟨g,i*5+2,Z⟩=X (E I x.a)/\W.cell? ⟨g,i*5+3,Z⟩=X (E I x.m)/\W.cell? ⟨g,i*5+4,Z⟩=X (E Il x.n):=by
 obtain⟨hl,rfl⟩:=Xr.1 h;have hk: ∀j,j<5->W.cell? ⟨g,i*5+j,Z⟩=(L[i]).v[j]?:=fun j hj=>by rw[H.cell K,J0];exact EIE L i hl rest j hj
 exact⟨hk 0 D,hk 1 D,hk 2 D,hk 3 D,hk 4 D⟩
theorem dh(A:Option Ev)(n c:Nat)(w:M): Eg Ea 272 #[EJ A n c] w fun e w'=>e=Eh (E I n)/\w=w':=by go_enter Tryz.func272,Tryz.ntmps272;exact Ej7
theorem iZ(g:Nat)(L:List One)(rest:List G)(n c:Nat)(i j:Nat)(x z:One)(hi:L[i]?=X x)(hj:L[j]?=X z)(hn:L.length=n)(w:M)(K:Ln w g L rest): Eg Ea 273 #[EJ (X ⟨g,0,Z⟩) n c,E I i,E I j] w fun e w'=>e=Eh (EU (less x z))/\Ek w w':=by
 have hi2:i<n:=MT;have hj2:j<n:=MV;have CI:Ed (∀W,Ln W g L rest->W.cell? ⟨g,i*5+1,Z⟩=X (E I x.r)/\W.cell? ⟨g,i*5+4,Z⟩=X (E Il x.n)):=J fun W k=>by have:=Ln.cell k i hi;exact⟨this.2.1,this.2.2.2.2⟩
 have CJ:Ed (∀W,Ln W g L rest->W.cell? ⟨g,j*5+1,Z⟩=X (E I z.r)/\W.cell? ⟨g,j*5+4,Z⟩=X (E Il z.n)):=J fun W k=>by have:=Ln.cell k j hj;exact⟨this.2.1,this.2.2.2.2⟩
 have KK:=J K;have B:=J<|E_ w.heap.size w;clear K hi hj hn;by_cases hr:x.r=z.r
 ·have d1:(x.r !=z.r)=V:=by rw[hr];simp
  have ci: ∀y:Ext w,(EA w y).cell? ⟨g,i*5+1,Z⟩=X (E I x.r):=fun y=>(CI.out _ (H.u KK.out (EL y))).1;have cj: ∀y:Ext w,(EA w y).cell? ⟨g,j*5+1,Z⟩=X (E I z.r):=fun y=>(CJ.out _ (H.u KK.out (EL y))).1;have er:less x z=decide (x.n<z.n):=by unfold less;rw[if_pos hr]
  rw[er];clear er hr;go_enter Tryz.func273,Tryz.ntmps273;go_wp2_with fail;refine Zs Ef Ef ?_;repeat (go_big_quiet_step (fail))
  refine I2 ?_;intro _ hw';obtain⟨y9,rfl⟩:=hw';have En:=EL y9;replace KK:Ed (Ln (EA w y9) g L rest):=EP KK En;replace B:=EW B En;clear ci cj;generalize EA w y9=w1 at*;go_wp2_with fail;have ci: ∀y:Ext w1,(EA w1 y).cell? ⟨g,i*5+4,Z⟩=X (E Il x.n):=fun y=>(CI.out _ (H.u KK.out (EL y))).2;have cj: ∀y:Ext w1,(EA w1 y).cell? ⟨g,j*5+4,Z⟩=X (E Il z.n):=fun y=>(CJ.out _ (H.u KK.out (EL y))).2;clear En;refine Zs Ef Ef ?_;repeat (go_big_quiet_step (fail))
  refine I2 ?_;exact ElG
 ·have d1:(x.r !=z.r)=EI:=by simp[hr]
  have ci: ∀y:Ext w,(EA w y).cell? ⟨g,i*5+1,Z⟩=X (E I x.r):=fun y=>(CI.out _ (H.u KK.out (EL y))).1;have cj: ∀y:Ext w,(EA w y).cell? ⟨g,j*5+1,Z⟩=X (E I z.r):=fun y=>(CJ.out _ (H.u KK.out (EL y))).1;have er:less x z=decide (x.r<z.r):=by unfold less;rw[if_neg hr]
  rw[er];clear er hr;go_enter Tryz.func273,Tryz.ntmps273;go_wp2_with fail;refine Zs Ef Ef ?_;repeat (go_big_quiet_step (fail))
  refine I2 ?_;intro _ hw';obtain⟨y9,rfl⟩:=hw';have En:=EL y9;replace KK:Ed (Ln (EA w y9) g L rest):=EP KK En;replace B:=EW B En;clear ci cj;generalize EA w y9=w1 at*;go_wp2_with fail;have ci: ∀y:Ext w1,(EA w1 y).cell? ⟨g,i*5+1,Z⟩=X (E I x.r):=fun y=>(CI.out _ (H.u KK.out (EL y))).1;have cj: ∀y:Ext w1,(EA w1 y).cell? ⟨g,j*5+1,Z⟩=X (E I z.r):=fun y=>(CJ.out _ (H.u KK.out (EL y))).1;clear En;refine Zs Ef Ef ?_;repeat (go_big_quiet_step (fail))
  refine I2 ?_;exact ElG
theorem bj:IF Ea 171 5:=⟨⟨_,Tryz.underlying171,U⟩,Ef⟩
theorem MW(L:List One)(i:Nat){x:One}(h:L[i]?=X x)(y:One):IB L=IB (L.take i)++(x.v++IB (L.drop (i+1)))/\IB (L.set i y)=IB (L.take i)++(y.v++IB (L.drop (i+1))):=by
 obtain⟨hl,rfl⟩:=Xr.1 h;have e: ∀(Y8:List One) (z:One),IB (Y8++z::L.drop (i+1))=IB Y8++(z.v++IB (L.drop (i+1))):=fun Y8 z=>by simp[IB]
 refine⟨?_,?_⟩;·rw[<-e,<-lO hl,dR]
 ·rw[<-e,List.set_eq_take_append_cons_drop,if_pos hl]
theorem Ln.set{L:List One}(K:Ln W g L rest)(i:Nat){x:One}(h:L[i]?=X x)(y:One):Ln (W.setCells g (i*5) y.v) g (L.set i y) rest:=by have hl:=(Xr.1 h).1;obtain⟨e1,e2⟩:=MW L i h y;unfold Ln at*;rw[e1,UY,UY] at K;rw[e2,UY,UY];exact ZZ y.v x.v _ (i*5) W K U MY
theorem Ln.there{L:List One}(K:Ln W g L rest)(i:Nat)(h:i<L.length):W.there g (i*5) 5:=by refine aA K ?_;rw[List.size_toArray,I1,bi];omega
theorem Ln.ext{L:List One}(i:Nat){x:One}(h:L[i]?=X x):(IB L++rest).toArray.extract (i*5) (i*5+5)=x.v.toArray:=by have hl:=(Xr.1 h).1;obtain⟨e1,-⟩:=MW L i h x;rw[e1,UY,UY];exact EE_ _ _ _ _ _ MY U
theorem One.one(x:One):x.v.toArray.all (·.oneCell')=EI:=Dc
theorem di(g:Nat)(L:List One)(rest:List G)(n c:Nat)(i j:Nat)(x z:One)(hi:L[i]?=X x)(hj:L[j]?=X z)(hn:L.length=n)(w:M)(K:Ln w g L rest): Eg Ea 274 #[EJ (X ⟨g,0,Z⟩) n c,E I i,E I j] w fun e w'=>e=Eh (Es #[])/\Ln w' g ((L.set i z).set j x) rest/\E3 g w w':=by
 have hi2:i<n:=MT;have hj2:j<n:=MV;have LI:=J (show i<L.length from D);have LJ:=J (show j<L.length from D);have HI:=J hi;have HJ:=J hj;obtain⟨z2,hz2⟩: ∃z2,(L.set i z)[j]?=X z2:=⟨_,JY (by simpa using LJ.out)⟩;have HJ2:=J hz2;have KK:=J K;clear K hi hj hn hz2;go_enter Tryz.func274,Tryz.ntmps274;refine MR (Ph:=fun p wq=>match p with|0=>Ln wq g L rest/\E3 g w wq|1=>Ln wq g (L.set i z) rest/\E3 g w wq|_=>Ln wq g ((L.set i z).set j x) rest/\E3 g w wq) (In:=fun _ _=>True) (w.heap.size) [kq (EJ (X ⟨g,0,Z⟩) n c),kq (E I (i:Int)),kq (EJ (X ⟨g,0,Z⟩) n c),kq (E I (j:Int)),kq (EJ (X ⟨g,0,Z⟩) n c),kq (E I (j:Int)),kq (Y (X ⟨g,j*5,Z⟩)),kq (EZ z.v.toArray),kq (EJ (X ⟨g,0,Z⟩) n c),kq (E I (i:Int)),kq (Y (X ⟨g,i*5,Z⟩)),kq (EZ x.v.toArray),kq (Y (X ⟨g,i*5,Z⟩)),.val (fun _=>True),kq (Y (X ⟨g,j*5,Z⟩)),.val (fun _=>True)] [13,15] [(0,0),(0,0),(0,1),(0,1),(0,0),(0,0),(0,0),(0,0),(0,0),(0,0),(0,0),(0,0),(0,0),(0,0),(1,1),(1,1)] Ef Ef Ef Ef O0 Ef U (show List.Nodup ([]:List Ez) from Eb) bu ?hPh ?hR2 ?h0 ?hstep ?hend
 case hPh=>
  exact fun p w1 w2 h hr=>by
   have hb:=hr.MK (E9 _) (fun k S cs hk=>by simp[kM] at hk);match p,h with
   |0,h=>exact⟨H.u h.1 hb,h.2.trans (E3.EC hb)⟩
   |1,h=>exact⟨H.u h.1 hb,h.2.trans (E3.EC hb)⟩
   |_+2,h=>exact⟨H.u h.1 hb,h.2.trans (E3.EC hb)⟩
 case hR2=> intro T hT;simp[Kn.ty] at hT
 case h0=> exact⟨KK.out.drew,E3.EC (JZ w)⟩
 case hstep=>
  refine⟨?_,?_,?_,?_,?_,?_,?_,?_,?_,?_,?_,?_,?_,?_,?_,?_,trivial⟩;all_goals first|intro xv wq p hlo hhi hp hd|intro xv wq hp hd
  all_goals simp only[ED,Ic,Ii,IJ,IU]
  ·exact Elk
  ·exact Elk
  ·exact Elz
  ·exact Elz
  ·exact Elk
  ·exact Elk
  ·obtain rfl:p=0:=D;have d4:xv 4=EJ (X ⟨g,0,Z⟩) n c:=hd.at 4 rfl;have d5:xv 5=E I (j:Int):=hd.at 5 rfl;exact Iw JL.kept (Ei U) (by simp[go_sem,d4,d5,hj2]) U
  ·obtain rfl:p=0:=D;have d6:xv 6=Y (X ⟨g,j*5,Z⟩):=hd.at 6 rfl;exact aC JL.kept bj (Ei U) ⟨U,d6⟩ (hp.1) U (Ln.ext j HJ.out) U
  ·exact Elk
  ·exact Elk
  ·obtain rfl:p=0:=D;have d8:xv 8=EJ (X ⟨g,0,Z⟩) n c:=hd.at 8 rfl;have d9:xv 9=E I (i:Int):=hd.at 9 rfl;exact Iw JL.kept (Ei U) (by simp[go_sem,d8,d9,hi2]) U
  ·obtain rfl:p=0:=D;have d10:xv 10=Y (X ⟨g,i*5,Z⟩):=hd.at 10 rfl;exact aC JL.kept bj (Ei U) ⟨U,d10⟩ (hp.1) U (Ln.ext i HI.out) U
  ·obtain rfl:p=0:=D;have d0:xv 0=EJ (X ⟨g,0,Z⟩) n c:=hd.at 0 rfl;have d1:xv 1=E I (i:Int):=hd.at 1 rfl;exact Iw JL.kept (Ei U) (by simp[go_sem,d0,d1,hi2]) U
  ·have d12:xv 12=Y (X ⟨g,i*5,Z⟩):=hd.at 12 rfl;have d7:xv 7=EZ z.v.toArray:=hd.at 7 rfl;exact MQ bj (Ei U) ⟨U,d12,d7⟩ (Ln.there hp.1 i (by simpa using LI.out)) U (One.one _) ⟨trivial,⟨Ln.set hp.1 i HI.out z,hp.2.trans (JG _ _ _)⟩⟩ trivial
  ·obtain rfl:p=1:=D;have d2:xv 2=EJ (X ⟨g,0,Z⟩) n c:=hd.at 2 rfl;have d3:xv 3=E I (j:Int):=hd.at 3 rfl;exact Iw JL.kept (Ei U) (by simp[go_sem,d2,d3,hj2]) U
  ·have d14:xv 14=Y (X ⟨g,j*5,Z⟩):=hd.at 14 rfl;have d11:xv 11=EZ x.v.toArray:=hd.at 11 rfl;exact MQ bj (Ei U) ⟨U,d14,d11⟩ (Ln.there hp.1 j (by simpa using LJ.out)) U (One.one _) ⟨trivial,⟨Ln.set hp.1 j HJ2.out x,hp.2.trans (JG _ _ _)⟩⟩ trivial
 case hend=> intro x2 W6 hp hr;clear hr;simp only[ED,Ic,Ii,IJ,IU];have HP:=J hp;clear hp;go_wp2;go_end0;exact⟨U,HP.out⟩
end Go.Proofs.YtclmichaaiohjaaGreatDoor
