import Derived.Test.YtclmichaaiohjaaGreatDoorP00
import Derived.Laws.CopyRow
import Derived.Laws.IdiomCopy
import Derived.Laws.MakeOwn
set_option maxRecDepth 100000
set_option linter.unusedVariables false
set_option linter.unusedSimpArgs false
set_option maxHeartbeats 6400000
namespace Go.Proofs.YtclmichaaiohjaaGreatDoor
open RowKit
open _root_.Array renaming getElem?_eq_some_iff->Ja
open Bool renaming true->G,false->Y
open Go renaming World->H,Calls->Ef,TypeId->Ez,Value->M,Addr->Et,bodyPost_ret->EQ,Oper->EK,below_setRow->E2
open Act renaming put->Ic
open Ending renaming returned->Eg
open IntKind renaming i64->I,u8->IB,u64->Ip,u32->J0
open Lib renaming hid->J
open Obj renaming cells->EI
open Go.Proofs.Tryz renaming prog->EJ
open Region renaming wanted->IQ
open RowKit renaming Hid->Ea
open RowKit.Below renaming refl->E6
open Value renaming bool->Eb,int->E,agg->EU,slice->u,tuple->Es,pointer->V
open List renaming take_succ_cons->Il,take_zero->Ij,setIfInBounds_toArray->Ig,length_append->IL
open Nat renaming le_trans->Ey,le_refl->E5
open Option renaming some->X,none->Z
variable{k Y4 g id i j d b0:Nat}{w w' W w'' w0:H}{xs:List Int}{x:Nat->M}{P:Program}{t TB S:Ez}{cs args tmps big:Array M}{p:Tmp}{f:FuncId}{Q:Exit->Act->H->Prop}{l:List EK}{old:List M}{fn:Func}{listed:Array Bool}{F:(Nat->M)->Act}{R:Nat->M->H->Prop}{want:Bool}{Rel:H->H->Prop}{ops:Array EK}{Gs:List (List M)}{S2:M->H->Prop}
theorem fZ(k:Nat)(hk:k<=62)(a:Int)(m:Int)(hm:m=((2^k-1:Nat):Int)):bits .and .i64 a m=a%(2^k:Nat):=by
 subst hm;have hp:2^k<=2^62:=Nat.pow_le_pow_right U hk;have hp0:0<2^k:=Nat.two_pow_pos k;show IntKind.i64.wrap ((BitVec.ofInt 64 a&&&BitVec.ofInt 64 ((2^k-1:Nat):Int)).toNat:Int)=_;rw[BitVec.toNat_and,BitVec.toNat_ofInt,BitVec.ofInt_natCast,BitVec.toNat_ofNat,Nat.mod_eq_of_lt U,Nat.and_two_pow_sub_one_eq_mod];have e:(((a%((2^64:Nat):Int)).toNat%2^k:Nat):Int)=a%((2^k:Nat):Int):=by rw[Int.natCast_emod,Int.toNat_of_nonneg (Int.emod_nonneg _ U)];apply Int.emod_emod_of_dvd;exact_mod_cast Nat.pow_dvd_pow 2 U
 rw[e];have h1:=Int.emod_nonneg a (b:=((2^k:Nat):Int)) U;have h2:=Int.emod_lt_of_pos a (b:=((2^k:Nat):Int)) U;exact IntWalk.i64_in _ U
theorem V_(a:Int):bits .and .i64 a 1=a%2:=fZ 1 U a 1 rfl
theorem WE(a:Int):bits .and .i64 a 3=a%4:=fZ 2 U a 3 rfl
theorem WI(a:Int):bits .and .i64 a 7=a%8:=fZ 3 U a 7 rfl
theorem WJ(a:Int):bits .and .i64 a 15=a%16:=fZ 4 U a 15 rfl
theorem WU(a:Int):bits .and .i64 a 31=a%32:=fZ 5 U a 31 rfl
theorem WX(a:Int):bits .and .i64 a 255=a%256:=fZ 8 U a 255 rfl
theorem WZ(a:Int):bits .and .i64 a 1023=a%1024:=fZ 10 U a 1023 rfl
theorem Wa(a:Int):bits .and .i64 a 65535=a%65536:=fZ 16 U a 65535 rfl
theorem Wb(a:Int):bits .and .i64 a 1048575=a%1048576:=fZ 20 U a 1048575 rfl
theorem Wc(a:Int):bits .and .i64 a 4294967295=a%4294967296:=fZ 32 U a 4294967295 rfl
attribute [go_sem] V_ WE WI WJ WU WX WZ Wa Wb Wc
theorem fa{k:IntKind}{a b:Int}(h:a=b):Ending.returned (.int k a)=Eg (.int k b):=by rw[h]
theorem ur{a b:Bool}(h:a=b):Ending.returned (Eb a)=Eg (Eb b):=by rw[h]
def sat(n most:Int):Int:=if n<most then n+1 else most
def JL(n low high:Int):Int:=if n<low then low else if high<n then high else n
def Jf(now Zi El:Int):Int:=
 if El<1 then now
 else if now<=Zi then(if Zi-now<=El then Zi else now+El)
 else if now-Zi<=El then Zi else now-El
def has(j7 i:Int):Bool:=decide (0<=j7/\0<=i/\i<=62)&&(j7/2^i.toNat%2==1)
theorem Wd(n:Int):IntKind.u64.wrap n=n%18446744073709551616:=by exact Ely
theorem G9(a b:Int)(h1: -9223372036854775808<=b)(h2:a<=9223372036854775807)(h:b<=a): IntKind.u64.wrap (IntKind.u64.wrap a-IntKind.u64.wrap b)=a-b:=by simp only[Wd];omega
theorem pH(n most:Int)(w:H)(h1: -9223372036854775808<=n)(h3:most<=9223372036854775807): Ef EJ 90 #[E I n,E I most] w fun e w'=>e=Eg (E I (sat n most))/\w=w':=by
 go_enter Tryz.func90,Tryz.ntmps90;go_wp2
 all_goals
  go_ret
  refine⟨fa ?_,O⟩
  unfold sat
  split<;>omega
theorem Xb(n low high:Int)(w:H): Ef EJ 184 #[E I n,E I low,E I high] w fun e w'=>e=Eg (E I (JL n low high))/\w=w':=by
 go_enter Tryz.func184,Tryz.ntmps184;go_wp2
 all_goals
  go_ret
  refine⟨fa ?_,O⟩
  unfold JL
  repeat' split
  all_goals omega
theorem us(now Zi El:Int)(w:H)(h1: -9223372036854775808<=now)(h2:now<=9223372036854775807)(h3: -9223372036854775808<=Zi)(h4:Zi<=9223372036854775807) (h5: -9223372036854775808<=El) (h6:El<=9223372036854775807): Ef EJ 152 #[E I now,E I Zi,E I El] w fun e w'=>e=Eg (E I (Jf now Zi El))/\w=w':=by
 by_cases hc:now<=Zi
 ·have e1:=G9 Zi now h1 h4 hc;go_enter Tryz.func152,Tryz.ntmps152;go_wp2
  all_goals
   go_ret
   refine⟨fa ?_,O⟩
   unfold Jf
   repeat' split
   all_goals omega
 ·have e1:=G9 now Zi h3 h2 U;go_enter Tryz.func152,Tryz.ntmps152;go_wp2
  all_goals
   go_ret
   refine⟨fa ?_,O⟩
   unfold Jf
   repeat' split
   all_goals omega
theorem zr(j7 i:Int)(w:H)(h1: -9223372036854775808<=j7)(h2:j7<=9223372036854775807): Ef EJ 163 #[E I j7,E I i] w fun e w'=>e=Eg (Eb (has j7 i))/\w=w':=by
 go_enter Tryz.func163,Tryz.ntmps163;go_wp2
 all_goals
  go_ret
  refine⟨ur ?_,O⟩
  unfold has
 ·rw[E9 U];rfl
 ·rw[Ia U];rfl
 ·rw[E9 U];rfl
 ·rw[E9 U];rfl
section
open Go.ChangeShapes Go.WideShapes
section
variable{P:Program}{w:World}{r:Reach}{base:Nat}{t:TypeId}{v:Value}
theorem Wf{k:IntKind}(ht:P.underlying t=X (.int k))(h:Cell.okWide P w r base t v): ∃n,v= .int k n/\k.min<=n/\n<=k.max:=by simp only[Cell.okWide,ht,Cell.ok,IntKind.has] at h;cases v<;>simp_all
theorem Wg(ht:P.underlying t=X (.int .i64))(h:Cell.okWide P w r base t v): ∃n:Int,v=E I n/\ -9223372036854775808<=n/\n<=9223372036854775807:=by obtain⟨n,rfl,h1,h2⟩:=Wf ht h;exact⟨n,O,by simpa[IntKind.min,IntKind.signed,IntKind.bits] using h1,by simp[IntKind.max,IntKind.signed,IntKind.bits] at h2;omega⟩
theorem flat{ts:List Ez}(ha:(∃fs,P.underlying t=X (.struct fs))\/ ∃n e,P.underlying t=X (.array n e))(hts:P.cellTypes P.depth t=X ts)(hn:P.cellsOf t=ts.length) (h:Value.okWide P w r base t v): ∃cs:Array M,v=EU cs/\cs.size=ts.length/\ ∀(i:Nat) Y3 c,ts[i]?=X Y3->cs[i]?=X c->Cell.okWide P w r base Y3 c:=by
 have h': ∃cs,v=EU cs/\cs.size=P.cellsOf t/\Row.okWide P w r base t cs:=by rcases ha with⟨fs,ha⟩|⟨n,e,ha⟩<;>simpa only[Value.okWide,ha] using h
 obtain⟨cs,rfl,hs,ts',G_,_,hc⟩:=h';rw[hts] at G_;obtain rfl:ts=ts':=by simpa using G_
 refine⟨cs,O,U,fun i Y3 c hu hcs=> ?_⟩;obtain⟨u',hu',hok⟩:=hc i c hcs
 have hi:i<ts.length:=by
  rcases Nat.lt_or_ge i ts.length with h|h;·exact h
  ·rw[List.getElem?_eq_none h] at hu;cases hu
 rw[Nat.mod_eq_of_lt hi,hu] at hu';obtain rfl:Y3=u':=by simpa using hu'
 exact hok
def HU(k:IntKind)(w:H)(v:M):Prop:=
 v= .slice Z 0 0\/
 ∃(x:Et) (len cap:Nat) (zs:List Int),v=u (X x) len cap/\(0<cap->x.block<w.heap.size/\x.spot=Z)/\len<=cap/\cap<=9223372036854775807/\zs.length=cap/\(∀i,i<zs.length->w.cell? (x.add i)=X (.int k (zs.getD i 0)))/\ ∀n∈zs,(Lit.int k n).wf=G
end
end
section
open Go.ChangeShapes Go.WideShapes
def Row(w:H)(a:Option Et)(xs:List Int):Prop:=
 (xs=[]\/ ∃b off,a=X ⟨b,off,Z⟩/\ ∀i (h:i<xs.length),w.cell? ⟨b,off+i,Z⟩=X (E IB xs[i]))/\ ∀x∈xs,0<=x/\x<=255
theorem Iq{a:Option Et}(h:Row w a xs)(hb:Eh w w'):Row w' a xs:=by
 obtain⟨h|⟨b,off,rfl,hc⟩,h2⟩:=h;·exact⟨.inl h,h2⟩
 ·exact⟨.inr ⟨b,off,O,fun i hi=>by rw[hb.cell (World.block_lt_of_cell? _ _ (hc i hi))];exact hc i hi⟩,h2⟩
theorem ut{a:Option Et}(h:Row W a xs)(q:Nat):Row (W.drewN q) a xs:=h
theorem j8(W:H)(a:Option Et):Row W a []:=⟨.inl O,fun x hx=>pK⟩
theorem j9{a:Option Et}(h:Row W a xs)(n:Nat):Row W a (xs.take n):=by
 obtain⟨h|⟨b,off,rfl,hc⟩,h2⟩:=h;·subst h;simpa using j8 W a
 ·refine⟨.inr ⟨b,off,O,fun i hi=> ?_⟩,fun x hx=>h2 x (List.mem_of_mem_take hx)⟩;rw[hc i nO];simp
def uu(w:H)(v:M):Prop:=
 ∃(A:Option Et) (xs:List Int) (cap:Nat),v=u A xs.length cap/\xs.length<=cap/\cap<=9223372036854775807/\Row w A xs/\(A=Z->cap=0)
theorem Ha{x:Int}(h:(Lit.int .u8 x).wf=G):0<=x/\x<=255:=by exact ElY
theorem Hb{Y9:Type}{enc:Ez×M->Y9}{e:Ez}{v:M}{fuel:Nat}{x:DataW Y9×List MemPlace}(ht:P.underlying t=X (.slice e))(he:P.underlying e=X (.int .u8))(hc:P.cellsOf e=1) (hd:DataW.trod enc P w 0 (fun _=>G) G fuel t [v]=X x):uu w v:=by
 rcases open_ints ht he hc hd with⟨hcs,_⟩|⟨ad,l,c,zs,hcs,_,hl,hm,hz,hx,hcell,hwz⟩;·simp at hcs;subst hcs;exact⟨Z,[],0,O,Ek,Ek,j8 _ _,fun _=>rfl⟩
 ·simp at hcs;subst hcs;have hzc:zs.length=c:=by simpa using hz
  have hlen:(zs.take l).length=l:=iQ;refine⟨X ad,zs.take l,c,by rw[hlen],U,Hc,⟨?_,fun y hy=>Ha (hwz y (List.mem_of_mem_take hy))⟩,fun h=>Uf⟩;rcases Nat.eq_zero_or_pos c with h0|h0;·left;exact List.eq_nil_of_length_eq_zero U
  ·right;have h1:=hcell 0 U;have e0:ad.add 0=ad:=zu;rw[e0] at h1;obtain⟨b,off,spot⟩:=ad;have hs:=World.cell?_spot h1;simp at hs;subst hs;refine⟨b,off,O,fun i hi=> ?_⟩;have hi':i<l:=U;have:=hcell i U;have e:(⟨b,off,Z⟩:Et).add i=⟨b,off+i,Z⟩:=U4;rw[e] at this;exact Ell
theorem uw(h:Below Y4 w w')(k:Eh w' w'')(hB:Y4<=w.heap.size):Below Y4 w w'':=
 h.trans (k.mono (Ey hB h.size))
theorem bt(h:Eh w w')(k:Eh w' w''):Eh w w'':=h.trans (k.mono h.size)
theorem ET(h:Ea (Below w.heap.size w w'))(k:Below w'.heap.size w' w''):Ea (Below w.heap.size w w''):=J (bt h.out k)
theorem aQ{a:H}(h:Below Y4 a w)(n:Nat):Below Y4 a (w.drewN n):=⟨h.os,h.tape,h.output,h.size,h.block⟩
theorem I1(w:H):Eh w w.drew:=⟨O,O,O,E5 _,fun _ _=>rfl⟩
theorem Eo(w:H)(o:Obj):Eh w (w.alloc o):=(E6 _ _).alloc (E5 _) o
theorem JF(w:H)(o o':Obj):Eh w ((w.alloc o).alloc o'):=(Eo w o).alloc Ek o'
theorem X5(w:H)(o o' o'':Obj):Eh w (((w.alloc o).alloc o').alloc o''):=(JF w o o').alloc JJ o''
theorem I6(h:w.heap[g]?=X (EI cs t (0,0))):(∀i,w.cell? ⟨g,i,Z⟩=cs[i]?)/\(∀i,w.frozen? ⟨g,i,Z⟩=Y):=
 ⟨fun i=>cell_of_row w g i cs t (0,0) h,fun i=>frozen_of_row w g i cs t h⟩
theorem j_{o:Obj}(h:w.heap[g]?=X o):g<w.heap.size:=by
 rcases Nat.lt_or_ge g w.heap.size with h1|h1;·exact h1
 ·rw[Array.getElem?_eq_none h1] at h;cases h
theorem Uu{o:Obj}(h:w.heap[g]?=X o)(hb:Eh w w'):w'.heap[g]?=X o:=(hb.block g (j_ h)).trans h
theorem Hd{o o':Obj}(hb:Below ((w.alloc o).alloc o').heap.size ((w.alloc o).alloc o') w'):w'.heap[w.heap.size]?=X o/\w'.heap[w.heap.size+1]?=X o'/\w.heap.size+1<w'.heap.size:=by refine⟨Uu (heap_alloc2_old _ _ _) hb,Uu (heap_alloc2_new _ _ _) hb,?_⟩;have:=hb.size;simp at this;omega
theorem zw(hg:W.heap[g]?=X (EI cs t (0,0)))(hc:cs=(xs.map (E .u8)).toArray)(hb: ∀x∈xs,0<=x/\x<=255): Row W (X ⟨g,0,Z⟩) xs:=by subst hc;refine⟨.inr ⟨g,0,O,fun i h=> ?_⟩,hb⟩;rw[cell_of_row W g (0+i) _ t (0,0) hg];simp[h]
theorem Wh(i:Nat):(w.alloc (EI cs t)).cell? ⟨w.heap.size,i,Z⟩=cs[i]?:=cell_of_row _ _ i cs t (0,0) (heap_alloc_new w _)
theorem Hf(hb:Below (w.alloc (EI cs t)).heap.size (w.alloc (EI cs t)) w')(i:Nat):w'.cell? ⟨w.heap.size,i,Z⟩=cs[i]?:=
 (hb.cell (p:=⟨w.heap.size,i,Z⟩) Ek).trans (Wh i)
theorem Hg{o:Obj}(hb:Below (w.alloc o).heap.size (w.alloc o) w'):Eh w w':=
 uw ((E6 _ _).alloc (E5 _) o) hb (E5 _)
theorem iR{p:Nat×Nat}(h:w.heap[g]?=X (EI cs t p))(i:Nat)(v:M):(w.setCell ⟨g,i,Z⟩ v).heap[g]?=X (EI (cs.setIfInBounds i v) t p):=by simp only[World.setCell,Array.getElem?_modify,if_true,h,Option.map_some];rfl
theorem Hh(h:Below Y4 w.drew w'):Below Y4 w w':=⟨h.os,h.tape,h.output,h.size,h.block⟩
theorem iS:(Tryz.prog.info? 5).map (fun i=>(i.zero,i.size,i.bytes))=X (X (E IB 0),1,1):=Ec
end
def kE:Option (Nat×Nat)->M
 |none=>EU #[Eb Y,E I 0,E Ip 0]
 |some (h,s)=>EU #[Eb G,E I h,E Ip s]
def Xc:Option (Nat×Nat)->Nat->Option (Nat×Nat)×Bool
 |none,n=>(X (n,1),G)
 |some (h,s),n=>
  if h<n then(X (n,(s*2^(n-h))%2^64|||1),G)
  else if h-n<64 then(X (h,s|||2^(h-n)),!s.testBit (h-n))
  else(X (h,s),Y)
def nU:Option (Nat×Nat)->Prop
 |none=>True
 |some (h,s)=>h<=4294967295/\s<2^64
theorem Wi(s d:Nat)(c:Int)(hs:s<2^64)(hc:c=d)(W:H):(Op.shift BinOp.shl IntKind.u64 (s:Int) IntKind.u64 c).run EJ W= .ok (E Ip ((s*2^d%2^64:Nat):Int)) W:=by
 subst hc
 have e:IntKind.u64.wrap ((s:Int)*2^(min d 64))=((s*2^d%2^64:Nat):Int):=by
  have c1:(s:Int)*2^(min d 64)=((s*2^(min d 64):Nat):Int):=Ek;rw[c1];have c2:IntKind.u64.wrap ((s*2^(min d 64):Nat):Int)=((s*2^(min d 64)%2^64:Nat):Int):=by exact Ely
  rw[c2];congr 1;rcases Nat.lt_or_ge d 64 with h|h;·rw[Nat.min_eq_left U]
  ·rw[Nat.min_eq_right h,Nat.mul_mod_left,show d=(d-64)+64 from U,Nat.pow_add,<-Nat.mul_assoc,Nat.mul_mod_left]
 unfold Op.shift;rw[if_neg U,Int.toNat_natCast];show(pure (E .u64 (IntKind.u64.wrap ((s:Int)*2^(min d 64)))):Sem M).run EJ W=_;rw[e];rfl
theorem Wj(n:Nat)(w:H)(h6:n<=4294967295): Ef EJ 173 #[EU #[Eb Y,E I 0,E Ip 0],E I n] w fun e w'=>e=Eg (EU #[Eb G,E I n,E Ip 1])/\Eh w w':=by go_enter Tryz.func173,Tryz.ntmps173;go_wp2;exact EQ (v:=EU #[Eb G,E I n,E Ip 1]) ux O ⟨O,JF _ _ _⟩
theorem Wl(h s n:Nat)(w:H)(h2:h<=4294967295)(h4:s<2^64)(h5:h<n)(h6:n<=4294967295): Ef EJ 173 #[EU #[Eb G,E I h,E Ip s],E I n] w fun e w'=>e=Eg (EU #[Eb G,E I n,E Ip (s*2^(n-h)%2^64|||1:Nat)])/\Eh w w':=by have hsh:=Wi s (n-h) ((n:Int)-(h:Int)) h4 U;have hor:bits .or .u64 ((s*2^(n-h)%2^64:Nat):Int) 1=((s*2^(n-h)%2^64|||1:Nat):Int):=u64_or_nat _ 1 (Nat.mod_lt _ U) U;obtain⟨x,hx⟩:=JO (s*2^(n-h)%2^64);rw[hx] at hsh hor;rw[hx];clear hx;go_enter Tryz.func173,Tryz.ntmps173;go_wp2;exact EQ (v:=EU #[Eb G,E I n,E Ip (x|||1:Nat)]) ux O ⟨O,JF _ _ _⟩
theorem Wm(h s n:Nat)(w:H)(h2:h<=4294967295)(h4:s<2^64)(h5:n<=h)(h7:h-n<64): Ef EJ 173 #[EU #[Eb G,E I h,E Ip s],E I n] w fun e w'=>e=Eg (EU #[Eb G,E I h,E Ip (s|||2^(h-n):Nat)])/\Eh w w':=by
 have hp:2^(h-n)<2^64:=Nat.pow_lt_pow_right U h7;have hor:bits .or .u64 (s:Int) (IntKind.u64.wrap (2^(h-n)))=((s|||2^(h-n):Nat):Int):=by have c1:((2:Int)^(h-n))=((2^(h-n):Nat):Int):=Ek;rw[c1,IntWalk.u64_in _ ⟨Int.natCast_nonneg _,U⟩];exact u64_or_nat _ _ U U
 have h8:(h:Int)-(n:Int)<64:=U;have h9:(n:Int)<=h:=U;obtain⟨x,hx⟩:=JO (s|||2^(h-n));rw[hx] at hor;rw[hx];clear hx hp;go_enter Tryz.func173,Tryz.ntmps173;go_wp2;go_region;go_wp2;exact EQ (v:=EU #[Eb G,E I h,E Ip x]) ux O ⟨O,(JF _ _ _).drew⟩
theorem Wn(h s n:Nat)(w:H)(h2:h<=4294967295)(h4:s<2^64)(h5:n<=h)(h7:64<=h-n): Ef EJ 173 #[EU #[Eb G,E I h,E Ip s],E I n] w fun e w'=>e=Eg (EU #[Eb G,E I h,E Ip s])/\Eh w w':=by have h8:64<=(h:Int)-(n:Int):=U;have h9:(n:Int)<=h:=U;go_enter Tryz.func173,Tryz.ntmps173;go_wp2;exact EQ (v:=EU #[Eb G,E I h,E Ip s]) ux O ⟨O,JF _ _ _⟩
theorem Wo(a1 a2:Bool)(h1 h2 s1 s2:Int)(W:H): (binOp .neq 158 (EU #[Eb a2,E I h2,E Ip s2]) (EU #[Eb a1,E I h1,E Ip s1])).run EJ W= .ok (Eb (decide (¬(a2=a1/\h2=h1/\s2=s1)))) W:=by by_cases e1:a2=a1<;>by_cases e2:h2=h1<;>by_cases e3:s2=s1<;>simp[go_sem,e1,e2,e3]
theorem uy(a1 a2:Bool)(h1 h2 s1 s2:Int)(n:Int)(w:H) (hc: ∀w,Ef EJ 173 #[EU #[Eb a1,E I h1,E Ip s1],E I n] w fun e w'=>e=Eg (EU #[Eb a2,E I h2,E Ip s2])/\Eh w w'): Ef EJ 126 #[EU #[Eb a1,E I h1,E Ip s1],E I n] w fun e w'=>e=Eg (Es #[EU #[Eb a2,E I h2,E Ip s2],Eb (decide (¬(a2=a1/\h2=h1/\s2=s1)))])/\Eh w w':=by have HC:=J hc;have hn:=Wo a1 a2 h1 h2 s1 s2;obtain⟨b,hb⟩:=JO (decide (¬(a2=a1/\h2=h1/\s2=s1)));rw[hb] at hn;rw[hb];clear hc hb;go_enter Tryz.func126,Tryz.ntmps126;go_wp2_with fail;refine(HC.out _).mono ?_;rintro e w1 ⟨rfl,b1⟩;obtain⟨q0,q1,hz⟩:=Hd b1;obtain⟨c0,f0⟩:=I6 q0;obtain⟨c1,f1⟩:=I6 q1;have Y4:=J<|(JF w _ _).trans (b1.mono JJ);have hz0:w.heap.size<w1.heap.size:=U;clear q0 q1 b1 f0;go_wp2;go_region;go_wp2;refine EQ (v:=Es #[EU #[Eb a2,E I h2,E Ip s2],Eb b]) ?_ O ⟨O,((((Y4.out.setCell Ek _).setCell Ek _).setCell Ek _).alloc (by simp[World.setCell];omega) _).drew⟩;simp[results,Tryz.results126,go_sem,c1,hz]
theorem Wp(s d:Nat):(s|||2^d=s)↔s.testBit d=G:=by
 constructor;·intro h;rw[<-h,Nat.testBit_or,Nat.testBit_two_pow];simp
 ·intro h;apply Nat.eq_of_testBit_eq;intro i;rw[Nat.testBit_or,Nat.testBit_two_pow];by_cases e:d=i;·subst e;simp[h]
  ·simp[e]
theorem Wq(v:Option (Nat×Nat))(n:Nat)(w:H)(hv:nU v)(hn:n<=4294967295): Ef EJ 126 #[kE v,E I n] w fun e w'=>e=Eg (Es #[kE (Xc v n).1,Eb (Xc v n).2])/\Eh w w':=by
 rcases v with _|⟨h,s⟩;·refine(uy Y G 0 n 0 1 n w (fun w=>Wj n w hn)).mono ?_;rintro e w' ⟨rfl,hb⟩;exact⟨by simp[kE,Xc],hb⟩
 ·obtain⟨h1,h2⟩:=hv;by_cases c1:h<n;·refine(uy G G h n s _ n w (fun w=>Wl h s n w h1 h2 c1 hn)).mono ?_;rintro e w' ⟨rfl,hb⟩;refine⟨?_,hb⟩;have e1: ¬((n:Int)=(h:Int)):=U;simp only[Xc,if_pos c1,kE,e1,false_and,and_false,not_false_eq_true,decide_true]
  ·by_cases c2:h-n<64
   ·refine(uy G G h h s _ n w (fun w=>Wm h s n w h1 h2 U c2)).mono ?_;rintro e w' ⟨rfl,hb⟩;refine⟨?_,hb⟩;have e1:decide (¬(G=G/\(h:Int)=h/\((s|||2^(h-n):Nat):Int)=s))= !s.testBit (h-n):=by have:=Wp s (h-n);rw[Bool.eq_iff_iff];simp only[true_and,decide_eq_true_eq,Bool.not_eq_true',Int.natCast_inj];rw[this];simp
    rw[e1];simp only[Xc,if_neg c1,if_pos c2,kE]
   ·refine(uy G G h h s s n w (fun w=>Wn h s n w h1 h2 U U)).mono ?_;rintro e w' ⟨rfl,hb⟩;refine⟨?_,hb⟩;simp only[Xc,if_neg c1,if_neg c2,kE];simp
def Ext(W:H):Type:={w':H//Eh W w'}
def Ex(W:H)(x:Ext W):H:=x.1
instance(W:H):Nonempty (Ext W):=⟨⟨W,E6 _ _⟩⟩
theorem EC(x:Ext W):Eh W (Ex W x):=x.2
theorem X6{x:Ext W}{v:M}(h:Ef P f args (Ex W x) fun e w'=>e=Eg v/\Below (Ex W x).heap.size (Ex W x) w'): Ef P f args (Ex W x) fun e w''=>e=Eg v/\ ∃y,w''=Ex W y:=h.mono fun _ _ ⟨he,hb⟩=>⟨he,⟨⟨_,bt x.2 hb⟩,O⟩⟩
theorem U5{x:Ext W}{v:M}(h:Ef P f args (Ex W x) fun e w'=>e=Eg v/\Ex W x=w'): Ef P f args (Ex W x) fun e w''=>e=Eg v/\ ∃y,w''=Ex W y:=h.mono fun _ _ ⟨he,hb⟩=>⟨he,⟨x,hb.symm⟩⟩
theorem Uv{a:Act}(hm:P.follows .mixedOrders=G)(hB:Region.lexB .any l.toArray=G) (h:wpQuiet P l.toArray (fun w'=> ∃x,w'=Ex w x) (fun a'=> ∀w',(∃x,w'=Ex w x)->Q .normal a' w') l a):(Code.region id l.toArray G).wp P Q a w:=
 wp_region_quiet (C:=fun w'=> ∃x,w'=Ex w x) hm hB ⟨⟨w.drew,I1 w⟩,O⟩ Ou
section
variable{P:Program}{ops:Array Oper}{rest:List Oper}{o:Oper}{a:Act}{w:World}{Q:Exit->Act->World->Prop}
theorem JT(hw:IQ o (yielded ops a.tmps)=G) {v:M} {w':H} (hr:(execOp a.eval o).run P w= .ok (.value v) w') (h:wpList P ops Q rest (a.put o.dst v) w'):wpList P ops Q (o::rest) a w:=by exact EkU
theorem Wr(hw:IQ o (yielded ops a.tmps)=G) {w':H} (hr:(execOp a.eval o).run P w= .ok .skip w') (h:wpList P ops Q rest (a.put o.dst undef) w'):wpList P ops Q (o::rest) a w:=by exact EkU
theorem Ei{o:EK}{ops:Array EK}(h:o.guard=Z):IQ o (yielded ops tmps)=G:=by unfold IQ;rw[h]
def ID(P:Program)(T:Ez)(n:Nat):Prop:=(∃d,P.underlying T=X d/\(match d with| .struct _| .array _ _=>true|_=>false)=G)/\(P.info? T).map (·.size)=X n
def fb(o:EK)(a:Act)(T:Ez)(g:Nat):Prop:=match o.op with| .load t x=>t=T/\a.eval x=V (X ⟨g,0,Z⟩)|_=>False
def nX(o:EK)(a:Act)(T:Ez)(g:Nat)(cs:Array M):Prop:=match o.op with| .store t x y=>t=T/\a.eval x=V (X ⟨g,0,Z⟩)/\a.eval y=EU cs|_=>False
theorem Ws{T:Ez}{n:Nat}(hT:ID P T n)(hw:IQ o (yielded ops a.tmps)=G)(hl:fb o a T g)(hg:Ea (w.heap[g]?=X (EI cs T (0,0))))(hn:cs.size=n) (h:wpList P ops Q rest (a.put o.dst (EU cs)) w):wpList P ops Q (o::rest) a w:=by
 obtain⟨⟨d,hu,hd⟩,hi⟩:=hT;unfold fb at hl;split at hl
 ·rename_i t x ho;obtain⟨rfl,hx⟩:=hl;refine JT hw ?_ h;unfold execOp;have hrun:(loadVar t ⟨g,0,Z⟩).run P w= .ok (EU cs) w:=by cases d<;>first|(cases hd;done)|exact run_loadVar_row w g t t cs (0,0) _ hg.out hu rfl bG
  simp only[ho,hx,Instr.loadAt,Instr.sureAddr,Sem.run_bind,Sem.run_pure,Result.andThen_ok,hrun]
 ·exact hl.elim
theorem zx{T:Ez}{n:Nat}{old:Array M}(hT:ID P T n)(hw:IQ o (yielded ops a.tmps)=G)(hl:nX o a T g cs)(hg:Ea (w.heap[g]?=X (EI old T (0,0))))(ho:old.size=n)(hn:cs.size=n) (h1:cs.all (·.oneCell')=G) (h:wpList P ops Q rest (a.put o.dst undef) (w.setRow g cs)):wpList P ops Q (o::rest) a w:=by
 obtain⟨-,hi⟩:=hT;unfold nX at hl;split at hl;·rename_i t x y hop;obtain⟨rfl,hx,hy⟩:=hl;refine Wr hw ?_ h;unfold execOp;simp only[hop,hx,hy,Instr.storeAt,Instr.sureAddr,Sem.run_bind,Sem.run_pure,Result.andThen_ok,run_storeVar_row _ g t t old cs hg.out bG (by rw[ho,hn]) h1]
 ·exact hl.elim
theorem zy{T:Ez}{n:Nat}(hT:ID P T n)(h:fn.results= #[.cell p T])(tmps:Array M)(w:H)(g:Nat)(cs:Array M) (hp:tmps.getD p undef=V (X ⟨g,0,Z⟩)) (hg:w.heap[g]?=X (EI cs T (0,0))) (hn:cs.size=n):(results fn tmps).run P w= .ok (EU cs) w:=by obtain⟨⟨d,hu,hd⟩,hi⟩:=hT;cases d<;>first|(cases hd;done)|exact results_cell_row h tmps w g T cs (0,0) _ hp hg hu rfl bG
end
section
variable{P:Program}{ops:Array Oper}{Q:Exit->Act->World->Prop}
def Jv(x:Nat->M)(i:Nat)(v:M):Nat->M:=fun j=>if j=i then v else x j
@[simp] theorem gu(x:Nat->M)(i:Nat)(v:M):Jv x i v i=v:=by simp[Jv]
theorem fc(x:Nat->M)(i j:Nat)(v:M)(h:j≠i):Jv x i v j=x j:=by simp[Jv,h]
def pL(ops:Array EK)(m:Nat):Bool:=
 (List.range ops.size).all fun i=>match ops[i]? with
  |none=>Y
  |some o=>o.after.all (fun e=>decide (e.on<i))&&(decide (i<m)||(List.range i).all fun j=>o.after.any fun e=>Region.binds .any e&&e.on==j)
theorem pM{m:Nat}(h:pL ops m=G){o:EK}(ho:ops[i]?=X o):(∀e∈o.after,e.on<i)/\(m<=i-> ∀j,j<i-> ∃e∈o.after,Region.binds .any e=G/\e.on=j):=by
 have hi:=(Ja.1 ho).1;have h1:=List.all_eq_true.1 h i (List.mem_range.2 hi);simp only[ho,Bool.and_eq_true,Bool.or_eq_true,decide_eq_true_eq] at h1;refine⟨fun e he=> ?_,fun hm j hj=> ?_⟩;·exact EkM
 ·rcases h1.2 with h2|h2;·omega
  ·have:=List.all_eq_true.1 h2 j (List.mem_range.2 hj);obtain⟨e,he,hb⟩:=Array.any_eq_true'.1 this;exact El7
@[irreducible] def bH(P:Program)(ops:Array EK)(Q:Exit->Act->H->Prop)(F:(Nat->M)->Act)(R:Nat->M->H->Prop)(i:Nat)(o:EK)(x:Nat->M)(w:H):Prop:=
 if IQ o (yielded ops (F x).tmps) then o.wp P (F x) w (fun a' w'=> ∃v,a'=(F x).put o.dst v/\Eh w w'/\R i v w') Q
 else R i undef w
theorem Hi{o:EK}(ho:ops[k]?=X o)(rest:List EK)(a:Act)(w:H)(h:wpList P ops Q (o::rest) a w):wpOp P ops Q k (wpList P ops Q rest) a w:=by unfold wpOp;simp only[ho];unfold wpList at h;exact h
theorem Hj{m:Nat}(hB:pL ops m=G): ∀(fuel k:Nat) (listed:Array Bool) (a:Act) (w:H),m<=k->k<=ops.size->ops.size-k<=fuel->listed.size=ops.size-> (∀j,j<ops.size->listed.getD j G=decide (j<k))->wpList P ops Q (ops.toList.drop k) a w->wpAny P .any ops Q fuel listed a w:=by
 intro fuel;induction fuel with
 |zero=> intro k listed a w hm hk hf hs hl h;have hkn:k=ops.size:=U;subst hkn;rw[List.drop_of_length_le Ek] at h;refine wpAny_done ?_ h 0;rw[List.eq_nil_iff_forall_not_mem];intro j hj;obtain⟨h1,o,ho,-⟩:=mem_ready.1 hj;have hjn:=(Ja.1 ho).1;rw[hl j hjn] at h1;simp at h1;omega
 |succ fuel ih=>
  intro k listed a w hm hk hf hs hl h;rcases Nat.lt_or_ge k ops.size with hlt|hge
  ·have ho:ops[k]?=X ops[k]:=Array.getElem?_eq_getElem hlt;have hd:ops.toList.drop k=ops[k]::ops.toList.drop (k+1):=by rw[List.drop_eq_getElem_cons zA];simp
   rw[hd] at h;have hmem:k∈Region.ready .any ops listed:=by refine mem_ready.2 ⟨zB,_,ho,fun e he _=> ?_⟩;have h1:=(pM hB ho).1 e he;exact Ekb
   refine⟨fun h0=>zC,fun i hi=> ?_⟩;obtain⟨h1,o,hoi,hall⟩:=mem_ready.1 hi;have hin:=(Ja.1 hoi).1;have hki:k<=i:=by exact EmJ
   have hik:i=k:=by
    rcases Nat.lt_or_ge k i with h2|h2;·obtain⟨e,he,hb,heq⟩:=(pM hB hoi).2 U k h2;have h3:=hall e he hb;rw[heq] at h3;have h4:=hl k hlt;have h5:k<listed.size:=U;simp[h5] at h3 h4;rw[h3] at h4;simp at h4
    ·omega
   subst hik;refine wpOp_mono (fun a' w' h'=>ih (i+1) (listed.setIfInBounds i G) a' w' U U U dE (fun j hj=> ?_) h') (Hi ho _ a w h);by_cases e:i=j;·subst e;exact Eka
   ·exact ElJ
  ·exact EmY
def Of(ops:Array EK)(listed:Array Bool):List Nat:=(List.range ops.size).filter fun i=> !listed.getD i G
theorem bK:i∈Of ops listed↔i<ops.size/\listed.getD i G=Y:=by unfold Of;rw[List.mem_filter,List.mem_range,Bool.not_eq_true']
theorem iT(hs:listed.size=ops.size)(hi:i<ops.size)(h:listed.getD i G=Y):(Of ops (listed.setIfInBounds i G)).length<(Of ops listed).length:=by
 have e:Of ops (listed.setIfInBounds i G)=(Of ops listed).filter fun j=>j !=i:=by
  unfold Of;rw[List.filter_filter];apply List.filter_congr;intro j hj;by_cases hij:i=j;·subst hij;exact Eka
  ·rw[getD_set_ne G hij];have:(j !=i)=G:=JJ;rw[this];simp
 rw[e,List.length_filter_lt_length_iff_exists];exact⟨i,bK.2 ⟨hi,h⟩,Ek⟩
theorem Wt{m:Nat}(hB:pL ops m=G)(hmn:m<=ops.size) (hF: ∀i o x v,i<m->ops[i]?=X o->(F x).put o.dst v=F (Jv x i v)) (hR: ∀i v w w',i<m->R i v w->Eh w w'->R i v w') (hstep: ∀i o x w,i<m->ops[i]?=X o->Eh W w->(∀e∈o.after,Region.binds .any e=G->R e.on (x e.on) w)->bH P ops Q F R i o x w) (hend: ∀x w,Eh W w->(∀i,i<m->R i (x i) w)->wpList P ops Q (ops.toList.drop m) (F x) w): ∀(fuel:Nat) (listed:Array Bool) (x:Nat->M) (w:H),(Of ops listed).length<=fuel->listed.size=ops.size->(∀j,m<=j->j<ops.size->listed.getD j G=Y)->Eh W w-> (∀i,i<m->listed.getD i G=G->R i (x i) w)->wpAny P .any ops Q fuel listed (F x) w:=by
 intro fuel;induction fuel with
 |zero=>
  intro listed x w hf hs ht hb hr
  have hall: ∀j,j<ops.size->listed.getD j G=G:=by
   intro j hj;cases hc:listed.getD j G;·exact EiH
   ·rfl
  have hm:m=ops.size:=by
   rcases Nat.lt_or_ge m ops.size with h|h;·exact Ekt
   ·omega
  refine Hj hB 0 m listed _ w (E5 _) hmn U hs (fun j hj=>by rw[hall j hj,Ia U]) (hend x w hb fun i hi=>hr i hi (hall i U))
 |succ fuel ih=>
  intro listed x w hf hs ht hb hr;by_cases hall: ∀j,j<m->listed.getD j G=G
  ·have hlen:ops.size-m<=fuel+1:=by
    have hsub:(List.range' m (ops.size-m)).length<=(Of ops listed).length:=by
     apply List.Nodup.length_le_of_subset;·exact List.nodup_range'
     ·exact Ei_
    simp at hsub;omega
   refine Hj hB (fuel+1) m listed _ w (E5 _) hmn hlen hs (fun j hj=> ?_) (hend x w hb fun i hi=>hr i hi (hall i hi));rcases Nat.lt_or_ge j m with h|h;·rw[hall j h,Ia h]
   ·rw[ht j h hj,E9 U]
  ·refine⟨fun h0=> ?_,fun i hi=> ?_⟩
   ·
     exfalso
     have hex: ∃j,j<m/\listed.getD j G=Y:=by
      apply Classical.byContradiction;intro hno
      exact hall fun j hj=>by
       cases hc:listed.getD j G;·exact Elj
       ·rfl
     have hmin: ∃j,(j<m/\listed.getD j G=Y)/\ ∀k,k<j-> ¬(k<m/\listed.getD k G=Y):=by
      obtain⟨j,hj⟩:=hex;induction j using Nat.strongRecOn with
      |ind j aR=>
       by_cases h: ∃k,k<j/\(k<m/\listed.getD k G=Y);·exact EjN
       ·exact Ejr
     obtain⟨j,⟨hjm,hj⟩,hlt⟩:=hmin;have hjn:j<ops.size:=U;have ho:ops[j]?=X ops[j]:=Array.getElem?_eq_getElem hjn
     have:j∈Region.ready .any ops listed:=by
      refine mem_ready.2 ⟨hj,_,ho,fun e he _=> ?_⟩;have h1:=(pM hB ho).1 e he;have h2:=hlt e.on h1;have h3:e.on<listed.size:=U;cases hc:listed.getD e.on G;·exact ElP
      ·simpa[h3] using hc
     rw[h0] at this;cases this
   ·obtain⟨h1,o,ho,aa⟩:=mem_ready.1 hi;have hin:=(Ja.1 ho).1;have him:i<m:=by apply Classical.byContradiction;intro hge;apply hall;intro j hj;obtain⟨e,he,hb',heq⟩:=(pM hB ho).2 U j U;have h3:=aa e he hb';rw[heq] at h3;have h5:j<listed.size:=U;simpa[h5] using h3
    have hdr: ∀e∈o.after,Region.binds .any e=G->R e.on (x e.on) w:=by intro e he hb';have h3:=aa e he hb';have h4:=(pM hB ho).1 e he;exact EkV
    have st:=hstep i o x w him ho hb hdr
    have next: ∀v w',Eh w w'->R i v w'->wpAny P .any ops Q fuel (listed.setIfInBounds i G) ((F x).put o.dst v) w':=by
     intro v w' hb' hv;rw[hF i o x v him ho];have hlt:=iT hs hin h1;refine ih _ _ w' U dE (fun j hj hjn=> ?_) (bt hb hb') (fun j hj hl=> ?_);·rw[getD_set_ne G U];exact ht j hj hjn
     ·by_cases hji:j=i;·subst hji;rw[gu];exact hv
      ·exact ElZ
    unfold wpOp;simp only[ho];unfold bH at st;split;·exact Ejf
    ·rename_i hw;rw[if_neg hw] at st;exact next undef w (E6 _ _) st
theorem Wu{a0:Act}(hm:P.follows .mixedOrders=G)(m:Nat)(hB:pL ops m=G)(hmn:m<=ops.size)(F:(Nat->M)->Act)(R:Nat->M->H->Prop)(x0:Nat->M)(iV:a0=F x0) (hF: ∀i o x v,i<m->ops[i]?=X o->(F x).put o.dst v=F (Jv x i v)) (hR: ∀i v w w',i<m->R i v w->Eh w w'->R i v w') (hstep: ∀i o x w,i<m->ops[i]?=X o->Eh w0 w->(∀e∈o.after,Region.binds .any e=G->R e.on (x e.on) w)->bH P ops Q F R i o x w) (hend: ∀x w,Eh w0 w->(∀i,i<m->R i (x i) w)->wpList P ops Q (ops.toList.drop m) (F x) w):(Code.region id ops G).wp P Q a0 w0:=by
 subst iV;refine wp_region_any hm (Wt hB hmn hF hR hstep hend _ _ x0 _ ?_ Ek (fun j hj hjn=>by simp[hjn]) (I1 w0) (fun i hi h=> ?_));·exact Ejt
 ·exact Emu
def EB:List EK->Nat->(Nat->M)->Act->Act
 |[],_,_,a=>a
 |o::l,i,x,a=>EB l (i+1) x (a.put o.dst (x i))
def OU(l:List EK):List Tmp:=l.filterMap (·.dst)
theorem Hk(d:Option Tmp)(v:M): ∀(l:List EK) (i:Nat) (x:Nat->M) (a:Act),(∀t,d=X t->t∉OU l)->(EB l i x a).put d v=EB l i x (a.put d v)
 |[],_,_,_,_=>rfl
 |o::l,i,x,a,h=>by unfold EB;rw[Hk d v l (i+1) x _ (fun t ht hm=>h t ht (by unfold OU at*;simp only[List.mem_filterMap] at*;obtain⟨o',h1,h2⟩:=hm;exact⟨o',List.mem_cons_of_mem _ h1,h2⟩))];rw[Act.put_comm a (x:=o.dst) (y:=d) (x i) v];intro t ht e;refine h t e ?_;unfold OU;exact List.mem_filterMap.2 ⟨o,List.mem_cons_self,ht⟩
theorem uz: ∀(l:List EK) (i:Nat) (x y:Nat->M) (a:Act),(∀j,i<=j->x j=y j)->EB l i x a=EB l i y a
 |[],_,_,_,_,_=>rfl
 |o::l,i,x,y,a,h=>by unfold EB;rw[h i (E5 _)];exact uz l (i+1) x y _ fun j hj=>h j U
theorem Wv(a:Act)(d:Option Tmp)(Y3 v:M):(a.put d Y3).put d v=a.put d v:=by
 cases d with
 |none=>rfl
 |some t=>simp[Ic]
theorem gw: ∀(l:List EK) (i k:Nat) (x:Nat->M) (a:Act) (o:EK) (v:M),(OU l).Nodup->l[k]?=X o->(EB l i x a).put o.dst v=EB l i (Jv x (i+k) v) a
 |[],_,_,_,_,_,_,_,h=>kJ
 |p::l,i,0,x,a,o,v,hn,h=>by simp at h;subst h;unfold EB;rw[show Jv x (i+0) v i=v from gu x i v,uz l (i+1) (Jv x (i+0) v) x _ (fun j hj=>fc _ _ _ _ U)];rw[Hk p.dst v l (i+1) x _ ?_,Wv];intro t ht hm;unfold OU at hn;rw[List.filterMap_cons,ht] at hn;exact(List.nodup_cons.1 hn).1 hm
 |p::l,i,k+1,x,a,o,v,hn,h=>by
  unfold EB
  have hn':(OU l).Nodup:=by
   unfold OU at*;rw[List.filterMap_cons] at hn;cases hp:p.dst with
   |none=>rw[hp] at hn;exact hn
   |some t=>rw[hp] at hn;exact(List.nodup_cons.1 hn).2
  rw[gw l (i+1) k x _ o v hn' Ou,fc _ _ _ _ (show i≠i+(k+1) from U),show i+1+k=i+(k+1) from U]
def held(l:List EK)(a:Act):Nat->M:=fun i=>match l[i]? with
 |some o=>(match o.dst with|some d=>a.tmps.getD d undef|none=>undef)
 |none=>undef
theorem fd(a:Act): ∀(l:List EK) (i:Nat) (x:Nat->M),(∀k o,l[k]?=X o-> ∀d,o.dst=X d->x (i+k)=a.tmps.getD d undef)->EB l i x a=a
 |[],_,_,_=>rfl
 |o::l,i,x,h=>by
  unfold EB
  have e:a.put o.dst (x i)=a:=by
   cases hd:o.dst with
   |none=>rfl
   |some d=>
    have:=h 0 o O d hd;rw[Nat.add_zero] at this;rw[this];simp only[Ic];congr 1;apply Array.ext;·simp
    ·intro j h1 h2;by_cases hj:d=j;·subst hj;simp[h2]
     ·rw[Array.getElem_setIfInBounds_ne h2 hj]
  rw[e];exact fd a l (i+1) x fun k o' ho d hd=>by have:=h (k+1) o' kO d hd;rw[<-this];congr 1;omega
def nZ(R:Nat->M->H->Prop)(o:EK)(x:Nat->M)(w:H):Prop:= ∀e∈o.after,Region.binds .any e=G->R e.on (x e.on) w
def iW(P:Program)(ops:Array EK)(Q:Exit->Act->H->Prop)(W:H)(F:(Nat->M)->Act)(R:Nat->M->H->Prop):Nat->List EK->Prop
 |_,[]=>True
 |i,o::l=>(∀x w,Eh W w->nZ R o x w->bH P ops Q F R i o x w)/\iW P ops Q W F R (i+1) l
theorem iW.at{W:H}{F:(Nat->M)->Act}{R:Nat->M->H->Prop}: ∀(l:List EK) (i:Nat),iW P ops Q W F R i l-> ∀k o,l[k]?=X o-> ∀x w,Eh W w->nZ R o x w->bH P ops Q F R (i+k) o x w
 |[],_,_,_,_,h=>kJ
 |p::l,i,hs,0,o,h=>by simp at h;subst h;exact hs.1
 |p::l,i,hs,k+1,o,h=>by have:=iW.at l (i+1) hs.2 k o Ou;rw[show i+(k+1)=i+1+k from U];exact this
theorem Hl{a0:Act}(hm:P.follows .mixedOrders=G)(m:Nat)(hB:pL l.toArray m=G)(hmn:m<=l.length)(hnd:(OU (l.take m)).Nodup)(R:Nat->M->H->Prop) (hR: ∀i v w w',i<m->R i v w->Eh w w'->R i v w') (hstep:iW P l.toArray Q w0 (fun x=>EB (l.take m) 0 x a0) R 0 (l.take m)) (hend: ∀x w,Eh w0 w->(∀i,i<m->R i (x i) w)->wpList P l.toArray Q (l.drop m) (EB (l.take m) 0 x a0) w):(Code.region id l.toArray G).wp P Q a0 w0:=by
 have htk: ∀i o,i<m->l.toArray[i]?=X o->(l.take m)[i]?=X o:=fun i o hi ho=>by exact Ej_
 refine Wu hm m hB pN (fun x=>EB (l.take m) 0 x a0) R (held (l.take m) a0) (fd a0 _ 0 _ ?_).symm (fun i o x v hi ho=> ?_) hR (fun i o x w hi ho hb hd=> ?_) hend;·exact EkY
 ·exact Ei0
 ·have:=iW.at _ 0 hstep i o (htk i o hi ho) x w hb hd;exact Ejy
theorem zD{o:EK}{v:M}(hw:IQ o (yielded ops (F x).tmps)=G) (hr:(execOp (F x).eval o).run P w= .ok (.value v) w) (h:R i v w):bH P ops Q F R i o x w:=by unfold bH;rw[if_pos hw];unfold Oper.wp;rw[hr];exact⟨v,O,E6 _ _,h⟩
theorem Hm{o:EK}{v:M}(hw:IQ o (yielded ops (F x).tmps)=G) (hr:(execOp (F x).eval o).run P w= .ok (.value v) w') (hb:Eh w w') (h:R i v w'):bH P ops Q F R i o x w:=by unfold bH;exact ElX
theorem nf{o:EK}(hw:IQ o (yielded ops (F x).tmps)=G) (hr:(execOp (F x).eval o).run P w= .ok (.enter f args) w) (hc:Ef P f args w fun e w'=> ∃v,e=Eg v/\Eh w w'/\R i v w'):bH P ops Q F R i o x w:=by unfold bH;exact Eki
theorem Hn{o:EK}{T:Ez}{n:Nat}(hT:ID P T n)(hw:IQ o (yielded ops (F x).tmps)=G) (hl:fb o (F x) T g) (hg:w.heap[g]?=X (EI cs T (0,0))) (hn:cs.size=n) (h:R i (EU cs) w):bH P ops Q F R i o x w:=by
 obtain⟨⟨d,hu,hd⟩,hi⟩:=hT;unfold fb at hl;split at hl
 ·rename_i t y ho;obtain⟨rfl,hx⟩:=hl;refine zD hw ?_ h;have hrun:(loadVar t ⟨g,0,Z⟩).run P w= .ok (EU cs) w:=by cases d<;>first|(cases hd;done)|exact run_loadVar_row w g t t cs (0,0) _ hg hu rfl bG
  unfold execOp;exact Eiv
 ·exact hl.elim
end
section
variable{P:Program}{ops:Array Oper}{Q:Exit->Act->World->Prop}{C:World->Prop}
def ng(l:List EK)(ops:Array EK):Bool:=
 l.all fun o=>(List.range l.length).all fun j=>match l[j]? with
  |none=>G
  |some p=>(o.after.any fun e=>Region.binds .any e&&e.on==j)||(match p.dst with|some d=> !(o.looksAt ops).contains d|none=>true)
theorem Ww(h:ng l ops=G){o p:EK}(ho:o∈l)(hp:l[j]?=X p): (∃e∈o.after,Region.binds .any e=G/\e.on=j)\/(∀d,p.dst=X d->d∉o.looksAt ops):=by
 have h1:=List.all_eq_true.1 h o ho;have hj:=(List.getElem?_eq_some_iff.1 hp).1;have h2:=List.all_eq_true.1 h1 j (List.mem_range.2 hj);simp only[hp,Bool.or_eq_true] at h2;rcases h2 with h2|h2;·left;obtain⟨e,he,hb⟩:=Array.any_eq_true'.1 h2;exact El7
 ·right;intro d hd;rw[hd] at h2;simpa using h2
def mix(x y:Nat->M)(k:Nat):Nat->M:=fun j=>if j<k then y j else x j
theorem Wx(x y:Nat->M):mix x y 0=x:=by funext j;simp[mix]
theorem Ho(x y:Nat->M)(k:Nat):mix x y (k+1)=Jv (mix x y k) k (y k):=by
 funext j;unfold mix Jv;by_cases h:j=k;·subst h;simp
 ·rw[if_neg h];by_cases h2:j<k;·simp[h2,show j<k+1 from U]
  ·simp[h2,show¬j<k+1 from U]
theorem Wy(hnd:(OU l).Nodup)(hap:ng l ops=G)(hsel:Region.noSelect l.toArray=G){o:EK}(ho:o∈l)(x y:Nat->M)(a:Act) (hd: ∀e∈o.after,Region.binds .any e=G->x e.on=y e.on): ∀k,k<=l.length-> execOp (EB l 0 (mix x y k) a).eval o=execOp (EB l 0 x a).eval o/\IQ o (yielded ops (EB l 0 (mix x y k) a).tmps)=IQ o (yielded ops (EB l 0 x a).tmps):=by
 intro k;induction k with
 |zero=>intro _;rw[Wx];exact⟨O,O⟩
 |succ k ih=>
  intro hk;have ih:=ih U;have hp:l[k]?=X l[k]:=List.getElem?_eq_getElem U;rcases Ww hap ho hp with⟨e,he,hb,heq⟩|h
  ·have e1:mix x y (k+1)=mix x y k:=by
    rw[Ho];funext j;unfold Jv;split;·rename_i h;subst h;have:=hd e he hb;rw[heq] at this;simp[mix,this]
    ·rfl
   rw[e1];exact ih
  ·have e1:EB l 0 (mix x y (k+1)) a=(EB l 0 (mix x y k) a).put l[k].dst (y k):=by rw[Ho,gw l 0 k _ a l[k] (y k) hnd hp,Nat.zero_add]
   have hs: ∀cs b,o.op≠ .select cs b:=by obtain⟨i,hi⟩:=List.mem_iff_getElem?.1 ho;exact fun cs b=>Region.noSelect_spec hsel i o cs b Om
   rw[e1,execOp_put o hs _ _ _ h,wanted_put o _ _ _ h];exact ih
theorem nj: ∀(l:List EK) (i:Nat) (x y:Nat->M) (a:Act),(∀j,i<=j->j<i+l.length->x j=y j)->EB l i x a=EB l i y a
 |[],_,_,_,_,_=>rfl
 |o::l,i,x,y,a,h=>by unfold EB;rw[h i (E5 _) Ek];exact nj l (i+1) x y _ fun j hj hl=>h j U JJ
theorem zG: ∀(l1 l2:List EK) (i:Nat) (x:Nat->M) (a:Act),EB (l1++l2) i x a=EB l2 (i+l1.length) x (EB l1 i x a)
 |[],_,_,_,_=>rfl
 |o::l1,l2,i,x,a=>by rw[List.cons_append];unfold EB;rw[zG l1 l2 (i+1) x _,show i+(o::l1).length=i+1+l1.length from JJ];cases l2<;>rfl
theorem zH: ∀(l:List EK) (i:Nat) (x:Nat->M) (a:Act) (d:Tmp),d∉OU l->(EB l i x a).tmps.getD d undef=a.tmps.getD d undef
 |[],_,_,_,_,_=>rfl
 |o::l,i,x,a,d,h=>by
  unfold EB;have h2:d∉OU l:=fun hm=>h (by unfold OU at*;simp only[List.mem_filterMap] at*;obtain⟨o',h1,h2⟩:=hm;exact⟨o',List.mem_cons_of_mem _ h1,h2⟩);rw[zH l (i+1) x _ d h2];cases ho:o.dst with
  |none=>rfl
  |some t=> have hne:t≠d:=fun e=>h (by subst e;unfold OU;exact List.mem_filterMap.2 ⟨o,List.mem_cons_self,ho⟩);simp only[Ic,Array.getD_eq_getD_getElem?];rw[Array.getElem?_setIfInBounds_ne hne]
theorem Hp(hn:(OU l).Nodup){p:EK}{d:Tmp}(hp:l[k+j]?=X p)(hd:p.dst=X d):d∉OU (l.take k):=by
 have hs:l=l.take k++l.drop k:=(List.take_append_drop k l).symm
 have hds:OU l=OU (l.take k)++OU (l.drop k):=by
  conv=>lhs;rw[hs]
  unfold OU;rw[List.filterMap_append]
 rw[hds,List.nodup_append] at hn;intro hm;have hm2:d∈OU (l.drop k):=by unfold OU;refine List.mem_filterMap.2 ⟨p,List.mem_iff_getElem?.2 ⟨j,?_⟩,hd⟩;rw[List.getElem?_drop];exact hp
 exact hn.2.2 d hm d hm2 O
theorem uA{n:Nat}(h:j<(Array.replicate n Y).size):(Array.replicate n Y).getD j G=Y:=by have:j<n:=Ou;simp[this]
theorem Hq(hnd:(OU l).Nodup)(hap:ng l ops=G)(hsel:Region.noSelect l.toArray=G){o:EK}(ho:o∈l)(x y:Nat->M)(a:Act) (hd: ∀e∈o.after,Region.binds .any e=G->x e.on=y e.on): execOp (EB l 0 y a).eval o=execOp (EB l 0 x a).eval o/\IQ o (yielded ops (EB l 0 y a).tmps)=IQ o (yielded ops (EB l 0 x a).tmps):=by
 have h:=Wy hnd hap hsel ho x y a hd l.length (E5 _);have e:EB l 0 (mix x y l.length) a=EB l 0 y a:=nj l 0 _ _ a fun j _ hj=>by simp[mix,show j<l.length from U]
 rw[e] at h;exact h
theorem zK{K:Act->Prop}: ∀(l:List EK) (i:Nat) (a:Act),wpQuiet P ops C K l a-> ∃y:Nat->M,(∀k o,l[k]?=X o->YieldsIn P ops C o (y (i+k)) (EB (l.take k) i y a))/\K (EB l i y a)
 |[],_,_,h=>⟨fun _=>undef,fun k o ho=>by simp at ho,h⟩
 |o::l,i,a,h=>by
  have hv: ∃v,YieldsIn P ops C o v a/\wpQuiet P ops C K l (a.put o.dst v):=by
   unfold wpQuiet at h;by_cases hw:IQ o (yielded ops a.tmps)=G;·rw[if_pos hw] at h;obtain⟨v,h1,h2⟩:=h;exact⟨v,.inl ⟨hw,h1⟩,h2⟩
   ·rw[if_neg hw] at h;exact⟨undef,.inr ⟨by simpa using hw,O⟩,h⟩
  obtain⟨v,hy,hK⟩:=hv;obtain⟨y,h1,h2⟩:=zK l (i+1) _ hK;have e: ∀j,i+1<=j->Jv y i v j=y j:=fun j hj=>fc _ _ _ _ U;refine⟨Jv y i v,fun k p hp=> ?_,?_⟩
  ·cases k with
   |zero=> simp at hp;subst hp;rw[Nat.add_zero,gu];exact hy
   |succ k=> have:=h1 k p gy;rw[show i+(k+1)=i+1+k from U,e _ U];rw[Il];unfold EB;rw[gu,uz _ (i+1) (Jv y i v) y _ e];exact this
  ·unfold EB;rw[gu,uz _ (i+1) (Jv y i v) y _ e];exact h2
def gA(ops:Array EK)(m:Nat):Bool:=
 (List.range ops.size).all fun i=>match ops[i]? with
  |none=>Y
  |some o=>o.after.all (fun e=>decide (e.on<i))&&(decide (i<m)||(List.range i).all fun j=>(List.range (i+1)).any fun k=>decide (j<k)&&match ops[k]? with
   |some p=>p.after.any fun e=>Region.binds .any e&&e.on==j
   |none=>Y)
theorem kU{m:Nat}(h:gA ops m=G){o:EK}(ho:ops[i]?=X o):(∀e∈o.after,e.on<i)/\(m<=i-> ∀j,j<i-> ∃k p,j<k/\k<=i/\ops[k]?=X p/\ ∃e∈p.after,Region.binds .any e=G/\e.on=j):=by
 have hi:=(Ja.1 ho).1;have h1:=List.all_eq_true.1 h i (List.mem_range.2 hi);simp only[ho,Bool.and_eq_true,Bool.or_eq_true,decide_eq_true_eq] at h1;refine⟨fun e he=> ?_,fun hm j hj=> ?_⟩;·exact EkM
 ·rcases h1.2 with h2|h2;·omega
  ·have h3:=List.all_eq_true.1 h2 j (List.mem_range.2 hj);obtain⟨k,hk,hk2⟩:=List.any_eq_true.1 h3;have hk1:=List.mem_range.1 hk;simp only[Bool.and_eq_true,decide_eq_true_eq] at hk2;obtain⟨hjk,hk3⟩:=hk2;cases hp:ops[k]? with
   |none=>rw[hp] at hk3;cases hk3
   |some p=> rw[hp] at hk3;obtain⟨e,he,hb⟩:=Array.any_eq_true'.1 hk3;simp only[Bool.and_eq_true,beq_iff_eq] at hb;exact⟨k,p,hjk,U,hp,e,he,hb.1,hb.2⟩
def ZF(ops:Array EK)(listed:Array Bool):Prop:= ∀j o,ops[j]?=X o->listed.getD j G=G-> ∀e∈o.after,Region.binds .any e=G->listed.getD e.on G=G
theorem zL{m:Nat}(hB:gA ops m=G)(hs:listed.size=ops.size)(hc:ZF ops listed)(hi:i∈Region.ready .any ops listed)(hm:m<=i): ∀j,j<i->listed.getD j G=G:=by
 obtain⟨h1,o,ho,hall⟩:=mem_ready.1 hi;have hin:=(Ja.1 ho).1
 have key: ∀d j,i-j=d->j<i->listed.getD j G=G:=by
  intro d;induction d using Nat.strongRecOn with
  |ind d ih=>
   intro j hd hj;obtain⟨k,p,hjk,hki,hp,e,he,hb,heq⟩:=(kU hB ho).2 hm j hj;by_cases h:k=i;·subst h;have:p=o:=Option.some.inj (hp.symm.trans ho);subst this;have h3:=hall e he hb;rw[heq] at h3;have h5:j<listed.size:=U;simpa[h5] using h3
   ·exact Ems
 exact fun j hj=>key _ j O hj
theorem ZF.set(hs:listed.size=ops.size)(hc:ZF ops listed)(hi:i∈Region.ready .any ops listed):ZF ops (listed.setIfInBounds i G):=by
 obtain⟨h1,o,ho,hall⟩:=mem_ready.1 hi;have hin:=(Ja.1 ho).1
 have up: ∀j,listed.getD j G=G->(listed.setIfInBounds i G).getD j G=G:=by
  intro j hj;by_cases e:i=j;·subst e;exact Eka
  ·rw[getD_set_ne G e];exact hj
 intro j p hp hl e he hb;by_cases hji:i=j
 ·subst hji;have:p=o:=Option.some.inj (hp.symm.trans ho);subst this;have h3:=hall e he hb;refine up _ ?_;rcases Nat.lt_or_ge e.on listed.size with h|h;·simpa[h] using h3
  ·simp[h]
 ·rw[getD_set_ne G hji] at hl;exact up _ (hc j p hp hl e he hb)
theorem uB{m:Nat}(hB:gA ops m=G): ∀(fuel k:Nat) (listed:Array Bool) (a:Act) (w:H),m<=k->k<=ops.size->ops.size-k<=fuel->listed.size=ops.size-> (∀j,j<ops.size->listed.getD j G=decide (j<k))->ZF ops listed->wpList P ops Q (ops.toList.drop k) a w->wpAny P .any ops Q fuel listed a w:=by
 intro fuel;induction fuel with
 |zero=> intro k listed a w hm hk hf hs hl hc h;have hkn:k=ops.size:=U;subst hkn;rw[List.drop_of_length_le Ek] at h;refine wpAny_done ?_ h 0;rw[List.eq_nil_iff_forall_not_mem];intro j hj;obtain⟨h1,o,ho,-⟩:=mem_ready.1 hj;have hjn:=(Ja.1 ho).1;rw[hl j hjn] at h1;simp at h1;omega
 |succ fuel ih=>
  intro k listed a w hm hk hf hs hl hc h;rcases Nat.lt_or_ge k ops.size with hlt|hge
  ·have ho:ops[k]?=X ops[k]:=Array.getElem?_eq_getElem hlt;have hd:ops.toList.drop k=ops[k]::ops.toList.drop (k+1):=by rw[List.drop_eq_getElem_cons zA];simp
   rw[hd] at h;have hmem:k∈Region.ready .any ops listed:=by refine mem_ready.2 ⟨zB,_,ho,fun e he _=> ?_⟩;have h1:=(kU hB ho).1 e he;exact Ekb
   refine⟨fun h0=>zC,fun i hi=> ?_⟩;obtain⟨h1,o,hoi,hall⟩:=mem_ready.1 hi;have hin:=(Ja.1 hoi).1;have hki:k<=i:=by exact EmJ
   have hik:i=k:=by
    rcases Nat.lt_or_ge k i with h2|h2;·have h3:=zL hB hs hc hi U k h2;rw[hl k hlt] at h3;simp at h3
    ·omega
   subst hik;refine wpOp_mono (fun a' w' h'=>ih (i+1) (listed.setIfInBounds i G) a' w' U U U dE (fun j hj=> ?_) (hc.set hs hi) h') (Hi ho _ a w h);by_cases e:i=j;·subst e;exact Eka
   ·exact ElJ
  ·exact EmY
theorem Wz{m:Nat}(hB:gA ops m=G)(hmn:m<=ops.size){y:Nat->M} (hF: ∀i o x v,i<m->ops[i]?=X o->(F x).put o.dst v=F (Jv x i v)) (hstep: ∀i o x,i<m->ops[i]?=X o->(∀e∈o.after,Region.binds .any e=G->x e.on=y e.on)->YieldsIn P ops C o (y i) (F x)) (hend: ∀x w,C w->(∀i,i<m->x i=y i)->wpList P ops Q (ops.toList.drop m) (F x) w): ∀(fuel:Nat) (listed:Array Bool) (x:Nat->M) (w:H),(Of ops listed).length<=fuel->listed.size=ops.size->(∀j,m<=j->j<ops.size->listed.getD j G=Y)->ZF ops listed->C w-> (∀i,i<m->listed.getD i G=G->x i=y i)->wpAny P .any ops Q fuel listed (F x) w:=by
 intro fuel;induction fuel with
 |zero=>
  intro listed x w hf hs ht hc hb hr
  have hall: ∀j,j<ops.size->listed.getD j G=G:=by
   intro j hj;cases hc:listed.getD j G;·exact EiH
   ·rfl
  have hm:m=ops.size:=by
   rcases Nat.lt_or_ge m ops.size with h|h;·exact Ekt
   ·omega
  refine uB hB 0 m listed _ w (E5 _) hmn U hs (fun j hj=>by rw[hall j hj,Ia U]) hc (hend x w hb fun i hi=>hr i hi (hall i U))
 |succ fuel ih=>
  intro listed x w hf hs ht hc hb hr;by_cases hall: ∀j,j<m->listed.getD j G=G
  ·have hlen:ops.size-m<=fuel+1:=by
    have hsub:(List.range' m (ops.size-m)).length<=(Of ops listed).length:=by
     apply List.Nodup.length_le_of_subset;·exact List.nodup_range'
     ·exact Ei_
    simp at hsub;omega
   refine uB hB (fuel+1) m listed _ w (E5 _) hmn hlen hs (fun j hj=> ?_) hc (hend x w hb fun i hi=>hr i hi (hall i hi));rcases Nat.lt_or_ge j m with h|h;·rw[hall j h,Ia h]
   ·rw[ht j h hj,E9 U]
  ·refine⟨fun h0=> ?_,fun i hi=> ?_⟩
   ·exfalso
    have hex: ∃j,j<m/\listed.getD j G=Y:=by
     apply Classical.byContradiction;intro hno
     exact hall fun j hj=>by
      cases hc:listed.getD j G;·exact Elj
      ·rfl
    have hmin: ∃j,(j<m/\listed.getD j G=Y)/\ ∀k,k<j-> ¬(k<m/\listed.getD k G=Y):=by
     obtain⟨j,hj⟩:=hex;induction j using Nat.strongRecOn with
     |ind j aR=>
      by_cases h: ∃k,k<j/\(k<m/\listed.getD k G=Y);·exact EjN
      ·exact Ejr
    obtain⟨j,⟨hjm,hj⟩,hlt⟩:=hmin;have hjn:j<ops.size:=U;have ho:ops[j]?=X ops[j]:=Array.getElem?_eq_getElem hjn
    have:j∈Region.ready .any ops listed:=by
     refine mem_ready.2 ⟨hj,_,ho,fun e he _=> ?_⟩;have h1:=(kU hB ho).1 e he;have h2:=hlt e.on h1;have h3:e.on<listed.size:=U;cases hc:listed.getD e.on G;·exact ElP
     ·simpa[h3] using hc
    rw[h0] at this;cases this
   ·obtain⟨h1,o,ho,aa⟩:=mem_ready.1 hi;have hin:=(Ja.1 ho).1;have him:i<m:=by apply Classical.byContradiction;intro hge;apply hall;intro j hj;exact zL hB hs hc hi U j U
    have hdr: ∀e∈o.after,Region.binds .any e=G->x e.on=y e.on:=by exact Em7
    have st:=hstep i o x him ho hdr;refine wpOp_of_qOp (C:=C) (K:=fun a'=>a'=F (Jv x i (y i))) hb (fun a' w' hw' ha'=> ?_) (st.qOp ho ?_)
    ·subst ha';have hlt:=iT hs hin h1;refine ih _ _ w' U dE (fun j hj hjn=> ?_) (hc.set hs hi) hw' (fun j hj hl=> ?_);·rw[getD_set_ne G U];exact ht j hj hjn
     ·by_cases hji:j=i;·subst hji;rw[gu]
      ·exact ElD
    ·exact hF i o x (y i) him ho
theorem Hr{a0:Act}(m:Nat)(hm:P.follows .mixedOrders=G)(hB:gA l.toArray m=G)(hmn:m<=l.length)(hsel:Region.noSelect (l.take m).toArray=G)(hnd:(OU (l.take m)).Nodup)(hap:ng (l.take m) l.toArray=G) (hC:C w0.drew) (h:wpQuiet P l.toArray C (fun a'=> ∀w',C w'->wpList P l.toArray Q (l.drop m) a' w') (l.take m) a0):(Code.region id l.toArray G).wp P Q a0 w0:=by
 obtain⟨y,hy,hK⟩:=zK (l.take m) 0 a0 h;have htk: ∀i o,i<m->l.toArray[i]?=X o->(l.take m)[i]?=X o:=fun i o hi ho=>by exact Ej_
 have hlen:(l.take m).length=m:=iQ;have kX:EB (l.take m) 0 (held (l.take m) a0) a0=a0:=fd a0 _ 0 _ (fun k o ho d hd=>by unfold held;rw[Nat.zero_add,ho];simp only[hd]);refine wp_region_any hm ?_;have key:=Wz (P:=P) (Q:=Q) (C:=C) (ops:=l.toArray) (F:=fun x=>EB (l.take m) 0 x a0) (y:=y) hB pN ?_ ?_ ?_ l.toArray.size (Array.replicate l.toArray.size Y) (held (l.take m) a0) w0.drew ?_ Ek (fun j hj hjn=>uA (by simpa using hjn)) ?_ hC (fun i hi h=> ?_);·simp only[kX] at key;exact key
 ·intro i o x v hi ho;exact Ei0
 ·intro i o x hi ho hd;have hi':=htk i o hi ho;have h1:=hy i o hi';rw[Nat.zero_add] at h1
  have e1:EB ((l.take m).take i) 0 y a0=EB (l.take m) 0 (mix (held (l.take m) a0) y i) a0:=by
   have e2:EB (l.take m) 0 (mix (held (l.take m) a0) y i) a0=EB ((l.take m).drop i) i (mix (held (l.take m) a0) y i) (EB ((l.take m).take i) 0 (mix (held (l.take m) a0) y i) a0):=by exact Ej8
   have e3:EB ((l.take m).take i) 0 (mix (held (l.take m) a0) y i) a0=EB ((l.take m).take i) 0 y a0:=nj _ 0 _ _ _ fun j _ hj=>by have:j<i:=uC;simp[mix,this]
   rw[e2,e3];refine(fd _ _ _ _ fun k p hp d hd=> ?_).symm;have hk:(l.take m)[i+k]?=X p:=gy;have hkm:i+k<m:=Hs;show mix (held (l.take m) a0) y i (i+k)=_;have e5:mix (held (l.take m) a0) y i (i+k)=a0.tmps.getD d undef:=by simp only[mix,show¬i+k<i from U,if_false,held,hk,hd]
   rw[e5];exact El5
  rw[e1] at h1;have deps: ∀e∈o.after,Region.binds .any e=G->x e.on=mix (held (l.take m) a0) y i e.on:=by intro e he hb;have:=(kU hB ho).1 e he;rw[hd e he hb];simp[mix,this]
  obtain⟨s1,s2⟩:=Hq (ops:=l.toArray) hnd hap hsel (List.mem_iff_getElem?.2 ⟨i,hi'⟩) (mix (held (l.take m) a0) y i) x a0 (fun e he hb=>(deps e he hb).symm);exact h1.of_same s1 s2
 ·exact Eko
 ·exact Ejh
 ·intro j o ho hl;have hj:=(Ja.1 ho).1;rw[uA uD] at hl;cases hl
 ·have:i<l.length:=U;simp[this] at h
theorem Xd{o:EK}{ops:Array EK}(h:o.guard=X (j,want))(hd:(ops[j]?).bind (·.dst)=X d)(hv:tmps[d]?=X (Eb want)):IQ o (yielded ops tmps)=G:=by unfold IQ yielded;simp[h,hd,hv]
def uF(l:List EK)(m:Nat):Bool:=gA l.toArray m&&decide (m<=l.length)&&Region.noSelect (l.take m).toArray&&decide (OU (l.take m)).Nodup&&ng (l.take m) l.toArray
theorem pP{a0:Act}(m:Nat)(hm:P.follows .mixedOrders=G)(hB:uF l m=G) (h:wpQuiet P l.toArray (fun w'=> ∃n,w'=w0.drewN n) (fun a'=> ∀w',(∃n,w'=w0.drewN n)->wpList P l.toArray Q (l.drop m) a' w') (l.take m) a0):(Code.region id l.toArray G).wp P Q a0 w0:=by simp only[uF,Bool.and_eq_true,decide_eq_true_eq] at hB;obtain⟨⟨⟨⟨h1,h2⟩,h3⟩,h4⟩,h5⟩:=hB;exact Hr m hm h1 h2 h3 h4 h5 ⟨1,O⟩ h
theorem JB{a0:Act}(m:Nat)(hm:P.follows .mixedOrders=G)(hB:uF l m=G) (h:wpQuiet P l.toArray (fun w'=> ∃x,w'=Ex w0 x) (fun a'=> ∀w',(∃x,w'=Ex w0 x)->wpList P l.toArray Q (l.drop m) a' w') (l.take m) a0):(Code.region id l.toArray G).wp P Q a0 w0:=by simp only[uF,Bool.and_eq_true,decide_eq_true_eq] at hB;obtain⟨⟨⟨⟨h1,h2⟩,h3⟩,h4⟩,h5⟩:=hB;exact Hr m hm h1 h2 h3 h4 h5 ⟨⟨_,I1 w0⟩,O⟩ h
end
def Kept(Rel:H->H->Prop):Prop:=(∀w,Rel w w)/\(∀a b c,Rel a b->Rel b c->Rel a c)/\ ∀w:H,Rel w w.drew
section
variable{P:Program}{ops:Array Oper}{Q:Exit->Act->World->Prop}
@[irreducible] def aS(Rel:H->H->Prop)(P:Program)(ops:Array EK)(Q:Exit->Act->H->Prop)(F:(Nat->M)->Act)(R:Nat->M->H->Prop)(i:Nat)(o:EK)(x:Nat->M)(w:H):Prop:=
 if IQ o (yielded ops (F x).tmps) then o.wp P (F x) w (fun a' w'=> ∃v,a'=(F x).put o.dst v/\Rel w w'/\R i v w') Q
 else R i undef w
theorem WA(hT:Kept Rel){m:Nat}(hB:gA ops m=G)(hmn:m<=ops.size) (hF: ∀i o x v,i<m->ops[i]?=X o->(F x).put o.dst v=F (Jv x i v)) (hR: ∀i v w w',i<m->R i v w->Rel w w'->R i v w') (hstep: ∀i o x w,i<m->ops[i]?=X o->Rel W w->(∀e∈o.after,Region.binds .any e=G->R e.on (x e.on) w)->aS Rel P ops Q F R i o x w) (hend: ∀x w,Rel W w->(∀i,i<m->R i (x i) w)->wpList P ops Q (ops.toList.drop m) (F x) w): ∀(fuel:Nat) (listed:Array Bool) (x:Nat->M) (w:H),(Of ops listed).length<=fuel->listed.size=ops.size->ZF ops listed->(∀j,m<=j->j<ops.size->listed.getD j G=Y)->Rel W w-> (∀i,i<m->listed.getD i G=G->R i (x i) w)->wpAny P .any ops Q fuel listed (F x) w:=by
 intro fuel;induction fuel with
 |zero=>
  intro listed x w hf hs hcl ht hb hr
  have hall: ∀j,j<ops.size->listed.getD j G=G:=by
   intro j hj;cases hc:listed.getD j G;·exact EiH
   ·rfl
  have hm:m=ops.size:=by
   rcases Nat.lt_or_ge m ops.size with h|h;·exact Ekt
   ·omega
  refine uB hB 0 m listed _ w (E5 _) hmn U hs (fun j hj=>by rw[hall j hj,Ia U]) hcl (hend x w hb fun i hi=>hr i hi (hall i U))
 |succ fuel ih=>
  intro listed x w hf hs hcl ht hb hr;by_cases hall: ∀j,j<m->listed.getD j G=G
  ·have hlen:ops.size-m<=fuel+1:=by
    have hsub:(List.range' m (ops.size-m)).length<=(Of ops listed).length:=by
     apply List.Nodup.length_le_of_subset;·exact List.nodup_range'
     ·exact Ei_
    simp at hsub;omega
   refine uB hB (fuel+1) m listed _ w (E5 _) hmn hlen hs (fun j hj=> ?_) hcl (hend x w hb fun i hi=>hr i hi (hall i hi));rcases Nat.lt_or_ge j m with h|h;·rw[hall j h,Ia h]
   ·rw[ht j h hj,E9 U]
  ·refine⟨fun h0=> ?_,fun i hi=> ?_⟩
   ·
     exfalso
     have hex: ∃j,j<m/\listed.getD j G=Y:=by
      apply Classical.byContradiction;intro hno
      exact hall fun j hj=>by
       cases hc:listed.getD j G;·exact Elj
       ·rfl
     have hmin: ∃j,(j<m/\listed.getD j G=Y)/\ ∀k,k<j-> ¬(k<m/\listed.getD k G=Y):=by
      obtain⟨j,hj⟩:=hex;induction j using Nat.strongRecOn with
      |ind j aR=>
       by_cases h: ∃k,k<j/\(k<m/\listed.getD k G=Y);·exact EjN
       ·exact Ejr
     obtain⟨j,⟨hjm,hj⟩,hlt⟩:=hmin;have hjn:j<ops.size:=U;have ho:ops[j]?=X ops[j]:=Array.getElem?_eq_getElem hjn
     have:j∈Region.ready .any ops listed:=by
      refine mem_ready.2 ⟨hj,_,ho,fun e he _=> ?_⟩;have h1:=(kU hB ho).1 e he;have h2:=hlt e.on h1;have h3:e.on<listed.size:=U;cases hc:listed.getD e.on G;·exact ElP
      ·simpa[h3] using hc
     rw[h0] at this;cases this
   ·obtain⟨h1,o,ho,aa⟩:=mem_ready.1 hi;have hin:=(Ja.1 ho).1;have him:i<m:=by apply Classical.byContradiction;intro hge;apply hall;intro j hj;exact zL hB hs hcl hi U j U
    have hdr: ∀e∈o.after,Region.binds .any e=G->R e.on (x e.on) w:=by exact Em7
    have st:=hstep i o x w him ho hb hdr
    have next: ∀v w',Rel w w'->R i v w'->wpAny P .any ops Q fuel (listed.setIfInBounds i G) ((F x).put o.dst v) w':=by
     intro v w' hb' hv;rw[hF i o x v him ho];have hlt:=iT hs hin h1;refine ih _ _ w' U dE (hcl.set hs hi) (fun j hj hjn=> ?_) (hT.2.1 _ _ _ hb hb') (fun j hj hl=> ?_);·rw[getD_set_ne G U];exact ht j hj hjn
     ·by_cases hji:j=i;·subst hji;rw[gu];exact hv
      ·exact ElZ
    unfold wpOp;simp only[ho];unfold aS at st;split;·exact Ejf
    ·exact Emj
theorem WB(hT:Kept Rel){a0:Act}(hm:P.follows .mixedOrders=G)(m:Nat)(hB:gA ops m=G)(hmn:m<=ops.size)(F:(Nat->M)->Act)(R:Nat->M->H->Prop)(x0:Nat->M)(iV:a0=F x0) (hF: ∀i o x v,i<m->ops[i]?=X o->(F x).put o.dst v=F (Jv x i v)) (hR: ∀i v w w',i<m->R i v w->Rel w w'->R i v w') (hstep: ∀i o x w,i<m->ops[i]?=X o->Rel w0 w->(∀e∈o.after,Region.binds .any e=G->R e.on (x e.on) w)->aS Rel P ops Q F R i o x w) (hend: ∀x w,Rel w0 w->(∀i,i<m->R i (x i) w)->wpList P ops Q (ops.toList.drop m) (F x) w):(Code.region id ops G).wp P Q a0 w0:=by
 subst iV;refine wp_region_any hm (WA hT hB hmn hF hR hstep hend _ _ x0 _ ?_ Ek (fun j o _ h=>Ht) (fun j hj hjn=>by simp[hjn]) (hT.2.2 w0) (fun i hi h=> ?_));·exact Ejt
 ·exact Emu
def U6(Rel:H->H->Prop)(P:Program)(ops:Array EK)(Q:Exit->Act->H->Prop)(W:H)(F:(Nat->M)->Act)(R:Nat->M->H->Prop):Nat->List EK->Prop
 |_,[]=>True
 |i,o::l=>(∀x w,Rel W w->nZ R o x w->aS Rel P ops Q F R i o x w)/\U6 Rel P ops Q W F R (i+1) l
theorem U6.at{Rel:H->H->Prop}{W:H}{F:(Nat->M)->Act}{R:Nat->M->H->Prop}: ∀(l:List EK) (i:Nat),U6 Rel P ops Q W F R i l-> ∀k o,l[k]?=X o-> ∀x w,Rel W w->nZ R o x w->aS Rel P ops Q F R (i+k) o x w
 |[],_,_,_,_,h=>kJ
 |p::l,i,hs,0,o,h=>by simp at h;subst h;exact hs.1
 |p::l,i,hs,k+1,o,h=>by have:=U6.at l (i+1) hs.2 k o Ou;rw[show i+(k+1)=i+1+k from U];exact this
theorem Zj(hT:Kept Rel){a0:Act}(hm:P.follows .mixedOrders=G)(m:Nat)(hB:gA l.toArray m=G)(hmn:m<=l.length)(hnd:(OU (l.take m)).Nodup)(R:Nat->M->H->Prop) (hR: ∀i v w w',i<m->R i v w->Rel w w'->R i v w') (hstep:U6 Rel P l.toArray Q w0 (fun x=>EB (l.take m) 0 x a0) R 0 (l.take m)) (hend: ∀x w,Rel w0 w->(∀i,i<m->R i (x i) w)->wpList P l.toArray Q (l.drop m) (EB (l.take m) 0 x a0) w):(Code.region id l.toArray G).wp P Q a0 w0:=by
 have htk: ∀i o,i<m->l.toArray[i]?=X o->(l.take m)[i]?=X o:=fun i o hi ho=>by exact Ej_
 refine WB hT hm m hB pN (fun x=>EB (l.take m) 0 x a0) R (held (l.take m) a0) (fd a0 _ 0 _ ?_).symm (fun i o x v hi ho=> ?_) hR (fun i o x w hi ho hb hd=> ?_) hend;·exact EkY
 ·exact Ei0
 ·have:=U6.at _ 0 hstep i o (htk i o hi ho) x w hb hd;exact Ejy
theorem E_(hT:Kept Rel){o:EK}{v:M}(hw:IQ o (yielded ops (F x).tmps)=G) (hr:(execOp (F x).eval o).run P w= .ok (.value v) w) (h:R i v w):aS Rel P ops Q F R i o x w:=by unfold aS;exact Emv
theorem ZG{o:EK}{v:M}(hw:IQ o (yielded ops (F x).tmps)=G) (hr:(execOp (F x).eval o).run P w= .ok (.value v) w') (hb:Rel w w') (h:R i v w'):aS Rel P ops Q F R i o x w:=by unfold aS;exact ElX
theorem JY{o:EK}(hw:IQ o (yielded ops (F x).tmps)=G) (hr:(execOp (F x).eval o).run P w= .ok (.enter f args) w) (hc:Ef P f args w fun e w'=> ∃v,e=Eg v/\Rel w w'/\R i v w'):aS Rel P ops Q F R i o x w:=by unfold aS;exact Eki
end
inductive KQ where|kq(x:M)|kp(g i:Nat)
@[irreducible] def Ed(p:Prop):Prop:=p
theorem Ed.mk{p:Prop}(h:Ed p):p:=by unfold Ed at h;exact h
theorem Ed.in{p:Prop}(h:p):Ed p:=by unfold Ed;exact h
theorem IP{rest:List EK}{o:EK}{a:Act}(hg:o.guard=Z)(t:Ez)(parts:Array (Nat×Operand))(ho:o.op= .build t parts) (cells:Array M) (he:P.built t (parts.toList.map fun(i,x)=>(i,a.eval x))=X cells) (h:wpList P ops Q rest (a.put o.dst (EU cells)) w):wpList P ops Q (o::rest) a w:=
 wpList_build hg t parts ho (by rw[Array.toList_map,he];rfl) (by rw[Array.toList_map,he];exact h)
theorem In{a:Act}{x1 x2 x3 x4 x5}(d:Nat)(h:wpList P ops Q (⟨X d,x1,x2,x3,x4,x5⟩::l) a w):wpList P ops Q (⟨X d,x1,x2,x3,x4,x5⟩::l) a w:=h
theorem gdS{a:Act}{x0 x1 x2 x3 x4 x5 x6}(d:Nat)(h:wpList P ops Q (⟨x0,.store d x1 x2,x3,x4,x5,x6⟩::l) a w):wpList P ops Q (⟨x0,.store d x1 x2,x3,x4,x5,x6⟩::l) a w:=h
theorem JI{a:Act}{x0 x1 x2 x3 x4 x5}(d:Nat)(h:wpList P ops Q (⟨x0,.store d x1 x2,x3,x4,x5,Z⟩::l) a w):wpList P ops Q (⟨x0,.store d x1 x2,x3,x4,x5,Z⟩::l) a w:=h
theorem dI{a:Act}{x0 x1 x3 x4 x5 x6}(d:Nat)(h:wpList P ops Q (⟨x0,.load d x1,x3,x4,x5,x6⟩::l) a w):wpList P ops Q (⟨x0,.load d x1,x3,x4,x5,x6⟩::l) a w:=h
theorem UB{a:Act}{x0 x1 x3 x4 x5}(d:Nat)(h:wpList P ops Q (⟨x0,.load d x1,x3,x4,x5,Z⟩::l) a w):wpList P ops Q (⟨x0,.load d x1,x3,x4,x5,Z⟩::l) a w:=h
theorem I2{a:Act}{x1 x2 x3 x4 x5}(d:Nat)(h:Ed (wpList P ops Q (⟨X d,x1,x2,x3,x4,x5⟩::l) a w)):wpList P ops Q (⟨X d,x1,x2,x3,x4,x5⟩::l) a w:=h.mk
theorem aT{a:Act}{x0 x1 x2 x3 x4 x5 x6}(d:Nat)(h:Ed (wpList P ops Q (⟨x0,.store d x1 x2,x3,x4,x5,x6⟩::l) a w)):wpList P ops Q (⟨x0,.store d x1 x2,x3,x4,x5,x6⟩::l) a w:=h.mk
theorem WC{a:Act}{x0 x1 x2 x3 x4 x5}(d:Nat)(h:Ed (wpList P ops Q (⟨x0,.store d x1 x2,x3,x4,x5,Z⟩::l) a w)):wpList P ops Q (⟨x0,.store d x1 x2,x3,x4,x5,Z⟩::l) a w:=h.mk
theorem EgZ{a:Act}{x0 x1 x3 x4 x5 x6}(d:Nat)(h:Ed (wpList P ops Q (⟨x0,.load d x1,x3,x4,x5,x6⟩::l) a w)):wpList P ops Q (⟨x0,.load d x1,x3,x4,x5,x6⟩::l) a w:=h.mk
theorem Hu{a:Act}{x0 x1 x3 x4 x5}(d:Nat)(h:Ed (wpList P ops Q (⟨x0,.load d x1,x3,x4,x5,Z⟩::l) a w)):wpList P ops Q (⟨x0,.load d x1,x3,x4,x5,Z⟩::l) a w:=h.mk
def D(w:H)(g:Nat)(cs:Array M)(T:Ez):Prop:=w.heap[g]?=X (EI cs T (0,0))
theorem D.B{T:Ez}(h:D w g cs T)(hb:Eh w w'):D w' g cs T:=Uu h hb
theorem EN{T:Ez}(h:Ea (D w g cs T))(b:Below w.heap.size w w'):Ea (D w' g cs T):=J (h.out.B b)
theorem D.lt{T:Ez}(h:D w g cs T):g<w.heap.size:=j_ h
theorem D.drewN{T:Ez}(h:D w g cs T)(n:Nat):D (w.drewN n) g cs T:=h
theorem D.drew{T:Ez}(h:D w g cs T):D w.drew g cs T:=h
theorem D.new(w:H)(cs:Array M)(T:Ez):D (w.alloc (EI cs T)) w.heap.size cs T:=heap_alloc_new w _
theorem Hv(w:H)(o:Obj):(w.alloc o).heap.size=w.heap.size+1:=Ek
theorem D.new'(w:H)(cs:Array M)(T:Ez){g:Nat}(h:g=w.heap.size):D (w.alloc (EI cs T)) g cs T:=by subst h;exact heap_alloc_new w _
theorem D.alloc{T:Ez}(h:D w g cs T)(o:Obj):D (w.alloc o) g cs T:=h.B (Eo w o)
theorem D.cell{T:Ez}(h:D w g cs T)(i:Nat):w.cell? ⟨g,i,Z⟩=cs[i]?:=(I6 h).1 i
theorem D.Jw{T:Ez}(h:D w g cs T)(i:Nat):w.frozen? ⟨g,i,Z⟩=Y:=(I6 h).2 i
theorem D.set{T:Ez}(h:D w g cs T)(i:Nat)(v:M):D (w.setCell ⟨g,i,Z⟩ v) g (cs.setIfInBounds i v) T:=iR h i v
theorem D.other{T:Ez}(h:D w g cs T)(g' i:Nat)(v:M)(hne:g≠g'):D (w.setCell ⟨g',i,Z⟩ v) g cs T:=by unfold D;rw[Below.heap_setCell _ _ _ _ hne];exact h
theorem D.setRow{old:Array M}{T:Ez}(h:D w g old T)(cs:Array M):D (w.setRow g cs) g cs T:=setRow_heap w g _ cs _ _ h
theorem D.setRow_other{T:Ez}(h:D w g cs T)(g':Nat)(cs':Array M)(hne:g≠g'):D (w.setRow g' cs') g cs T:=(_root_.Go.setRow_other w g' g cs' hne).trans h
def Jg(l:List Int):Array M:=(l.map (E .u32)).toArray
def Ej(l:List Int):Array M:=(l.map (E .u8)).toArray
theorem zM(l:List Int):(Jg l).size=l.length:=by simp[Jg]
theorem JV(l:List Int):(Ej l).size=l.length:=by simp[Ej]
theorem pQ(l:List Int)(i:Nat)(h:i<l.length):(Jg l)[i]?=X (E J0 (l.getD i 0)):=by simp[Jg,h]
theorem gB(l:List Int)(i:Nat)(h:i<l.length):(Ej l)[i]?=X (E IB (l.getD i 0)):=by simp[Ej,h]
theorem zN(l:List Int)(i:Nat)(x:Int):(Jg l).setIfInBounds i (E J0 x)=Jg (l.set i x):=by simp[Jg,List.map_set]
theorem kZ(l:List Int)(i:Nat)(x:Int):(Ej l).setIfInBounds i (E IB x)=Ej (l.set i x):=by simp[Ej,List.map_set]
theorem Hw(l:List Int):(Jg l).all (·.oneCell')=G:=by rw[Array.all_eq_true];intro i hi;simp[Jg,Value.oneCell']
theorem Uw(l:List Int):(Ej l).all (·.oneCell')=G:=by rw[Array.all_eq_true];intro i hi;simp[Ej,Value.oneCell']
theorem Zk{l:List Int}{T:Ez}(h:D w g (Ej l) T)(hb: ∀x∈l,0<=x/\x<=255):Row w (X ⟨g,0,Z⟩) l:=zw h O hb
def part(l:List Int)(i:Nat):List Int:=l.take i++List.replicate (l.length-i) 0
theorem uG(l:List Int)(i:Nat)(h:i<=l.length):(part l i).length=l.length:=by simp[part];omega
theorem Hx(l:List Int):part l 0=List.replicate l.length 0:=by simp[part]
theorem Hy(l:List Int)(i:Nat)(h:l.length<=i):part l i=l:=by simp[part,List.take_of_length_le h,show l.length-i=0 from U]
theorem WF(l:List Int)(i k:Nat)(h:k<i)(hi:i<=l.length):(part l i).getD k 0=l.getD k 0:=by unfold part;simp only[List.getD_eq_getElem?_getD];rw[List.getElem?_append_left JJ,List.getElem?_take_of_lt h]
theorem zP(l:List Int)(i:Nat)(h:i<l.length):(part l i).set i (l.getD i 0)=part l (i+1):=by
 apply List.ext_getElem?;intro j;rw[List.getElem?_set];have hl:=uG l i U;by_cases e:i=j;·subst e;rw[if_pos O,if_pos U];unfold part;rw[List.getElem?_append_left JJ,List.getElem?_take_of_lt U];simp[h]
 ·rw[if_neg e];unfold part;rcases Nat.lt_or_ge j i with hj|hj;·rw[List.getElem?_append_left JJ,List.getElem?_append_left JJ,List.getElem?_take_of_lt hj,List.getElem?_take_of_lt U]
  ·rw[List.getElem?_append_right JJ,List.getElem?_append_right JJ];simp only[List.length_take,List.getElem?_replicate];rw[Nat.min_eq_left U,Nat.min_eq_left U];by_cases h1:j<l.length;·rw[if_pos U,if_pos U]
   ·rw[if_neg U,if_neg U]
def af(l old:List Int)(i:Nat):List Int:=l.take i++old.drop i
theorem Hz(l old:List Int):af l old 0=old:=by simp[af]
theorem H_(l old:List Int)(i:Nat)(h:l.length<=i)(h2:old.length<=i):af l old i=l:=by simp[af,List.take_of_length_le h,List.drop_of_length_le h2]
theorem zQ(l old:List Int)(i:Nat)(h:l.length=old.length)(hi:i<=l.length):(af l old i).length=l.length:=by simp[af];omega
theorem WG(l old:List Int)(i k:Nat)(h:l.length=old.length)(hi:i<=k)(hk:k<l.length):(af l old i).getD k 0=old.getD k 0:=by unfold af;simp only[List.getD_eq_getElem?_getD];rw[List.getElem?_append_right JJ,List.getElem?_drop];congr 2;simp;omega
theorem pR(l old:List Int)(i:Nat)(h:l.length=old.length)(hi:i<l.length):(af l old i).set i (l.getD i 0)=af l old (i+1):=by
 apply List.ext_getElem?;intro j;rw[List.getElem?_set];have hl:=zQ l old i h U;by_cases e:i=j;·subst e;rw[if_pos O,if_pos U];unfold af;rw[List.getElem?_append_left JJ,List.getElem?_take_of_lt U];simp[hi]
 ·rw[if_neg e];unfold af;rcases Nat.lt_or_ge j i with hj|hj;·rw[List.getElem?_append_left JJ,List.getElem?_append_left JJ,List.getElem?_take_of_lt hj,List.getElem?_take_of_lt U]
  ·rw[List.getElem?_append_right JJ,List.getElem?_append_right JJ,List.getElem?_drop,List.getElem?_drop];congr 1;simp;omega
def Og(P:Program)(T:Ez)(cs:Array M):Prop:= ∀(ev:Operand->M) (o:EK) (w:H),o.op= .alloc T->(execOp ev o).run P w= .ok (.value (V (X ⟨w.heap.size,0,Z⟩))) (w.alloc (EI cs T))
section
variable{P:Program}{ops:Array Oper}{rest:List Oper}{o:Oper}{a:Act}{w:World}{Q:Exit->Act->World->Prop}
theorem zR{T:Ez}(hz:Og P T cs)(hw:IQ o (yielded ops a.tmps)=G)(ho:o.op= .alloc T) (h:wpList P ops Q rest (a.put o.dst (V (X ⟨w.heap.size,0,Z⟩))) (w.alloc (EI cs T))):wpList P ops Q (o::rest) a w:=JT hw (hz _ _ _ ho) h
theorem XP{T:Ez}{n:Nat}(hT:ID P T n)(hw:IQ o (yielded ops a.tmps)=G)(hl:fb o a T g)(hg:Ea (D w g cs T))(hn:cs.size=n) (h:wpList P ops Q rest (a.put o.dst (EU cs)) w):wpList P ops Q (o::rest) a w:=Ws hT hw hl hg hn h
theorem X7{T:Ez}{n:Nat}{old:Array M}(hT:ID P T n)(hw:IQ o (yielded ops a.tmps)=G)(hl:nX o a T g cs)(hg:Ea (D w g old T))(ho:old.size=n)(hn:cs.size=n) (h1:cs.all (·.oneCell')=G) (h:wpList P ops Q rest (a.put o.dst undef) (w.setRow g cs)):wpList P ops Q (o::rest) a w:=zx hT hw hl hg ho hn h1 h
def gC(o:EK)(a:Act)(T:Ez)(g off:Nat):Prop:=match o.op with| .load t x=>t=T/\a.eval x=V (X ⟨g,off,Z⟩)|_=>False
theorem iY{T:Ez}{n off:Nat}(hT:ID P T n)(hw:IQ o (yielded ops a.tmps)=G)(hl:gC o a T g off)(hg:Ea (D w g big TB))(hn:cs.size=n)(he:big.extract off (off+n)=cs) (h:wpList P ops Q rest (a.put o.dst (EU cs)) w):wpList P ops Q (o::rest) a w:=by
 obtain⟨⟨d,hu,hd⟩,hi⟩:=hT;unfold gC at hl;split at hl;·rename_i t x ho;obtain⟨rfl,hx⟩:=hl;refine JT hw ?_ h;subst he;have hrun:=run_loadVar_mid w g off t _ d (World.rangeAt_of_block hg.out off n) hu kf zS;exact EmW
 ·exact hl.elim
theorem Jb{T:Ez}{n:Nat}(hT:ID P T n)(h:fn.results= #[.cell p T])(tmps:Array M)(w:H)(g:Nat)(cs:Array M) (hp:tmps.getD p undef=V (X ⟨g,0,Z⟩)) (hg:D w g cs T) (hn:cs.size=n):(results fn tmps).run P w= .ok (EU cs) w:=zy hT h tmps w g cs hp hg hn
theorem wA{T:Ez}(hz:Og P T cs)(h:wpList P ops Q rest (a.put o.dst (V (X ⟨w.heap.size,0,Z⟩))) (w.alloc (EI cs T))) (hw:IQ o (yielded ops a.tmps)=G:=by with_unfolding_all exact Ei O) (ho:o.op= .alloc T:=by with_unfolding_all exact O):wpList P ops Q (o::rest) a w:=zR hz hw ho h
theorem wL{T:Ez}{n:Nat}(hT:ID P T n)(hg:Ea (D w g cs T))(h:wpList P ops Q rest (a.put o.dst (EU cs)) w)(hn:cs.size=n:=by with_unfolding_all exact O) (hw:IQ o (yielded ops a.tmps)=G:=by with_unfolding_all exact Ei O) (hl:fb o a T g:=by with_unfolding_all exact⟨O,O⟩):wpList P ops Q (o::rest) a w:=XP hT hw hl hg hn h
theorem wS{T:Ez}{n:Nat}{old:Array M}(hT:ID P T n)(hg:Ea (D w g old T))(h:wpList P ops Q rest (a.put o.dst undef) (w.setRow g cs))(hn:cs.size=n:=by with_unfolding_all exact O) (h1:cs.all (·.oneCell')=G:=by with_unfolding_all exact O) (ho:old.size=n:=by with_unfolding_all exact O) (hw:IQ o (yielded ops a.tmps)=G:=by with_unfolding_all exact Ei O) (hl:nX o a T g cs:=by with_unfolding_all exact⟨O,O,O⟩):wpList P ops Q (o::rest) a w:=X7 hT hw hl hg ho hn h1 h
theorem wM{T:Ez}{n off:Nat}(hT:ID P T n)(hg:Ea (D w g big TB))(h:wpList P ops Q rest (a.put o.dst (EU cs)) w)(he:big.extract off (off+n)=cs:=by with_unfolding_all exact O)(hn:cs.size=n:=by with_unfolding_all exact O) (hw:IQ o (yielded ops a.tmps)=G:=by with_unfolding_all exact Ei O) (hl:gC o a T g off:=by with_unfolding_all exact⟨O,O⟩):wpList P ops Q (o::rest) a w:=iY hT hw hl hg hn he h
end
def Jr(w w':H):Prop:=Eh w w'
theorem EF:Kept Jr:=⟨fun _=>E6 _ _,fun _ _ _ h k=>bt h k,fun w=>(E6 _ w).drew⟩
theorem nZ.at{o:EK}(hd:nZ R o x w)(j:Nat)(h:(o.after.toList.any fun e=>Region.binds .any e&&e.on==j)=G):R j (x j) w:=by exact Ekh
theorem Xf{o:EK}{b:Bool}(h:o.guard=X (j,want))(hd:(ops[j]?).bind (·.dst)=X d)(hv:tmps[d]?=X (Eb b))(hb:(b==want)=Y):IQ o (yielded ops tmps)=Y:=by unfold IQ yielded;simp[h,hd,hv];cases b<;>cases want<;>simp_all
section
variable{P:Program}{ops:Array Oper}{Q:Exit->Act->World->Prop}{Rel:World->World->Prop}{F:(Nat->Value)->Act}{R:Nat->Value->World->Prop}{i:Nat}{o:Oper}{x:Nat->Value}{w:World}
theorem zT(hT:Kept Rel){T:Ez}{n g:Nat}{cs:Array M}(hA:ID P T n)(hw:IQ o (yielded ops (F x).tmps)=G) (hl:fb o (F x) T g) (hg:D w g cs T) (hn:cs.size=n) (h:R i (EU cs) w):aS Rel P ops Q F R i o x w:=by
 obtain⟨⟨d,hu,hd⟩,hi⟩:=hA;unfold fb at hl;split at hl
 ·rename_i t y ho;obtain⟨rfl,hx⟩:=hl;refine E_ hT hw ?_ h;have hrun:(loadVar t ⟨g,0,Z⟩).run P w= .ok (EU cs) w:=by cases d<;>first|(cases hd;done)|exact run_loadVar_row w g t t cs (0,0) _ hg hu rfl bG
  unfold execOp;exact Eiv
 ·exact hl.elim
theorem WH(hT:Kept Rel){T TB:Ez}{n g off:Nat}{cs big:Array M}(hA:ID P T n)(hw:IQ o (yielded ops (F x).tmps)=G) (hl:gC o (F x) T g off) (hg:D w g big TB) (hn:cs.size=n) (he:big.extract off (off+n)=cs) (h:R i (EU cs) w):aS Rel P ops Q F R i o x w:=by
 obtain⟨⟨d,hu,hd⟩,hi⟩:=hA;unfold gC at hl;split at hl;·rename_i t y ho;obtain⟨rfl,hx⟩:=hl;refine E_ hT hw ?_ h;exact EmN
 ·exact hl.elim
theorem Ov{a:Act}{s y:Operand}{v1 v2 v':M}(ho:o.op= .call {callee:= .builtin .append,args:= #[s,y],argTypes:= #[t,t]})(hs:a.eval s=v1)(hx:a.eval y=v2) (hr:(Builtin.append_ #[t,t] o.type #[v1,v2]).run P w= .ok v' w'):(execOp a.eval o).run P w= .ok (.value v') w':=by unfold execOp;simp only[ho,resolve,invoke,builtin,Sem.run_bind,Sem.run_pure,Result.andThen_ok,List.map_toArray,List.map_cons,List.map_nil,hs,hx,hr]
end
section
variable{P:Program}
theorem WK(ats:Array Ez)(ty:Ez)(p q:Int)(W:H):(Builtin.max_ ats ty #[E I p,E I q]).run P W= .ok (E I (max p q)) W:=by simp[Builtin.max_,Builtin.max2,go_sem];try omega
variable{ops:Array Oper}{rest:List Oper}{o:Oper}{a:Act}{w:World}{Q:Exit->Act->World->Prop}
theorem WL{p q r:Int}(s x:Operand)(ats:Array Ez)(hgd:o.guard=Z)(ho:o.op= .call {callee:= .builtin .max,args:= #[s,x],argTypes:=ats})(h1:a.eval s=E I p)(h2:a.eval x=E I q)(hr:max p q=r)(h:wpList P ops Q rest (a.put o.dst (E I r)) w):wpList P ops Q (o::rest) a w:=by subst hr;refine wpList_plain hgd fun K hK=> ?_;unfold Oper.wp execOp;simp only[ho,resolve,invoke,builtin,Sem.run_bind,Sem.run_pure,Result.andThen_ok,List.map_toArray,List.map_cons,List.map_nil,h1,h2,WK];exact hK _ _ h
end
def Er(n:Nat):List Int:=List.replicate n 0
theorem bL(n:Nat):(Er n).length=n:=by simp[Er]
theorem Ka(n:Nat): ∀x∈Er n,0<=x/\x<=255:=by intro x hx;simp[Er] at hx;omega
def putAt(l:List Int)(off:Nat)(ys:List Int):List Int:=l.take off++ys++l.drop (off+ys.length)
theorem WM(l:List Int)(off:Nat)(ys:List Int)(h:off+ys.length<=l.length):(putAt l off ys).length=l.length:=by simp[putAt];omega
theorem WN(l:List Int)(off:Nat):putAt l off []=l:=by simp[putAt]
theorem Kb(k:Nat)(hk:k<=1000000000000)(W:H): (Instr.makeSlice 23 (E I (k:Int)) (E I (k:Int))).run EJ W= .ok (u (X ⟨W.heap.size,0,Z⟩) k k) (W.alloc (EI (Ej (Er k)) 5)):=by
 obtain⟨i0,hi,hz0,hz1,hz2⟩:=info_parts iS;have h:=run_make (P:=EJ) W 23 5 i0 _ Tryz.underlying23 hi hz0 .i64 .i64 k k U U zV U;rw[h,hz1,Int.toNat_natCast,Nat.mul_one]
 have e:madeCells (E IntKind.u8 0).cells k=Ej (Er k):=by
  apply Array.ext;·simp[madeCells,Ej,Er]
  ·intro i h1 h2;simp[madeCells,Ej,Er,Nat.mod_one,Value.cells]
 rw[e]
theorem WP(w:H)(g off dLen dCap:Nat)(l:List Int)(T:Ez)(hg:D w g (Ej l) T)(A:Option Et)(sLen sCap:Nat)(xs:List Int)(hx:xs.length=sLen)(hr:Row w A xs)(m:Nat)(hm:Nat.min sLen dLen=m) (hfit:off+m<=l.length) (Y_:Option Et) (hD:0<m->Y_=X ⟨g,off,Z⟩) (ty:Ez): ∃w',(Builtin.copy_ #[23,23] ty #[u Y_ dLen dCap,u A sLen sCap]).run EJ w= .ok (E I m) w'/\D w' g (Ej (putAt l off (xs.take m))) T/\Below g w w'/\(∀k,k≠g->w'.heap[k]?=w.heap[k]?)/\w'.heap.size=w.heap.size:=by
 have hs1:(Tryz.prog.info? 5).map (·.size)=X 1:=Ec;have hml:m<=xs.length:=by rw[hx,<-hm];exact Nat.min_le_left _ _
 rcases Nat.eq_zero_or_pos m with h0|h0
 ·subst h0;refine⟨w,?_,?_,E6 _ _,fun _ _=>rfl,O⟩;·exact run_copy_none w _ _ ty _ Y_ A dLen dCap sLen sCap Tryz.underlying23 hs1 hm
  ·rw[Ij,WN];exact hg
 ·obtain rfl:=hD h0
  obtain⟨ad,rfl,hc⟩: ∃ad,A=X ad/\ ∀j v,((xs.take m).map (E .u8))[j]?=X v->w.cell? (ad.add j)=X v:=by
   rcases hr.1 with h|⟨b,o,h,hc⟩;·subst h;simp at hml;omega
   ·refine⟨_,h,fun j v hv=> ?_⟩
    have hj:j<(xs.take m).length:=by
     rcases Nat.lt_or_ge j (xs.take m).length with h|h;·exact h
     ·rw[List.getElem?_eq_none Ou] at hv;cases hv
    have hj2:j<xs.length:=uC;rw[Addr.add_mid,hc j hj2];have UC:j<m:=uC;simp[List.getElem?_take_of_lt UC,hj2] at hv;exact congrArg X hv
  have hrun:=run_copy_row (P:=EJ) w 23 23 ty 5 g off dLen dCap ad sLen sCap (Ej l) T ((xs.take m).map (E .u8)) Tryz.underlying23 hs1 hg (by simp[hml,hm]) hc (by rw[JV];simp;omega) (by intro v hv;rw[List.mem_map] at hv;obtain⟨a,_,rfl⟩:=hv;rfl);have e:((Ej l).toList.take off++(xs.take m).map (E .u8)++(Ej l).toList.drop (off+((xs.take m).map (E .u8)).length)).toArray=Ej (putAt l off (xs.take m)):=by simp[Ej,putAt]
  rw[e] at hrun;refine⟨_,by rw[hrun];simp[goInt,hml],hg.setRow _,E2 (E6 _ _) (E5 _) _,fun k hk=>setRow_other w g k _ hk,Ek⟩
def Kc(o:EK)(a:Act)(Y_:Option Et)(dLen dCap:Nat)(A:Option Et)(sLen sCap:Nat):Prop:=match o.op with
 | .call ⟨.builtin .copy,args,tys⟩=>tys= #[23,23]/\ ∃d s,args= #[d,s]/\a.eval d=u Y_ dLen dCap/\a.eval s=u A sLen sCap
 |_=>False
section
variable{ops:Array Oper}{rest:List Oper}{o:Oper}{a:Act}{w:World}{Q:Exit->Act->World->Prop}
theorem gD(hw:IQ o (yielded ops a.tmps)=G)(g off dLen dCap:Nat)(l:List Int)(T:Ez)(A:Option Et)(sLen sCap:Nat)(xs:List Int)(m:Nat)(Y_:Option Et) (hc:Kc o a Y_ dLen dCap A sLen sCap) (hg:Ea (D w g (Ej l) T)) (hx:xs.length=sLen) (hr:Ea (Row w A xs)) (hm:Nat.min sLen dLen=m) (hfit:off+m<=l.length) (hD:0<m->Y_=X ⟨g,off,Z⟩) (h: ∀w',D w' g (Ej (putAt l off (xs.take m))) T->Below g w w'->(∀k,k≠g->w'.heap[k]?=w.heap[k]?)->w'.heap.size=w.heap.size->wpList EJ ops Q rest (a.put o.dst (E I m)) w'):wpList EJ ops Q (o::rest) a w:=by
 obtain⟨w',hrun,h1,h2,h3,h4⟩:=WP w g off dLen dCap l T hg.out A sLen sCap xs hx hr.out m hm hfit Y_ hD o.type;unfold Kc at hc;split at hc;·rename_i args tys ho;obtain⟨rfl,d,s,rfl,e1,e2⟩:=hc;refine JT hw (v:=E I m) (w':=w') ?_ (h w' h1 h2 h3 h4);unfold execOp;simp only[ho,resolve,invoke,builtin,Sem.run_bind,Sem.run_pure,Result.andThen_ok,List.map_toArray,List.map_cons,List.map_nil,e1,e2,hrun]
 ·exact hc.elim
end
def JQ:Option (Nat×Nat)->List M
 |none=>[Eb Y,E I 0,E Ip 0]
 |some (h,s)=>[Eb G,E I h,E Ip s]
theorem Kd(v:Option (Nat×Nat)):kE v=EU (JQ v).toArray:=Kf
theorem nk(v:Option (Nat×Nat)):(JQ v).length=3:=Kf
structure IM where
 on:Bool
 (a m r:Int)
 key:List Int
 win:Option (Nat×Nat)
def Oh(on:Bool)(a m:Int):List M:=[Eb on,E I a,E I m]
def IM.v(s:IM):List M:=Oh s.on s.a s.m++([E I s.r]++(s.key.map (E .u8)++JQ s.win))
def JU:IM:=⟨Y,0,0,0,Er 32,Z⟩
structure IM.ok(s:IM):Prop where
 len:s.key.length=32
 bytes: ∀x∈s.key,0<=x/\x<=255
 win:nU s.win
theorem pS:JU.ok:=⟨O,Ka 32,trivial⟩
theorem IM.JG{s:IM}(h:s.key.length=32):s.v.length=39:=by simp[IM.v,Oh,h,nk]
structure EM where
 XC:Bool
 (sa sm:Int)
 (s0 s1 s2:IM)
 (E3 most:Int)
def EM.ER(T:EM):Nat->IM
 |0=>T.s0
 |1=>T.s1
 |_=>T.s2
def EM.put(T:EM):Nat->IM->EM
 |0,s=>{T with s0:=s}
 |1,s=>{T with s1:=s}
 |_,s=>{T with s2:=s}
def EM.hd(T:EM):List M:=[Eb T.XC,E I T.sa,E I T.sm]
def EM.tl(T:EM):List M:=[E I T.E3,E I T.most]
def EM.v(T:EM):List M:=T.hd++(T.s0.v++(T.s1.v++(T.s2.v++T.tl)))
def EM.pre(T:EM):Nat->List M
 |0=>T.hd
 |1=>T.hd++T.s0.v
 |_=>T.hd++T.s0.v++T.s1.v
def EM.post(T:EM):Nat->List M
 |0=>T.s1.v++(T.s2.v++T.tl)
 |1=>T.s2.v++T.tl
 |_=>T.tl
structure EM.ok(T:EM):Prop where
 s0:T.s0.ok
 s1:T.s1.ok
 s2:T.s2.ok
theorem EM.ok.ER{T:EM}(h:T.ok)(i:Nat):(T.ER i).ok:=by
 match i with
 |0=>exact h.s0
 |1=>exact h.s1
 |_+2=>exact h.s2
theorem EM.ok.put{T:EM}(h:T.ok)(i:Nat){s:IM}(hs:s.ok):(T.put i s).ok:=by
 match i with
 |0=>exact⟨hs,h.s1,h.s2⟩
 |1=>exact⟨h.s0,hs,h.s2⟩
 |_+2=>exact⟨h.s0,h.s1,hs⟩
theorem EM.nm(T:EM)(i:Nat):T.v=T.pre i++((T.ER i).v++T.post i):=by
 match i with
 |0=>rfl
 |1=>simp[EM.v,EM.pre,EM.post,EM.ER]
 |_+2=>simp[EM.v,EM.pre,EM.post,EM.ER]
theorem EM.pT(T:EM)(i:Nat)(s:IM):(T.put i s).v=T.pre i++(s.v++T.post i):=by
 match i with
 |0=>rfl
 |1=>simp[EM.v,EM.pre,EM.post,EM.put,EM.hd,EM.tl]
 |_+2=>simp[EM.v,EM.pre,EM.post,EM.put,EM.hd,EM.tl]
def so(i:Nat):Nat:=match i with|0=>3|1=>42|_=>81
theorem EM.kh{T:EM}(h:T.ok)(i:Nat):(T.pre i).length=so i:=by
 match i with
 |0=>rfl
 |1=>simp[EM.pre,so,EM.hd,IM.JG h.s0.len]
 |_+2=>simp[EM.pre,so,EM.hd,IM.JG h.s0.len,IM.JG h.s1.len]
def EV(W:H)(g:Nat)(T:EM):Prop:=D W g T.v.toArray 163
theorem ZH{o:Nat}{pre post:List M}(K:D W g (pre++(old++post)).toArray S)(ho:pre.length=o)(j:Nat)(hj:j<old.length):W.cell? ⟨g,o+j,Z⟩=old[j]?:=by rw[K.cell (o+j),List.getElem?_toArray,List.getElem?_append_right U,List.getElem?_append_left U];congr 1;omega
theorem UR{o n:Nat}(K:D W g cs S)(h:o+n<=cs.size):W.there g o n:=fun j hj=>by refine⟨?_,K.Jw _⟩;rw[K.cell,Array.getElem?_eq_getElem U];rfl
structure EG(g:Nat)(W w':H):Prop where
 size:W.heap.size<=w'.heap.size
 keep: ∀k,k≠g->k<W.heap.size->w'.heap[k]?=W.heap[k]?
 bel: ∀b,b<=g->b<=W.heap.size->Below b W w'
theorem EG.refl(g:Nat)(W:H):EG g W W:=⟨E5 _,fun _ _ _=>rfl,fun _ _ _=>E6 _ _⟩
theorem EG.trans{a b c:H}(h:EG g a b)(k:EG g b c):EG g a c:=
 ⟨Ey h.size k.size,fun i hi hl=>(k.keep i hi (Nat.lt_of_lt_of_le hl h.size)).trans (h.keep i hi hl),fun i hi hl=>(h.bel i hi hl).trans (k.bel i hi (Ey hl h.size))⟩
theorem EG.Eu(h:Eh W w'):EG g W w':=
 ⟨h.size,fun k _ hl=>h.block k hl,fun b _ hb=>h.mono hb⟩
theorem EG.Em{g2:Nat}(h:EG g W w')(K:D W g2 cs S)(hne:g2≠g):D w' g2 cs S:=(h.keep g2 hne K.lt).trans K
theorem OH(p:Nat)(v:M):EG g W (W.setCell ⟨g,p,Z⟩ v):=
 ⟨zW,fun k hk _=>Below.heap_setCell _ _ _ _ hk,fun b hb _=>(E6 b W).setCell (p:=⟨g,p,Z⟩) hb v⟩
theorem JX{g:Nat}: ∀(vs:List M) (o:Nat) (W:H),EG g W (W.setCells g o vs)
 |[],_,W=>EG.refl g W
 |v::r,o,W=>(OH o v).trans (JX r (o+1) _)
theorem Xg{g:Nat}{post:List M}{S:Ez}: ∀(vs old pre:List M) (o:Nat) (W:H),D W g (pre++(old++post)).toArray S->vs.length=old.length->pre.length=o->D (W.setCells g o vs) g (pre++(vs++post)).toArray S
 |[],old,pre,o,W,K,hl,ho=>by have:old=[]:=List.eq_nil_of_length_eq_zero hl.symm;subst this;exact K
 |v::vs,[],pre,o,W,K,hl,ho=>by simp at hl
 |v::vs,x::old,pre,o,W,K,hl,ho=>by
  have k1:=K.set o v;have e:(pre++(x::old++post)).toArray.setIfInBounds o v=((pre++[v])++(old++post)).toArray:=by rw[Ig];congr 1;rw[List.set_append_right _ _ U,ho,Nat.sub_self];simp
  rw[e] at k1;have k2:=Xg vs old (pre++[v]) (o+1) _ k1 (by simpa using hl) (by simp[ho]);rw[World.setCells];simpa using k2
theorem bM:ID EJ 107 2:=⟨⟨_,Tryz.underlying107,O⟩,Ec⟩
theorem uH(most:Int)(w:H): Ef EJ 174 #[E I most] w fun e w'=>e=Eg (EU #[E I 0,E I (max most 0)])/\Eh w w':=by obtain⟨mb,hmb⟩:=JO (max most 0);rw[hmb];go_enter Tryz.func174,Tryz.ntmps174;go_wp2_with ((with_reducible refine WL (p:=most) (q:=0) (r:=mb) _ _ _ O O ?_ ?_ ?_ ?_);(·rfl);(·rfl);(·exact hmb));refine EQ (by simp[results,Tryz.results174,go_sem]) O ⟨O,?_⟩;exact Eo w _
theorem uK(a m:Int)(w:H)(h1: -9223372036854775808<=a)(h3:m<=9223372036854775807): Ef EJ 148 #[EU #[E I a,E I m]] w fun e w'=>e=Eg (EU #[E I (sat a m),E I m])/\Eh w w':=by have CS:=J<|fun W=>pH a m W h1 h3;generalize sat a m=r at*;clear h1 h3;go_enter Tryz.func148,Tryz.ntmps148;go_wp2_with fail;(with_reducible refine(CS.out _).mono ?_);rintro e w' ⟨rfl,rfl⟩;go_wp2_with fail;refine EQ zY O ⟨O,?_⟩;exact JF w _ _
theorem uL(a m:Int)(w:H): Ef EJ 149 #[EU #[E I a,E I m]] w fun e w'=>e=Eg (Eb (decide (m<=a)))/\Eh w w':=by obtain⟨b,hb⟩:=JO (decide (m<=a));rw[hb];go_enter Tryz.func149,Tryz.ntmps149;go_wp2_with fail;go_ret;exact⟨O,Eo w _⟩
theorem dJ(g o:Nat)(pre post:List M)(x y z:M)(S:Ez)(E3:Int)(w:H)(K:D w g (pre++([x,y,z]++post)).toArray S)(ho:pre.length=o): Ef EJ 127 #[V (X ⟨g,o,Z⟩),E I E3] w fun e w'=>e=Eg (Es #[])/\D w' g (pre++(Oh G 0 (max E3 0)++post)).toArray S/\EG g w w':=by have c0:w.cell? ⟨g,o,Z⟩=X x:=ZH (old:=[x,y,z]) K ho 0 Ek;have f0:w.frozen? ⟨g,o,Z⟩=Y:=K.Jw o;have K1:Ea (D (w.setCell ⟨g,o,Z⟩ (Eb G)) g (pre++([Value.bool G,y,z]++post)).toArray S):=J<|Xg (post:=[y,z]++post) [Eb G] [x] pre o w (by simpa using K) O ho;have ON:=J<|OH (g:=g) (W:=w) o (Eb G);have HO:=J ho;have CT:=J<|fun W=>uH E3 W;generalize max E3 0=mb at*;clear K ho;go_enter Tryz.func127,Tryz.ntmps127;go_wp2_with fail;clear c0 f0;generalize w.setCell ⟨g,o,Z⟩ (Eb G)=w1 at*;(with_reducible refine(CT.out _).mono ?_);rintro e w2 ⟨rfl,b2⟩;replace K1:=J<|K1.out.B b2;replace ON:=J<|ON.out.trans (EG.Eu b2);clear b2 CT;have K2:Ea (D (w2.setCells g (o+1) [E I 0,E I mb]) g (pre++(Oh G 0 mb++post)).toArray S):=J (by have:=Xg (g:=g) (post:=post) (S:=S) [E I 0,E I mb] [y,z] (pre++[Eb G]) (o+1) w2 (by simpa[Oh] using K1.out) O (by simp[HO.out]);simpa[Oh] using this);have z4:=J<|ON.out.trans (JX (g:=g) [E I 0,E I mb] (o+1) w2);have HS:Ea (o+1+2<=(pre++([Value.bool G,y,z]++post)).toArray.size):=J Kg;have c1:w2.cell? ⟨g,o+1,Z⟩=X y:=ZH (old:=[Value.bool G,y,z]) K1.out HO.out 1 Ek;have c2:w2.cell? ⟨g,o+1+1,Z⟩=X z:=ZH (old:=[Value.bool G,y,z]) K1.out HO.out 2 Ek;have f1:w2.frozen? ⟨g,o+1,Z⟩=Y:=K1.out.Jw _;have f2:w2.frozen? ⟨g,o+1+1,Z⟩=Y:=K1.out.Jw _;go_wp2_with fail;go_end0;exact⟨O,K2.out,z4.out⟩
theorem Kh(g o:Nat)(pre post:List M)(y z:M)(S:Ez)(w:H)(K:D w g (pre++([Value.bool Y,y,z]++post)).toArray S)(ho:pre.length=o): Ef EJ 145 #[V (X ⟨g,o,Z⟩)] w fun e w'=>e=Eg (Eb Y)/\w=w':=by have c0:w.cell? ⟨g,o,Z⟩=X (Eb Y):=ZH (old:=[Value.bool Y,y,z]) K ho 0 Ek;clear K ho;go_enter Tryz.func145,Tryz.ntmps145;exact Eh9
theorem Ki(g o:Nat)(pre post:List M)(a m:Int)(S:Ez)(w:H)(K:D w g (pre++(Oh G a m++post)).toArray S)(ho:pre.length=o)(h1: -9223372036854775808<=a)(h3:m<=9223372036854775807): Ef EJ 145 #[V (X ⟨g,o,Z⟩)] w fun e w'=>e=Eg (Eb (decide (m<=sat a m)))/\D w' g (pre++(Oh G (sat a m) m++post)).toArray S/\EG g w w':=by have c0:w.cell? ⟨g,o,Z⟩=X (Eb G):=ZH (old:=Oh G a m) K ho 0 ki;have c1:w.cell? ⟨g,o+1,Z⟩=X (E I a):=ZH (old:=Oh G a m) K ho 1 ki;have c2:w.cell? ⟨g,o+2,Z⟩=X (E I m):=ZH (old:=Oh G a m) K ho 2 ki;have CS:=J<|fun W=>uK a m W h1 h3;have CD:=J<|fun W=>uL (sat a m) m W;generalize sat a m=r at*;generalize decide (m<=r)=rb at*;have KK:=J K;have HO:=J ho;clear K ho h1 h3;go_enter Tryz.func145,Tryz.ntmps145;go_wp2_with fail;(with_reducible refine(CS.out _).mono ?_);rintro e w2 ⟨rfl,b2⟩;replace KK:=J<|KK.out.B b2;have ON:Ea (EG g w w2):=J<|EG.Eu b2;clear b2 CS c0 c1 c2;have K2:Ea (D (w2.setCells g (o+1) [E I r,E I m]) g (pre++(Oh G r m++post)).toArray S):=J (by have:=Xg (g:=g) (post:=post) (S:=S) [E I r,E I m] [E I a,E I m] (pre++[Eb G]) (o+1) w2 (by simpa[Oh] using KK.out) O (by simp[HO.out]);simpa[Oh] using this);have z4:=J<|ON.out.trans (JX (g:=g) [E I r,E I m] (o+1) w2);have HS:Ea (o+1+2<=(pre++(Oh G a m++post)).toArray.size):=J Kg;have c1:w2.cell? ⟨g,o+1,Z⟩=X (E I a):=ZH (old:=Oh G a m) KK.out HO.out 1 ki;have c2:w2.cell? ⟨g,o+1+1,Z⟩=X (E I m):=ZH (old:=Oh G a m) KK.out HO.out 2 ki;have f1:w2.frozen? ⟨g,o+1,Z⟩=Y:=KK.out.Jw _;have f2:w2.frozen? ⟨g,o+1+1,Z⟩=Y:=KK.out.Jw _;go_wp2_with (with_reducible refine I2 19 ?_);refine Ed.in ?_;clear c1 c2 f1 f2;rw[show(w2.setCell ⟨g,o+1,Z⟩ (E I r)).setCell ⟨g,o+1+1,Z⟩ (E I m)=w2.setCells g (o+1) [E I r,E I m] from rfl];generalize w2.setCells g (o+1) [E I r,E I m]=w3 at*;have c1:w3.cell? ⟨g,o+1,Z⟩=X (E I r):=ZH (old:=Oh G r m) K2.out HO.out 1 ki;have c2:w3.cell? ⟨g,o+2,Z⟩=X (E I m):=ZH (old:=Oh G r m) K2.out HO.out 2 ki;go_wp2_with fail;(with_reducible refine(CD.out _).mono ?_);rintro e w4 ⟨rfl,b4⟩;go_wp2_with fail;go_ret;exact⟨O,K2.out.B b4,z4.out.trans (EG.Eu b4)⟩
def OZ(w:H)(g:Nat)(Gs:List (List M))(S:Ez):Prop:=D w g Gs.flatten.toArray S
def aV(Gs:List (List M))(k:Nat):Nat:=(Gs.take k).flatten.length
theorem pV(hk:Gs[k]?=X old):Gs.flatten=(Gs.take k).flatten++(old++(Gs.drop (k+1)).flatten):=by obtain⟨h,e⟩:=List.getElem?_eq_some_iff.1 hk;conv=>lhs;rw[<-List.take_append_drop k Gs,List.flatten_append,List.drop_eq_getElem_cons h,List.flatten_cons,e]
theorem WQ(hk:Gs[k]?=X old)(vs:List M):(Gs.set k vs).flatten=(Gs.take k).flatten++(vs++(Gs.drop (k+1)).flatten):=by
 obtain⟨h,e⟩:=List.getElem?_eq_some_iff.1 hk;have h2:(Gs.set k vs)[k]?=X vs:=by rw[List.getElem?_set_self h]
 rw[pV h2,List.take_set_of_le (E5 _),List.drop_set_of_lt U]
theorem OZ.cell(K:OZ W g Gs S)(k:Nat){o:Nat}(hk:Gs[k]?=X old)(ho:aV Gs k=o)(j:Nat)(hj:j<old.length):W.cell? ⟨g,o+j,Z⟩=old[j]?:=by unfold OZ at K;rw[pV hk] at K;exact ZH K ho j hj
theorem OZ.set(K:OZ W g Gs S)(k:Nat){o:Nat}(hk:Gs[k]?=X old)(ho:aV Gs k=o)(vs:List M)(hl:vs.length=old.length):OZ (W.setCells g o vs) g (Gs.set k vs) S:=by unfold OZ at*;rw[pV hk] at K;rw[WQ hk];exact Xg vs old _ o W K hl ho
theorem OZ.extract(k:Nat){o:Nat}(hk:Gs[k]?=X old)(ho:aV Gs k=o)(n:Nat)(hn:old.length=n):Gs.flatten.toArray.extract o (o+n)=old.toArray:=by subst ho hn;rw[pV hk];unfold aV;simp
theorem OZ.there(K:OZ W g Gs S)(k:Nat){o:Nat}(hk:Gs[k]?=X old)(ho:aV Gs k=o)(n:Nat)(hn:n<=old.length):W.there g o n:=by refine UR K ?_;rw[pV hk,List.size_toArray,IL,IL];unfold aV at ho;omega
theorem OZ.B(K:OZ W g Gs S)(hb:Eh W w'):OZ w' g Gs S:=D.B K hb
theorem OZ.lt(K:OZ W g Gs S):g<W.heap.size:=D.lt K
theorem OZ.Jw(K:OZ W g Gs S)(i:Nat):W.frozen? ⟨g,i,Z⟩=Y:=D.Jw K i
section
variable{P:Program}{ops:Array Oper}{rest:List Oper}{o:Oper}{a:Act}{w:World}{Q:Exit->Act->World->Prop}
end
def gF:List Ez:=[120,163,152,171,124]
def z5(o:Option Obj):Bool:=match o with
 |some (EI _ T _)=>gF.contains T
 |_=>Y
def pW(w:H)(k:Nat):Bool:=z5 w.heap[k]?
structure z_(lo hi:Nat)(w w':H):Prop where
 os:w'.os=w.os
 tape:w'.tape=w.tape
 output:w'.output=w.output
 size:w.heap.size<=w'.heap.size
 keep: ∀k,k<hi->(lo<=k->pW w k=Y)->w'.heap[k]?=w.heap[k]?
 stay: ∀k,lo<=k->k<hi->pW w k=G->pW w' k=G
theorem z_.B{lo hi:Nat}(h:z_ lo hi w w')(hl:lo<=hi):Below lo w w':=
 ⟨h.os,h.tape,h.output,h.size,fun k hk=>h.keep k (Nat.lt_of_lt_of_le hk hl) (fun hc=>absurd hc U)⟩
structure EL where
 (h e o oa om la lm:Int)
 bad:Bool
def EL.v(t:EL):List M:=[E I t.h,E I t.e,E I t.o,E I t.oa,E I t.om,E I t.la,E I t.lm,Eb t.bad]
def I3(x:Int):Prop:= -9223372036854775808<=x/\x<=9223372036854775807
structure EL.ok(t:EL):Prop where
 h:0<=t.h/\t.h<=4
 e:0<=t.e/\t.e<=65535
 o: -1<=t.o/\t.o<=3
 oa:0<=t.oa/\t.oa<=1000
 om:0<=t.om/\t.om<=1000
 la:0<=t.la/\t.la<=1000
 lm:0<=t.lm/\t.lm<=1000
 off:0<=t.o->1<=t.h/\t.h<=3/\t.o≠t.h
def EL.pass(t:EL)(IG e:Int):EL:=⟨IG,e,-1,0,0,0,0,t.bad⟩
def EL.Ow(t:EL)(IG:Int):EL×Int:=
 if IG<0\/5<=IG then(t,1) else if IG=t.h then(t,25) else if 65535<=t.e then(t,24) else(t.pass IG (t.e+1),0)
def EL.ZK(t:EL):EL:=t.pass 4 (if t.h≠4 then sat t.e 65535 else t.e)
def EL.end_(t:EL):EL:={t with o:= -1,oa:=0,om:=0}
def EL.make(t:EL)(po from_ IG:Int)(there:Bool):EL×Int:=
 if from_≠t.h then(t,20) else if 65535<=t.e then(t,24) else if IG=from_ then(t,25) else if IG<1\/3<IG\/there=Y then(t,2) else if 0<=t.o then(t,28)
 else({t with o:=IG,oa:=0,om:=max po 0},0)
def EL.accept(t:EL)(from_ JR:Int):EL×Int:=
 if t.o<0\/t.o≠from_ then(t,28) else if JR≠t.e then(t,21) else t.Ow from_
def EL.kj(t:EL)(from_:Int):EL×Int:=if t.o<0\/t.o≠from_ then(t,28) else(t.end_,0)
def EL.drop(t:EL)(s:Int):EL×Bool:=if t.o<0\/t.o≠s then(t,Y) else(t.end_,G)
def EL.OM(t:EL):EL×Int:=
 if t.o<0 then(t,-1) else if sat t.oa t.om<t.om then({t with oa:=sat t.oa t.om},-1) else({t with oa:=sat t.oa t.om}.end_,t.o)
structure Oa where
 (r s q:Int)
def Oa.v(b:Oa):List M:=[E I b.r,E I b.s,E I b.q]
structure Oa.ok(b:Oa):Prop where
 r:I3 b.r
 s:I3 b.s
 q:I3 b.q
def AJ:Oa:=⟨2,4,0⟩
structure Pt where
 (c a0 a1 a2 a3 n0 n1 n2 n3:Int)
 b:Oa
def Pt.v(p:Pt):List M:=[E I p.c,E I p.a0,E I p.a1,E I p.a2,E I p.a3,E I p.n0,E I p.n1,E I p.n2,E I p.n3,E I p.b.r,E I p.b.s,E I p.b.q]
structure Pt.ok(p:Pt):Prop where
 c:I3 p.c
 a0:I3 p.a0
 a1:I3 p.a1
 a2:I3 p.a2
 a3:I3 p.a3
 n0:I3 p.n0
 n1:I3 p.n1
 n2:I3 p.n2
 n3:I3 p.n3
structure Rec where
 (k s q e c h:Int)
deriving DecidableEq
def Rec.v(x:Rec):List M:=[E I x.k,E I x.s,E I x.q,E I x.e,E I x.c,E I x.h]
def J1(l:List Rec):List M:=l.flatMap Rec.v
theorem uM(l:List Rec):(J1 l).length=l.length*6:=by
 induction l with
 |nil=>rfl
 |cons x r ih=>simp only[J1,List.flatMap_cons,IL,List.length_cons] at*;rw[ih];simp[Rec.v];omega
theorem AU(a b:List Rec):J1 (a++b)=J1 a++J1 b:=by simp[J1]
structure One where
 (s r a m:Int)
 n:Nat
def One.v(x:One):List M:=[E I x.s,E I x.r,E I x.a,E I x.m,E Ip x.n]
structure One.ok(x:One):Prop where
 s:I3 x.s
 r:I3 x.r
 a:0<=x.a/\x.a<=1000
 m:0<=x.m/\x.m<=1000
 n:x.n<18446744073709551616
def Iv(l:List One):List M:=l.flatMap One.v
theorem ZL(l:List One):(Iv l).length=l.length*5:=by
 induction l with
 |nil=>rfl
 |cons x r ih=>simp only[Iv,List.flatMap_cons,IL,List.length_cons] at*;rw[ih];simp[One.v];omega
structure EA where
 tok:EL
 q:List One
 T:EM
 (samples beyond mode:Int)
 El:Oa
 pt:Pt
section
variable{P:Program}
theorem Kj{T:Ez}{n:Nat}(hA:ID P T n)(hg:D w g cs T)(hn:cs.size=n):(loadVar T ⟨g,0,Z⟩).run P w= .ok (EU cs) w:=by obtain⟨⟨d,hu,hd⟩,hi⟩:=hA;cases d<;>first|(cases hd;done)|exact run_loadVar_row w g T T cs (0,0) _ hg hu rfl bG
theorem O0{q:Tmp}{T:Ez}{n:Nat}(hT:ID P T n)(h:fn.results= #[.cell p T,.tmp q])(tmps:Array M)(w:H)(g:Nat)(cs:Array M)(v:M) (hp:tmps.getD p undef=V (X ⟨g,0,Z⟩)) (hq:tmps.getD q undef=v) (hg:D w g cs T) (hn:cs.size=n):(results fn tmps).run P w= .ok (Es #[EU cs,v]) w:=by have hp':tmps[p]?.getD undef=V (X ⟨g,0,Z⟩):=gy;have hq':tmps[q]?.getD undef=v:=kn;simp[results,h,hp',hq',asAddr,Kj hT hg hn]
theorem fg{q r:Tmp}{T:Ez}{n:Nat}(hT:ID P T n)(h:fn.results= #[.cell p T,.tmp q,.tmp r])(tmps:Array M)(w:H)(g:Nat)(cs:Array M)(v v2:M) (hp:tmps.getD p undef=V (X ⟨g,0,Z⟩)) (hq:tmps.getD q undef=v) (hr:tmps.getD r undef=v2) (hg:D w g cs T) (hn:cs.size=n):(results fn tmps).run P w= .ok (Es #[EU cs,v,v2]) w:=by
 have hp':tmps[p]?.getD undef=V (X ⟨g,0,Z⟩):=gy;have hq':tmps[q]?.getD undef=v:=kn;have hr':tmps[r]?.getD undef=v2:=by simpa using hr
 simp[results,h,hp',hq',hr',asAddr,Kj hT hg hn]
end
def fh(ops:Array EK)(i k:Nat):Prop:= ∃o e,ops[i]?=X o/\e∈o.after/\Region.binds .any e=G/\e.on=k
def i6(R:Nat->(Nat->M)->H->Prop)(o:EK)(x:Nat->M)(w:H):Prop:= ∀e∈o.after,Region.binds .any e=G->R e.on x w
theorem i6.at{R:Nat->(Nat->M)->H->Prop}{o:EK}(hd:i6 R o x w)(j:Nat)(h:(o.after.toList.any fun e=>Region.binds .any e&&e.on==j)=G):R j x w:=by exact Ekh
section
variable{P:Program}{ops:Array Oper}{Q:Exit->Act->World->Prop}
@[irreducible] def UJ(Rel:H->H->Prop)(P:Program)(ops:Array EK)(Q:Exit->Act->H->Prop)(F:(Nat->M)->Act)(R:Nat->(Nat->M)->H->Prop)(i:Nat)(o:EK)(x:Nat->M)(w:H):Prop:=
 if IQ o (yielded ops (F x).tmps) then o.wp P (F x) w (fun a' w'=> ∃v,a'=(F x).put o.dst v/\Rel w w'/\R i (Jv x i v) w') Q
 else R i (Jv x i undef) w
def bN(ops:Array EK):Bool:=(List.range ops.size).all fun i=>match ops[i]? with
 |none=>Y
 |some o=>o.after.all fun e=> !(Region.binds .any e)||decide (e.on<i)
theorem no{ops:Array EK}(h:bN ops=G){o:EK}(ho:ops[i]?=X o): ∀e∈o.after,Region.binds .any e=G->e.on<i:=by have hi:=(Ja.1 ho).1;have h1:=List.all_eq_true.1 h i (List.mem_range.2 hi);simp only[ho] at h1;intro e he hb;have h2:=Array.all_eq_true_iff_forall_mem.1 h1 e he;rw[hb] at h2;simpa using h2
theorem WR(hT:Kept Rel){m:Nat}(hB:bN ops=G)(hmn:m=ops.size){R:Nat->(Nat->M)->H->Prop} (hF: ∀i o x v,i<m->ops[i]?=X o->(F x).put o.dst v=F (Jv x i v)) (hR: ∀i x w w',i<m->R i x w->Rel w w'->R i x w') (hD: ∀i x y w,i<m->(∀k,(k=i\/fh ops i k)->x k=y k)->R i x w->R i y w) (hstep: ∀i o x w,i<m->ops[i]?=X o->Rel W w->(∀e∈o.after,Region.binds .any e=G->R e.on x w)->UJ Rel P ops Q F R i o x w) (hend: ∀x w,Rel W w->(∀i,i<m->R i x w)->wpList P ops Q (ops.toList.drop m) (F x) w): ∀(fuel:Nat) (listed:Array Bool) (x:Nat->M) (w:H),(Of ops listed).length<=fuel->listed.size=ops.size->ZF ops listed->(∀j,m<=j->j<ops.size->listed.getD j G=Y)->Rel W w-> (∀i,i<m->listed.getD i G=G->R i x w)->wpAny P .any ops Q fuel listed (F x) w:=by
 subst hmn;have done: ∀(fuel:Nat) (listed:Array Bool) (x:Nat->M) (w:H),(∀j,j<ops.size->listed.getD j G=G)->Rel W w->(∀i,i<ops.size->listed.getD i G=G->R i x w)->wpAny P .any ops Q fuel listed (F x) w:=by intro fuel listed x w hall hb hr;have he:=hend x w hb fun i hi=>hr i hi (hall i hi);rw[List.drop_of_length_le Ek] at he;refine wpAny_done ?_ he fuel;exact Ejb
 intro fuel;induction fuel with
 |zero=>
  intro listed x w hf hs hcl ht hb hr;refine done 0 listed x w (fun j hj=> ?_) hb hr;cases hc:listed.getD j G;·exact EiH
  ·rfl
 |succ fuel ih=>
  intro listed x w hf hs hcl ht hb hr;by_cases hall: ∀j,j<ops.size->listed.getD j G=G;·exact El3
  ·refine⟨fun h0=> ?_,fun i hi=> ?_⟩
   ·exfalso
    have hex: ∃j,j<ops.size/\listed.getD j G=Y:=by
     apply Classical.byContradiction;intro hno
     exact hall fun j hj=>by
      cases hc:listed.getD j G;·exact Elj
      ·rfl
    have hmin: ∃j,(j<ops.size/\listed.getD j G=Y)/\ ∀k,k<j-> ¬(k<ops.size/\listed.getD k G=Y):=by
     obtain⟨j,hj⟩:=hex;induction j using Nat.strongRecOn with
     |ind j aR=>
      by_cases h: ∃k,k<j/\(k<ops.size/\listed.getD k G=Y);·exact EjN
      ·exact Ejr
    obtain⟨j,⟨hjn,hj⟩,hlt⟩:=hmin;have ho:ops[j]?=X ops[j]:=Array.getElem?_eq_getElem hjn
    have:j∈Region.ready .any ops listed:=by
     refine mem_ready.2 ⟨hj,_,ho,fun e he hbe=> ?_⟩;have h1:=no hB ho e he hbe;have h2:=hlt e.on h1;have h3:e.on<listed.size:=U;cases hc:listed.getD e.on G;·exact ElP
     ·simpa[h3] using hc
    rw[h0] at this;cases this
   ·obtain⟨h1,o,ho,aa⟩:=mem_ready.1 hi;have hin:=(Ja.1 ho).1;have hdr: ∀e∈o.after,Region.binds .any e=G->R e.on x w:=by intro e he hb';have h3:=aa e he hb';have h4:=no hB ho e he hb';have h5:e.on<listed.size:=U;exact hr e.on U kI
    have st:=hstep i o x w hin ho hb hdr
    have next: ∀v w',Rel w w'->R i (Jv x i v) w'->wpAny P .any ops Q fuel (listed.setIfInBounds i G) ((F x).put o.dst v) w':=by
     intro v w' hb' hv;rw[hF i o x v hin ho];have hlt:=iT hs hin h1;refine ih _ _ w' U dE (hcl.set hs hi) (fun j hj hjn=>absurd hjn U) (hT.2.1 _ _ _ hb hb') (fun j hj hl=> ?_);by_cases hji:j=i;·subst hji;exact hv
     ·rw[getD_set_ne G (fun e=>hji e.symm)] at hl;refine hD j x _ w' hj (fun k hk=> ?_) (hR j _ w w' hj (hr j hj hl) hb');rw[fc];rintro rfl;rcases hk with hk|⟨oj,e,hoj,he,hbe,pY⟩;·exact hji hk.symm
      ·exact EkH
    unfold wpOp;simp only[ho];unfold UJ at st;split;·exact Ejf
    ·exact Emj
theorem WT(hT:Kept Rel){a0:Act}(hm:P.follows .mixedOrders=G)(m:Nat)(hB:bN ops=G)(hmn:m=ops.size)(F:(Nat->M)->Act)(R:Nat->(Nat->M)->H->Prop)(x0:Nat->M)(iV:a0=F x0) (hF: ∀i o x v,i<m->ops[i]?=X o->(F x).put o.dst v=F (Jv x i v)) (hR: ∀i x w w',i<m->R i x w->Rel w w'->R i x w') (hD: ∀i x y w,i<m->(∀k,(k=i\/fh ops i k)->x k=y k)->R i x w->R i y w) (hstep: ∀i o x w,i<m->ops[i]?=X o->Rel w0 w->(∀e∈o.after,Region.binds .any e=G->R e.on x w)->UJ Rel P ops Q F R i o x w) (hend: ∀x w,Rel w0 w->(∀i,i<m->R i x w)->wpList P ops Q (ops.toList.drop m) (F x) w):(Code.region id ops G).wp P Q a0 w0:=by
 subst iV;refine wp_region_any hm (WR hT hB hmn hF hR hD hstep hend _ _ x0 _ ?_ Ek (fun j o _ h=>Ht) (fun j hj hjn=>by simp[hjn]) (hT.2.2 w0) (fun i hi h=> ?_));·exact Ejt
 ·exact Emu
def ku(Rel:H->H->Prop)(P:Program)(ops:Array EK)(Q:Exit->Act->H->Prop)(W:H)(F:(Nat->M)->Act)(R:Nat->(Nat->M)->H->Prop):Nat->List EK->Prop
 |_,[]=>True
 |i,o::l=>(∀x w,Rel W w->i6 R o x w->UJ Rel P ops Q F R i o x w)/\ku Rel P ops Q W F R (i+1) l
theorem ku.at{Rel:H->H->Prop}{W:H}{F:(Nat->M)->Act}{R:Nat->(Nat->M)->H->Prop}: ∀(l:List EK) (i:Nat),ku Rel P ops Q W F R i l-> ∀k o,l[k]?=X o-> ∀x w,Rel W w->i6 R o x w->UJ Rel P ops Q F R (i+k) o x w
 |[],_,_,_,_,h=>kJ
 |p::l,i,hs,0,o,h=>by simp at h;subst h;exact hs.1
 |p::l,i,hs,k+1,o,h=>by have:=ku.at l (i+1) hs.2 k o Ou;rw[show i+(k+1)=i+1+k from U];exact this
theorem WV(hT:Kept Rel){a0:Act}(hm:P.follows .mixedOrders=G)(m:Nat)(hB:bN l.toArray=G)(hmn:m=l.length)(hnd:(OU (l.take m)).Nodup)(R:Nat->(Nat->M)->H->Prop) (hR: ∀i x w w',i<m->R i x w->Rel w w'->R i x w') (hD: ∀i x y w,i<m->(∀k,(k=i\/fh l.toArray i k)->x k=y k)->R i x w->R i y w) (hstep:ku Rel P l.toArray Q w0 (fun x=>EB (l.take m) 0 x a0) R 0 (l.take m)) (hend: ∀x w,Rel w0 w->(∀i,i<m->R i x w)->wpList P l.toArray Q (l.drop m) (EB (l.take m) 0 x a0) w):(Code.region id l.toArray G).wp P Q a0 w0:=by
 have htk: ∀i o,i<m->l.toArray[i]?=X o->(l.take m)[i]?=X o:=fun i o hi ho=>by exact Ej_
 refine WT hT hm m hB pN (fun x=>EB (l.take m) 0 x a0) R (held (l.take m) a0) (fd a0 _ 0 _ ?_).symm (fun i o x v hi ho=> ?_) hR hD (fun i o x w hi ho hb hd=> ?_) hend;·exact EkY
 ·exact Ei0
 ·have:=ku.at _ 0 hstep i o (htk i o hi ho) x w hb hd;exact Ejy
theorem Ir(hT:Kept Rel){R:Nat->(Nat->M)->H->Prop}{o:EK}{v:M}(hw:IQ o (yielded ops (F x).tmps)=G) (hr:(execOp (F x).eval o).run P w= .ok (.value v) w) (h:R i (Jv x i v) w):UJ Rel P ops Q F R i o x w:=by unfold UJ;exact Emv
theorem Ep{P:Program}{ops:Array EK}{Q:Exit->Act->H->Prop}{R:Nat->(Nat->M)->H->Prop}{o:EK}{v:M}(hr:(execOp (F x).eval o).run P w= .ok (.value v) w)(h:R i (Jv x i v) w)(hw:o.guard=Z:=by rfl):UJ Jr P ops Q F R i o x w:=Ir EF (Ei hw) hr h
theorem XD{R:Nat->(Nat->M)->H->Prop}{o:EK}{v:M}(hw:IQ o (yielded ops (F x).tmps)=G) (hr:(execOp (F x).eval o).run P w= .ok (.value v) w') (hb:Rel w w') (h:R i (Jv x i v) w'):UJ Rel P ops Q F R i o x w:=by unfold UJ;exact ElX
theorem IY{R:Nat->(Nat->M)->H->Prop}{o:EK}(hw:IQ o (yielded ops (F x).tmps)=G) (hr:(execOp (F x).eval o).run P w= .ok (.enter f args) w) (hc:Ef P f args w fun e w'=> ∃v,e=Eg v/\Rel w w'/\R i (Jv x i v) w'):UJ Rel P ops Q F R i o x w:=by unfold UJ;exact Eki
theorem Xh{R:Nat->(Nat->M)->H->Prop}{o:EK}(hw:IQ o (yielded ops (F x).tmps)=Y)(h:R i (Jv x i undef) w):UJ Rel P ops Q F R i o x w:=by unfold UJ;rw[if_neg (by rw[hw];exact Bool.false_ne_true)];exact h
end
def RX(S:Nat->M->H->Prop)(j k:Nat)(S2:M->H->Prop):Nat->(Nat->M)->H->Prop:=fun i x w=>if i=j then S2 (x k) w else S i (x i) w
theorem RX.keep{S:Nat->M->H->Prop}{m:Nat}(h1: ∀i v w w',i<m->S i v w->Rel w w'->S i v w')(h2: ∀v w w',S2 v w->Rel w w'->S2 v w'): ∀i x w w',i<m->RX S j k S2 i x w->Rel w w'->RX S j k S2 i x w':=by
 intro i x w w' hi h hb;unfold RX at*;split;·rename_i e;rw[if_pos e] at h;exact h2 _ _ _ h hb
 ·rename_i e;rw[if_neg e] at h;exact h1 _ _ _ _ hi h hb
theorem RX.dep{S:Nat->M->H->Prop}{m:Nat}(hw:fh ops j k): ∀i x y w,i<m->(∀q,(q=i\/fh ops i q)->x q=y q)->RX S j k S2 i x w->RX S j k S2 i y w:=by
 intro i x y w hi hq h;unfold RX at*;split;·rename_i e;rw[if_pos e] at h;subst e;rw[<-hq k (.inr hw)];exact h
 ·rename_i e;rw[if_neg e] at h;rw[<-hq i (.inl rfl)];exact h
theorem p6(h:(match ops[i]? with|some o=>o.after.toList.any (fun e=>Region.binds .any e&&e.on==k)|none=>false)=G):fh ops i k:=by
 cases ho:ops[i]? with
 |none=>rw[ho] at h;cases h
 |some o=> rw[ho] at h;obtain⟨e,he,hb⟩:=List.any_eq_true.1 h;simp only[Bool.and_eq_true,beq_iff_eq] at hb;exact⟨o,e,ho,Array.mem_toList_iff.1 he,hb.1,hb.2⟩
section
variable{P:Program}{ops:Array Oper}{Q:Exit->Act->World->Prop}{Rel:World->World->Prop}{F:(Nat->Value)->Act}{R:Nat->(Nat->Value)->World->Prop}{i:Nat}{o:Oper}{x:Nat->Value}{w:World}
theorem ag{T:Ez}{n:Nat}{old:Array M}(hA:ID P T n)(hw:IQ o (yielded ops (F x).tmps)=G)(hl:nX o (F x) T g cs)(hg:D w g old T)(ho:old.size=n)(hn:cs.size=n) (h1:cs.all (·.oneCell')=G) (hb:Rel w (w.setRow g cs)) (h:R i (Jv x i undef) (w.setRow g cs)):UJ Rel P ops Q F R i o x w:=by
 obtain⟨-,hi⟩:=hA;unfold nX at hl;split at hl
 ·rename_i t a b hop;obtain⟨rfl,hx,hy⟩:=hl;unfold UJ;rw[if_pos hw];have hrun:(execOp (F x).eval o).run P w= .ok .skip (w.setRow g cs):=by unfold execOp;simp only[hop,hx,hy,Instr.storeAt,Instr.sureAddr,Sem.run_bind,Sem.run_pure,Result.andThen_ok,run_storeVar_row _ g t t old cs hg bG (by rw[ho,hn]) h1]
  unfold Oper.wp;rw[hrun];exact⟨undef,rfl,hb,h⟩
 ·exact hl.elim
theorem fi(hT:Kept Rel){T:Ez}{n g:Nat}{cs:Array M}(hA:ID P T n)(hw:IQ o (yielded ops (F x).tmps)=G) (hl:fb o (F x) T g) (hg:D w g cs T) (hn:cs.size=n) (h:R i (Jv x i (EU cs)) w):UJ Rel P ops Q F R i o x w:=by
 obtain⟨⟨d,hu,hd⟩,hi⟩:=hA;unfold fb at hl;split at hl
 ·rename_i t y ho;obtain⟨rfl,hx⟩:=hl;refine Ir hT hw ?_ h;have hrun:(loadVar t ⟨g,0,Z⟩).run P w= .ok (EU cs) w:=by cases d<;>first|(cases hd;done)|exact run_loadVar_row w g t t cs (0,0) _ hg hu rfl bG
  unfold execOp;exact Eiv
 ·exact hl.elim
theorem ah(hT:Kept Rel){T TB:Ez}{n g off:Nat}{cs big:Array M}(hA:ID P T n)(hw:IQ o (yielded ops (F x).tmps)=G) (hl:gC o (F x) T g off) (hg:D w g big TB) (hn:cs.size=n) (he:big.extract off (off+n)=cs) (h:R i (Jv x i (EU cs)) w):UJ Rel P ops Q F R i o x w:=by
 obtain⟨⟨d,hu,hd⟩,hi⟩:=hA;unfold gC at hl;split at hl;·rename_i t y ho;obtain⟨rfl,hx⟩:=hl;refine Ir hT hw ?_ h;exact EmN
 ·exact hl.elim
end
def i7(b0:Nat)(T:Ez)(cs:Array M)(w w':H):Prop:=
 w.heap.size<=w'.heap.size/\(b0<=w.heap.size->Below b0 w w')/\
 ∀(g:Nat) (c:Array M) (S:Ez),D w g c S->D w' g c S\/(b0<=g/\S=T/\c.size=cs.size/\D w' g cs S)
theorem dO{T:Ez}:Kept (i7 b0 T cs):=by
 refine⟨fun w=>⟨E5 _,fun _=>E6 _ _,fun g c S h=> .inl h⟩,?_,fun w=>⟨E5 _,fun _=>(E6 _ _).drew,fun g c S h=> .inl h⟩⟩;rintro a b c ⟨h1,h2,h3⟩ ⟨k1,k2,k3⟩;refine⟨Ey h1 k1,fun h=>(h2 h).trans (k2 (Ey h h1)),fun g d S hg=> ?_⟩;rcases h3 g d S hg with h|⟨l,e,z,h⟩;·exact k3 g d S h
 ·rcases k3 g cs S h with h'|⟨l',e',z',h'⟩;·exact .inr ⟨l,e,z,h'⟩
  ·exact .inr ⟨l,e,z,h'⟩
theorem Kk{T:Ez}(hb:Eh w w'):i7 b0 T cs w w':=⟨hb.size,fun h=>hb.mono h,fun g c S h=> .inl (h.B hb)⟩
theorem WW{T:Ez}{old:Array M}(hk:D w g old T)(hg:b0<=g)(hs:old.size=cs.size):i7 b0 T cs w (w.setRow g cs):=by
 refine⟨Ek,fun h=>E2 (g:=g) (E6 b0 w) hg cs,fun k c S h=> ?_⟩;by_cases e:k=g;·subst e;have e2:=(show X (Obj.cells c S (0,0))=X (Obj.cells old T (0,0)) from h.symm.trans hk);injection e2 with e2;injection e2 with e3 e4;subst e3 e4;exact .inr ⟨hg,O,hs,hk.setRow cs⟩
 ·exact .inl (h.setRow_other g cs e)
theorem Kl{T:Ez}{c:Array M}(h:i7 b0 T cs w w')(hk:D w g c S)(hn:g<b0\/S≠T\/c.size≠cs.size):D w' g c S:=by
 rcases h.2.2 g c S hk with h1|⟨l,e,z,-⟩;·exact h1
 ·rcases hn with hn|hn|hn;·omega
  ·exact absurd e hn
  ·exact absurd z hn
theorem WY{T:Ez}{c:Array M}(h:i7 b0 T cs w w')(hk:D w g c T)(hs:c.size=cs.size): ∃c',c'.size=cs.size/\D w' g c' T:=by
 rcases h.2.2 g c T hk with h1|⟨-,-,-,h1⟩;·exact⟨c,hs,h1⟩
 ·exact⟨cs,O,h1⟩
theorem W_{T:Ez}(h:i7 b0 T cs w w')(hk:D w g cs T):D w' g cs T:=by
 rcases h.2.2 g cs T hk with h1|⟨-,-,-,h1⟩;·exact h1
 ·exact h1
end Go.Proofs.YtclmichaaiohjaaGreatDoor
