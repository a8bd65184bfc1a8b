import Derived.Test.YtclmichaaiohjaaGreatDoorR02
import Derived.LaidMore
import Derived.Laws.BitsAllLaws
import Derived.Lib.SlBytesConst
import Derived.Outline
import Derived.StillTailTactics
set_option maxRecDepth 100000
set_option linter.unusedVariables false
set_option linter.unusedSimpArgs false
set_option maxHeartbeats 6400000
namespace Go.Proofs.YtclmichaaiohjaaGreatDoor
open RowKit
open BitVec renaming ofInt->gY
open Bool renaming true->u,false->B
open Go renaming bits->Ix,World->M,Calls->Ef,TypeId->EC,Value->V,Addr->Eu,Program->Js,heap_alloc_new->fL,bodyPost_ret->ET,Act->E6,Oper->EN,execOp->Iw,wpList->IZ,Operand->UH,info_parts->bQ,below_setRow->E3,wpQuiet_nil->IM,wp_loop_rounds->O9,rounds_succ->Ic,Ending->Ut,wpList_store_mid->OH
open Act renaming put->In
open BinOp renaming and->kK
open Ending renaming returned->Eg
open Instr renaming loadAt->fN,sureAddr->dU,index->JY
open IntKind renaming i64->I,u8->IP,u64->Il,u32->Ou
open Lib renaming hid->O
open Obj renaming cells->EJ
open Go.Proofs.Tryz renaming prog->EU,func156->kL,ntmps156->kP
open Result renaming andThen_ok->Uf
open RowKit renaming Hid->Ea,intOf->Iv
open RowKit.Below renaming refl->IE,heap_setCell->XM,alloc->JH,setCell->JK
open Sem renaming run_bind->Ud,run_pure->UU
open Value renaming bool->Ec,int->E,agg->EZ,slice->EI,tuple->Et,pointer->Y,oneCell'->OC
open World renaming block_lt_of_cell?->XA,setCell->dW,alloc->UN
open List renaming getElem?_eq_none->aM,mem_of_mem_take->fK,eq_nil_of_length_eq_zero->aN,getElem?_eq_getElem->Ok,take_append_drop->hU,take_succ_cons->Ir,length_take->aj,replicate->hX,take_of_length_le->UZ,getD_eq_getElem?_getD->UK,getElem?_take_of_lt->bN,take_zero->Im,mem_map->da,getElem?_toArray->Og,setIfInBounds_toArray->Ip,length_append->I2,length_cons->ZV,mem_cons->Ui,getElem_mem->hH,append_assoc->U9,set_cons_succ->Ig,set_cons_zero->Ih,mem_append->XP,nil_append->Z8,not_mem_nil->UP,drop_succ_cons->IL,drop_zero->IG,append_nil->fc
open Nat renaming lt_or_ge->JG,le_refl->E7,zero_add->JV,zero_le->bY
open Option renaming some->D,none->Z
variable{n o m s s' g:Nat}{f q:Nat->V}{w w' W:M}{T:EP}{l k:List Int}{a:E6}{P:Js}{K:E6->Prop}{cs:Array V}{t:EC}{x y:Int}
def iU(k:V):Nat->V:=fun i=>if i<5 then E I i else if i=8 then k else if i<8 then .slice Z 0 0 else E I 0
theorem EOw(Y4:Option Eu)(n c:Nat):Tryz.prog.built 28 [(0,EZ #[E I 0,E I 1,E I 2,E I 3,E I 4]),(2,EI Y4 n c)]=D (EK 56 (iU (EI Y4 n c))):=Ed
theorem Qj(h: ∀i,i<n->(f i).oneCell'=u):(EK n f).all (·.oneCell')=u:=by rw[Array.all_eq_true];intro i hi;rw[r_];exact h i Ug
theorem EOx(Y4:Option Eu)(n c:Nat): ∀i,i<56->(iU (EI Y4 n c) i).oneCell'=u:=by
 intro i hi;unfold iU;split;·rfl
 ·split;·rfl
  ·split<;>rfl
def U2(i:Nat):Nat:=if i=9 then 1 else if i<13 then 14 else if i=13 then 0 else if i<34 then 15 else if i<39 then 31 else if i<42 then 4 else if i<48 then 1000 else if i<50 then 3 else if i=50 then 0 else if i<55 then 1000 else 65535
def Zf(i:Nat):Nat:=if i=9 then 1 else if i<42 then 0 else if i<47 then 1 else if i=47 then 0 else if i<50 then 1 else if i=54 then 1 else 0
def aW(i n:Nat):Prop:=Zf i<=n/\n<=U2 i/\(9<i->i<13->n%2=0)
structure Wk(w:M)(lo o m s:Nat)(q:Nat->V):Prop where
 o0:q 0=E I 0
 o4:q 4=E I 4
 perm: ∃a b c:Nat,q 1=E I a/\q 2=E I b/\q 3=E I c/\1<=a/\a<=3/\1<=b/\b<=3/\1<=c/\c<=3/\a≠b/\a≠c/\b≠c
 keys: ∀i,5<=i->i<=7->(i<5+m/\XG w lo o (q i))\/(5+m<=i/\q i=EI Z 0 0)
 kA:XG w lo o (q 8)
 int: ∀i,9<=i->i<56-> ∃n:Nat,q i=E I n/\n<=U2 i/\(i<s->aW i n)
theorem Wk.G{lo:Nat}(h:Wk w lo o m s q)(hb:El w w'):Wk w' lo o m s q:=
 ⟨h.o0,h.o4,h.perm,fun i h1 h2=>(h.keys i h1 h2).imp (fun k=>⟨k.1,k.2.G hb⟩) id,h.kA.G hb,h.int⟩
theorem Wk.world{lo:Nat}(h:Wk w lo o m s q)(i:Nat)(Y3:V):Wk (w.setCell ⟨o,i,Z⟩ Y3) lo o m s q:=
 ⟨h.o0,h.o4,h.perm,fun i h1 h2=>(h.keys i h1 h2).imp (fun k=>⟨k.1,k.2.set _ _⟩) id,h.kA.set _ _,h.int⟩
theorem Wk.setInt{lo:Nat}(h:Wk w lo o m s q)(i n:Nat)(h9:9<=i)(hn:aW i n)(hs:s'<=s\/s'<=i+1/\i<=s):Wk (w.setCell ⟨o,i,Z⟩ (E I n)) lo o m s' (Uk q i (E I n)):=by
 have h:=h.world i (E I n);have e: ∀j,j≠i->Uk q i (E I n) j=q j:=fun j hj=>m0 _ _ _ _ hj;refine⟨by rw[e _ X];exact h.o0,by rw[e _ X];exact h.o4,?_,fun j h1 h2=>by rw[e _ X];exact h.keys j h1 h2,by rw[e _ X];exact h.kA,fun j h1 h2=> ?_⟩;·rw[e _ X,e _ X,e _ X];exact h.perm
 ·by_cases hj:j=i;·subst hj;exact⟨n,uy _ _ _,hn.2.1,fun _=>hn⟩
  ·rw[e _ hj];obtain⟨k,e1,e2,e3⟩:=h.int j h1 h2;exact⟨k,e1,e2,fun h=>e3 X⟩
theorem Wk.uA{lo:Nat}(h:Wk w lo o m s q)(i:Nat)(v:V)(hi:i=5+m)(h7:i<=7)(hk:XG w lo o v):Wk (w.setCell ⟨o,i,Z⟩ v) lo o (m+1) s (Uk q i v):=by
 have h:=h.world i v;have e: ∀j,j≠i->Uk q i v j=q j:=fun j hj=>m0 _ _ _ _ hj;refine⟨by rw[e _ X];exact h.o0,by rw[e _ X];exact h.o4,?_,fun j h1 h2=> ?_,by rw[e _ X];exact h.kA,fun j h1 h2=>by rw[e _ X];exact h.int j h1 h2⟩;·rw[e _ X,e _ X,e _ X];exact h.perm
 ·by_cases hj:j=i;·subst hj;exact .inl ⟨X,by rw[uy];exact hk.set _ _⟩
  ·rw[e _ hj];rcases h.keys j h1 h2 with⟨k1,k2⟩|⟨k1,k2⟩;·exact .inl ⟨X,k2⟩
   ·exact .inr ⟨X,k2⟩
structure OF(W:M)(f:Nat->V)(o m s:Nat)(q:Nat->V)(w:M):Prop where
 out:w.heap[o]?=D (EJ (EK 56 q) 28 (0,0))
 src:w.heap[W.heap.size]?=D (EJ (EK 56 f) 28 (0,0))
 res: ∃r,w.heap[W.heap.size+1]?=D (EJ (EK 56 r) 28 (0,0))
 bel:El W w
 lo:W.heap.size+2<=o
 wk:Wk w (W.heap.size+2) o m s q
theorem OF.G(h:OF W f o m s q w)(hb:El w w'):OF W f o m s q w':=by obtain⟨r,hr⟩:=h.res;exact⟨Xr h.out hb,Xr h.src hb,⟨r,Xr hr hb⟩,h.bel.trans (hb.mono h.bel.size),h.lo,h.wk.G hb⟩
theorem OF.set'{m':Nat}(h:OF W f o m s q w)(i:Nat)(v:V)(hw:Wk (w.setCell ⟨o,i,Z⟩ v) (W.heap.size+2) o m' s' (Uk q i v)):OF W f o m' s' (Uk q i v) (w.setCell ⟨o,i,Z⟩ v):=by
 obtain⟨r,hr⟩:=h.res;have hlo:=h.lo;refine⟨?_,?_,⟨r,?_⟩,h.bel.setCell (p:=⟨o,i,Z⟩) U3 v,h.lo,hw⟩;·rw[<-ux];exact mj h.out i v
 ·rw[XM _ _ _ _ U3];exact h.src
 ·rw[XM _ _ _ _ U3];exact hr
theorem OF.setInt(s':Nat)(h:OF W f o m s q w)(i n:Nat)(h9:9<=i)(hn:aW i n)(hs:s'<=s\/s'<=i+1/\i<=s):OF W f o m s' (Uk q i (E I n)) (w.setCell ⟨o,i,Z⟩ (E I n)):=h.set' i _ (h.wk.setInt i n h9 hn hs)
theorem OF.uA(h:OF W f o m s q w)(i:Nat)(v:V)(h5:i=5+m)(h7:i<=7)(hk:XG w (W.heap.size+2) o v):OF W f o (m+1) s (Uk q i v) (w.setCell ⟨o,i,Z⟩ v):=h.set' i _ (h.wk.uA i v h5 h7 hk)
theorem OF.order(h:OF W f o m s q w)(i k a b c:Nat)(vi vk:V)(i1:1<=i)(i3:i<=3)(k1:1<=k)(k3:k<=3) (ha:Uk (Uk q i vi) k vk 1=E I a) (hb:Uk (Uk q i vi) k vk 2=E I b) (hc:Uk (Uk q i vi) k vk 3=E I c) (a1:1<=a) (a3:a<=3) (b1:1<=b) (b3:b<=3) (c1:1<=c) (c3:c<=3) (ab:a≠b) (ac:a≠c) (bc:b≠c): OF W f o m s (Uk (Uk q i vi) k vk) ((w.setCell ⟨o,i,Z⟩ vi).setCell ⟨o,k,Z⟩ vk):=by
 obtain⟨r,hr⟩:=h.res;have hlo:=h.lo;have hw:=(h.wk.world i vi).world k vk;have e: ∀j,j<1\/3<j->Uk (Uk q i vi) k vk j=q j:=fun j hj=>by rw[m0 _ _ _ _ X,m0 _ _ _ _ X]
 refine⟨?_,?_,⟨r,?_⟩,(h.bel.setCell (p:=⟨o,i,Z⟩) U3 vi).setCell (p:=⟨o,k,Z⟩) U3 vk,h.lo,
  ⟨by rw[e _ X];exact hw.o0,by rw[e _ X];exact hw.o4,⟨a,b,c,ha,hb,hc,a1,a3,b1,b3,c1,c3,ab,ac,bc⟩,fun j h1 h2=>by rw[e _ X];exact hw.keys j h1 h2,by rw[e _ X];exact hw.kA,fun j h1 h2=>by rw[e _ X];exact hw.int j h1 h2⟩⟩
 ·rw[<-ux,<-ux];exact mj (mj h.out i vi) k vk
 ·rw[XM _ _ _ _ U3,XM _ _ _ _ U3];exact h.src
 ·rw[XM _ _ _ _ U3,XM _ _ _ _ U3];exact hr
theorem OF.Zg(s':Nat)(h:OF W f o m s q w)(i n:Nat)(z:Int)(hz:z=n)(h9:9<=i)(hn:aW i n)(hs:s'<=s\/s'<=i+1/\i<=s):OF W f o m s' (Uk q i (E I z)) (w.setCell ⟨o,i,Z⟩ (E I z)):=by subst hz;exact h.setInt s' i n h9 hn hs
theorem OF.skip(s':Nat)(h:OF W f o m s q w)(hs: ∀i,s<=i->i<s'->Zf i=0/\13<=i):OF W f o m s' q w:=by
 refine⟨h.out,h.src,h.res,h.bel,h.lo,h.wk.o0,h.wk.o4,h.wk.perm,h.wk.keys,h.wk.kA,fun i h1 h2=> ?_⟩;obtain⟨n,e1,e2,e3⟩:=h.wk.int i h1 h2;refine⟨n,e1,e2,fun hi=> ?_⟩;by_cases c:i<s;·exact e3 c
 ·have:=hs i X hi;exact⟨X,e2,fun _ h=>X⟩
theorem OF.drew(h:OF W f o m s q w):OF W f o m s q w.drew:=
 h.G (Jk w)
structure dg(w:M)(g:Nat->V):Prop where
 o0:g 0=E I 0
 o4:g 4=E I 4
 perm: ∃a b c:Nat,g 1=E I a/\g 2=E I b/\g 3=E I c/\1<=a/\a<=3/\1<=b/\b<=3/\1<=c/\c<=3/\a≠b/\a≠c/\b≠c
 keys: ∀i,5<=i->i<=8-> ∃(A:Option Eu) (n cap:Nat) (ys:List Int) (base:Nat),g i=EI A n cap/\ys.length=n/\Own w base A cap ys/\1<=n/\n<=64
 int: ∀i,9<=i->i<56-> ∃n:Nat,g i=E I n/\aW i n
theorem dg.G{g:Nat->V}(h:dg w g)(hb:El w w'):dg w' g:=
 ⟨h.o0,h.o4,h.perm,fun i h1 h2=>by obtain⟨A,n,cap,ys,base,e,l,ho,r⟩:=h.keys i h1 h2;exact⟨A,n,cap,ys,base,e,l,ZW ho hb,r⟩,h.int⟩
theorem OF.done(h:OF W f o 3 56 q w):dg (w.setRow (W.heap.size+1) (EK 56 q)) q:=by
 refine⟨h.wk.o0,h.wk.o4,h.wk.perm,fun i h1 h2=> ?_,fun i h1 h2=> ?_⟩
 ·have hk:XG w (W.heap.size+2) o (q i):=by
   rcases JG i 8 with h8|h8
   ·rcases h.wk.keys i h1 X with k|k;·exact k.2
    ·omega
   ·obtain rfl:i=8:=X;exact h.wk.kA
  obtain⟨A,n,cap,ys,base,e,l,ho,r1,r2,-⟩:=(hk.other (p:=W.heap.size+1) X).keep (w':=w.setRow (W.heap.size+1) (EK 56 q)) (fun k hk=>setRow_other _ _ _ _ hk);exact⟨A,n,cap,ys,base,e,l,ho,r1,r2⟩
 ·obtain⟨n,e1,e2,e3⟩:=h.wk.int i h1 h2;exact⟨n,e1,e3 h2⟩
theorem OF.one(h:OF W f o 3 s q w): ∀i,i<56->(q i).oneCell'=u:=by
 intro i hi;obtain⟨a,b,c,e1,e2,e3,-⟩:=h.wk.perm;by_cases h9:9<=i;·obtain⟨n,e,-⟩:=h.wk.int i h9 hi;rw[e];rfl
 ·by_cases h5:5<=i
  ·have hk:XG w (W.heap.size+2) o (q i):=by
    rcases JG i 8 with h8|h8
    ·rcases h.wk.keys i h5 X with k|k;·exact k.2
     ·omega
    ·obtain rfl:i=8:=X;exact h.wk.kA
   obtain⟨A,n,cap,ys,base,e,-⟩:=hk;rw[e];rfl
  ·rcases(show i=0\/i=1\/i=2\/i=3\/i=4 from X) with rfl|rfl|rfl|rfl|rfl;·rw[h.wk.o0];rfl
   ·rw[e1];rfl
   ·rw[e2];rfl
   ·rw[e3];rfl
   ·rw[h.wk.o4];rfl
theorem Gb(a:Int): ∃n:Nat,Ix .and .i64 a 14=n/\n<=14/\n%2=0:=by
 refine⟨(gY 64 a&&&gY 64 14).toNat,?_,?_,?_⟩
 ·show IntKind.i64.wrap _=_;apply IntWalk.i64_in;have:(gY 64 a&&&gY 64 14).toNat<=14:=by rw[BitVec.toNat_and];exact Nat.and_le_right
  show _<=((gY 64 a&&&gY 64 14).toNat:Int)/\((gY 64 a&&&gY 64 14).toNat:Int)<=_;omega
 ·rw[BitVec.toNat_and];exact Nat.and_le_right
 ·rw[BitVec.toNat_and];have:=Nat.and_mod_two_pow (a:=(gY 64 a).toNat) (b:=(gY 64 14).toNat) (n:=1);rw[Nat.pow_one] at this;rw[this];exact Nat.and_zero _
theorem EOy(i:Nat)(h1:14<=i)(h2:i<39):Zf i=0/\13<=i:=by unfold Zf;rw[if_neg X,if_pos X];omega
theorem EOz(i:Nat)(h1:50<=i)(h2:i<54):Zf i=0/\13<=i:=by unfold Zf;rw[if_neg X,if_neg X,if_neg X,if_neg X,if_neg X,if_neg X];omega
theorem EOA(i n:Nat)(h1:14<=i)(h2:i<34)(hn:n<=15):aW i n:=by unfold aW Zf U2;rw[if_neg X,if_pos X,if_neg X,if_neg X,if_neg X,if_pos X];exact⟨X,hn,fun _ h=>X⟩
theorem EOB(i n:Nat)(h1:34<=i)(h2:i<39)(hn:n<=31):aW i n:=by unfold aW Zf U2;rw[if_neg X,if_pos X,if_neg X,if_neg X,if_neg X,if_neg X,if_pos X];exact⟨X,hn,fun _ h=>X⟩
theorem EOC(i n:Nat)(h1:51<=i)(h2:i<54)(hn:n<=1000):aW i n:=by
 unfold aW Zf U2;refine⟨?_,?_,fun _ h=>X⟩
 ·repeat (first|rw[if_neg X]|rw[if_pos X])
  omega
 ·rw[if_neg X,if_neg X,if_neg X,if_neg X,if_neg X,if_neg X,if_neg X,if_neg X,if_neg X,if_pos X];exact hn
theorem zA:(Tryz.prog.info? 28).map (·.size)=D 56:=Ed
def EOD(w:M)(e:Ut):Prop:= ∃g,e=Eg (EZ (EK 56 g))/\dg w g
theorem EOF(f:Nat->V)(w:M)(hp:uz w f): Ef EU 9 #[EZ (EK 56 f)] w fun e w'=>EOD w' e/\El w w':=by
 obtain⟨A8,xs8,EOH,e8,l8,c8,r8,-⟩:=hp.key 8 X X;have HP:=O hp;clear hp;go_enter Tryz.func9,Tryz.ntmps9;go_wp2_with fail;refine(zy A8 xs8 EOH _ (Iy r8 (J9 w _ _)) l8 c8).mono ?_;rintro e w1 ⟨⟨B8,n8,d8,Qk,rfl,jl,Ql,k1,k2⟩,b1⟩;have B1:=O b1;clear b1 r8;have HO8:=O Ql;clear Ql l8 c8;have HH:=O e8;clear e8;go_wp2_with (with_reducible refine I7 15 ?_);apply Eo;refine I3 ?g1 28 #[(0,.tmp 11),(2,.tmp 14)] ?g2 (EK 56 (iU (EI B8 n8 d8))) ?he ?_;case g1=>rfl
 case g2=>rfl
 case he=>exact EOw B8 n8 d8
 go_wp2_with ((with_reducible show IZ _ _ _ (⟨Z,.store _ (.tmp 3) (.tmp 15),_,_,_,_⟩::_) _ _);refine Ev.mk ?_);apply Eo;refine wpList_store_row ?g1 28 (.tmp 3) (.tmp 15) ?g2 w1.heap.size (EK 56 (iU (EI B8 n8 d8))) ?h1 ?h2 28 ?old ?h3 ?h4 ?h5 ?h6 ?_;case g1=>rfl
 case g2=>rfl
 case h1=>rfl
 case h2=>rfl
 case h3=>exact fL _ _
 case h4=>exact zA
 case h5=>rfl
 case h6=>exact Qj (EOx B8 n8 d8)
 rw[World.setRow_alloc_new]
 have hst:OF w f w1.heap.size 0 9 (iU (EI B8 n8 d8)) (w1.alloc (EJ (EK 56 (iU (EI B8 n8 d8))) 28)):=by
  obtain⟨z1,z2,z3⟩:=N4 B1.out;rw[Qh (#[E I 0,_,_,_,_,_,_,_,_,_,_,_,_,_,_,_,_,_,_,_,_,_,_,_,_,_,_,_,_,_,_,_,_,_,_,_,_,_,_,_,_,_,_,_,_,_,_,_,_,_,_,_,_,_,_,_]:Array V) 56 rfl] at z2;have bw:El w1 (w1.alloc (EJ (EK 56 (iU (EI B8 n8 d8))) 28)):=Ep _ _;refine⟨fL _ _,Xr z1 bw,⟨_,Xr z2 bw⟩,yH (yH (J9 _ _ _) B1.out Eh) bw X,X,?_⟩;refine Wk.G ⟨U,U,⟨1,2,3,U,U,U,X,X,X,X,X,X,X,X,X⟩,fun i h1 h2=> .inr ⟨X,?_⟩,XG.new jl HO8.out k1 k2 (.inr (E7 _)) Eh,fun i h1 h2=>⟨0,?_,bY _,fun h=>X⟩⟩ bw;·unfold iU;rw[if_neg X,if_neg X,if_pos X]
  ·unfold iU;rw[if_neg X,if_neg X,if_neg X];rfl
 generalize w1.alloc (EJ (EK 56 (iU (EI B8 n8 d8))) 28)=wa at*;have HST:=O hst;clear hst;go_wp2_with fail;go_loopw[4] (fun y wr=> ∃(i:Nat) (q:Nat->V),y=E I i/\1<=i/\i<=3/\OF w f w1.heap.size 0 9 q wr) (fun y _=>3-(Iv y).toNat);case atStart=>exact⟨1,_,U,X,X,HST.out⟩
 case round=>
  obtain⟨i,q,rfl,hi1,hi3,hs⟩:=hrel;clear HST;obtain⟨cO,fO⟩:=Ja hs.out;obtain⟨cS,-⟩:=Ja hs.src;have hne:w.heap.size≠w1.heap.size:=by have:=hs.lo;omega
  obtain⟨a,b,c,qa,qb,qc,a1,a3,b1,b3,c1,c3,ab,ac,bc⟩:=hs.wk.perm;have q0:=hs.wk.o0;have q4:=hs.wk.o4;have HS:=O hs;clear hs;rcases(show i=1\/i=2\/i=3 from X) with rfl|rfl|rfl
  ·obtain⟨e1,m1,m2⟩:=HP.out.int 1 X X;obtain⟨p1,hp1⟩:=Jo (Iv (f 1));rw[hp1] at e1 m1 m2;go_wp2_with fail;refine(cZ p1 3 _ X X X X).mono ?_;rintro e wm ⟨rfl,rfl⟩;rcases(show p1%3=0\/p1%3=1\/p1%3=2 from X) with h|h|h<;>rw[h];·go_wp2;exact⟨⟨2,_,U,X,X,HS.out.order 1 1 a b c _ _ X X X X cg cg cg X X X X X X X X X⟩,Zt⟩
   ·go_wp2;exact⟨⟨2,_,U,X,X,HS.out.order 1 2 b a c _ _ X X X X cg cg cg X X X X X X X X X⟩,Zt⟩
   ·go_wp2;exact⟨⟨2,_,U,X,X,HS.out.order 1 3 c b a _ _ X X X X cg cg cg X X X X X X X X X⟩,Zt⟩
  ·obtain⟨e1,m1,m2⟩:=HP.out.int 2 X X;obtain⟨p1,hp1⟩:=Jo (Iv (f 2));rw[hp1] at e1 m1 m2;go_wp2_with fail;refine(cZ p1 2 _ X X X X).mono ?_;rintro e wm ⟨rfl,rfl⟩;rcases(show p1%2=0\/p1%2=1 from X) with h|h<;>rw[h];·go_wp2;exact⟨⟨3,_,U,X,X,HS.out.order 2 2 a b c _ _ X X X X cg cg cg X X X X X X X X X⟩,Zt⟩
   ·go_wp2;exact⟨⟨3,_,U,X,X,HS.out.order 2 3 a c b _ _ X X X X cg cg cg X X X X X X X X X⟩,Zt⟩
  ·go_wp2_with fail;clear cO fO cS qa qb qc q0 q4 a1 a3 b1 b3 c1 c3 ab ac bc;simp only[show((3:Nat):Int)=3 from rfl];go_loopw[7] (fun y wr=> ∃(i:Nat) (q:Nat->V),y=E I i/\i<=3/\OF w f w1.heap.size i 9 q wr) (fun y _=>3-(Iv y).toNat);case atStart=>exact⟨0,_,U,X,HS.out⟩
   case round=>
    clear HS a b c;obtain⟨i,q,rfl,hi3,hs⟩:=hrel;obtain⟨cO,fO⟩:=Ja hs.out;obtain⟨cS,-⟩:=Ja hs.src;have HS:=O hs;clear hs;rcases(show i=0\/i=1\/i=2\/i=3 from X) with rfl|rfl|rfl|rfl;·obtain⟨A,xs,cap,e,l,c,r,-⟩:=HP.out.key 5 X X;have hr:=Iy r (Below.mono HS.out.bel (E7 _));clear r;go_wp2_with fail;refine(zy A xs cap _ hr l c).mono ?_;rintro e w2 ⟨⟨Y4,n,d,ys,rfl,hl,ho,k1,k2⟩,b1⟩;have hs2:=HS.out.G b1;have hlt:=mh HS.out.out;clear cO fO cS hr;obtain⟨cO,fO⟩:=Ja hs2.out;have HS2:=O<|hs2.uA 5 (EI Y4 n d) U X (XG.new hl ho k1 k2 (.inl hlt) zB);clear hs2 ho b1 hlt HS k1 k2 hl l c;go_wp2;exact⟨⟨1,_,U,X,HS2.out⟩,Zt⟩
    ·obtain⟨A,xs,cap,e,l,c,r,-⟩:=HP.out.key 6 X X;have hr:=Iy r (Below.mono HS.out.bel (E7 _));clear r;go_wp2_with fail;refine(zy A xs cap _ hr l c).mono ?_;rintro e w2 ⟨⟨Y4,n,d,ys,rfl,hl,ho,k1,k2⟩,b1⟩;have hs2:=HS.out.G b1;have hlt:=mh HS.out.out;clear cO fO cS hr;obtain⟨cO,fO⟩:=Ja hs2.out;have HS2:=O<|hs2.uA 6 (EI Y4 n d) U X (XG.new hl ho k1 k2 (.inl hlt) zB);clear hs2 ho b1 hlt HS k1 k2 hl l c;go_wp2;exact⟨⟨2,_,U,X,HS2.out⟩,Zt⟩
    ·obtain⟨A,xs,cap,e,l,c,r,-⟩:=HP.out.key 7 X X;have hr:=Iy r (Below.mono HS.out.bel (E7 _));clear r;go_wp2_with fail;refine(zy A xs cap _ hr l c).mono ?_;rintro e w2 ⟨⟨Y4,n,d,ys,rfl,hl,ho,k1,k2⟩,b1⟩;have hs2:=HS.out.G b1;have hlt:=mh HS.out.out;clear cO fO cS hr;obtain⟨cO,fO⟩:=Ja hs2.out;have HS2:=O<|hs2.uA 7 (EI Y4 n d) U X (XG.new hl ho k1 k2 (.inl hlt) zB);clear hs2 ho b1 hlt HS k1 k2 hl l c;go_wp2;exact⟨⟨3,_,U,X,HS2.out⟩,Zt⟩
    ·have HS:=O<|HS.out.skip 9 X;obtain⟨f10,b10,t10⟩:=HP.out.int 10 X X;obtain⟨f11,b11,t11⟩:=HP.out.int 11 X X;obtain⟨f12,b12,t12⟩:=HP.out.int 12 X X;obtain⟨n10,Ul,c10,d10⟩:=Gb (Iv (f 10));obtain⟨n11,Oi,c11,d11⟩:=Gb (Iv (f 11));obtain⟨n12,a12,c12,d12⟩:=Gb (Iv (f 12));generalize Iv (f 10)=p10 at*;generalize Iv (f 11)=p11 at*;generalize Iv (f 12)=p12 at*;have hne:w.heap.size≠w1.heap.size:=zB;go_wp2_with fail;have HS2:=O<|((((HS.out.Zg 10 9 1 1 rfl X Z9 X).Zg 11 10 n10 _ U X Z9 X).Zg 12 11 n11 _ U X Z9 X).Zg 13 12 n12 _ U X Z9 X).Zg 14 13 0 0 rfl X Z9 X;clear HS cO fO cS f10 f11 f12 b10 b11 b12 t10 t11 t12 Ul Oi a12;simp only[show((3:Nat):Int)=3 from rfl];go_loopw[8] (fun y wr=> ∃(i:Nat) (q:Nat->V),y=E I i/\i<=5/\OF w f w1.heap.size 3 14 q wr) (fun y _=>5-(Iv y).toNat);case atStart=>exact⟨0,_,U,X,HS2.out⟩
     case round=>
      clear HS2 c10 c11 c12 d10 d11 d12;obtain⟨i,q,rfl,hi5,hs⟩:=hrel;have HS:=O hs;clear hs;by_cases hlt:i<5
      ·go_wp2_with fail;obtain⟨wo,rfl⟩:=En (wr:M);go_loopw[9] (fun y wr=> ∃(k:Nat) (q:Nat->V),y=E I k/\k<=4/\OF w f w1.heap.size 3 14 q wr) (fun y _=>4-(Iv y).toNat);case atStart=>exact⟨0,_,U,X,HS.out⟩
       case round=>
        clear HS;obtain⟨k,q,rfl,hk4,hs⟩:=hrel;obtain⟨cO,fO⟩:=Ja hs.out;obtain⟨cS,-⟩:=Ja hs.src;have HS:=O hs;clear hs;by_cases hk:k<4;·have hlt':14+i*4+k<56:=X;obtain⟨e1,m1,m2⟩:=HP.out.int (14+i*4+k) hlt' X;obtain⟨p1,hp1⟩:=Jo (Iv (f (14+i*4+k)));rw[hp1] at e1 m1 m2;obtain⟨n,hn,hn2⟩: ∃n:Nat,p1%16=n/\n<=15:=⟨(p1%16).toNat,X,X⟩;have jm:=O<|HS.out.Zg 14 (14+i*4+k) n (p1%16) hn X (EOA _ _ X X hn2) X;clear hp1 hn hn2;go_wp2_with fail;go_region;go_wp2_with fail;exact⟨⟨k+1,_,by go_num,X,jm.out.drew⟩,Jv⟩
        ·have hlt':34+i<56:=X;obtain⟨e1,m1,m2⟩:=HP.out.int (34+i) hlt' X;obtain⟨p1,hp1⟩:=Jo (Iv (f (34+i)));rw[hp1] at e1 m1 m2;obtain⟨n,hn,hn2⟩: ∃n:Nat,p1%32=n/\n<=31:=⟨(p1%32).toNat,X,X⟩;have jm:=O<|HS.out.Zg 14 (34+i) n (p1%32) hn X (EOB _ _ X X hn2) X;clear hp1 hn hn2;go_wp2_with fail;exact⟨⟨i+1,_,by go_num,X,jm.out⟩,Jv⟩
      ·have sE:=O<|HS.out.skip 39 (fun i h1 h2=>EOy i h1 h2);clear HS;obtain⟨e1,m1,m2⟩:=HP.out.int 39 X X;obtain⟨p1,hp1⟩:=Jo (Iv (f 39));rw[hp1] at e1 m1 m2;clear hp1;obtain⟨n39,hn,t39⟩: ∃n:Nat,p1%5=n/\n<=4:=⟨(p1%5).toNat,X,X⟩;obtain⟨cO,fO⟩:=Ja sE.out.out;obtain⟨cS,-⟩:=Ja sE.out.src;have HN:=O hn;clear hn;go_wp2_with fail;refine(cZ p1 5 _ X X X X).mono ?_;rintro e wm ⟨rfl,rfl⟩;rw[HN.out];clear hlt e1 m1 m2 HN;obtain⟨e1,m1,m2⟩:=HP.out.int 40 X X;obtain⟨p1,hp1⟩:=Jo (Iv (f 40));rw[hp1] at e1 m1 m2;clear hp1;obtain⟨n40,hn,t40⟩: ∃n:Nat,p1%5=n/\n<=4:=⟨(p1%5).toNat,X,X⟩;have HN:=O hn;clear hn;go_wp2_with fail;refine(cZ p1 5 _ X X X X).mono ?_;rintro e wm ⟨rfl,rfl⟩;rw[HN.out];have zC:=O<|sE.out.Zg 40 39 n39 ((n39:Int)) X X Z9 X;clear sE cO fO cS;generalize dW _ ⟨w1.heap.size,39,Z⟩ (E I ((n39:Int)))=x1 at*;clear e1 m1 m2 HN t39;obtain⟨cO,fO⟩:=Ja zC.out.out;obtain⟨cS,-⟩:=Ja zC.out.src;obtain⟨e1,m1,m2⟩:=HP.out.int 41 X X;obtain⟨p1,hp1⟩:=Jo (Iv (f 41));rw[hp1] at e1 m1 m2;clear hp1;obtain⟨n41,hn,t41⟩: ∃n:Nat,p1%5=n/\n<=4:=⟨(p1%5).toNat,X,X⟩;have HN:=O hn;clear hn;go_wp2_with fail;refine(cZ p1 5 _ X X X X).mono ?_;rintro e wm ⟨rfl,rfl⟩;rw[HN.out];have HS2:=O<|zC.out.Zg 41 40 n40 ((n40:Int)) X X Z9 X;clear zC cO fO cS;generalize dW _ ⟨w1.heap.size,40,Z⟩ (E I ((n40:Int)))=x2 at*;clear e1 m1 m2 HN t40;obtain⟨cO,fO⟩:=Ja HS2.out.out;obtain⟨cS,-⟩:=Ja HS2.out.src;obtain⟨e1,m1,m2⟩:=HP.out.int 42 X X;obtain⟨p1,hp1⟩:=Jo (Iv (f 42));rw[hp1] at e1 m1 m2;clear hp1;obtain⟨n42,hn,t42⟩: ∃n:Nat,p1%1000=n/\n<=999:=⟨(p1%1000).toNat,X,X⟩;have HN:=O hn;clear hn;go_wp2_with fail;refine(cZ p1 1000 _ X X X X).mono ?_;rintro e wm ⟨rfl,rfl⟩;rw[HN.out];have jm:=O<|HS2.out.Zg 42 41 n41 ((n41:Int)) X X Z9 X;clear HS2 cO fO cS;generalize dW _ ⟨w1.heap.size,41,Z⟩ (E I ((n41:Int)))=x3 at*;clear e1 m1 m2 HN t41;obtain⟨cO,fO⟩:=Ja jm.out.out;obtain⟨cS,-⟩:=Ja jm.out.src;obtain⟨e1,m1,m2⟩:=HP.out.int 43 X X;obtain⟨p1,hp1⟩:=Jo (Iv (f 43));rw[hp1] at e1 m1 m2;clear hp1;obtain⟨n43,hn,t43⟩: ∃n:Nat,p1%1000=n/\n<=999:=⟨(p1%1000).toNat,X,X⟩;have HN:=O hn;clear hn;go_wp2_with fail;refine(cZ p1 1000 _ X X X X).mono ?_;rintro e wm ⟨rfl,rfl⟩;rw[HN.out];have zD:=O<|jm.out.Zg 43 42 (1+n42) (1+(n42:Int)) X X Z9 X;clear jm cO fO cS;generalize dW _ ⟨w1.heap.size,42,Z⟩ (E I (1+(n42:Int)))=x4 at*;clear e1 m1 m2 HN t42;obtain⟨cO,fO⟩:=Ja zD.out.out;obtain⟨cS,-⟩:=Ja zD.out.src;obtain⟨e1,m1,m2⟩:=HP.out.int 44 X X;obtain⟨p1,hp1⟩:=Jo (Iv (f 44));rw[hp1] at e1 m1 m2;clear hp1;obtain⟨n44,hn,t44⟩: ∃n:Nat,p1%1000=n/\n<=999:=⟨(p1%1000).toNat,X,X⟩;have HN:=O hn;clear hn;go_wp2_with fail;refine(cZ p1 1000 _ X X X X).mono ?_;rintro e wm ⟨rfl,rfl⟩;rw[HN.out];have zF:=O<|zD.out.Zg 44 43 (1+n43) (1+(n43:Int)) X X Z9 X;clear zD cO fO cS;generalize dW _ ⟨w1.heap.size,43,Z⟩ (E I (1+(n43:Int)))=x5 at*;clear e1 m1 m2 HN t43;obtain⟨cO,fO⟩:=Ja zF.out.out;obtain⟨cS,-⟩:=Ja zF.out.src;obtain⟨e1,m1,m2⟩:=HP.out.int 45 X X;obtain⟨p1,hp1⟩:=Jo (Iv (f 45));rw[hp1] at e1 m1 m2;clear hp1;obtain⟨n45,hn,t45⟩: ∃n:Nat,p1%1000=n/\n<=999:=⟨(p1%1000).toNat,X,X⟩;have HN:=O hn;clear hn;go_wp2_with fail;refine(cZ p1 1000 _ X X X X).mono ?_;rintro e wm ⟨rfl,rfl⟩;rw[HN.out];have zG:=O<|zF.out.Zg 45 44 (1+n44) (1+(n44:Int)) X X Z9 X;clear zF cO fO cS;generalize dW _ ⟨w1.heap.size,44,Z⟩ (E I (1+(n44:Int)))=x6 at*;clear e1 m1 m2 HN t44;obtain⟨cO,fO⟩:=Ja zG.out.out;obtain⟨cS,-⟩:=Ja zG.out.src;obtain⟨e1,m1,m2⟩:=HP.out.int 46 X X;obtain⟨p1,hp1⟩:=Jo (Iv (f 46));rw[hp1] at e1 m1 m2;clear hp1;obtain⟨n46,hn,t46⟩: ∃n:Nat,p1%1000=n/\n<=999:=⟨(p1%1000).toNat,X,X⟩;have HN:=O hn;clear hn;go_wp2_with fail;refine(cZ p1 1000 _ X X X X).mono ?_;rintro e wm ⟨rfl,rfl⟩;rw[HN.out];have zH:=O<|zG.out.Zg 46 45 (1+n45) (1+(n45:Int)) X X Z9 X;clear zG cO fO cS;generalize dW _ ⟨w1.heap.size,45,Z⟩ (E I (1+(n45:Int)))=x7 at*;clear e1 m1 m2 HN t45;obtain⟨cO,fO⟩:=Ja zH.out.out;obtain⟨cS,-⟩:=Ja zH.out.src;obtain⟨e1,m1,m2⟩:=HP.out.int 47 X X;obtain⟨p1,hp1⟩:=Jo (Iv (f 47));rw[hp1] at e1 m1 m2;clear hp1;obtain⟨n47,hn,t47⟩: ∃n:Nat,p1%1001=n/\n<=1000:=⟨(p1%1001).toNat,X,X⟩;have HN:=O hn;clear hn;go_wp2_with fail;refine(cZ p1 1001 _ X X X X).mono ?_;rintro e wm ⟨rfl,rfl⟩;rw[HN.out];have zK:=O<|zH.out.Zg 47 46 (1+n46) (1+(n46:Int)) X X Z9 X;clear zH cO fO cS;generalize dW _ ⟨w1.heap.size,46,Z⟩ (E I (1+(n46:Int)))=x8 at*;clear e1 m1 m2 HN t46;obtain⟨cO,fO⟩:=Ja zK.out.out;obtain⟨cS,-⟩:=Ja zK.out.src;obtain⟨e1,m1,m2⟩:=HP.out.int 48 X X;obtain⟨p1,hp1⟩:=Jo (Iv (f 48));rw[hp1] at e1 m1 m2;clear hp1;obtain⟨n48,hn,t48⟩: ∃n:Nat,p1%3=n/\n<=2:=⟨(p1%3).toNat,X,X⟩;have HN:=O hn;clear hn;go_wp2_with fail;refine(cZ p1 3 _ X X X X).mono ?_;rintro e wm ⟨rfl,rfl⟩;rw[HN.out];have zL:=O<|zK.out.Zg 48 47 n47 ((n47:Int)) X X Z9 X;clear zK cO fO cS;generalize dW _ ⟨w1.heap.size,47,Z⟩ (E I ((n47:Int)))=x9 at*;clear e1 m1 m2 HN t47;obtain⟨cO,fO⟩:=Ja zL.out.out;obtain⟨cS,-⟩:=Ja zL.out.src;obtain⟨e1,m1,m2⟩:=HP.out.int 49 X X;obtain⟨p1,hp1⟩:=Jo (Iv (f 49));rw[hp1] at e1 m1 m2;clear hp1;obtain⟨n49,hn,t49⟩: ∃n:Nat,p1%3=n/\n<=2:=⟨(p1%3).toNat,X,X⟩;have HN:=O hn;clear hn;go_wp2_with fail;refine(cZ p1 3 _ X X X X).mono ?_;rintro e wm ⟨rfl,rfl⟩;rw[HN.out];have zM:=O<|zL.out.Zg 49 48 (1+n48) (1+(n48:Int)) X X Z9 X;clear zL cO fO cS;generalize dW _ ⟨w1.heap.size,48,Z⟩ (E I (1+(n48:Int)))=nE at*;clear e1 m1 m2 HN t48;obtain⟨cO,fO⟩:=Ja zM.out.out;obtain⟨cS,-⟩:=Ja zM.out.src;go_wp2_with fail;have Qm:=O<|(zM.out.Zg 50 49 (1+n49) (1+(n49:Int)) X X Z9 X).skip 54 (fun i h1 h2=>EOz i h1 h2);clear zM cO fO cS;try simp only[show((3:Nat):Int)=3 from rfl]
       go_loopw[10] (fun y wr=> ∃(i:Nat) (q:Nat->V),y=E I i/\1<=i/\i<=4/\OF w f w1.heap.size 3 54 q wr) (fun y _=>4-(Iv y).toNat);case atStart=>exact⟨1,_,U,X,X,Qm.out⟩
       case round=>
        clear Qm;obtain⟨i,q,rfl,hi1,hi4,hs⟩:=hrel;obtain⟨cO,fO⟩:=Ja hs.out;obtain⟨cS,-⟩:=Ja hs.src;have HS:=O hs;clear hs;by_cases hlt:i<4;·have hlt':50+i<56:=X;obtain⟨e1,m1,m2⟩:=HP.out.int (50+i) hlt' X;obtain⟨p1,hp1⟩:=Jo (Iv (f (50+i)));rw[hp1] at e1 m1 m2;clear hp1;obtain⟨n,hn,hn2⟩: ∃n:Nat,p1%1001=n/\n<=1000:=⟨(p1%1001).toNat,X,X⟩;have jm:=O<|HS.out.Zg 54 (50+i) n n U X (EOC _ _ X X hn2) X;have HN:=O hn;clear hn;go_wp2_with fail;refine(cZ p1 1001 _ X X X X).mono ?_;rintro e wm ⟨rfl,rfl⟩;rw[HN.out];go_wp2_with fail;exact⟨⟨i+1,_,by go_num,X,X,jm.out⟩,Jv⟩
        ·obtain⟨e1,m1,m2⟩:=HP.out.int 54 X X;obtain⟨p1,hp1⟩:=Jo (Iv (f 54));rw[hp1] at e1 m1 m2;clear hp1;obtain⟨n54,hn,t54⟩: ∃n:Nat,p1%1000=n/\n<=999:=⟨(p1%1000).toNat,X,X⟩;have HN:=O hn;clear hn;go_wp2_with fail;refine(cZ p1 1000 _ X X X X).mono ?_;rintro e wm ⟨rfl,rfl⟩;rw[HN.out];clear hlt e1 m1 m2 HN;obtain⟨e1,m1,m2⟩:=HP.out.int 55 X X;obtain⟨p1,hp1⟩:=Jo (Iv (f 55));rw[hp1] at e1 m1 m2;clear hp1;obtain⟨n55,hn,t55⟩: ∃n:Nat,p1%65536=n/\n<=65535:=⟨(p1%65536).toNat,X,X⟩;have Qn:=O<|(HS.out.Zg 55 54 (1+n54) (1+(n54:Int)) X X Z9 X).Zg 56 55 n55 (p1%65536) hn X Z9 X;clear hn;go_wp2_with (with_reducible refine I7 170 ?_);apply Eo;clear HS cO fO cS;generalize dW _ ⟨w1.heap.size,55,Z⟩ (E I (p1%65536))=xx at*;obtain⟨qq,HQ⟩: ∃qq,Ea (OF w f w1.heap.size 3 56 qq xx):=⟨_,Qn⟩;clear Qn;refine wpList_load_row ?g1 28 (.tmp 3) ?g2 w1.heap.size ?g3 28 (EK 56 qq) (0,0) _ ?h1 Tryz.underlying28 ?h3 ?h4 ?_;case g1=>rfl
         case g2=>rfl
         case g3=>rfl
         case h1=>exact HQ.out.out
         case h3=>rfl
         case h4=>rw[zA,pO]
         obtain⟨r,hr⟩:=HQ.out.res;have HR:=O hr;clear hr;go_wp2_with ((with_reducible show IZ _ _ _ (⟨Z,.store _ (.tmp 2) (.tmp 170),_,_,_,_⟩::_) _ _);refine Ev.mk ?_);apply Eo;refine wpList_store_row ?g1 28 (.tmp 2) (.tmp 170) ?g2 (w.heap.size+1) (EK 56 qq) ?h1 ?h2 28 (EK 56 r) ?h3 ?h4 ?h5 ?h6 ?_;case g1=>rfl
         case g2=>rfl
         case h1=>rfl
         case h2=>rfl
         case h3=>exact HR.out
         case h4=>rw[zA,pO]
         case h5=>rw[pO,pO]
         case h6=>exact Qj HQ.out.one
         go_wp2_with fail;refine ET (v:=EZ (EK 56 qq)) ?_ U ⟨⟨qq,U,HQ.out.done⟩,E3 HQ.out.bel X _⟩;exact results_cell_row U _ _ (w.heap.size+1) 28 (EK 56 qq) (0,0) _ U (setRow_heap _ _ _ _ _ _ HR.out) Tryz.underlying28 U (by rw[zA,pO])
theorem EOL(W:M)(h e o oa om la lm:Int)(b:Bool)(g3:Nat)(KT:H W g3 #[E I h,E I e,E I o,E I oa,E I om,E I la,E I lm,Ec b] 109)(g7:Nat)(s:Int)(K7:H W g7 #[E I s] 3): Ef EU 221 #[Y (D ⟨g7,0,Z⟩),Y (D ⟨g3,0,Z⟩)] W fun x w'=>x=Eg (Ec (decide (s≠h)))/\El W w':=by
 have zp:g3<W.heap.size:=H.lt KT;have zq:W.cell? ⟨g3,0,Z⟩=D (E I h):=(H.cell KT 0).trans U;have c31:W.cell? ⟨g3,1,Z⟩=D (E I e):=(H.cell KT 1).trans U;have c32:W.cell? ⟨g3,2,Z⟩=D (E I o):=(H.cell KT 2).trans U;have zu:W.cell? ⟨g3,3,Z⟩=D (E I oa):=(H.cell KT 3).trans U;have c34:W.cell? ⟨g3,4,Z⟩=D (E I om):=(H.cell KT 4).trans U;have zw:W.cell? ⟨g3,5,Z⟩=D (E I la):=(H.cell KT 5).trans U;have zx:W.cell? ⟨g3,6,Z⟩=D (E I lm):=(H.cell KT 6).trans U;have c37:W.cell? ⟨g3,7,Z⟩=D (Ec b):=(H.cell KT 7).trans U;have EOM:g7<W.heap.size:=H.lt K7;have ci7:W.cell? ⟨g7,0,Z⟩=D (E I s):=(H.cell K7 0).trans U;by_cases hx:s≠h;·rw[Ib hx];have d1:(s !=h)=u:=uB;clear KT K7 hx;go_enter Tryz.func221,Tryz.ntmps221;exact Eln
 ·rw[IJ hx];have d1:(s !=h)=B:=by simpa using hx
  clear KT K7 hx;go_enter Tryz.func221,Tryz.ntmps221;exact Eln
theorem EOP(W:M)(h e o oa om la lm:Int)(b:Bool)(g3:Nat)(KT:H W g3 #[E I h,E I e,E I o,E I oa,E I om,E I la,E I lm,Ec b] 109): Ef EU 222 #[Y (D ⟨g3,0,Z⟩)] W fun x w'=>x=Eg (Ec (decide (65535<=e)))/\El W w':=by
 have zp:g3<W.heap.size:=H.lt KT;have zq:W.cell? ⟨g3,0,Z⟩=D (E I h):=(H.cell KT 0).trans U;have c31:W.cell? ⟨g3,1,Z⟩=D (E I e):=(H.cell KT 1).trans U;have c32:W.cell? ⟨g3,2,Z⟩=D (E I o):=(H.cell KT 2).trans U;have zu:W.cell? ⟨g3,3,Z⟩=D (E I oa):=(H.cell KT 3).trans U;have c34:W.cell? ⟨g3,4,Z⟩=D (E I om):=(H.cell KT 4).trans U;have zw:W.cell? ⟨g3,5,Z⟩=D (E I la):=(H.cell KT 5).trans U;have zx:W.cell? ⟨g3,6,Z⟩=D (E I lm):=(H.cell KT 6).trans U;have c37:W.cell? ⟨g3,7,Z⟩=D (Ec b):=(H.cell KT 7).trans U;by_cases hx:65535<=e;·rw[Ib hx];have d1:decide (65535<=e)=u:=Ib hx;exact EqX
 ·rw[IJ hx];have d1:decide (65535<=e)=B:=IJ hx;exact EqX
theorem EOQ(W:M)(g8:Nat)(IY:Int)(K8:H W g8 #[E I IY] 3)(g7:Nat)(s:Int)(K7:H W g7 #[E I s] 3): Ef EU 223 #[Y (D ⟨g8,0,Z⟩),Y (D ⟨g7,0,Z⟩)] W fun x w'=>x=Eg (Ec (decide (IY=s)))/\El W w':=by
 have EOR:g8<W.heap.size:=H.lt K8;have ci8:W.cell? ⟨g8,0,Z⟩=D (E I IY):=(H.cell K8 0).trans U;have EOM:g7<W.heap.size:=H.lt K7;have ci7:W.cell? ⟨g7,0,Z⟩=D (E I s):=(H.cell K7 0).trans U;by_cases hx:IY=s;·rw[Ib hx];have d1:(IY==s)=u:=uB;exact EqI
 ·rw[IJ hx];have d1:(IY==s)=B:=beq_eq_false_iff_ne.2 hx;exact EqI
theorem EOT(W:M)(g8:Nat)(IY:Int)(K8:H W g8 #[E I IY] 3)(g9:Nat)(th:Bool)(K9:H W g9 #[Ec th] 4): Ef EU 224 #[Y (D ⟨g8,0,Z⟩),Y (D ⟨g9,0,Z⟩)] W fun x w'=>x=Eg (Ec (decide (IY<1\/3<IY\/th=B)))/\El W w':=by
 have EOR:g8<W.heap.size:=H.lt K8;have ci8:W.cell? ⟨g8,0,Z⟩=D (E I IY):=(H.cell K8 0).trans U;have EjG:g9<W.heap.size:=H.lt K9;have ci9:W.cell? ⟨g9,0,Z⟩=D (Ec th):=(H.cell K9 0).trans U;by_cases h1:IY<1;·rw[Ib (.inl h1)];have d1:decide (IY<1)=u:=Ib h1;clear K8 K9 h1;go_enter Tryz.func224,Tryz.ntmps224;exact Eln
 have d1:decide (IY<1)=B:=IJ h1;by_cases h2:3<IY;·rw[Ib (.inr (.inl h2))];have d2:decide (3<IY)=u:=Ib h2;clear K8 K9 h1 h2;go_enter Tryz.func224,Tryz.ntmps224;exact Eln
 have d2:decide (3<IY)=B:=IJ h2;cases th with
 |false=> rw[Ib (.inr (.inr U))];clear K8 K9 h1 h2;go_enter Tryz.func224,Tryz.ntmps224;go_wp2;go_ret;exact⟨U,by(repeat (first|exact IE _ _|(refine JH ?_ Iu _)|(refine JK ?_ Iu _)))⟩
 |true=> rw[IJ Jn];clear K8 K9 h1 h2;go_enter Tryz.func224,Tryz.ntmps224;go_wp2;go_ret;exact⟨U,by(repeat (first|exact IE _ _|(refine JH ?_ Iu _)|(refine JK ?_ Iu _)))⟩
theorem EOV(W:M)(h e o oa om la lm:Int)(b:Bool)(g3:Nat)(KT:H W g3 #[E I h,E I e,E I o,E I oa,E I om,E I la,E I lm,Ec b] 109): Ef EU 225 #[Y (D ⟨g3,0,Z⟩)] W fun x w'=>x=Eg (Ec (decide (0<=o)))/\El W w':=by
 have zp:g3<W.heap.size:=H.lt KT;have zq:W.cell? ⟨g3,0,Z⟩=D (E I h):=(H.cell KT 0).trans U;have c31:W.cell? ⟨g3,1,Z⟩=D (E I e):=(H.cell KT 1).trans U;have c32:W.cell? ⟨g3,2,Z⟩=D (E I o):=(H.cell KT 2).trans U;have zu:W.cell? ⟨g3,3,Z⟩=D (E I oa):=(H.cell KT 3).trans U;have c34:W.cell? ⟨g3,4,Z⟩=D (E I om):=(H.cell KT 4).trans U;have zw:W.cell? ⟨g3,5,Z⟩=D (E I la):=(H.cell KT 5).trans U;have zx:W.cell? ⟨g3,6,Z⟩=D (E I lm):=(H.cell KT 6).trans U;have c37:W.cell? ⟨g3,7,Z⟩=D (Ec b):=(H.cell KT 7).trans U;by_cases hx:0<=o;·rw[Ib hx];have d1:decide (0<=o)=u:=Ib hx;exact EqU
 ·rw[IJ hx];have d1:decide (0<=o)=B:=IJ hx;exact EqU
theorem EOW(f:Nat->V)(t:EG)(s IY po:Int)(th:Bool)(w:M)(hp:f 44=E I po): Ef EU 178 #[EZ (EK 56 f),t.a,E I s,E I IY,Ec th] w fun x w'=>x=Eg (Et #[(t.make po s IY th).1.a,E I (t.make po s IY th).2])/\El w w':=by
 have HE:Ea (t.make po s IY th=if s≠t.h then(t,20) else if 65535<=t.e then(t,24) else if IY=s then(t,25) else if IY<1\/3<IY\/th=B then(t,2) else if 0<=t.o then(t,28) else({t with o:=IY,oa:=0,om:=max po 0},0)):=O U;have CS:=O<|fun W=>yV po W;generalize max po 0=mp at*;have HP:=O hp;clear hp;unfold EG.a at*;obtain⟨h,e,o,oa,om,la,lm,b⟩:=t;simp only at*;unfold Uj at*;go_enter Tryz.func178,Tryz.ntmps178;go_wp2_with fail;generalize hW:UN _ _=W at*;have K0:Ea (H W (w.heap.size) (EK 56 f) 28):=O (by subst hW;repeat (first|exact H.new _ _ _|exact H.new' _ _ _ Eh|refine H.alloc ?_ _));have K1:Ea (H W (w.heap.size+1) #[E I h,E I e,E I o,E I oa,E I om,E I la,E I lm,Ec b] 109):=O (by subst hW;repeat (first|exact H.new _ _ _|exact H.new' _ _ _ Eh|refine H.alloc ?_ _));have K2:Ea (H W (w.heap.size+1+1) #[E I s] 3):=O (by subst hW;repeat (first|exact H.new _ _ _|exact H.new' _ _ _ Eh|refine H.alloc ?_ _));have K3:Ea (H W (w.heap.size+1+1+1) #[E I IY] 3):=O (by subst hW;repeat (first|exact H.new _ _ _|exact H.new' _ _ _ Eh|refine H.alloc ?_ _));have K4:Ea (H W (w.heap.size+1+1+1+1) #[Ec th] 4):=O (by subst hW;repeat (first|exact H.new _ _ _|exact H.new' _ _ _ Eh|refine H.alloc ?_ _));have K5:Ea (H W (w.heap.size+1+1+1+1+1) #[E I 0,E I 0,E I 0,E I 0,E I 0,E I 0,E I 0,Ec B] 109):=O (by subst hW;repeat (first|exact H.new _ _ _|exact H.new' _ _ _ Eh|refine H.alloc ?_ _));have K6:Ea (H W (w.heap.size+1+1+1+1+1+1) #[E I 20,.func (.func 221) #[] #[Y (D ⟨w.heap.size+1+1,0,Z⟩),Y (D ⟨w.heap.size+1,0,Z⟩)],E I 24,.func (.func 222) #[] #[Y (D ⟨w.heap.size+1,0,Z⟩)],E I 25,.func (.func 223) #[] #[Y (D ⟨w.heap.size+1+1+1,0,Z⟩),Y (D ⟨w.heap.size+1+1,0,Z⟩)],E I 2,.func (.func 224) #[] #[Y (D ⟨w.heap.size+1+1+1,0,Z⟩),Y (D ⟨w.heap.size+1+1+1+1,0,Z⟩)],E I 28,.func (.func 225) #[] #[Y (D ⟨w.heap.size+1,0,Z⟩)]] 317):=O (by subst hW;repeat (first|exact H.new _ _ _|exact H.new' _ _ _ Eh|refine H.alloc ?_ _));have BB:Ea (El w W):=O (by subst hW;(repeat (first|exact IE _ _|(refine JH ?_ Iu _)|(refine JK ?_ Iu _))));clear hW
 have CF:=Qf [⟨20,221,#[Y (D ⟨w.heap.size+1+1,0,Z⟩),Y (D ⟨w.heap.size+1,0,Z⟩)],decide (s≠h)⟩,⟨24,222,#[Y (D ⟨w.heap.size+1,0,Z⟩)],decide (65535<=e)⟩,⟨25,223,#[Y (D ⟨w.heap.size+1+1+1,0,Z⟩),Y (D ⟨w.heap.size+1+1,0,Z⟩)],decide (IY=s)⟩,⟨2,224,#[Y (D ⟨w.heap.size+1+1+1,0,Z⟩),Y (D ⟨w.heap.size+1+1+1+1,0,Z⟩)],decide (IY<1\/3<IY\/th=B)⟩,⟨28,225,#[Y (D ⟨w.heap.size+1,0,Z⟩)],decide (0<=o)⟩] (w.heap.size+1+1+1+1+1+1) 5 W U X K6.out (by
  intro c hc;simp only[Ui,UP,or_false] at hc;rcases hc with rfl|rfl|rfl|rfl|rfl;·exact⟨fun _ _=>Ed,fun W2 hW2=>EOL W2 h e o oa om la lm b _ (K1.out.G hW2) _ s (K2.out.G hW2)⟩
  ·exact⟨fun _ _=>Ed,fun W2 hW2=>EOP W2 h e o oa om la lm b _ (K1.out.G hW2)⟩
  ·exact⟨fun _ _=>Ed,fun W2 hW2=>EOQ W2 _ IY (K3.out.G hW2) _ s (K2.out.G hW2)⟩
  ·exact⟨fun _ _=>Ed,fun W2 hW2=>EOT W2 _ IY (K3.out.G hW2) _ th (K4.out.G hW2)⟩
  ·exact⟨fun _ _=>Ed,fun W2 hW2=>EOV W2 h e o oa om la lm b _ (K1.out.G hW2)⟩)
 simp only[jk,decide_eq_true_eq] at CF;replace CF:=O CF;clear K6 K2 K4;by_cases h0:s≠h;·rw[if_pos h0] at CF HE;exact Eli
 rw[if_neg h0] at CF HE;by_cases h1:65535<=e;·rw[if_pos h1] at CF HE;exact Eli
 rw[if_neg h1] at CF HE;by_cases h2:IY=s;·rw[if_pos h2] at CF HE;exact Eli
 rw[if_neg h2] at CF HE;by_cases h3:IY<1\/3<IY\/th=B;·rw[if_pos h3] at CF HE;exact Eli
 rw[if_neg h3] at CF HE;by_cases h4:0<=o;·rw[if_pos h4] at CF HE;exact Eli
 rw[if_neg h4] at CF HE;refine CF.out.mono ?_;rintro x W2 ⟨rfl,b2⟩;replace K0:=O<|K0.out.G b2;replace K1:=O<|K1.out.G b2;replace K3:=O<|K3.out.G b2;replace K5:=O<|K5.out.G b2;replace BB:=EW BB b2;clear b2 CF h0 h1 h2 h3 h4;go_wp2_with fail;have c3: ∀y:Ext W2,(Ey W2 y).cell? ⟨w.heap.size+1+1+1,0,Z⟩=D (E I IY):=fun y=>((K3.out.G (ED y)).cell 0).trans U;have c0: ∀y:Ext W2,(Ey W2 y).cell? ⟨w.heap.size,44,Z⟩=D (E I po):=fun y=>((K0.out.G (ED y)).cell 44).trans (by rw[cU,if_pos X,HP.out]);refine J5 5 Ed Ed ?_;simp only[Ir,Im,IL,IG]
 repeat (first
  |go_big_quiet_skip
  |(go_big_quiet_want
    first
     |(go_big_quiet_op
       first
        |go_big_quiet_on
        |go_big_quiet_call (with_reducible refine ag (CS.out _)))))
 refine IM ?_;intro _ hw';obtain⟨y9,rfl⟩:=hw';have Em:=ED y9;replace K1:=O<|K1.out.G Em;replace K5:=O<|K5.out.G Em;replace BB:=EW BB Em;clear c3 c0 K0 K3 CS;generalize Ey W2 y9=W3 at*;have a2:W3.cell? ⟨w.heap.size+1,2,Z⟩=D (E I o):=(K1.out.cell 2).trans U;have a3:W3.cell? ⟨w.heap.size+1,3,Z⟩=D (E I oa):=(K1.out.cell 3).trans U;have a4:W3.cell? ⟨w.heap.size+1,4,Z⟩=D (E I om):=(K1.out.cell 4).trans U;have f2:W3.frozen? ⟨w.heap.size+1,2,Z⟩=B:=K1.out.JX _;have f3:W3.frozen? ⟨w.heap.size+1,3,Z⟩=B:=K1.out.JX _;have f4:W3.frozen? ⟨w.heap.size+1,4,Z⟩=B:=K1.out.JX _;obtain⟨W4,uC⟩: ∃W4,W4=((W3.setCell ⟨w.heap.size+1,2,Z⟩ (E I IY)).setCell ⟨w.heap.size+1,3,Z⟩ (E I 0)).setCell ⟨w.heap.size+1,4,Z⟩ (E I mp):=⟨_,U⟩;have Qo:Ea (H W4 (w.heap.size+1) #[E I h,E I e,E I IY,E I 0,E I mp,E I la,E I lm,Ec b] 109):=O (by subst uC;have:=((K1.out.set 2 (E I IY)).set 3 (E I 0)).set 4 (E I mp);simpa using this);have iX:Ea (H W4 (w.heap.size+1+1+1+1+1) #[E I 0,E I 0,E I 0,E I 0,E I 0,E I 0,E I 0,Ec B] 109):=O (by subst uC;exact((K5.out.other _ 2 _ X).other _ 3 _ X).other _ 4 _ X);have Qp:Ea (El w W4):=O (by subst uC;exact((BB.out.setCell (p:=⟨w.heap.size+1,2,Z⟩) Eh _).setCell (p:=⟨w.heap.size+1,3,Z⟩) Eh _).setCell (p:=⟨w.heap.size+1,4,Z⟩) Eh _);rw[uC] at Qo iX Qp;clear K1 K5 BB uC Em;go_wp2_with (with_reducible first|refine wL EV Qo ?_|refine wS (cs:= #[E I h,E I e,E I IY,E I 0,E I mp,E I la,E I lm,Ec b]) EV iX ?_ (h1:=Us));refine ET (UM EV U _ _ (w.heap.size+1+1+1+1+1) _ _ U U (iX.out.setRow _) U) U ⟨?_,E3 (g:=w.heap.size+1+1+1+1+1) Qp.out X _⟩;exact EpF
theorem uD(K:E2 W g T)(h:T.ok)(i j:Nat)(hj:j<39):W.cell? ⟨g,so i+j,Z⟩=(T.EY i).v[j]?:=by unfold E2 at K;rw[T.rN i] at K;exact bS K (EP.oT h i) j (by rw[I4.J_ (h.EY i).len];exact hj)
theorem iZ(K:E2 W g T)(h:T.ok):W.cell? ⟨g,120,Z⟩=D (E I T.E9)/\W.cell? ⟨g,121,Z⟩=D (E I T.most):=by
 have e:T.v=(T.hd++T.s0.v++T.s1.v++T.s2.v)++(T.tl++[]):=by simp[EP.v]
 unfold E2 at K;rw[e] at K;have hl:(T.hd++T.s0.v++T.s1.v++T.s2.v).length=120:=by simp[EP.hd,I4.J_ h.s0.len,I4.J_ h.s1.len,I4.J_ h.s2.len]
 exact⟨bS K hl 0 (by simp[EP.tl]),bS K hl 1 (by simp[EP.tl])⟩
theorem EOY(K:E2 W g T):W.cell? ⟨g,0,Z⟩=D (Ec T.ZQ):=by unfold E2 at K;rw[K.cell 0,Og];rfl
theorem uF(_:E2 W g T)(h:T.ok):T.v.toArray.size=122:=by simp[EP.v,EP.hd,EP.tl,I4.J_ h.s0.len,I4.J_ h.s1.len,I4.J_ h.s2.len]
theorem E2.G(K:E2 W g T)(hb:El W w'):E2 w' g T:=H.G K hb
def EP.of(T:EP)(g:Nat)(src:Int):V:=
 if src=1\/src=2\/src=3 then(if(T.EY (src-1).toNat).on then Y (D ⟨g,so (src-1).toNat,Z⟩) else Y Z) else Y Z
theorem EO0(g:Nat)(src:Int)(w:M)(h:src<1\/3<src): Ef EU 76 #[Y (D ⟨g,0,Z⟩),E I src] w fun e w'=>e=Eg (Y Z)/\w=w':=by
 by_cases h1:src<1;·have d1:decide (src<1)=u:=Ib h1;exact EpP
 ·have d1:decide (src<1)=B:=IJ h1;have d2:decide (3<src)=u:=Ib X;clear h;exact EpP
theorem EO1(g:Nat)(w:M)(c:w.cell? ⟨g,3,Z⟩=D (Ec u)): Ef EU 76 #[Y (D ⟨g,0,Z⟩),E I 1] w fun e w'=>e=Eg (Y (D ⟨g,3,Z⟩))/\w=w':=by exact EpP
theorem EO2(g:Nat)(w:M)(c:w.cell? ⟨g,3,Z⟩=D (Ec B)): Ef EU 76 #[Y (D ⟨g,0,Z⟩),E I 1] w fun e w'=>e=Eg (Y Z)/\w=w':=by exact EpP
theorem EO3(g:Nat)(w:M)(c:w.cell? ⟨g,42,Z⟩=D (Ec u)): Ef EU 76 #[Y (D ⟨g,0,Z⟩),E I 2] w fun e w'=>e=Eg (Y (D ⟨g,42,Z⟩))/\w=w':=by exact EpP
theorem EO4(g:Nat)(w:M)(c:w.cell? ⟨g,42,Z⟩=D (Ec B)): Ef EU 76 #[Y (D ⟨g,0,Z⟩),E I 2] w fun e w'=>e=Eg (Y Z)/\w=w':=by exact EpP
theorem EO5(g:Nat)(w:M)(c:w.cell? ⟨g,81,Z⟩=D (Ec u)): Ef EU 76 #[Y (D ⟨g,0,Z⟩),E I 3] w fun e w'=>e=Eg (Y (D ⟨g,81,Z⟩))/\w=w':=by exact EpP
theorem EO6(g:Nat)(w:M)(c:w.cell? ⟨g,81,Z⟩=D (Ec B)): Ef EU 76 #[Y (D ⟨g,0,Z⟩),E I 3] w fun e w'=>e=Eg (Y Z)/\w=w':=by exact EpP
theorem pX(g:Nat)(T:EP)(src:Int)(w:M)(K:E2 w g T)(h:T.ok): Ef EU 76 #[Y (D ⟨g,0,Z⟩),E I src] w fun e w'=>e=Eg (T.of g src)/\w=w':=by
 unfold EP.of;by_cases hs:src=1\/src=2\/src=3
 ·rw[if_pos hs];have c:=uD K h (src-1).toNat 0 X;rcases hs with rfl|rfl|rfl
  ·replace c:w.cell? ⟨g,3,Z⟩=D (Ec (T.EY 0).on):=c;show Ef _ _ _ _ fun e w'=>e=Eg (if(T.EY 0).on then Y (D ⟨g,3,Z⟩) else Y Z)/\w=w'
   cases hb:(T.EY 0).on with
   |true=>rw[hb] at c;exact EO1 g w c
   |false=>rw[hb] at c;exact EO2 g w c
  ·replace c:w.cell? ⟨g,42,Z⟩=D (Ec (T.EY 1).on):=c;show Ef _ _ _ _ fun e w'=>e=Eg (if(T.EY 1).on then Y (D ⟨g,42,Z⟩) else Y Z)/\w=w'
   cases hb:(T.EY 1).on with
   |true=>rw[hb] at c;exact EO3 g w c
   |false=>rw[hb] at c;exact EO4 g w c
  ·replace c:w.cell? ⟨g,81,Z⟩=D (Ec (T.EY 2).on):=c;show Ef _ _ _ _ fun e w'=>e=Eg (if(T.EY 2).on then Y (D ⟨g,81,Z⟩) else Y Z)/\w=w'
   cases hb:(T.EY 2).on with
   |true=>rw[hb] at c;exact EO5 g w c
   |false=>rw[hb] at c;exact EO6 g w c
 ·rw[if_neg hs];exact EO0 g src w X
def EP.Zu(T:EP)(src:Int):Bool:=if src=4 then u else if src=0 then T.ZQ else if src=1\/src=2\/src=3 then(T.EY (src-1).toNat).on else B
def EP.gI(T:EP)(src:Int):Int:=if src=1\/src=2\/src=3 then(if(T.EY (src-1).toNat).on then(T.EY (src-1).toNat).r else 0) else 0
def EP.Ik(T:EP):Int:=(if T.s0.on then 1 else 0)+(if T.s1.on then 1 else 0)+(if T.s2.on then 1 else 0)
theorem zN(T:EP)(g:Nat)(src:Int):(T.of g src=Y Z/\(src≠4->src≠0->T.Zu src=B)/\T.gI src=0)\/(∃i:Nat,i<3/\src=(i:Int)+1/\(T.EY i).on=u/\T.of g src=Y (D ⟨g,so i,Z⟩)/\T.Zu src=u/\T.gI src=(T.EY i).r):=by
 unfold EP.of EP.Zu EP.gI;by_cases hs:src=1\/src=2\/src=3
 ·obtain⟨i,hi,e⟩: ∃i:Nat,i<3/\src=(i:Int)+1:=⟨(src-1).toNat,X,X⟩;have e2:(src-1).toNat=i:=X;simp only[if_pos hs,e2];rw[if_neg (show src≠4 from X),if_neg (show src≠0 from X)];cases hb:(T.EY i).on with
  |true=>exact .inr ⟨i,hi,e,hb,U,U,U⟩
  |false=>exact .inl ⟨U,fun _ _=>rfl,U⟩
 ·simp only[if_neg hs];exact .inl ⟨trivial,fun h4 h0=>by rw[if_neg h4,if_neg h0],trivial⟩
theorem nI(g:Nat)(T:EP)(src:Int)(w:M)(K:E2 w g T)(h:T.ok): Ef EU 55 #[Y (D ⟨g,0,Z⟩),E I src] w fun e w'=>e=Eg (Ec (T.Zu src))/\w=w':=by
 by_cases h4:src=4
 ·subst h4;show Ef _ _ _ _ fun e w'=>e=Eg (Ec u)/\w=w'
  clear K h;go_enter Tryz.func55,Tryz.ntmps55;exact Els
 by_cases h0:src=0
 ·subst h0;show Ef _ _ _ _ fun e w'=>e=Eg (Ec T.ZQ)/\w=w'
  have c:=EOY K;generalize T.ZQ=b at*;clear K h h4;go_enter Tryz.func55,Tryz.ntmps55;exact Els
 ·have e4:(src==4)=B:=beq_eq_false_iff_ne.2 h4;have e0:(src==0)=B:=beq_eq_false_iff_ne.2 h0;have CO:=O<|pX g T src w K h;rcases zN T g src with⟨e1,e2,-⟩|⟨i,hi,-,-,e1,e2,-⟩;·rw[e1] at CO;rw[e2 h4 h0];clear e1 e2 K h h4 h0;go_enter Tryz.func55,Tryz.ntmps55;go_wp2_with fail;refine(CO.out).mono ?_;rintro e w' ⟨rfl,rfl⟩;go_wp2_with fail;go_ret;exact⟨U,U⟩
  ·rw[e1] at CO;rw[e2];generalize so i=o at*;clear e1 e2 K h h4 h0;go_enter Tryz.func55,Tryz.ntmps55;exact EpV
theorem sI(g:Nat)(T:EP)(src:Int)(w:M)(K:E2 w g T)(h:T.ok): Ef EU 56 #[Y (D ⟨g,0,Z⟩),E I src] w fun e w'=>e=Eg (E I (T.gI src))/\w=w':=by
 have CO:=O<|pX g T src w K h;rcases zN T g src with⟨e1,-,e2⟩|⟨i,hi,-,-,e1,-,e2⟩;·rw[e1] at CO;rw[e2];exact Eqa
 ·rw[e1] at CO;rw[e2];have c:w.cell? ⟨g,so i+3,Z⟩=D (E I (T.EY i).r):=uD K h i 3 X;generalize so i=o at*;generalize (T.EY i).r=r at*;exact Eqa
theorem EO7(g:Nat)(w:M)(c0:w.cell? ⟨g,3,Z⟩=D (Ec u))(c1:w.cell? ⟨g,42,Z⟩=D (Ec u))(c2:w.cell? ⟨g,81,Z⟩=D (Ec u)): Ef EU 170 #[Y (D ⟨g,0,Z⟩)] w fun e w'=>e=Eg (E I 3)/\w=w':=by exact Elp
theorem EO8(g:Nat)(w:M)(c0:w.cell? ⟨g,3,Z⟩=D (Ec u))(c1:w.cell? ⟨g,42,Z⟩=D (Ec u))(c2:w.cell? ⟨g,81,Z⟩=D (Ec B)): Ef EU 170 #[Y (D ⟨g,0,Z⟩)] w fun e w'=>e=Eg (E I 2)/\w=w':=by exact Elp
theorem EO9(g:Nat)(w:M)(c0:w.cell? ⟨g,3,Z⟩=D (Ec u))(c1:w.cell? ⟨g,42,Z⟩=D (Ec B))(c2:w.cell? ⟨g,81,Z⟩=D (Ec u)): Ef EU 170 #[Y (D ⟨g,0,Z⟩)] w fun e w'=>e=Eg (E I 2)/\w=w':=by exact Elp
theorem EO_(g:Nat)(w:M)(c0:w.cell? ⟨g,3,Z⟩=D (Ec u))(c1:w.cell? ⟨g,42,Z⟩=D (Ec B))(c2:w.cell? ⟨g,81,Z⟩=D (Ec B)): Ef EU 170 #[Y (D ⟨g,0,Z⟩)] w fun e w'=>e=Eg (E I 1)/\w=w':=by exact Elp
theorem EUE(g:Nat)(w:M)(c0:w.cell? ⟨g,3,Z⟩=D (Ec B))(c1:w.cell? ⟨g,42,Z⟩=D (Ec u))(c2:w.cell? ⟨g,81,Z⟩=D (Ec u)): Ef EU 170 #[Y (D ⟨g,0,Z⟩)] w fun e w'=>e=Eg (E I 2)/\w=w':=by exact Elp
theorem EUI(g:Nat)(w:M)(c0:w.cell? ⟨g,3,Z⟩=D (Ec B))(c1:w.cell? ⟨g,42,Z⟩=D (Ec u))(c2:w.cell? ⟨g,81,Z⟩=D (Ec B)): Ef EU 170 #[Y (D ⟨g,0,Z⟩)] w fun e w'=>e=Eg (E I 1)/\w=w':=by exact Elp
theorem EUJ(g:Nat)(w:M)(c0:w.cell? ⟨g,3,Z⟩=D (Ec B))(c1:w.cell? ⟨g,42,Z⟩=D (Ec B))(c2:w.cell? ⟨g,81,Z⟩=D (Ec u)): Ef EU 170 #[Y (D ⟨g,0,Z⟩)] w fun e w'=>e=Eg (E I 1)/\w=w':=by exact Elp
theorem EUO(g:Nat)(w:M)(c0:w.cell? ⟨g,3,Z⟩=D (Ec B))(c1:w.cell? ⟨g,42,Z⟩=D (Ec B))(c2:w.cell? ⟨g,81,Z⟩=D (Ec B)): Ef EU 170 #[Y (D ⟨g,0,Z⟩)] w fun e w'=>e=Eg (E I 0)/\w=w':=by exact Elp
theorem kB(g:Nat)(T:EP)(w:M)(K:E2 w g T)(h:T.ok):Ef EU 170 #[Y (D ⟨g,0,Z⟩)] w fun e w'=>e=Eg (E I T.Ik)/\w=w':=by
 have c0:w.cell? ⟨g,3,Z⟩=D (Ec T.s0.on):=uD K h 0 0 X;have c1:w.cell? ⟨g,42,Z⟩=D (Ec T.s1.on):=uD K h 1 0 X;have c2:w.cell? ⟨g,81,Z⟩=D (Ec T.s2.on):=uD K h 2 0 X;unfold EP.Ik;cases h0:T.s0.on<;>cases h1:T.s1.on<;>cases h2:T.s2.on<;>rw[h0] at c0<;>rw[h1] at c1<;>rw[h2] at c2;·exact EUO g w c0 c1 c2
 ·exact EUJ g w c0 c1 c2
 ·exact EUI g w c0 c1 c2
 ·exact EUE g w c0 c1 c2
 ·exact EO_ g w c0 c1 c2
 ·exact EO9 g w c0 c1 c2
 ·exact EO8 g w c0 c1 c2
 ·exact EO7 g w c0 c1 c2
theorem Zv:IW EU 160 39:=⟨⟨_,Tryz.underlying160,U⟩,Ed⟩
theorem Qq:Tryz.prog.built 160 []=D Jp.v.toArray:=Ed
theorem Zw(s:I4):s.v.toArray.all (·.oneCell')=u:=by
 refine all_oneCell_toArray fun v hv=> ?_;simp only[I4.v,O8,XP,Ui,UP,or_false,da] at hv;rcases hv with(rfl|rfl|rfl)|rfl|⟨x,-,rfl⟩|hv;·rfl
 ·rfl
 ·rfl
 ·rfl
 ·rfl
 ·rcases hw:s.win with _|⟨h,q⟩<;>rw[hw] at hv<;>simp only[Of,Ui,UP,or_false] at hv<;>rcases hv with rfl|rfl|rfl<;>rfl
theorem ia(K:E2 W g T)(h:T.ok)(i:Nat)(s:I4)(hs:s.key.length=32):E2 (W.setCells g (so i) s.v) g (T.put i s):=by unfold E2 at*;rw[T.rN i] at K;rw[T.uf i s];exact Zp s.v (T.EY i).v (T.pre i) (so i) W K (by rw[I4.J_ hs,I4.J_ (h.EY i).len]) (EP.oT h i)
theorem Gc(i:Nat):so i<=81:=by unfold so;split<;>omega
def uG(T:EP)(g:Nat)(src:Int)(w:M)(e:Ut)(w':M):Prop:=(if src=1\/src=2\/src=3 then(if(T.EY (src-1).toNat).on then e=Eg (Ec u)/\E2 w' g (T.put (src-1).toNat Jp) else e=Eg (Ec B)/\E2 w' g T) else e=Eg (Ec B)/\E2 w' g T)/\EH g w w'
theorem EUU(g:Nat)(T:EP)(src:Int)(w:M)(K:E2 w g T)(h:T.ok):Ef EU 176 #[Y (D ⟨g,0,Z⟩),E I src] w (uG T g src w):=by
 have CO:=O<|pX g T src w K h;rcases zN T g src with⟨e1,e2,-⟩|⟨i,hi,es,hon,e1,-,-⟩
 ·have hf: ¬((src=1\/src=2\/src=3)/\(T.EY (src-1).toNat).on=u):=by rintro⟨hs,ho⟩;have:=e2 X X;unfold EP.Zu at this;rw[if_neg X,if_neg X,if_pos hs,ho] at this;cases this
  have hpost: ∀(e:Ut) (w':M),e=Eg (Ec B)->w=w'->uG T g src w e w':=by
   intro e w' he hw;subst hw;refine⟨?_,EH.refl _ _⟩;by_cases hs:src=1\/src=2\/src=3;·rw[if_pos hs,if_neg (fun ho=>hf ⟨hs,ho⟩)];exact⟨he,K⟩
   ·rw[if_neg hs];exact⟨he,K⟩
  replace hpost:=O hpost;rw[e1] at CO;clear e1 e2 K h hf;go_enter Tryz.func176,Tryz.ntmps176;go_wp2_with fail;refine(CO.out).mono ?_;rintro e w' ⟨rfl,rfl⟩;go_wp2_with fail;go_ret;exact hpost.out _ _ U U
 ·have e2:(src-1).toNat=i:=X;have hs:src=1\/src=2\/src=3:=X;have hpost:Ea (∀(e:Ut) (w':M),e=Eg (Ec u)->E2 w' g (T.put i Jp)->EH g w w'->uG T g src w e w'):=O (by intro e w' he hk ho;refine⟨?_,ho⟩;rw[if_pos hs,e2,if_pos hon];exact⟨he,hk⟩);have K2:=O<|ia K h i Jp U;have ON:=O<|Jq (g:=g) Jp.v (so i) w;have TH:Ea (w.there g (so i) 39):=O<|XN K (by rw[uF K h];have:=Gc i;omega);have BZ:=O Qq;have SZ:=O<|show Jp.v.toArray.size=39 from I4.J_ U;have S1:=O<|Zw Jp;rw[e1] at CO;generalize so i=o at*;clear e1 e2 K h hs hon es;obtain⟨sv,hsv⟩:=En Jp.v;rw[<-hsv] at K2 ON BZ SZ S1;clear hsv;go_enter Tryz.func176,Tryz.ntmps176;go_wp2_with fail;refine(CO.out).mono ?_;rintro e w' ⟨rfl,rfl⟩;go_wp2_with (first|((with_reducible refine Is 12 ?_);refine I3 rfl 160 _ rfl sv.toArray BZ.out ?_)|((with_reducible refine JE 160 ?_);(with_reducible refine OH rfl 160 _ _ rfl g o sv.toArray ?_ ?_ ?_ ?_ ?_ ?_);(·rfl);(·rfl);(·rw[SZ.out];exact TH.out);(·rw[SZ.out];exact Zv.2);(·exact S1.out)));go_ret;exact hpost.out _ _ U K2.out ON.out
theorem EUX(g:Nat)(T:EP)(w:M)(K:E2 w g T)(h:T.ok): Ef EU 91 #[Y (D ⟨g,0,Z⟩)] w fun e w'=>e=Eg (Et #[])/\E2 w' g {T with ZQ:=true,sa:=0,sm:=max T.E9 0}/\EH g w w':=by
 have c0: ∀y:Ext w,(Ey w y).cell? ⟨g,120,Z⟩=D (E I T.E9):=fun y=>(iZ (K.G (ED y)) h).1;have KK:Ea (H w g ([]++([Ec T.ZQ,E I T.sa,E I T.sm]++(T.s0.v++(T.s1.v++(T.s2.v++T.tl))))).toArray 163):=O K;have CH:=O<|fun W (k:H W g ([]++([Ec T.ZQ,E I T.sa,E I T.sm]++(T.s0.v++(T.s1.v++(T.s2.v++T.tl))))).toArray 163)=>hZ g 0 [] _ _ _ _ 163 T.E9 W k U;have HP:Ea (∀w',H w' g ([]++(O8 u 0 (max T.E9 0)++(T.s0.v++(T.s1.v++(T.s2.v++T.tl))))).toArray 163->E2 w' g {T with ZQ:=true,sa:=0,sm:=max T.E9 0}):=O fun w' k=>k;generalize T.E9=E9 at*;clear K h;go_enter Tryz.func91,Tryz.ntmps91;refine J5 7 Ed Ed ?_;simp only[Ir,Im,IL,IG]
 repeat (first
  |go_big_quiet_skip
  |(go_big_quiet_want
    first
     |(go_big_quiet_op
       first
        |go_big_quiet_on
        |go_big_quiet_call ((fail)))))
 refine IM ?_;intro _ hw';obtain⟨y9,rfl⟩:=hw';have Em:=ED y9;replace KK:=O<|KK.out.G Em;clear c0;generalize Ey w y9=w1 at*;go_wp2_with fail;refine(CH.out _ KK.out).mono ?_;rintro e w2 ⟨rfl,k2,o2⟩;go_wp2_with fail;go_end0;exact⟨U,HP.out _ k2,(EH.Ew Em).trans o2⟩
def rr(x:Int)(n:Nat):Int:=Ix .or .u32 (IntKind.u32.wrap (x*2^(32-n))) (x/2^n)
def Qr(x:Int):Int:=Ix .xor .u32 (Ix .xor .u32 (rr x 7) (rr x 18)) (x/2^3)
def Qs(y:Int):Int:=Ix .xor .u32 (Ix .xor .u32 (rr y 17) (rr y 19)) (y/2^10)
def S1(y:Int):Int:=Ix .xor .u32 (Ix .xor .u32 (rr y 6) (rr y 11)) (rr y 25)
def S0(x:Int):Int:=Ix .xor .u32 (Ix .xor .u32 (rr x 2) (rr x 13)) (rr x 22)
def cho(y f g:Int):Int:=Ix .or .u32 (Ix .and .u32 y f) (Ix .and .u32 (Ix .xor .u32 4294967295 y) g)
def maj(x b c:Int):Int:=Ix .or .u32 (Ix .or .u32 (Ix .and .u32 x b) (Ix .and .u32 x c)) (Ix .and .u32 b c)
def Gd(a b c d:Int):Int:=Ix .or .u32 (Ix .or .u32 (Ix .or .u32 (IntKind.u32.wrap (a*2^24)) (IntKind.u32.wrap (b*2^16))) (IntKind.u32.wrap (c*2^8))) d
def sJ(l:List Int)(i:Nat):Int:=Gd (l.getD (4*i) 0) (l.getD (4*i+1) 0) (l.getD (4*i+2) 0) (l.getD (4*i+3) 0)
def nxt(p q x y:Int):Int:=(p+q+Qr x+Qs y)%4294967296
def pZ(l:List Int)(i:Nat):Int:=nxt (l.getD (i-16) 0) (l.getD (i-7) 0) (l.getD (i-15) 0) (l.getD (i-2) 0)
def sched(b:List Int):Nat->List Int
 |0=>[]
 |i+1=>sched b i++[if i<16 then sJ b i else pZ (sched b i) i]
structure St where
 (a b c d e f g h:Int)
def St.cells(s:St):Array V:= #[E Ou s.a,E Ou s.b,E Ou s.c,E Ou s.d,E Ou s.e,E Ou s.f,E Ou s.g,E Ou s.h]
def St.list(s:St):List Int:=[s.a,s.b,s.c,s.d,s.e,s.f,s.g,s.h]
def Qt(k w e f g h:Int):Int:=h+S1 e+cho e f g+k+w
def EUc(a b c:Int):Int:=S0 a+maj a b c
def Gf(k w:Int)(s:St):St:=
 ⟨(Qt k w s.e s.f s.g s.h+EUc s.a s.b s.c)%4294967296,s.a,s.b,s.c,(s.d+Qt k w s.e s.f s.g s.h)%4294967296,s.e,s.f,s.g⟩
def pb(ks ws:List Int)(s:St):Nat->St
 |0=>s
 |i+1=>Gf (ks.getD i 0) (ws.getD i 0) (pb ks ws s i)
def gJ(n h:St):St:=
 ⟨(n.a+h.a)%4294967296,(n.b+h.b)%4294967296,(n.c+h.c)%4294967296,(n.d+h.d)%4294967296,(n.e+h.e)%4294967296,(n.f+h.f)%4294967296,(n.g+h.g)%4294967296,(n.h+h.h)%4294967296⟩
theorem EUd(n h:St)(i:Nat)(hi:i<8):(gJ n h).list.getD i 0=(n.list.getD i 0+h.list.getD i 0)%4294967296:=by rcases(show i=0\/i=1\/i=2\/i=3\/i=4\/i=5\/i=6\/i=7 from X) with rfl|rfl|rfl|rfl|rfl|rfl|rfl|rfl<;>rfl
def kC:List Int:=[
 0x428a2f98,0x71374491,0xb5c0fbcf,0xe9b5dba5,0x3956c25b,0x59f111f1,0x923f82a4,0xab1c5ed5,
 0xd807aa98,0x12835b01,0x243185be,0x550c7dc3,0x72be5d74,0x80deb1fe,0x9bdc06a7,0xc19bf174,
 0xe49b69c1,0xefbe4786,0x0fc19dc6,0x240ca1cc,0x2de92c6f,0x4a7484aa,0x5cb0a9dc,0x76f988da,
 0x983e5152,0xa831c66d,0xb00327c8,0xbf597fc7,0xc6e00bf3,0xd5a79147,0x06ca6351,0x14292967,
 0x27b70a85,0x2e1b2138,0x4d2c6dfc,0x53380d13,0x650a7354,0x766a0abb,0x81c2c92e,0x92722c85,
 0xa2bfe8a1,0xa81a664b,0xc24b8b70,0xc76c51a3,0xd192e819,0xd6990624,0xf40e3585,0x106aa070,
 0x19a4c116,0x1e376c08,0x2748774c,0x34b0bcb5,0x391c0cb3,0x4ed8aa4a,0x5b9cca4f,0x682e6ff3,
 0x748f82ee,0x78a5636f,0x84c87814,0x8cc70208,0x90befffa,0xa4506ceb,0xbef9a3f7,0xc67178f2]
def kD:St:=⟨0x6a09e667,0xbb67ae85,0x3c6ef372,0xa54ff53a,0x510e527f,0x9b05688c,0x1f83d9ab,0x5be0cd19⟩
def kF(h:St)(b:List Int):St:=gJ (pb kC (sched b 64) h 64) h
def nJ(p:List Int):Nat->St
 |0=>kD
 |i+1=>kF (nJ p i) ((p.drop (64*i)).take 64)
def Zx(s:St):List Int:=be s.a 4++be s.b 4++be s.c 4++be s.d 4++be s.e 4++be s.f 4++be s.g 4++be s.h 4
def Xc(n:Nat):Nat:=(n+72)/64*64
def kG(xs:List Int):List Int:=xs++128::(hX (Xc xs.length-xs.length-9) 0++be ((xs.length:Int)*8) 8)
def Qu(xs:List Int):St:=nJ (kG xs) (Xc xs.length/64)
def Xv(xs:List Int):List Int:=Zx (Qu xs)
theorem uH(n:Nat):n+9<=Xc n:=by unfold Xc;omega
theorem Qv(n:Nat):64*(Xc n/64)=Xc n:=by unfold Xc;omega
theorem EUf(xs:List Int):(kG xs).length=Xc xs.length:=by have:=uH xs.length;simp only[kG,I2,ZV,List.length_replicate,Ua];omega
theorem EUg(xs:List Int)(h: ∀x∈xs,0<=x/\x<=255): ∀x∈kG xs,0<=x/\x<=255:=by
 intro x hx;simp only[kG,XP,Ui,List.mem_replicate] at hx;rcases hx with hx|rfl|⟨_,rfl⟩|hx;·exact h x hx
 ·omega
 ·omega
 ·exact uw _ _ x hx
theorem sO(s:St):(Zx s).length=32:=by simp[Zx,Ua]
theorem EUh(s:St): ∀x∈Zx s,0<=x/\x<=255:=by intro x hx;simp only[Zx,XP] at hx;rcases hx with((((((h|h)|h)|h)|h)|h)|h)|h<;>exact uw _ _ x h
theorem kH(xs:List Int):(Xv xs).length=32:=sO _
theorem sU(xs:List Int): ∀x∈Xv xs,0<=x/\x<=255:=EUh _
theorem zP(b:List Int)(i:Nat):(sched b i).length=i:=by
 induction i with
 |zero=>rfl
 |succ i ih=>simp[sched,ih]
theorem EUi(b:List Int)(i j:Nat)(h:i<=j):(sched b j).take i=sched b i:=by
 induction j with
 |zero=> obtain rfl:i=0:=X;rfl
 |succ j ih=>
  rcases JG j i with h1|h1;·obtain rfl:i=j+1:=X;rw[UZ (by rw[zP];omega)]
  ·rw[sched,List.take_append_of_le_length (by rw[zP];omega),ih h1]
theorem uK(b:List Int)(i j k:Nat)(h:k<i)(hj:i<=j):(sched b j).getD k 0=(sched b i).getD k 0:=by rw[<-EUi b i j hj];simp only[UK];rw[bN h]
theorem EUj(b:List Int)(i j:Nat)(h:i<j):(sched b j).getD i 0=if i<16 then sJ b i else pZ (sched b j) i:=by
 rw[uK b (i+1) j i X X,sched];have e:(sched b i++[if i<16 then sJ b i else pZ (sched b i) i]).getD i 0=if i<16 then sJ b i else pZ (sched b i) i:=by simp[UK,zP]
 rw[e];split;·rfl
 ·unfold pZ;rw[uK b i j _ X X,uK b i j _ X X,uK b i j _ X X,uK b i j _ X X]
theorem EUk(x:Int)(w:M):Ef EU 156 #[E Ou x,E I 2] w fun e w'=>e=Eg (E Ou (rr x 2))/\w=w':=by have h:Ix kK Il (IntKind.u64.wrap (-2)) 31=30:=Eb;exact EpR
theorem EUl(x:Int)(w:M):Ef EU 156 #[E Ou x,E I 6] w fun e w'=>e=Eg (E Ou (rr x 6))/\w=w':=by have h:Ix kK Il (IntKind.u64.wrap (-6)) 31=26:=Eb;exact EpR
theorem Qw(x:Int)(w:M):Ef EU 156 #[E Ou x,E I 7] w fun e w'=>e=Eg (E Ou (rr x 7))/\w=w':=by have h:Ix kK Il (IntKind.u64.wrap (-7)) 31=25:=Eb;exact EpR
theorem EUm(x:Int)(w:M):Ef EU 156 #[E Ou x,E I 11] w fun e w'=>e=Eg (E Ou (rr x 11))/\w=w':=by have h:Ix kK Il (IntKind.u64.wrap (-11)) 31=21:=Eb;exact EpR
theorem EUn(x:Int)(w:M):Ef EU 156 #[E Ou x,E I 13] w fun e w'=>e=Eg (E Ou (rr x 13))/\w=w':=by have h:Ix kK Il (IntKind.u64.wrap (-13)) 31=19:=Eb;exact EpR
theorem Qx(x:Int)(w:M):Ef EU 156 #[E Ou x,E I 17] w fun e w'=>e=Eg (E Ou (rr x 17))/\w=w':=by have h:Ix kK Il (IntKind.u64.wrap (-17)) 31=15:=Eb;exact EpR
theorem Qy(x:Int)(w:M):Ef EU 156 #[E Ou x,E I 18] w fun e w'=>e=Eg (E Ou (rr x 18))/\w=w':=by have h:Ix kK Il (IntKind.u64.wrap (-18)) 31=14:=Eb;exact EpR
theorem Qz(x:Int)(w:M):Ef EU 156 #[E Ou x,E I 19] w fun e w'=>e=Eg (E Ou (rr x 19))/\w=w':=by have h:Ix kK Il (IntKind.u64.wrap (-19)) 31=13:=Eb;exact EpR
theorem EUo(x:Int)(w:M):Ef EU 156 #[E Ou x,E I 22] w fun e w'=>e=Eg (E Ou (rr x 22))/\w=w':=by have h:Ix kK Il (IntKind.u64.wrap (-22)) 31=10:=Eb;exact EpR
theorem EUp(x:Int)(w:M):Ef EU 156 #[E Ou x,E I 25] w fun e w'=>e=Eg (E Ou (rr x 25))/\w=w':=by have h:Ix kK Il (IntKind.u64.wrap (-25)) 31=7:=Eb;exact EpR
theorem QA(x n:Int)(w:M)(hn:n=2\/n=6\/n=7\/n=11\/n=13\/n=17\/n=18\/n=19\/n=22\/n=25): Ef EU 156 #[E Ou x,E I n] w fun e w'=>e=Eg (E Ou (rr x n.toNat))/\w=w':=by
 rcases hn with rfl|rfl|rfl|rfl|rfl|rfl|rfl|rfl|rfl|rfl;·exact EUk x w
 ·exact EUl x w
 ·exact Qw x w
 ·exact EUm x w
 ·exact EUn x w
 ·exact Qx x w
 ·exact Qy x w
 ·exact Qz x w
 ·exact EUo x w
 ·exact EUp x w
theorem pd(n:Int)(h0:0<=n)(h1:n<=4294967295):IntKind.u32.wrap n=n:=by rw[IntKind.wrap_u32'];omega
theorem EUq(h: ∀x∈l,0<=x/\x<=255)(k:Nat):0<=l.getD k 0/\l.getD k 0<=255:=by
 rcases JG k l.length with hk|hk
 ·have e:l.getD k 0=l[k]:=by simp[hk]
  rw[e];exact h _ (hH _)
 ·have e:l.getD k 0=0:=by simp[hk]
  rw[e];omega
theorem EUr{a b c d:Int}(a0:0<=a)(a1:a<=255)(b0:0<=b)(b1:b<=255)(c0:0<=c)(c1:c<=255): Gd a b c d=Ix .or .u32 (Ix .or .u32 (Ix .or .u32 (a*16777216) (b*65536)) (c*256)) d:=by unfold Gd;rw[show(2:Int)^24=16777216 from Eb,show(2:Int)^16=65536 from Eb,show(2:Int)^8=256 from Eb,pd (a*16777216) X X,pd (b*65536) X X,pd (c*256) X X]
theorem zQ:Od EU 211 (JA (Er 8)):=by intro ev o w ho;unfold Iw;simp only[ho];simp[go_sem];exact congrArg (fun c=>w.alloc (EJ c 211)) Ed
theorem QC:Od EU 250 (JA (Er 64)):=by intro ev o w ho;unfold Iw;simp only[ho];simp[go_sem];exact congrArg (fun c=>w.alloc (EJ c 250)) Ed
theorem gO:IW EU 211 8:=⟨⟨_,Tryz.underlying211,U⟩,Ed⟩
theorem zR:IW EU 250 64:=⟨⟨_,Tryz.underlying250,U⟩,Ed⟩
theorem pg:IW EU 214 64:=⟨⟨_,Tryz.underlying214,U⟩,Ed⟩
def Gg(b sl:List Int):Prop:=sl.length=64/\ ∀i,i<64->sl.getD i 0=if i<16 then sJ b i else pZ sl i
theorem EUs(b sl:List Int)(hl:b.length=64)(hb: ∀x∈b,0<=x/\x<=255)(hs:Gg b sl)(w:M): Ef EU 155 #[EZ (Ej b)] w fun e w'=>e=Eg (EZ (JA sl))/\El w w':=by
 have HL:=O hl;have HB:=O hb;have HS:=O hs;clear hl hb hs;go_enter Tryz.func155,Tryz.ntmps155;go_wp2_with (with_reducible refine wA QC ?_);go_loopw[10] (fun y wr=> ∃i:Nat,i<=16/\y=E I i/\H wr w.heap.size (Ej b) 214/\H wr (w.heap.size+1) (JA (Er 64)) 250/\H wr (w.heap.size+1+1) (JA (part sl i)) 250/\El w wr) (fun y _=>16-(Iv y).toNat)
 case atStart=>
  refine⟨0,X,U,((H.new w _ _).alloc _).alloc _,?_,?_,af w _ _ _⟩;·exact(H.new' _ _ _ (by simp[Pi])).alloc _
  ·rw[Pk,HS.out.1];exact H.new' _ _ _ (by simp[Pi])
 case round=>
  obtain⟨i,hi,rfl,K1,K2,K3,hB⟩:=hrel;by_cases hlt:i<16
  ·have c0:=K1.cell (4*i);have c1:=K1.cell (4*i+1);have c2:=K1.cell (4*i+2);have c3:=K1.cell (4*i+3);rw[kZ _ _ Gh] at c0 c1 c2 c3;have uL: ∀k,0<=b.getD k 0/\b.getD k 0<=255:=fun k=>EUq HB.out k;have WD:=HS.out.2 i X;rw[if_pos hlt] at WD;unfold sJ at WD;have b0:=uL (4*i);have b1:=uL (4*i+1);have b2:=uL (4*i+2);have b3:=uL (4*i+3);clear uL;generalize b.getD (4*i) 0=x0 at*;generalize b.getD (4*i+1) 0=x1 at*;generalize b.getD (4*i+2) 0=x2 at*;generalize b.getD (4*i+3) 0=x3 at*;have v0:IntKind.u32.wrap x0=x0:=pd _ X X;have v1:IntKind.u32.wrap x1=x1:=pd _ X X;have v2:IntKind.u32.wrap x2=x2:=pd _ X X;have v3:IntKind.u32.wrap x3=x3:=pd _ X X;have cw:=K3.cell i;have fw:=K3.JX i;rw[ub _ _ (by rw[yT _ _ Gi,HS.out.1];omega)] at cw;replace WD:=O WD;replace K1:=O K1;replace K2:=O K2;replace K3:=O K3;replace hB:=O hB;go_wp2_with fail;refine ua 31 Ed Ed ?_;simp only[Ir,Im,IL,IG];repeat (go_big_quiet_step (fail))
   refine IM ?_;intro _ hw';obtain⟨nq,rfl⟩:=hw';go_wp2_with fail;have e:Ix .or .u32 (Ix .or .u32 (Ix .or .u32 (x0*16777216) (x1*65536)) (x2*256)) x3=sl.getD i 0:=by rw[WD.out];exact(EUr b0.1 b0.2 b1.1 b1.2 b2.1 b2.2).symm
   rw[e];have hl2:=HS.out.1;refine⟨⟨i+1,X,Eh,(K1.out.drewN nq).other _ _ _ X,(K2.out.drewN nq).other _ _ _ X,?_,(j9 hB.out nq).setCell Jn _⟩,Jv⟩;have h:=(K3.out.drewN nq).set i (E Ou (sl.getD i 0));rw[Fv,Fw _ _ X] at h;exact h
  ·obtain rfl:i=16:=X;rw[show((16:Nat):Int)=16 from rfl];replace K1:=O K1;replace K2:=O K2;replace K3:=O K3;replace hB:=O hB;go_wp2_with fail;go_loopw[5] (fun y wx=> ∃i:Nat,16<=i/\i<=64/\y=E I i/\H wx (w.heap.size+1) (JA (Er 64)) 250/\H wx (w.heap.size+1+1) (JA (part sl i)) 250/\El w wx) (fun y _=>64-(Iv y).toNat);case atStart=>exact⟨16,X,X,U,K2.out,K3.out,hB.out⟩
   case round=>
    obtain⟨i,hi0,hi,rfl,K2,K3,hB⟩:=hrel;by_cases hlt:i<64
    ·have hl2:=HS.out.1;have lp:(part sl i).length=64:=by rw[yT _ _ X,hl2]
     have c0:=K3.cell (i-16);have c1:=K3.cell (i-7);have c2:=K3.cell (i-15);have c3:=K3.cell (i-2);have cw:=K3.cell i;have fw:=K3.JX i;rw[ub _ _ X] at c0 c1 c2 c3 cw;rw[EJd _ _ _ X X] at c0 c1 c2 c3;have WD:=HS.out.2 i hlt;rw[if_neg X] at WD;unfold pZ at WD;generalize sl.getD (i-16) 0=x0 at*;generalize sl.getD (i-7) 0=x1 at*;generalize sl.getD (i-15) 0=x2 at*;generalize sl.getD (i-2) 0=x3 at*;replace WD:=O WD;replace K2:=O K2;replace K3:=O K3;replace hB:=O hB;replace hl2:=O hl2;clear lp;go_wp2_with fail;go_quiet (fail);go_wp2_with fail;(with_reducible refine(Qw _ _).mono ?_);rintro e w' ⟨rfl,rfl⟩;go_wp2_with fail;(with_reducible refine(Qy _ _).mono ?_);rintro e w' ⟨rfl,rfl⟩;go_wp2_with fail;(with_reducible refine(Qx _ _).mono ?_);rintro e w' ⟨rfl,rfl⟩;go_wp2_with fail;(with_reducible refine(Qz _ _).mono ?_);rintro e w' ⟨rfl,rfl⟩;go_wp2_with fail;refine ua 15 Ed Ed ?_;simp only[Ir,Im,IL,IG];repeat (go_big_quiet_step (fail))
     refine IM ?_;intro _ hw';obtain⟨nq2,rfl⟩:=hw';go_wp2_with fail;have hl2:=hl2.out;have e:(x0+x1+Qr x2+Qs x3)%4294967296=sl.getD i 0:=by rw[WD.out];rfl
     refine⟨⟨i+1,X,X,Eh,(K2.out.drewN _).other _ _ _ X,?_,(j9 hB.out _).setCell Jn _⟩,Jv⟩;have h:=(K3.out.drewN (nq+nq2)).set i (E Ou (sl.getD i 0));rw[Fv,Fw _ _ X,<-e] at h;exact h
    ·obtain rfl:i=64:=X;rw[Pm _ _ Gi] at K3;replace K2:=O K2;replace K3:=O K3;replace hB:=O hB
     go_wp2_with (first
      |(with_reducible refine wL zR K3 ?_ (hn:=Gj))
      |(with_reducible refine wS (cs:=JA sl) zR K2 ?_ (ho:=sX) (hn:=Gj) (h1:=Pj _)))
     refine ET (v:=EZ (JA sl)) (Jl zR U _ _ (w.heap.size+1) _ U (K2.out.setRow _) (by rw[Fu,HS.out.1])) U ⟨U,E3 hB.out X _⟩
def JP(w:M):Prop:= ∀i:Nat,i<64->w.cell? ⟨0,i,Z⟩=D (E Ou (kC.getD i 0))
theorem JP.G(h:JP w)(hb:El w w'):JP w':=fun i hi=>by rw[hb.cell (XA _ _ (h i hi))];exact h i hi
theorem JP.drewN(h:JP w)(n:Nat):JP (w.drewN n):=h
theorem JP.lt(h:JP w):0<w.heap.size:=XA _ _ (h 0 X)
theorem JP.setRow(h:JP w)(g:Nat)(cs:Array V)(hg:0≠g):JP (w.setRow g cs):=fun i hi=>by rw[cell_setRow_other _ _ _ _ hg];exact h i hi
theorem St.fb(s:St):s.cells.size=8:=rfl
theorem St.sZ(s:St):s.cells.all (·.oneCell')=u:=by simp[St.cells,OC]
theorem EUu(h0 r:St)(b sl:List Int)(hl:b.length=64)(hb: ∀x∈b,0<=x/\x<=255)(hs:Gg b sl)(hr:pb kC sl h0 64=r)(w:M)(hR:JP w): Ef EU 114 #[EZ h0.cells,EZ (Ej b)] w fun e w'=>e=Eg (EZ (gJ r h0).cells)/\El w w':=by
 have HL:=O hl;have HB:=O hb;have HS:=O hs;have HR:=O hr;have RT:=O hR;have rl:=hR.lt;clear hl hb hs hr hR;go_enter Tryz.func114,Tryz.ntmps114;go_wp2_with (with_reducible refine wA zQ (Ev.mk ?_));apply Eo;have KH:=O<|((H.new w h0.cells 211).alloc (EJ (Ej b) 214)).alloc (EJ (JA (Er 8)) 211);have KB:=O<|(H.new' (w.alloc (EJ h0.cells 211)) (Ej b) 214 (g:=w.heap.size+1) Eh).alloc (EJ (JA (Er 8)) 211);have KR:=O<|H.new' ((w.alloc (EJ h0.cells 211)).alloc (EJ (Ej b) 214)) (JA (Er 8)) 211 (g:=w.heap.size+1+1) Eh;have BB:=O<|af w (EJ h0.cells 211) (EJ (Ej b) 214) (EJ (JA (Er 8)) 211);generalize ((w.alloc (EJ h0.cells 211)).alloc (EJ (Ej b) 214)).alloc (EJ (JA (Er 8)) 211)=w3 at*;replace RT:=O<|RT.out.G BB.out;go_wp2_with (with_reducible refine wL pg KB ?_ (hn:=QD));refine(EUs b sl HL.out HB.out HS.out _).mono ?_;rintro e w4 ⟨rfl,b4⟩;replace KH:=O<|KH.out.G b4;replace KR:=O<|KR.out.G b4;replace RT:=O<|RT.out.G b4;replace BB:=EW BB b4;clear b4 KB;have l4:=KR.out.lt;go_wp2_with (with_reducible refine wA QC (Ev.mk ?_));apply Eo;have bel:=Ep w4 (EJ (JA (Er 64)) 250);replace KH:=O<|KH.out.G bel;replace KR:=O<|KR.out.G bel;replace RT:=O<|RT.out.G bel;replace BB:=EW BB bel;have KW:=O<|H.new w4 (JA (Er 64)) 250;clear bel;generalize w4.alloc (EJ (JA (Er 64)) 250)=w5 at*;go_wp2_with (with_reducible refine wS (cs:=JA sl) zR KW (Ev.mk ?_) (ho:=sX) (hn:=Gj) (h1:=Pj _));apply Eo;replace KH:=O<|KH.out.setRow_other w4.heap.size (JA sl) X;replace KR:=O<|KR.out.setRow_other w4.heap.size (JA sl) X;replace RT:=O<|RT.out.setRow w4.heap.size (JA sl) X;replace KW:=O<|KW.out.setRow (JA sl);replace BB:=O<|E3 (g:=w4.heap.size) BB.out X (JA sl);generalize w5.setRow w4.heap.size (JA sl)=w6 at*;go_wp2_with (with_reducible first|refine wL gO KH ?_ (hn:=St.fb _)|refine wA zQ (Ev.mk ?_));apply Eo;have l6:=KW.out.lt;have bel:=Ep w6 (EJ (JA (Er 8)) 211);replace KH:=O<|KH.out.G bel;replace KR:=O<|KR.out.G bel;replace KW:=O<|KW.out.G bel;replace RT:=O<|RT.out.G bel;replace BB:=EW BB bel;have KN:=O<|H.new w6 (JA (Er 8)) 211;clear bel;generalize w6.alloc (EJ (JA (Er 8)) 211)=w7 at*;go_wp2_with (with_reducible refine wS (cs:=h0.cells) gO KN (Ev.mk ?_) (ho:=sX) (hn:=St.fb _) (h1:=St.sZ _));apply Eo;replace KH:=O<|KH.out.setRow_other w6.heap.size h0.cells X;replace KR:=O<|KR.out.setRow_other w6.heap.size h0.cells X;replace KW:=O<|KW.out.setRow_other w6.heap.size h0.cells X;replace RT:=O<|RT.out.setRow w6.heap.size h0.cells X;replace KN:=O<|KN.out.setRow h0.cells;replace BB:=O<|E3 (g:=w6.heap.size) BB.out X h0.cells;generalize w7.setRow w6.heap.size h0.cells=w8 at*;go_wp2_with fail;go_loopw[17] (fun y wr=> ∃i:Nat,i<=64/\y=E I i/\H wr w6.heap.size (pb kC sl h0 i).cells 211/\H wr w4.heap.size (JA sl) 250/\H wr w.heap.size h0.cells 211/\H wr (w.heap.size+1+1) (JA (Er 8)) 211/\JP wr/\El w wr) (fun y _=>64-(Iv y).toNat);case atStart=>exact⟨0,X,U,KN.out,KW.out,KH.out,KR.out,RT.out,BB.out⟩
 case round=>
  clear KN KW KH KR RT BB;obtain⟨i,hi,rfl,KN,KW,KH,KR,RT,BB⟩:=hrel;by_cases hlt:i<64;·have STEP:pb kC sl h0 (i+1)=Gf (kC.getD i 0) (sl.getD i 0) (pb kC sl h0 i):=rfl;have cr:=RT i hlt;have cw:=KW.cell i;rw[ub _ _ Gi] at cw;generalize hq:pb kC sl h0 i=q at*;generalize kC.getD i 0=k at*;generalize sl.getD i 0=x at*;replace STEP:=O STEP;obtain⟨qa,qb,qc,qd,qe,qf,qg,qh⟩:=q;clear hq;have cn:=fun j=>KN.cell j;simp only[St.cells] at cn;replace KN:=O KN;replace KW:=O KW;replace KH:=O KH;replace KR:=O KR;replace RT:=O RT;replace BB:=O BB;go_wp2_with fail;go_quiet (fail);revert nq;intro n1;go_wp2_with fail;go_quiet (((with_reducible refine(QA _ _ _ ?_).mono ?_);(·decide);(rintro e w2 ⟨rfl,rfl⟩;exact⟨U,_,U⟩)));revert nq;intro n2;go_wp2_with fail;go_quiet (((with_reducible refine(QA _ _ _ ?_).mono ?_);(·decide);(rintro e w2 ⟨rfl,rfl⟩;exact⟨U,_,U⟩)));revert nq;intro n3;have QG:=O<|KN.out.drewN (n1+n2+n3);go_wp2_with (with_reducible refine wS (cs:=(Gf k x ⟨qa,qb,qc,qd,qe,qf,qg,qh⟩).cells) gO QG (Ev.mk ?_) (ho:=St.fb _) (hn:=St.fb _) (h1:=St.sZ _));apply Eo;go_wp2_with fail;rename_i hsg;refine⟨⟨i+1,X,Eh,?_,(KW.out.drewN _).setRow_other _ _ X,(KH.out.drewN _).setRow_other _ _ X,(KR.out.drewN _).setRow_other _ _ X,(RT.out.drewN _).setRow _ _ X,E3 (j9 BB.out _) X _⟩,Jv⟩;rw[STEP.out];exact QG.out.setRow _
  ·obtain rfl:i=64:=X;rw[show((64:Nat):Int)=64 from rfl];rw[HR.out] at KN;replace KN:=O KN;replace KW:=O KW;replace KH:=O KH;replace KR:=O KR;replace RT:=O RT;replace BB:=O BB;go_wp2_with fail;go_loopw[100] (fun y wx=> ∃i:Nat,i<=8/\y=E I i/\H wx w6.heap.size (JA (dZ (gJ r h0).list r.list i)) 211/\H wx w.heap.size h0.cells 211/\H wx (w.heap.size+1+1) (JA (Er 8)) 211/\El w wx) (fun y _=>8-(Iv y).toNat);case atStart=>exact⟨0,X,rfl,by rw[Pn];exact KN.out,KH.out,KR.out,BB.out⟩
   case round=>
    clear KN KW KH KR RT BB;obtain⟨i,hi,rfl,KN,KH,KR,BB⟩:=hrel;by_cases hlt:i<8
    ·have c0:=KN.cell i;have c1:=KH.cell i;have f0:=KN.JX i;rw[ub _ _ (by rw[Fx (gJ r h0).list r.list i rfl hi];exact hlt),EJf (gJ r h0).list r.list i i rfl (E7 _) hlt] at c0;rw[show h0.cells=JA h0.list from rfl,ub _ _ (by exact hlt)] at c1;have AD:=EUd r h0 i hlt;generalize r.list.getD i 0=x0 at*;generalize h0.list.getD i 0=x1 at*;replace AD:=O AD;replace KN:=O KN;replace KH:=O KH;replace KR:=O KR;replace BB:=O BB;go_wp2_with fail;refine ua 8 Ed Ed ?_;simp only[Ir,Im,IL,IG];repeat (go_big_quiet_step (fail))
     refine IM ?_;intro _ hw';obtain⟨nq,rfl⟩:=hw';go_wp2_with fail;refine⟨⟨i+1,X,Eh,?_,(KH.out.drewN _).other _ _ _ X,(KR.out.drewN _).other _ _ _ X,(j9 BB.out _).setCell Jn _⟩,Jv⟩;have hh:=(KN.out.drewN nq).set i (E Ou ((gJ r h0).list.getD i 0));rw[Fv,uc (gJ r h0).list r.list i rfl hlt,AD.out] at hh;exact hh
    ·obtain rfl:i=8:=X;rw[show((8:Nat):Int)=8 from rfl];rw[Po (gJ r h0).list r.list 8 (E7 8) (E7 8)] at KN;replace KN:=O<|show H wr w6.heap.size (gJ r h0).cells 211 from KN;replace KR:=O KR;replace BB:=O BB;go_wp2_with (with_reducible first|refine wL gO KN ?_ (hn:=St.fb _)|refine wS (cs:=(gJ r h0).cells) gO KR ?_ (ho:=sX) (hn:=St.fb _) (h1:=St.sZ _));refine ET (v:=EZ (gJ r h0).cells) (Jl gO rfl _ _ (w.heap.size+1+1) _ rfl (KR.out.setRow _) (St.fb _)) rfl ⟨rfl,E3 BB.out X _⟩
theorem EUv(w:M):Ef EU 112 #[] w fun e w'=>e=Eg (EZ kD.cells)/\El w w':=by go_enter Tryz.func112,Tryz.ntmps112;go_wp2_with (with_reducible refine wA zQ (Ev.mk ?_));apply Eo;have KR:=O<|H.new w (JA (Er 8)) 211;have BB:=O<|Ep w (EJ (JA (Er 8)) 211);generalize w.alloc (EJ (JA (Er 8)) 211)=w3 at*;go_wp2_with (with_reducible refine wS (cs:=kD.cells) gO KR ?_ (ho:=sX) (h1:=St.sZ _));refine ET (v:=EZ kD.cells) (Jl gO U _ _ (w.heap.size) _ U (KR.out.setRow _) (St.fb _)) U ⟨U,E3 BB.out X _⟩
def ib(xs:List Int)(i:Nat):List Int:=xs++128::(hX (Xc xs.length-xs.length-1-i) 0++be ((xs.length:Int)*8) i)
theorem EUw(xs:List Int):ib xs 8=kG xs:=by unfold ib kG;rw[show Xc xs.length-xs.length-1-8=Xc xs.length-xs.length-9 from X]
theorem EUx(xs:List Int)(i:Nat)(h:i<=8):(ib xs i).length=Xc xs.length:=by have:=uH xs.length;simp only[ib,I2,ZV,List.length_replicate,Ua];omega
theorem EUy(A Y4:List Int)(c v:Int)(k j:Nat)(hj:j=A.length+1+k):(A++c::(hX (k+1) 0++Y4)).set j v=A++c::(hX k 0++v::Y4):=by subst hj;rw[List.set_append_right _ _ X,show A.length+1+k-A.length=k+1 from X,Ig,List.replicate_succ',U9,List.set_append_right _ _ Eh];simp
theorem EUz(xs:List Int)(i:Nat)(h:i<8):(ib xs i).set (Xc xs.length-1-i) ((xs.length:Int)*8/2^(8*i)%256)=ib xs (i+1):=by have:=uH xs.length;unfold ib;obtain⟨k,hk⟩: ∃k,Xc xs.length-xs.length-1-i=k+1:=⟨Xc xs.length-xs.length-2-i,X⟩;rw[hk,EUy _ _ _ _ k _ X,GI,show Xc xs.length-xs.length-1-(i+1)=k from X]
theorem EUA(xs:List Int)(W:Nat)(hW:Xc xs.length=W):(putAt (Er W) 0 xs).set xs.length 128=ib xs 0:=by have:=uH xs.length;subst hW;unfold putAt ib Er;obtain⟨k,hk⟩: ∃k,Xc xs.length=xs.length+(k+1):=⟨Xc xs.length-xs.length-1,X⟩;rw[hk];simp only[Im,Z8,JV,List.drop_replicate,EJ5,fc];rw[show xs.length+(k+1)-xs.length=k+1 from X,show k+1-1-0=k from X,List.set_append_right _ _ (E7 _),Nat.sub_self,List.replicate_succ,Ih]
theorem EUB(A:Option Eu)(xs:List Int)(n c:Nat)(w:M)(hn:xs.length=n)(hr:Row w A xs)(hl:n<=1000000000): Ef EU 113 #[EI A n c] w fun e w'=>e=Eg (EI (D ⟨w.heap.size,0,Z⟩) (Xc n) (Xc n))/\H w' w.heap.size (Ej (kG xs)) 5/\El w w':=by
 obtain⟨W,hW⟩:=Jo (Xc n);have hW1:((n:Int)+9+64-1)/64*64=(W:Int):=QH;have hW2:n+9<=W:=by rw[<-hW];exact uH n
 have hW3:W<=2000000000:=QH;have hmk:=Pq W X;rw[hW];have HN:=O hn;have HR:=O hr;have HW:=O hW;clear hn hr hW;go_enter Tryz.func113,Tryz.ntmps113;go_wp2_with ((with_reducible show IZ _ _ _ (⟨D 18,_,_,_,_,Z⟩::_) _ _);refine Ev.mk ?_);apply Eo;have KP:=O<|H.new w (Ej (Er W)) 5;have bl:=Ep w (EJ (Ej (Er W)) 5);have HR:=O<|Iy HR.out bl;have BB:=O bl;clear hmk hW1 bl;generalize w.alloc (EJ (Ej (Er W)) 5)=w1 at*;(with_reducible refine kh ?_ w.heap.size 0 W W (Er W) 5 A n c xs n (D ⟨w.heap.size,0,Z⟩) ?_ KP HN.out HR ?_ ?_ ?_ ?_);·exact Ei U
 ·exact EnY
 ·exact Nat.min_eq_left X
 ·rw[fS];omega
 ·exact Eo9
 intro w2 K2 b2 o2 s2;have hN:=HN.out;have hlp:(putAt (Er W) 0 (xs.take n)).length=W:=by rw[EJj,fS];simp[fS];omega
 rw[UZ X] at K2 hlp;replace BB:=O<|BB.out.trans b2;have c0:=K2.cell n;have f0:=K2.JX n;rw[kZ _ _ X] at c0;have KP:=O<|K2.set n (E IP 128);have HZ:=O<|EUA xs W (by rw[hN];exact HW.out);clear K2 b2 o2 s2 hlp hN;go_wp2_with fail;go_loopw[27] (fun y wr=> ∃i:Nat,i<=8/\y=E I i/\H wr w.heap.size (Ej (ib xs i)) 5/\El w wr) (fun y _=>8-(Iv y).toNat);case atStart=> have h:=KP.out;have z:=HZ.out;rw[HN.out] at z;rw[oQ,z] at h;exact⟨0,X,U,h,BB.out.setCell Eh _⟩
 case round=>
  clear KP BB;obtain⟨i,hi,rfl,KP,BB⟩:=hrel;have hN:=HN.out;have zS:=HW.out;have hlp:(ib xs i).length=W:=by rw[EUx xs i hi,hN,zS]
  by_cases hlt:i<8;·have c0:=KP.cell (W-1-i);have f0:=KP.JX (W-1-i);rw[kZ _ _ X] at c0;have ST:=EUz xs i hlt;rw[hN,zS] at ST;replace KP:=O<|KP.set (W-1-i) (E IP ((n:Int)*8/2^(8*i)%256));replace ST:=O ST;replace BB:=O BB;clear hN zS hlp;go_wp2_with fail;have h:=KP.out;rw[oQ,ST.out] at h;exact⟨⟨i+1,X,Eh,h,BB.out.setCell Eh _⟩,Jv⟩
  ·obtain rfl:i=8:=X;rw[show((8:Nat):Int)=8 from rfl];rw[EUw] at KP;replace KP:=O KP;replace BB:=O BB;clear hN zS hlp;go_wp2_with fail;go_ret;exact⟨U,KP.out,BB.out⟩
theorem Ub{o:EN}{T:EC}(hT:IW P T n)(x:UH)(ho:o.op= .load T x)(hx:a.eval x=Y (D ⟨g,0,Z⟩))(hg:Ea (H W g cs T))(hn:cs.size=n) (hk:K (a.put o.dst (EZ cs))):o.quiet P a (fun w'=> ∃x,w'=Ey W x) K:=by
 obtain⟨⟨d,hu,hd⟩,hi⟩:=hT;refine⟨_,fun w hw=> ?_,hk⟩;obtain⟨y,rfl⟩:=hw;have hrun:(loadVar T ⟨g,0,Z⟩).run P (Ey W y)= .ok (EZ cs) (Ey W y):=by cases d<;>first|(cases hd;done)|exact run_loadVar_row _ g T T cs (0,0) _ (hg.out.G (ED y)) hu rfl fM
 unfold Oper.quietAt Iw;exact Eoh
theorem EUC{o:EN}{T T0:EC}{off:Nat}(hT:IW P T n)(x:UH)(ho:o.op= .load T x)(hx:a.eval x=Y (D ⟨g,off,Z⟩))(hg:Ea (H W g (Ej l) T0))(hn:off+n<=l.length) (hk:K (a.put o.dst (EZ (Ej ((l.drop off).take n))))):o.quiet P a (fun w'=> ∃x,w'=Ey W x) K:=by
 obtain⟨⟨d,hu,hd⟩,hi⟩:=hT;refine⟨_,fun w hw=> ?_,hk⟩;obtain⟨y,rfl⟩:=hw;have hb:=hg.out.G (ED y);have hlen:(((l.drop off).take n).map (E .u8)).length=n:=Jn
 have hrun:(loadVar T ⟨g,off,Z⟩).run P (Ey W y)= .ok (EZ (((l.drop off).take n).map (E .u8)).toArray) (Ey W y):=by
  refine run_loadVar_mid _ g off T _ d (fun j v hv=> ?_) hu oS (by rw[hi,hlen])
  have hj:j<n:=by
   rcases JG j n with h|h;·exact h
   ·rw[aM X] at hv;cases hv
  rw[show(Ey W y).cell? ⟨g,off+j,Z⟩=_ from hb.cell (off+j),kZ _ _ X];rw[List.getElem?_map,bN hj,List.getElem?_drop] at hv;simp[show off+j<l.length from X] at hv;simp[show off+j<l.length from X,<-hv]
 unfold Oper.quietAt Iw;exact Eoh
theorem EUD(b:List Int):Gg b (sched b 64):=⟨zP b 64,fun i hi=>EUj b i 64 hi⟩
theorem EUF(q:St)(b:List Int)(hl:b.length=64)(hb: ∀x∈b,0<=x/\x<=255)(w:M)(hR:JP w): Ef EU 114 #[EZ q.cells,EZ (Ej b)] w fun e w'=>e=Eg (EZ (kF q b).cells)/\El w w':=
 EUu q _ b _ hl hb (EUD b) U w hR
theorem aY:Od EU 41 (Ej (Er 32)):=by intro ev o w ho;unfold Iw;simp only[ho];simp[go_sem];exact congrArg (fun c=>w.alloc (EJ c 41)) Ed
theorem J7:IW EU 41 32:=⟨⟨_,Tryz.underlying41,U⟩,Ed⟩
theorem EUG(q:St)(i:Nat)(hi:i<8):(Zx q).getD (4*i) 0=q.list.getD i 0/16777216%256/\(Zx q).getD (4*i+1) 0=q.list.getD i 0/65536%256/\(Zx q).getD (4*i+2) 0=q.list.getD i 0/256%256/\(Zx q).getD (4*i+3) 0=q.list.getD i 0%256:=by
 have one: ∀x:Int,x/1=x:=Int.ediv_one;rcases(show i=0\/i=1\/i=2\/i=3\/i=4\/i=5\/i=6\/i=7 from X) with rfl|rfl|rfl|rfl|rfl|rfl|rfl|rfl
 all_goals
  refine⟨U,U,U,?_⟩
  conv=>rhs;rw[<-one (List.getD _ _ _)]
  rfl
theorem EUH(q:St)(i:Nat)(hi:i<8)(W:M):(JY 211 (EZ q.cells) (E I (i:Int))).run EU W= .ok (E Ou (q.list.getD i 0)) W:=by rcases(show i=0\/i=1\/i=2\/i=3\/i=4\/i=5\/i=6\/i=7 from X) with rfl|rfl|rfl|rfl|rfl|rfl|rfl|rfl<;>kernel_rfl
theorem EUK(a:Option Eu)(c:Nat)(W:M):(Instr.arrayAt 214 (EI a 64 c)).run EU W= .ok (Y a) W:=by simp[Instr.arrayAt,run_underlying Tryz.underlying214]
theorem sb(A:Option Eu)(xs:List Int)(n c:Nat)(w:M)(hn:xs.length=n)(hr:Row w A xs)(hl:n<=1000000000)(hR:JP w): Ef EU 82 #[EI A n c] w fun e w'=>e=Eg (EZ (Ej (Xv xs)))/\El w w':=by
 obtain⟨m,hm⟩:=Jo (Xc n/64);obtain⟨P,hP⟩:=Jo (kG xs);have QK:P.length=64*m:=by rw[<-hP,EUf,hn,<-hm,Qv]
 have QL: ∀x∈P,0<=x/\x<=255:=by rw[<-hP];exact EUg xs hr.2
 have hm2:m<=100000000:=by rw[<-hm];unfold Xc;omega
 have QN:Xv xs=Zx (nJ P m):=by unfold Xv Qu;rw[hn,hm,hP]
 rw[QN];have hW:Xc n=64*m:=by rw[<-hm,Qv]
 have HW:=O hW;have HN:=O hn;have HR:=O hr;have HP:=O hP;have ic:=O QK;have Z1:=O QL;have RT:=O hR;have rl:=hR.lt;clear hn hr hP QK QL QN hm hW hR;go_enter Tryz.func82,Tryz.ntmps82;go_wp2_with (with_reducible refine wA aY (Ev.mk ?_));apply Eo;have BB:=O<|IE w.heap.size w;have bel:=Ep w (EJ (Ej (Er 32)) 41);replace BB:=EW BB bel;have KR:=O<|H.new w (Ej (Er 32)) 41;clear bel;generalize w.alloc (EJ (Ej (Er 32)) 41)=w1 at*;go_wp2_with fail;refine(EUv _).mono ?_;rintro e w2 ⟨rfl,b2⟩;replace KR:=O<|KR.out.G b2;replace BB:=EW BB b2;clear b2;have l2:=KR.out.lt;go_wp2_with (with_reducible refine wA zQ (Ev.mk ?_));apply Eo;have bel:=Ep w2 (EJ (JA (Er 8)) 211);replace KR:=O<|KR.out.G bel;replace BB:=EW BB bel;have KH:=O<|H.new w2 (JA (Er 8)) 211;clear bel;generalize w2.alloc (EJ (JA (Er 8)) 211)=w3 at*;go_wp2_with (with_reducible refine wS (cs:=kD.cells) gO KH (Ev.mk ?_) (ho:=sX) (hn:=St.fb _) (h1:=St.sZ _));apply Eo;replace KR:=O<|KR.out.setRow_other w2.heap.size kD.cells X;replace KH:=O<|KH.out.setRow kD.cells;replace BB:=O<|E3 (g:=w2.heap.size) BB.out X kD.cells;generalize w3.setRow w2.heap.size kD.cells=w4 at*;go_wp2_with fail;refine(EUB A xs n c _ HN.out (Iy HR.out BB.out) hl).mono ?_;rintro e w5 ⟨rfl,KP,b5⟩;rw[HP.out] at KP;have l5:=KH.out.lt;replace KR:=O<|KR.out.G b5;replace KH:=O<|KH.out.G b5;replace BB:=EW BB b5;replace KP:=O KP;clear b5;rw[HW.out];go_wp2_with fail;go_loopw[4] (fun y wr=> ∃(i:Nat) (a:Option Eu) (L:Nat),i<=m/\y=EI a L L/\L=64*(m-i)/\(i<m->a=D ⟨w4.heap.size,64*i,Z⟩)/\H wr w.heap.size (Ej (Er 32)) 41/\H wr w2.heap.size (nJ P i).cells 211/\H wr w4.heap.size (Ej P) 5/\El w wr) (fun y _=>match y with|EI _ L _=>L|_=>0);case atStart=>exact⟨0,_,64*m,X,U,X,fun _=>rfl,KR.out,KH.out,KP.out,BB.out⟩
 case round=>
  clear KR KH KP BB;obtain⟨i,a,L,hi,rfl,hL,ha,KR,KH,KP,BB⟩:=hrel;by_cases hlt:i<m
  ·obtain rfl:=ha hlt;have hL1:64<=L:=X;have hL2:(64:Int)<=(L:Int):=X;have hL3:L<=6400000000:=X;have hPL:=ic.out;obtain⟨bl,hbl⟩:=Jo ((P.drop (64*i)).take 64);have QP:bl.length=64:=by rw[<-hbl];simp;omega
   have QQ: ∀x∈bl,0<=x/\x<=255:=by rw[<-hbl];intro x hx;exact Z1.out x (List.mem_of_mem_drop (fK hx))
   have STEP:nJ P (i+1)=kF (nJ P i) bl:=by rw[<-hbl];rfl
   generalize nJ P i=q at*;replace STEP:=O STEP;have HL:=O hL;have ph:=O hbl;have HB1:=O QP;have HB2:=O QQ;replace KR:=O KR;replace KH:=O KH;replace KP:=O KP;replace BB:=O BB;have jn:=O<|RT.out.G BB.out;have harr:=EUK;clear hL hbl QP QQ ha hPL;go_wp2_with fail;refine J5 6 Ed Ed ?_;simp only[Ir,Im,IL,IG];repeat (first
   |go_big_quiet_skip
   |(go_big_quiet_want
     first
      |(refine Ub (T:=211) (g:=w2.heap.size) gO _ rfl rfl KH ?_ ?_;(·exact St.fb _);go_simp;go_big_quiet_on)
      |(refine EUC (T:=214) (g:=w4.heap.size) (off:=64*i) (l:=P) pg _ rfl rfl KP ?_ ?_;(·rw[ic.out];omega);rw[ph.out];go_simp;go_big_quiet_on)
      |(go_big_quiet_op
        first
         |go_big_quiet_on
         |go_big_quiet_call ((((with_reducible refine ag (EUF q bl HB1.out HB2.out _ ?_));exact jn.out.G (ED _)))))))
   refine IM ?_;intro _ hw';obtain⟨y,rfl⟩:=hw';have Em:=ED y;replace KR:=O<|KR.out.G Em;replace KH:=O<|KH.out.G Em;replace KP:=O<|KP.out.G Em;replace BB:=EW BB Em;clear Em harr jn;generalize Ey wr y=w6 at*;go_wp2_with (with_reducible refine wS (cs:=(kF q bl).cells) gO KH (Ev.mk ?_) (ho:=St.fb _) (hn:=St.fb _) (h1:=St.sZ _));apply Eo;replace KR:=O<|KR.out.setRow_other w2.heap.size (kF q bl).cells X;replace KP:=O<|KP.out.setRow_other w2.heap.size (kF q bl).cells X;replace KH:=O<|KH.out.setRow (kF q bl).cells;replace BB:=O<|E3 (g:=w2.heap.size) BB.out X (kF q bl).cells;generalize w6.setRow w2.heap.size (kF q bl).cells=w7 at*;by_cases hlast:L=64;·subst hlast;go_wp2_with fail;have hL:=HL.out;exact⟨⟨i+1,_,0,X,U,X,fun h=>X,KR.out,by rw[STEP.out];exact KH.out,KP.out,BB.out⟩,by show 0<64;omega⟩
   ·have hL4:64<L:=X;go_wp2_with fail;have hL:=HL.out;exact⟨⟨i+1,_,L-64,X,U,X,fun _=>by rw[show 64*(i+1)=64*i+64 from X],KR.out,by rw[STEP.out];exact KH.out,KP.out,BB.out⟩,U3⟩
  ·obtain rfl:i=m:=X;obtain rfl:L=0:=X;generalize hq:nJ P i=q at*;have HQ:=O hq;clear hq;replace KR:=O KR;replace KH:=O KH;replace BB:=O BB;clear ha KP hL;have l9:=KH.out.lt;go_wp2_with (with_reducible refine wA aY (Ev.mk ?_));apply Eo;have bel:=Ep wr (EJ (Ej (Er 32)) 41);replace KR:=O<|KR.out.G bel;replace KH:=O<|KH.out.G bel;replace BB:=EW BB bel;have KS:=O<|H.new wr (Ej (Er 32)) 41;clear bel;generalize wr.alloc (EJ (Ej (Er 32)) 41)=w6 at*;generalize wr.heap.size=g9 at*;go_wp2_with (with_reducible refine wL gO KH ?_ (hn:=St.fb _));go_loopw[23] (fun y wx=> ∃k:Nat,k<=8/\y=E I k/\H wx w.heap.size (Ej (Er 32)) 41/\H wx g9 (Ej (dZ (Zx q) (Er 32) (4*k))) 41/\El w wx) (fun y _=>8-(Iv y).toNat);case atStart=>exact⟨0,X,U,KR.out,by rw[Nat.mul_zero,Pn];exact KS.out,BB.out⟩
   case round=>
    clear KR KH KS BB;obtain⟨k,hk,rfl,KR,KS,BB⟩:=hrel;by_cases hlt:k<8
    ·have hix:=EUH q k hlt;have DG:=EUG q k hlt;have le:(Zx q).length=(Er 32).length:=by rw[sO,fS]
     have lz:=sO q;have lo:=Fx (Zx q) (Er 32) (4*k) le X;have c0:=KS.cell (4*k);have c1:=KS.cell (4*k+1);have c2:=KS.cell (4*k+2);have c3:=KS.cell (4*k+3);have f0:=KS.JX (4*k);have f1:=KS.JX (4*k+1);have f2:=KS.JX (4*k+2);have f3:=KS.JX (4*k+3);rw[kZ _ _ X] at c0 c1 c2 c3;generalize q.list.getD k 0=x at*;have S1:=uc (Zx q) (Er 32) (4*k) le X;have S2:=uc (Zx q) (Er 32) (4*k+1) le X;have S3:=uc (Zx q) (Er 32) (4*k+2) le X;have S4:=uc (Zx q) (Er 32) (4*k+3) le X;rw[DG.1] at S1;rw[DG.2.1] at S2;rw[DG.2.2.1] at S3;rw[DG.2.2.2] at S4;replace S1:=O S1;replace S2:=O S2;replace S3:=O S3;replace S4:=O S4;replace KR:=O KR;replace KS:=O KS;replace BB:=O BB;clear DG le lz lo;go_wp2_with fail;have h:=(((KS.out.set (4*k) (E IP (x/16777216%256))).set (4*k+1) (E IP (x/65536%256))).set (4*k+2) (E IP (x/256%256))).set (4*k+3) (E IP (x%256));rw[oQ,S1.out,oQ,S2.out,oQ,S3.out,oQ,S4.out] at h;exact⟨⟨k+1,X,Eh,(((KR.out.other _ _ _ X).other _ _ _ X).other _ _ _ X).other _ _ _ X,h,(((BB.out.setCell Jn _).setCell Jn _).setCell Jn _).setCell Jn _⟩,Jv⟩
    ·obtain rfl:k=8:=X;rw[show((8:Nat):Int)=8 from rfl];rw[Po (Zx q) (Er 32) (4*8) (by rw[sO];omega) (by rw[fS];omega)] at KS;replace KR:=O KR;replace KS:=O KS;replace BB:=O BB;go_wp2_with (with_reducible first|refine wL J7 KS ?_ (hn:=QR)|refine wS (cs:=Ej (Zx q)) J7 KR ?_ (ho:=Xd) (hn:=QR) (h1:=Xt _));refine ET (v:=EZ (Ej (Zx q))) (Jl J7 U _ _ (w.heap.size) _ U (KR.out.setRow _) (by rw[Om,sO])) U ⟨by rw[HQ.out],E3 BB.out X _⟩
def keyed(k:List Int):List Int:=if 64<k.length then Xv k else k
def co(k:List Int):List Int:=keyed k++Er (64-(keyed k).length)
def XH(l:List Int)(b:Int):List Int:=l.map fun c=>Ix .xor .u8 c b
def J1(k b:List Int):List Int:=Xv (XH (co k) 92++Xv (XH (co k) 54++b))
theorem EUM(k:List Int):(keyed k).length<=64:=by
 unfold keyed;split;·rw[kH];omega
 ·omega
theorem EUN(h: ∀x∈k,0<=x/\x<=255): ∀x∈keyed k,0<=x/\x<=255:=by
 unfold keyed;split;·exact sU k
 ·exact h
theorem QS(k:List Int):(co k).length=64:=by have:=EUM k;simp[co,fS];omega
theorem QT(h: ∀x∈k,0<=x/\x<=255): ∀x∈co k,0<=x/\x<=255:=by
 intro x hx;rcases XP.1 hx with hx|hx;·exact EUN h x hx
 ·exact Pp _ x hx
theorem Gk(l:List Int)(b:Int):(XH l b).length=l.length:=by simp[XH]
theorem QV(a b:Int):0<=Ix .xor .u8 a b/\Ix .xor .u8 a b<=255:=by unfold Ix;simp only;rw[IntKind.wrap_u8'];omega
theorem zT(l:List Int)(b:Int): ∀x∈XH l b,0<=x/\x<=255:=by intro x hx;simp only[XH,da] at hx;obtain⟨c,_,rfl⟩:=hx;exact QV c b
theorem EUP(l:List Int)(b:Int)(i:Nat)(h:i<l.length):(XH l b).getD i 0=Ix .xor .u8 (l.getD i 0) b:=by simp[XH,h]
theorem nO(k b:List Int):(J1 k b).length=32:=kH _
theorem uM(k b:List Int): ∀x∈J1 k b,0<=x/\x<=255:=sU _
theorem EUQ{e:EC}{k:IntKind}(he:P.underlying e=D (.int k))(cs:Array V)(i:Nat)(v:V)(hv:cs[i]?=D v)(W:M):(Go.part e cs i).run P W=Result.ok v W:=by unfold Go.part;simp[isAgg,run_underlying he,hv]
theorem EUR{e:EC}{k:IntKind}{inf:TypeInfo}(ht:P.underlying t=D (.array n e))(he:P.underlying e=D (.int k))(hi:P.info? e=D inf)(h1:inf.size=1)(cs:Array V)(i:Nat)(hn:i<n)(v:V)(hv:cs[i]?=D v)(W:M): (JY t (EZ cs) (E I (i:Int))).run P W= .ok v W:=by have hp:=EUQ he cs i v hv W;unfold JY;have c1:(0:Int)<=(i:Int)/\(i:Int)<(n:Int):=X;simp[asIntOf,run_underlying ht,c1,sizeOf,typeInfo,hi,h1,hp];omega
theorem EUS(l:List Int)(hl:l.length=64)(i:Nat)(h:i<64)(W:M):(JY 214 (EZ (Ej l)) (E I (i:Int))).run EU W= .ok (E IP (l.getD i 0)) W:=by obtain⟨i0,hi,hz0,hz1,hz2⟩:=bQ mn;exact EUR Tryz.underlying214 Tryz.underlying5 hi hz1 _ i h _ (kZ l i X) W
theorem zV(k:List Int)(b:Int)(w:M)(hl:k.length=64)(hb:0<=b/\b<=255): Ef EU 244 #[EZ (Ej k),E IP b] w fun e w'=>e=Eg (EI (D ⟨w.heap.size+1,0,Z⟩) 64 64)/\H w' (w.heap.size+1) (Ej (XH k b)) 5/\El w w':=by
 have HL:=O hl;have hmk: ∀W:M,(Instr.makeSlice 23 (E I 64) (E I 64)).run EU W= .ok (EI (D ⟨W.heap.size,0,Z⟩) 64 64) (W.alloc (EJ (Ej (Er 64)) 5)):=Pq 64 X;obtain⟨hb0,hb1⟩:=hb;clear hl;go_enter Tryz.func244,Tryz.ntmps244;go_wp2_with (with_reducible refine Pg 214 ?_);apply Eo;have KB:=O<|(H.new w (Ej k) 214).alloc (EJ (Ej (Er 64)) 5);have KM:=O<|H.new' (w.alloc (EJ (Ej k) 214)) (Ej (Er 64)) 5 (g:=w.heap.size+1) Eh;have BB:=O<|J9 w (EJ (Ej k) 214) (EJ (Ej (Er 64)) 5);clear hmk;generalize (w.alloc (EJ (Ej k) 214)).alloc (EJ (Ej (Er 64)) 5)=w1 at*;go_wp2_with (with_reducible refine wL pg KB ?_ (hn:=QD));go_loopw[10] (fun y wr=> ∃i:Nat,i<=64/\y=E I i/\H wr (w.heap.size+1) (Ej (part (XH k b) i)) 5/\El w wr) (fun y _=>64-(Iv y).toNat);case atStart=>exact⟨0,X,U,by rw[Pk,Gk,HL.out];exact KM.out,BB.out⟩
 case round=>
  clear KB KM BB;obtain⟨i,hi,rfl,KM,BB⟩:=hrel;have lt:(XH k b).length=64:=by rw[Gk,HL.out]
  by_cases hlt:i<64;·have hix:=EUS k HL.out i hlt;have c0:=KM.cell i;have f0:=KM.JX i;rw[kZ _ _ (by rw[yT _ _ X];omega)] at c0;have ST:=Fw (XH k b) i X;rw[EUP _ _ _ Gh] at ST;generalize k.getD i 0=x at*;have ST2:=O ST;have Gl:=O KM;have Jw:=O BB;clear ST KM BB lt;go_wp2_with fail;have h:=Gl.out.set i (E IP (Ix .xor .u8 x b));rw[oQ,ST2.out] at h;exact⟨⟨i+1,X,Eh,h,Jw.out.setCell Eh _⟩,Jv⟩
  ·obtain rfl:i=64:=X;rw[show((64:Nat):Int)=64 from rfl];rw[Pm _ _ X] at KM;have Gl:=O KM;have Jw:=O BB;clear KM BB lt;go_wp2_with fail;go_ret;exact⟨U,Gl.out,Jw.out⟩
def fd(w:M)(cs:Array V)(ps:List (List Int)):Prop:=cs.size=ps.length/\ ∀i (h:i<ps.length),∃A c,cs[i]?=D (.slice A ps[i].length c)/\Row w A ps[i]
theorem fd.G{ps:List (List Int)}(h:fd w cs ps)(hb:El w w'):fd w' cs ps:=⟨h.1,fun i hi=>by obtain⟨A,c,e,r⟩:=h.2 i hi;exact⟨A,c,e,Iy r hb⟩⟩
theorem QW{A Y4:Option Eu}{c d:Nat}{x y:List Int}(hn:x.length=n)(hm:y.length=m)(hx:Row w A x)(hy:Row w Y4 y):fd w #[EI A n c,EI Y4 m d] [x,y]:=by
 subst hn hm;refine⟨U,fun i hi=> ?_⟩;match i,hi with
 |0,_=>exact⟨A,c,U,hx⟩
 |1,_=>exact⟨Y4,d,U,hy⟩
theorem EUT(g m c:Nat)(cs:Array V)(ps:List (List Int))(w:M)(hm:ps.length=m)(hk:H w g cs 23)(hp:fd w cs ps)(hs:ps.flatten.length<=100000000)(hm2:m<=1000): Ef EU 243 #[EI (D ⟨g,0,Z⟩) m c] w fun e w'=>(∃A d,e=Eg (EI A ps.flatten.length d)/\Own w' w.heap.size A d ps.flatten)/\El w w':=by
 have HM:=O hm;have HK:=O hk;have HP:=O hp;have HS:=O hs;clear hm hk hp hs;go_enter Tryz.func243,Tryz.ntmps243;go_wp2_with fail;go_loopw[3,8] (fun x y wr=> ∃(i:Nat) (A:Option Eu) (d n:Nat),i<=m/\y=E I i/\x=EI A n d/\(ps.take i).flatten.length=n/\Own wr w.heap.size A d (ps.take i).flatten/\El w wr) (fun _ y _=>m-(Iv y).toNat);case atStart=>exact⟨0,Z,0,0,X,U,U,U,X9 _ _,IE _ _⟩
 case round=>
  obtain⟨i,A,d,n,hi,rfl,rfl,hn,ho,BB⟩:=hrel;by_cases hlt:i<m
  ·have hil:i<ps.length:=Gm;obtain⟨Y4,c2,e2,r2⟩:=HP.out.2 i hil;have ck:=(HK.out.G BB).cell i;rw[e2] at ck;have hst:(ps.take (i+1)).flatten=(ps.take i).flatten++ps[i]:=QY;have hle:(ps.take (i+1)).flatten.length<=100000000:=by have h1:=HS.out;have h2:ps.flatten=(ps.take (i+1)).flatten++(ps.drop (i+1)).flatten:=Q2;rw[h2,I2] at h1;omega
   rw[hst,I2] at hle;exact ElW
  ·exact Enl
theorem z4(g c:Nat)(A Y4:Option Eu)(n m e d:Nat)(x y:List Int)(w:M)(hn:x.length=n)(hm:y.length=m)(hk:H w g #[EI A n e,EI Y4 m d] 23)(hx:Row w A x)(hy:Row w Y4 y)(hs:n+m<=100000000): Ef EU 243 #[EI (D ⟨g,0,Z⟩) 2 c] w fun e w'=>(∃A d,e=Eg (EI A (n+m) d)/\Own w' w.heap.size A d (x++y))/\El w w':=by have h:=EUT g 2 c _ [x,y] w U hk (QW hn hm hx hy) Jn X;have e1:[x,y].flatten=x++y:=Eh;rw[e1,I2,hn,hm] at h;exact h
theorem EUV(hx:0<=x/\x<=255)(hy:0<=y/\y<=255):Ix .xor .u8 x y=0↔x=y:=by
 rw[u8_xor x y hx.1 X hy.1 X];constructor
 ·intro h;have h2:x.toNat^^^y.toNat=0:=X;have h3:x.toNat=y.toNat:=by apply Nat.eq_of_testBit_eq;intro i;have:=congrArg (fun n=>Nat.testBit n i) h2;simp only[Nat.testBit_xor,Nat.zero_testBit] at this;revert this;cases x.toNat.testBit i<;>cases y.toNat.testBit i<;>simp
  omega
 ·rintro rfl;simp
theorem EUW(hx:0<=x/\x<=255)(hy:0<=y/\y<=255):Ix .or .u8 x y=0↔x=0/\y=0:=by
 rw[u8_or x y hx.1 X hy.1 X]
 have key:x.toNat|||y.toNat=0↔x.toNat=0/\y.toNat=0:=by
  constructor
  ·intro h;have a: ∀i,x.toNat.testBit i=B/\y.toNat.testBit i=B:=by intro i;have:=congrArg (fun n=>Nat.testBit n i) h;simp only[Nat.testBit_or,Nat.zero_testBit,Bool.or_eq_false_iff] at this;exact this
   exact⟨Nat.eq_of_testBit_eq fun i=>by rw[(a i).1];simp,Nat.eq_of_testBit_eq fun i=>by rw[(a i).2];simp⟩
  ·rintro⟨h1,h2⟩;rw[h1,h2];rfl
 constructor;·intro h;have:=key.1 X;omega
 ·rintro⟨h1,h2⟩;have:=key.2 X;omega
theorem EUY(a b:Int):0<=Ix .or .u8 a b/\Ix .or .u8 a b<=255:=by unfold Ix;simp only;rw[IntKind.wrap_u8'];omega
theorem z5(A Y4:Option Eu)(x y:List Int)(n m c d:Nat)(w:M)(hn:x.length=n)(hm:y.length=m)(hx:Row w A x)(hy:Row w Y4 y)(hl:n<=1000000000)(hl2:m<=1000000000): Ef EU 168 #[EI A n c,EI Y4 m d] w fun e w'=>e=Eg (Ec (decide (x=y)))/\w=w':=by
 by_cases hnm:n=m
 ·subst hnm;have HN:=O hn;have HM:=O hm;have HX:=O hx;have HY:=O hy;obtain⟨b,hb⟩:=Jo (decide (x=y));rw[hb];have HB:=O hb;clear hn hm hx hy hb;go_enter Tryz.func168,Tryz.ntmps168;go_wp2_with fail;go_loop [5,15] (fun o y'=> ∃(i:Nat) (z:Int),i<=n/\y'=E I i/\o=E IP z/\0<=z/\z<=255/\(z=0↔x.take i=y.take i)) (fun _ y'=>n-(Iv y').toNat);case atStart=>exact⟨0,0,X,U,U,X,X,Eh⟩
  case round=>
   obtain⟨i,z,hi,rfl,rfl,z0,z1,hz⟩:=hrel;by_cases hlt:i<n
   ·have hxi:i<x.length:=mY;have hyi:i<y.length:=Gm;rcases HX.out.1 with e|⟨g,o,rfl,hc⟩;·exfalso;rw[e] at hxi;simp at hxi
    rcases HY.out.1 with e|⟨g',o',rfl,hc'⟩;·exfalso;rw[e] at hyi;simp at hyi
    have c1:=hc i hxi;have c2:=hc' i hyi;have r1:=HX.out.2 x[i] (hH _);have r2:=HY.out.2 y[i] (hH _)
    have ST:Ix .or .u8 z (Ix .xor .u8 x[i] y[i])=0↔x.take (i+1)=y.take (i+1):=by
     rw[EUW ⟨z0,z1⟩ (QV _ _),EUV r1 r2,hz,List.take_succ_eq_append_getElem hxi,List.take_succ_eq_append_getElem hyi];constructor;·rintro⟨h1,h2⟩;rw[h1,h2]
     ·intro h;have:=List.append_inj h Jn;exact⟨this.1,by simpa using this.2⟩
    have OB:=EUY z (Ix .xor .u8 x[i] y[i]);have ST2:=O ST;have Q5:=O OB;clear ST OB hz hc hc';generalize x[i]=p at*;generalize y[i]=q at*;go_wp2_with fail;exact⟨⟨i+1,_,X,Eh,U,Q5.out.1,Q5.out.2,ST2.out⟩,Jv⟩
   ·obtain rfl:i=n:=X;rw[UZ rY,UZ Gn] at hz;have e:(z==0)=b:=by rw[<-HB.out,Bool.eq_iff_iff];simp[hz]
    clear hz;exact Els
 ·have hne:x≠y:=fun h=>hnm (by rw[<-hn,<-hm,h]);rw[IJ hne];have hne2:((n:Int) !=(m:Int))=u:=Jn;clear hne hn hm hx hy;go_enter Tryz.func168,Tryz.ntmps168;exact Els
theorem EU0{fr:Nat×Nat}{xs:List Int}(hg:W.heap[g]?=D (EJ cs t fr))(hc:cs=(xs.map (E .u8)).toArray)(hb: ∀x∈xs,0<=x/\x<=255): Row W (D ⟨g,0,Z⟩) xs:=by subst hc;refine⟨.inr ⟨g,0,U,fun i h=> ?_⟩,hb⟩;rw[cell_of_row W g (0+i) _ t fr hg];simp[h]
theorem EU1{v:V}(h:NW .u8 w v):yG w v:=by
 rcases h with rfl|⟨x,len,cap,zs,rfl,hx,hl,hc,hz,hcell,hw⟩;·exact⟨Z,[],0,U,Eh,Eh,oF _ _,fun _=>rfl⟩
 ·have hlen:(zs.take len).length=len:=mg;refine⟨D x,zs.take len,cap,by rw[hlen],X,X,⟨?_,fun y hy=>NY (hw y (fK hy))⟩,fun h=>XZ⟩;rcases Nat.eq_zero_or_pos cap with h0|h0;·left;exact aN X
  ·right;obtain⟨hb,hs⟩:=hx h0;obtain⟨b,off,spot⟩:=x;simp at hs;subst hs;refine⟨b,off,U,fun i hi=> ?_⟩;have hi':i<len:=X;have:=hcell i X;rw[Addr.add_mid] at this;exact EoS
theorem Q6:Od EU 214 (Ej (Er 64)):=by intro ev o w ho;unfold Iw;simp only[ho];simp[go_sem];exact congrArg (fun c=>w.alloc (EJ c 214)) Ed
theorem pi:Od EU 115 (Ej (Er 8)):=by intro ev o w ho;unfold Iw;simp only[ho];simp[go_sem];exact congrArg (fun c=>w.alloc (EJ c 115)) Ed
theorem Z_:IW EU 115 8:=⟨⟨_,Tryz.underlying115,U⟩,Ed⟩
def z_(full x2 s1:List Int)(g7:Nat)(i:Nat)(v:V)(w:M):Prop:=match i with
 |0=>v=EZ (Ej full)
 |1=> ∃g,v=EI (D ⟨g,0,Z⟩) 64 64/\Row w (D ⟨g,0,Z⟩) x2
 |2=>v=EI (D ⟨g7,0,Z⟩) 32 32
 |3=> ∃g A,v=EI (D ⟨g,0,Z⟩) 2 2/\H w g #[EI A 64 64,EI (D ⟨g7,0,Z⟩) 32 32] 23/\Row w A x2
 |4=> ∃A d,v=EI A 96 d/\Row w A (x2++s1)
 |5=>v=EZ (Ej (Xv (x2++s1)))
 |_=>True
theorem Q7(full x2 s1:List Int)(g7:Nat): ∀i v w w',i<6->z_ full x2 s1 g7 i v w->El w w'->z_ full x2 s1 g7 i v w':=by
 intro i v w w' hi h hb;match i,hi with
 |0,_=>exact h
 |1,_=> obtain⟨g,e,r⟩:=h;exact⟨g,e,Iy r hb⟩
 |2,_=>exact h
 |3,_=> obtain⟨g,A,e,k,r⟩:=h;exact⟨g,A,e,k.G hb,Iy r hb⟩
 |4,_=> obtain⟨A,d,e,r⟩:=h;exact⟨A,d,e,Iy r hb⟩
 |5,_=>exact h
 |_+6,hi=>exact absurd hi X
theorem Q8(k:List Int)(hk:k.length<=64):putAt (Er 64) 0 k=k++Er (64-k.length):=by unfold putAt Er;simp only[Im,Z8,JV,List.drop_replicate]
theorem EU2(A Y4:Option Eu)(k b:List Int)(n m c d:Nat)(w:M)(hn:k.length=n)(hm:b.length=m)(hk:Row w A k)(hb:Row w Y4 b)(hl:n<=64)(hl2:m<=10000000)(hR:JP w): Ef EU 215 #[EI A n c,EI Y4 m d] w fun e w'=>e=Eg (EZ (Ej (J1 k b)))/\El w w':=by
 have dh:=O hn;have ph:=O hm;have uN:=O hk;have XI:=O hb;have RT:=O hR;have EU3: ¬64<(n:Int):=X;obtain⟨ans,pj⟩:=Jo (J1 k b);rw[pj];have Gp:=O pj;clear hn hm hk hb hR pj;go_enter Tryz.func215,Tryz.ntmps215;go_wp2_with (with_reducible first|refine wA aY ?_|refine wA Q6 (Ev.mk ?_));apply Eo;have K4:=O<|(H.new w (Ej (Er 32)) 41).alloc (EJ (Ej (Er 64)) 214);have K5:=O<|H.new' (w.alloc (EJ (Ej (Er 32)) 41)) (Ej (Er 64)) 214 (g:=w.heap.size+1) Eh;have BB:=O<|J9 w (EJ (Ej (Er 32)) 41) (EJ (Ej (Er 64)) 214);have lg:w.heap.size<w.heap.size+1:=X;generalize (w.alloc (EJ (Ej (Er 32)) 41)).alloc (EJ (Ej (Er 64)) 214)=w1 at*;generalize w.heap.size+1=g5 at*;go_wp2_with ((with_reducible show IZ _ _ _ (⟨D 18,_,_,_,_,Z⟩::_) _ _);refine Ev.mk ?_);apply Eo;have uP:=O<|Iy uN.out BB.out;(with_reducible refine kh ?_ g5 0 64 64 (Er 64) 214 A n c k n (D ⟨g5,0,Z⟩) ?_ K5 dh.out uP ?_ ?_ ?_ ?_);·exact Ei U
 ·exact EnY
 ·exact Nat.min_eq_left X
 ·rw[fS];omega
 ·exact Eo9
 intro w5 iX b5 o5 s5;have e5:putAt (Er 64) 0 (k.take n)=co k:=by have h1:=dh.out;rw[UZ X,Q8 k X];have h2:keyed k=k:=if_neg X;unfold co;rw[h2]
 rw[e5] at iX;replace K4:=O<|show H w5 w.heap.size (Ej (Er 32)) 41 from(o5 _ X).trans K4.out;replace BB:=O<|BB.out.trans (b5.mono X);clear K5 o5 s5 b5 e5 uP;have K5:=iX;clear iX;replace K5:=O K5;have jo:=QT uN.out.2;have bE:=QS k;have pk:J1 k b=Xv (XH (co k) 92++Xv (XH (co k) 54++b)):=rfl;generalize co k=full at*;rw[Gp.out] at pk;replace jo:=O jo;replace bE:=O bE;have HM:=O pk;clear pk;have C1:=O (zV full 54 · bE.out X);have C2:=O (zV full 92 · bE.out X);have nU:(XH full 54).length=64:=AJ;have nX:(XH full 92).length=64:=AJ;have pp:=zT full 54;have pq:=zT full 92;generalize XH full 54=x1 at*;generalize XH full 92=x2 at*;replace nU:=O nU;replace nX:=O nX;replace pp:=O pp;replace pq:=O pq;go_wp2_with (with_reducible refine wL pg K5 ?_ (hn:=Q9));refine(C1.out _).mono ?_;rintro e w6 ⟨rfl,KT,b6⟩;replace K4:=O<|K4.out.G b6;replace K5:=O<|K5.out.G b6;replace BB:=EW BB b6;have jn:=O<|aR KT pp.out;clear b6 KT;generalize (w5.heap.size+1)=gt at*;go_wp2_with (go_at_call 243;refine Ev.mk ?_);apply Eo;have bl:=Ep w6 (EJ #[EI (D ⟨gt,0,Z⟩) 64 64,EI Y4 m d] 23);have KJ:=H.new w6 #[EI (D ⟨gt,0,Z⟩) 64 64,EI Y4 m d] 23;replace jn:=O<|Iy jn.out bl;replace K4:=O<|K4.out.G bl;replace K5:=O<|K5.out.G bl;replace BB:=EW BB bl;clear bl;generalize w6.alloc (EJ #[EI (D ⟨gt,0,Z⟩) 64 64,EI Y4 m d] 23)=w7 at*;refine(z4 w6.heap.size 2 (D ⟨gt,0,Z⟩) Y4 64 m 64 d x1 b w7 nU.out ph.out KJ jn.out (Iy XI.out BB.out) X).mono ?_;rintro e w8 ⟨⟨A1,d1,rfl,o1⟩,b8⟩;replace K4:=O<|K4.out.G b8;replace K5:=O<|K5.out.G b8;replace BB:=EW BB b8;clear b8 KJ;have RJ:=O o1.row;have LJ:(x1++b).length=64+m:=Q_;clear o1;generalize hJ:x1++b=j1 at*;replace LJ:=O LJ;replace hJ:=O hJ;go_wp2_with fail;refine(sb A1 j1 (64+m) d1 w8 LJ.out RJ.out X (RT.out.G BB.out)).mono ?_;rintro e w9 ⟨rfl,b9⟩;replace K4:=O<|K4.out.G b9;replace K5:=O<|K5.out.G b9;replace BB:=EW BB b9;have l9:=K5.out.lt;clear b9 RJ;have kR:=kH j1;have pu:=sU j1;generalize hS:Xv j1=s1 at*;replace hS:=O hS;replace kR:=O kR;replace pu:=O pu;go_wp2_with (with_reducible refine wA aY (Ev.mk ?_));apply Eo;have bel:=Ep w9 (EJ (Ej (Er 32)) 41);replace K4:=O<|K4.out.G bel;replace K5:=O<|K5.out.G bel;replace BB:=EW BB bel;have K7:=O<|H.new w9 (Ej (Er 32)) 41;clear bel;generalize w9.alloc (EJ (Ej (Er 32)) 41)=UD at*;generalize w9.heap.size=g7 at*;go_wp2_with (with_reducible refine wS (cs:=Ej s1) J7 K7 (Ev.mk ?_) (ho:=Xd) (hn:=RE) (h1:=Xt _));apply Eo;replace K4:=O<|K4.out.setRow_other g7 (Ej s1) X;replace K5:=O<|K5.out.setRow_other g7 (Ej s1) X;replace K7:=O<|K7.out.setRow (Ej s1);replace BB:=O<|E3 (g:=g7) BB.out X (Ej s1);generalize UD.setRow g7 (Ej s1)=am at*;go_wp2_with fail;refine PJ Ed 6 Ed Eh Eb (z_ full x2 s1 g7) (Q7 full x2 s1 g7) ?_ ?_
 ·simp only[mD,Ir,Im,EL,In,Ip,Ig,Ih,and_true];refine⟨?_,?_,?_,?_,?_,?_⟩;all_goals intro v w' hb hd
  ·exact Eov
  ·exact Em0
  ·exact Fo (Ei U) Ez U
  ·exact EmU
  ·exact EmJ
  ·exact Emv
 ·intro v w' hb hr;have d5:v 5=EZ (Ej (Xv (x2++s1))):=hr 5 X;simp only[Ir,Im,IL,IG,EL,In,Ip,Ig,Ih];have ea:Xv (x2++s1)=ans:=HM.out.symm;rw[ea] at d5;have AL:ans.length=32:=by rw[<-ea,kH]
  rw[d5];exact Emo
theorem EU4(A Y4:Option Eu)(k b:List Int)(n m c d:Nat)(w:M)(hn:k.length=n)(hm:b.length=m)(hk:Row w A k)(hb:Row w Y4 b)(hl:64<n/\n<=10000000)(hl2:m<=10000000)(hR:JP w): Ef EU 215 #[EI A n c,EI Y4 m d] w fun e w'=>e=Eg (EZ (Ej (J1 k b)))/\El w w':=by
 have dh:=O hn;have ph:=O hm;have uN:=O hk;have XI:=O hb;have RT:=O hR;have EU3:64<(n:Int):=X;obtain⟨ans,pj⟩:=Jo (J1 k b);rw[pj];have Gp:=O pj;clear hn hm hk hb hR pj;go_enter Tryz.func215,Tryz.ntmps215;go_wp2_with (with_reducible first|refine wA aY ?_|refine wA Q6 (Ev.mk ?_));apply Eo;have K4:=O<|(H.new w (Ej (Er 32)) 41).alloc (EJ (Ej (Er 64)) 214);have K5:=O<|H.new' (w.alloc (EJ (Ej (Er 32)) 41)) (Ej (Er 64)) 214 (g:=w.heap.size+1) Eh;have BB:=O<|J9 w (EJ (Ej (Er 32)) 41) (EJ (Ej (Er 64)) 214);have lg:w.heap.size<w.heap.size+1:=X;generalize (w.alloc (EJ (Ej (Er 32)) 41)).alloc (EJ (Ej (Er 64)) 214)=w1 at*;generalize w.heap.size+1=g5 at*;go_wp2_with fail;refine(sb A k n c w1 dh.out (Iy uN.out BB.out) X (RT.out.G BB.out)).mono ?_;rintro e w2 ⟨rfl,b2⟩;have KL:=kH k;have KB:=sU k;have hkk:keyed k=Xv k:=if_pos (by rw[dh.out];omega);generalize Xv k=sk at*;replace KL:=O KL;replace KB:=O KB;replace hkk:=O hkk;replace K4:=O<|K4.out.G b2;replace K5:=O<|K5.out.G b2;replace BB:=EW BB b2;have l2:=K5.out.lt;clear b2;go_wp2_with (with_reducible refine wA aY (Ev.mk ?_));apply Eo;have bel:=Ep w2 (EJ (Ej (Er 32)) 41);replace K4:=O<|K4.out.G bel;replace K5:=O<|K5.out.G bel;replace BB:=EW BB bel;have K6:=O<|H.new w2 (Ej (Er 32)) 41;clear bel;generalize w2.alloc (EJ (Ej (Er 32)) 41)=w3 at*;generalize w2.heap.size=g6 at*;go_wp2_with (with_reducible refine wS (cs:=Ej sk) J7 K6 (Ev.mk ?_) (ho:=Xd) (hn:=RU) (h1:=Xt _));apply Eo;replace K4:=O<|K4.out.setRow_other g6 (Ej sk) X;replace K5:=O<|K5.out.setRow_other g6 (Ej sk) X;replace K6:=O<|K6.out.setRow (Ej sk);replace BB:=O<|E3 (g:=g6) BB.out X (Ej sk);generalize w3.setRow g6 (Ej sk)=w4 at*;go_wp2_with fail;refine ua 2 Ed Ed ?_;simp only[Ir,Im,IL,IG];repeat (go_big_quiet_step (fail))
 refine IM ?_;intro _ hw';obtain⟨nq,rfl⟩:=hw';replace K4:=O<|K4.out.drewN nq;replace K5:=O<|K5.out.drewN nq;have uP:=O<|aR (K6.out.drewN nq) KB.out;replace BB:=O<|j9 BB.out nq;generalize w4.drewN nq=w4 at*;(with_reducible refine kh ?_ g5 0 64 64 (Er 64) 214 (D ⟨g6,0,Z⟩) 32 32 sk 32 (D ⟨g5,0,Z⟩) ?_ K5 KL.out uP ?_ ?_ ?_ ?_);·exact Ei U
 ·exact EnY
 ·rfl
 ·rw[fS];omega
 ·exact Eo9
 intro w5 iX b5 o5 s5;have e5:putAt (Er 64) 0 (sk.take 32)=co k:=by have h1:=KL.out;rw[UZ X,Q8 sk X];unfold co;rw[hkk.out]
 rw[e5] at iX;replace K4:=O<|show H w5 w.heap.size (Ej (Er 32)) 41 from(o5 _ X).trans K4.out;replace BB:=O<|BB.out.trans (b5.mono X);clear K5 K6 o5 s5 b5 e5 uP hkk;have K5:=iX;clear iX;replace K5:=O K5;have jo:=QT uN.out.2;have bE:=QS k;have pk:J1 k b=Xv (XH (co k) 92++Xv (XH (co k) 54++b)):=rfl;generalize co k=full at*;rw[Gp.out] at pk;replace jo:=O jo;replace bE:=O bE;have HM:=O pk;clear pk;have C1:=O (zV full 54 · bE.out X);have C2:=O (zV full 92 · bE.out X);have nU:(XH full 54).length=64:=AJ;have nX:(XH full 92).length=64:=AJ;have pp:=zT full 54;have pq:=zT full 92;generalize XH full 54=x1 at*;generalize XH full 92=x2 at*;replace nU:=O nU;replace nX:=O nX;replace pp:=O pp;replace pq:=O pq;go_wp2_with (with_reducible refine wL pg K5 ?_ (hn:=Q9));refine(C1.out _).mono ?_;rintro e w6 ⟨rfl,KT,b6⟩;replace K4:=O<|K4.out.G b6;replace K5:=O<|K5.out.G b6;replace BB:=EW BB b6;have jn:=O<|aR KT pp.out;clear b6 KT;generalize (w5.heap.size+1)=gt at*;go_wp2_with (go_at_call 243;refine Ev.mk ?_);apply Eo;have bl:=Ep w6 (EJ #[EI (D ⟨gt,0,Z⟩) 64 64,EI Y4 m d] 23);have KJ:=H.new w6 #[EI (D ⟨gt,0,Z⟩) 64 64,EI Y4 m d] 23;replace jn:=O<|Iy jn.out bl;replace K4:=O<|K4.out.G bl;replace K5:=O<|K5.out.G bl;replace BB:=EW BB bl;clear bl;generalize w6.alloc (EJ #[EI (D ⟨gt,0,Z⟩) 64 64,EI Y4 m d] 23)=w7 at*;refine(z4 w6.heap.size 2 (D ⟨gt,0,Z⟩) Y4 64 m 64 d x1 b w7 nU.out ph.out KJ jn.out (Iy XI.out BB.out) X).mono ?_;rintro e w8 ⟨⟨A1,d1,rfl,o1⟩,b8⟩;replace K4:=O<|K4.out.G b8;replace K5:=O<|K5.out.G b8;replace BB:=EW BB b8;clear b8 KJ;have RJ:=O o1.row;have LJ:(x1++b).length=64+m:=Q_;clear o1;generalize hJ:x1++b=j1 at*;replace LJ:=O LJ;replace hJ:=O hJ;go_wp2_with fail;refine(sb A1 j1 (64+m) d1 w8 LJ.out RJ.out X (RT.out.G BB.out)).mono ?_;rintro e w9 ⟨rfl,b9⟩;replace K4:=O<|K4.out.G b9;replace K5:=O<|K5.out.G b9;replace BB:=EW BB b9;have l9:=K5.out.lt;clear b9 RJ;have kR:=kH j1;have pu:=sU j1;generalize hS:Xv j1=s1 at*;replace hS:=O hS;replace kR:=O kR;replace pu:=O pu;go_wp2_with (with_reducible refine wA aY (Ev.mk ?_));apply Eo;have bel:=Ep w9 (EJ (Ej (Er 32)) 41);replace K4:=O<|K4.out.G bel;replace K5:=O<|K5.out.G bel;replace BB:=EW BB bel;have K7:=O<|H.new w9 (Ej (Er 32)) 41;clear bel;generalize w9.alloc (EJ (Ej (Er 32)) 41)=UD at*;generalize w9.heap.size=g7 at*;go_wp2_with (with_reducible refine wS (cs:=Ej s1) J7 K7 (Ev.mk ?_) (ho:=Xd) (hn:=RE) (h1:=Xt _));apply Eo;replace K4:=O<|K4.out.setRow_other g7 (Ej s1) X;replace K5:=O<|K5.out.setRow_other g7 (Ej s1) X;replace K7:=O<|K7.out.setRow (Ej s1);replace BB:=O<|E3 (g:=g7) BB.out X (Ej s1);generalize UD.setRow g7 (Ej s1)=am at*;go_wp2_with fail;refine PJ Ed 6 Ed Eh Eb (z_ full x2 s1 g7) (Q7 full x2 s1 g7) ?_ ?_
 ·simp only[mD,Ir,Im,EL,In,Ip,Ig,Ih,and_true];refine⟨?_,?_,?_,?_,?_,?_⟩;all_goals intro v w' hb hd
  ·exact Eov
  ·exact Em0
  ·exact Fo (Ei U) Ez U
  ·exact EmU
  ·exact EmJ
  ·exact Emv
 ·intro v w' hb hr;have d5:v 5=EZ (Ej (Xv (x2++s1))):=hr 5 X;simp only[Ir,Im,IL,IG,EL,In,Ip,Ig,Ih];have ea:Xv (x2++s1)=ans:=HM.out.symm;rw[ea] at d5;have AL:ans.length=32:=by rw[<-ea,kH]
  rw[d5];exact Emo
theorem RZ(A Y4:Option Eu)(k b:List Int)(n m c d:Nat)(w:M)(hn:k.length=n)(hm:b.length=m)(hk:Row w A k)(hb:Row w Y4 b)(hl:n<=10000000)(hl2:m<=10000000)(hR:JP w): Ef EU 215 #[EI A n c,EI Y4 m d] w fun e w'=>e=Eg (EZ (Ej (J1 k b)))/\El w w':=by
 rcases JG 64 n with h|h;·exact EU4 A Y4 k b n m c d w hn hm hk hb ⟨h,hl⟩ hl2 hR
 ·exact EU2 A Y4 k b n m c d w hn hm hk hb h hl2 hR
end Go.Proofs.YtclmichaaiohjaaGreatDoor
