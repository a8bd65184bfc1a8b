import Derived.Test.YtclmichaaiohjaaGreatDoorU02
import Derived.LaidMore
import Derived.Laws.BitsAllLaws
import Derived.Lib.SlBytesConst
import Derived.Outline
import Derived.StillTailTactics
set_option maxRecDepth 100000
set_option linter.unusedVariables false
set_option linter.unusedSimpArgs false
set_option maxHeartbeats 6400000
namespace Go.Proofs.YtclmichaaiohjaaGreatDoor
open RowKit
open BitVec renaming ofInt->gN
open Bool renaming true->EI,false->B
open Go renaming bits->Iu,World->H,Calls->Ef,TypeId->EB,Value->Y,Addr->Eu,Program->Jh,heap_alloc_new->fz,bodyPost_ret->EV,Act->E6,Oper->EL,execOp->If,wpList->Ic,Operand->J7,info_parts->bz,below_setRow->E2,wpQuiet_nil->I1,wp_loop_rounds->Ud,rounds_succ->Ij,Ending->Uh,wpList_store_mid->Ui
open Act renaming put->Ig
open BinOp renaming and->kx
open Ending renaming returned->Eg
open Instr renaming loadAt->fB,sureAddr->dJ,index->Uj
open IntKind renaming i64->I,u8->IL,u64->Im,u32->Oh
open Lib renaming hid->J
open Obj renaming cells->EJ
open Go.Proofs.Tryz renaming prog->Eb,func156->ky,ntmps156->kA
open Result renaming andThen_ok->OC
open RowKit renaming Hid->Ec,intOf->Ir
open RowKit.Below renaming refl->E9,heap_setCell->XK,alloc->JQ,setCell->JR,mono->oL
open Sem renaming run_bind->Oz,run_pure->Og
open Value renaming bool->EU,int->E,agg->EZ,slice->G,tuple->Et,pointer->M,oneCell'->OF
open World renaming block_lt_of_cell?->Xv,setCell->dN,alloc->Uz
open List renaming getElem?_eq_none->bf,mem_of_mem_take->fy,eq_nil_of_length_eq_zero->aF,getElem?_eq_getElem->J5,take_append_drop->gT,take_succ_cons->Iq,length_take->aO,replicate->dT,take_of_length_le->OY,getD_eq_getElem?_getD->Uq,getElem?_take_of_lt->bj,take_zero->Io,mem_map->dU,getElem?_toArray->OE,setIfInBounds_toArray->Ii,length_append->IY,length_cons->ZC,mem_cons->UJ,getElem_mem->gY,append_assoc->XI,set_cons_succ->Ia,set_cons_zero->Ib,mem_append->XM,nil_append->ZV,not_mem_nil->UA,drop_succ_cons->IP,drop_zero->IH,append_nil->fS
open Nat renaming lt_or_ge->JY,le_refl->E7,zero_add->OD,zero_le->bG
open Option renaming some->Z,none->X
variable{n o m s s' g:Nat}{f q:Nat->Y}{w w' W:H}{T:EQ}{l k:List Int}{a:E6}{P:Jh}{K:E6->Prop}{cs:Array Y}{t:EB}{x y:Int}
def hG(k:Y):Nat->Y:=fun i=>if i<5 then E I i else if i=8 then k else if i<8 then .slice X 0 0 else E I 0
theorem EOn(Y4:Option Eu)(n c:Nat):Tryz.prog.built 28 [(0,EZ #[E I 0,E I 1,E I 2,E I 3,E I 4]),(2,G Y4 n c)]=Z (EG 56 (hG (G Y4 n c))):=Ed
theorem QI(h: ∀i,i<n->(f i).oneCell'=EI):(EG n f).all (·.oneCell')=EI:=by rw[Array.all_eq_true];intro i hi;rw[rz];exact h i U5
theorem EOo(Y4:Option Eu)(n c:Nat): ∀i,i<56->(hG (G Y4 n c) i).oneCell'=EI:=by
 intro i hi;unfold hG;split;·rfl
 ·split;·rfl
  ·split<;>rfl
def U6(i:Nat):Nat:=if i=9 then 1 else if i<13 then 14 else if i=13 then 0 else if i<34 then 15 else if i<39 then 31 else if i<42 then 4 else if i<48 then 1000 else if i<50 then 3 else if i=50 then 0 else if i<55 then 1000 else 65535
def Zi(i:Nat):Nat:=if i=9 then 1 else if i<42 then 0 else if i<47 then 1 else if i=47 then 0 else if i<50 then 1 else if i=54 then 1 else 0
def bR(i n:Nat):Prop:=Zi i<=n/\n<=U6 i/\(9<i->i<13->n%2=0)
structure Wk(w:H)(lo o m s:Nat)(q:Nat->Y):Prop where
 o0:q 0=E I 0
 o4:q 4=E I 4
 perm: ∃a b c:Nat,q 1=E I a/\q 2=E I b/\q 3=E I c/\1<=a/\a<=3/\1<=b/\b<=3/\1<=c/\c<=3/\a≠b/\a≠c/\b≠c
 keys: ∀i,5<=i->i<=7->(i<5+m/\XB w lo o (q i))\/(5+m<=i/\q i=G X 0 0)
 kh:XB w lo o (q 8)
 int: ∀i,9<=i->i<56-> ∃n:Nat,q i=E I n/\n<=U6 i/\(i<s->bR i n)
theorem Wk.V{lo:Nat}(h:Wk w lo o m s q)(hb:El w w'):Wk w' lo o m s q:=
 ⟨h.o0,h.o4,h.perm,fun i h1 h2=>(h.keys i h1 h2).imp (fun k=>⟨k.1,k.2.V hb⟩) id,h.kh.V hb,h.int⟩
theorem Wk.world{lo:Nat}(h:Wk w lo o m s q)(i:Nat)(Y3:Y):Wk (w.setCell ⟨o,i,X⟩ Y3) lo o m s q:=
 ⟨h.o0,h.o4,h.perm,fun i h1 h2=>(h.keys i h1 h2).imp (fun k=>⟨k.1,k.2.set _ _⟩) id,h.kh.set _ _,h.int⟩
theorem Wk.setInt{lo:Nat}(h:Wk w lo o m s q)(i n:Nat)(h9:9<=i)(hn:bR i n)(hs:s'<=s\/s'<=i+1/\i<=s):Wk (w.setCell ⟨o,i,X⟩ (E I n)) lo o m s' (UR q i (E I n)):=by
 have h:=h.world i (E I n);have e: ∀j,j≠i->UR q i (E I n) j=q j:=fun j hj=>oH _ _ _ _ hj;refine⟨by rw[e _ U];exact h.o0,by rw[e _ U];exact h.o4,?_,fun j h1 h2=>by rw[e _ U];exact h.keys j h1 h2,by rw[e _ U];exact h.kh,fun j h1 h2=> ?_⟩;·rw[e _ U,e _ U,e _ U];exact h.perm
 ·by_cases hj:j=i;·subst hj;exact⟨n,F9 _ _ _,hn.2.1,fun _=>hn⟩
  ·rw[e _ hj];obtain⟨k,e1,e2,e3⟩:=h.int j h1 h2;exact⟨k,e1,e2,fun h=>e3 U⟩
theorem Wk.uc{lo:Nat}(h:Wk w lo o m s q)(i:Nat)(v:Y)(hi:i=5+m)(h7:i<=7)(hk:XB w lo o v):Wk (w.setCell ⟨o,i,X⟩ v) lo o (m+1) s (UR q i v):=by
 have h:=h.world i v;have e: ∀j,j≠i->UR q i v j=q j:=fun j hj=>oH _ _ _ _ hj;refine⟨by rw[e _ U];exact h.o0,by rw[e _ U];exact h.o4,?_,fun j h1 h2=> ?_,by rw[e _ U];exact h.kh,fun j h1 h2=>by rw[e _ U];exact h.int j h1 h2⟩;·rw[e _ U,e _ U,e _ U];exact h.perm
 ·by_cases hj:j=i;·subst hj;exact .inl ⟨U,by rw[F9];exact hk.set _ _⟩
  ·rw[e _ hj];rcases h.keys j h1 h2 with⟨k1,k2⟩|⟨k1,k2⟩;·exact .inl ⟨U,k2⟩
   ·exact .inr ⟨U,k2⟩
structure Ou(W:H)(f:Nat->Y)(o m s:Nat)(q:Nat->Y)(w:H):Prop where
 out:w.heap[o]?=Z (EJ (EG 56 q) 28 (0,0))
 src:w.heap[W.heap.size]?=Z (EJ (EG 56 f) 28 (0,0))
 res: ∃r,w.heap[W.heap.size+1]?=Z (EJ (EG 56 r) 28 (0,0))
 bel:El W w
 lo:W.heap.size+2<=o
 wk:Wk w (W.heap.size+2) o m s q
theorem Ou.V(h:Ou W f o m s q w)(hb:El w w'):Ou W f o m s q w':=by obtain⟨r,hr⟩:=h.res;exact⟨Xj h.out hb,Xj h.src hb,⟨r,Xj hr hb⟩,h.bel.trans (hb.mono h.bel.size),h.lo,h.wk.V hb⟩
theorem Ou.set'{m':Nat}(h:Ou W f o m s q w)(i:Nat)(v:Y)(hw:Wk (w.setCell ⟨o,i,X⟩ v) (W.heap.size+2) o m' s' (UR q i v)):Ou W f o m' s' (UR q i v) (w.setCell ⟨o,i,X⟩ v):=by
 obtain⟨r,hr⟩:=h.res;have hlo:=h.lo;refine⟨?_,?_,⟨r,?_⟩,h.bel.setCell (p:=⟨o,i,X⟩) UT v,h.lo,hw⟩;·rw[<-zZ];exact mI h.out i v
 ·rw[XK _ _ _ _ UT];exact h.src
 ·rw[XK _ _ _ _ UT];exact hr
theorem Ou.setInt(s':Nat)(h:Ou W f o m s q w)(i n:Nat)(h9:9<=i)(hn:bR i n)(hs:s'<=s\/s'<=i+1/\i<=s):Ou W f o m s' (UR q i (E I n)) (w.setCell ⟨o,i,X⟩ (E I n)):=h.set' i _ (h.wk.setInt i n h9 hn hs)
theorem Ou.uc(h:Ou W f o m s q w)(i:Nat)(v:Y)(h5:i=5+m)(h7:i<=7)(hk:XB w (W.heap.size+2) o v):Ou W f o (m+1) s (UR q i v) (w.setCell ⟨o,i,X⟩ v):=h.set' i _ (h.wk.uc i v h5 h7 hk)
theorem Ou.order(h:Ou W f o m s q w)(i k a b c:Nat)(vi vk:Y)(i1:1<=i)(i3:i<=3)(k1:1<=k)(k3:k<=3) (ha:UR (UR q i vi) k vk 1=E I a) (hb:UR (UR q i vi) k vk 2=E I b) (hc:UR (UR q i vi) k vk 3=E I c) (a1:1<=a) (a3:a<=3) (b1:1<=b) (b3:b<=3) (c1:1<=c) (c3:c<=3) (ab:a≠b) (ac:a≠c) (bc:b≠c): Ou W f o m s (UR (UR q i vi) k vk) ((w.setCell ⟨o,i,X⟩ vi).setCell ⟨o,k,X⟩ vk):=by
 obtain⟨r,hr⟩:=h.res;have hlo:=h.lo;have hw:=(h.wk.world i vi).world k vk;have e: ∀j,j<1\/3<j->UR (UR q i vi) k vk j=q j:=fun j hj=>by rw[oH _ _ _ _ U,oH _ _ _ _ U]
 refine⟨?_,?_,⟨r,?_⟩,(h.bel.setCell (p:=⟨o,i,X⟩) UT vi).setCell (p:=⟨o,k,X⟩) UT vk,h.lo,
  ⟨by rw[e _ U];exact hw.o0,by rw[e _ U];exact hw.o4,⟨a,b,c,ha,hb,hc,a1,a3,b1,b3,c1,c3,ab,ac,bc⟩,fun j h1 h2=>by rw[e _ U];exact hw.keys j h1 h2,by rw[e _ U];exact hw.kh,fun j h1 h2=>by rw[e _ U];exact hw.int j h1 h2⟩⟩
 ·rw[<-zZ,<-zZ];exact mI (mI h.out i vi) k vk
 ·rw[XK _ _ _ _ UT,XK _ _ _ _ UT];exact h.src
 ·rw[XK _ _ _ _ UT,XK _ _ _ _ UT];exact hr
theorem Ou.ZJ(s':Nat)(h:Ou W f o m s q w)(i n:Nat)(z:Int)(hz:z=n)(h9:9<=i)(hn:bR i n)(hs:s'<=s\/s'<=i+1/\i<=s):Ou W f o m s' (UR q i (E I z)) (w.setCell ⟨o,i,X⟩ (E I z)):=by subst hz;exact h.setInt s' i n h9 hn hs
theorem Ou.skip(s':Nat)(h:Ou W f o m s q w)(hs: ∀i,s<=i->i<s'->Zi i=0/\13<=i):Ou W f o m s' q w:=by
 refine⟨h.out,h.src,h.res,h.bel,h.lo,h.wk.o0,h.wk.o4,h.wk.perm,h.wk.keys,h.wk.kh,fun i h1 h2=> ?_⟩;obtain⟨n,e1,e2,e3⟩:=h.wk.int i h1 h2;refine⟨n,e1,e2,fun hi=> ?_⟩;by_cases c:i<s;·exact e3 c
 ·have:=hs i U hi;exact⟨U,e2,fun _ h=>U⟩
theorem Ou.drew(h:Ou W f o m s q w):Ou W f o m s q w.drew:=
 h.V (Jg w)
structure bS(w:H)(g:Nat->Y):Prop where
 o0:g 0=E I 0
 o4:g 4=E I 4
 perm: ∃a b c:Nat,g 1=E I a/\g 2=E I b/\g 3=E I c/\1<=a/\a<=3/\1<=b/\b<=3/\1<=c/\c<=3/\a≠b/\a≠c/\b≠c
 keys: ∀i,5<=i->i<=8-> ∃(A:Option Eu) (n cap:Nat) (ys:List Int) (base:Nat),g i=G A n cap/\ys.length=n/\Own w base A cap ys/\1<=n/\n<=64
 int: ∀i,9<=i->i<56-> ∃n:Nat,g i=E I n/\bR i n
theorem bS.V{g:Nat->Y}(h:bS w g)(hb:El w w'):bS w' g:=
 ⟨h.o0,h.o4,h.perm,fun i h1 h2=>by obtain⟨A,n,cap,ys,base,e,l,ho,r⟩:=h.keys i h1 h2;exact⟨A,n,cap,ys,base,e,l,ZD ho hb,r⟩,h.int⟩
theorem Ou.done(h:Ou W f o 3 56 q w):bS (w.setRow (W.heap.size+1) (EG 56 q)) q:=by
 refine⟨h.wk.o0,h.wk.o4,h.wk.perm,fun i h1 h2=> ?_,fun i h1 h2=> ?_⟩
 ·have hk:XB w (W.heap.size+2) o (q i):=by
   rcases JY i 8 with h8|h8
   ·rcases h.wk.keys i h1 U with k|k;·exact k.2
    ·omega
   ·obtain rfl:i=8:=U;exact h.wk.kh
  obtain⟨A,n,cap,ys,base,e,l,ho,r1,r2,-⟩:=(hk.other (p:=W.heap.size+1) U).keep (w':=w.setRow (W.heap.size+1) (EG 56 q)) (fun k hk=>setRow_other _ _ _ _ hk);exact⟨A,n,cap,ys,base,e,l,ho,r1,r2⟩
 ·obtain⟨n,e1,e2,e3⟩:=h.wk.int i h1 h2;exact⟨n,e1,e3 h2⟩
theorem Ou.one(h:Ou W f o 3 s q w): ∀i,i<56->(q i).oneCell'=EI:=by
 intro i hi;obtain⟨a,b,c,e1,e2,e3,-⟩:=h.wk.perm;by_cases h9:9<=i;·obtain⟨n,e,-⟩:=h.wk.int i h9 hi;rw[e];rfl
 ·by_cases h5:5<=i
  ·have hk:XB w (W.heap.size+2) o (q i):=by
    rcases JY i 8 with h8|h8
    ·rcases h.wk.keys i h5 U with k|k;·exact k.2
     ·omega
    ·obtain rfl:i=8:=U;exact h.wk.kh
   obtain⟨A,n,cap,ys,base,e,-⟩:=hk;rw[e];rfl
  ·rcases(show i=0\/i=1\/i=2\/i=3\/i=4 from U) with rfl|rfl|rfl|rfl|rfl;·rw[h.wk.o0];rfl
   ·rw[e1];rfl
   ·rw[e2];rfl
   ·rw[e3];rfl
   ·rw[h.wk.o4];rfl
theorem GE(a:Int): ∃n:Nat,Iu .and .i64 a 14=n/\n<=14/\n%2=0:=by
 refine⟨(gN 64 a&&&gN 64 14).toNat,?_,?_,?_⟩
 ·show IntKind.i64.wrap _=_;apply IntWalk.i64_in;have:(gN 64 a&&&gN 64 14).toNat<=14:=by rw[BitVec.toNat_and];exact Nat.and_le_right
  show _<=((gN 64 a&&&gN 64 14).toNat:Int)/\((gN 64 a&&&gN 64 14).toNat:Int)<=_;omega
 ·rw[BitVec.toNat_and];exact Nat.and_le_right
 ·rw[BitVec.toNat_and];have:=Nat.and_mod_two_pow (a:=(gN 64 a).toNat) (b:=(gN 64 14).toNat) (n:=1);rw[Nat.pow_one] at this;rw[this];exact Nat.and_zero _
theorem EOp(i:Nat)(h1:14<=i)(h2:i<39):Zi i=0/\13<=i:=by unfold Zi;rw[if_neg U,if_pos U];omega
theorem EOq(i:Nat)(h1:50<=i)(h2:i<54):Zi i=0/\13<=i:=by unfold Zi;rw[if_neg U,if_neg U,if_neg U,if_neg U,if_neg U,if_neg U];omega
theorem EOr(i n:Nat)(h1:14<=i)(h2:i<34)(hn:n<=15):bR i n:=by unfold bR Zi U6;rw[if_neg U,if_pos U,if_neg U,if_neg U,if_neg U,if_pos U];exact⟨U,hn,fun _ h=>U⟩
theorem EOs(i n:Nat)(h1:34<=i)(h2:i<39)(hn:n<=31):bR i n:=by unfold bR Zi U6;rw[if_neg U,if_pos U,if_neg U,if_neg U,if_neg U,if_neg U,if_pos U];exact⟨U,hn,fun _ h=>U⟩
theorem EOt(i n:Nat)(h1:51<=i)(h2:i<54)(hn:n<=1000):bR i n:=by
 unfold bR Zi U6;refine⟨?_,?_,fun _ h=>U⟩
 ·repeat (first|rw[if_neg U]|rw[if_pos U])
  omega
 ·rw[if_neg U,if_neg U,if_neg U,if_neg U,if_neg U,if_neg U,if_neg U,if_neg U,if_neg U,if_pos U];exact hn
theorem zl:(Tryz.prog.info? 28).map (·.size)=Z 56:=Ed
def EOu(w:H)(e:Uh):Prop:= ∃g,e=Eg (EZ (EG 56 g))/\bS w g
theorem EOv(f:Nat->Y)(w:H)(hp:rA w f): Ef Eb 9 #[EZ (EG 56 f)] w fun e w'=>EOu w' e/\El w w':=by
 obtain⟨A8,xs8,EOx,e8,l8,c8,r8,-⟩:=hp.key 8 U U;have HP:=J hp;clear hp;go_enter Tryz.func9,Tryz.ntmps9;go_wp2_with fail;refine(zk A8 xs8 EOx _ (Ix r8 (JV w _ _)) l8 c8).mono ?_;rintro e w1 ⟨⟨B8,n8,d8,QJ,rfl,ja,QO,k1,k2⟩,b1⟩;have B1:=J b1;clear b1 r8;have HO8:=J QO;clear QO l8 c8;have HH:=J e8;clear e8;go_wp2_with (with_reducible refine I7 15 ?_);apply Eo;refine I3 ?g1 28 #[(0,.tmp 11),(2,.tmp 14)] ?g2 (EG 56 (hG (G B8 n8 d8))) ?he ?_;case g1=>rfl
 case g2=>rfl
 case he=>exact EOn B8 n8 d8
 go_wp2_with ((with_reducible show Ic _ _ _ (⟨X,.store _ (.tmp 3) (.tmp 15),_,_,_,_⟩::_) _ _);refine Ev.mk ?_);apply Eo;refine wpList_store_row ?g1 28 (.tmp 3) (.tmp 15) ?g2 w1.heap.size (EG 56 (hG (G B8 n8 d8))) ?h1 ?h2 28 ?old ?h3 ?h4 ?h5 ?h6 ?_;case g1=>rfl
 case g2=>rfl
 case h1=>rfl
 case h2=>rfl
 case h3=>exact fz _ _
 case h4=>exact zl
 case h5=>rfl
 case h6=>exact QI (EOo B8 n8 d8)
 rw[World.setRow_alloc_new]
 have hst:Ou w f w1.heap.size 0 9 (hG (G B8 n8 d8)) (w1.alloc (EJ (EG 56 (hG (G B8 n8 d8))) 28)):=by
  obtain⟨z1,z2,z3⟩:=ND B1.out;rw[P_ (#[E I 0,_,_,_,_,_,_,_,_,_,_,_,_,_,_,_,_,_,_,_,_,_,_,_,_,_,_,_,_,_,_,_,_,_,_,_,_,_,_,_,_,_,_,_,_,_,_,_,_,_,_,_,_,_,_,_]:Array Y) 56 rfl] at z2;have bw:El w1 (w1.alloc (EJ (EG 56 (hG (G B8 n8 d8))) 28)):=Er _ _;refine⟨fz _ _,Xj z1 bw,⟨_,Xj z2 bw⟩,yk (yk (JV _ _ _) B1.out Eh) bw U,U,?_⟩;refine Wk.V ⟨O,O,⟨1,2,3,O,O,O,U,U,U,U,U,U,U,U,U⟩,fun i h1 h2=> .inr ⟨U,?_⟩,XB.new ja HO8.out k1 k2 (.inr (E7 _)) Eh,fun i h1 h2=>⟨0,?_,bG _,fun h=>U⟩⟩ bw;·unfold hG;rw[if_neg U,if_neg U,if_pos U]
  ·unfold hG;rw[if_neg U,if_neg U,if_neg U];rfl
 generalize w1.alloc (EJ (EG 56 (hG (G B8 n8 d8))) 28)=wa at*;have HST:=J hst;clear hst;go_wp2_with fail;go_loopw[4] (fun y wr=> ∃(i:Nat) (q:Nat->Y),y=E I i/\1<=i/\i<=3/\Ou w f w1.heap.size 0 9 q wr) (fun y _=>3-(Ir y).toNat);case atStart=>exact⟨1,_,O,U,U,HST.out⟩
 case round=>
  obtain⟨i,q,rfl,hi1,hi3,hs⟩:=hrel;clear HST;obtain⟨cO,fO⟩:=JU hs.out;obtain⟨cS,-⟩:=JU hs.src;have hne:w.heap.size≠w1.heap.size:=by have:=hs.lo;omega
  obtain⟨a,b,c,qa,qb,qc,a1,a3,b1,b3,c1,c3,ab,ac,bc⟩:=hs.wk.perm;have q0:=hs.wk.o0;have q4:=hs.wk.o4;have HS:=J hs;clear hs;rcases(show i=1\/i=2\/i=3 from U) with rfl|rfl|rfl
  ·obtain⟨e1,m1,m2⟩:=HP.out.int 1 U U;obtain⟨p1,hp1⟩:=Jl (Ir (f 1));rw[hp1] at e1 m1 m2;go_wp2_with fail;refine(bQ p1 3 _ U U U U).mono ?_;rintro e wm ⟨rfl,rfl⟩;rcases(show p1%3=0\/p1%3=1\/p1%3=2 from U) with h|h|h<;>rw[h];·go_wp2;exact⟨⟨2,_,O,U,U,HS.out.order 1 1 a b c _ _ U U U U bT bT bT U U U U U U U U U⟩,Zj⟩
   ·go_wp2;exact⟨⟨2,_,O,U,U,HS.out.order 1 2 b a c _ _ U U U U bT bT bT U U U U U U U U U⟩,Zj⟩
   ·go_wp2;exact⟨⟨2,_,O,U,U,HS.out.order 1 3 c b a _ _ U U U U bT bT bT U U U U U U U U U⟩,Zj⟩
  ·obtain⟨e1,m1,m2⟩:=HP.out.int 2 U U;obtain⟨p1,hp1⟩:=Jl (Ir (f 2));rw[hp1] at e1 m1 m2;go_wp2_with fail;refine(bQ p1 2 _ U U U U).mono ?_;rintro e wm ⟨rfl,rfl⟩;rcases(show p1%2=0\/p1%2=1 from U) with h|h<;>rw[h];·go_wp2;exact⟨⟨3,_,O,U,U,HS.out.order 2 2 a b c _ _ U U U U bT bT bT U U U U U U U U U⟩,Zj⟩
   ·go_wp2;exact⟨⟨3,_,O,U,U,HS.out.order 2 3 a c b _ _ U U U U bT bT bT U U U U U U U U U⟩,Zj⟩
  ·go_wp2_with fail;clear cO fO cS qa qb qc q0 q4 a1 a3 b1 b3 c1 c3 ab ac bc;simp only[show((3:Nat):Int)=3 from rfl];go_loopw[7] (fun y wr=> ∃(i:Nat) (q:Nat->Y),y=E I i/\i<=3/\Ou w f w1.heap.size i 9 q wr) (fun y _=>3-(Ir y).toNat);case atStart=>exact⟨0,_,O,U,HS.out⟩
   case round=>
    clear HS a b c;obtain⟨i,q,rfl,hi3,hs⟩:=hrel;obtain⟨cO,fO⟩:=JU hs.out;obtain⟨cS,-⟩:=JU hs.src;have HS:=J hs;clear hs;rcases(show i=0\/i=1\/i=2\/i=3 from U) with rfl|rfl|rfl|rfl;·obtain⟨A,xs,cap,e,l,c,r,-⟩:=HP.out.key 5 U U;have hr:=Ix r (oL HS.out.bel (E7 _));clear r;go_wp2_with fail;refine(zk A xs cap _ hr l c).mono ?_;rintro e w2 ⟨⟨Y4,n,d,ys,rfl,hl,ho,k1,k2⟩,b1⟩;have hs2:=HS.out.V b1;have hlt:=mE HS.out.out;clear cO fO cS hr;obtain⟨cO,fO⟩:=JU hs2.out;have HS2:=J<|hs2.uc 5 (G Y4 n d) O U (XB.new hl ho k1 k2 (.inl hlt) zn);clear hs2 ho b1 hlt HS k1 k2 hl l c;go_wp2;exact⟨⟨1,_,O,U,HS2.out⟩,Zj⟩
    ·obtain⟨A,xs,cap,e,l,c,r,-⟩:=HP.out.key 6 U U;have hr:=Ix r (oL HS.out.bel (E7 _));clear r;go_wp2_with fail;refine(zk A xs cap _ hr l c).mono ?_;rintro e w2 ⟨⟨Y4,n,d,ys,rfl,hl,ho,k1,k2⟩,b1⟩;have hs2:=HS.out.V b1;have hlt:=mE HS.out.out;clear cO fO cS hr;obtain⟨cO,fO⟩:=JU hs2.out;have HS2:=J<|hs2.uc 6 (G Y4 n d) O U (XB.new hl ho k1 k2 (.inl hlt) zn);clear hs2 ho b1 hlt HS k1 k2 hl l c;go_wp2;exact⟨⟨2,_,O,U,HS2.out⟩,Zj⟩
    ·obtain⟨A,xs,cap,e,l,c,r,-⟩:=HP.out.key 7 U U;have hr:=Ix r (oL HS.out.bel (E7 _));clear r;go_wp2_with fail;refine(zk A xs cap _ hr l c).mono ?_;rintro e w2 ⟨⟨Y4,n,d,ys,rfl,hl,ho,k1,k2⟩,b1⟩;have hs2:=HS.out.V b1;have hlt:=mE HS.out.out;clear cO fO cS hr;obtain⟨cO,fO⟩:=JU hs2.out;have HS2:=J<|hs2.uc 7 (G Y4 n d) O U (XB.new hl ho k1 k2 (.inl hlt) zn);clear hs2 ho b1 hlt HS k1 k2 hl l c;go_wp2;exact⟨⟨3,_,O,U,HS2.out⟩,Zj⟩
    ·have HS:=J<|HS.out.skip 9 U;obtain⟨f10,b10,t10⟩:=HP.out.int 10 U U;obtain⟨f11,b11,t11⟩:=HP.out.int 11 U U;obtain⟨f12,b12,t12⟩:=HP.out.int 12 U U;obtain⟨n10,UX,c10,d10⟩:=GE (Ir (f 10));obtain⟨n11,OU,c11,d11⟩:=GE (Ir (f 11));obtain⟨n12,a12,c12,d12⟩:=GE (Ir (f 12));generalize Ir (f 10)=p10 at*;generalize Ir (f 11)=p11 at*;generalize Ir (f 12)=p12 at*;have hne:w.heap.size≠w1.heap.size:=zn;go_wp2_with fail;have HS2:=J<|((((HS.out.ZJ 10 9 1 1 rfl U ZW U).ZJ 11 10 n10 _ O U ZW U).ZJ 12 11 n11 _ O U ZW U).ZJ 13 12 n12 _ O U ZW U).ZJ 14 13 0 0 rfl U ZW U;clear HS cO fO cS f10 f11 f12 b10 b11 b12 t10 t11 t12 UX OU a12;simp only[show((3:Nat):Int)=3 from rfl];go_loopw[8] (fun y wr=> ∃(i:Nat) (q:Nat->Y),y=E I i/\i<=5/\Ou w f w1.heap.size 3 14 q wr) (fun y _=>5-(Ir y).toNat);case atStart=>exact⟨0,_,O,U,HS2.out⟩
     case round=>
      clear HS2 c10 c11 c12 d10 d11 d12;obtain⟨i,q,rfl,hi5,hs⟩:=hrel;have HS:=J hs;clear hs;by_cases hlt:i<5
      ·go_wp2_with fail;obtain⟨wo,rfl⟩:=En (wr:H);go_loopw[9] (fun y wr=> ∃(k:Nat) (q:Nat->Y),y=E I k/\k<=4/\Ou w f w1.heap.size 3 14 q wr) (fun y _=>4-(Ir y).toNat);case atStart=>exact⟨0,_,O,U,HS.out⟩
       case round=>
        clear HS;obtain⟨k,q,rfl,hk4,hs⟩:=hrel;obtain⟨cO,fO⟩:=JU hs.out;obtain⟨cS,-⟩:=JU hs.src;have HS:=J hs;clear hs;by_cases hk:k<4;·have hlt':14+i*4+k<56:=U;obtain⟨e1,m1,m2⟩:=HP.out.int (14+i*4+k) hlt' U;obtain⟨p1,hp1⟩:=Jl (Ir (f (14+i*4+k)));rw[hp1] at e1 m1 m2;obtain⟨n,hn,hn2⟩: ∃n:Nat,p1%16=n/\n<=15:=⟨(p1%16).toNat,U,U⟩;have jb:=J<|HS.out.ZJ 14 (14+i*4+k) n (p1%16) hn U (EOr _ _ U U hn2) U;clear hp1 hn hn2;go_wp2_with fail;go_region;go_wp2_with fail;exact⟨⟨k+1,_,by go_num,U,jb.out.drew⟩,JM⟩
        ·have hlt':34+i<56:=U;obtain⟨e1,m1,m2⟩:=HP.out.int (34+i) hlt' U;obtain⟨p1,hp1⟩:=Jl (Ir (f (34+i)));rw[hp1] at e1 m1 m2;obtain⟨n,hn,hn2⟩: ∃n:Nat,p1%32=n/\n<=31:=⟨(p1%32).toNat,U,U⟩;have jb:=J<|HS.out.ZJ 14 (34+i) n (p1%32) hn U (EOs _ _ U U hn2) U;clear hp1 hn hn2;go_wp2_with fail;exact⟨⟨i+1,_,by go_num,U,jb.out⟩,JM⟩
      ·have rB:=J<|HS.out.skip 39 (fun i h1 h2=>EOp i h1 h2);clear HS;obtain⟨e1,m1,m2⟩:=HP.out.int 39 U U;obtain⟨p1,hp1⟩:=Jl (Ir (f 39));rw[hp1] at e1 m1 m2;clear hp1;obtain⟨n39,hn,t39⟩: ∃n:Nat,p1%5=n/\n<=4:=⟨(p1%5).toNat,U,U⟩;obtain⟨cO,fO⟩:=JU rB.out.out;obtain⟨cS,-⟩:=JU rB.out.src;have HN:=J hn;clear hn;go_wp2_with fail;refine(bQ p1 5 _ U U U U).mono ?_;rintro e wm ⟨rfl,rfl⟩;rw[HN.out];clear hlt e1 m1 m2 HN;obtain⟨e1,m1,m2⟩:=HP.out.int 40 U U;obtain⟨p1,hp1⟩:=Jl (Ir (f 40));rw[hp1] at e1 m1 m2;clear hp1;obtain⟨n40,hn,t40⟩: ∃n:Nat,p1%5=n/\n<=4:=⟨(p1%5).toNat,U,U⟩;have HN:=J hn;clear hn;go_wp2_with fail;refine(bQ p1 5 _ U U U U).mono ?_;rintro e wm ⟨rfl,rfl⟩;rw[HN.out];have zo:=J<|rB.out.ZJ 40 39 n39 ((n39:Int)) U U ZW U;clear rB cO fO cS;generalize dN _ ⟨w1.heap.size,39,X⟩ (E I ((n39:Int)))=x1 at*;clear e1 m1 m2 HN t39;obtain⟨cO,fO⟩:=JU zo.out.out;obtain⟨cS,-⟩:=JU zo.out.src;obtain⟨e1,m1,m2⟩:=HP.out.int 41 U U;obtain⟨p1,hp1⟩:=Jl (Ir (f 41));rw[hp1] at e1 m1 m2;clear hp1;obtain⟨n41,hn,t41⟩: ∃n:Nat,p1%5=n/\n<=4:=⟨(p1%5).toNat,U,U⟩;have HN:=J hn;clear hn;go_wp2_with fail;refine(bQ p1 5 _ U U U U).mono ?_;rintro e wm ⟨rfl,rfl⟩;rw[HN.out];have HS2:=J<|zo.out.ZJ 41 40 n40 ((n40:Int)) U U ZW U;clear zo cO fO cS;generalize dN _ ⟨w1.heap.size,40,X⟩ (E I ((n40:Int)))=x2 at*;clear e1 m1 m2 HN t40;obtain⟨cO,fO⟩:=JU HS2.out.out;obtain⟨cS,-⟩:=JU HS2.out.src;obtain⟨e1,m1,m2⟩:=HP.out.int 42 U U;obtain⟨p1,hp1⟩:=Jl (Ir (f 42));rw[hp1] at e1 m1 m2;clear hp1;obtain⟨n42,hn,t42⟩: ∃n:Nat,p1%1000=n/\n<=999:=⟨(p1%1000).toNat,U,U⟩;have HN:=J hn;clear hn;go_wp2_with fail;refine(bQ p1 1000 _ U U U U).mono ?_;rintro e wm ⟨rfl,rfl⟩;rw[HN.out];have jb:=J<|HS2.out.ZJ 42 41 n41 ((n41:Int)) U U ZW U;clear HS2 cO fO cS;generalize dN _ ⟨w1.heap.size,41,X⟩ (E I ((n41:Int)))=x3 at*;clear e1 m1 m2 HN t41;obtain⟨cO,fO⟩:=JU jb.out.out;obtain⟨cS,-⟩:=JU jb.out.src;obtain⟨e1,m1,m2⟩:=HP.out.int 43 U U;obtain⟨p1,hp1⟩:=Jl (Ir (f 43));rw[hp1] at e1 m1 m2;clear hp1;obtain⟨n43,hn,t43⟩: ∃n:Nat,p1%1000=n/\n<=999:=⟨(p1%1000).toNat,U,U⟩;have HN:=J hn;clear hn;go_wp2_with fail;refine(bQ p1 1000 _ U U U U).mono ?_;rintro e wm ⟨rfl,rfl⟩;rw[HN.out];have zp:=J<|jb.out.ZJ 43 42 (1+n42) (1+(n42:Int)) U U ZW U;clear jb cO fO cS;generalize dN _ ⟨w1.heap.size,42,X⟩ (E I (1+(n42:Int)))=x4 at*;clear e1 m1 m2 HN t42;obtain⟨cO,fO⟩:=JU zp.out.out;obtain⟨cS,-⟩:=JU zp.out.src;obtain⟨e1,m1,m2⟩:=HP.out.int 44 U U;obtain⟨p1,hp1⟩:=Jl (Ir (f 44));rw[hp1] at e1 m1 m2;clear hp1;obtain⟨n44,hn,t44⟩: ∃n:Nat,p1%1000=n/\n<=999:=⟨(p1%1000).toNat,U,U⟩;have HN:=J hn;clear hn;go_wp2_with fail;refine(bQ p1 1000 _ U U U U).mono ?_;rintro e wm ⟨rfl,rfl⟩;rw[HN.out];have zq:=J<|zp.out.ZJ 44 43 (1+n43) (1+(n43:Int)) U U ZW U;clear zp cO fO cS;generalize dN _ ⟨w1.heap.size,43,X⟩ (E I (1+(n43:Int)))=x5 at*;clear e1 m1 m2 HN t43;obtain⟨cO,fO⟩:=JU zq.out.out;obtain⟨cS,-⟩:=JU zq.out.src;obtain⟨e1,m1,m2⟩:=HP.out.int 45 U U;obtain⟨p1,hp1⟩:=Jl (Ir (f 45));rw[hp1] at e1 m1 m2;clear hp1;obtain⟨n45,hn,t45⟩: ∃n:Nat,p1%1000=n/\n<=999:=⟨(p1%1000).toNat,U,U⟩;have HN:=J hn;clear hn;go_wp2_with fail;refine(bQ p1 1000 _ U U U U).mono ?_;rintro e wm ⟨rfl,rfl⟩;rw[HN.out];have zr:=J<|zq.out.ZJ 45 44 (1+n44) (1+(n44:Int)) U U ZW U;clear zq cO fO cS;generalize dN _ ⟨w1.heap.size,44,X⟩ (E I (1+(n44:Int)))=x6 at*;clear e1 m1 m2 HN t44;obtain⟨cO,fO⟩:=JU zr.out.out;obtain⟨cS,-⟩:=JU zr.out.src;obtain⟨e1,m1,m2⟩:=HP.out.int 46 U U;obtain⟨p1,hp1⟩:=Jl (Ir (f 46));rw[hp1] at e1 m1 m2;clear hp1;obtain⟨n46,hn,t46⟩: ∃n:Nat,p1%1000=n/\n<=999:=⟨(p1%1000).toNat,U,U⟩;have HN:=J hn;clear hn;go_wp2_with fail;refine(bQ p1 1000 _ U U U U).mono ?_;rintro e wm ⟨rfl,rfl⟩;rw[HN.out];have zu:=J<|zr.out.ZJ 46 45 (1+n45) (1+(n45:Int)) U U ZW U;clear zr cO fO cS;generalize dN _ ⟨w1.heap.size,45,X⟩ (E I (1+(n45:Int)))=x7 at*;clear e1 m1 m2 HN t45;obtain⟨cO,fO⟩:=JU zu.out.out;obtain⟨cS,-⟩:=JU zu.out.src;obtain⟨e1,m1,m2⟩:=HP.out.int 47 U U;obtain⟨p1,hp1⟩:=Jl (Ir (f 47));rw[hp1] at e1 m1 m2;clear hp1;obtain⟨n47,hn,t47⟩: ∃n:Nat,p1%1001=n/\n<=1000:=⟨(p1%1001).toNat,U,U⟩;have HN:=J hn;clear hn;go_wp2_with fail;refine(bQ p1 1001 _ U U U U).mono ?_;rintro e wm ⟨rfl,rfl⟩;rw[HN.out];have zw:=J<|zu.out.ZJ 47 46 (1+n46) (1+(n46:Int)) U U ZW U;clear zu cO fO cS;generalize dN _ ⟨w1.heap.size,46,X⟩ (E I (1+(n46:Int)))=x8 at*;clear e1 m1 m2 HN t46;obtain⟨cO,fO⟩:=JU zw.out.out;obtain⟨cS,-⟩:=JU zw.out.src;obtain⟨e1,m1,m2⟩:=HP.out.int 48 U U;obtain⟨p1,hp1⟩:=Jl (Ir (f 48));rw[hp1] at e1 m1 m2;clear hp1;obtain⟨n48,hn,t48⟩: ∃n:Nat,p1%3=n/\n<=2:=⟨(p1%3).toNat,U,U⟩;have HN:=J hn;clear hn;go_wp2_with fail;refine(bQ p1 3 _ U U U U).mono ?_;rintro e wm ⟨rfl,rfl⟩;rw[HN.out];have zx:=J<|zw.out.ZJ 48 47 n47 ((n47:Int)) U U ZW U;clear zw cO fO cS;generalize dN _ ⟨w1.heap.size,47,X⟩ (E I ((n47:Int)))=x9 at*;clear e1 m1 m2 HN t47;obtain⟨cO,fO⟩:=JU zx.out.out;obtain⟨cS,-⟩:=JU zx.out.src;obtain⟨e1,m1,m2⟩:=HP.out.int 49 U U;obtain⟨p1,hp1⟩:=Jl (Ir (f 49));rw[hp1] at e1 m1 m2;clear hp1;obtain⟨n49,hn,t49⟩: ∃n:Nat,p1%3=n/\n<=2:=⟨(p1%3).toNat,U,U⟩;have HN:=J hn;clear hn;go_wp2_with fail;refine(bQ p1 3 _ U U U U).mono ?_;rintro e wm ⟨rfl,rfl⟩;rw[HN.out];have zy:=J<|zx.out.ZJ 49 48 (1+n48) (1+(n48:Int)) U U ZW U;clear zx cO fO cS;generalize dN _ ⟨w1.heap.size,48,X⟩ (E I (1+(n48:Int)))=fN at*;clear e1 m1 m2 HN t48;obtain⟨cO,fO⟩:=JU zy.out.out;obtain⟨cS,-⟩:=JU zy.out.src;go_wp2_with fail;have QU:=J<|(zy.out.ZJ 50 49 (1+n49) (1+(n49:Int)) U U ZW U).skip 54 (fun i h1 h2=>EOq i h1 h2);clear zy cO fO cS;try simp only[show((3:Nat):Int)=3 from rfl]
       go_loopw[10] (fun y wr=> ∃(i:Nat) (q:Nat->Y),y=E I i/\1<=i/\i<=4/\Ou w f w1.heap.size 3 54 q wr) (fun y _=>4-(Ir y).toNat);case atStart=>exact⟨1,_,O,U,U,QU.out⟩
       case round=>
        clear QU;obtain⟨i,q,rfl,hi1,hi4,hs⟩:=hrel;obtain⟨cO,fO⟩:=JU hs.out;obtain⟨cS,-⟩:=JU hs.src;have HS:=J hs;clear hs;by_cases hlt:i<4;·have hlt':50+i<56:=U;obtain⟨e1,m1,m2⟩:=HP.out.int (50+i) hlt' U;obtain⟨p1,hp1⟩:=Jl (Ir (f (50+i)));rw[hp1] at e1 m1 m2;clear hp1;obtain⟨n,hn,hn2⟩: ∃n:Nat,p1%1001=n/\n<=1000:=⟨(p1%1001).toNat,U,U⟩;have jb:=J<|HS.out.ZJ 54 (50+i) n n O U (EOt _ _ U U hn2) U;have HN:=J hn;clear hn;go_wp2_with fail;refine(bQ p1 1001 _ U U U U).mono ?_;rintro e wm ⟨rfl,rfl⟩;rw[HN.out];go_wp2_with fail;exact⟨⟨i+1,_,by go_num,U,U,jb.out⟩,JM⟩
        ·obtain⟨e1,m1,m2⟩:=HP.out.int 54 U U;obtain⟨p1,hp1⟩:=Jl (Ir (f 54));rw[hp1] at e1 m1 m2;clear hp1;obtain⟨n54,hn,t54⟩: ∃n:Nat,p1%1000=n/\n<=999:=⟨(p1%1000).toNat,U,U⟩;have HN:=J hn;clear hn;go_wp2_with fail;refine(bQ p1 1000 _ U U U U).mono ?_;rintro e wm ⟨rfl,rfl⟩;rw[HN.out];clear hlt e1 m1 m2 HN;obtain⟨e1,m1,m2⟩:=HP.out.int 55 U U;obtain⟨p1,hp1⟩:=Jl (Ir (f 55));rw[hp1] at e1 m1 m2;clear hp1;obtain⟨n55,hn,t55⟩: ∃n:Nat,p1%65536=n/\n<=65535:=⟨(p1%65536).toNat,U,U⟩;have QX:=J<|(HS.out.ZJ 55 54 (1+n54) (1+(n54:Int)) U U ZW U).ZJ 56 55 n55 (p1%65536) hn U ZW U;clear hn;go_wp2_with (with_reducible refine I7 170 ?_);apply Eo;clear HS cO fO cS;generalize dN _ ⟨w1.heap.size,55,X⟩ (E I (p1%65536))=xx at*;obtain⟨qq,HQ⟩: ∃qq,Ec (Ou w f w1.heap.size 3 56 qq xx):=⟨_,QX⟩;clear QX;refine wpList_load_row ?g1 28 (.tmp 3) ?g2 w1.heap.size ?g3 28 (EG 56 qq) (0,0) _ ?h1 Tryz.underlying28 ?h3 ?h4 ?_;case g1=>rfl
         case g2=>rfl
         case g3=>rfl
         case h1=>exact HQ.out.out
         case h3=>rfl
         case h4=>rw[zl,oG]
         obtain⟨r,hr⟩:=HQ.out.res;have HR:=J hr;clear hr;go_wp2_with ((with_reducible show Ic _ _ _ (⟨X,.store _ (.tmp 2) (.tmp 170),_,_,_,_⟩::_) _ _);refine Ev.mk ?_);apply Eo;refine wpList_store_row ?g1 28 (.tmp 2) (.tmp 170) ?g2 (w.heap.size+1) (EG 56 qq) ?h1 ?h2 28 (EG 56 r) ?h3 ?h4 ?h5 ?h6 ?_;case g1=>rfl
         case g2=>rfl
         case h1=>rfl
         case h2=>rfl
         case h3=>exact HR.out
         case h4=>rw[zl,oG]
         case h5=>rw[oG,oG]
         case h6=>exact QI HQ.out.one
         go_wp2_with fail;refine EV (v:=EZ (EG 56 qq)) ?_ O ⟨⟨qq,O,HQ.out.done⟩,E2 HQ.out.bel U _⟩;exact results_cell_row O _ _ (w.heap.size+1) 28 (EG 56 qq) (0,0) _ O (setRow_heap _ _ _ _ _ _ HR.out) Tryz.underlying28 O (by rw[zl,oG])
theorem EOz(W:H)(h e o oa om la lm:Int)(b:Bool)(g3:Nat)(KT:D W g3 #[E I h,E I e,E I o,E I oa,E I om,E I la,E I lm,EU b] 109)(g7:Nat)(s:Int)(K7:D W g7 #[E I s] 3): Ef Eb 221 #[M (Z ⟨g7,0,X⟩),M (Z ⟨g3,0,X⟩)] W fun x w'=>x=Eg (EU (decide (s≠h)))/\El W w':=by
 have zc:g3<W.heap.size:=D.lt KT;have zd:W.cell? ⟨g3,0,X⟩=Z (E I h):=(D.cell KT 0).trans O;have c31:W.cell? ⟨g3,1,X⟩=Z (E I e):=(D.cell KT 1).trans O;have c32:W.cell? ⟨g3,2,X⟩=Z (E I o):=(D.cell KT 2).trans O;have zg:W.cell? ⟨g3,3,X⟩=Z (E I oa):=(D.cell KT 3).trans O;have c34:W.cell? ⟨g3,4,X⟩=Z (E I om):=(D.cell KT 4).trans O;have zi:W.cell? ⟨g3,5,X⟩=Z (E I la):=(D.cell KT 5).trans O;have zj:W.cell? ⟨g3,6,X⟩=Z (E I lm):=(D.cell KT 6).trans O;have c37:W.cell? ⟨g3,7,X⟩=Z (EU b):=(D.cell KT 7).trans O;have EOA:g7<W.heap.size:=D.lt K7;have ci7:W.cell? ⟨g7,0,X⟩=Z (E I s):=(D.cell K7 0).trans O;by_cases hx:s≠h;·rw[IU hx];have d1:(s !=h)=EI:=ud;clear KT K7 hx;go_enter Tryz.func221,Tryz.ntmps221;exact Elc
 ·rw[IJ hx];have d1:(s !=h)=B:=by simpa using hx
  clear KT K7 hx;go_enter Tryz.func221,Tryz.ntmps221;exact Elc
theorem EOC(W:H)(h e o oa om la lm:Int)(b:Bool)(g3:Nat)(KT:D W g3 #[E I h,E I e,E I o,E I oa,E I om,E I la,E I lm,EU b] 109): Ef Eb 222 #[M (Z ⟨g3,0,X⟩)] W fun x w'=>x=Eg (EU (decide (65535<=e)))/\El W w':=by
 have zc:g3<W.heap.size:=D.lt KT;have zd:W.cell? ⟨g3,0,X⟩=Z (E I h):=(D.cell KT 0).trans O;have c31:W.cell? ⟨g3,1,X⟩=Z (E I e):=(D.cell KT 1).trans O;have c32:W.cell? ⟨g3,2,X⟩=Z (E I o):=(D.cell KT 2).trans O;have zg:W.cell? ⟨g3,3,X⟩=Z (E I oa):=(D.cell KT 3).trans O;have c34:W.cell? ⟨g3,4,X⟩=Z (E I om):=(D.cell KT 4).trans O;have zi:W.cell? ⟨g3,5,X⟩=Z (E I la):=(D.cell KT 5).trans O;have zj:W.cell? ⟨g3,6,X⟩=Z (E I lm):=(D.cell KT 6).trans O;have c37:W.cell? ⟨g3,7,X⟩=Z (EU b):=(D.cell KT 7).trans O;by_cases hx:65535<=e;·rw[IU hx];have d1:decide (65535<=e)=EI:=IU hx;exact EpC
 ·rw[IJ hx];have d1:decide (65535<=e)=B:=IJ hx;exact EpC
theorem EOD(W:H)(g8:Nat)(IT:Int)(K8:D W g8 #[E I IT] 3)(g7:Nat)(s:Int)(K7:D W g7 #[E I s] 3): Ef Eb 223 #[M (Z ⟨g8,0,X⟩),M (Z ⟨g7,0,X⟩)] W fun x w'=>x=Eg (EU (decide (IT=s)))/\El W w':=by
 have EOF:g8<W.heap.size:=D.lt K8;have ci8:W.cell? ⟨g8,0,X⟩=Z (E I IT):=(D.cell K8 0).trans O;have EOA:g7<W.heap.size:=D.lt K7;have ci7:W.cell? ⟨g7,0,X⟩=Z (E I s):=(D.cell K7 0).trans O;by_cases hx:IT=s;·rw[IU hx];have d1:(IT==s)=EI:=ud;exact Epy
 ·rw[IJ hx];have d1:(IT==s)=B:=beq_eq_false_iff_ne.2 hx;exact Epy
theorem EOH(W:H)(g8:Nat)(IT:Int)(K8:D W g8 #[E I IT] 3)(g9:Nat)(th:Bool)(K9:D W g9 #[EU th] 4): Ef Eb 224 #[M (Z ⟨g8,0,X⟩),M (Z ⟨g9,0,X⟩)] W fun x w'=>x=Eg (EU (decide (IT<1\/3<IT\/th=B)))/\El W w':=by
 have EOF:g8<W.heap.size:=D.lt K8;have ci8:W.cell? ⟨g8,0,X⟩=Z (E I IT):=(D.cell K8 0).trans O;have Ejy:g9<W.heap.size:=D.lt K9;have ci9:W.cell? ⟨g9,0,X⟩=Z (EU th):=(D.cell K9 0).trans O;by_cases h1:IT<1;·rw[IU (.inl h1)];have d1:decide (IT<1)=EI:=IU h1;clear K8 K9 h1;go_enter Tryz.func224,Tryz.ntmps224;exact Elc
 have d1:decide (IT<1)=B:=IJ h1;by_cases h2:3<IT;·rw[IU (.inr (.inl h2))];have d2:decide (3<IT)=EI:=IU h2;clear K8 K9 h1 h2;go_enter Tryz.func224,Tryz.ntmps224;exact Elc
 have d2:decide (3<IT)=B:=IJ h2;cases th with
 |false=> rw[IU (.inr (.inr O))];clear K8 K9 h1 h2;go_enter Tryz.func224,Tryz.ntmps224;go_wp2;go_ret;exact⟨O,by(repeat (first|exact E9 _ _|(refine JQ ?_ Iv _)|(refine JR ?_ Iv _)))⟩
 |true=> rw[IJ Ji];clear K8 K9 h1 h2;go_enter Tryz.func224,Tryz.ntmps224;go_wp2;go_ret;exact⟨O,by(repeat (first|exact E9 _ _|(refine JQ ?_ Iv _)|(refine JR ?_ Iv _)))⟩
theorem EOK(W:H)(h e o oa om la lm:Int)(b:Bool)(g3:Nat)(KT:D W g3 #[E I h,E I e,E I o,E I oa,E I om,E I la,E I lm,EU b] 109): Ef Eb 225 #[M (Z ⟨g3,0,X⟩)] W fun x w'=>x=Eg (EU (decide (0<=o)))/\El W w':=by
 have zc:g3<W.heap.size:=D.lt KT;have zd:W.cell? ⟨g3,0,X⟩=Z (E I h):=(D.cell KT 0).trans O;have c31:W.cell? ⟨g3,1,X⟩=Z (E I e):=(D.cell KT 1).trans O;have c32:W.cell? ⟨g3,2,X⟩=Z (E I o):=(D.cell KT 2).trans O;have zg:W.cell? ⟨g3,3,X⟩=Z (E I oa):=(D.cell KT 3).trans O;have c34:W.cell? ⟨g3,4,X⟩=Z (E I om):=(D.cell KT 4).trans O;have zi:W.cell? ⟨g3,5,X⟩=Z (E I la):=(D.cell KT 5).trans O;have zj:W.cell? ⟨g3,6,X⟩=Z (E I lm):=(D.cell KT 6).trans O;have c37:W.cell? ⟨g3,7,X⟩=Z (EU b):=(D.cell KT 7).trans O;by_cases hx:0<=o;·rw[IU hx];have d1:decide (0<=o)=EI:=IU hx;exact EpB
 ·rw[IJ hx];have d1:decide (0<=o)=B:=IJ hx;exact EpB
theorem EOL(f:Nat->Y)(t:EK)(s IT po:Int)(th:Bool)(w:H)(hp:f 44=E I po): Ef Eb 178 #[EZ (EG 56 f),t.a,E I s,E I IT,EU th] w fun x w'=>x=Eg (Et #[(t.make po s IT th).1.a,E I (t.make po s IT th).2])/\El w w':=by
 have HE:Ec (t.make po s IT th=if s≠t.h then(t,20) else if 65535<=t.e then(t,24) else if IT=s then(t,25) else if IT<1\/3<IT\/th=B then(t,2) else if 0<=t.o then(t,28) else({t with o:=IT,oa:=0,om:=max po 0},0)):=J O;have CS:=J<|fun W=>yF po W;generalize max po 0=mp at*;have HP:=J hp;clear hp;unfold EK.a at*;obtain⟨h,e,o,oa,om,la,lm,b⟩:=t;simp only at*;unfold UU at*;go_enter Tryz.func178,Tryz.ntmps178;go_wp2_with fail;generalize hW:Uz _ _=W at*;have K0:Ec (D W (w.heap.size) (EG 56 f) 28):=J (by subst hW;repeat (first|exact D.new _ _ _|exact D.new' _ _ _ Eh|refine D.alloc ?_ _));have K1:Ec (D W (w.heap.size+1) #[E I h,E I e,E I o,E I oa,E I om,E I la,E I lm,EU b] 109):=J (by subst hW;repeat (first|exact D.new _ _ _|exact D.new' _ _ _ Eh|refine D.alloc ?_ _));have K2:Ec (D W (w.heap.size+1+1) #[E I s] 3):=J (by subst hW;repeat (first|exact D.new _ _ _|exact D.new' _ _ _ Eh|refine D.alloc ?_ _));have K3:Ec (D W (w.heap.size+1+1+1) #[E I IT] 3):=J (by subst hW;repeat (first|exact D.new _ _ _|exact D.new' _ _ _ Eh|refine D.alloc ?_ _));have K4:Ec (D W (w.heap.size+1+1+1+1) #[EU th] 4):=J (by subst hW;repeat (first|exact D.new _ _ _|exact D.new' _ _ _ Eh|refine D.alloc ?_ _));have K5:Ec (D W (w.heap.size+1+1+1+1+1) #[E I 0,E I 0,E I 0,E I 0,E I 0,E I 0,E I 0,EU B] 109):=J (by subst hW;repeat (first|exact D.new _ _ _|exact D.new' _ _ _ Eh|refine D.alloc ?_ _));have K6:Ec (D W (w.heap.size+1+1+1+1+1+1) #[E I 20,.func (.func 221) #[] #[M (Z ⟨w.heap.size+1+1,0,X⟩),M (Z ⟨w.heap.size+1,0,X⟩)],E I 24,.func (.func 222) #[] #[M (Z ⟨w.heap.size+1,0,X⟩)],E I 25,.func (.func 223) #[] #[M (Z ⟨w.heap.size+1+1+1,0,X⟩),M (Z ⟨w.heap.size+1+1,0,X⟩)],E I 2,.func (.func 224) #[] #[M (Z ⟨w.heap.size+1+1+1,0,X⟩),M (Z ⟨w.heap.size+1+1+1+1,0,X⟩)],E I 28,.func (.func 225) #[] #[M (Z ⟨w.heap.size+1,0,X⟩)]] 317):=J (by subst hW;repeat (first|exact D.new _ _ _|exact D.new' _ _ _ Eh|refine D.alloc ?_ _));have u:Ec (El w W):=J (by subst hW;(repeat (first|exact E9 _ _|(refine JQ ?_ Iv _)|(refine JR ?_ Iv _))));clear hW
 have CF:=P8 [⟨20,221,#[M (Z ⟨w.heap.size+1+1,0,X⟩),M (Z ⟨w.heap.size+1,0,X⟩)],decide (s≠h)⟩,⟨24,222,#[M (Z ⟨w.heap.size+1,0,X⟩)],decide (65535<=e)⟩,⟨25,223,#[M (Z ⟨w.heap.size+1+1+1,0,X⟩),M (Z ⟨w.heap.size+1+1,0,X⟩)],decide (IT=s)⟩,⟨2,224,#[M (Z ⟨w.heap.size+1+1+1,0,X⟩),M (Z ⟨w.heap.size+1+1+1+1,0,X⟩)],decide (IT<1\/3<IT\/th=B)⟩,⟨28,225,#[M (Z ⟨w.heap.size+1,0,X⟩)],decide (0<=o)⟩] (w.heap.size+1+1+1+1+1+1) 5 W O U K6.out (by
  intro c hc;simp only[UJ,UA,or_false] at hc;rcases hc with rfl|rfl|rfl|rfl|rfl;·exact⟨fun _ _=>Ed,fun W2 hW2=>EOz W2 h e o oa om la lm b _ (K1.out.V hW2) _ s (K2.out.V hW2)⟩
  ·exact⟨fun _ _=>Ed,fun W2 hW2=>EOC W2 h e o oa om la lm b _ (K1.out.V hW2)⟩
  ·exact⟨fun _ _=>Ed,fun W2 hW2=>EOD W2 _ IT (K3.out.V hW2) _ s (K2.out.V hW2)⟩
  ·exact⟨fun _ _=>Ed,fun W2 hW2=>EOH W2 _ IT (K3.out.V hW2) _ th (K4.out.V hW2)⟩
  ·exact⟨fun _ _=>Ed,fun W2 hW2=>EOK W2 h e o oa om la lm b _ (K1.out.V hW2)⟩)
 simp only[jZ,decide_eq_true_eq] at CF;replace CF:=J CF;clear K6 K2 K4;by_cases h0:s≠h;·rw[if_pos h0] at CF HE;exact ElX
 rw[if_neg h0] at CF HE;by_cases h1:65535<=e;·rw[if_pos h1] at CF HE;exact ElX
 rw[if_neg h1] at CF HE;by_cases h2:IT=s;·rw[if_pos h2] at CF HE;exact ElX
 rw[if_neg h2] at CF HE;by_cases h3:IT<1\/3<IT\/th=B;·rw[if_pos h3] at CF HE;exact ElX
 rw[if_neg h3] at CF HE;by_cases h4:0<=o;·rw[if_pos h4] at CF HE;exact ElX
 rw[if_neg h4] at CF HE;refine CF.out.mono ?_;rintro x W2 ⟨rfl,b2⟩;replace K0:=J<|K0.out.V b2;replace K1:=J<|K1.out.V b2;replace K3:=J<|K3.out.V b2;replace K5:=J<|K5.out.V b2;replace u:=ET u b2;clear b2 CF h0 h1 h2 h3 h4;go_wp2_with fail;have c3: ∀y:Ext W2,(EC W2 y).cell? ⟨w.heap.size+1+1+1,0,X⟩=Z (E I IT):=fun y=>((K3.out.V (EN y)).cell 0).trans O;have c0: ∀y:Ext W2,(EC W2 y).cell? ⟨w.heap.size,44,X⟩=Z (E I po):=fun y=>((K0.out.V (EN y)).cell 44).trans (by rw[d_,if_pos U,HP.out]);refine J_ 5 Ed Ed ?_;simp only[Iq,Io,IP,IH]
 repeat (first
  |go_big_quiet_skip
  |(go_big_quiet_want
    first
     |(go_big_quiet_op
       first
        |go_big_quiet_on
        |go_big_quiet_call (with_reducible refine aE (CS.out _)))))
 refine I1 ?_;intro _ hw';obtain⟨y9,rfl⟩:=hw';have Em:=EN y9;replace K1:=J<|K1.out.V Em;replace K5:=J<|K5.out.V Em;replace u:=ET u Em;clear c3 c0 K0 K3 CS;generalize EC W2 y9=W3 at*;have a2:W3.cell? ⟨w.heap.size+1,2,X⟩=Z (E I o):=(K1.out.cell 2).trans O;have a3:W3.cell? ⟨w.heap.size+1,3,X⟩=Z (E I oa):=(K1.out.cell 3).trans O;have a4:W3.cell? ⟨w.heap.size+1,4,X⟩=Z (E I om):=(K1.out.cell 4).trans O;have f2:W3.frozen? ⟨w.heap.size+1,2,X⟩=B:=K1.out.JX _;have f3:W3.frozen? ⟨w.heap.size+1,3,X⟩=B:=K1.out.JX _;have f4:W3.frozen? ⟨w.heap.size+1,4,X⟩=B:=K1.out.JX _;obtain⟨W4,uf⟩: ∃W4,W4=((W3.setCell ⟨w.heap.size+1,2,X⟩ (E I IT)).setCell ⟨w.heap.size+1,3,X⟩ (E I 0)).setCell ⟨w.heap.size+1,4,X⟩ (E I mp):=⟨_,O⟩;have QZ:Ec (D W4 (w.heap.size+1) #[E I h,E I e,E I IT,E I 0,E I mp,E I la,E I lm,EU b] 109):=J (by subst uf;have:=((K1.out.set 2 (E I IT)).set 3 (E I 0)).set 4 (E I mp);simpa using this);have hH:Ec (D W4 (w.heap.size+1+1+1+1+1) #[E I 0,E I 0,E I 0,E I 0,E I 0,E I 0,E I 0,EU B] 109):=J (by subst uf;exact((K5.out.other _ 2 _ U).other _ 3 _ U).other _ 4 _ U);have Qa:Ec (El w W4):=J (by subst uf;exact((u.out.setCell (p:=⟨w.heap.size+1,2,X⟩) Eh _).setCell (p:=⟨w.heap.size+1,3,X⟩) Eh _).setCell (p:=⟨w.heap.size+1,4,X⟩) Eh _);rw[uf] at QZ hH Qa;clear K1 K5 u uf Em;go_wp2_with (with_reducible first|refine wL ER QZ ?_|refine wS (cs:= #[E I h,E I e,E I IT,E I 0,E I mp,E I la,E I lm,EU b]) ER hH ?_ (h1:=Ug));refine EV (Ux ER O _ _ (w.heap.size+1+1+1+1+1) _ _ O O (hH.out.setRow _) O) O ⟨?_,E2 (g:=w.heap.size+1+1+1+1+1) Qa.out U _⟩;exact EpU
theorem ug(K:Il W g T)(h:T.ok)(i j:Nat)(hj:j<39):W.cell? ⟨g,so i+j,X⟩=(T.E4 i).v[j]?:=by unfold Il at K;rw[T.rj i] at K;exact bB K (EQ.ou h i) j (by rw[Jm.XL (h.E4 i).len];exact hj)
theorem uh(K:Il W g T)(h:T.ok):W.cell? ⟨g,120,X⟩=Z (E I T.In)/\W.cell? ⟨g,121,X⟩=Z (E I T.most):=by
 have e:T.v=(T.hd++T.s0.v++T.s1.v++T.s2.v)++(T.tl++[]):=by simp[EQ.v]
 unfold Il at K;rw[e] at K;have hl:(T.hd++T.s0.v++T.s1.v++T.s2.v).length=120:=by simp[EQ.hd,Jm.XL h.s0.len,Jm.XL h.s1.len,Jm.XL h.s2.len]
 exact⟨bB K hl 0 (by simp[EQ.tl]),bB K hl 1 (by simp[EQ.tl])⟩
theorem EOM(K:Il W g T):W.cell? ⟨g,0,X⟩=Z (EU T.X_):=by unfold Il at K;rw[K.cell 0,OE];rfl
theorem ui(_:Il W g T)(h:T.ok):T.v.toArray.size=122:=by simp[EQ.v,EQ.hd,EQ.tl,Jm.XL h.s0.len,Jm.XL h.s1.len,Jm.XL h.s2.len]
theorem Il.V(K:Il W g T)(hb:El W w'):Il w' g T:=D.V K hb
def EQ.of(T:EQ)(g:Nat)(src:Int):Y:=
 if src=1\/src=2\/src=3 then(if(T.E4 (src-1).toNat).on then M (Z ⟨g,so (src-1).toNat,X⟩) else M X) else M X
theorem EON(g:Nat)(src:Int)(w:H)(h:src<1\/3<src): Ef Eb 76 #[M (Z ⟨g,0,X⟩),E I src] w fun e w'=>e=Eg (M X)/\w=w':=by
 by_cases h1:src<1;·have d1:decide (src<1)=EI:=IU h1;exact Epf
 ·have d1:decide (src<1)=B:=IJ h1;have d2:decide (3<src)=EI:=IU U;clear h;exact Epf
theorem EOP(g:Nat)(w:H)(c:w.cell? ⟨g,3,X⟩=Z (EU EI)): Ef Eb 76 #[M (Z ⟨g,0,X⟩),E I 1] w fun e w'=>e=Eg (M (Z ⟨g,3,X⟩))/\w=w':=by exact Epf
theorem EOQ(g:Nat)(w:H)(c:w.cell? ⟨g,3,X⟩=Z (EU B)): Ef Eb 76 #[M (Z ⟨g,0,X⟩),E I 1] w fun e w'=>e=Eg (M X)/\w=w':=by exact Epf
theorem EOR(g:Nat)(w:H)(c:w.cell? ⟨g,42,X⟩=Z (EU EI)): Ef Eb 76 #[M (Z ⟨g,0,X⟩),E I 2] w fun e w'=>e=Eg (M (Z ⟨g,42,X⟩))/\w=w':=by exact Epf
theorem EOS(g:Nat)(w:H)(c:w.cell? ⟨g,42,X⟩=Z (EU B)): Ef Eb 76 #[M (Z ⟨g,0,X⟩),E I 2] w fun e w'=>e=Eg (M X)/\w=w':=by exact Epf
theorem EOT(g:Nat)(w:H)(c:w.cell? ⟨g,81,X⟩=Z (EU EI)): Ef Eb 76 #[M (Z ⟨g,0,X⟩),E I 3] w fun e w'=>e=Eg (M (Z ⟨g,81,X⟩))/\w=w':=by exact Epf
theorem EOV(g:Nat)(w:H)(c:w.cell? ⟨g,81,X⟩=Z (EU B)): Ef Eb 76 #[M (Z ⟨g,0,X⟩),E I 3] w fun e w'=>e=Eg (M X)/\w=w':=by exact Epf
theorem uj(g:Nat)(T:EQ)(src:Int)(w:H)(K:Il w g T)(h:T.ok): Ef Eb 76 #[M (Z ⟨g,0,X⟩),E I src] w fun e w'=>e=Eg (T.of g src)/\w=w':=by
 unfold EQ.of;by_cases hs:src=1\/src=2\/src=3
 ·rw[if_pos hs];have c:=ug K h (src-1).toNat 0 U;rcases hs with rfl|rfl|rfl
  ·replace c:w.cell? ⟨g,3,X⟩=Z (EU (T.E4 0).on):=c;show Ef _ _ _ _ fun e w'=>e=Eg (if(T.E4 0).on then M (Z ⟨g,3,X⟩) else M X)/\w=w'
   cases hb:(T.E4 0).on with
   |true=>rw[hb] at c;exact EOP g w c
   |false=>rw[hb] at c;exact EOQ g w c
  ·replace c:w.cell? ⟨g,42,X⟩=Z (EU (T.E4 1).on):=c;show Ef _ _ _ _ fun e w'=>e=Eg (if(T.E4 1).on then M (Z ⟨g,42,X⟩) else M X)/\w=w'
   cases hb:(T.E4 1).on with
   |true=>rw[hb] at c;exact EOR g w c
   |false=>rw[hb] at c;exact EOS g w c
  ·replace c:w.cell? ⟨g,81,X⟩=Z (EU (T.E4 2).on):=c;show Ef _ _ _ _ fun e w'=>e=Eg (if(T.E4 2).on then M (Z ⟨g,81,X⟩) else M X)/\w=w'
   cases hb:(T.E4 2).on with
   |true=>rw[hb] at c;exact EOT g w c
   |false=>rw[hb] at c;exact EOV g w c
 ·rw[if_neg hs];exact EON g src w U
def EQ.UV(T:EQ)(src:Int):Bool:=if src=4 then EI else if src=0 then T.X_ else if src=1\/src=2\/src=3 then(T.E4 (src-1).toNat).on else B
def EQ.Zk(T:EQ)(src:Int):Int:=if src=1\/src=2\/src=3 then(if(T.E4 (src-1).toNat).on then(T.E4 (src-1).toNat).r else 0) else 0
def EQ.Iw(T:EQ):Int:=(if T.s0.on then 1 else 0)+(if T.s1.on then 1 else 0)+(if T.s2.on then 1 else 0)
theorem zA(T:EQ)(g:Nat)(src:Int):(T.of g src=M X/\(src≠4->src≠0->T.UV src=B)/\T.Zk src=0)\/(∃i:Nat,i<3/\src=(i:Int)+1/\(T.E4 i).on=EI/\T.of g src=M (Z ⟨g,so i,X⟩)/\T.UV src=EI/\T.Zk src=(T.E4 i).r):=by
 unfold EQ.of EQ.UV EQ.Zk;by_cases hs:src=1\/src=2\/src=3
 ·obtain⟨i,hi,e⟩: ∃i:Nat,i<3/\src=(i:Int)+1:=⟨(src-1).toNat,U,U⟩;have e2:(src-1).toNat=i:=U;simp only[if_pos hs,e2];rw[if_neg (show src≠4 from U),if_neg (show src≠0 from U)];cases hb:(T.E4 i).on with
  |true=>exact .inr ⟨i,hi,e,hb,O,O,O⟩
  |false=>exact .inl ⟨O,fun _ _=>rfl,O⟩
 ·simp only[if_neg hs];exact .inl ⟨trivial,fun h4 h0=>by rw[if_neg h4,if_neg h0],trivial⟩
theorem mG(g:Nat)(T:EQ)(src:Int)(w:H)(K:Il w g T)(h:T.ok): Ef Eb 55 #[M (Z ⟨g,0,X⟩),E I src] w fun e w'=>e=Eg (EU (T.UV src))/\w=w':=by
 by_cases h4:src=4
 ·subst h4;show Ef _ _ _ _ fun e w'=>e=Eg (EU EI)/\w=w'
  clear K h;go_enter Tryz.func55,Tryz.ntmps55;exact Eli
 by_cases h0:src=0
 ·subst h0;show Ef _ _ _ _ fun e w'=>e=Eg (EU T.X_)/\w=w'
  have c:=EOM K;generalize T.X_=b at*;clear K h h4;go_enter Tryz.func55,Tryz.ntmps55;exact Eli
 ·have e4:(src==4)=B:=beq_eq_false_iff_ne.2 h4;have e0:(src==0)=B:=beq_eq_false_iff_ne.2 h0;have CO:=J<|uj g T src w K h;rcases zA T g src with⟨e1,e2,-⟩|⟨i,hi,-,-,e1,e2,-⟩;·rw[e1] at CO;rw[e2 h4 h0];clear e1 e2 K h h4 h0;go_enter Tryz.func55,Tryz.ntmps55;go_wp2_with fail;refine(CO.out).mono ?_;rintro e w' ⟨rfl,rfl⟩;go_wp2_with fail;go_ret;exact⟨O,O⟩
  ·rw[e1] at CO;rw[e2];generalize so i=o at*;clear e1 e2 K h h4 h0;go_enter Tryz.func55,Tryz.ntmps55;exact Epk
theorem rC(g:Nat)(T:EQ)(src:Int)(w:H)(K:Il w g T)(h:T.ok): Ef Eb 56 #[M (Z ⟨g,0,X⟩),E I src] w fun e w'=>e=Eg (E I (T.Zk src))/\w=w':=by
 have CO:=J<|uj g T src w K h;rcases zA T g src with⟨e1,-,e2⟩|⟨i,hi,-,-,e1,-,e2⟩;·rw[e1] at CO;rw[e2];exact EpF
 ·rw[e1] at CO;rw[e2];have c:w.cell? ⟨g,so i+3,X⟩=Z (E I (T.E4 i).r):=ug K h i 3 U;generalize so i=o at*;generalize (T.E4 i).r=r at*;exact EpF
theorem EOW(g:Nat)(w:H)(c0:w.cell? ⟨g,3,X⟩=Z (EU EI))(c1:w.cell? ⟨g,42,X⟩=Z (EU EI))(c2:w.cell? ⟨g,81,X⟩=Z (EU EI)): Ef Eb 170 #[M (Z ⟨g,0,X⟩)] w fun e w'=>e=Eg (E I 3)/\w=w':=by exact Elf
theorem EOY(g:Nat)(w:H)(c0:w.cell? ⟨g,3,X⟩=Z (EU EI))(c1:w.cell? ⟨g,42,X⟩=Z (EU EI))(c2:w.cell? ⟨g,81,X⟩=Z (EU B)): Ef Eb 170 #[M (Z ⟨g,0,X⟩)] w fun e w'=>e=Eg (E I 2)/\w=w':=by exact Elf
theorem EO0(g:Nat)(w:H)(c0:w.cell? ⟨g,3,X⟩=Z (EU EI))(c1:w.cell? ⟨g,42,X⟩=Z (EU B))(c2:w.cell? ⟨g,81,X⟩=Z (EU EI)): Ef Eb 170 #[M (Z ⟨g,0,X⟩)] w fun e w'=>e=Eg (E I 2)/\w=w':=by exact Elf
theorem EO1(g:Nat)(w:H)(c0:w.cell? ⟨g,3,X⟩=Z (EU EI))(c1:w.cell? ⟨g,42,X⟩=Z (EU B))(c2:w.cell? ⟨g,81,X⟩=Z (EU B)): Ef Eb 170 #[M (Z ⟨g,0,X⟩)] w fun e w'=>e=Eg (E I 1)/\w=w':=by exact Elf
theorem EO2(g:Nat)(w:H)(c0:w.cell? ⟨g,3,X⟩=Z (EU B))(c1:w.cell? ⟨g,42,X⟩=Z (EU EI))(c2:w.cell? ⟨g,81,X⟩=Z (EU EI)): Ef Eb 170 #[M (Z ⟨g,0,X⟩)] w fun e w'=>e=Eg (E I 2)/\w=w':=by exact Elf
theorem EO3(g:Nat)(w:H)(c0:w.cell? ⟨g,3,X⟩=Z (EU B))(c1:w.cell? ⟨g,42,X⟩=Z (EU EI))(c2:w.cell? ⟨g,81,X⟩=Z (EU B)): Ef Eb 170 #[M (Z ⟨g,0,X⟩)] w fun e w'=>e=Eg (E I 1)/\w=w':=by exact Elf
theorem EO4(g:Nat)(w:H)(c0:w.cell? ⟨g,3,X⟩=Z (EU B))(c1:w.cell? ⟨g,42,X⟩=Z (EU B))(c2:w.cell? ⟨g,81,X⟩=Z (EU EI)): Ef Eb 170 #[M (Z ⟨g,0,X⟩)] w fun e w'=>e=Eg (E I 1)/\w=w':=by exact Elf
theorem EO5(g:Nat)(w:H)(c0:w.cell? ⟨g,3,X⟩=Z (EU B))(c1:w.cell? ⟨g,42,X⟩=Z (EU B))(c2:w.cell? ⟨g,81,X⟩=Z (EU B)): Ef Eb 170 #[M (Z ⟨g,0,X⟩)] w fun e w'=>e=Eg (E I 0)/\w=w':=by exact Elf
theorem GI(g:Nat)(T:EQ)(w:H)(K:Il w g T)(h:T.ok):Ef Eb 170 #[M (Z ⟨g,0,X⟩)] w fun e w'=>e=Eg (E I T.Iw)/\w=w':=by
 have c0:w.cell? ⟨g,3,X⟩=Z (EU T.s0.on):=ug K h 0 0 U;have c1:w.cell? ⟨g,42,X⟩=Z (EU T.s1.on):=ug K h 1 0 U;have c2:w.cell? ⟨g,81,X⟩=Z (EU T.s2.on):=ug K h 2 0 U;unfold EQ.Iw;cases h0:T.s0.on<;>cases h1:T.s1.on<;>cases h2:T.s2.on<;>rw[h0] at c0<;>rw[h1] at c1<;>rw[h2] at c2;·exact EO5 g w c0 c1 c2
 ·exact EO4 g w c0 c1 c2
 ·exact EO3 g w c0 c1 c2
 ·exact EO2 g w c0 c1 c2
 ·exact EO1 g w c0 c1 c2
 ·exact EO0 g w c0 c1 c2
 ·exact EOY g w c0 c1 c2
 ·exact EOW g w c0 c1 c2
theorem mH:IG Eb 160 39:=⟨⟨_,Tryz.underlying160,O⟩,Ed⟩
theorem Qb:Tryz.prog.built 160 []=Z Ub.v.toArray:=Ed
theorem mK(s:Jm):s.v.toArray.all (·.oneCell')=EI:=by
 refine all_oneCell_toArray fun v hv=> ?_;simp only[Jm.v,OH,XM,UJ,UA,or_false,dU] at hv;rcases hv with(rfl|rfl|rfl)|rfl|⟨x,-,rfl⟩|hv;·rfl
 ·rfl
 ·rfl
 ·rfl
 ·rfl
 ·rcases hw:s.win with _|⟨h,q⟩<;>rw[hw] at hv<;>simp only[O_,UJ,UA,or_false] at hv<;>rcases hv with rfl|rfl|rfl<;>rfl
theorem uk(K:Il W g T)(h:T.ok)(i:Nat)(s:Jm)(hs:s.key.length=32):Il (W.setCells g (so i) s.v) g (T.put i s):=by unfold Il at*;rw[T.rj i] at K;rw[T.tV i s];exact Zd s.v (T.E4 i).v (T.pre i) (so i) W K (by rw[Jm.XL hs,Jm.XL (h.E4 i).len]) (EQ.ou h i)
theorem GJ(i:Nat):so i<=81:=by unfold so;split<;>omega
def ul(T:EQ)(g:Nat)(src:Int)(w:H)(e:Uh)(w':H):Prop:=(if src=1\/src=2\/src=3 then(if(T.E4 (src-1).toNat).on then e=Eg (EU EI)/\Il w' g (T.put (src-1).toNat Ub) else e=Eg (EU B)/\Il w' g T) else e=Eg (EU B)/\Il w' g T)/\E3 g w w'
theorem EO6(g:Nat)(T:EQ)(src:Int)(w:H)(K:Il w g T)(h:T.ok):Ef Eb 176 #[M (Z ⟨g,0,X⟩),E I src] w (ul T g src w):=by
 have CO:=J<|uj g T src w K h;rcases zA T g src with⟨e1,e2,-⟩|⟨i,hi,es,hon,e1,-,-⟩
 ·have hf: ¬((src=1\/src=2\/src=3)/\(T.E4 (src-1).toNat).on=EI):=by rintro⟨hs,ho⟩;have:=e2 U U;unfold EQ.UV at this;rw[if_neg U,if_neg U,if_pos hs,ho] at this;cases this
  have hpost: ∀(e:Uh) (w':H),e=Eg (EU B)->w=w'->ul T g src w e w':=by
   intro e w' he hw;subst hw;refine⟨?_,E3.refl _ _⟩;by_cases hs:src=1\/src=2\/src=3;·rw[if_pos hs,if_neg (fun ho=>hf ⟨hs,ho⟩)];exact⟨he,K⟩
   ·rw[if_neg hs];exact⟨he,K⟩
  replace hpost:=J hpost;rw[e1] at CO;clear e1 e2 K h hf;go_enter Tryz.func176,Tryz.ntmps176;go_wp2_with fail;refine(CO.out).mono ?_;rintro e w' ⟨rfl,rfl⟩;go_wp2_with fail;go_ret;exact hpost.out _ _ O O
 ·have e2:(src-1).toNat=i:=U;have hs:src=1\/src=2\/src=3:=U;have hpost:Ec (∀(e:Uh) (w':H),e=Eg (EU EI)->Il w' g (T.put i Ub)->E3 g w w'->ul T g src w e w'):=J (by intro e w' he hk ho;refine⟨?_,ho⟩;rw[if_pos hs,e2,if_pos hon];exact⟨he,hk⟩);have K2:=J<|uk K h i Ub O;have ON:=J<|JG (g:=g) Ub.v (so i) w;have TH:Ec (w.there g (so i) 39):=J<|aZ K (by rw[ui K h];have:=GJ i;omega);have BZ:=J Qb;have SZ:=J<|show Ub.v.toArray.size=39 from Jm.XL O;have S1:=J<|mK Ub;rw[e1] at CO;generalize so i=o at*;clear e1 e2 K h hs hon es;obtain⟨sv,hsv⟩:=En Ub.v;rw[<-hsv] at K2 ON BZ SZ S1;clear hsv;go_enter Tryz.func176,Tryz.ntmps176;go_wp2_with fail;refine(CO.out).mono ?_;rintro e w' ⟨rfl,rfl⟩;go_wp2_with (first|((with_reducible refine It 12 ?_);refine I3 rfl 160 _ rfl sv.toArray BZ.out ?_)|((with_reducible refine JB 160 ?_);(with_reducible refine Ui rfl 160 _ _ rfl g o sv.toArray ?_ ?_ ?_ ?_ ?_ ?_);(·rfl);(·rfl);(·rw[SZ.out];exact TH.out);(·rw[SZ.out];exact mH.2);(·exact S1.out)));go_ret;exact hpost.out _ _ O K2.out ON.out
theorem EO7(g:Nat)(T:EQ)(w:H)(K:Il w g T)(h:T.ok): Ef Eb 91 #[M (Z ⟨g,0,X⟩)] w fun e w'=>e=Eg (Et #[])/\Il w' g {T with X_:=true,sa:=0,sm:=max T.In 0}/\E3 g w w':=by
 have c0: ∀y:Ext w,(EC w y).cell? ⟨g,120,X⟩=Z (E I T.In):=fun y=>(uh (K.V (EN y)) h).1;have KK:Ec (D w g ([]++([EU T.X_,E I T.sa,E I T.sm]++(T.s0.v++(T.s1.v++(T.s2.v++T.tl))))).toArray 163):=J K;have CH:=J<|fun W (k:D W g ([]++([EU T.X_,E I T.sa,E I T.sm]++(T.s0.v++(T.s1.v++(T.s2.v++T.tl))))).toArray 163)=>tW g 0 [] _ _ _ _ 163 T.In W k O;have HP:Ec (∀w',D w' g ([]++(OH EI 0 (max T.In 0)++(T.s0.v++(T.s1.v++(T.s2.v++T.tl))))).toArray 163->Il w' g {T with X_:=true,sa:=0,sm:=max T.In 0}):=J fun w' k=>k;generalize T.In=In at*;clear K h;go_enter Tryz.func91,Tryz.ntmps91;refine J_ 7 Ed Ed ?_;simp only[Iq,Io,IP,IH]
 repeat (first
  |go_big_quiet_skip
  |(go_big_quiet_want
    first
     |(go_big_quiet_op
       first
        |go_big_quiet_on
        |go_big_quiet_call ((fail)))))
 refine I1 ?_;intro _ hw';obtain⟨y9,rfl⟩:=hw';have Em:=EN y9;replace KK:=J<|KK.out.V Em;clear c0;generalize EC w y9=w1 at*;go_wp2_with fail;refine(CH.out _ KK.out).mono ?_;rintro e w2 ⟨rfl,k2,o2⟩;go_wp2_with fail;go_end0;exact⟨O,HP.out _ k2,(E3.EA Em).trans o2⟩
def rr(x:Int)(n:Nat):Int:=Iu .or .u32 (IntKind.u32.wrap (x*2^(32-n))) (x/2^n)
def Qc(x:Int):Int:=Iu .xor .u32 (Iu .xor .u32 (rr x 7) (rr x 18)) (x/2^3)
def Qd(y:Int):Int:=Iu .xor .u32 (Iu .xor .u32 (rr y 17) (rr y 19)) (y/2^10)
def S1(y:Int):Int:=Iu .xor .u32 (Iu .xor .u32 (rr y 6) (rr y 11)) (rr y 25)
def S0(x:Int):Int:=Iu .xor .u32 (Iu .xor .u32 (rr x 2) (rr x 13)) (rr x 22)
def cho(y f g:Int):Int:=Iu .or .u32 (Iu .and .u32 y f) (Iu .and .u32 (Iu .xor .u32 4294967295 y) g)
def maj(x b c:Int):Int:=Iu .or .u32 (Iu .or .u32 (Iu .and .u32 x b) (Iu .and .u32 x c)) (Iu .and .u32 b c)
def GU(a b c d:Int):Int:=Iu .or .u32 (Iu .or .u32 (Iu .or .u32 (IntKind.u32.wrap (a*2^24)) (IntKind.u32.wrap (b*2^16))) (IntKind.u32.wrap (c*2^8))) d
def rD(l:List Int)(i:Nat):Int:=GU (l.getD (4*i) 0) (l.getD (4*i+1) 0) (l.getD (4*i+2) 0) (l.getD (4*i+3) 0)
def nxt(p q x y:Int):Int:=(p+q+Qc x+Qd y)%4294967296
def oM(l:List Int)(i:Nat):Int:=nxt (l.getD (i-16) 0) (l.getD (i-7) 0) (l.getD (i-15) 0) (l.getD (i-2) 0)
def sched(b:List Int):Nat->List Int
 |0=>[]
 |i+1=>sched b i++[if i<16 then rD b i else oM (sched b i) i]
structure St where
 (a b c d e f g h:Int)
def St.cells(s:St):Array Y:= #[E Oh s.a,E Oh s.b,E Oh s.c,E Oh s.d,E Oh s.e,E Oh s.f,E Oh s.g,E Oh s.h]
def St.list(s:St):List Int:=[s.a,s.b,s.c,s.d,s.e,s.f,s.g,s.h]
def Qf(k w e f g h:Int):Int:=h+S1 e+cho e f g+k+w
def EUE(a b c:Int):Int:=S0 a+maj a b c
def GX(k w:Int)(s:St):St:=
 ⟨(Qf k w s.e s.f s.g s.h+EUE s.a s.b s.c)%4294967296,s.a,s.b,s.c,(s.d+Qf k w s.e s.f s.g s.h)%4294967296,s.e,s.f,s.g⟩
def oN(ks ws:List Int)(s:St):Nat->St
 |0=>s
 |i+1=>GX (ks.getD i 0) (ws.getD i 0) (oN ks ws s i)
def fP(n h:St):St:=
 ⟨(n.a+h.a)%4294967296,(n.b+h.b)%4294967296,(n.c+h.c)%4294967296,(n.d+h.d)%4294967296,(n.e+h.e)%4294967296,(n.f+h.f)%4294967296,(n.g+h.g)%4294967296,(n.h+h.h)%4294967296⟩
theorem EUI(n h:St)(i:Nat)(hi:i<8):(fP n h).list.getD i 0=(n.list.getD i 0+h.list.getD i 0)%4294967296:=by rcases(show i=0\/i=1\/i=2\/i=3\/i=4\/i=5\/i=6\/i=7 from U) with rfl|rfl|rfl|rfl|rfl|rfl|rfl|rfl<;>rfl
def ki:List Int:=[
 0x428a2f98,0x71374491,0xb5c0fbcf,0xe9b5dba5,0x3956c25b,0x59f111f1,0x923f82a4,0xab1c5ed5,
 0xd807aa98,0x12835b01,0x243185be,0x550c7dc3,0x72be5d74,0x80deb1fe,0x9bdc06a7,0xc19bf174,
 0xe49b69c1,0xefbe4786,0x0fc19dc6,0x240ca1cc,0x2de92c6f,0x4a7484aa,0x5cb0a9dc,0x76f988da,
 0x983e5152,0xa831c66d,0xb00327c8,0xbf597fc7,0xc6e00bf3,0xd5a79147,0x06ca6351,0x14292967,
 0x27b70a85,0x2e1b2138,0x4d2c6dfc,0x53380d13,0x650a7354,0x766a0abb,0x81c2c92e,0x92722c85,
 0xa2bfe8a1,0xa81a664b,0xc24b8b70,0xc76c51a3,0xd192e819,0xd6990624,0xf40e3585,0x106aa070,
 0x19a4c116,0x1e376c08,0x2748774c,0x34b0bcb5,0x391c0cb3,0x4ed8aa4a,0x5b9cca4f,0x682e6ff3,
 0x748f82ee,0x78a5636f,0x84c87814,0x8cc70208,0x90befffa,0xa4506ceb,0xbef9a3f7,0xc67178f2]
def kj:St:=⟨0x6a09e667,0xbb67ae85,0x3c6ef372,0xa54ff53a,0x510e527f,0x9b05688c,0x1f83d9ab,0x5be0cd19⟩
def kn(h:St)(b:List Int):St:=fP (oN ki (sched b 64) h 64) h
def mM(p:List Int):Nat->St
 |0=>kj
 |i+1=>kn (mM p i) ((p.drop (64*i)).take 64)
def Zl(s:St):List Int:=be s.a 4++be s.b 4++be s.c 4++be s.d 4++be s.e 4++be s.f 4++be s.g 4++be s.h 4
def XJ(n:Nat):Nat:=(n+72)/64*64
def ku(xs:List Int):List Int:=xs++128::(dT (XJ xs.length-xs.length-9) 0++be ((xs.length:Int)*8) 8)
def Qg(xs:List Int):St:=mM (ku xs) (XJ xs.length/64)
def Xo(xs:List Int):List Int:=Zl (Qg xs)
theorem um(n:Nat):n+9<=XJ n:=by unfold XJ;omega
theorem Qh(n:Nat):64*(XJ n/64)=XJ n:=by unfold XJ;omega
theorem EUJ(xs:List Int):(ku xs).length=XJ xs.length:=by have:=um xs.length;simp only[ku,IY,ZC,List.length_replicate,O0];omega
theorem EUO(xs:List Int)(h: ∀x∈xs,0<=x/\x<=255): ∀x∈ku xs,0<=x/\x<=255:=by
 intro x hx;simp only[ku,XM,UJ,List.mem_replicate] at hx;rcases hx with hx|rfl|⟨_,rfl⟩|hx;·exact h x hx
 ·omega
 ·omega
 ·exact ub _ _ x hx
theorem rF(s:St):(Zl s).length=32:=by simp[Zl,O0]
theorem EUU(s:St): ∀x∈Zl s,0<=x/\x<=255:=by intro x hx;simp only[Zl,XM] at hx;rcases hx with((((((h|h)|h)|h)|h)|h)|h)|h<;>exact ub _ _ x h
theorem kw(xs:List Int):(Xo xs).length=32:=rF _
theorem rG(xs:List Int): ∀x∈Xo xs,0<=x/\x<=255:=EUU _
theorem zB(b:List Int)(i:Nat):(sched b i).length=i:=by
 induction i with
 |zero=>rfl
 |succ i ih=>simp[sched,ih]
theorem EUX(b:List Int)(i j:Nat)(h:i<=j):(sched b j).take i=sched b i:=by
 induction j with
 |zero=> obtain rfl:i=0:=U;rfl
 |succ j ih=>
  rcases JY j i with h1|h1;·obtain rfl:i=j+1:=U;rw[OY (by rw[zB];omega)]
  ·rw[sched,List.take_append_of_le_length (by rw[zB];omega),ih h1]
theorem un(b:List Int)(i j k:Nat)(h:k<i)(hj:i<=j):(sched b j).getD k 0=(sched b i).getD k 0:=by rw[<-EUX b i j hj];simp only[Uq];rw[bj h]
theorem EUZ(b:List Int)(i j:Nat)(h:i<j):(sched b j).getD i 0=if i<16 then rD b i else oM (sched b j) i:=by
 rw[un b (i+1) j i U U,sched];have e:(sched b i++[if i<16 then rD b i else oM (sched b i) i]).getD i 0=if i<16 then rD b i else oM (sched b i) i:=by simp[Uq,zB]
 rw[e];split;·rfl
 ·unfold oM;rw[un b i j _ U U,un b i j _ U U,un b i j _ U U,un b i j _ U U]
theorem EUa(x:Int)(w:H):Ef Eb 156 #[E Oh x,E I 2] w fun e w'=>e=Eg (E Oh (rr x 2))/\w=w':=by have h:Iu kx Im (IntKind.u64.wrap (-2)) 31=30:=Ea;exact Eph
theorem EUb(x:Int)(w:H):Ef Eb 156 #[E Oh x,E I 6] w fun e w'=>e=Eg (E Oh (rr x 6))/\w=w':=by have h:Iu kx Im (IntKind.u64.wrap (-6)) 31=26:=Ea;exact Eph
theorem Qi(x:Int)(w:H):Ef Eb 156 #[E Oh x,E I 7] w fun e w'=>e=Eg (E Oh (rr x 7))/\w=w':=by have h:Iu kx Im (IntKind.u64.wrap (-7)) 31=25:=Ea;exact Eph
theorem EUc(x:Int)(w:H):Ef Eb 156 #[E Oh x,E I 11] w fun e w'=>e=Eg (E Oh (rr x 11))/\w=w':=by have h:Iu kx Im (IntKind.u64.wrap (-11)) 31=21:=Ea;exact Eph
theorem EUd(x:Int)(w:H):Ef Eb 156 #[E Oh x,E I 13] w fun e w'=>e=Eg (E Oh (rr x 13))/\w=w':=by have h:Iu kx Im (IntKind.u64.wrap (-13)) 31=19:=Ea;exact Eph
theorem Qj(x:Int)(w:H):Ef Eb 156 #[E Oh x,E I 17] w fun e w'=>e=Eg (E Oh (rr x 17))/\w=w':=by have h:Iu kx Im (IntKind.u64.wrap (-17)) 31=15:=Ea;exact Eph
theorem Qk(x:Int)(w:H):Ef Eb 156 #[E Oh x,E I 18] w fun e w'=>e=Eg (E Oh (rr x 18))/\w=w':=by have h:Iu kx Im (IntKind.u64.wrap (-18)) 31=14:=Ea;exact Eph
theorem Ql(x:Int)(w:H):Ef Eb 156 #[E Oh x,E I 19] w fun e w'=>e=Eg (E Oh (rr x 19))/\w=w':=by have h:Iu kx Im (IntKind.u64.wrap (-19)) 31=13:=Ea;exact Eph
theorem EUf(x:Int)(w:H):Ef Eb 156 #[E Oh x,E I 22] w fun e w'=>e=Eg (E Oh (rr x 22))/\w=w':=by have h:Iu kx Im (IntKind.u64.wrap (-22)) 31=10:=Ea;exact Eph
theorem EUg(x:Int)(w:H):Ef Eb 156 #[E Oh x,E I 25] w fun e w'=>e=Eg (E Oh (rr x 25))/\w=w':=by have h:Iu kx Im (IntKind.u64.wrap (-25)) 31=7:=Ea;exact Eph
theorem Qm(x n:Int)(w:H)(hn:n=2\/n=6\/n=7\/n=11\/n=13\/n=17\/n=18\/n=19\/n=22\/n=25): Ef Eb 156 #[E Oh x,E I n] w fun e w'=>e=Eg (E Oh (rr x n.toNat))/\w=w':=by
 rcases hn with rfl|rfl|rfl|rfl|rfl|rfl|rfl|rfl|rfl|rfl;·exact EUa x w
 ·exact EUb x w
 ·exact Qi x w
 ·exact EUc x w
 ·exact EUd x w
 ·exact Qj x w
 ·exact Qk x w
 ·exact Ql x w
 ·exact EUf x w
 ·exact EUg x w
theorem oP(n:Int)(h0:0<=n)(h1:n<=4294967295):IntKind.u32.wrap n=n:=by rw[IntKind.wrap_u32'];omega
theorem EUh(h: ∀x∈l,0<=x/\x<=255)(k:Nat):0<=l.getD k 0/\l.getD k 0<=255:=by
 rcases JY k l.length with hk|hk
 ·have e:l.getD k 0=l[k]:=by simp[hk]
  rw[e];exact h _ (gY _)
 ·have e:l.getD k 0=0:=by simp[hk]
  rw[e];omega
theorem EUi{a b c d:Int}(a0:0<=a)(a1:a<=255)(b0:0<=b)(b1:b<=255)(c0:0<=c)(c1:c<=255): GU a b c d=Iu .or .u32 (Iu .or .u32 (Iu .or .u32 (a*16777216) (b*65536)) (c*256)) d:=by unfold GU;rw[show(2:Int)^24=16777216 from Ea,show(2:Int)^16=65536 from Ea,show(2:Int)^8=256 from Ea,oP (a*16777216) U U,oP (b*65536) U U,oP (c*256) U U]
theorem zC:Oq Eb 211 (Jw (Ep 8)):=by intro ev o w ho;unfold If;simp only[ho];simp[go_sem];exact congrArg (fun c=>w.alloc (EJ c 211)) Ed
theorem Qn:Oq Eb 250 (Jw (Ep 64)):=by intro ev o w ho;unfold If;simp only[ho];simp[go_sem];exact congrArg (fun c=>w.alloc (EJ c 250)) Ed
theorem fR:IG Eb 211 8:=⟨⟨_,Tryz.underlying211,O⟩,Ed⟩
theorem zD:IG Eb 250 64:=⟨⟨_,Tryz.underlying250,O⟩,Ed⟩
theorem oQ:IG Eb 214 64:=⟨⟨_,Tryz.underlying214,O⟩,Ed⟩
def GZ(b sl:List Int):Prop:=sl.length=64/\ ∀i,i<64->sl.getD i 0=if i<16 then rD b i else oM sl i
theorem EUj(b sl:List Int)(hl:b.length=64)(hb: ∀x∈b,0<=x/\x<=255)(hs:GZ b sl)(w:H): Ef Eb 155 #[EZ (Ej b)] w fun e w'=>e=Eg (EZ (Jw sl))/\El w w':=by
 have HL:=J hl;have HB:=J hb;have HS:=J hs;clear hl hb hs;go_enter Tryz.func155,Tryz.ntmps155;go_wp2_with (with_reducible refine wA Qn ?_);go_loopw[10] (fun y wr=> ∃i:Nat,i<=16/\y=E I i/\D wr w.heap.size (Ej b) 214/\D wr (w.heap.size+1) (Jw (Ep 64)) 250/\D wr (w.heap.size+1+1) (Jw (part sl i)) 250/\El w wr) (fun y _=>16-(Ir y).toNat)
 case atStart=>
  refine⟨0,U,O,((D.new w _ _).alloc _).alloc _,?_,?_,Z_ w _ _ _⟩;·exact(D.new' _ _ _ (by simp[N5])).alloc _
  ·rw[N7,HS.out.1];exact D.new' _ _ _ (by simp[N5])
 case round=>
  obtain⟨i,hi,rfl,K1,K2,K3,hB⟩:=hrel;by_cases hlt:i<16
  ·have c0:=K1.cell (4*i);have c1:=K1.cell (4*i+1);have c2:=K1.cell (4*i+2);have c3:=K1.cell (4*i+3);rw[j8 _ _ Ga] at c0 c1 c2 c3;have uo: ∀k,0<=b.getD k 0/\b.getD k 0<=255:=fun k=>EUh HB.out k;have WD:=HS.out.2 i U;rw[if_pos hlt] at WD;unfold rD at WD;have b0:=uo (4*i);have b1:=uo (4*i+1);have b2:=uo (4*i+2);have b3:=uo (4*i+3);clear uo;generalize b.getD (4*i) 0=x0 at*;generalize b.getD (4*i+1) 0=x1 at*;generalize b.getD (4*i+2) 0=x2 at*;generalize b.getD (4*i+3) 0=x3 at*;have v0:IntKind.u32.wrap x0=x0:=oP _ U U;have v1:IntKind.u32.wrap x1=x1:=oP _ U U;have v2:IntKind.u32.wrap x2=x2:=oP _ U U;have v3:IntKind.u32.wrap x3=x3:=oP _ U U;have cw:=K3.cell i;have fw:=K3.JX i;rw[tR _ _ (by rw[yC _ _ Gb,HS.out.1];omega)] at cw;replace WD:=J WD;replace K1:=J K1;replace K2:=J K2;replace K3:=J K3;replace hB:=J hB;go_wp2_with fail;refine tQ 31 Ed Ed ?_;simp only[Iq,Io,IP,IH];repeat (go_big_quiet_step (fail))
   refine I1 ?_;intro _ hw';obtain⟨nq,rfl⟩:=hw';go_wp2_with fail;have e:Iu .or .u32 (Iu .or .u32 (Iu .or .u32 (x0*16777216) (x1*65536)) (x2*256)) x3=sl.getD i 0:=by rw[WD.out];exact(EUi b0.1 b0.2 b1.1 b1.2 b2.1 b2.2).symm
   rw[e];have hl2:=HS.out.1;refine⟨⟨i+1,U,Eh,(K1.out.drewN nq).other _ _ _ U,(K2.out.drewN nq).other _ _ _ U,?_,(gP hB.out nq).setCell Ji _⟩,JM⟩;have h:=(K3.out.drewN nq).set i (E Oh (sl.getD i 0));rw[Fm,Fo _ _ U] at h;exact h
  ·obtain rfl:i=16:=U;rw[show((16:Nat):Int)=16 from rfl];replace K1:=J K1;replace K2:=J K2;replace K3:=J K3;replace hB:=J hB;go_wp2_with fail;go_loopw[5] (fun y wx=> ∃i:Nat,16<=i/\i<=64/\y=E I i/\D wx (w.heap.size+1) (Jw (Ep 64)) 250/\D wx (w.heap.size+1+1) (Jw (part sl i)) 250/\El w wx) (fun y _=>64-(Ir y).toNat);case atStart=>exact⟨16,U,U,O,K2.out,K3.out,hB.out⟩
   case round=>
    obtain⟨i,hi0,hi,rfl,K2,K3,hB⟩:=hrel;by_cases hlt:i<64
    ·have hl2:=HS.out.1;have lp:(part sl i).length=64:=by rw[yC _ _ U,hl2]
     have c0:=K3.cell (i-16);have c1:=K3.cell (i-7);have c2:=K3.cell (i-15);have c3:=K3.cell (i-2);have cw:=K3.cell i;have fw:=K3.JX i;rw[tR _ _ U] at c0 c1 c2 c3 cw;rw[EI8 _ _ _ U U] at c0 c1 c2 c3;have WD:=HS.out.2 i hlt;rw[if_neg U] at WD;unfold oM at WD;generalize sl.getD (i-16) 0=x0 at*;generalize sl.getD (i-7) 0=x1 at*;generalize sl.getD (i-15) 0=x2 at*;generalize sl.getD (i-2) 0=x3 at*;replace WD:=J WD;replace K2:=J K2;replace K3:=J K3;replace hB:=J hB;replace hl2:=J hl2;clear lp;go_wp2_with fail;go_quiet (fail);go_wp2_with fail;(with_reducible refine(Qi _ _).mono ?_);rintro e w' ⟨rfl,rfl⟩;go_wp2_with fail;(with_reducible refine(Qk _ _).mono ?_);rintro e w' ⟨rfl,rfl⟩;go_wp2_with fail;(with_reducible refine(Qj _ _).mono ?_);rintro e w' ⟨rfl,rfl⟩;go_wp2_with fail;(with_reducible refine(Ql _ _).mono ?_);rintro e w' ⟨rfl,rfl⟩;go_wp2_with fail;refine tQ 15 Ed Ed ?_;simp only[Iq,Io,IP,IH];repeat (go_big_quiet_step (fail))
     refine I1 ?_;intro _ hw';obtain⟨nq2,rfl⟩:=hw';go_wp2_with fail;have hl2:=hl2.out;have e:(x0+x1+Qc x2+Qd x3)%4294967296=sl.getD i 0:=by rw[WD.out];rfl
     refine⟨⟨i+1,U,U,Eh,(K2.out.drewN _).other _ _ _ U,?_,(gP hB.out _).setCell Ji _⟩,JM⟩;have h:=(K3.out.drewN (nq+nq2)).set i (E Oh (sl.getD i 0));rw[Fm,Fo _ _ U,<-e] at h;exact h
    ·obtain rfl:i=64:=U;rw[N8 _ _ Gb] at K3;replace K2:=J K2;replace K3:=J K3;replace hB:=J hB
     go_wp2_with (first
      |(with_reducible refine wL zD K3 ?_ (hn:=Gc))
      |(with_reducible refine wS (cs:=Jw sl) zD K2 ?_ (ho:=rH) (hn:=Gc) (h1:=N6 _)))
     refine EV (v:=EZ (Jw sl)) (Jj zD O _ _ (w.heap.size+1) _ O (K2.out.setRow _) (by rw[Fl,HS.out.1])) O ⟨O,E2 hB.out U _⟩
def Jt(w:H):Prop:= ∀i:Nat,i<64->w.cell? ⟨0,i,X⟩=Z (E Oh (ki.getD i 0))
theorem Jt.V(h:Jt w)(hb:El w w'):Jt w':=fun i hi=>by rw[hb.cell (Xv _ _ (h i hi))];exact h i hi
theorem Jt.drewN(h:Jt w)(n:Nat):Jt (w.drewN n):=h
theorem Jt.lt(h:Jt w):0<w.heap.size:=Xv _ _ (h 0 U)
theorem Jt.setRow(h:Jt w)(g:Nat)(cs:Array Y)(hg:0≠g):Jt (w.setRow g cs):=fun i hi=>by rw[cell_setRow_other _ _ _ _ hg];exact h i hi
theorem St.fE(s:St):s.cells.size=8:=rfl
theorem St.rK(s:St):s.cells.all (·.oneCell')=EI:=by simp[St.cells,OF]
theorem EUl(h0 r:St)(b sl:List Int)(hl:b.length=64)(hb: ∀x∈b,0<=x/\x<=255)(hs:GZ b sl)(hr:oN ki sl h0 64=r)(w:H)(hR:Jt w): Ef Eb 114 #[EZ h0.cells,EZ (Ej b)] w fun e w'=>e=Eg (EZ (fP r h0).cells)/\El w w':=by
 have HL:=J hl;have HB:=J hb;have HS:=J hs;have HR:=J hr;have RT:=J hR;have rl:=hR.lt;clear hl hb hs hr hR;go_enter Tryz.func114,Tryz.ntmps114;go_wp2_with (with_reducible refine wA zC (Ev.mk ?_));apply Eo;have KH:=J<|((D.new w h0.cells 211).alloc (EJ (Ej b) 214)).alloc (EJ (Jw (Ep 8)) 211);have KB:=J<|(D.new' (w.alloc (EJ h0.cells 211)) (Ej b) 214 (g:=w.heap.size+1) Eh).alloc (EJ (Jw (Ep 8)) 211);have KR:=J<|D.new' ((w.alloc (EJ h0.cells 211)).alloc (EJ (Ej b) 214)) (Jw (Ep 8)) 211 (g:=w.heap.size+1+1) Eh;have u:=J<|Z_ w (EJ h0.cells 211) (EJ (Ej b) 214) (EJ (Jw (Ep 8)) 211);generalize ((w.alloc (EJ h0.cells 211)).alloc (EJ (Ej b) 214)).alloc (EJ (Jw (Ep 8)) 211)=w3 at*;replace RT:=J<|RT.out.V u.out;go_wp2_with (with_reducible refine wL oQ KB ?_ (hn:=Qo));refine(EUj b sl HL.out HB.out HS.out _).mono ?_;rintro e w4 ⟨rfl,b4⟩;replace KH:=J<|KH.out.V b4;replace KR:=J<|KR.out.V b4;replace RT:=J<|RT.out.V b4;replace u:=ET u b4;clear b4 KB;have l4:=KR.out.lt;go_wp2_with (with_reducible refine wA Qn (Ev.mk ?_));apply Eo;have bel:=Er w4 (EJ (Jw (Ep 64)) 250);replace KH:=J<|KH.out.V bel;replace KR:=J<|KR.out.V bel;replace RT:=J<|RT.out.V bel;replace u:=ET u bel;have KW:=J<|D.new w4 (Jw (Ep 64)) 250;clear bel;generalize w4.alloc (EJ (Jw (Ep 64)) 250)=w5 at*;go_wp2_with (with_reducible refine wS (cs:=Jw sl) zD KW (Ev.mk ?_) (ho:=rH) (hn:=Gc) (h1:=N6 _));apply Eo;replace KH:=J<|KH.out.setRow_other w4.heap.size (Jw sl) U;replace KR:=J<|KR.out.setRow_other w4.heap.size (Jw sl) U;replace RT:=J<|RT.out.setRow w4.heap.size (Jw sl) U;replace KW:=J<|KW.out.setRow (Jw sl);replace u:=J<|E2 (g:=w4.heap.size) u.out U (Jw sl);generalize w5.setRow w4.heap.size (Jw sl)=w6 at*;go_wp2_with (with_reducible first|refine wL fR KH ?_ (hn:=St.fE _)|refine wA zC (Ev.mk ?_));apply Eo;have l6:=KW.out.lt;have bel:=Er w6 (EJ (Jw (Ep 8)) 211);replace KH:=J<|KH.out.V bel;replace KR:=J<|KR.out.V bel;replace KW:=J<|KW.out.V bel;replace RT:=J<|RT.out.V bel;replace u:=ET u bel;have KN:=J<|D.new w6 (Jw (Ep 8)) 211;clear bel;generalize w6.alloc (EJ (Jw (Ep 8)) 211)=w7 at*;go_wp2_with (with_reducible refine wS (cs:=h0.cells) fR KN (Ev.mk ?_) (ho:=rH) (hn:=St.fE _) (h1:=St.rK _));apply Eo;replace KH:=J<|KH.out.setRow_other w6.heap.size h0.cells U;replace KR:=J<|KR.out.setRow_other w6.heap.size h0.cells U;replace KW:=J<|KW.out.setRow_other w6.heap.size h0.cells U;replace RT:=J<|RT.out.setRow w6.heap.size h0.cells U;replace KN:=J<|KN.out.setRow h0.cells;replace u:=J<|E2 (g:=w6.heap.size) u.out U h0.cells;generalize w7.setRow w6.heap.size h0.cells=w8 at*;go_wp2_with fail;go_loopw[17] (fun y wr=> ∃i:Nat,i<=64/\y=E I i/\D wr w6.heap.size (oN ki sl h0 i).cells 211/\D wr w4.heap.size (Jw sl) 250/\D wr w.heap.size h0.cells 211/\D wr (w.heap.size+1+1) (Jw (Ep 8)) 211/\Jt wr/\El w wr) (fun y _=>64-(Ir y).toNat);case atStart=>exact⟨0,U,O,KN.out,KW.out,KH.out,KR.out,RT.out,u.out⟩
 case round=>
  clear KN KW KH KR RT u;obtain⟨i,hi,rfl,KN,KW,KH,KR,RT,u⟩:=hrel;by_cases hlt:i<64;·have STEP:oN ki sl h0 (i+1)=GX (ki.getD i 0) (sl.getD i 0) (oN ki sl h0 i):=rfl;have cr:=RT i hlt;have cw:=KW.cell i;rw[tR _ _ Gb] at cw;generalize hq:oN ki sl h0 i=q at*;generalize ki.getD i 0=k at*;generalize sl.getD i 0=x at*;replace STEP:=J STEP;obtain⟨qa,qb,qc,qd,qe,qf,qg,qh⟩:=q;clear hq;have cn:=fun j=>KN.cell j;simp only[St.cells] at cn;replace KN:=J KN;replace KW:=J KW;replace KH:=J KH;replace KR:=J KR;replace RT:=J RT;replace u:=J u;go_wp2_with fail;go_quiet (fail);revert nq;intro n1;go_wp2_with fail;go_quiet (((with_reducible refine(Qm _ _ _ ?_).mono ?_);(·decide);(rintro e w2 ⟨rfl,rfl⟩;exact⟨O,_,O⟩)));revert nq;intro n2;go_wp2_with fail;go_quiet (((with_reducible refine(Qm _ _ _ ?_).mono ?_);(·decide);(rintro e w2 ⟨rfl,rfl⟩;exact⟨O,_,O⟩)));revert nq;intro n3;have Qp:=J<|KN.out.drewN (n1+n2+n3);go_wp2_with (with_reducible refine wS (cs:=(GX k x ⟨qa,qb,qc,qd,qe,qf,qg,qh⟩).cells) fR Qp (Ev.mk ?_) (ho:=St.fE _) (hn:=St.fE _) (h1:=St.rK _));apply Eo;go_wp2_with fail;rename_i hsg;refine⟨⟨i+1,U,Eh,?_,(KW.out.drewN _).setRow_other _ _ U,(KH.out.drewN _).setRow_other _ _ U,(KR.out.drewN _).setRow_other _ _ U,(RT.out.drewN _).setRow _ _ U,E2 (gP u.out _) U _⟩,JM⟩;rw[STEP.out];exact Qp.out.setRow _
  ·obtain rfl:i=64:=U;rw[show((64:Nat):Int)=64 from rfl];rw[HR.out] at KN;replace KN:=J KN;replace KW:=J KW;replace KH:=J KH;replace KR:=J KR;replace RT:=J RT;replace u:=J u;go_wp2_with fail;go_loopw[100] (fun y wx=> ∃i:Nat,i<=8/\y=E I i/\D wx w6.heap.size (Jw (dO (fP r h0).list r.list i)) 211/\D wx w.heap.size h0.cells 211/\D wx (w.heap.size+1+1) (Jw (Ep 8)) 211/\El w wx) (fun y _=>8-(Ir y).toNat);case atStart=>exact⟨0,U,rfl,by rw[N9];exact KN.out,KH.out,KR.out,u.out⟩
   case round=>
    clear KN KW KH KR RT u;obtain⟨i,hi,rfl,KN,KH,KR,u⟩:=hrel;by_cases hlt:i<8
    ·have c0:=KN.cell i;have c1:=KH.cell i;have f0:=KN.JX i;rw[tR _ _ (by rw[Fp (fP r h0).list r.list i rfl hi];exact hlt),EI9 (fP r h0).list r.list i i rfl (E7 _) hlt] at c0;rw[show h0.cells=Jw h0.list from rfl,tR _ _ (by exact hlt)] at c1;have AD:=EUI r h0 i hlt;generalize r.list.getD i 0=x0 at*;generalize h0.list.getD i 0=x1 at*;replace AD:=J AD;replace KN:=J KN;replace KH:=J KH;replace KR:=J KR;replace u:=J u;go_wp2_with fail;refine tQ 8 Ed Ed ?_;simp only[Iq,Io,IP,IH];repeat (go_big_quiet_step (fail))
     refine I1 ?_;intro _ hw';obtain⟨nq,rfl⟩:=hw';go_wp2_with fail;refine⟨⟨i+1,U,Eh,?_,(KH.out.drewN _).other _ _ _ U,(KR.out.drewN _).other _ _ _ U,(gP u.out _).setCell Ji _⟩,JM⟩;have hh:=(KN.out.drewN nq).set i (E Oh ((fP r h0).list.getD i 0));rw[Fm,tS (fP r h0).list r.list i rfl hlt,AD.out] at hh;exact hh
    ·obtain rfl:i=8:=U;rw[show((8:Nat):Int)=8 from rfl];rw[N_ (fP r h0).list r.list 8 (E7 8) (E7 8)] at KN;replace KN:=J<|show D wr w6.heap.size (fP r h0).cells 211 from KN;replace KR:=J KR;replace u:=J u;go_wp2_with (with_reducible first|refine wL fR KN ?_ (hn:=St.fE _)|refine wS (cs:=(fP r h0).cells) fR KR ?_ (ho:=rH) (hn:=St.fE _) (h1:=St.rK _));refine EV (v:=EZ (fP r h0).cells) (Jj fR rfl _ _ (w.heap.size+1+1) _ rfl (KR.out.setRow _) (St.fE _)) rfl ⟨rfl,E2 u.out U _⟩
theorem EUm(w:H):Ef Eb 112 #[] w fun e w'=>e=Eg (EZ kj.cells)/\El w w':=by go_enter Tryz.func112,Tryz.ntmps112;go_wp2_with (with_reducible refine wA zC (Ev.mk ?_));apply Eo;have KR:=J<|D.new w (Jw (Ep 8)) 211;have u:=J<|Er w (EJ (Jw (Ep 8)) 211);generalize w.alloc (EJ (Jw (Ep 8)) 211)=w3 at*;go_wp2_with (with_reducible refine wS (cs:=kj.cells) fR KR ?_ (ho:=rH) (h1:=St.rK _));refine EV (v:=EZ kj.cells) (Jj fR O _ _ (w.heap.size) _ O (KR.out.setRow _) (St.fE _)) O ⟨O,E2 u.out U _⟩
def hM(xs:List Int)(i:Nat):List Int:=xs++128::(dT (XJ xs.length-xs.length-1-i) 0++be ((xs.length:Int)*8) i)
theorem EUn(xs:List Int):hM xs 8=ku xs:=by unfold hM ku;rw[show XJ xs.length-xs.length-1-8=XJ xs.length-xs.length-9 from U]
theorem EUo(xs:List Int)(i:Nat)(h:i<=8):(hM xs i).length=XJ xs.length:=by have:=um xs.length;simp only[hM,IY,ZC,List.length_replicate,O0];omega
theorem EUp(A Y4:List Int)(c v:Int)(k j:Nat)(hj:j=A.length+1+k):(A++c::(dT (k+1) 0++Y4)).set j v=A++c::(dT k 0++v::Y4):=by subst hj;rw[List.set_append_right _ _ U,show A.length+1+k-A.length=k+1 from U,Ia,List.replicate_succ',XI,List.set_append_right _ _ Eh];simp
theorem EUq(xs:List Int)(i:Nat)(h:i<8):(hM xs i).set (XJ xs.length-1-i) ((xs.length:Int)*8/2^(8*i)%256)=hM xs (i+1):=by have:=um xs.length;unfold hM;obtain⟨k,hk⟩: ∃k,XJ xs.length-xs.length-1-i=k+1:=⟨XJ xs.length-xs.length-2-i,U⟩;rw[hk,EUp _ _ _ _ k _ U,F4,show XJ xs.length-xs.length-1-(i+1)=k from U]
theorem EUr(xs:List Int)(W:Nat)(hW:XJ xs.length=W):(putAt (Ep W) 0 xs).set xs.length 128=hM xs 0:=by have:=um xs.length;subst hW;unfold putAt hM Ep;obtain⟨k,hk⟩: ∃k,XJ xs.length=xs.length+(k+1):=⟨XJ xs.length-xs.length-1,U⟩;rw[hk];simp only[Io,ZV,OD,List.drop_replicate,EJT,fS];rw[show xs.length+(k+1)-xs.length=k+1 from U,show k+1-1-0=k from U,List.set_append_right _ _ (E7 _),Nat.sub_self,List.replicate_succ,Ib]
theorem EUs(A:Option Eu)(xs:List Int)(n c:Nat)(w:H)(hn:xs.length=n)(hr:Row w A xs)(hl:n<=1000000000): Ef Eb 113 #[G A n c] w fun e w'=>e=Eg (G (Z ⟨w.heap.size,0,X⟩) (XJ n) (XJ n))/\D w' w.heap.size (Ej (ku xs)) 5/\El w w':=by
 obtain⟨W,hW⟩:=Jl (XJ n);have hW1:((n:Int)+9+64-1)/64*64=(W:Int):=Qq;have hW2:n+9<=W:=by rw[<-hW];exact um n
 have hW3:W<=2000000000:=Qq;have hmk:=PU W U;rw[hW];have HN:=J hn;have HR:=J hr;have HW:=J hW;clear hn hr hW;go_enter Tryz.func113,Tryz.ntmps113;go_wp2_with ((with_reducible show Ic _ _ _ (⟨Z 18,_,_,_,_,X⟩::_) _ _);refine Ev.mk ?_);apply Eo;have KP:=J<|D.new w (Ej (Ep W)) 5;have bl:=Er w (EJ (Ej (Ep W)) 5);have HR:=J<|Ix HR.out bl;have u:=J bl;clear hmk hW1 bl;generalize w.alloc (EJ (Ej (Ep W)) 5)=w1 at*;(with_reducible refine j_ ?_ w.heap.size 0 W W (Ep W) 5 A n c xs n (Z ⟨w.heap.size,0,X⟩) ?_ KP HN.out HR ?_ ?_ ?_ ?_);·exact Ei O
 ·exact Enr
 ·exact Nat.min_eq_left U
 ·rw[fF];omega
 ·exact Eoy
 intro w2 K2 b2 o2 s2;have hN:=HN.out;have hlp:(putAt (Ep W) 0 (xs.take n)).length=W:=by rw[EJU,fF];simp[fF];omega
 rw[OY U] at K2 hlp;replace u:=J<|u.out.trans b2;have c0:=K2.cell n;have f0:=K2.JX n;rw[j8 _ _ U] at c0;have KP:=J<|K2.set n (E IL 128);have HZ:=J<|EUr xs W (by rw[hN];exact HW.out);clear K2 b2 o2 s2 hlp hN;go_wp2_with fail;go_loopw[27] (fun y wr=> ∃i:Nat,i<=8/\y=E I i/\D wr w.heap.size (Ej (hM xs i)) 5/\El w wr) (fun y _=>8-(Ir y).toNat);case atStart=> have h:=KP.out;have z:=HZ.out;rw[HN.out] at z;rw[oq,z] at h;exact⟨0,U,O,h,u.out.setCell Eh _⟩
 case round=>
  clear KP u;obtain⟨i,hi,rfl,KP,u⟩:=hrel;have hN:=HN.out;have zF:=HW.out;have hlp:(hM xs i).length=W:=by rw[EUo xs i hi,hN,zF]
  by_cases hlt:i<8;·have c0:=KP.cell (W-1-i);have f0:=KP.JX (W-1-i);rw[j8 _ _ U] at c0;have ST:=EUq xs i hlt;rw[hN,zF] at ST;replace KP:=J<|KP.set (W-1-i) (E IL ((n:Int)*8/2^(8*i)%256));replace ST:=J ST;replace u:=J u;clear hN zF hlp;go_wp2_with fail;have h:=KP.out;rw[oq,ST.out] at h;exact⟨⟨i+1,U,Eh,h,u.out.setCell Eh _⟩,JM⟩
  ·obtain rfl:i=8:=U;rw[show((8:Nat):Int)=8 from rfl];rw[EUn] at KP;replace KP:=J KP;replace u:=J u;clear hN zF hlp;go_wp2_with fail;go_ret;exact⟨O,KP.out,u.out⟩
theorem UB{o:EL}{T:EB}(hT:IG P T n)(x:J7)(ho:o.op= .load T x)(hx:a.eval x=M (Z ⟨g,0,X⟩))(hg:Ec (D W g cs T))(hn:cs.size=n) (hk:K (a.put o.dst (EZ cs))):o.quiet P a (fun w'=> ∃x,w'=EC W x) K:=by
 obtain⟨⟨d,hu,hd⟩,hi⟩:=hT;refine⟨_,fun w hw=> ?_,hk⟩;obtain⟨y,rfl⟩:=hw;have hrun:(loadVar T ⟨g,0,X⟩).run P (EC W y)= .ok (EZ cs) (EC W y):=by cases d<;>first|(cases hd;done)|exact run_loadVar_row _ g T T cs (0,0) _ (hg.out.V (EN y)) hu rfl gR
 unfold Oper.quietAt If;exact EnW
theorem EUt{o:EL}{T T0:EB}{off:Nat}(hT:IG P T n)(x:J7)(ho:o.op= .load T x)(hx:a.eval x=M (Z ⟨g,off,X⟩))(hg:Ec (D W g (Ej l) T0))(hn:off+n<=l.length) (hk:K (a.put o.dst (EZ (Ej ((l.drop off).take n))))):o.quiet P a (fun w'=> ∃x,w'=EC W x) K:=by
 obtain⟨⟨d,hu,hd⟩,hi⟩:=hT;refine⟨_,fun w hw=> ?_,hk⟩;obtain⟨y,rfl⟩:=hw;have hb:=hg.out.V (EN y);have hlen:(((l.drop off).take n).map (E .u8)).length=n:=Ji
 have hrun:(loadVar T ⟨g,off,X⟩).run P (EC W y)= .ok (EZ (((l.drop off).take n).map (E .u8)).toArray) (EC W y):=by
  refine run_loadVar_mid _ g off T _ d (fun j v hv=> ?_) hu mj (by rw[hi,hlen])
  have hj:j<n:=by
   rcases JY j n with h|h;·exact h
   ·rw[bf U] at hv;cases hv
  rw[show(EC W y).cell? ⟨g,off+j,X⟩=_ from hb.cell (off+j),j8 _ _ U];rw[List.getElem?_map,bj hj,List.getElem?_drop] at hv;simp[show off+j<l.length from U] at hv;simp[show off+j<l.length from U,<-hv]
 unfold Oper.quietAt If;exact EnW
theorem EUu(b:List Int):GZ b (sched b 64):=⟨zB b 64,fun i hi=>EUZ b i 64 hi⟩
theorem EUv(q:St)(b:List Int)(hl:b.length=64)(hb: ∀x∈b,0<=x/\x<=255)(w:H)(hR:Jt w): Ef Eb 114 #[EZ q.cells,EZ (Ej b)] w fun e w'=>e=Eg (EZ (kn q b).cells)/\El w w':=
 EUl q _ b _ hl hb (EUu b) O w hR
theorem aP:Oq Eb 41 (Ej (Ep 32)):=by intro ev o w ho;unfold If;simp only[ho];simp[go_sem];exact congrArg (fun c=>w.alloc (EJ c 41)) Ed
theorem OZ:IG Eb 41 32:=⟨⟨_,Tryz.underlying41,O⟩,Ed⟩
theorem EUw(q:St)(i:Nat)(hi:i<8):(Zl q).getD (4*i) 0=q.list.getD i 0/16777216%256/\(Zl q).getD (4*i+1) 0=q.list.getD i 0/65536%256/\(Zl q).getD (4*i+2) 0=q.list.getD i 0/256%256/\(Zl q).getD (4*i+3) 0=q.list.getD i 0%256:=by
 have one: ∀x:Int,x/1=x:=Int.ediv_one;rcases(show i=0\/i=1\/i=2\/i=3\/i=4\/i=5\/i=6\/i=7 from U) with rfl|rfl|rfl|rfl|rfl|rfl|rfl|rfl
 all_goals
  refine⟨O,O,O,?_⟩
  conv=>rhs;rw[<-one (List.getD _ _ _)]
  rfl
theorem EUx(q:St)(i:Nat)(hi:i<8)(W:H):(Uj 211 (EZ q.cells) (E I (i:Int))).run Eb W= .ok (E Oh (q.list.getD i 0)) W:=by rcases(show i=0\/i=1\/i=2\/i=3\/i=4\/i=5\/i=6\/i=7 from U) with rfl|rfl|rfl|rfl|rfl|rfl|rfl|rfl<;>kernel_rfl
theorem EUy(a:Option Eu)(c:Nat)(W:H):(Instr.arrayAt 214 (G a 64 c)).run Eb W= .ok (M a) W:=by simp[Instr.arrayAt,run_underlying Tryz.underlying214]
theorem rL(A:Option Eu)(xs:List Int)(n c:Nat)(w:H)(hn:xs.length=n)(hr:Row w A xs)(hl:n<=1000000000)(hR:Jt w): Ef Eb 82 #[G A n c] w fun e w'=>e=Eg (EZ (Ej (Xo xs)))/\El w w':=by
 obtain⟨m,hm⟩:=Jl (XJ n/64);obtain⟨P,hP⟩:=Jl (ku xs);have Qr:P.length=64*m:=by rw[<-hP,EUJ,hn,<-hm,Qh]
 have Qs: ∀x∈P,0<=x/\x<=255:=by rw[<-hP];exact EUO xs hr.2
 have hm2:m<=100000000:=by rw[<-hm];unfold XJ;omega
 have Qt:Xo xs=Zl (mM P m):=by unfold Xo Qg;rw[hn,hm,hP]
 rw[Qt];have hW:XJ n=64*m:=by rw[<-hm,Qh]
 have HW:=J hW;have HN:=J hn;have HR:=J hr;have HP:=J hP;have h_:=J Qr;have ZH:=J Qs;have RT:=J hR;have rl:=hR.lt;clear hn hr hP Qr Qs Qt hm hW hR;go_enter Tryz.func82,Tryz.ntmps82;go_wp2_with (with_reducible refine wA aP (Ev.mk ?_));apply Eo;have u:=J<|E9 w.heap.size w;have bel:=Er w (EJ (Ej (Ep 32)) 41);replace u:=ET u bel;have KR:=J<|D.new w (Ej (Ep 32)) 41;clear bel;generalize w.alloc (EJ (Ej (Ep 32)) 41)=w1 at*;go_wp2_with fail;refine(EUm _).mono ?_;rintro e w2 ⟨rfl,b2⟩;replace KR:=J<|KR.out.V b2;replace u:=ET u b2;clear b2;have l2:=KR.out.lt;go_wp2_with (with_reducible refine wA zC (Ev.mk ?_));apply Eo;have bel:=Er w2 (EJ (Jw (Ep 8)) 211);replace KR:=J<|KR.out.V bel;replace u:=ET u bel;have KH:=J<|D.new w2 (Jw (Ep 8)) 211;clear bel;generalize w2.alloc (EJ (Jw (Ep 8)) 211)=w3 at*;go_wp2_with (with_reducible refine wS (cs:=kj.cells) fR KH (Ev.mk ?_) (ho:=rH) (hn:=St.fE _) (h1:=St.rK _));apply Eo;replace KR:=J<|KR.out.setRow_other w2.heap.size kj.cells U;replace KH:=J<|KH.out.setRow kj.cells;replace u:=J<|E2 (g:=w2.heap.size) u.out U kj.cells;generalize w3.setRow w2.heap.size kj.cells=w4 at*;go_wp2_with fail;refine(EUs A xs n c _ HN.out (Ix HR.out u.out) hl).mono ?_;rintro e w5 ⟨rfl,KP,b5⟩;rw[HP.out] at KP;have l5:=KH.out.lt;replace KR:=J<|KR.out.V b5;replace KH:=J<|KH.out.V b5;replace u:=ET u b5;replace KP:=J KP;clear b5;rw[HW.out];go_wp2_with fail;go_loopw[4] (fun y wr=> ∃(i:Nat) (a:Option Eu) (L:Nat),i<=m/\y=G a L L/\L=64*(m-i)/\(i<m->a=Z ⟨w4.heap.size,64*i,X⟩)/\D wr w.heap.size (Ej (Ep 32)) 41/\D wr w2.heap.size (mM P i).cells 211/\D wr w4.heap.size (Ej P) 5/\El w wr) (fun y _=>match y with|G _ L _=>L|_=>0);case atStart=>exact⟨0,_,64*m,U,O,U,fun _=>rfl,KR.out,KH.out,KP.out,u.out⟩
 case round=>
  clear KR KH KP u;obtain⟨i,a,L,hi,rfl,hL,ha,KR,KH,KP,u⟩:=hrel;by_cases hlt:i<m
  ·obtain rfl:=ha hlt;have hL1:64<=L:=U;have hL2:(64:Int)<=(L:Int):=U;have hL3:L<=6400000000:=U;have hPL:=h_.out;obtain⟨bl,hbl⟩:=Jl ((P.drop (64*i)).take 64);have Qu:bl.length=64:=by rw[<-hbl];simp;omega
   have Qv: ∀x∈bl,0<=x/\x<=255:=by rw[<-hbl];intro x hx;exact ZH.out x (List.mem_of_mem_drop (fy hx))
   have STEP:mM P (i+1)=kn (mM P i) bl:=by rw[<-hbl];rfl
   generalize mM P i=q at*;replace STEP:=J STEP;have HL:=J hL;have oR:=J hbl;have HB1:=J Qu;have HB2:=J Qv;replace KR:=J KR;replace KH:=J KH;replace KP:=J KP;replace u:=J u;have jc:=J<|RT.out.V u.out;have harr:=EUy;clear hL hbl Qu Qv ha hPL;go_wp2_with fail;refine J_ 6 Ed Ed ?_;simp only[Iq,Io,IP,IH];repeat (first
   |go_big_quiet_skip
   |(go_big_quiet_want
     first
      |(refine UB (T:=211) (g:=w2.heap.size) fR _ rfl rfl KH ?_ ?_;(·exact St.fE _);go_simp;go_big_quiet_on)
      |(refine EUt (T:=214) (g:=w4.heap.size) (off:=64*i) (l:=P) oQ _ rfl rfl KP ?_ ?_;(·rw[h_.out];omega);rw[oR.out];go_simp;go_big_quiet_on)
      |(go_big_quiet_op
        first
         |go_big_quiet_on
         |go_big_quiet_call ((((with_reducible refine aE (EUv q bl HB1.out HB2.out _ ?_));exact jc.out.V (EN _)))))))
   refine I1 ?_;intro _ hw';obtain⟨y,rfl⟩:=hw';have Em:=EN y;replace KR:=J<|KR.out.V Em;replace KH:=J<|KH.out.V Em;replace KP:=J<|KP.out.V Em;replace u:=ET u Em;clear Em harr jc;generalize EC wr y=w6 at*;go_wp2_with (with_reducible refine wS (cs:=(kn q bl).cells) fR KH (Ev.mk ?_) (ho:=St.fE _) (hn:=St.fE _) (h1:=St.rK _));apply Eo;replace KR:=J<|KR.out.setRow_other w2.heap.size (kn q bl).cells U;replace KP:=J<|KP.out.setRow_other w2.heap.size (kn q bl).cells U;replace KH:=J<|KH.out.setRow (kn q bl).cells;replace u:=J<|E2 (g:=w2.heap.size) u.out U (kn q bl).cells;generalize w6.setRow w2.heap.size (kn q bl).cells=w7 at*;by_cases hlast:L=64;·subst hlast;go_wp2_with fail;have hL:=HL.out;exact⟨⟨i+1,_,0,U,O,U,fun h=>U,KR.out,by rw[STEP.out];exact KH.out,KP.out,u.out⟩,by show 0<64;omega⟩
   ·have hL4:64<L:=U;go_wp2_with fail;have hL:=HL.out;exact⟨⟨i+1,_,L-64,U,O,U,fun _=>by rw[show 64*(i+1)=64*i+64 from U],KR.out,by rw[STEP.out];exact KH.out,KP.out,u.out⟩,UT⟩
  ·obtain rfl:i=m:=U;obtain rfl:L=0:=U;generalize hq:mM P i=q at*;have HQ:=J hq;clear hq;replace KR:=J KR;replace KH:=J KH;replace u:=J u;clear ha KP hL;have l9:=KH.out.lt;go_wp2_with (with_reducible refine wA aP (Ev.mk ?_));apply Eo;have bel:=Er wr (EJ (Ej (Ep 32)) 41);replace KR:=J<|KR.out.V bel;replace KH:=J<|KH.out.V bel;replace u:=ET u bel;have KS:=J<|D.new wr (Ej (Ep 32)) 41;clear bel;generalize wr.alloc (EJ (Ej (Ep 32)) 41)=w6 at*;generalize wr.heap.size=g9 at*;go_wp2_with (with_reducible refine wL fR KH ?_ (hn:=St.fE _));go_loopw[23] (fun y wx=> ∃k:Nat,k<=8/\y=E I k/\D wx w.heap.size (Ej (Ep 32)) 41/\D wx g9 (Ej (dO (Zl q) (Ep 32) (4*k))) 41/\El w wx) (fun y _=>8-(Ir y).toNat);case atStart=>exact⟨0,U,O,KR.out,by rw[Nat.mul_zero,N9];exact KS.out,u.out⟩
   case round=>
    clear KR KH KS u;obtain⟨k,hk,rfl,KR,KS,u⟩:=hrel;by_cases hlt:k<8
    ·have hix:=EUx q k hlt;have DG:=EUw q k hlt;have le:(Zl q).length=(Ep 32).length:=by rw[rF,fF]
     have lz:=rF q;have lo:=Fp (Zl q) (Ep 32) (4*k) le U;have c0:=KS.cell (4*k);have c1:=KS.cell (4*k+1);have c2:=KS.cell (4*k+2);have c3:=KS.cell (4*k+3);have f0:=KS.JX (4*k);have f1:=KS.JX (4*k+1);have f2:=KS.JX (4*k+2);have f3:=KS.JX (4*k+3);rw[j8 _ _ U] at c0 c1 c2 c3;generalize q.list.getD k 0=x at*;have S1:=tS (Zl q) (Ep 32) (4*k) le U;have S2:=tS (Zl q) (Ep 32) (4*k+1) le U;have S3:=tS (Zl q) (Ep 32) (4*k+2) le U;have S4:=tS (Zl q) (Ep 32) (4*k+3) le U;rw[DG.1] at S1;rw[DG.2.1] at S2;rw[DG.2.2.1] at S3;rw[DG.2.2.2] at S4;replace S1:=J S1;replace S2:=J S2;replace S3:=J S3;replace S4:=J S4;replace KR:=J KR;replace KS:=J KS;replace u:=J u;clear DG le lz lo;go_wp2_with fail;have h:=(((KS.out.set (4*k) (E IL (x/16777216%256))).set (4*k+1) (E IL (x/65536%256))).set (4*k+2) (E IL (x/256%256))).set (4*k+3) (E IL (x%256));rw[oq,S1.out,oq,S2.out,oq,S3.out,oq,S4.out] at h;exact⟨⟨k+1,U,Eh,(((KR.out.other _ _ _ U).other _ _ _ U).other _ _ _ U).other _ _ _ U,h,(((u.out.setCell Ji _).setCell Ji _).setCell Ji _).setCell Ji _⟩,JM⟩
    ·obtain rfl:k=8:=U;rw[show((8:Nat):Int)=8 from rfl];rw[N_ (Zl q) (Ep 32) (4*8) (by rw[rF];omega) (by rw[fF];omega)] at KS;replace KR:=J KR;replace KS:=J KS;replace u:=J u;go_wp2_with (with_reducible first|refine wL OZ KS ?_ (hn:=Qw)|refine wS (cs:=Ej (Zl q)) OZ KR ?_ (ho:=XO) (hn:=Qw) (h1:=Xm _));refine EV (v:=EZ (Ej (Zl q))) (Jj OZ O _ _ (w.heap.size) _ O (KR.out.setRow _) (by rw[Od,rF])) O ⟨by rw[HQ.out],E2 u.out U _⟩
def keyed(k:List Int):List Int:=if 64<k.length then Xo k else k
def bV(k:List Int):List Int:=keyed k++Ep (64-(keyed k).length)
def XC(l:List Int)(b:Int):List Int:=l.map fun c=>Iu .xor .u8 c b
def JS(k b:List Int):List Int:=Xo (XC (bV k) 92++Xo (XC (bV k) 54++b))
theorem EUA(k:List Int):(keyed k).length<=64:=by
 unfold keyed;split;·rw[kw];omega
 ·omega
theorem EUB(h: ∀x∈k,0<=x/\x<=255): ∀x∈keyed k,0<=x/\x<=255:=by
 unfold keyed;split;·exact rG k
 ·exact h
theorem Qx(k:List Int):(bV k).length=64:=by have:=EUA k;simp[bV,fF];omega
theorem Qy(h: ∀x∈k,0<=x/\x<=255): ∀x∈bV k,0<=x/\x<=255:=by
 intro x hx;rcases XM.1 hx with hx|hx;·exact EUB h x hx
 ·exact PJ _ x hx
theorem Gd(l:List Int)(b:Int):(XC l b).length=l.length:=by simp[XC]
theorem Qz(a b:Int):0<=Iu .xor .u8 a b/\Iu .xor .u8 a b<=255:=by unfold Iu;simp only;rw[IntKind.wrap_u8'];omega
theorem zG(l:List Int)(b:Int): ∀x∈XC l b,0<=x/\x<=255:=by intro x hx;simp only[XC,dU] at hx;obtain⟨c,_,rfl⟩:=hx;exact Qz c b
theorem EUC(l:List Int)(b:Int)(i:Nat)(h:i<l.length):(XC l b).getD i 0=Iu .xor .u8 (l.getD i 0) b:=by simp[XC,h]
theorem mN(k b:List Int):(JS k b).length=32:=kw _
theorem uq(k b:List Int): ∀x∈JS k b,0<=x/\x<=255:=rG _
theorem EUD{e:EB}{k:IntKind}(he:P.underlying e=Z (.int k))(cs:Array Y)(i:Nat)(v:Y)(hv:cs[i]?=Z v)(W:H):(Go.part e cs i).run P W=Result.ok v W:=by unfold Go.part;simp[isAgg,run_underlying he,hv]
theorem EUF{e:EB}{k:IntKind}{inf:TypeInfo}(ht:P.underlying t=Z (.array n e))(he:P.underlying e=Z (.int k))(hi:P.info? e=Z inf)(h1:inf.size=1)(cs:Array Y)(i:Nat)(hn:i<n)(v:Y)(hv:cs[i]?=Z v)(W:H): (Uj t (EZ cs) (E I (i:Int))).run P W= .ok v W:=by have hp:=EUD he cs i v hv W;unfold Uj;have c1:(0:Int)<=(i:Int)/\(i:Int)<(n:Int):=U;simp[asIntOf,run_underlying ht,c1,sizeOf,typeInfo,hi,h1,hp];omega
theorem EUG(l:List Int)(hl:l.length=64)(i:Nat)(h:i<64)(W:H):(Uj 214 (EZ (Ej l)) (E I (i:Int))).run Eb W= .ok (E IL (l.getD i 0)) W:=by obtain⟨i0,hi,hz0,hz1,hz2⟩:=bz mJ;exact EUF Tryz.underlying214 Tryz.underlying5 hi hz1 _ i h _ (j8 l i U) W
theorem zH(k:List Int)(b:Int)(w:H)(hl:k.length=64)(hb:0<=b/\b<=255): Ef Eb 244 #[EZ (Ej k),E IL b] w fun e w'=>e=Eg (G (Z ⟨w.heap.size+1,0,X⟩) 64 64)/\D w' (w.heap.size+1) (Ej (XC k b)) 5/\El w w':=by
 have HL:=J hl;have hmk: ∀W:H,(Instr.makeSlice 23 (E I 64) (E I 64)).run Eb W= .ok (G (Z ⟨W.heap.size,0,X⟩) 64 64) (W.alloc (EJ (Ej (Ep 64)) 5)):=PU 64 U;obtain⟨hb0,hb1⟩:=hb;clear hl;go_enter Tryz.func244,Tryz.ntmps244;go_wp2_with (with_reducible refine N4 214 ?_);apply Eo;have KB:=J<|(D.new w (Ej k) 214).alloc (EJ (Ej (Ep 64)) 5);have KM:=J<|D.new' (w.alloc (EJ (Ej k) 214)) (Ej (Ep 64)) 5 (g:=w.heap.size+1) Eh;have u:=J<|JV w (EJ (Ej k) 214) (EJ (Ej (Ep 64)) 5);clear hmk;generalize (w.alloc (EJ (Ej k) 214)).alloc (EJ (Ej (Ep 64)) 5)=w1 at*;go_wp2_with (with_reducible refine wL oQ KB ?_ (hn:=Qo));go_loopw[10] (fun y wr=> ∃i:Nat,i<=64/\y=E I i/\D wr (w.heap.size+1) (Ej (part (XC k b) i)) 5/\El w wr) (fun y _=>64-(Ir y).toNat);case atStart=>exact⟨0,U,O,by rw[N7,Gd,HL.out];exact KM.out,u.out⟩
 case round=>
  clear KB KM u;obtain⟨i,hi,rfl,KM,u⟩:=hrel;have lt:(XC k b).length=64:=by rw[Gd,HL.out]
  by_cases hlt:i<64;·have hix:=EUG k HL.out i hlt;have c0:=KM.cell i;have f0:=KM.JX i;rw[j8 _ _ (by rw[yC _ _ U];omega)] at c0;have ST:=Fo (XC k b) i U;rw[EUC _ _ _ Ga] at ST;generalize k.getD i 0=x at*;have ST2:=J ST;have Gf:=J KM;have Jf:=J u;clear ST KM u lt;go_wp2_with fail;have h:=Gf.out.set i (E IL (Iu .xor .u8 x b));rw[oq,ST2.out] at h;exact⟨⟨i+1,U,Eh,h,Jf.out.setCell Eh _⟩,JM⟩
  ·obtain rfl:i=64:=U;rw[show((64:Nat):Int)=64 from rfl];rw[N8 _ _ U] at KM;have Gf:=J KM;have Jf:=J u;clear KM u lt;go_wp2_with fail;go_ret;exact⟨O,Gf.out,Jf.out⟩
def fI(w:H)(cs:Array Y)(ps:List (List Int)):Prop:=cs.size=ps.length/\ ∀i (h:i<ps.length),∃A c,cs[i]?=Z (.slice A ps[i].length c)/\Row w A ps[i]
theorem fI.V{ps:List (List Int)}(h:fI w cs ps)(hb:El w w'):fI w' cs ps:=⟨h.1,fun i hi=>by obtain⟨A,c,e,r⟩:=h.2 i hi;exact⟨A,c,e,Ix r hb⟩⟩
theorem QA{A Y4:Option Eu}{c d:Nat}{x y:List Int}(hn:x.length=n)(hm:y.length=m)(hx:Row w A x)(hy:Row w Y4 y):fI w #[G A n c,G Y4 m d] [x,y]:=by
 subst hn hm;refine⟨O,fun i hi=> ?_⟩;match i,hi with
 |0,_=>exact⟨A,c,O,hx⟩
 |1,_=>exact⟨Y4,d,O,hy⟩
theorem EUH(g m c:Nat)(cs:Array Y)(ps:List (List Int))(w:H)(hm:ps.length=m)(hk:D w g cs 23)(hp:fI w cs ps)(hs:ps.flatten.length<=100000000)(hm2:m<=1000): Ef Eb 243 #[G (Z ⟨g,0,X⟩) m c] w fun e w'=>(∃A d,e=Eg (G A ps.flatten.length d)/\Own w' w.heap.size A d ps.flatten)/\El w w':=by
 have HM:=J hm;have HK:=J hk;have HP:=J hp;have HS:=J hs;clear hm hk hp hs;go_enter Tryz.func243,Tryz.ntmps243;go_wp2_with fail;go_loopw[3,8] (fun x y wr=> ∃(i:Nat) (A:Option Eu) (d n:Nat),i<=m/\y=E I i/\x=G A n d/\(ps.take i).flatten.length=n/\Own wr w.heap.size A d (ps.take i).flatten/\El w wr) (fun _ y _=>m-(Ir y).toNat);case atStart=>exact⟨0,X,0,0,U,O,O,O,X0 _ _,E9 _ _⟩
 case round=>
  obtain⟨i,A,d,n,hi,rfl,rfl,hn,ho,u⟩:=hrel;by_cases hlt:i<m
  ·have hil:i<ps.length:=Gg;obtain⟨Y4,c2,e2,r2⟩:=HP.out.2 i hil;have ck:=(HK.out.V u).cell i;rw[e2] at ck;have hst:(ps.take (i+1)).flatten=(ps.take i).flatten++ps[i]:=QC;have hle:(ps.take (i+1)).flatten.length<=100000000:=by have h1:=HS.out;have h2:ps.flatten=(ps.take (i+1)).flatten++(ps.drop (i+1)).flatten:=QD;rw[h2,IY] at h1;omega
   rw[hst,IY] at hle;exact ElK
  ·exact Em1
theorem zM(g c:Nat)(A Y4:Option Eu)(n m e d:Nat)(x y:List Int)(w:H)(hn:x.length=n)(hm:y.length=m)(hk:D w g #[G A n e,G Y4 m d] 23)(hx:Row w A x)(hy:Row w Y4 y)(hs:n+m<=100000000): Ef Eb 243 #[G (Z ⟨g,0,X⟩) 2 c] w fun e w'=>(∃A d,e=Eg (G A (n+m) d)/\Own w' w.heap.size A d (x++y))/\El w w':=by have h:=EUH g 2 c _ [x,y] w O hk (QA hn hm hx hy) Ji U;have e1:[x,y].flatten=x++y:=Eh;rw[e1,IY,hn,hm] at h;exact h
theorem EUK(hx:0<=x/\x<=255)(hy:0<=y/\y<=255):Iu .xor .u8 x y=0↔x=y:=by
 rw[u8_xor x y hx.1 U hy.1 U];constructor
 ·intro h;have h2:x.toNat^^^y.toNat=0:=U;have h3:x.toNat=y.toNat:=by apply Nat.eq_of_testBit_eq;intro i;have:=congrArg (fun n=>Nat.testBit n i) h2;simp only[Nat.testBit_xor,Nat.zero_testBit] at this;revert this;cases x.toNat.testBit i<;>cases y.toNat.testBit i<;>simp
  omega
 ·rintro rfl;simp
theorem EUL(hx:0<=x/\x<=255)(hy:0<=y/\y<=255):Iu .or .u8 x y=0↔x=0/\y=0:=by
 rw[u8_or x y hx.1 U hy.1 U]
 have key:x.toNat|||y.toNat=0↔x.toNat=0/\y.toNat=0:=by
  constructor
  ·intro h;have a: ∀i,x.toNat.testBit i=B/\y.toNat.testBit i=B:=by intro i;have:=congrArg (fun n=>Nat.testBit n i) h;simp only[Nat.testBit_or,Nat.zero_testBit,Bool.or_eq_false_iff] at this;exact this
   exact⟨Nat.eq_of_testBit_eq fun i=>by rw[(a i).1];simp,Nat.eq_of_testBit_eq fun i=>by rw[(a i).2];simp⟩
  ·rintro⟨h1,h2⟩;rw[h1,h2];rfl
 constructor;·intro h;have:=key.1 U;omega
 ·rintro⟨h1,h2⟩;have:=key.2 U;omega
theorem EUM(a b:Int):0<=Iu .or .u8 a b/\Iu .or .u8 a b<=255:=by unfold Iu;simp only;rw[IntKind.wrap_u8'];omega
theorem zN(A Y4:Option Eu)(x y:List Int)(n m c d:Nat)(w:H)(hn:x.length=n)(hm:y.length=m)(hx:Row w A x)(hy:Row w Y4 y)(hl:n<=1000000000)(hl2:m<=1000000000): Ef Eb 168 #[G A n c,G Y4 m d] w fun e w'=>e=Eg (EU (decide (x=y)))/\w=w':=by
 by_cases hnm:n=m
 ·subst hnm;have HN:=J hn;have HM:=J hm;have HX:=J hx;have HY:=J hy;obtain⟨b,hb⟩:=Jl (decide (x=y));rw[hb];have HB:=J hb;clear hn hm hx hy hb;go_enter Tryz.func168,Tryz.ntmps168;go_wp2_with fail;go_loop [5,15] (fun o y'=> ∃(i:Nat) (z:Int),i<=n/\y'=E I i/\o=E IL z/\0<=z/\z<=255/\(z=0↔x.take i=y.take i)) (fun _ y'=>n-(Ir y').toNat);case atStart=>exact⟨0,0,U,O,O,U,U,Eh⟩
  case round=>
   obtain⟨i,z,hi,rfl,rfl,z0,z1,hz⟩:=hrel;by_cases hlt:i<n
   ·have hxi:i<x.length:=mD;have hyi:i<y.length:=Gg;rcases HX.out.1 with e|⟨g,o,rfl,hc⟩;·exfalso;rw[e] at hxi;simp at hxi
    rcases HY.out.1 with e|⟨g',o',rfl,hc'⟩;·exfalso;rw[e] at hyi;simp at hyi
    have c1:=hc i hxi;have c2:=hc' i hyi;have r1:=HX.out.2 x[i] (gY _);have r2:=HY.out.2 y[i] (gY _)
    have ST:Iu .or .u8 z (Iu .xor .u8 x[i] y[i])=0↔x.take (i+1)=y.take (i+1):=by
     rw[EUL ⟨z0,z1⟩ (Qz _ _),EUK r1 r2,hz,List.take_succ_eq_append_getElem hxi,List.take_succ_eq_append_getElem hyi];constructor;·rintro⟨h1,h2⟩;rw[h1,h2]
     ·intro h;have:=List.append_inj h Ji;exact⟨this.1,by simpa using this.2⟩
    have OB:=EUM z (Iu .xor .u8 x[i] y[i]);have ST2:=J ST;have QH:=J OB;clear ST OB hz hc hc';generalize x[i]=p at*;generalize y[i]=q at*;go_wp2_with fail;exact⟨⟨i+1,_,U,Eh,O,QH.out.1,QH.out.2,ST2.out⟩,JM⟩
   ·obtain rfl:i=n:=U;rw[OY ry,OY Gh] at hz;have e:(z==0)=b:=by rw[<-HB.out,Bool.eq_iff_iff];simp[hz]
    clear hz;exact Eli
 ·have hne:x≠y:=fun h=>hnm (by rw[<-hn,<-hm,h]);rw[IJ hne];have hne2:((n:Int) !=(m:Int))=EI:=Ji;clear hne hn hm hx hy;go_enter Tryz.func168,Tryz.ntmps168;exact Eli
theorem EUN{fr:Nat×Nat}{xs:List Int}(hg:W.heap[g]?=Z (EJ cs t fr))(hc:cs=(xs.map (E .u8)).toArray)(hb: ∀x∈xs,0<=x/\x<=255): Row W (Z ⟨g,0,X⟩) xs:=by subst hc;refine⟨.inr ⟨g,0,O,fun i h=> ?_⟩,hb⟩;rw[cell_of_row W g (0+i) _ t fr hg];simp[h]
theorem EUP{v:Y}(h:Nx .u8 w v):yj w v:=by
 rcases h with rfl|⟨x,len,cap,zs,rfl,hx,hl,hc,hz,hcell,hw⟩;·exact⟨X,[],0,O,Eh,Eh,oJ _ _,fun _=>rfl⟩
 ·have hlen:(zs.take len).length=len:=l_;refine⟨Z x,zs.take len,cap,by rw[hlen],U,U,⟨?_,fun y hy=>Ny (hw y (fy hy))⟩,fun h=>XE⟩;rcases Nat.eq_zero_or_pos cap with h0|h0;·left;exact aF U
  ·right;obtain⟨hb,hs⟩:=hx h0;obtain⟨b,off,spot⟩:=x;simp at hs;subst hs;refine⟨b,off,O,fun i hi=> ?_⟩;have hi':i<len:=U;have:=hcell i U;rw[Addr.add_mid] at this;exact Eop
theorem QK:Oq Eb 214 (Ej (Ep 64)):=by intro ev o w ho;unfold If;simp only[ho];simp[go_sem];exact congrArg (fun c=>w.alloc (EJ c 214)) Ed
theorem oS:Oq Eb 115 (Ej (Ep 8)):=by intro ev o w ho;unfold If;simp only[ho];simp[go_sem];exact congrArg (fun c=>w.alloc (EJ c 115)) Ed
theorem ZY:IG Eb 115 8:=⟨⟨_,Tryz.underlying115,O⟩,Ed⟩
def zP(full x2 s1:List Int)(g7:Nat)(i:Nat)(v:Y)(w:H):Prop:=match i with
 |0=>v=EZ (Ej full)
 |1=> ∃g,v=G (Z ⟨g,0,X⟩) 64 64/\Row w (Z ⟨g,0,X⟩) x2
 |2=>v=G (Z ⟨g7,0,X⟩) 32 32
 |3=> ∃g A,v=G (Z ⟨g,0,X⟩) 2 2/\D w g #[G A 64 64,G (Z ⟨g7,0,X⟩) 32 32] 23/\Row w A x2
 |4=> ∃A d,v=G A 96 d/\Row w A (x2++s1)
 |5=>v=EZ (Ej (Xo (x2++s1)))
 |_=>True
theorem QL(full x2 s1:List Int)(g7:Nat): ∀i v w w',i<6->zP full x2 s1 g7 i v w->El w w'->zP full x2 s1 g7 i v w':=by
 intro i v w w' hi h hb;match i,hi with
 |0,_=>exact h
 |1,_=> obtain⟨g,e,r⟩:=h;exact⟨g,e,Ix r hb⟩
 |2,_=>exact h
 |3,_=> obtain⟨g,A,e,k,r⟩:=h;exact⟨g,A,e,k.V hb,Ix r hb⟩
 |4,_=> obtain⟨A,d,e,r⟩:=h;exact⟨A,d,e,Ix r hb⟩
 |5,_=>exact h
 |_+6,hi=>exact absurd hi U
theorem QN(k:List Int)(hk:k.length<=64):putAt (Ep 64) 0 k=k++Ep (64-k.length):=by unfold putAt Ep;simp only[Io,ZV,OD,List.drop_replicate]
theorem EUQ(A Y4:Option Eu)(k b:List Int)(n m c d:Nat)(w:H)(hn:k.length=n)(hm:b.length=m)(hk:Row w A k)(hb:Row w Y4 b)(hl:n<=64)(hl2:m<=10000000)(hR:Jt w): Ef Eb 215 #[G A n c,G Y4 m d] w fun e w'=>e=Eg (EZ (Ej (JS k b)))/\El w w':=by
 have da:=J hn;have oR:=J hm;have ur:=J hk;have U7:=J hb;have RT:=J hR;have EUR: ¬64<(n:Int):=U;obtain⟨ans,oT⟩:=Jl (JS k b);rw[oT];have Gi:=J oT;clear hn hm hk hb hR oT;go_enter Tryz.func215,Tryz.ntmps215;go_wp2_with (with_reducible first|refine wA aP ?_|refine wA QK (Ev.mk ?_));apply Eo;have K4:=J<|(D.new w (Ej (Ep 32)) 41).alloc (EJ (Ej (Ep 64)) 214);have K5:=J<|D.new' (w.alloc (EJ (Ej (Ep 32)) 41)) (Ej (Ep 64)) 214 (g:=w.heap.size+1) Eh;have u:=J<|JV w (EJ (Ej (Ep 32)) 41) (EJ (Ej (Ep 64)) 214);have lg:w.heap.size<w.heap.size+1:=U;generalize (w.alloc (EJ (Ej (Ep 32)) 41)).alloc (EJ (Ej (Ep 64)) 214)=w1 at*;generalize w.heap.size+1=g5 at*;go_wp2_with ((with_reducible show Ic _ _ _ (⟨Z 18,_,_,_,_,X⟩::_) _ _);refine Ev.mk ?_);apply Eo;have us:=J<|Ix ur.out u.out;(with_reducible refine j_ ?_ g5 0 64 64 (Ep 64) 214 A n c k n (Z ⟨g5,0,X⟩) ?_ K5 da.out us ?_ ?_ ?_ ?_);·exact Ei O
 ·exact Enr
 ·exact Nat.min_eq_left U
 ·rw[fF];omega
 ·exact Eoy
 intro w5 hH b5 o5 s5;have e5:putAt (Ep 64) 0 (k.take n)=bV k:=by have h1:=da.out;rw[OY U,QN k U];have h2:keyed k=k:=if_neg U;unfold bV;rw[h2]
 rw[e5] at hH;replace K4:=J<|show D w5 w.heap.size (Ej (Ep 32)) 41 from(o5 _ U).trans K4.out;replace u:=J<|u.out.trans (b5.mono U);clear K5 o5 s5 b5 e5 us;have K5:=hH;clear hH;replace K5:=J K5;have jf:=Qy ur.out.2;have aQ:=Qx k;have oV:JS k b=Xo (XC (bV k) 92++Xo (XC (bV k) 54++b)):=rfl;generalize bV k=full at*;rw[Gi.out] at oV;replace jf:=J jf;replace aQ:=J aQ;have HM:=J oV;clear oV;have C1:=J (zH full 54 · aQ.out U);have C2:=J (zH full 92 · aQ.out U);have mP:(XC full 54).length=64:=zQ;have mQ:(XC full 92).length=64:=zQ;have oW:=zG full 54;have oY:=zG full 92;generalize XC full 54=x1 at*;generalize XC full 92=x2 at*;replace mP:=J mP;replace mQ:=J mQ;replace oW:=J oW;replace oY:=J oY;go_wp2_with (with_reducible refine wL oQ K5 ?_ (hn:=QP));refine(C1.out _).mono ?_;rintro e w6 ⟨rfl,KT,b6⟩;replace K4:=J<|K4.out.V b6;replace K5:=J<|K5.out.V b6;replace u:=ET u b6;have jc:=J<|aK KT oW.out;clear b6 KT;generalize (w5.heap.size+1)=gt at*;go_wp2_with (go_at_call 243;refine Ev.mk ?_);apply Eo;have bl:=Er w6 (EJ #[G (Z ⟨gt,0,X⟩) 64 64,G Y4 m d] 23);have KJ:=D.new w6 #[G (Z ⟨gt,0,X⟩) 64 64,G Y4 m d] 23;replace jc:=J<|Ix jc.out bl;replace K4:=J<|K4.out.V bl;replace K5:=J<|K5.out.V bl;replace u:=ET u bl;clear bl;generalize w6.alloc (EJ #[G (Z ⟨gt,0,X⟩) 64 64,G Y4 m d] 23)=w7 at*;refine(zM w6.heap.size 2 (Z ⟨gt,0,X⟩) Y4 64 m 64 d x1 b w7 mP.out oR.out KJ jc.out (Ix U7.out u.out) U).mono ?_;rintro e w8 ⟨⟨A1,d1,rfl,o1⟩,b8⟩;replace K4:=J<|K4.out.V b8;replace K5:=J<|K5.out.V b8;replace u:=ET u b8;clear b8 KJ;have RJ:=J o1.row;have LJ:(x1++b).length=64+m:=QQ;clear o1;generalize hJ:x1++b=j1 at*;replace LJ:=J LJ;replace hJ:=J hJ;go_wp2_with fail;refine(rL A1 j1 (64+m) d1 w8 LJ.out RJ.out U (RT.out.V u.out)).mono ?_;rintro e w9 ⟨rfl,b9⟩;replace K4:=J<|K4.out.V b9;replace K5:=J<|K5.out.V b9;replace u:=ET u b9;have l9:=K5.out.lt;clear b9 RJ;have kB:=kw j1;have o_:=rG j1;generalize hS:Xo j1=s1 at*;replace hS:=J hS;replace kB:=J kB;replace o_:=J o_;go_wp2_with (with_reducible refine wA aP (Ev.mk ?_));apply Eo;have bel:=Er w9 (EJ (Ej (Ep 32)) 41);replace K4:=J<|K4.out.V bel;replace K5:=J<|K5.out.V bel;replace u:=ET u bel;have K7:=J<|D.new w9 (Ej (Ep 32)) 41;clear bel;generalize w9.alloc (EJ (Ej (Ep 32)) 41)=Uy at*;generalize w9.heap.size=g7 at*;go_wp2_with (with_reducible refine wS (cs:=Ej s1) OZ K7 (Ev.mk ?_) (ho:=XO) (hn:=QR) (h1:=Xm _));apply Eo;replace K4:=J<|K4.out.setRow_other g7 (Ej s1) U;replace K5:=J<|K5.out.setRow_other g7 (Ej s1) U;replace K7:=J<|K7.out.setRow (Ej s1);replace u:=J<|E2 (g:=g7) u.out U (Ej s1);generalize Uy.setRow g7 (Ej s1)=bY at*;go_wp2_with fail;refine ZB EF Ed 6 Ed Eh Ea (zP full x2 s1 g7) (QL full x2 s1 g7) ?_ ?_
 ·simp only[Xl,Iq,Io,EH,Ig,Ii,Ia,Ib,and_true];refine⟨?_,?_,?_,?_,?_,?_⟩;all_goals intro v w' hb hd
  ·exact En9
  ·exact EmA
  ·exact Elo
  ·exact El1
  ·exact ElY
  ·exact Emf
 ·intro v w' hb hr;have d5:v 5=EZ (Ej (Xo (x2++s1))):=hr 5 U;simp only[Iq,Io,IP,IH,EH,Ig,Ii,Ia,Ib];have ea:Xo (x2++s1)=ans:=HM.out.symm;rw[ea] at d5;have AL:ans.length=32:=by rw[<-ea,kw]
  rw[d5];exact Ema
theorem EUS(A Y4:Option Eu)(k b:List Int)(n m c d:Nat)(w:H)(hn:k.length=n)(hm:b.length=m)(hk:Row w A k)(hb:Row w Y4 b)(hl:64<n/\n<=10000000)(hl2:m<=10000000)(hR:Jt w): Ef Eb 215 #[G A n c,G Y4 m d] w fun e w'=>e=Eg (EZ (Ej (JS k b)))/\El w w':=by
 have da:=J hn;have oR:=J hm;have ur:=J hk;have U7:=J hb;have RT:=J hR;have EUR:64<(n:Int):=U;obtain⟨ans,oT⟩:=Jl (JS k b);rw[oT];have Gi:=J oT;clear hn hm hk hb hR oT;go_enter Tryz.func215,Tryz.ntmps215;go_wp2_with (with_reducible first|refine wA aP ?_|refine wA QK (Ev.mk ?_));apply Eo;have K4:=J<|(D.new w (Ej (Ep 32)) 41).alloc (EJ (Ej (Ep 64)) 214);have K5:=J<|D.new' (w.alloc (EJ (Ej (Ep 32)) 41)) (Ej (Ep 64)) 214 (g:=w.heap.size+1) Eh;have u:=J<|JV w (EJ (Ej (Ep 32)) 41) (EJ (Ej (Ep 64)) 214);have lg:w.heap.size<w.heap.size+1:=U;generalize (w.alloc (EJ (Ej (Ep 32)) 41)).alloc (EJ (Ej (Ep 64)) 214)=w1 at*;generalize w.heap.size+1=g5 at*;go_wp2_with fail;refine(rL A k n c w1 da.out (Ix ur.out u.out) U (RT.out.V u.out)).mono ?_;rintro e w2 ⟨rfl,b2⟩;have KL:=kw k;have KB:=rG k;have hkk:keyed k=Xo k:=if_pos (by rw[da.out];omega);generalize Xo k=sk at*;replace KL:=J KL;replace KB:=J KB;replace hkk:=J hkk;replace K4:=J<|K4.out.V b2;replace K5:=J<|K5.out.V b2;replace u:=ET u b2;have l2:=K5.out.lt;clear b2;go_wp2_with (with_reducible refine wA aP (Ev.mk ?_));apply Eo;have bel:=Er w2 (EJ (Ej (Ep 32)) 41);replace K4:=J<|K4.out.V bel;replace K5:=J<|K5.out.V bel;replace u:=ET u bel;have K6:=J<|D.new w2 (Ej (Ep 32)) 41;clear bel;generalize w2.alloc (EJ (Ej (Ep 32)) 41)=w3 at*;generalize w2.heap.size=g6 at*;go_wp2_with (with_reducible refine wS (cs:=Ej sk) OZ K6 (Ev.mk ?_) (ho:=XO) (hn:=QT) (h1:=Xm _));apply Eo;replace K4:=J<|K4.out.setRow_other g6 (Ej sk) U;replace K5:=J<|K5.out.setRow_other g6 (Ej sk) U;replace K6:=J<|K6.out.setRow (Ej sk);replace u:=J<|E2 (g:=g6) u.out U (Ej sk);generalize w3.setRow g6 (Ej sk)=w4 at*;go_wp2_with fail;refine tQ 2 Ed Ed ?_;simp only[Iq,Io,IP,IH];repeat (go_big_quiet_step (fail))
 refine I1 ?_;intro _ hw';obtain⟨nq,rfl⟩:=hw';replace K4:=J<|K4.out.drewN nq;replace K5:=J<|K5.out.drewN nq;have us:=J<|aK (K6.out.drewN nq) KB.out;replace u:=J<|gP u.out nq;generalize w4.drewN nq=w4 at*;(with_reducible refine j_ ?_ g5 0 64 64 (Ep 64) 214 (Z ⟨g6,0,X⟩) 32 32 sk 32 (Z ⟨g5,0,X⟩) ?_ K5 KL.out us ?_ ?_ ?_ ?_);·exact Ei O
 ·exact Enr
 ·rfl
 ·rw[fF];omega
 ·exact Eoy
 intro w5 hH b5 o5 s5;have e5:putAt (Ep 64) 0 (sk.take 32)=bV k:=by have h1:=KL.out;rw[OY U,QN sk U];unfold bV;rw[hkk.out]
 rw[e5] at hH;replace K4:=J<|show D w5 w.heap.size (Ej (Ep 32)) 41 from(o5 _ U).trans K4.out;replace u:=J<|u.out.trans (b5.mono U);clear K5 K6 o5 s5 b5 e5 us hkk;have K5:=hH;clear hH;replace K5:=J K5;have jf:=Qy ur.out.2;have aQ:=Qx k;have oV:JS k b=Xo (XC (bV k) 92++Xo (XC (bV k) 54++b)):=rfl;generalize bV k=full at*;rw[Gi.out] at oV;replace jf:=J jf;replace aQ:=J aQ;have HM:=J oV;clear oV;have C1:=J (zH full 54 · aQ.out U);have C2:=J (zH full 92 · aQ.out U);have mP:(XC full 54).length=64:=zQ;have mQ:(XC full 92).length=64:=zQ;have oW:=zG full 54;have oY:=zG full 92;generalize XC full 54=x1 at*;generalize XC full 92=x2 at*;replace mP:=J mP;replace mQ:=J mQ;replace oW:=J oW;replace oY:=J oY;go_wp2_with (with_reducible refine wL oQ K5 ?_ (hn:=QP));refine(C1.out _).mono ?_;rintro e w6 ⟨rfl,KT,b6⟩;replace K4:=J<|K4.out.V b6;replace K5:=J<|K5.out.V b6;replace u:=ET u b6;have jc:=J<|aK KT oW.out;clear b6 KT;generalize (w5.heap.size+1)=gt at*;go_wp2_with (go_at_call 243;refine Ev.mk ?_);apply Eo;have bl:=Er w6 (EJ #[G (Z ⟨gt,0,X⟩) 64 64,G Y4 m d] 23);have KJ:=D.new w6 #[G (Z ⟨gt,0,X⟩) 64 64,G Y4 m d] 23;replace jc:=J<|Ix jc.out bl;replace K4:=J<|K4.out.V bl;replace K5:=J<|K5.out.V bl;replace u:=ET u bl;clear bl;generalize w6.alloc (EJ #[G (Z ⟨gt,0,X⟩) 64 64,G Y4 m d] 23)=w7 at*;refine(zM w6.heap.size 2 (Z ⟨gt,0,X⟩) Y4 64 m 64 d x1 b w7 mP.out oR.out KJ jc.out (Ix U7.out u.out) U).mono ?_;rintro e w8 ⟨⟨A1,d1,rfl,o1⟩,b8⟩;replace K4:=J<|K4.out.V b8;replace K5:=J<|K5.out.V b8;replace u:=ET u b8;clear b8 KJ;have RJ:=J o1.row;have LJ:(x1++b).length=64+m:=QQ;clear o1;generalize hJ:x1++b=j1 at*;replace LJ:=J LJ;replace hJ:=J hJ;go_wp2_with fail;refine(rL A1 j1 (64+m) d1 w8 LJ.out RJ.out U (RT.out.V u.out)).mono ?_;rintro e w9 ⟨rfl,b9⟩;replace K4:=J<|K4.out.V b9;replace K5:=J<|K5.out.V b9;replace u:=ET u b9;have l9:=K5.out.lt;clear b9 RJ;have kB:=kw j1;have o_:=rG j1;generalize hS:Xo j1=s1 at*;replace hS:=J hS;replace kB:=J kB;replace o_:=J o_;go_wp2_with (with_reducible refine wA aP (Ev.mk ?_));apply Eo;have bel:=Er w9 (EJ (Ej (Ep 32)) 41);replace K4:=J<|K4.out.V bel;replace K5:=J<|K5.out.V bel;replace u:=ET u bel;have K7:=J<|D.new w9 (Ej (Ep 32)) 41;clear bel;generalize w9.alloc (EJ (Ej (Ep 32)) 41)=Uy at*;generalize w9.heap.size=g7 at*;go_wp2_with (with_reducible refine wS (cs:=Ej s1) OZ K7 (Ev.mk ?_) (ho:=XO) (hn:=QR) (h1:=Xm _));apply Eo;replace K4:=J<|K4.out.setRow_other g7 (Ej s1) U;replace K5:=J<|K5.out.setRow_other g7 (Ej s1) U;replace K7:=J<|K7.out.setRow (Ej s1);replace u:=J<|E2 (g:=g7) u.out U (Ej s1);generalize Uy.setRow g7 (Ej s1)=bY at*;go_wp2_with fail;refine ZB EF Ed 6 Ed Eh Ea (zP full x2 s1 g7) (QL full x2 s1 g7) ?_ ?_
 ·simp only[Xl,Iq,Io,EH,Ig,Ii,Ia,Ib,and_true];refine⟨?_,?_,?_,?_,?_,?_⟩;all_goals intro v w' hb hd
  ·exact En9
  ·exact EmA
  ·exact Elo
  ·exact El1
  ·exact ElY
  ·exact Emf
 ·intro v w' hb hr;have d5:v 5=EZ (Ej (Xo (x2++s1))):=hr 5 U;simp only[Iq,Io,IP,IH,EH,Ig,Ii,Ia,Ib];have ea:Xo (x2++s1)=ans:=HM.out.symm;rw[ea] at d5;have AL:ans.length=32:=by rw[<-ea,kw]
  rw[d5];exact Ema
theorem QV(A Y4:Option Eu)(k b:List Int)(n m c d:Nat)(w:H)(hn:k.length=n)(hm:b.length=m)(hk:Row w A k)(hb:Row w Y4 b)(hl:n<=10000000)(hl2:m<=10000000)(hR:Jt w): Ef Eb 215 #[G A n c,G Y4 m d] w fun e w'=>e=Eg (EZ (Ej (JS k b)))/\El w w':=by
 rcases JY 64 n with h|h;·exact EUS A Y4 k b n m c d w hn hm hk hb ⟨h,hl⟩ hl2 hR
 ·exact EUQ A Y4 k b n m c d w hn hm hk hb h hl2 hR
end Go.Proofs.YtclmichaaiohjaaGreatDoor
