import Derived.Test.YtclmichaaiohjaaGreatDoorP02
import Derived.LaidMore
import Derived.Laws.BitsAllLaws
import Derived.Lib.SlBytesConst
import Derived.Outline
import Derived.StillTailTactics
set_option maxRecDepth 100000
set_option linter.unusedVariables false
set_option linter.unusedSimpArgs false
set_option maxHeartbeats 6400000
namespace Go.Proofs.YtclmichaaiohjaaGreatDoor
open RowKit
open Bool renaming true->G,false->Y
open Go renaming World->H,Calls->Ef,TypeId->Ez,Value->M,Addr->Et,bodyPost_ret->EQ,Oper->EK,below_setRow->E2,rounds_succ->Ib
open Act renaming put->Ic
open Ending renaming returned->Eg
open IntKind renaming i64->I,u8->IB,u32->J0
open Lib renaming hid->J
open Obj renaming cells->EI
open Go.Proofs.Tryz renaming prog->EJ
open RowKit renaming Hid->Ea
open RowKit.Below renaming refl->E6
open Value renaming bool->Eb,int->E,agg->EU,slice->u,tuple->Es,pointer->V
open List renaming take_succ_cons->Il,take_zero->Ij,setIfInBounds_toArray->Ig,length_append->IL,set_cons_succ->IJ,set_cons_zero->IU,drop_succ_cons->Iz,drop_zero->Ix
open Nat renaming le_refl->E5
open Option renaming some->X,none->Z
variable{n o m s s' g:Nat}{f q:Nat->M}{w w' W:H}{T:EM}{l k:List Int}{a:Act}{P:Program}{K:Act->Prop}{cs:Array M}{t:Ez}{x y:Int}
def db(k:M):Nat->M:=fun i=>if i<5 then E I i else if i=8 then k else if i<8 then .slice Z 0 0 else E I 0
theorem EEh(Y4:Option Et)(n c:Nat):Tryz.prog.built 28 [(0,EU #[E I 0,E I 1,E I 2,E I 3,E I 4]),(2,u Y4 n c)]=X (EH 56 (db (u Y4 n c))):=Ec
theorem Lt(h: ∀i,i<n->(f i).oneCell'=G):(EH n f).all (·.oneCell')=G:=by rw[Array.all_eq_true];intro i hi;rw[nA];exact h i Om
theorem EEi(Y4:Option Et)(n c:Nat): ∀i,i<56->(db (u Y4 n c) i).oneCell'=G:=by
 intro i hi;unfold db;split;·rfl
 ·split;·rfl
  ·split<;>rfl
def Ub(i:Nat):Nat:=if i=9 then 1 else if i<13 then 14 else if i=13 then 0 else if i<34 then 15 else if i<39 then 31 else if i<42 then 4 else if i<48 then 1000 else if i<50 then 3 else if i=50 then 0 else if i<55 then 1000 else 65535
def Xk(i:Nat):Nat:=if i=9 then 1 else if i<42 then 0 else if i<47 then 1 else if i=47 then 0 else if i<50 then 1 else if i=54 then 1 else 0
def ZQ(i n:Nat):Prop:=Xk i<=n/\n<=Ub i/\(9<i->i<13->n%2=0)
structure Wk(w:H)(lo o m s:Nat)(q:Nat->M):Prop where
 o0:q 0=E I 0
 o4:q 4=E I 4
 perm: ∃a b c:Nat,q 1=E I a/\q 2=E I b/\q 3=E I c/\1<=a/\a<=3/\1<=b/\b<=3/\1<=c/\c<=3/\a≠b/\a≠c/\b≠c
 keys: ∀i,5<=i->i<=7->(i<5+m/\UG w lo o (q i))\/(5+m<=i/\q i=u Z 0 0)
 gL:UG w lo o (q 8)
 int: ∀i,9<=i->i<56-> ∃n:Nat,q i=E I n/\n<=Ub i/\(i<s->ZQ i n)
theorem Wk.B{lo:Nat}(h:Wk w lo o m s q)(hb:Eh w w'):Wk w' lo o m s q:=
 ⟨h.o0,h.o4,h.perm,fun i h1 h2=>(h.keys i h1 h2).imp (fun k=>⟨k.1,k.2.B hb⟩) id,h.gL.B hb,h.int⟩
theorem Wk.world{lo:Nat}(h:Wk w lo o m s q)(i:Nat)(Y3:M):Wk (w.setCell ⟨o,i,Z⟩ Y3) lo o m s q:=
 ⟨h.o0,h.o4,h.perm,fun i h1 h2=>(h.keys i h1 h2).imp (fun k=>⟨k.1,k.2.set _ _⟩) id,h.gL.set _ _,h.int⟩
theorem Wk.setInt{lo:Nat}(h:Wk w lo o m s q)(i n:Nat)(h9:9<=i)(hn:ZQ i n)(hs:s'<=s\/s'<=i+1/\i<=s):Wk (w.setCell ⟨o,i,Z⟩ (E I n)) lo o m s' (UU q i (E I n)):=by
 have h:=h.world i (E I n);have e: ∀j,j≠i->UU q i (E I n) j=q j:=fun j hj=>kB _ _ _ _ hj;refine⟨by rw[e _ U];exact h.o0,by rw[e _ U];exact h.o4,?_,fun j h1 h2=>by rw[e _ U];exact h.keys j h1 h2,by rw[e _ U];exact h.gL,fun j h1 h2=> ?_⟩;·rw[e _ U,e _ U,e _ U];exact h.perm
 ·by_cases hj:j=i;·subst hj;exact⟨n,Ay _ _ _,hn.2.1,fun _=>hn⟩
  ·rw[e _ hj];obtain⟨k,e1,e2,e3⟩:=h.int j h1 h2;exact⟨k,e1,e2,fun h=>e3 U⟩
theorem Wk.ql{lo:Nat}(h:Wk w lo o m s q)(i:Nat)(v:M)(hi:i=5+m)(h7:i<=7)(hk:UG w lo o v):Wk (w.setCell ⟨o,i,Z⟩ v) lo o (m+1) s (UU q i v):=by
 have h:=h.world i v;have e: ∀j,j≠i->UU q i v j=q j:=fun j hj=>kB _ _ _ _ hj;refine⟨by rw[e _ U];exact h.o0,by rw[e _ U];exact h.o4,?_,fun j h1 h2=> ?_,by rw[e _ U];exact h.gL,fun j h1 h2=>by rw[e _ U];exact h.int j h1 h2⟩;·rw[e _ U,e _ U,e _ U];exact h.perm
 ·by_cases hj:j=i;·subst hj;exact .inl ⟨U,by rw[Ay];exact hk.set _ _⟩
  ·rw[e _ hj];rcases h.keys j h1 h2 with⟨k1,k2⟩|⟨k1,k2⟩;·exact .inl ⟨U,k2⟩
   ·exact .inr ⟨U,k2⟩
structure J7(W:H)(f:Nat->M)(o m s:Nat)(q:Nat->M)(w:H):Prop where
 out:w.heap[o]?=X (EI (EH 56 q) 28 (0,0))
 src:w.heap[W.heap.size]?=X (EI (EH 56 f) 28 (0,0))
 res: ∃r,w.heap[W.heap.size+1]?=X (EI (EH 56 r) 28 (0,0))
 bel:Eh W w
 lo:W.heap.size+2<=o
 wk:Wk w (W.heap.size+2) o m s q
theorem J7.B(h:J7 W f o m s q w)(hb:Eh w w'):J7 W f o m s q w':=by obtain⟨r,hr⟩:=h.res;exact⟨Uu h.out hb,Uu h.src hb,⟨r,Uu hr hb⟩,h.bel.trans (hb.mono h.bel.size),h.lo,h.wk.B hb⟩
theorem J7.set'{m':Nat}(h:J7 W f o m s q w)(i:Nat)(v:M)(hw:Wk (w.setCell ⟨o,i,Z⟩ v) (W.heap.size+2) o m' s' (UU q i v)):J7 W f o m' s' (UU q i v) (w.setCell ⟨o,i,Z⟩ v):=by
 obtain⟨r,hr⟩:=h.res;have hlo:=h.lo;refine⟨?_,?_,⟨r,?_⟩,h.bel.setCell (p:=⟨o,i,Z⟩) UX v,h.lo,hw⟩;·rw[<-vJ];exact iR h.out i v
 ·rw[Below.heap_setCell _ _ _ _ UX];exact h.src
 ·rw[Below.heap_setCell _ _ _ _ UX];exact hr
theorem J7.setInt(s':Nat)(h:J7 W f o m s q w)(i n:Nat)(h9:9<=i)(hn:ZQ i n)(hs:s'<=s\/s'<=i+1/\i<=s):J7 W f o m s' (UU q i (E I n)) (w.setCell ⟨o,i,Z⟩ (E I n)):=h.set' i _ (h.wk.setInt i n h9 hn hs)
theorem J7.ql(h:J7 W f o m s q w)(i:Nat)(v:M)(h5:i=5+m)(h7:i<=7)(hk:UG w (W.heap.size+2) o v):J7 W f o (m+1) s (UU q i v) (w.setCell ⟨o,i,Z⟩ v):=h.set' i _ (h.wk.ql i v h5 h7 hk)
theorem J7.order(h:J7 W f o m s q w)(i k a b c:Nat)(vi vk:M)(i1:1<=i)(i3:i<=3)(k1:1<=k)(k3:k<=3) (ha:UU (UU q i vi) k vk 1=E I a) (hb:UU (UU q i vi) k vk 2=E I b) (hc:UU (UU q i vi) k vk 3=E I c) (a1:1<=a) (a3:a<=3) (b1:1<=b) (b3:b<=3) (c1:1<=c) (c3:c<=3) (ab:a≠b) (ac:a≠c) (bc:b≠c): J7 W f o m s (UU (UU q i vi) k vk) ((w.setCell ⟨o,i,Z⟩ vi).setCell ⟨o,k,Z⟩ vk):=by
 obtain⟨r,hr⟩:=h.res;have hlo:=h.lo;have hw:=(h.wk.world i vi).world k vk;have e: ∀j,j<1\/3<j->UU (UU q i vi) k vk j=q j:=fun j hj=>by rw[kB _ _ _ _ U,kB _ _ _ _ U]
 refine⟨?_,?_,⟨r,?_⟩,(h.bel.setCell (p:=⟨o,i,Z⟩) UX vi).setCell (p:=⟨o,k,Z⟩) UX vk,h.lo,
  ⟨by rw[e _ U];exact hw.o0,by rw[e _ U];exact hw.o4,⟨a,b,c,ha,hb,hc,a1,a3,b1,b3,c1,c3,ab,ac,bc⟩,fun j h1 h2=>by rw[e _ U];exact hw.keys j h1 h2,by rw[e _ U];exact hw.gL,fun j h1 h2=>by rw[e _ U];exact hw.int j h1 h2⟩⟩
 ·rw[<-vJ,<-vJ];exact iR (iR h.out i vi) k vk
 ·rw[Below.heap_setCell _ _ _ _ UX,Below.heap_setCell _ _ _ _ UX];exact h.src
 ·rw[Below.heap_setCell _ _ _ _ UX,Below.heap_setCell _ _ _ _ UX];exact hr
theorem J7.XU(s':Nat)(h:J7 W f o m s q w)(i n:Nat)(z:Int)(hz:z=n)(h9:9<=i)(hn:ZQ i n)(hs:s'<=s\/s'<=i+1/\i<=s):J7 W f o m s' (UU q i (E I z)) (w.setCell ⟨o,i,Z⟩ (E I z)):=by subst hz;exact h.setInt s' i n h9 hn hs
theorem J7.skip(s':Nat)(h:J7 W f o m s q w)(hs: ∀i,s<=i->i<s'->Xk i=0/\13<=i):J7 W f o m s' q w:=by
 refine⟨h.out,h.src,h.res,h.bel,h.lo,h.wk.o0,h.wk.o4,h.wk.perm,h.wk.keys,h.wk.gL,fun i h1 h2=> ?_⟩;obtain⟨n,e1,e2,e3⟩:=h.wk.int i h1 h2;refine⟨n,e1,e2,fun hi=> ?_⟩;by_cases c:i<s;·exact e3 c
 ·have:=hs i U hi;exact⟨U,e2,fun _ h=>U⟩
theorem J7.drew(h:J7 W f o m s q w):J7 W f o m s q w.drew:=
 h.B (I1 w)
structure ZR(w:H)(g:Nat->M):Prop where
 o0:g 0=E I 0
 o4:g 4=E I 4
 perm: ∃a b c:Nat,g 1=E I a/\g 2=E I b/\g 3=E I c/\1<=a/\a<=3/\1<=b/\b<=3/\1<=c/\c<=3/\a≠b/\a≠c/\b≠c
 keys: ∀i,5<=i->i<=8-> ∃(A:Option Et) (n cap:Nat) (ys:List Int) (base:Nat),g i=u A n cap/\ys.length=n/\Own w base A cap ys/\1<=n/\n<=64
 int: ∀i,9<=i->i<56-> ∃n:Nat,g i=E I n/\ZQ i n
theorem ZR.B{g:Nat->M}(h:ZR w g)(hb:Eh w w'):ZR w' g:=
 ⟨h.o0,h.o4,h.perm,fun i h1 h2=>by obtain⟨A,n,cap,ys,base,e,l,ho,r⟩:=h.keys i h1 h2;exact⟨A,n,cap,ys,base,e,l,XF ho hb,r⟩,h.int⟩
theorem J7.done(h:J7 W f o 3 56 q w):ZR (w.setRow (W.heap.size+1) (EH 56 q)) q:=by
 refine⟨h.wk.o0,h.wk.o4,h.wk.perm,fun i h1 h2=> ?_,fun i h1 h2=> ?_⟩
 ·have hk:UG w (W.heap.size+2) o (q i):=by
   rcases Nat.lt_or_ge i 8 with h8|h8
   ·rcases h.wk.keys i h1 U with k|k;·exact k.2
    ·omega
   ·obtain rfl:i=8:=U;exact h.wk.gL
  obtain⟨A,n,cap,ys,base,e,l,ho,r1,r2,-⟩:=(hk.other (p:=W.heap.size+1) U).keep (w':=w.setRow (W.heap.size+1) (EH 56 q)) (fun k hk=>setRow_other _ _ _ _ hk);exact⟨A,n,cap,ys,base,e,l,ho,r1,r2⟩
 ·obtain⟨n,e1,e2,e3⟩:=h.wk.int i h1 h2;exact⟨n,e1,e3 h2⟩
theorem J7.one(h:J7 W f o 3 s q w): ∀i,i<56->(q i).oneCell'=G:=by
 intro i hi;obtain⟨a,b,c,e1,e2,e3,-⟩:=h.wk.perm;by_cases h9:9<=i;·obtain⟨n,e,-⟩:=h.wk.int i h9 hi;rw[e];rfl
 ·by_cases h5:5<=i
  ·have hk:UG w (W.heap.size+2) o (q i):=by
    rcases Nat.lt_or_ge i 8 with h8|h8
    ·rcases h.wk.keys i h5 U with k|k;·exact k.2
     ·omega
    ·obtain rfl:i=8:=U;exact h.wk.gL
   obtain⟨A,n,cap,ys,base,e,-⟩:=hk;rw[e];rfl
  ·rcases(show i=0\/i=1\/i=2\/i=3\/i=4 from U) with rfl|rfl|rfl|rfl|rfl;·rw[h.wk.o0];rfl
   ·rw[e1];rfl
   ·rw[e2];rfl
   ·rw[e3];rfl
   ·rw[h.wk.o4];rfl
theorem AA(a:Int): ∃n:Nat,bits .and .i64 a 14=n/\n<=14/\n%2=0:=by
 refine⟨(BitVec.ofInt 64 a&&&BitVec.ofInt 64 14).toNat,?_,?_,?_⟩
 ·show IntKind.i64.wrap _=_;apply IntWalk.i64_in;have:(BitVec.ofInt 64 a&&&BitVec.ofInt 64 14).toNat<=14:=by rw[BitVec.toNat_and];exact Nat.and_le_right
  show _<=((BitVec.ofInt 64 a&&&BitVec.ofInt 64 14).toNat:Int)/\((BitVec.ofInt 64 a&&&BitVec.ofInt 64 14).toNat:Int)<=_;omega
 ·rw[BitVec.toNat_and];exact Nat.and_le_right
 ·rw[BitVec.toNat_and];have:=Nat.and_mod_two_pow (a:=(BitVec.ofInt 64 a).toNat) (b:=(BitVec.ofInt 64 14).toNat) (n:=1);rw[Nat.pow_one] at this;rw[this];exact Nat.and_zero _
theorem EEj(i:Nat)(h1:14<=i)(h2:i<39):Xk i=0/\13<=i:=by unfold Xk;rw[if_neg U,if_pos U];omega
theorem EEk(i:Nat)(h1:50<=i)(h2:i<54):Xk i=0/\13<=i:=by unfold Xk;rw[if_neg U,if_neg U,if_neg U,if_neg U,if_neg U,if_neg U];omega
theorem EEl(i n:Nat)(h1:14<=i)(h2:i<34)(hn:n<=15):ZQ i n:=by unfold ZQ Xk Ub;rw[if_neg U,if_pos U,if_neg U,if_neg U,if_neg U,if_pos U];exact⟨U,hn,fun _ h=>U⟩
theorem EEm(i n:Nat)(h1:34<=i)(h2:i<39)(hn:n<=31):ZQ i n:=by unfold ZQ Xk Ub;rw[if_neg U,if_pos U,if_neg U,if_neg U,if_neg U,if_neg U,if_pos U];exact⟨U,hn,fun _ h=>U⟩
theorem EEn(i n:Nat)(h1:51<=i)(h2:i<54)(hn:n<=1000):ZQ i n:=by
 unfold ZQ Xk Ub;refine⟨?_,?_,fun _ h=>U⟩
 ·repeat (first|rw[if_neg U]|rw[if_pos U])
  omega
 ·rw[if_neg U,if_neg U,if_neg U,if_neg U,if_neg U,if_neg U,if_neg U,if_neg U,if_neg U,if_pos U];exact hn
theorem vd:(Tryz.prog.info? 28).map (·.size)=X 56:=Ec
def EEo(w:H)(e:Ending):Prop:= ∃g,e=Eg (EU (EH 56 g))/\ZR w g
theorem EEp(f:Nat->M)(w:H)(hp:nB w f): Ef EJ 9 #[EU (EH 56 f)] w fun e w'=>EEo w' e/\Eh w w':=by
 obtain⟨A8,xs8,EEr,e8,l8,c8,r8,-⟩:=hp.key 8 U U;have HP:=J hp;clear hp;go_enter Tryz.func9,Tryz.ntmps9;go_wp2_with fail;refine(vc A8 xs8 EEr _ (Iq r8 (JF w _ _)) l8 c8).mono ?_;rintro e w1 ⟨⟨B8,n8,d8,Lu,rfl,fq,Lv,k1,k2⟩,b1⟩;have B1:=J b1;clear b1 r8;have HO8:=J Lv;clear Lv l8 c8;have HH:=J e8;clear e8;go_wp2_with (with_reducible refine I2 15 ?_);refine Ed.in ?_;refine IP ?g1 28 #[(0,.tmp 11),(2,.tmp 14)] ?g2 (EH 56 (db (u B8 n8 d8))) ?he ?_;case g1=>rfl
 case g2=>rfl
 case he=>exact EEh B8 n8 d8
 go_wp2_with ((with_reducible show wpList _ _ _ (⟨Z,.store _ (.tmp 3) (.tmp 15),_,_,_,_⟩::_) _ _);refine Ed.mk ?_);refine Ed.in ?_;refine wpList_store_row ?g1 28 (.tmp 3) (.tmp 15) ?g2 w1.heap.size (EH 56 (db (u B8 n8 d8))) ?h1 ?h2 28 ?old ?h3 ?h4 ?h5 ?h6 ?_;case g1=>rfl
 case g2=>rfl
 case h1=>rfl
 case h2=>rfl
 case h3=>exact heap_alloc_new _ _
 case h4=>exact vd
 case h5=>rfl
 case h6=>exact Lt (EEi B8 n8 d8)
 rw[World.setRow_alloc_new]
 have hst:J7 w f w1.heap.size 0 9 (db (u B8 n8 d8)) (w1.alloc (EI (EH 56 (db (u B8 n8 d8))) 28)):=by
  obtain⟨z1,z2,z3⟩:=Hd B1.out;rw[Lr (#[E I 0,_,_,_,_,_,_,_,_,_,_,_,_,_,_,_,_,_,_,_,_,_,_,_,_,_,_,_,_,_,_,_,_,_,_,_,_,_,_,_,_,_,_,_,_,_,_,_,_,_,_,_,_,_,_,_]:Array M) 56 rfl] at z2;have bw:Eh w1 (w1.alloc (EI (EH 56 (db (u B8 n8 d8))) 28)):=Eo _ _;refine⟨heap_alloc_new _ _,Uu z1 bw,⟨_,Uu z2 bw⟩,uw (uw (JF _ _ _) B1.out Ek) bw U,U,?_⟩;refine Wk.B ⟨O,O,⟨1,2,3,O,O,O,U,U,U,U,U,U,U,U,U⟩,fun i h1 h2=> .inr ⟨U,?_⟩,UG.new fq HO8.out k1 k2 (.inr (E5 _)) Ek,fun i h1 h2=>⟨0,?_,Nat.zero_le _,fun h=>U⟩⟩ bw;·unfold db;rw[if_neg U,if_neg U,if_pos U]
  ·unfold db;rw[if_neg U,if_neg U,if_neg U];rfl
 generalize w1.alloc (EI (EH 56 (db (u B8 n8 d8))) 28)=wa at*;have HST:=J hst;clear hst;go_wp2_with fail;go_loopw[4] (fun y wr=> ∃(i:Nat) (q:Nat->M),y=E I i/\1<=i/\i<=3/\J7 w f w1.heap.size 0 9 q wr) (fun y _=>3-(intOf y).toNat);case atStart=>exact⟨1,_,O,U,U,HST.out⟩
 case round=>
  obtain⟨i,q,rfl,hi1,hi3,hs⟩:=hrel;clear HST;obtain⟨cO,fO⟩:=I6 hs.out;obtain⟨cS,-⟩:=I6 hs.src;have hne:w.heap.size≠w1.heap.size:=by have:=hs.lo;omega
  obtain⟨a,b,c,qa,qb,qc,a1,a3,b1,b3,c1,c3,ab,ac,bc⟩:=hs.wk.perm;have q0:=hs.wk.o0;have q4:=hs.wk.o4;have HS:=J hs;clear hs;rcases(show i=1\/i=2\/i=3 from U) with rfl|rfl|rfl
  ·obtain⟨e1,m1,m2⟩:=HP.out.int 1 U U;obtain⟨p1,hp1⟩:=JO (intOf (f 1));rw[hp1] at e1 m1 m2;go_wp2_with fail;refine(ZP p1 3 _ U U U U).mono ?_;rintro e wm ⟨rfl,rfl⟩;rcases(show p1%3=0\/p1%3=1\/p1%3=2 from U) with h|h|h<;>rw[h];·go_wp2;exact⟨⟨2,_,O,U,U,HS.out.order 1 1 a b c _ _ U U U U ZV ZV ZV U U U U U U U U U⟩,Xl⟩
   ·go_wp2;exact⟨⟨2,_,O,U,U,HS.out.order 1 2 b a c _ _ U U U U ZV ZV ZV U U U U U U U U U⟩,Xl⟩
   ·go_wp2;exact⟨⟨2,_,O,U,U,HS.out.order 1 3 c b a _ _ U U U U ZV ZV ZV U U U U U U U U U⟩,Xl⟩
  ·obtain⟨e1,m1,m2⟩:=HP.out.int 2 U U;obtain⟨p1,hp1⟩:=JO (intOf (f 2));rw[hp1] at e1 m1 m2;go_wp2_with fail;refine(ZP p1 2 _ U U U U).mono ?_;rintro e wm ⟨rfl,rfl⟩;rcases(show p1%2=0\/p1%2=1 from U) with h|h<;>rw[h];·go_wp2;exact⟨⟨3,_,O,U,U,HS.out.order 2 2 a b c _ _ U U U U ZV ZV ZV U U U U U U U U U⟩,Xl⟩
   ·go_wp2;exact⟨⟨3,_,O,U,U,HS.out.order 2 3 a c b _ _ U U U U ZV ZV ZV U U U U U U U U U⟩,Xl⟩
  ·go_wp2_with fail;clear cO fO cS qa qb qc q0 q4 a1 a3 b1 b3 c1 c3 ab ac bc;simp only[show((3:Nat):Int)=3 from rfl];go_loopw[7] (fun y wr=> ∃(i:Nat) (q:Nat->M),y=E I i/\i<=3/\J7 w f w1.heap.size i 9 q wr) (fun y _=>3-(intOf y).toNat);case atStart=>exact⟨0,_,O,U,HS.out⟩
   case round=>
    clear HS a b c;obtain⟨i,q,rfl,hi3,hs⟩:=hrel;obtain⟨cO,fO⟩:=I6 hs.out;obtain⟨cS,-⟩:=I6 hs.src;have HS:=J hs;clear hs;rcases(show i=0\/i=1\/i=2\/i=3 from U) with rfl|rfl|rfl|rfl;·obtain⟨A,xs,cap,e,l,c,r,-⟩:=HP.out.key 5 U U;have hr:=Iq r (Below.mono HS.out.bel (E5 _));clear r;go_wp2_with fail;refine(vc A xs cap _ hr l c).mono ?_;rintro e w2 ⟨⟨Y4,n,d,ys,rfl,hl,ho,k1,k2⟩,b1⟩;have hs2:=HS.out.B b1;have hlt:=j_ HS.out.out;clear cO fO cS hr;obtain⟨cO,fO⟩:=I6 hs2.out;have HS2:=J<|hs2.ql 5 (u Y4 n d) O U (UG.new hl ho k1 k2 (.inl hlt) vf);clear hs2 ho b1 hlt HS k1 k2 hl l c;go_wp2;exact⟨⟨1,_,O,U,HS2.out⟩,Xl⟩
    ·obtain⟨A,xs,cap,e,l,c,r,-⟩:=HP.out.key 6 U U;have hr:=Iq r (Below.mono HS.out.bel (E5 _));clear r;go_wp2_with fail;refine(vc A xs cap _ hr l c).mono ?_;rintro e w2 ⟨⟨Y4,n,d,ys,rfl,hl,ho,k1,k2⟩,b1⟩;have hs2:=HS.out.B b1;have hlt:=j_ HS.out.out;clear cO fO cS hr;obtain⟨cO,fO⟩:=I6 hs2.out;have HS2:=J<|hs2.ql 6 (u Y4 n d) O U (UG.new hl ho k1 k2 (.inl hlt) vf);clear hs2 ho b1 hlt HS k1 k2 hl l c;go_wp2;exact⟨⟨2,_,O,U,HS2.out⟩,Xl⟩
    ·obtain⟨A,xs,cap,e,l,c,r,-⟩:=HP.out.key 7 U U;have hr:=Iq r (Below.mono HS.out.bel (E5 _));clear r;go_wp2_with fail;refine(vc A xs cap _ hr l c).mono ?_;rintro e w2 ⟨⟨Y4,n,d,ys,rfl,hl,ho,k1,k2⟩,b1⟩;have hs2:=HS.out.B b1;have hlt:=j_ HS.out.out;clear cO fO cS hr;obtain⟨cO,fO⟩:=I6 hs2.out;have HS2:=J<|hs2.ql 7 (u Y4 n d) O U (UG.new hl ho k1 k2 (.inl hlt) vf);clear hs2 ho b1 hlt HS k1 k2 hl l c;go_wp2;exact⟨⟨3,_,O,U,HS2.out⟩,Xl⟩
    ·have HS:=J<|HS.out.skip 9 U;obtain⟨f10,b10,t10⟩:=HP.out.int 10 U U;obtain⟨f11,b11,t11⟩:=HP.out.int 11 U U;obtain⟨f12,b12,t12⟩:=HP.out.int 12 U U;obtain⟨n10,Oq,c10,d10⟩:=AA (intOf (f 10));obtain⟨n11,Jt,c11,d11⟩:=AA (intOf (f 11));obtain⟨n12,a12,c12,d12⟩:=AA (intOf (f 12));generalize intOf (f 10)=p10 at*;generalize intOf (f 11)=p11 at*;generalize intOf (f 12)=p12 at*;have hne:w.heap.size≠w1.heap.size:=vf;go_wp2_with fail;have HS2:=J<|((((HS.out.XU 10 9 1 1 rfl U XR U).XU 11 10 n10 _ O U XR U).XU 12 11 n11 _ O U XR U).XU 13 12 n12 _ O U XR U).XU 14 13 0 0 rfl U XR U;clear HS cO fO cS f10 f11 f12 b10 b11 b12 t10 t11 t12 Oq Jt a12;simp only[show((3:Nat):Int)=3 from rfl];go_loopw[8] (fun y wr=> ∃(i:Nat) (q:Nat->M),y=E I i/\i<=5/\J7 w f w1.heap.size 3 14 q wr) (fun y _=>5-(intOf y).toNat);case atStart=>exact⟨0,_,O,U,HS2.out⟩
     case round=>
      clear HS2 c10 c11 c12 d10 d11 d12;obtain⟨i,q,rfl,hi5,hs⟩:=hrel;have HS:=J hs;clear hs;by_cases hlt:i<5
      ·go_wp2_with fail;obtain⟨wo,rfl⟩:=En (wr:H);go_loopw[9] (fun y wr=> ∃(k:Nat) (q:Nat->M),y=E I k/\k<=4/\J7 w f w1.heap.size 3 14 q wr) (fun y _=>4-(intOf y).toNat);case atStart=>exact⟨0,_,O,U,HS.out⟩
       case round=>
        clear HS;obtain⟨k,q,rfl,hk4,hs⟩:=hrel;obtain⟨cO,fO⟩:=I6 hs.out;obtain⟨cS,-⟩:=I6 hs.src;have HS:=J hs;clear hs;by_cases hk:k<4;·have hlt':14+i*4+k<56:=U;obtain⟨e1,m1,m2⟩:=HP.out.int (14+i*4+k) hlt' U;obtain⟨p1,hp1⟩:=JO (intOf (f (14+i*4+k)));rw[hp1] at e1 m1 m2;obtain⟨n,hn,hn2⟩: ∃n:Nat,p1%16=n/\n<=15:=⟨(p1%16).toNat,U,U⟩;have fu:=J<|HS.out.XU 14 (14+i*4+k) n (p1%16) hn U (EEl _ _ U U hn2) U;clear hp1 hn hn2;go_wp2_with fail;go_region;go_wp2_with fail;exact⟨⟨k+1,_,qi,U,fu.out.drew⟩,JN⟩
        ·have hlt':34+i<56:=U;obtain⟨e1,m1,m2⟩:=HP.out.int (34+i) hlt' U;obtain⟨p1,hp1⟩:=JO (intOf (f (34+i)));rw[hp1] at e1 m1 m2;obtain⟨n,hn,hn2⟩: ∃n:Nat,p1%32=n/\n<=31:=⟨(p1%32).toNat,U,U⟩;have fu:=J<|HS.out.XU 14 (34+i) n (p1%32) hn U (EEm _ _ U U hn2) U;clear hp1 hn hn2;go_wp2_with fail;exact⟨⟨i+1,_,qi,U,fu.out⟩,JN⟩
      ·have nC:=J<|HS.out.skip 39 (fun i h1 h2=>EEj i h1 h2);clear HS;obtain⟨e1,m1,m2⟩:=HP.out.int 39 U U;obtain⟨p1,hp1⟩:=JO (intOf (f 39));rw[hp1] at e1 m1 m2;clear hp1;obtain⟨n39,hn,t39⟩: ∃n:Nat,p1%5=n/\n<=4:=⟨(p1%5).toNat,U,U⟩;obtain⟨cO,fO⟩:=I6 nC.out.out;obtain⟨cS,-⟩:=I6 nC.out.src;have HN:=J hn;clear hn;go_wp2_with fail;refine(ZP p1 5 _ U U U U).mono ?_;rintro e wm ⟨rfl,rfl⟩;rw[HN.out];clear hlt e1 m1 m2 HN;obtain⟨e1,m1,m2⟩:=HP.out.int 40 U U;obtain⟨p1,hp1⟩:=JO (intOf (f 40));rw[hp1] at e1 m1 m2;clear hp1;obtain⟨n40,hn,t40⟩: ∃n:Nat,p1%5=n/\n<=4:=⟨(p1%5).toNat,U,U⟩;have HN:=J hn;clear hn;go_wp2_with fail;refine(ZP p1 5 _ U U U U).mono ?_;rintro e wm ⟨rfl,rfl⟩;rw[HN.out];have vg:=J<|nC.out.XU 40 39 n39 ((n39:Int)) U U XR U;clear nC cO fO cS;generalize World.setCell _ ⟨w1.heap.size,39,Z⟩ (E I ((n39:Int)))=x1 at*;clear e1 m1 m2 HN t39;obtain⟨cO,fO⟩:=I6 vg.out.out;obtain⟨cS,-⟩:=I6 vg.out.src;obtain⟨e1,m1,m2⟩:=HP.out.int 41 U U;obtain⟨p1,hp1⟩:=JO (intOf (f 41));rw[hp1] at e1 m1 m2;clear hp1;obtain⟨n41,hn,t41⟩: ∃n:Nat,p1%5=n/\n<=4:=⟨(p1%5).toNat,U,U⟩;have HN:=J hn;clear hn;go_wp2_with fail;refine(ZP p1 5 _ U U U U).mono ?_;rintro e wm ⟨rfl,rfl⟩;rw[HN.out];have HS2:=J<|vg.out.XU 41 40 n40 ((n40:Int)) U U XR U;clear vg cO fO cS;generalize World.setCell _ ⟨w1.heap.size,40,Z⟩ (E I ((n40:Int)))=x2 at*;clear e1 m1 m2 HN t40;obtain⟨cO,fO⟩:=I6 HS2.out.out;obtain⟨cS,-⟩:=I6 HS2.out.src;obtain⟨e1,m1,m2⟩:=HP.out.int 42 U U;obtain⟨p1,hp1⟩:=JO (intOf (f 42));rw[hp1] at e1 m1 m2;clear hp1;obtain⟨n42,hn,t42⟩: ∃n:Nat,p1%1000=n/\n<=999:=⟨(p1%1000).toNat,U,U⟩;have HN:=J hn;clear hn;go_wp2_with fail;refine(ZP p1 1000 _ U U U U).mono ?_;rintro e wm ⟨rfl,rfl⟩;rw[HN.out];have fu:=J<|HS2.out.XU 42 41 n41 ((n41:Int)) U U XR U;clear HS2 cO fO cS;generalize World.setCell _ ⟨w1.heap.size,41,Z⟩ (E I ((n41:Int)))=x3 at*;clear e1 m1 m2 HN t41;obtain⟨cO,fO⟩:=I6 fu.out.out;obtain⟨cS,-⟩:=I6 fu.out.src;obtain⟨e1,m1,m2⟩:=HP.out.int 43 U U;obtain⟨p1,hp1⟩:=JO (intOf (f 43));rw[hp1] at e1 m1 m2;clear hp1;obtain⟨n43,hn,t43⟩: ∃n:Nat,p1%1000=n/\n<=999:=⟨(p1%1000).toNat,U,U⟩;have HN:=J hn;clear hn;go_wp2_with fail;refine(ZP p1 1000 _ U U U U).mono ?_;rintro e wm ⟨rfl,rfl⟩;rw[HN.out];have vh:=J<|fu.out.XU 43 42 (1+n42) (1+(n42:Int)) U U XR U;clear fu cO fO cS;generalize World.setCell _ ⟨w1.heap.size,42,Z⟩ (E I (1+(n42:Int)))=x4 at*;clear e1 m1 m2 HN t42;obtain⟨cO,fO⟩:=I6 vh.out.out;obtain⟨cS,-⟩:=I6 vh.out.src;obtain⟨e1,m1,m2⟩:=HP.out.int 44 U U;obtain⟨p1,hp1⟩:=JO (intOf (f 44));rw[hp1] at e1 m1 m2;clear hp1;obtain⟨n44,hn,t44⟩: ∃n:Nat,p1%1000=n/\n<=999:=⟨(p1%1000).toNat,U,U⟩;have HN:=J hn;clear hn;go_wp2_with fail;refine(ZP p1 1000 _ U U U U).mono ?_;rintro e wm ⟨rfl,rfl⟩;rw[HN.out];have vj:=J<|vh.out.XU 44 43 (1+n43) (1+(n43:Int)) U U XR U;clear vh cO fO cS;generalize World.setCell _ ⟨w1.heap.size,43,Z⟩ (E I (1+(n43:Int)))=x5 at*;clear e1 m1 m2 HN t43;obtain⟨cO,fO⟩:=I6 vj.out.out;obtain⟨cS,-⟩:=I6 vj.out.src;obtain⟨e1,m1,m2⟩:=HP.out.int 45 U U;obtain⟨p1,hp1⟩:=JO (intOf (f 45));rw[hp1] at e1 m1 m2;clear hp1;obtain⟨n45,hn,t45⟩: ∃n:Nat,p1%1000=n/\n<=999:=⟨(p1%1000).toNat,U,U⟩;have HN:=J hn;clear hn;go_wp2_with fail;refine(ZP p1 1000 _ U U U U).mono ?_;rintro e wm ⟨rfl,rfl⟩;rw[HN.out];have vl:=J<|vj.out.XU 45 44 (1+n44) (1+(n44:Int)) U U XR U;clear vj cO fO cS;generalize World.setCell _ ⟨w1.heap.size,44,Z⟩ (E I (1+(n44:Int)))=x6 at*;clear e1 m1 m2 HN t44;obtain⟨cO,fO⟩:=I6 vl.out.out;obtain⟨cS,-⟩:=I6 vl.out.src;obtain⟨e1,m1,m2⟩:=HP.out.int 46 U U;obtain⟨p1,hp1⟩:=JO (intOf (f 46));rw[hp1] at e1 m1 m2;clear hp1;obtain⟨n46,hn,t46⟩: ∃n:Nat,p1%1000=n/\n<=999:=⟨(p1%1000).toNat,U,U⟩;have HN:=J hn;clear hn;go_wp2_with fail;refine(ZP p1 1000 _ U U U U).mono ?_;rintro e wm ⟨rfl,rfl⟩;rw[HN.out];have vm:=J<|vl.out.XU 46 45 (1+n45) (1+(n45:Int)) U U XR U;clear vl cO fO cS;generalize World.setCell _ ⟨w1.heap.size,45,Z⟩ (E I (1+(n45:Int)))=x7 at*;clear e1 m1 m2 HN t45;obtain⟨cO,fO⟩:=I6 vm.out.out;obtain⟨cS,-⟩:=I6 vm.out.src;obtain⟨e1,m1,m2⟩:=HP.out.int 47 U U;obtain⟨p1,hp1⟩:=JO (intOf (f 47));rw[hp1] at e1 m1 m2;clear hp1;obtain⟨n47,hn,t47⟩: ∃n:Nat,p1%1001=n/\n<=1000:=⟨(p1%1001).toNat,U,U⟩;have HN:=J hn;clear hn;go_wp2_with fail;refine(ZP p1 1001 _ U U U U).mono ?_;rintro e wm ⟨rfl,rfl⟩;rw[HN.out];have vn:=J<|vm.out.XU 47 46 (1+n46) (1+(n46:Int)) U U XR U;clear vm cO fO cS;generalize World.setCell _ ⟨w1.heap.size,46,Z⟩ (E I (1+(n46:Int)))=x8 at*;clear e1 m1 m2 HN t46;obtain⟨cO,fO⟩:=I6 vn.out.out;obtain⟨cS,-⟩:=I6 vn.out.src;obtain⟨e1,m1,m2⟩:=HP.out.int 48 U U;obtain⟨p1,hp1⟩:=JO (intOf (f 48));rw[hp1] at e1 m1 m2;clear hp1;obtain⟨n48,hn,t48⟩: ∃n:Nat,p1%3=n/\n<=2:=⟨(p1%3).toNat,U,U⟩;have HN:=J hn;clear hn;go_wp2_with fail;refine(ZP p1 3 _ U U U U).mono ?_;rintro e wm ⟨rfl,rfl⟩;rw[HN.out];have vo:=J<|vn.out.XU 48 47 n47 ((n47:Int)) U U XR U;clear vn cO fO cS;generalize World.setCell _ ⟨w1.heap.size,47,Z⟩ (E I ((n47:Int)))=x9 at*;clear e1 m1 m2 HN t47;obtain⟨cO,fO⟩:=I6 vo.out.out;obtain⟨cS,-⟩:=I6 vo.out.src;obtain⟨e1,m1,m2⟩:=HP.out.int 49 U U;obtain⟨p1,hp1⟩:=JO (intOf (f 49));rw[hp1] at e1 m1 m2;clear hp1;obtain⟨n49,hn,t49⟩: ∃n:Nat,p1%3=n/\n<=2:=⟨(p1%3).toNat,U,U⟩;have HN:=J hn;clear hn;go_wp2_with fail;refine(ZP p1 3 _ U U U U).mono ?_;rintro e wm ⟨rfl,rfl⟩;rw[HN.out];have vp:=J<|vo.out.XU 49 48 (1+n48) (1+(n48:Int)) U U XR U;clear vo cO fO cS;generalize World.setCell _ ⟨w1.heap.size,48,Z⟩ (E I (1+(n48:Int)))=jO at*;clear e1 m1 m2 HN t48;obtain⟨cO,fO⟩:=I6 vp.out.out;obtain⟨cS,-⟩:=I6 vp.out.src;go_wp2_with fail;have Lw:=J<|(vp.out.XU 50 49 (1+n49) (1+(n49:Int)) U U XR U).skip 54 (fun i h1 h2=>EEk i h1 h2);clear vp cO fO cS;try simp only[show((3:Nat):Int)=3 from rfl]
       go_loopw[10] (fun y wr=> ∃(i:Nat) (q:Nat->M),y=E I i/\1<=i/\i<=4/\J7 w f w1.heap.size 3 54 q wr) (fun y _=>4-(intOf y).toNat);case atStart=>exact⟨1,_,O,U,U,Lw.out⟩
       case round=>
        clear Lw;obtain⟨i,q,rfl,hi1,hi4,hs⟩:=hrel;obtain⟨cO,fO⟩:=I6 hs.out;obtain⟨cS,-⟩:=I6 hs.src;have HS:=J hs;clear hs;by_cases hlt:i<4;·have hlt':50+i<56:=U;obtain⟨e1,m1,m2⟩:=HP.out.int (50+i) hlt' U;obtain⟨p1,hp1⟩:=JO (intOf (f (50+i)));rw[hp1] at e1 m1 m2;clear hp1;obtain⟨n,hn,hn2⟩: ∃n:Nat,p1%1001=n/\n<=1000:=⟨(p1%1001).toNat,U,U⟩;have fu:=J<|HS.out.XU 54 (50+i) n n O U (EEn _ _ U U hn2) U;have HN:=J hn;clear hn;go_wp2_with fail;refine(ZP p1 1001 _ U U U U).mono ?_;rintro e wm ⟨rfl,rfl⟩;rw[HN.out];go_wp2_with fail;exact⟨⟨i+1,_,qi,U,U,fu.out⟩,JN⟩
        ·obtain⟨e1,m1,m2⟩:=HP.out.int 54 U U;obtain⟨p1,hp1⟩:=JO (intOf (f 54));rw[hp1] at e1 m1 m2;clear hp1;obtain⟨n54,hn,t54⟩: ∃n:Nat,p1%1000=n/\n<=999:=⟨(p1%1000).toNat,U,U⟩;have HN:=J hn;clear hn;go_wp2_with fail;refine(ZP p1 1000 _ U U U U).mono ?_;rintro e wm ⟨rfl,rfl⟩;rw[HN.out];clear hlt e1 m1 m2 HN;obtain⟨e1,m1,m2⟩:=HP.out.int 55 U U;obtain⟨p1,hp1⟩:=JO (intOf (f 55));rw[hp1] at e1 m1 m2;clear hp1;obtain⟨n55,hn,t55⟩: ∃n:Nat,p1%65536=n/\n<=65535:=⟨(p1%65536).toNat,U,U⟩;have Lx:=J<|(HS.out.XU 55 54 (1+n54) (1+(n54:Int)) U U XR U).XU 56 55 n55 (p1%65536) hn U XR U;clear hn;go_wp2_with (with_reducible refine I2 170 ?_);refine Ed.in ?_;clear HS cO fO cS;generalize World.setCell _ ⟨w1.heap.size,55,Z⟩ (E I (p1%65536))=xx at*;obtain⟨qq,HQ⟩: ∃qq,Ea (J7 w f w1.heap.size 3 56 qq xx):=⟨_,Lx⟩;clear Lx;refine wpList_load_row ?g1 28 (.tmp 3) ?g2 w1.heap.size ?g3 28 (EH 56 qq) (0,0) _ ?h1 Tryz.underlying28 ?h3 ?h4 ?_;case g1=>rfl
         case g2=>rfl
         case g3=>rfl
         case h1=>exact HQ.out.out
         case h3=>rfl
         case h4=>rw[vd,kA]
         obtain⟨r,hr⟩:=HQ.out.res;have HR:=J hr;clear hr;go_wp2_with ((with_reducible show wpList _ _ _ (⟨Z,.store _ (.tmp 2) (.tmp 170),_,_,_,_⟩::_) _ _);refine Ed.mk ?_);refine Ed.in ?_;refine wpList_store_row ?g1 28 (.tmp 2) (.tmp 170) ?g2 (w.heap.size+1) (EH 56 qq) ?h1 ?h2 28 (EH 56 r) ?h3 ?h4 ?h5 ?h6 ?_;case g1=>rfl
         case g2=>rfl
         case h1=>rfl
         case h2=>rfl
         case h3=>exact HR.out
         case h4=>rw[vd,kA]
         case h5=>rw[kA,kA]
         case h6=>exact Lt HQ.out.one
         go_wp2_with fail;refine EQ (v:=EU (EH 56 qq)) ?_ O ⟨⟨qq,O,HQ.out.done⟩,E2 HQ.out.bel U _⟩;exact results_cell_row O _ _ (w.heap.size+1) 28 (EH 56 qq) (0,0) _ O (setRow_heap _ _ _ _ _ _ HR.out) Tryz.underlying28 O (by rw[vd,kA])
theorem EEt(W:H)(h e o oa om la lm:Int)(b:Bool)(g3:Nat)(KT:D W g3 #[E I h,E I e,E I o,E I oa,E I om,E I la,E I lm,Eb b] 109)(g7:Nat)(s:Int)(K7:D W g7 #[E I s] 3): Ef EJ 221 #[V (X ⟨g7,0,Z⟩),V (X ⟨g3,0,Z⟩)] W fun x w'=>x=Eg (Eb (decide (s≠h)))/\Eh W w':=by
 have vO:g3<W.heap.size:=D.lt KT;have vU:W.cell? ⟨g3,0,Z⟩=X (E I h):=(D.cell KT 0).trans O;have c31:W.cell? ⟨g3,1,Z⟩=X (E I e):=(D.cell KT 1).trans O;have c32:W.cell? ⟨g3,2,Z⟩=X (E I o):=(D.cell KT 2).trans O;have vX:W.cell? ⟨g3,3,Z⟩=X (E I oa):=(D.cell KT 3).trans O;have c34:W.cell? ⟨g3,4,Z⟩=X (E I om):=(D.cell KT 4).trans O;have vZ:W.cell? ⟨g3,5,Z⟩=X (E I la):=(D.cell KT 5).trans O;have vb:W.cell? ⟨g3,6,Z⟩=X (E I lm):=(D.cell KT 6).trans O;have c37:W.cell? ⟨g3,7,Z⟩=X (Eb b):=(D.cell KT 7).trans O;have EEu:g7<W.heap.size:=D.lt K7;have ci7:W.cell? ⟨g7,0,Z⟩=X (E I s):=(D.cell K7 0).trans O;by_cases hx:s≠h;·rw[Ia hx];have d1:(s !=h)=G:=qm;exact Em_
 ·rw[E9 hx];have d1:(s !=h)=Y:=AB;exact Em_
theorem EEw(W:H)(h e o oa om la lm:Int)(b:Bool)(g3:Nat)(KT:D W g3 #[E I h,E I e,E I o,E I oa,E I om,E I la,E I lm,Eb b] 109): Ef EJ 222 #[V (X ⟨g3,0,Z⟩)] W fun x w'=>x=Eg (Eb (decide (65535<=e)))/\Eh W w':=by
 have vO:g3<W.heap.size:=D.lt KT;have vU:W.cell? ⟨g3,0,Z⟩=X (E I h):=(D.cell KT 0).trans O;have c31:W.cell? ⟨g3,1,Z⟩=X (E I e):=(D.cell KT 1).trans O;have c32:W.cell? ⟨g3,2,Z⟩=X (E I o):=(D.cell KT 2).trans O;have vX:W.cell? ⟨g3,3,Z⟩=X (E I oa):=(D.cell KT 3).trans O;have c34:W.cell? ⟨g3,4,Z⟩=X (E I om):=(D.cell KT 4).trans O;have vZ:W.cell? ⟨g3,5,Z⟩=X (E I la):=(D.cell KT 5).trans O;have vb:W.cell? ⟨g3,6,Z⟩=X (E I lm):=(D.cell KT 6).trans O;have c37:W.cell? ⟨g3,7,Z⟩=X (Eb b):=(D.cell KT 7).trans O;by_cases hx:65535<=e;·rw[Ia hx];have d1:decide (65535<=e)=G:=Ia hx;exact EnX
 ·rw[E9 hx];have d1:decide (65535<=e)=Y:=E9 hx;exact EnX
theorem EEx(W:H)(g8:Nat)(IG:Int)(K8:D W g8 #[E I IG] 3)(g7:Nat)(s:Int)(K7:D W g7 #[E I s] 3): Ef EJ 223 #[V (X ⟨g8,0,Z⟩),V (X ⟨g7,0,Z⟩)] W fun x w'=>x=Eg (Eb (decide (IG=s)))/\Eh W w':=by
 have EEy:g8<W.heap.size:=D.lt K8;have ci8:W.cell? ⟨g8,0,Z⟩=X (E I IG):=(D.cell K8 0).trans O;have EEu:g7<W.heap.size:=D.lt K7;have ci7:W.cell? ⟨g7,0,Z⟩=X (E I s):=(D.cell K7 0).trans O;by_cases hx:IG=s;·rw[Ia hx];have d1:(IG==s)=G:=qm;exact EnI
 ·rw[E9 hx];have d1:(IG==s)=Y:=beq_eq_false_iff_ne.2 hx;exact EnI
theorem EEA(W:H)(g8:Nat)(IG:Int)(K8:D W g8 #[E I IG] 3)(g9:Nat)(th:Bool)(K9:D W g9 #[Eb th] 4): Ef EJ 224 #[V (X ⟨g8,0,Z⟩),V (X ⟨g9,0,Z⟩)] W fun x w'=>x=Eg (Eb (decide (IG<1\/3<IG\/th=Y)))/\Eh W w':=by
 have EEy:g8<W.heap.size:=D.lt K8;have ci8:W.cell? ⟨g8,0,Z⟩=X (E I IG):=(D.cell K8 0).trans O;have Egj:g9<W.heap.size:=D.lt K9;have ci9:W.cell? ⟨g9,0,Z⟩=X (Eb th):=(D.cell K9 0).trans O;by_cases h1:IG<1;·rw[Ia (.inl h1)];have d1:decide (IG<1)=G:=Ia h1;clear K8 K9 h1;go_enter Tryz.func224,Tryz.ntmps224;exact Eh1
 have d1:decide (IG<1)=Y:=E9 h1;by_cases h2:3<IG;·rw[Ia (.inr (.inl h2))];have d2:decide (3<IG)=G:=Ia h2;clear K8 K9 h1 h2;go_enter Tryz.func224,Tryz.ntmps224;exact Eh1
 have d2:decide (3<IG)=Y:=E9 h2;cases th with
 |false=> rw[Ia (.inr (.inr O))];clear K8 K9 h1 h2;go_enter Tryz.func224,Tryz.ntmps224;go_wp2;go_ret;exact⟨O,by(repeat (first|exact E6 _ _|(refine Below.alloc ?_ Io _)|(refine Below.setCell ?_ Io _)))⟩
 |true=> rw[E9 JJ];clear K8 K9 h1 h2;go_enter Tryz.func224,Tryz.ntmps224;go_wp2;go_ret;exact⟨O,by(repeat (first|exact E6 _ _|(refine Below.alloc ?_ Io _)|(refine Below.setCell ?_ Io _)))⟩
theorem EEB(W:H)(h e o oa om la lm:Int)(b:Bool)(g3:Nat)(KT:D W g3 #[E I h,E I e,E I o,E I oa,E I om,E I la,E I lm,Eb b] 109): Ef EJ 225 #[V (X ⟨g3,0,Z⟩)] W fun x w'=>x=Eg (Eb (decide (0<=o)))/\Eh W w':=by
 have vO:g3<W.heap.size:=D.lt KT;have vU:W.cell? ⟨g3,0,Z⟩=X (E I h):=(D.cell KT 0).trans O;have c31:W.cell? ⟨g3,1,Z⟩=X (E I e):=(D.cell KT 1).trans O;have c32:W.cell? ⟨g3,2,Z⟩=X (E I o):=(D.cell KT 2).trans O;have vX:W.cell? ⟨g3,3,Z⟩=X (E I oa):=(D.cell KT 3).trans O;have c34:W.cell? ⟨g3,4,Z⟩=X (E I om):=(D.cell KT 4).trans O;have vZ:W.cell? ⟨g3,5,Z⟩=X (E I la):=(D.cell KT 5).trans O;have vb:W.cell? ⟨g3,6,Z⟩=X (E I lm):=(D.cell KT 6).trans O;have c37:W.cell? ⟨g3,7,Z⟩=X (Eb b):=(D.cell KT 7).trans O;by_cases hx:0<=o;·rw[Ia hx];have d1:decide (0<=o)=G:=Ia hx;exact EnU
 ·rw[E9 hx];have d1:decide (0<=o)=Y:=E9 hx;exact EnU
theorem EEC(f:Nat->M)(t:EL)(s IG po:Int)(th:Bool)(w:H)(hp:f 44=E I po): Ef EJ 178 #[EU (EH 56 f),t.a,E I s,E I IG,Eb th] w fun x w'=>x=Eg (Es #[(t.make po s IG th).1.a,E I (t.make po s IG th).2])/\Eh w w':=by
 have HE:Ea (t.make po s IG th=if s≠t.h then(t,20) else if 65535<=t.e then(t,24) else if IG=s then(t,25) else if IG<1\/3<IG\/th=Y then(t,2) else if 0<=t.o then(t,28) else({t with o:=IG,oa:=0,om:=max po 0},0)):=J O;have CS:=J<|fun W=>uH po W;generalize max po 0=mp at*;have HP:=J hp;clear hp;unfold EL.a at*;obtain⟨h,e,o,oa,om,la,lm,b⟩:=t;simp only at*;unfold Oo at*;go_enter Tryz.func178,Tryz.ntmps178;go_wp2_with fail;generalize hW:World.alloc _ _=W at*;have K0:Ea (D W (w.heap.size) (EH 56 f) 28):=J (by subst hW;repeat (first|exact D.new _ _ _|exact D.new' _ _ _ Ek|refine D.alloc ?_ _));have K1:Ea (D W (w.heap.size+1) #[E I h,E I e,E I o,E I oa,E I om,E I la,E I lm,Eb b] 109):=J (by subst hW;repeat (first|exact D.new _ _ _|exact D.new' _ _ _ Ek|refine D.alloc ?_ _));have K2:Ea (D W (w.heap.size+1+1) #[E I s] 3):=J (by subst hW;repeat (first|exact D.new _ _ _|exact D.new' _ _ _ Ek|refine D.alloc ?_ _));have K3:Ea (D W (w.heap.size+1+1+1) #[E I IG] 3):=J (by subst hW;repeat (first|exact D.new _ _ _|exact D.new' _ _ _ Ek|refine D.alloc ?_ _));have K4:Ea (D W (w.heap.size+1+1+1+1) #[Eb th] 4):=J (by subst hW;repeat (first|exact D.new _ _ _|exact D.new' _ _ _ Ek|refine D.alloc ?_ _));have K5:Ea (D W (w.heap.size+1+1+1+1+1) #[E I 0,E I 0,E I 0,E I 0,E I 0,E I 0,E I 0,Eb Y] 109):=J (by subst hW;repeat (first|exact D.new _ _ _|exact D.new' _ _ _ Ek|refine D.alloc ?_ _));have K6:Ea (D W (w.heap.size+1+1+1+1+1+1) #[E I 20,.func (.func 221) #[] #[V (X ⟨w.heap.size+1+1,0,Z⟩),V (X ⟨w.heap.size+1,0,Z⟩)],E I 24,.func (.func 222) #[] #[V (X ⟨w.heap.size+1,0,Z⟩)],E I 25,.func (.func 223) #[] #[V (X ⟨w.heap.size+1+1+1,0,Z⟩),V (X ⟨w.heap.size+1+1,0,Z⟩)],E I 2,.func (.func 224) #[] #[V (X ⟨w.heap.size+1+1+1,0,Z⟩),V (X ⟨w.heap.size+1+1+1+1,0,Z⟩)],E I 28,.func (.func 225) #[] #[V (X ⟨w.heap.size+1,0,Z⟩)]] 317):=J (by subst hW;repeat (first|exact D.new _ _ _|exact D.new' _ _ _ Ek|refine D.alloc ?_ _));have BB:Ea (Eh w W):=J (by subst hW;(repeat (first|exact E6 _ _|(refine Below.alloc ?_ Io _)|(refine Below.setCell ?_ Io _))));clear hW
 have CF:=Lp [⟨20,221,#[V (X ⟨w.heap.size+1+1,0,Z⟩),V (X ⟨w.heap.size+1,0,Z⟩)],decide (s≠h)⟩,⟨24,222,#[V (X ⟨w.heap.size+1,0,Z⟩)],decide (65535<=e)⟩,⟨25,223,#[V (X ⟨w.heap.size+1+1+1,0,Z⟩),V (X ⟨w.heap.size+1+1,0,Z⟩)],decide (IG=s)⟩,⟨2,224,#[V (X ⟨w.heap.size+1+1+1,0,Z⟩),V (X ⟨w.heap.size+1+1+1+1,0,Z⟩)],decide (IG<1\/3<IG\/th=Y)⟩,⟨28,225,#[V (X ⟨w.heap.size+1,0,Z⟩)],decide (0<=o)⟩] (w.heap.size+1+1+1+1+1+1) 5 W O U K6.out (by
  intro c hc;simp only[List.mem_cons,List.not_mem_nil,or_false] at hc;rcases hc with rfl|rfl|rfl|rfl|rfl;·exact⟨fun _ _=>Ec,fun W2 hW2=>EEt W2 h e o oa om la lm b _ (K1.out.B hW2) _ s (K2.out.B hW2)⟩
  ·exact⟨fun _ _=>Ec,fun W2 hW2=>EEw W2 h e o oa om la lm b _ (K1.out.B hW2)⟩
  ·exact⟨fun _ _=>Ec,fun W2 hW2=>EEx W2 _ IG (K3.out.B hW2) _ s (K2.out.B hW2)⟩
  ·exact⟨fun _ _=>Ec,fun W2 hW2=>EEA W2 _ IG (K3.out.B hW2) _ th (K4.out.B hW2)⟩
  ·exact⟨fun _ _=>Ec,fun W2 hW2=>EEB W2 h e o oa om la lm b _ (K1.out.B hW2)⟩)
 simp only[fp,decide_eq_true_eq] at CF;replace CF:=J CF;clear K6 K2 K4;by_cases h0:s≠h;·rw[if_pos h0] at CF HE;exact EhY
 rw[if_neg h0] at CF HE;by_cases h1:65535<=e;·rw[if_pos h1] at CF HE;exact EhY
 rw[if_neg h1] at CF HE;by_cases h2:IG=s;·rw[if_pos h2] at CF HE;exact EhY
 rw[if_neg h2] at CF HE;by_cases h3:IG<1\/3<IG\/th=Y;·rw[if_pos h3] at CF HE;exact EhY
 rw[if_neg h3] at CF HE;by_cases h4:0<=o;·rw[if_pos h4] at CF HE;exact EhY
 rw[if_neg h4] at CF HE;(with_reducible refine CF.out.mono ?_);rintro x W2 ⟨rfl,b2⟩;replace K0:=J<|K0.out.B b2;replace K1:=J<|K1.out.B b2;replace K3:=J<|K3.out.B b2;replace K5:=J<|K5.out.B b2;replace BB:=ET BB b2;clear b2 CF h0 h1 h2 h3 h4;go_wp2_with fail;have c3: ∀y:Ext W2,(Ex W2 y).cell? ⟨w.heap.size+1+1+1,0,Z⟩=X (E I IG):=fun y=>((K3.out.B (EC y)).cell 0).trans O;have c0: ∀y:Ext W2,(Ex W2 y).cell? ⟨w.heap.size,44,Z⟩=X (E I po):=fun y=>((K0.out.B (EC y)).cell 44).trans (by rw[bI,if_pos U,HP.out]);refine JB 5 Ec Ec ?_;simp only[Il,Ij,Iz,Ix]
 repeat (first
  |go_big_quiet_skip
  |(go_big_quiet_want
    first
     |(go_big_quiet_op
       first
        |go_big_quiet_on
        |go_big_quiet_call (with_reducible refine X6 (CS.out _)))))
 refine wpQuiet_nil ?_;intro _ hw';obtain⟨y9,rfl⟩:=hw';have El:=EC y9;replace K1:=J<|K1.out.B El;replace K5:=J<|K5.out.B El;replace BB:=ET BB El;clear c3 c0 K0 K3 CS;generalize Ex W2 y9=W3 at*;have a2:W3.cell? ⟨w.heap.size+1,2,Z⟩=X (E I o):=(K1.out.cell 2).trans O;have a3:W3.cell? ⟨w.heap.size+1,3,Z⟩=X (E I oa):=(K1.out.cell 3).trans O;have a4:W3.cell? ⟨w.heap.size+1,4,Z⟩=X (E I om):=(K1.out.cell 4).trans O;have f2:W3.frozen? ⟨w.heap.size+1,2,Z⟩=Y:=K1.out.Jw _;have f3:W3.frozen? ⟨w.heap.size+1,3,Z⟩=Y:=K1.out.Jw _;have f4:W3.frozen? ⟨w.heap.size+1,4,Z⟩=Y:=K1.out.Jw _;obtain⟨W4,qn⟩: ∃W4,W4=((W3.setCell ⟨w.heap.size+1,2,Z⟩ (E I IG)).setCell ⟨w.heap.size+1,3,Z⟩ (E I 0)).setCell ⟨w.heap.size+1,4,Z⟩ (E I mp):=⟨_,O⟩;have Ly:Ea (D W4 (w.heap.size+1) #[E I h,E I e,E I IG,E I 0,E I mp,E I la,E I lm,Eb b] 109):=J (by subst qn;have:=((K1.out.set 2 (E I IG)).set 3 (E I 0)).set 4 (E I mp);simpa using this);have dc:Ea (D W4 (w.heap.size+1+1+1+1+1) #[E I 0,E I 0,E I 0,E I 0,E I 0,E I 0,E I 0,Eb Y] 109):=J (by subst qn;exact((K5.out.other _ 2 _ U).other _ 3 _ U).other _ 4 _ U);have Lz:Ea (Eh w W4):=J (by subst qn;exact((BB.out.setCell (p:=⟨w.heap.size+1,2,Z⟩) Ek _).setCell (p:=⟨w.heap.size+1,3,Z⟩) Ek _).setCell (p:=⟨w.heap.size+1,4,Z⟩) Ek _);rw[qn] at Ly dc Lz;clear K1 K5 BB qn El;go_wp2_with (with_reducible first|refine wL EP Ly ?_|refine wS (cs:= #[E I h,E I e,E I IG,E I 0,E I mp,E I la,E I lm,Eb b]) EP dc ?_ (h1:=OP));refine EQ (O0 EP O _ _ (w.heap.size+1+1+1+1+1) _ _ O O (dc.out.setRow _) O) O ⟨?_,E2 (g:=w.heap.size+1+1+1+1+1) Lz.out U _⟩;rw[HE.out];rfl
theorem qo(K:EV W g T)(h:T.ok)(i j:Nat)(hj:j<39):W.cell? ⟨g,so i+j,Z⟩=(T.ER i).v[j]?:=by unfold EV at K;rw[T.nm i] at K;exact ZH K (EM.kh h i) j (by rw[IM.JG (h.ER i).len];exact hj)
theorem dg(K:EV W g T)(h:T.ok):W.cell? ⟨g,120,Z⟩=X (E I T.E3)/\W.cell? ⟨g,121,Z⟩=X (E I T.most):=by
 have e:T.v=(T.hd++T.s0.v++T.s1.v++T.s2.v)++(T.tl++[]):=by simp[EM.v]
 unfold EV at K;rw[e] at K;have hl:(T.hd++T.s0.v++T.s1.v++T.s2.v).length=120:=by simp[EM.hd,IM.JG h.s0.len,IM.JG h.s1.len,IM.JG h.s2.len]
 exact⟨ZH K hl 0 (by simp[EM.tl]),ZH K hl 1 (by simp[EM.tl])⟩
theorem EED(K:EV W g T):W.cell? ⟨g,0,Z⟩=X (Eb T.XC):=by unfold EV at K;rw[K.cell 0,List.getElem?_toArray];rfl
theorem qp(_:EV W g T)(h:T.ok):T.v.toArray.size=122:=by simp[EM.v,EM.hd,EM.tl,IM.JG h.s0.len,IM.JG h.s1.len,IM.JG h.s2.len]
theorem EV.B(K:EV W g T)(hb:Eh W w'):EV w' g T:=D.B K hb
def EM.of(T:EM)(g:Nat)(src:Int):M:=
 if src=1\/src=2\/src=3 then(if(T.ER (src-1).toNat).on then V (X ⟨g,so (src-1).toNat,Z⟩) else V Z) else V Z
theorem EEF(g:Nat)(src:Int)(w:H)(h:src<1\/3<src): Ef EJ 76 #[V (X ⟨g,0,Z⟩),E I src] w fun e w'=>e=Eg (V Z)/\w=w':=by
 by_cases h1:src<1;·have d1:decide (src<1)=G:=Ia h1;exact EmG
 ·have d1:decide (src<1)=Y:=E9 h1;have d2:decide (3<src)=G:=Ia U;clear h;exact EmG
theorem EEG(g:Nat)(w:H)(c:w.cell? ⟨g,3,Z⟩=X (Eb G)): Ef EJ 76 #[V (X ⟨g,0,Z⟩),E I 1] w fun e w'=>e=Eg (V (X ⟨g,3,Z⟩))/\w=w':=by exact EmG
theorem EEH(g:Nat)(w:H)(c:w.cell? ⟨g,3,Z⟩=X (Eb Y)): Ef EJ 76 #[V (X ⟨g,0,Z⟩),E I 1] w fun e w'=>e=Eg (V Z)/\w=w':=by exact EmG
theorem EEK(g:Nat)(w:H)(c:w.cell? ⟨g,42,Z⟩=X (Eb G)): Ef EJ 76 #[V (X ⟨g,0,Z⟩),E I 2] w fun e w'=>e=Eg (V (X ⟨g,42,Z⟩))/\w=w':=by exact EmG
theorem EEL(g:Nat)(w:H)(c:w.cell? ⟨g,42,Z⟩=X (Eb Y)): Ef EJ 76 #[V (X ⟨g,0,Z⟩),E I 2] w fun e w'=>e=Eg (V Z)/\w=w':=by exact EmG
theorem EEM(g:Nat)(w:H)(c:w.cell? ⟨g,81,Z⟩=X (Eb G)): Ef EJ 76 #[V (X ⟨g,0,Z⟩),E I 3] w fun e w'=>e=Eg (V (X ⟨g,81,Z⟩))/\w=w':=by exact EmG
theorem EEN(g:Nat)(w:H)(c:w.cell? ⟨g,81,Z⟩=X (Eb Y)): Ef EJ 76 #[V (X ⟨g,0,Z⟩),E I 3] w fun e w'=>e=Eg (V Z)/\w=w':=by exact EmG
theorem kD(g:Nat)(T:EM)(src:Int)(w:H)(K:EV w g T)(h:T.ok): Ef EJ 76 #[V (X ⟨g,0,Z⟩),E I src] w fun e w'=>e=Eg (T.of g src)/\w=w':=by
 unfold EM.of;by_cases hs:src=1\/src=2\/src=3
 ·rw[if_pos hs];have c:=qo K h (src-1).toNat 0 U;rcases hs with rfl|rfl|rfl
  ·replace c:w.cell? ⟨g,3,Z⟩=X (Eb (T.ER 0).on):=c;show Ef _ _ _ _ fun e w'=>e=Eg (if(T.ER 0).on then V (X ⟨g,3,Z⟩) else V Z)/\w=w'
   cases hb:(T.ER 0).on with
   |true=>rw[hb] at c;exact EEG g w c
   |false=>rw[hb] at c;exact EEH g w c
  ·replace c:w.cell? ⟨g,42,Z⟩=X (Eb (T.ER 1).on):=c;show Ef _ _ _ _ fun e w'=>e=Eg (if(T.ER 1).on then V (X ⟨g,42,Z⟩) else V Z)/\w=w'
   cases hb:(T.ER 1).on with
   |true=>rw[hb] at c;exact EEK g w c
   |false=>rw[hb] at c;exact EEL g w c
  ·replace c:w.cell? ⟨g,81,Z⟩=X (Eb (T.ER 2).on):=c;show Ef _ _ _ _ fun e w'=>e=Eg (if(T.ER 2).on then V (X ⟨g,81,Z⟩) else V Z)/\w=w'
   cases hb:(T.ER 2).on with
   |true=>rw[hb] at c;exact EEM g w c
   |false=>rw[hb] at c;exact EEN g w c
 ·rw[if_neg hs];exact EEF g src w U
def EM.ZW(T:EM)(src:Int):Bool:=if src=4 then G else if src=0 then T.XC else if src=1\/src=2\/src=3 then(T.ER (src-1).toNat).on else Y
def EM.kF(T:EM)(src:Int):Int:=if src=1\/src=2\/src=3 then(if(T.ER (src-1).toNat).on then(T.ER (src-1).toNat).r else 0) else 0
def EM.Ii(T:EM):Int:=(if T.s0.on then 1 else 0)+(if T.s1.on then 1 else 0)+(if T.s2.on then 1 else 0)
theorem vq(T:EM)(g:Nat)(src:Int):(T.of g src=V Z/\(src≠4->src≠0->T.ZW src=Y)/\T.kF src=0)\/(∃i:Nat,i<3/\src=(i:Int)+1/\(T.ER i).on=G/\T.of g src=V (X ⟨g,so i,Z⟩)/\T.ZW src=G/\T.kF src=(T.ER i).r):=by
 unfold EM.of EM.ZW EM.kF;by_cases hs:src=1\/src=2\/src=3
 ·obtain⟨i,hi,e⟩: ∃i:Nat,i<3/\src=(i:Int)+1:=⟨(src-1).toNat,U,U⟩;have e2:(src-1).toNat=i:=U;simp only[if_pos hs,e2];rw[if_neg (show src≠4 from U),if_neg (show src≠0 from U)];cases hb:(T.ER i).on with
  |true=>exact .inr ⟨i,hi,e,hb,O,O,O⟩
  |false=>exact .inl ⟨O,fun _ _=>rfl,O⟩
 ·simp only[if_neg hs];exact .inl ⟨trivial,fun h4 h0=>by rw[if_neg h4,if_neg h0],trivial⟩
theorem AC(g:Nat)(T:EM)(src:Int)(w:H)(K:EV w g T)(h:T.ok): Ef EJ 55 #[V (X ⟨g,0,Z⟩),E I src] w fun e w'=>e=Eg (Eb (T.ZW src))/\w=w':=by
 by_cases h4:src=4
 ·subst h4;show Ef _ _ _ _ fun e w'=>e=Eg (Eb G)/\w=w'
  clear K h;go_enter Tryz.func55,Tryz.ntmps55;exact Eh9
 by_cases h0:src=0
 ·subst h0;show Ef _ _ _ _ fun e w'=>e=Eg (Eb T.XC)/\w=w'
  have c:=EED K;generalize T.XC=b at*;clear K h h4;go_enter Tryz.func55,Tryz.ntmps55;exact Eh9
 ·have e4:(src==4)=Y:=beq_eq_false_iff_ne.2 h4;have e0:(src==0)=Y:=beq_eq_false_iff_ne.2 h0;have CO:=J<|kD g T src w K h;rcases vq T g src with⟨e1,e2,-⟩|⟨i,hi,-,-,e1,e2,-⟩;·rw[e1] at CO;rw[e2 h4 h0];clear e1 e2 K h h4 h0;go_enter Tryz.func55,Tryz.ntmps55;go_wp2_with fail;(with_reducible refine(CO.out).mono ?_);rintro e w' ⟨rfl,rfl⟩;go_wp2_with fail;go_ret;exact⟨O,O⟩
  ·rw[e1] at CO;rw[e2];generalize so i=o at*;clear e1 e2 K h h4 h0;go_enter Tryz.func55,Tryz.ntmps55;exact EmM
theorem EEP(g:Nat)(T:EM)(src:Int)(w:H)(K:EV w g T)(h:T.ok): Ef EJ 56 #[V (X ⟨g,0,Z⟩),E I src] w fun e w'=>e=Eg (E I (T.kF src))/\w=w':=by
 have CO:=J<|kD g T src w K h;rcases vq T g src with⟨e1,-,e2⟩|⟨i,hi,-,-,e1,-,e2⟩;·rw[e1] at CO;rw[e2];exact Enb
 ·rw[e1] at CO;rw[e2];have c:w.cell? ⟨g,so i+3,Z⟩=X (E I (T.ER i).r):=qo K h i 3 U;generalize so i=o at*;generalize (T.ER i).r=r at*;exact Enb
theorem EEQ(g:Nat)(w:H)(c0:w.cell? ⟨g,3,Z⟩=X (Eb G))(c1:w.cell? ⟨g,42,Z⟩=X (Eb G))(c2:w.cell? ⟨g,81,Z⟩=X (Eb G)): Ef EJ 170 #[V (X ⟨g,0,Z⟩)] w fun e w'=>e=Eg (E I 3)/\w=w':=by exact Eh4
theorem EER(g:Nat)(w:H)(c0:w.cell? ⟨g,3,Z⟩=X (Eb G))(c1:w.cell? ⟨g,42,Z⟩=X (Eb G))(c2:w.cell? ⟨g,81,Z⟩=X (Eb Y)): Ef EJ 170 #[V (X ⟨g,0,Z⟩)] w fun e w'=>e=Eg (E I 2)/\w=w':=by exact Eh4
theorem EES(g:Nat)(w:H)(c0:w.cell? ⟨g,3,Z⟩=X (Eb G))(c1:w.cell? ⟨g,42,Z⟩=X (Eb Y))(c2:w.cell? ⟨g,81,Z⟩=X (Eb G)): Ef EJ 170 #[V (X ⟨g,0,Z⟩)] w fun e w'=>e=Eg (E I 2)/\w=w':=by exact Eh4
theorem EET(g:Nat)(w:H)(c0:w.cell? ⟨g,3,Z⟩=X (Eb G))(c1:w.cell? ⟨g,42,Z⟩=X (Eb Y))(c2:w.cell? ⟨g,81,Z⟩=X (Eb Y)): Ef EJ 170 #[V (X ⟨g,0,Z⟩)] w fun e w'=>e=Eg (E I 1)/\w=w':=by exact Eh4
theorem EEV(g:Nat)(w:H)(c0:w.cell? ⟨g,3,Z⟩=X (Eb Y))(c1:w.cell? ⟨g,42,Z⟩=X (Eb G))(c2:w.cell? ⟨g,81,Z⟩=X (Eb G)): Ef EJ 170 #[V (X ⟨g,0,Z⟩)] w fun e w'=>e=Eg (E I 2)/\w=w':=by exact Eh4
theorem EEW(g:Nat)(w:H)(c0:w.cell? ⟨g,3,Z⟩=X (Eb Y))(c1:w.cell? ⟨g,42,Z⟩=X (Eb G))(c2:w.cell? ⟨g,81,Z⟩=X (Eb Y)): Ef EJ 170 #[V (X ⟨g,0,Z⟩)] w fun e w'=>e=Eg (E I 1)/\w=w':=by exact Eh4
theorem EEY(g:Nat)(w:H)(c0:w.cell? ⟨g,3,Z⟩=X (Eb Y))(c1:w.cell? ⟨g,42,Z⟩=X (Eb Y))(c2:w.cell? ⟨g,81,Z⟩=X (Eb G)): Ef EJ 170 #[V (X ⟨g,0,Z⟩)] w fun e w'=>e=Eg (E I 1)/\w=w':=by exact Eh4
theorem EE0(g:Nat)(w:H)(c0:w.cell? ⟨g,3,Z⟩=X (Eb Y))(c1:w.cell? ⟨g,42,Z⟩=X (Eb Y))(c2:w.cell? ⟨g,81,Z⟩=X (Eb Y)): Ef EJ 170 #[V (X ⟨g,0,Z⟩)] w fun e w'=>e=Eg (E I 0)/\w=w':=by exact Eh4
theorem gM(g:Nat)(T:EM)(w:H)(K:EV w g T)(h:T.ok):Ef EJ 170 #[V (X ⟨g,0,Z⟩)] w fun e w'=>e=Eg (E I T.Ii)/\w=w':=by
 have c0:w.cell? ⟨g,3,Z⟩=X (Eb T.s0.on):=qo K h 0 0 U;have c1:w.cell? ⟨g,42,Z⟩=X (Eb T.s1.on):=qo K h 1 0 U;have c2:w.cell? ⟨g,81,Z⟩=X (Eb T.s2.on):=qo K h 2 0 U;unfold EM.Ii;cases h0:T.s0.on<;>cases h1:T.s1.on<;>cases h2:T.s2.on<;>rw[h0] at c0<;>rw[h1] at c1<;>rw[h2] at c2;·exact EE0 g w c0 c1 c2
 ·exact EEY g w c0 c1 c2
 ·exact EEW g w c0 c1 c2
 ·exact EEV g w c0 c1 c2
 ·exact EET g w c0 c1 c2
 ·exact EES g w c0 c1 c2
 ·exact EER g w c0 c1 c2
 ·exact EEQ g w c0 c1 c2
theorem Xm:ID EJ 160 39:=⟨⟨_,Tryz.underlying160,O⟩,Ec⟩
theorem LA:Tryz.prog.built 160 []=X JU.v.toArray:=Ec
theorem Xn(s:IM):s.v.toArray.all (·.oneCell')=G:=by
 refine all_oneCell_toArray fun v hv=> ?_;simp only[IM.v,Oh,List.mem_append,List.mem_cons,List.not_mem_nil,or_false,List.mem_map] at hv;rcases hv with(rfl|rfl|rfl)|rfl|⟨x,-,rfl⟩|hv;·rfl
 ·rfl
 ·rfl
 ·rfl
 ·rfl
 ·rcases hw:s.win with _|⟨h,q⟩<;>rw[hw] at hv<;>simp only[JQ,List.mem_cons,List.not_mem_nil,or_false] at hv<;>rcases hv with rfl|rfl|rfl<;>rfl
theorem dh(K:EV W g T)(h:T.ok)(i:Nat)(s:IM)(hs:s.key.length=32):EV (W.setCells g (so i) s.v) g (T.put i s):=by unfold EV at*;rw[T.nm i] at K;rw[T.pT i s];exact Xg s.v (T.ER i).v (T.pre i) (so i) W K (by rw[IM.JG hs,IM.JG (h.ER i).len]) (EM.kh h i)
theorem AG(i:Nat):so i<=81:=by unfold so;split<;>omega
def qr(T:EM)(g:Nat)(src:Int)(w:H)(e:Ending)(w':H):Prop:=(if src=1\/src=2\/src=3 then(if(T.ER (src-1).toNat).on then e=Eg (Eb G)/\EV w' g (T.put (src-1).toNat JU) else e=Eg (Eb Y)/\EV w' g T) else e=Eg (Eb Y)/\EV w' g T)/\EG g w w'
theorem EE1(g:Nat)(T:EM)(src:Int)(w:H)(K:EV w g T)(h:T.ok):Ef EJ 176 #[V (X ⟨g,0,Z⟩),E I src] w (qr T g src w):=by
 have CO:=J<|kD g T src w K h;rcases vq T g src with⟨e1,e2,-⟩|⟨i,hi,es,hon,e1,-,-⟩
 ·have hf: ¬((src=1\/src=2\/src=3)/\(T.ER (src-1).toNat).on=G):=by rintro⟨hs,ho⟩;have:=e2 U U;unfold EM.ZW at this;rw[if_neg U,if_neg U,if_pos hs,ho] at this;cases this
  have hpost: ∀(e:Ending) (w':H),e=Eg (Eb Y)->w=w'->qr T g src w e w':=by
   intro e w' he hw;subst hw;refine⟨?_,EG.refl _ _⟩;by_cases hs:src=1\/src=2\/src=3;·rw[if_pos hs,if_neg (fun ho=>hf ⟨hs,ho⟩)];exact⟨he,K⟩
   ·rw[if_neg hs];exact⟨he,K⟩
  replace hpost:=J hpost;rw[e1] at CO;clear e1 e2 K h hf;go_enter Tryz.func176,Tryz.ntmps176;go_wp2_with fail;(with_reducible refine(CO.out).mono ?_);rintro e w' ⟨rfl,rfl⟩;go_wp2_with fail;go_ret;exact hpost.out _ _ O O
 ·have e2:(src-1).toNat=i:=U;have hs:src=1\/src=2\/src=3:=U;have hpost:Ea (∀(e:Ending) (w':H),e=Eg (Eb G)->EV w' g (T.put i JU)->EG g w w'->qr T g src w e w'):=J (by intro e w' he hk ho;refine⟨?_,ho⟩;rw[if_pos hs,e2,if_pos hon];exact⟨he,hk⟩);have K2:=J<|dh K h i JU O;have ON:=J<|JX (g:=g) JU.v (so i) w;have TH:Ea (w.there g (so i) 39):=J<|UR K (by rw[qp K h];have:=AG i;omega);have BZ:=J LA;have SZ:=J<|show JU.v.toArray.size=39 from IM.JG O;have S1:=J<|Xn JU;rw[e1] at CO;generalize so i=o at*;clear e1 e2 K h hs hon es;obtain⟨sv,hsv⟩:=En JU.v;rw[<-hsv] at K2 ON BZ SZ S1;clear hsv;go_enter Tryz.func176,Tryz.ntmps176;go_wp2_with fail;(with_reducible refine(CO.out).mono ?_);rintro e w' ⟨rfl,rfl⟩;go_wp2_with (first|((with_reducible refine In 12 ?_);refine IP rfl 160 _ rfl sv.toArray BZ.out ?_)|((with_reducible refine JI 160 ?_);(with_reducible refine wpList_store_mid rfl 160 _ _ rfl g o sv.toArray ?_ ?_ ?_ ?_ ?_ ?_);(·rfl);(·rfl);(·rw[SZ.out];exact TH.out);(·rw[SZ.out];exact Xm.2);(·exact S1.out)));go_ret;exact hpost.out _ _ O K2.out ON.out
theorem EE3(g:Nat)(T:EM)(w:H)(K:EV w g T)(h:T.ok): Ef EJ 91 #[V (X ⟨g,0,Z⟩)] w fun e w'=>e=Eg (Es #[])/\EV w' g {T with XC:=true,sa:=0,sm:=max T.E3 0}/\EG g w w':=by
 have c0: ∀y:Ext w,(Ex w y).cell? ⟨g,120,Z⟩=X (E I T.E3):=fun y=>(dg (K.B (EC y)) h).1;have KK:Ea (D w g ([]++([Value.bool T.XC,E I T.sa,E I T.sm]++(T.s0.v++(T.s1.v++(T.s2.v++T.tl))))).toArray 163):=J K;have CH:=J<|fun W (k:D W g ([]++([Value.bool T.XC,E I T.sa,E I T.sm]++(T.s0.v++(T.s1.v++(T.s2.v++T.tl))))).toArray 163)=>dJ g 0 [] _ _ _ _ 163 T.E3 W k O;have HP:Ea (∀w',D w' g ([]++(Oh G 0 (max T.E3 0)++(T.s0.v++(T.s1.v++(T.s2.v++T.tl))))).toArray 163->EV w' g {T with XC:=true,sa:=0,sm:=max T.E3 0}):=J fun w' k=>k;generalize T.E3=E3 at*;clear K h;go_enter Tryz.func91,Tryz.ntmps91;refine JB 7 Ec Ec ?_;simp only[Il,Ij,Iz,Ix]
 repeat (first
  |go_big_quiet_skip
  |(go_big_quiet_want
    first
     |(go_big_quiet_op
       first
        |go_big_quiet_on
        |go_big_quiet_call ((fail)))))
 refine wpQuiet_nil ?_;intro _ hw';obtain⟨y9,rfl⟩:=hw';have El:=EC y9;replace KK:=J<|KK.out.B El;clear c0;generalize Ex w y9=w1 at*;go_wp2_with fail;(with_reducible refine(CH.out _ KK.out).mono ?_);rintro e w2 ⟨rfl,k2,o2⟩;go_wp2_with fail;go_end0;exact⟨O,HP.out _ k2,(EG.Eu El).trans o2⟩
def rr(x:Int)(n:Nat):Int:=bits .or .u32 (IntKind.u32.wrap (x*2^(32-n))) (x/2^n)
def LB(x:Int):Int:=bits .xor .u32 (bits .xor .u32 (rr x 7) (rr x 18)) (x/2^3)
def LD(y:Int):Int:=bits .xor .u32 (bits .xor .u32 (rr y 17) (rr y 19)) (y/2^10)
def S1(y:Int):Int:=bits .xor .u32 (bits .xor .u32 (rr y 6) (rr y 11)) (rr y 25)
def S0(x:Int):Int:=bits .xor .u32 (bits .xor .u32 (rr x 2) (rr x 13)) (rr x 22)
def cho(y f g:Int):Int:=bits .or .u32 (bits .and .u32 y f) (bits .and .u32 (bits .xor .u32 4294967295 y) g)
def maj(x b c:Int):Int:=bits .or .u32 (bits .or .u32 (bits .and .u32 x b) (bits .and .u32 x c)) (bits .and .u32 b c)
def AH(a b c d:Int):Int:=bits .or .u32 (bits .or .u32 (bits .or .u32 (IntKind.u32.wrap (a*2^24)) (IntKind.u32.wrap (b*2^16))) (IntKind.u32.wrap (c*2^8))) d
def nD(l:List Int)(i:Nat):Int:=AH (l.getD (4*i) 0) (l.getD (4*i+1) 0) (l.getD (4*i+2) 0) (l.getD (4*i+3) 0)
def nxt(p q x y:Int):Int:=(p+q+LB x+LD y)%4294967296
def kG(l:List Int)(i:Nat):Int:=nxt (l.getD (i-16) 0) (l.getD (i-7) 0) (l.getD (i-15) 0) (l.getD (i-2) 0)
def sched(b:List Int):Nat->List Int
 |0=>[]
 |i+1=>sched b i++[if i<16 then nD b i else kG (sched b i) i]
structure St where
 (a b c d e f g h:Int)
def St.cells(s:St):Array M:= #[E J0 s.a,E J0 s.b,E J0 s.c,E J0 s.d,E J0 s.e,E J0 s.f,E J0 s.g,E J0 s.h]
def St.list(s:St):List Int:=[s.a,s.b,s.c,s.d,s.e,s.f,s.g,s.h]
def LF(k w e f g h:Int):Int:=h+S1 e+cho e f g+k+w
def EE_(a b c:Int):Int:=S0 a+maj a b c
def AK(k w:Int)(s:St):St:=
 ⟨(LF k w s.e s.f s.g s.h+EE_ s.a s.b s.c)%4294967296,s.a,s.b,s.c,(s.d+LF k w s.e s.f s.g s.h)%4294967296,s.e,s.f,s.g⟩
def kH(ks ws:List Int)(s:St):Nat->St
 |0=>s
 |i+1=>AK (ks.getD i 0) (ws.getD i 0) (kH ks ws s i)
def bV(n h:St):St:=
 ⟨(n.a+h.a)%4294967296,(n.b+h.b)%4294967296,(n.c+h.c)%4294967296,(n.d+h.d)%4294967296,(n.e+h.e)%4294967296,(n.f+h.f)%4294967296,(n.g+h.g)%4294967296,(n.h+h.h)%4294967296⟩
theorem EIE(n h:St)(i:Nat)(hi:i<8):(bV n h).list.getD i 0=(n.list.getD i 0+h.list.getD i 0)%4294967296:=by rcases(show i=0\/i=1\/i=2\/i=3\/i=4\/i=5\/i=6\/i=7 from U) with rfl|rfl|rfl|rfl|rfl|rfl|rfl|rfl<;>rfl
def gN:List Int:=[
 0x428a2f98,0x71374491,0xb5c0fbcf,0xe9b5dba5,0x3956c25b,0x59f111f1,0x923f82a4,0xab1c5ed5,
 0xd807aa98,0x12835b01,0x243185be,0x550c7dc3,0x72be5d74,0x80deb1fe,0x9bdc06a7,0xc19bf174,
 0xe49b69c1,0xefbe4786,0x0fc19dc6,0x240ca1cc,0x2de92c6f,0x4a7484aa,0x5cb0a9dc,0x76f988da,
 0x983e5152,0xa831c66d,0xb00327c8,0xbf597fc7,0xc6e00bf3,0xd5a79147,0x06ca6351,0x14292967,
 0x27b70a85,0x2e1b2138,0x4d2c6dfc,0x53380d13,0x650a7354,0x766a0abb,0x81c2c92e,0x92722c85,
 0xa2bfe8a1,0xa81a664b,0xc24b8b70,0xc76c51a3,0xd192e819,0xd6990624,0xf40e3585,0x106aa070,
 0x19a4c116,0x1e376c08,0x2748774c,0x34b0bcb5,0x391c0cb3,0x4ed8aa4a,0x5b9cca4f,0x682e6ff3,
 0x748f82ee,0x78a5636f,0x84c87814,0x8cc70208,0x90befffa,0xa4506ceb,0xbef9a3f7,0xc67178f2]
def gP:St:=⟨0x6a09e667,0xbb67ae85,0x3c6ef372,0xa54ff53a,0x510e527f,0x9b05688c,0x1f83d9ab,0x5be0cd19⟩
def gQ(h:St)(b:List Int):St:=bV (kH gN (sched b 64) h 64) h
def jU(p:List Int):Nat->St
 |0=>gP
 |i+1=>gQ (jU p i) ((p.drop (64*i)).take 64)
def Xo(s:St):List Int:=be s.a 4++be s.b 4++be s.c 4++be s.d 4++be s.e 4++be s.f 4++be s.g 4++be s.h 4
def Ug(n:Nat):Nat:=(n+72)/64*64
def gR(xs:List Int):List Int:=xs++128::(List.replicate (Ug xs.length-xs.length-9) 0++be ((xs.length:Int)*8) 8)
def LH(xs:List Int):St:=jU (gR xs) (Ug xs.length/64)
def Ux(xs:List Int):List Int:=Xo (LH xs)
theorem qs(n:Nat):n+9<=Ug n:=by unfold Ug;omega
theorem LL(n:Nat):64*(Ug n/64)=Ug n:=by unfold Ug;omega
theorem EII(xs:List Int):(gR xs).length=Ug xs.length:=by have:=qs xs.length;simp only[gR,IL,List.length_cons,List.length_replicate,Oi];omega
theorem EIJ(xs:List Int)(h: ∀x∈xs,0<=x/\x<=255): ∀x∈gR xs,0<=x/\x<=255:=by
 intro x hx;simp only[gR,List.mem_append,List.mem_cons,List.mem_replicate] at hx;rcases hx with hx|rfl|⟨_,rfl⟩|hx;·exact h x hx
 ·omega
 ·omega
 ·exact qk _ _ x hx
theorem nF(s:St):(Xo s).length=32:=by simp[Xo,Oi]
theorem EIU(s:St): ∀x∈Xo s,0<=x/\x<=255:=by intro x hx;simp only[Xo,List.mem_append] at hx;rcases hx with((((((h|h)|h)|h)|h)|h)|h)|h<;>exact qk _ _ x h
theorem gS(xs:List Int):(Ux xs).length=32:=nF _
theorem nG(xs:List Int): ∀x∈Ux xs,0<=x/\x<=255:=EIU _
theorem vr(b:List Int)(i:Nat):(sched b i).length=i:=by
 induction i with
 |zero=>rfl
 |succ i ih=>simp[sched,ih]
theorem EIX(b:List Int)(i j:Nat)(h:i<=j):(sched b j).take i=sched b i:=by
 induction j with
 |zero=> obtain rfl:i=0:=U;rfl
 |succ j ih=>
  rcases Nat.lt_or_ge j i with h1|h1;·obtain rfl:i=j+1:=U;rw[List.take_of_length_le (by rw[vr];omega)]
  ·rw[sched,List.take_append_of_le_length (by rw[vr];omega),ih h1]
theorem qt(b:List Int)(i j k:Nat)(h:k<i)(hj:i<=j):(sched b j).getD k 0=(sched b i).getD k 0:=by rw[<-EIX b i j hj];simp only[List.getD_eq_getElem?_getD];rw[List.getElem?_take_of_lt h]
theorem EIZ(b:List Int)(i j:Nat)(h:i<j):(sched b j).getD i 0=if i<16 then nD b i else kG (sched b j) i:=by
 rw[qt b (i+1) j i U U,sched];have e:(sched b i++[if i<16 then nD b i else kG (sched b i) i]).getD i 0=if i<16 then nD b i else kG (sched b i) i:=by simp[List.getD_eq_getElem?_getD,vr]
 rw[e];split;·rfl
 ·unfold kG;rw[qt b i j _ U U,qt b i j _ U U,qt b i j _ U U,qt b i j _ U U]
theorem EIa(x:Int)(w:H):Ef EJ 156 #[E J0 x,E I 2] w fun e w'=>e=Eg (E J0 (rr x 2))/\w=w':=by have h:bits BinOp.and IntKind.u64 (IntKind.u64.wrap (-2)) 31=30:=EZ;exact EmD
theorem EIb(x:Int)(w:H):Ef EJ 156 #[E J0 x,E I 6] w fun e w'=>e=Eg (E J0 (rr x 6))/\w=w':=by have h:bits BinOp.and IntKind.u64 (IntKind.u64.wrap (-6)) 31=26:=EZ;exact EmD
theorem LM(x:Int)(w:H):Ef EJ 156 #[E J0 x,E I 7] w fun e w'=>e=Eg (E J0 (rr x 7))/\w=w':=by have h:bits BinOp.and IntKind.u64 (IntKind.u64.wrap (-7)) 31=25:=EZ;exact EmD
theorem EIc(x:Int)(w:H):Ef EJ 156 #[E J0 x,E I 11] w fun e w'=>e=Eg (E J0 (rr x 11))/\w=w':=by have h:bits BinOp.and IntKind.u64 (IntKind.u64.wrap (-11)) 31=21:=EZ;exact EmD
theorem EId(x:Int)(w:H):Ef EJ 156 #[E J0 x,E I 13] w fun e w'=>e=Eg (E J0 (rr x 13))/\w=w':=by have h:bits BinOp.and IntKind.u64 (IntKind.u64.wrap (-13)) 31=19:=EZ;exact EmD
theorem LS(x:Int)(w:H):Ef EJ 156 #[E J0 x,E I 17] w fun e w'=>e=Eg (E J0 (rr x 17))/\w=w':=by have h:bits BinOp.and IntKind.u64 (IntKind.u64.wrap (-17)) 31=15:=EZ;exact EmD
theorem LV(x:Int)(w:H):Ef EJ 156 #[E J0 x,E I 18] w fun e w'=>e=Eg (E J0 (rr x 18))/\w=w':=by have h:bits BinOp.and IntKind.u64 (IntKind.u64.wrap (-18)) 31=14:=EZ;exact EmD
theorem LY(x:Int)(w:H):Ef EJ 156 #[E J0 x,E I 19] w fun e w'=>e=Eg (E J0 (rr x 19))/\w=w':=by have h:bits BinOp.and IntKind.u64 (IntKind.u64.wrap (-19)) 31=13:=EZ;exact EmD
theorem EIf(x:Int)(w:H):Ef EJ 156 #[E J0 x,E I 22] w fun e w'=>e=Eg (E J0 (rr x 22))/\w=w':=by have h:bits BinOp.and IntKind.u64 (IntKind.u64.wrap (-22)) 31=10:=EZ;exact EmD
theorem EIg(x:Int)(w:H):Ef EJ 156 #[E J0 x,E I 25] w fun e w'=>e=Eg (E J0 (rr x 25))/\w=w':=by have h:bits BinOp.and IntKind.u64 (IntKind.u64.wrap (-25)) 31=7:=EZ;exact EmD
theorem L0(x n:Int)(w:H)(hn:n=2\/n=6\/n=7\/n=11\/n=13\/n=17\/n=18\/n=19\/n=22\/n=25): Ef EJ 156 #[E J0 x,E I n] w fun e w'=>e=Eg (E J0 (rr x n.toNat))/\w=w':=by
 rcases hn with rfl|rfl|rfl|rfl|rfl|rfl|rfl|rfl|rfl|rfl;·exact EIa x w
 ·exact EIb x w
 ·exact LM x w
 ·exact EIc x w
 ·exact EId x w
 ·exact LS x w
 ·exact LV x w
 ·exact LY x w
 ·exact EIf x w
 ·exact EIg x w
theorem kK(n:Int)(h0:0<=n)(h1:n<=4294967295):IntKind.u32.wrap n=n:=by rw[IntKind.wrap_u32'];omega
theorem EIh(h: ∀x∈l,0<=x/\x<=255)(k:Nat):0<=l.getD k 0/\l.getD k 0<=255:=by
 rcases Nat.lt_or_ge k l.length with hk|hk
 ·have e:l.getD k 0=l[k]:=by simp[hk]
  rw[e];exact h _ (List.getElem_mem _)
 ·have e:l.getD k 0=0:=by simp[hk]
  rw[e];omega
theorem EIi{a b c d:Int}(a0:0<=a)(a1:a<=255)(b0:0<=b)(b1:b<=255)(c0:0<=c)(c1:c<=255): AH a b c d=bits .or .u32 (bits .or .u32 (bits .or .u32 (a*16777216) (b*65536)) (c*256)) d:=by unfold AH;rw[show(2:Int)^24=16777216 from EZ,show(2:Int)^16=65536 from EZ,show(2:Int)^8=256 from EZ,kK (a*16777216) U U,kK (b*65536) U U,kK (c*256) U U]
theorem vt:Og EJ 211 (Jg (Er 8)):=by intro ev o w ho;unfold execOp;simp only[ho];simp[go_sem];exact congrArg (fun c=>w.alloc (EI c 211)) Ec
theorem L5:Og EJ 250 (Jg (Er 64)):=by intro ev o w ho;unfold execOp;simp only[ho];simp[go_sem];exact congrArg (fun c=>w.alloc (EI c 250)) Ec
theorem bY:ID EJ 211 8:=⟨⟨_,Tryz.underlying211,O⟩,Ec⟩
theorem vu:ID EJ 250 64:=⟨⟨_,Tryz.underlying250,O⟩,Ec⟩
theorem kL:ID EJ 214 64:=⟨⟨_,Tryz.underlying214,O⟩,Ec⟩
def AM(b sl:List Int):Prop:=sl.length=64/\ ∀i,i<64->sl.getD i 0=if i<16 then nD b i else kG sl i
theorem EIj(b sl:List Int)(hl:b.length=64)(hb: ∀x∈b,0<=x/\x<=255)(hs:AM b sl)(w:H): Ef EJ 155 #[EU (Ej b)] w fun e w'=>e=Eg (EU (Jg sl))/\Eh w w':=by
 have HL:=J hl;have HB:=J hb;have HS:=J hs;clear hl hb hs;go_enter Tryz.func155,Tryz.ntmps155;go_wp2_with (with_reducible refine wA L5 ?_);go_loopw[10] (fun y wr=> ∃i:Nat,i<=16/\y=E I i/\D wr w.heap.size (Ej b) 214/\D wr (w.heap.size+1) (Jg (Er 64)) 250/\D wr (w.heap.size+1+1) (Jg (part sl i)) 250/\Eh w wr) (fun y _=>16-(intOf y).toNat)
 case atStart=>
  refine⟨0,U,O,((D.new w _ _).alloc _).alloc _,?_,?_,X5 w _ _ _⟩;·exact(D.new' _ _ _ (by simp[Hv])).alloc _
  ·rw[Hx,HS.out.1];exact D.new' _ _ _ (by simp[Hv])
 case round=>
  obtain⟨i,hi,rfl,K1,K2,K3,hB⟩:=hrel;by_cases hlt:i<16
  ·have c0:=K1.cell (4*i);have c1:=K1.cell (4*i+1);have c2:=K1.cell (4*i+2);have c3:=K1.cell (4*i+3);rw[gB _ _ AN] at c0 c1 c2 c3;have qu: ∀k,0<=b.getD k 0/\b.getD k 0<=255:=fun k=>EIh HB.out k;have WD:=HS.out.2 i U;rw[if_pos hlt] at WD;unfold nD at WD;have b0:=qu (4*i);have b1:=qu (4*i+1);have b2:=qu (4*i+2);have b3:=qu (4*i+3);clear qu;generalize b.getD (4*i) 0=x0 at*;generalize b.getD (4*i+1) 0=x1 at*;generalize b.getD (4*i+2) 0=x2 at*;generalize b.getD (4*i+3) 0=x3 at*;have v0:IntKind.u32.wrap x0=x0:=kK _ U U;have v1:IntKind.u32.wrap x1=x1:=kK _ U U;have v2:IntKind.u32.wrap x2=x2:=kK _ U U;have v3:IntKind.u32.wrap x3=x3:=kK _ U U;have cw:=K3.cell i;have fw:=K3.Jw i;rw[pQ _ _ (by rw[uG _ _ AQ,HS.out.1];omega)] at cw;replace WD:=J WD;replace K1:=J K1;replace K2:=J K2;replace K3:=J K3;replace hB:=J hB;go_wp2_with fail;refine pP 31 Ec Ec ?_;simp only[Il,Ij,Iz,Ix];repeat (go_big_quiet_step (fail))
   refine wpQuiet_nil ?_;intro _ hw';obtain⟨nq,rfl⟩:=hw';go_wp2_with fail;have e:bits .or .u32 (bits .or .u32 (bits .or .u32 (x0*16777216) (x1*65536)) (x2*256)) x3=sl.getD i 0:=by rw[WD.out];exact(EIi b0.1 b0.2 b1.1 b1.2 b2.1 b2.2).symm
   rw[e];have hl2:=HS.out.1;refine⟨⟨i+1,U,Ek,(K1.out.drewN nq).other _ _ _ U,(K2.out.drewN nq).other _ _ _ U,?_,(aQ hB.out nq).setCell JJ _⟩,JN⟩;have h:=(K3.out.drewN nq).set i (E J0 (sl.getD i 0));rw[zN,zP _ _ U] at h;exact h
  ·obtain rfl:i=16:=U;rw[show((16:Nat):Int)=16 from rfl];replace K1:=J K1;replace K2:=J K2;replace K3:=J K3;replace hB:=J hB;go_wp2_with fail;go_loopw[5] (fun y wx=> ∃i:Nat,16<=i/\i<=64/\y=E I i/\D wx (w.heap.size+1) (Jg (Er 64)) 250/\D wx (w.heap.size+1+1) (Jg (part sl i)) 250/\Eh w wx) (fun y _=>64-(intOf y).toNat);case atStart=>exact⟨16,U,U,O,K2.out,K3.out,hB.out⟩
   case round=>
    obtain⟨i,hi0,hi,rfl,K2,K3,hB⟩:=hrel;by_cases hlt:i<64
    ·have hl2:=HS.out.1;have lp:(part sl i).length=64:=by rw[uG _ _ U,hl2]
     have c0:=K3.cell (i-16);have c1:=K3.cell (i-7);have c2:=K3.cell (i-15);have c3:=K3.cell (i-2);have cw:=K3.cell i;have fw:=K3.Jw i;rw[pQ _ _ U] at c0 c1 c2 c3 cw;rw[WF _ _ _ U U] at c0 c1 c2 c3;have WD:=HS.out.2 i hlt;rw[if_neg U] at WD;unfold kG at WD;generalize sl.getD (i-16) 0=x0 at*;generalize sl.getD (i-7) 0=x1 at*;generalize sl.getD (i-15) 0=x2 at*;generalize sl.getD (i-2) 0=x3 at*;replace WD:=J WD;replace K2:=J K2;replace K3:=J K3;replace hB:=J hB;replace hl2:=J hl2;clear lp;go_wp2_with fail;go_quiet (fail);go_wp2_with fail;(with_reducible refine(LM _ _).mono ?_);rintro e w' ⟨rfl,rfl⟩;go_wp2_with fail;(with_reducible refine(LV _ _).mono ?_);rintro e w' ⟨rfl,rfl⟩;go_wp2_with fail;(with_reducible refine(LS _ _).mono ?_);rintro e w' ⟨rfl,rfl⟩;go_wp2_with fail;(with_reducible refine(LY _ _).mono ?_);rintro e w' ⟨rfl,rfl⟩;go_wp2_with fail;refine pP 15 Ec Ec ?_;simp only[Il,Ij,Iz,Ix];repeat (go_big_quiet_step (fail))
     refine wpQuiet_nil ?_;intro _ hw';obtain⟨nq2,rfl⟩:=hw';go_wp2_with fail;have hl2:=hl2.out;have e:(x0+x1+LB x2+LD x3)%4294967296=sl.getD i 0:=by rw[WD.out];rfl
     refine⟨⟨i+1,U,U,Ek,(K2.out.drewN _).other _ _ _ U,?_,(aQ hB.out _).setCell JJ _⟩,JN⟩;have h:=(K3.out.drewN (nq+nq2)).set i (E J0 (sl.getD i 0));rw[zN,zP _ _ U,<-e] at h;exact h
    ·obtain rfl:i=64:=U;rw[Hy _ _ AQ] at K3;replace K2:=J K2;replace K3:=J K3;replace hB:=J hB
     go_wp2_with (first
      |(with_reducible refine wL vu K3 ?_ (hn:=AR))
      |(with_reducible refine wS (cs:=Jg sl) vu K2 ?_ (ho:=nH) (hn:=AR) (h1:=Hw _)))
     refine EQ (v:=EU (Jg sl)) (Jb vu O _ _ (w.heap.size+1) _ O (K2.out.setRow _) (by rw[zM,HS.out.1])) O ⟨O,E2 hB.out U _⟩
def Jc(w:H):Prop:= ∀i:Nat,i<64->w.cell? ⟨0,i,Z⟩=X (E J0 (gN.getD i 0))
theorem Jc.B(h:Jc w)(hb:Eh w w'):Jc w':=fun i hi=>by rw[hb.cell (World.block_lt_of_cell? _ _ (h i hi))];exact h i hi
theorem Jc.drewN(h:Jc w)(n:Nat):Jc (w.drewN n):=h
theorem Jc.lt(h:Jc w):0<w.heap.size:=World.block_lt_of_cell? _ _ (h 0 U)
theorem Jc.setRow(h:Jc w)(g:Nat)(cs:Array M)(hg:0≠g):Jc (w.setRow g cs):=fun i hi=>by rw[cell_setRow_other _ _ _ _ hg];exact h i hi
theorem St.bJ(s:St):s.cells.size=8:=rfl
theorem St.nK(s:St):s.cells.all (·.oneCell')=G:=by simp[St.cells,Value.oneCell']
theorem EIl(h0 r:St)(b sl:List Int)(hl:b.length=64)(hb: ∀x∈b,0<=x/\x<=255)(hs:AM b sl)(hr:kH gN sl h0 64=r)(w:H)(hR:Jc w): Ef EJ 114 #[EU h0.cells,EU (Ej b)] w fun e w'=>e=Eg (EU (bV r h0).cells)/\Eh w w':=by
 have HL:=J hl;have HB:=J hb;have HS:=J hs;have HR:=J hr;have RT:=J hR;have rl:=hR.lt;clear hl hb hs hr hR;go_enter Tryz.func114,Tryz.ntmps114;go_wp2_with (with_reducible refine wA vt (Ed.mk ?_));refine Ed.in ?_;have KH:=J<|((D.new w h0.cells 211).alloc (EI (Ej b) 214)).alloc (EI (Jg (Er 8)) 211);have KB:=J<|(D.new' (w.alloc (EI h0.cells 211)) (Ej b) 214 (g:=w.heap.size+1) Ek).alloc (EI (Jg (Er 8)) 211);have KR:=J<|D.new' ((w.alloc (EI h0.cells 211)).alloc (EI (Ej b) 214)) (Jg (Er 8)) 211 (g:=w.heap.size+1+1) Ek;have BB:=J<|X5 w (EI h0.cells 211) (EI (Ej b) 214) (EI (Jg (Er 8)) 211);generalize ((w.alloc (EI h0.cells 211)).alloc (EI (Ej b) 214)).alloc (EI (Jg (Er 8)) 211)=w3 at*;replace RT:=J<|RT.out.B BB.out;go_wp2_with (with_reducible refine wL kL KB ?_ (hn:=L6));(with_reducible refine(EIj b sl HL.out HB.out HS.out _).mono ?_);rintro e w4 ⟨rfl,b4⟩;replace KH:=J<|KH.out.B b4;replace KR:=J<|KR.out.B b4;replace RT:=J<|RT.out.B b4;replace BB:=ET BB b4;clear b4 KB;have l4:=KR.out.lt;go_wp2_with (with_reducible refine wA L5 (Ed.mk ?_));refine Ed.in ?_;have bel:=Eo w4 (EI (Jg (Er 64)) 250);replace KH:=J<|KH.out.B bel;replace KR:=J<|KR.out.B bel;replace RT:=J<|RT.out.B bel;replace BB:=ET BB bel;have KW:=J<|D.new w4 (Jg (Er 64)) 250;clear bel;generalize w4.alloc (EI (Jg (Er 64)) 250)=w5 at*;go_wp2_with (with_reducible refine wS (cs:=Jg sl) vu KW (Ed.mk ?_) (ho:=nH) (hn:=AR) (h1:=Hw _));refine Ed.in ?_;replace KH:=J<|KH.out.setRow_other w4.heap.size (Jg sl) U;replace KR:=J<|KR.out.setRow_other w4.heap.size (Jg sl) U;replace RT:=J<|RT.out.setRow w4.heap.size (Jg sl) U;replace KW:=J<|KW.out.setRow (Jg sl);replace BB:=J<|E2 (g:=w4.heap.size) BB.out U (Jg sl);generalize w5.setRow w4.heap.size (Jg sl)=w6 at*;go_wp2_with (with_reducible first|refine wL bY KH ?_ (hn:=St.bJ _)|refine wA vt (Ed.mk ?_));refine Ed.in ?_;have l6:=KW.out.lt;have bel:=Eo w6 (EI (Jg (Er 8)) 211);replace KH:=J<|KH.out.B bel;replace KR:=J<|KR.out.B bel;replace KW:=J<|KW.out.B bel;replace RT:=J<|RT.out.B bel;replace BB:=ET BB bel;have KN:=J<|D.new w6 (Jg (Er 8)) 211;clear bel;generalize w6.alloc (EI (Jg (Er 8)) 211)=w7 at*;go_wp2_with (with_reducible refine wS (cs:=h0.cells) bY KN (Ed.mk ?_) (ho:=nH) (hn:=St.bJ _) (h1:=St.nK _));refine Ed.in ?_;replace KH:=J<|KH.out.setRow_other w6.heap.size h0.cells U;replace KR:=J<|KR.out.setRow_other w6.heap.size h0.cells U;replace KW:=J<|KW.out.setRow_other w6.heap.size h0.cells U;replace RT:=J<|RT.out.setRow w6.heap.size h0.cells U;replace KN:=J<|KN.out.setRow h0.cells;replace BB:=J<|E2 (g:=w6.heap.size) BB.out U h0.cells;generalize w7.setRow w6.heap.size h0.cells=w8 at*;go_wp2_with fail;go_loopw[17] (fun y wr=> ∃i:Nat,i<=64/\y=E I i/\D wr w6.heap.size (kH gN sl h0 i).cells 211/\D wr w4.heap.size (Jg sl) 250/\D wr w.heap.size h0.cells 211/\D wr (w.heap.size+1+1) (Jg (Er 8)) 211/\Jc wr/\Eh w wr) (fun y _=>64-(intOf y).toNat);case atStart=>exact⟨0,U,O,KN.out,KW.out,KH.out,KR.out,RT.out,BB.out⟩
 case round=>
  clear KN KW KH KR RT BB;obtain⟨i,hi,rfl,KN,KW,KH,KR,RT,BB⟩:=hrel;by_cases hlt:i<64;·have STEP:kH gN sl h0 (i+1)=AK (gN.getD i 0) (sl.getD i 0) (kH gN sl h0 i):=rfl;have cr:=RT i hlt;have cw:=KW.cell i;rw[pQ _ _ AQ] at cw;generalize hq:kH gN sl h0 i=q at*;generalize gN.getD i 0=k at*;generalize sl.getD i 0=x at*;replace STEP:=J STEP;obtain⟨qa,qb,qc,qd,qe,qf,qg,qh⟩:=q;clear hq;have cn:=fun j=>KN.cell j;simp only[St.cells] at cn;replace KN:=J KN;replace KW:=J KW;replace KH:=J KH;replace KR:=J KR;replace RT:=J RT;replace BB:=J BB;go_wp2_with fail;go_quiet (fail);revert nq;intro n1;go_wp2_with fail;go_quiet (((with_reducible refine(L0 _ _ _ ?_).mono ?_);(·decide);(rintro e w2 ⟨rfl,rfl⟩;exact⟨O,_,O⟩)));revert nq;intro n2;go_wp2_with fail;go_quiet (((with_reducible refine(L0 _ _ _ ?_).mono ?_);(·decide);(rintro e w2 ⟨rfl,rfl⟩;exact⟨O,_,O⟩)));revert nq;intro n3;have L7:=J<|KN.out.drewN (n1+n2+n3);go_wp2_with (with_reducible refine wS (cs:=(AK k x ⟨qa,qb,qc,qd,qe,qf,qg,qh⟩).cells) bY L7 (Ed.mk ?_) (ho:=St.bJ _) (hn:=St.bJ _) (h1:=St.nK _));refine Ed.in ?_;go_wp2_with fail;rename_i hsg;refine⟨⟨i+1,U,Ek,?_,(KW.out.drewN _).setRow_other _ _ U,(KH.out.drewN _).setRow_other _ _ U,(KR.out.drewN _).setRow_other _ _ U,(RT.out.drewN _).setRow _ _ U,E2 (aQ BB.out _) U _⟩,JN⟩;rw[STEP.out];exact L7.out.setRow _
  ·obtain rfl:i=64:=U;rw[show((64:Nat):Int)=64 from rfl];rw[HR.out] at KN;replace KN:=J KN;replace KW:=J KW;replace KH:=J KH;replace KR:=J KR;replace RT:=J RT;replace BB:=J BB;go_wp2_with fail;go_loopw[100] (fun y wx=> ∃i:Nat,i<=8/\y=E I i/\D wx w6.heap.size (Jg (af (bV r h0).list r.list i)) 211/\D wx w.heap.size h0.cells 211/\D wx (w.heap.size+1+1) (Jg (Er 8)) 211/\Eh w wx) (fun y _=>8-(intOf y).toNat);case atStart=>exact⟨0,U,rfl,by rw[Hz];exact KN.out,KH.out,KR.out,BB.out⟩
   case round=>
    clear KN KW KH KR RT BB;obtain⟨i,hi,rfl,KN,KH,KR,BB⟩:=hrel;by_cases hlt:i<8
    ·have c0:=KN.cell i;have c1:=KH.cell i;have f0:=KN.Jw i;rw[pQ _ _ (by rw[zQ (bV r h0).list r.list i rfl hi];exact hlt),WG (bV r h0).list r.list i i rfl (E5 _) hlt] at c0;rw[show h0.cells=Jg h0.list from rfl,pQ _ _ (by exact hlt)] at c1;have AD:=EIE r h0 i hlt;generalize r.list.getD i 0=x0 at*;generalize h0.list.getD i 0=x1 at*;replace AD:=J AD;replace KN:=J KN;replace KH:=J KH;replace KR:=J KR;replace BB:=J BB;go_wp2_with fail;refine pP 8 Ec Ec ?_;simp only[Il,Ij,Iz,Ix];repeat (go_big_quiet_step (fail))
     refine wpQuiet_nil ?_;intro _ hw';obtain⟨nq,rfl⟩:=hw';go_wp2_with fail;refine⟨⟨i+1,U,Ek,?_,(KH.out.drewN _).other _ _ _ U,(KR.out.drewN _).other _ _ _ U,(aQ BB.out _).setCell JJ _⟩,JN⟩;have hh:=(KN.out.drewN nq).set i (E J0 ((bV r h0).list.getD i 0));rw[zN,pR (bV r h0).list r.list i rfl hlt,AD.out] at hh;exact hh
    ·obtain rfl:i=8:=U;rw[show((8:Nat):Int)=8 from rfl];rw[H_ (bV r h0).list r.list 8 (E5 8) (E5 8)] at KN;replace KN:=J<|show D wr w6.heap.size (bV r h0).cells 211 from KN;replace KR:=J KR;replace BB:=J BB;go_wp2_with (with_reducible first|refine wL bY KN ?_ (hn:=St.bJ _)|refine wS (cs:=(bV r h0).cells) bY KR ?_ (ho:=nH) (hn:=St.bJ _) (h1:=St.nK _));refine EQ (v:=EU (bV r h0).cells) (Jb bY rfl _ _ (w.heap.size+1+1) _ rfl (KR.out.setRow _) (St.bJ _)) rfl ⟨rfl,E2 BB.out U _⟩
theorem EIm(w:H):Ef EJ 112 #[] w fun e w'=>e=Eg (EU gP.cells)/\Eh w w':=by go_enter Tryz.func112,Tryz.ntmps112;go_wp2_with (with_reducible refine wA vt (Ed.mk ?_));refine Ed.in ?_;have KR:=J<|D.new w (Jg (Er 8)) 211;have BB:=J<|Eo w (EI (Jg (Er 8)) 211);generalize w.alloc (EI (Jg (Er 8)) 211)=w3 at*;go_wp2_with (with_reducible refine wS (cs:=gP.cells) bY KR ?_ (ho:=nH) (h1:=St.nK _));refine EQ (v:=EU gP.cells) (Jb bY O _ _ (w.heap.size) _ O (KR.out.setRow _) (St.bJ _)) O ⟨O,E2 BB.out U _⟩
def di(xs:List Int)(i:Nat):List Int:=xs++128::(List.replicate (Ug xs.length-xs.length-1-i) 0++be ((xs.length:Int)*8) i)
theorem EIn(xs:List Int):di xs 8=gR xs:=by unfold di gR;rw[show Ug xs.length-xs.length-1-8=Ug xs.length-xs.length-9 from U]
theorem EIo(xs:List Int)(i:Nat)(h:i<=8):(di xs i).length=Ug xs.length:=by have:=qs xs.length;simp only[di,IL,List.length_cons,List.length_replicate,Oi];omega
theorem EIp(A Y4:List Int)(c v:Int)(k j:Nat)(hj:j=A.length+1+k):(A++c::(List.replicate (k+1) 0++Y4)).set j v=A++c::(List.replicate k 0++v::Y4):=by subst hj;rw[List.set_append_right _ _ U,show A.length+1+k-A.length=k+1 from U,IJ,List.replicate_succ',List.append_assoc,List.set_append_right _ _ Ek];simp
theorem EIq(xs:List Int)(i:Nat)(h:i<8):(di xs i).set (Ug xs.length-1-i) ((xs.length:Int)*8/2^(8*i)%256)=di xs (i+1):=by have:=qs xs.length;unfold di;obtain⟨k,hk⟩: ∃k,Ug xs.length-xs.length-1-i=k+1:=⟨Ug xs.length-xs.length-2-i,U⟩;rw[hk,EIp _ _ _ _ k _ U,Ar,show Ug xs.length-xs.length-1-(i+1)=k from U]
theorem EIr(xs:List Int)(W:Nat)(hW:Ug xs.length=W):(putAt (Er W) 0 xs).set xs.length 128=di xs 0:=by have:=qs xs.length;subst hW;unfold putAt di Er;obtain⟨k,hk⟩: ∃k,Ug xs.length=xs.length+(k+1):=⟨Ug xs.length-xs.length-1,U⟩;rw[hk];simp only[Ij,List.nil_append,Nat.zero_add,List.drop_replicate,Yy,List.append_nil];rw[show xs.length+(k+1)-xs.length=k+1 from U,show k+1-1-0=k from U,List.set_append_right _ _ (E5 _),Nat.sub_self,List.replicate_succ,IU]
theorem EIs(A:Option Et)(xs:List Int)(n c:Nat)(w:H)(hn:xs.length=n)(hr:Row w A xs)(hl:n<=1000000000): Ef EJ 113 #[u A n c] w fun e w'=>e=Eg (u (X ⟨w.heap.size,0,Z⟩) (Ug n) (Ug n))/\D w' w.heap.size (Ej (gR xs)) 5/\Eh w w':=by
 obtain⟨W,hW⟩:=JO (Ug n);have hW1:((n:Int)+9+64-1)/64*64=(W:Int):=L8;have hW2:n+9<=W:=by rw[<-hW];exact qs n
 have hW3:W<=2000000000:=L8;have hmk:=Kb W U;rw[hW];have HN:=J hn;have HR:=J hr;have HW:=J hW;clear hn hr hW;go_enter Tryz.func113,Tryz.ntmps113;go_wp2_with ((with_reducible show wpList _ _ _ (⟨X 18,_,_,_,_,Z⟩::_) _ _);refine Ed.mk ?_);refine Ed.in ?_;have KP:=J<|D.new w (Ej (Er W)) 5;have bl:=Eo w (EI (Ej (Er W)) 5);have HR:=J<|Iq HR.out bl;have BB:=J bl;clear hmk hW1 bl;generalize w.alloc (EI (Ej (Er W)) 5)=w1 at*;(with_reducible refine gD ?_ w.heap.size 0 W W (Er W) 5 A n c xs n (X ⟨w.heap.size,0,Z⟩) ?_ KP HN.out HR ?_ ?_ ?_ ?_);·exact Ei O
 ·exact Ek4
 ·exact Nat.min_eq_left U
 ·rw[bL];omega
 ·exact Emc
 intro w2 K2 b2 o2 s2;have hN:=HN.out;have hlp:(putAt (Er W) 0 (xs.take n)).length=W:=by rw[WM,bL];simp[bL];omega
 rw[List.take_of_length_le U] at K2 hlp;replace BB:=J<|BB.out.trans b2;have c0:=K2.cell n;have f0:=K2.Jw n;rw[gB _ _ U] at c0;have KP:=J<|K2.set n (E IB 128);have HZ:=J<|EIr xs W (by rw[hN];exact HW.out);clear K2 b2 o2 s2 hlp hN;go_wp2_with fail;go_loopw[27] (fun y wr=> ∃i:Nat,i<=8/\y=E I i/\D wr w.heap.size (Ej (di xs i)) 5/\Eh w wr) (fun y _=>8-(intOf y).toNat);case atStart=> have h:=KP.out;have z:=HZ.out;rw[HN.out] at z;rw[kZ,z] at h;exact⟨0,U,O,h,BB.out.setCell Ek _⟩
 case round=>
  clear KP BB;obtain⟨i,hi,rfl,KP,BB⟩:=hrel;have hN:=HN.out;have vw:=HW.out;have hlp:(di xs i).length=W:=by rw[EIo xs i hi,hN,vw]
  by_cases hlt:i<8;·have c0:=KP.cell (W-1-i);have f0:=KP.Jw (W-1-i);rw[gB _ _ U] at c0;have ST:=EIq xs i hlt;rw[hN,vw] at ST;replace KP:=J<|KP.set (W-1-i) (E IB ((n:Int)*8/2^(8*i)%256));replace ST:=J ST;replace BB:=J BB;clear hN vw hlp;go_wp2_with fail;have h:=KP.out;rw[kZ,ST.out] at h;exact⟨⟨i+1,U,Ek,h,BB.out.setCell Ek _⟩,JN⟩
  ·obtain rfl:i=8:=U;rw[show((8:Nat):Int)=8 from rfl];rw[EIn] at KP;replace KP:=J KP;replace BB:=J BB;clear hN vw hlp;go_wp2_with fail;go_ret;exact⟨O,KP.out,BB.out⟩
theorem Oj{o:EK}{T:Ez}(hT:ID P T n)(x:Operand)(ho:o.op= .load T x)(hx:a.eval x=V (X ⟨g,0,Z⟩))(hg:Ea (D W g cs T))(hn:cs.size=n) (hk:K (a.put o.dst (EU cs))):o.quiet P a (fun w'=> ∃x,w'=Ex W x) K:=by
 obtain⟨⟨d,hu,hd⟩,hi⟩:=hT;refine⟨_,fun w hw=> ?_,hk⟩;obtain⟨y,rfl⟩:=hw;have hrun:(loadVar T ⟨g,0,Z⟩).run P (Ex W y)= .ok (EU cs) (Ex W y):=by cases d<;>first|(cases hd;done)|exact run_loadVar_row _ g T T cs (0,0) _ (hg.out.B (EC y)) hu rfl bG
 unfold Oper.quietAt execOp;exact EjK
theorem EIt{o:EK}{T T0:Ez}{off:Nat}(hT:ID P T n)(x:Operand)(ho:o.op= .load T x)(hx:a.eval x=V (X ⟨g,off,Z⟩))(hg:Ea (D W g (Ej l) T0))(hn:off+n<=l.length) (hk:K (a.put o.dst (EU (Ej ((l.drop off).take n))))):o.quiet P a (fun w'=> ∃x,w'=Ex W x) K:=by
 obtain⟨⟨d,hu,hd⟩,hi⟩:=hT;refine⟨_,fun w hw=> ?_,hk⟩;obtain⟨y,rfl⟩:=hw;have hb:=hg.out.B (EC y);have hlen:(((l.drop off).take n).map (E .u8)).length=n:=JJ
 have hrun:(loadVar T ⟨g,off,Z⟩).run P (Ex W y)= .ok (EU (((l.drop off).take n).map (E .u8)).toArray) (Ex W y):=by
  refine run_loadVar_mid _ g off T _ d (fun j v hv=> ?_) hu kf (by rw[hi,hlen])
  have hj:j<n:=by
   rcases Nat.lt_or_ge j n with h|h;·exact h
   ·rw[List.getElem?_eq_none U] at hv;cases hv
  rw[show(Ex W y).cell? ⟨g,off+j,Z⟩=_ from hb.cell (off+j),gB _ _ U];rw[List.getElem?_map,List.getElem?_take_of_lt hj,List.getElem?_drop] at hv;simp[show off+j<l.length from U] at hv;simp[show off+j<l.length from U,<-hv]
 unfold Oper.quietAt execOp;exact EjK
theorem EIu(b:List Int):AM b (sched b 64):=⟨vr b 64,fun i hi=>EIZ b i 64 hi⟩
theorem EIv(q:St)(b:List Int)(hl:b.length=64)(hb: ∀x∈b,0<=x/\x<=255)(w:H)(hR:Jc w): Ef EJ 114 #[EU q.cells,EU (Ej b)] w fun e w'=>e=Eg (EU (gQ q b).cells)/\Eh w w':=
 EIl q _ b _ hl hb (EIu b) O w hR
theorem Zl:Og EJ 41 (Ej (Er 32)):=by intro ev o w ho;unfold execOp;simp only[ho];simp[go_sem];exact congrArg (fun c=>w.alloc (EI c 41)) Ec
theorem JC:ID EJ 41 32:=⟨⟨_,Tryz.underlying41,O⟩,Ec⟩
theorem EIw(q:St)(i:Nat)(hi:i<8):(Xo q).getD (4*i) 0=q.list.getD i 0/16777216%256/\(Xo q).getD (4*i+1) 0=q.list.getD i 0/65536%256/\(Xo q).getD (4*i+2) 0=q.list.getD i 0/256%256/\(Xo q).getD (4*i+3) 0=q.list.getD i 0%256:=by
 have one: ∀x:Int,x/1=x:=Int.ediv_one;rcases(show i=0\/i=1\/i=2\/i=3\/i=4\/i=5\/i=6\/i=7 from U) with rfl|rfl|rfl|rfl|rfl|rfl|rfl|rfl
 all_goals
  refine⟨O,O,O,?_⟩
  conv=>rhs;rw[<-one (List.getD _ _ _)]
  rfl
theorem EIx(q:St)(i:Nat)(hi:i<8)(W:H):(Instr.index 211 (EU q.cells) (E I (i:Int))).run EJ W= .ok (E J0 (q.list.getD i 0)) W:=by rcases(show i=0\/i=1\/i=2\/i=3\/i=4\/i=5\/i=6\/i=7 from U) with rfl|rfl|rfl|rfl|rfl|rfl|rfl|rfl<;>kernel_rfl
theorem EIy(a:Option Et)(c:Nat)(W:H):(Instr.arrayAt 214 (u a 64 c)).run EJ W= .ok (V a) W:=by simp[Instr.arrayAt,run_underlying Tryz.underlying214]
theorem nL(A:Option Et)(xs:List Int)(n c:Nat)(w:H)(hn:xs.length=n)(hr:Row w A xs)(hl:n<=1000000000)(hR:Jc w): Ef EJ 82 #[u A n c] w fun e w'=>e=Eg (EU (Ej (Ux xs)))/\Eh w w':=by
 obtain⟨m,hm⟩:=JO (Ug n/64);obtain⟨P,hP⟩:=JO (gR xs);have L9:P.length=64*m:=by rw[<-hP,EII,hn,<-hm,LL]
 have L_: ∀x∈P,0<=x/\x<=255:=by rw[<-hP];exact EIJ xs hr.2
 have hm2:m<=100000000:=by rw[<-hm];unfold Ug;omega
 have ME:Ux xs=Xo (jU P m):=by unfold Ux LH;rw[hn,hm,hP]
 rw[ME];have hW:Ug n=64*m:=by rw[<-hm,LL]
 have HW:=J hW;have HN:=J hn;have HR:=J hr;have HP:=J hP;have dj:=J L9;have XK:=J L_;have RT:=J hR;have rl:=hR.lt;clear hn hr hP L9 L_ ME hm hW hR;go_enter Tryz.func82,Tryz.ntmps82;go_wp2_with (with_reducible refine wA Zl (Ed.mk ?_));refine Ed.in ?_;have BB:=J<|E6 w.heap.size w;have bel:=Eo w (EI (Ej (Er 32)) 41);replace BB:=ET BB bel;have KR:=J<|D.new w (Ej (Er 32)) 41;clear bel;generalize w.alloc (EI (Ej (Er 32)) 41)=w1 at*;go_wp2_with fail;(with_reducible refine(EIm _).mono ?_);rintro e w2 ⟨rfl,b2⟩;replace KR:=J<|KR.out.B b2;replace BB:=ET BB b2;clear b2;have l2:=KR.out.lt;go_wp2_with (with_reducible refine wA vt (Ed.mk ?_));refine Ed.in ?_;have bel:=Eo w2 (EI (Jg (Er 8)) 211);replace KR:=J<|KR.out.B bel;replace BB:=ET BB bel;have KH:=J<|D.new w2 (Jg (Er 8)) 211;clear bel;generalize w2.alloc (EI (Jg (Er 8)) 211)=w3 at*;go_wp2_with (with_reducible refine wS (cs:=gP.cells) bY KH (Ed.mk ?_) (ho:=nH) (hn:=St.bJ _) (h1:=St.nK _));refine Ed.in ?_;replace KR:=J<|KR.out.setRow_other w2.heap.size gP.cells U;replace KH:=J<|KH.out.setRow gP.cells;replace BB:=J<|E2 (g:=w2.heap.size) BB.out U gP.cells;generalize w3.setRow w2.heap.size gP.cells=w4 at*;go_wp2_with fail;(with_reducible refine(EIs A xs n c _ HN.out (Iq HR.out BB.out) hl).mono ?_);rintro e w5 ⟨rfl,KP,b5⟩;rw[HP.out] at KP;have l5:=KH.out.lt;replace KR:=J<|KR.out.B b5;replace KH:=J<|KH.out.B b5;replace BB:=ET BB b5;replace KP:=J KP;clear b5;rw[HW.out];go_wp2_with fail;go_loopw[4] (fun y wr=> ∃(i:Nat) (a:Option Et) (L:Nat),i<=m/\y=u a L L/\L=64*(m-i)/\(i<m->a=X ⟨w4.heap.size,64*i,Z⟩)/\D wr w.heap.size (Ej (Er 32)) 41/\D wr w2.heap.size (jU P i).cells 211/\D wr w4.heap.size (Ej P) 5/\Eh w wr) (fun y _=>match y with|u _ L _=>L|_=>0);case atStart=>exact⟨0,_,64*m,U,O,U,fun _=>rfl,KR.out,KH.out,KP.out,BB.out⟩
 case round=>
  clear KR KH KP BB;obtain⟨i,a,L,hi,rfl,hL,ha,KR,KH,KP,BB⟩:=hrel;by_cases hlt:i<m
  ·obtain rfl:=ha hlt;have hL1:64<=L:=U;have hL2:(64:Int)<=(L:Int):=U;have hL3:L<=6400000000:=U;have hPL:=dj.out;obtain⟨bl,hbl⟩:=JO ((P.drop (64*i)).take 64);have MI:bl.length=64:=by rw[<-hbl];simp;omega
   have MJ: ∀x∈bl,0<=x/\x<=255:=by rw[<-hbl];intro x hx;exact XK.out x (List.mem_of_mem_drop (List.mem_of_mem_take hx))
   have STEP:jU P (i+1)=gQ (jU P i) bl:=by rw[<-hbl];rfl
   generalize jU P i=q at*;replace STEP:=J STEP;have HL:=J hL;have kP:=J hbl;have HB1:=J MI;have HB2:=J MJ;replace KR:=J KR;replace KH:=J KH;replace KP:=J KP;replace BB:=J BB;have fy:=J<|RT.out.B BB.out;have harr:=EIy;clear hL hbl MI MJ ha hPL;go_wp2_with fail;refine JB 6 Ec Ec ?_;simp only[Il,Ij,Iz,Ix];repeat (first
   |go_big_quiet_skip
   |(go_big_quiet_want
     first
      |(refine Oj (T:=211) (g:=w2.heap.size) bY _ rfl rfl KH ?_ ?_;(·exact St.bJ _);go_simp;go_big_quiet_on)
      |(refine EIt (T:=214) (g:=w4.heap.size) (off:=64*i) (l:=P) kL _ rfl rfl KP ?_ ?_;(·rw[dj.out];omega);rw[kP.out];go_simp;go_big_quiet_on)
      |(go_big_quiet_op
        first
         |go_big_quiet_on
         |go_big_quiet_call ((((with_reducible refine X6 (EIv q bl HB1.out HB2.out _ ?_));exact fy.out.B (EC _)))))))
   refine wpQuiet_nil ?_;intro _ hw';obtain⟨y,rfl⟩:=hw';have El:=EC y;replace KR:=J<|KR.out.B El;replace KH:=J<|KH.out.B El;replace KP:=J<|KP.out.B El;replace BB:=ET BB El;clear El harr fy;generalize Ex wr y=w6 at*;go_wp2_with (with_reducible refine wS (cs:=(gQ q bl).cells) bY KH (Ed.mk ?_) (ho:=St.bJ _) (hn:=St.bJ _) (h1:=St.nK _));refine Ed.in ?_;replace KR:=J<|KR.out.setRow_other w2.heap.size (gQ q bl).cells U;replace KP:=J<|KP.out.setRow_other w2.heap.size (gQ q bl).cells U;replace KH:=J<|KH.out.setRow (gQ q bl).cells;replace BB:=J<|E2 (g:=w2.heap.size) BB.out U (gQ q bl).cells;generalize w6.setRow w2.heap.size (gQ q bl).cells=w7 at*;by_cases hlast:L=64;·subst hlast;go_wp2_with fail;have hL:=HL.out;exact⟨⟨i+1,_,0,U,O,U,fun h=>U,KR.out,MO,KP.out,BB.out⟩,by show 0<64;omega⟩
   ·have hL4:64<L:=U;go_wp2_with fail;have hL:=HL.out;exact⟨⟨i+1,_,L-64,U,O,U,fun _=>by rw[show 64*(i+1)=64*i+64 from U],KR.out,MO,KP.out,BB.out⟩,UX⟩
  ·obtain rfl:i=m:=U;obtain rfl:L=0:=U;generalize hq:jU P i=q at*;have HQ:=J hq;clear hq;replace KR:=J KR;replace KH:=J KH;replace BB:=J BB;clear ha KP hL;have l9:=KH.out.lt;go_wp2_with (with_reducible refine wA Zl (Ed.mk ?_));refine Ed.in ?_;have bel:=Eo wr (EI (Ej (Er 32)) 41);replace KR:=J<|KR.out.B bel;replace KH:=J<|KH.out.B bel;replace BB:=ET BB bel;have KS:=J<|D.new wr (Ej (Er 32)) 41;clear bel;generalize wr.alloc (EI (Ej (Er 32)) 41)=w6 at*;generalize wr.heap.size=g9 at*;go_wp2_with (with_reducible refine wL bY KH ?_ (hn:=St.bJ _));go_loopw[23] (fun y wx=> ∃k:Nat,k<=8/\y=E I k/\D wx w.heap.size (Ej (Er 32)) 41/\D wx g9 (Ej (af (Xo q) (Er 32) (4*k))) 41/\Eh w wx) (fun y _=>8-(intOf y).toNat);case atStart=>exact⟨0,U,O,KR.out,by rw[Nat.mul_zero,Hz];exact KS.out,BB.out⟩
   case round=>
    clear KR KH KS BB;obtain⟨k,hk,rfl,KR,KS,BB⟩:=hrel;by_cases hlt:k<8
    ·have hix:=EIx q k hlt;have DG:=EIw q k hlt;have le:(Xo q).length=(Er 32).length:=by rw[nF,bL]
     have lz:=nF q;have lo:=zQ (Xo q) (Er 32) (4*k) le U;have c0:=KS.cell (4*k);have c1:=KS.cell (4*k+1);have c2:=KS.cell (4*k+2);have c3:=KS.cell (4*k+3);have f0:=KS.Jw (4*k);have f1:=KS.Jw (4*k+1);have f2:=KS.Jw (4*k+2);have f3:=KS.Jw (4*k+3);rw[gB _ _ U] at c0 c1 c2 c3;generalize q.list.getD k 0=x at*;have S1:=pR (Xo q) (Er 32) (4*k) le U;have S2:=pR (Xo q) (Er 32) (4*k+1) le U;have S3:=pR (Xo q) (Er 32) (4*k+2) le U;have S4:=pR (Xo q) (Er 32) (4*k+3) le U;rw[DG.1] at S1;rw[DG.2.1] at S2;rw[DG.2.2.1] at S3;rw[DG.2.2.2] at S4;replace S1:=J S1;replace S2:=J S2;replace S3:=J S3;replace S4:=J S4;replace KR:=J KR;replace KS:=J KS;replace BB:=J BB;clear DG le lz lo;go_wp2_with fail;have h:=(((KS.out.set (4*k) (E IB (x/16777216%256))).set (4*k+1) (E IB (x/65536%256))).set (4*k+2) (E IB (x/256%256))).set (4*k+3) (E IB (x%256));rw[kZ,S1.out,kZ,S2.out,kZ,S3.out,kZ,S4.out] at h;exact⟨⟨k+1,U,Ek,(((KR.out.other _ _ _ U).other _ _ _ U).other _ _ _ U).other _ _ _ U,h,(((BB.out.setCell JJ _).setCell JJ _).setCell JJ _).setCell JJ _⟩,JN⟩
    ·obtain rfl:k=8:=U;rw[show((8:Nat):Int)=8 from rfl];rw[H_ (Xo q) (Er 32) (4*8) (by rw[nF];omega) (by rw[bL];omega)] at KS;replace KR:=J KR;replace KS:=J KS;replace BB:=J BB;go_wp2_with (with_reducible first|refine wL JC KS ?_ (hn:=MX)|refine wS (cs:=Ej (Xo q)) JC KR ?_ (ho:=Uh) (hn:=MX) (h1:=Uw _));refine EQ (v:=EU (Ej (Xo q))) (Jb JC O _ _ (w.heap.size) _ O (KR.out.setRow _) (by rw[JV,nF])) O ⟨by rw[HQ.out],E2 BB.out U _⟩
def keyed(k:List Int):List Int:=if 64<k.length then Ux k else k
def ZY(k:List Int):List Int:=keyed k++Er (64-(keyed k).length)
def UH(l:List Int)(b:Int):List Int:=l.map fun c=>bits .xor .u8 c b
def Jy(k b:List Int):List Int:=Ux (UH (ZY k) 92++Ux (UH (ZY k) 54++b))
theorem EIA(k:List Int):(keyed k).length<=64:=by
 unfold keyed;split;·rw[gS];omega
 ·omega
theorem EIB(h: ∀x∈k,0<=x/\x<=255): ∀x∈keyed k,0<=x/\x<=255:=by
 unfold keyed;split;·exact nG k
 ·exact h
theorem MZ(k:List Int):(ZY k).length=64:=by have:=EIA k;simp[ZY,bL];omega
theorem Ma(h: ∀x∈k,0<=x/\x<=255): ∀x∈ZY k,0<=x/\x<=255:=by
 intro x hx;rcases List.mem_append.1 hx with hx|hx;·exact EIB h x hx
 ·exact Ka _ x hx
theorem AV(l:List Int)(b:Int):(UH l b).length=l.length:=by simp[UH]
theorem Mb(a b:Int):0<=bits .xor .u8 a b/\bits .xor .u8 a b<=255:=by unfold bits;simp only;rw[IntKind.wrap_u8'];omega
theorem vx(l:List Int)(b:Int): ∀x∈UH l b,0<=x/\x<=255:=by intro x hx;simp only[UH,List.mem_map] at hx;obtain⟨c,_,rfl⟩:=hx;exact Mb c b
theorem EIC(l:List Int)(b:Int)(i:Nat)(h:i<l.length):(UH l b).getD i 0=bits .xor .u8 (l.getD i 0) b:=by simp[UH,h]
theorem jX(k b:List Int):(Jy k b).length=32:=gS _
theorem qv(k b:List Int): ∀x∈Jy k b,0<=x/\x<=255:=nG _
theorem EID{e:Ez}{k:IntKind}(he:P.underlying e=X (.int k))(cs:Array M)(i:Nat)(v:M)(hv:cs[i]?=X v)(W:H):(Go.part e cs i).run P W=Result.ok v W:=by unfold Go.part;simp[isAgg,run_underlying he,hv]
theorem EIF{e:Ez}{k:IntKind}{inf:TypeInfo}(ht:P.underlying t=X (.array n e))(he:P.underlying e=X (.int k))(hi:P.info? e=X inf)(h1:inf.size=1)(cs:Array M)(i:Nat)(hn:i<n)(v:M)(hv:cs[i]?=X v)(W:H): (Instr.index t (EU cs) (E I (i:Int))).run P W= .ok v W:=by have hp:=EID he cs i v hv W;unfold Instr.index;have c1:(0:Int)<=(i:Int)/\(i:Int)<(n:Int):=U;simp[asIntOf,run_underlying ht,c1,sizeOf,typeInfo,hi,h1,hp];omega
theorem EIG(l:List Int)(hl:l.length=64)(i:Nat)(h:i<64)(W:H):(Instr.index 214 (EU (Ej l)) (E I (i:Int))).run EJ W= .ok (E IB (l.getD i 0)) W:=by obtain⟨i0,hi,hz0,hz1,hz2⟩:=info_parts iS;exact EIF Tryz.underlying214 Tryz.underlying5 hi hz1 _ i h _ (gB l i U) W
theorem vy(k:List Int)(b:Int)(w:H)(hl:k.length=64)(hb:0<=b/\b<=255): Ef EJ 244 #[EU (Ej k),E IB b] w fun e w'=>e=Eg (u (X ⟨w.heap.size+1,0,Z⟩) 64 64)/\D w' (w.heap.size+1) (Ej (UH k b)) 5/\Eh w w':=by
 have HL:=J hl;have hmk: ∀W:H,(Instr.makeSlice 23 (E I 64) (E I 64)).run EJ W= .ok (u (X ⟨W.heap.size,0,Z⟩) 64 64) (W.alloc (EI (Ej (Er 64)) 5)):=Kb 64 U;obtain⟨hb0,hb1⟩:=hb;clear hl;go_enter Tryz.func244,Tryz.ntmps244;go_wp2_with (with_reducible refine Hu 214 ?_);refine Ed.in ?_;have KB:=J<|(D.new w (Ej k) 214).alloc (EI (Ej (Er 64)) 5);have KM:=J<|D.new' (w.alloc (EI (Ej k) 214)) (Ej (Er 64)) 5 (g:=w.heap.size+1) Ek;have BB:=J<|JF w (EI (Ej k) 214) (EI (Ej (Er 64)) 5);clear hmk;generalize (w.alloc (EI (Ej k) 214)).alloc (EI (Ej (Er 64)) 5)=w1 at*;go_wp2_with (with_reducible refine wL kL KB ?_ (hn:=L6));go_loopw[10] (fun y wr=> ∃i:Nat,i<=64/\y=E I i/\D wr (w.heap.size+1) (Ej (part (UH k b) i)) 5/\Eh w wr) (fun y _=>64-(intOf y).toNat);case atStart=>exact⟨0,U,O,by rw[Hx,AV,HL.out];exact KM.out,BB.out⟩
 case round=>
  clear KB KM BB;obtain⟨i,hi,rfl,KM,BB⟩:=hrel;have lt:(UH k b).length=64:=by rw[AV,HL.out]
  by_cases hlt:i<64;·have hix:=EIG k HL.out i hlt;have c0:=KM.cell i;have f0:=KM.Jw i;rw[gB _ _ (by rw[uG _ _ U];omega)] at c0;have ST:=zP (UH k b) i U;rw[EIC _ _ _ AN] at ST;generalize k.getD i 0=x at*;have ST2:=J ST;have AW:=J KM;have XS:=J BB;clear ST KM BB lt;go_wp2_with fail;have h:=AW.out.set i (E IB (bits .xor .u8 x b));rw[kZ,ST2.out] at h;exact⟨⟨i+1,U,Ek,h,XS.out.setCell Ek _⟩,JN⟩
  ·obtain rfl:i=64:=U;rw[show((64:Nat):Int)=64 from rfl];rw[Hy _ _ U] at KM;have AW:=J KM;have XS:=J BB;clear KM BB lt;go_wp2_with fail;go_ret;exact⟨O,AW.out,XS.out⟩
def bO(w:H)(cs:Array M)(ps:List (List Int)):Prop:=cs.size=ps.length/\ ∀i (h:i<ps.length),∃A c,cs[i]?=X (.slice A ps[i].length c)/\Row w A ps[i]
theorem bO.B{ps:List (List Int)}(h:bO w cs ps)(hb:Eh w w'):bO w' cs ps:=⟨h.1,fun i hi=>by obtain⟨A,c,e,r⟩:=h.2 i hi;exact⟨A,c,e,Iq r hb⟩⟩
theorem Mc{A Y4:Option Et}{c d:Nat}{x y:List Int}(hn:x.length=n)(hm:y.length=m)(hx:Row w A x)(hy:Row w Y4 y):bO w #[u A n c,u Y4 m d] [x,y]:=by
 subst hn hm;refine⟨O,fun i hi=> ?_⟩;match i,hi with
 |0,_=>exact⟨A,c,O,hx⟩
 |1,_=>exact⟨Y4,d,O,hy⟩
theorem EIH(g m c:Nat)(cs:Array M)(ps:List (List Int))(w:H)(hm:ps.length=m)(hk:D w g cs 23)(hp:bO w cs ps)(hs:ps.flatten.length<=100000000)(hm2:m<=1000): Ef EJ 243 #[u (X ⟨g,0,Z⟩) m c] w fun e w'=>(∃A d,e=Eg (u A ps.flatten.length d)/\Own w' w.heap.size A d ps.flatten)/\Eh w w':=by
 have HM:=J hm;have HK:=J hk;have HP:=J hp;have HS:=J hs;clear hm hk hp hs;go_enter Tryz.func243,Tryz.ntmps243;go_wp2_with fail;go_loopw[3,8] (fun x y wr=> ∃(i:Nat) (A:Option Et) (d n:Nat),i<=m/\y=E I i/\x=u A n d/\(ps.take i).flatten.length=n/\Own wr w.heap.size A d (ps.take i).flatten/\Eh w wr) (fun _ y _=>m-(intOf y).toNat);case atStart=>exact⟨0,Z,0,0,U,O,O,O,XJ _ _,E6 _ _⟩
 case round=>
  obtain⟨i,A,d,n,hi,rfl,rfl,hn,ho,BB⟩:=hrel;by_cases hlt:i<m
  ·have hil:i<ps.length:=AY;obtain⟨Y4,c2,e2,r2⟩:=HP.out.2 i hil;have ck:=(HK.out.B BB).cell i;rw[e2] at ck;have hst:(ps.take (i+1)).flatten=(ps.take i).flatten++ps[i]:=Md;have hle:(ps.take (i+1)).flatten.length<=100000000:=by have h1:=HS.out;have h2:ps.flatten=(ps.take (i+1)).flatten++(ps.drop (i+1)).flatten:=Mf;rw[h2,IL] at h1;omega
   rw[hst,IL] at hle;exact Eir
  ·exact Ej2
theorem vC(g c:Nat)(A Y4:Option Et)(n m e d:Nat)(x y:List Int)(w:H)(hn:x.length=n)(hm:y.length=m)(hk:D w g #[u A n e,u Y4 m d] 23)(hx:Row w A x)(hy:Row w Y4 y)(hs:n+m<=100000000): Ef EJ 243 #[u (X ⟨g,0,Z⟩) 2 c] w fun e w'=>(∃A d,e=Eg (u A (n+m) d)/\Own w' w.heap.size A d (x++y))/\Eh w w':=by have h:=EIH g 2 c _ [x,y] w O hk (Mc hn hm hx hy) JJ U;have e1:[x,y].flatten=x++y:=Ek;rw[e1,IL,hn,hm] at h;exact h
theorem EIK(hx:0<=x/\x<=255)(hy:0<=y/\y<=255):bits .xor .u8 x y=0↔x=y:=by
 rw[u8_xor x y hx.1 U hy.1 U];constructor
 ·intro h;have h2:x.toNat^^^y.toNat=0:=U;have h3:x.toNat=y.toNat:=by apply Nat.eq_of_testBit_eq;intro i;have:=congrArg (fun n=>Nat.testBit n i) h2;simp only[Nat.testBit_xor,Nat.zero_testBit] at this;revert this;cases x.toNat.testBit i<;>cases y.toNat.testBit i<;>simp
  omega
 ·rintro rfl;simp
theorem EIL(hx:0<=x/\x<=255)(hy:0<=y/\y<=255):bits .or .u8 x y=0↔x=0/\y=0:=by
 rw[u8_or x y hx.1 U hy.1 U]
 have key:x.toNat|||y.toNat=0↔x.toNat=0/\y.toNat=0:=by
  constructor
  ·intro h;have a: ∀i,x.toNat.testBit i=Y/\y.toNat.testBit i=Y:=by intro i;have:=congrArg (fun n=>Nat.testBit n i) h;simp only[Nat.testBit_or,Nat.zero_testBit,Bool.or_eq_false_iff] at this;exact this
   exact⟨Nat.eq_of_testBit_eq fun i=>by rw[(a i).1];simp,Nat.eq_of_testBit_eq fun i=>by rw[(a i).2];simp⟩
  ·rintro⟨h1,h2⟩;rw[h1,h2];rfl
 constructor;·intro h;have:=key.1 U;omega
 ·rintro⟨h1,h2⟩;have:=key.2 U;omega
theorem EIM(a b:Int):0<=bits .or .u8 a b/\bits .or .u8 a b<=255:=by unfold bits;simp only;rw[IntKind.wrap_u8'];omega
theorem vD(A Y4:Option Et)(x y:List Int)(n m c d:Nat)(w:H)(hn:x.length=n)(hm:y.length=m)(hx:Row w A x)(hy:Row w Y4 y)(hl:n<=1000000000)(hl2:m<=1000000000): Ef EJ 168 #[u A n c,u Y4 m d] w fun e w'=>e=Eg (Eb (decide (x=y)))/\w=w':=by
 by_cases hnm:n=m
 ·subst hnm;have HN:=J hn;have HM:=J hm;have HX:=J hx;have HY:=J hy;obtain⟨b,hb⟩:=JO (decide (x=y));rw[hb];have HB:=J hb;clear hn hm hx hy hb;go_enter Tryz.func168,Tryz.ntmps168;go_wp2_with fail;go_loop [5,15] (fun o y'=> ∃(i:Nat) (z:Int),i<=n/\y'=E I i/\o=E IB z/\0<=z/\z<=255/\(z=0↔x.take i=y.take i)) (fun _ y'=>n-(intOf y').toNat);case atStart=>exact⟨0,0,U,O,O,U,U,Ek⟩
  case round=>
   obtain⟨i,z,hi,rfl,rfl,z0,z1,hz⟩:=hrel;by_cases hlt:i<n
   ·have hxi:i<x.length:=gH;have hyi:i<y.length:=AY;rcases HX.out.1 with e|⟨g,o,rfl,hc⟩;·exfalso;rw[e] at hxi;simp at hxi
    rcases HY.out.1 with e|⟨g',o',rfl,hc'⟩;·exfalso;rw[e] at hyi;simp at hyi
    have c1:=hc i hxi;have c2:=hc' i hyi;have r1:=HX.out.2 x[i] (List.getElem_mem _);have r2:=HY.out.2 y[i] (List.getElem_mem _)
    have ST:bits .or .u8 z (bits .xor .u8 x[i] y[i])=0↔x.take (i+1)=y.take (i+1):=by
     rw[EIL ⟨z0,z1⟩ (Mb _ _),EIK r1 r2,hz,List.take_succ_eq_append_getElem hxi,List.take_succ_eq_append_getElem hyi];constructor;·rintro⟨h1,h2⟩;rw[h1,h2]
     ·intro h;have:=List.append_inj h JJ;exact⟨this.1,by simpa using this.2⟩
    have OB:=EIM z (bits .xor .u8 x[i] y[i]);have ST2:=J ST;have Mh:=J OB;clear ST OB hz hc hc';generalize x[i]=p at*;generalize y[i]=q at*;go_wp2_with fail;exact⟨⟨i+1,_,U,Ek,O,Mh.out.1,Mh.out.2,ST2.out⟩,JN⟩
   ·obtain rfl:i=n:=U;rw[List.take_of_length_le ky,List.take_of_length_le A_] at hz;have e:(z==0)=b:=by rw[<-HB.out,Bool.eq_iff_iff];simp[hz]
    clear hz;exact Eh9
 ·have hne:x≠y:=fun h=>hnm (by rw[<-hn,<-hm,h]);rw[E9 hne];have hne2:((n:Int) !=(m:Int))=G:=JJ;clear hne hn hm hx hy;go_enter Tryz.func168,Tryz.ntmps168;exact Eh9
theorem EIN{fr:Nat×Nat}{xs:List Int}(hg:W.heap[g]?=X (EI cs t fr))(hc:cs=(xs.map (E .u8)).toArray)(hb: ∀x∈xs,0<=x/\x<=255): Row W (X ⟨g,0,Z⟩) xs:=by subst hc;refine⟨.inr ⟨g,0,O,fun i h=> ?_⟩,hb⟩;rw[cell_of_row W g (0+i) _ t fr hg];simp[h]
theorem EIP{v:M}(h:HU .u8 w v):uu w v:=by
 rcases h with rfl|⟨x,len,cap,zs,rfl,hx,hl,hc,hz,hcell,hw⟩;·exact⟨Z,[],0,O,Ek,Ek,j8 _ _,fun _=>rfl⟩
 ·have hlen:(zs.take len).length=len:=iQ;refine⟨X x,zs.take len,cap,by rw[hlen],U,U,⟨?_,fun y hy=>Ha (hw y (List.mem_of_mem_take hy))⟩,fun h=>Uf⟩;rcases Nat.eq_zero_or_pos cap with h0|h0;·left;exact List.eq_nil_of_length_eq_zero U
  ·right;obtain⟨hb,hs⟩:=hx h0;obtain⟨b,off,spot⟩:=x;simp at hs;subst hs;refine⟨b,off,O,fun i hi=> ?_⟩;have hi':i<len:=U;have:=hcell i U;rw[Addr.add_mid] at this;exact Ell
theorem Mi:Og EJ 214 (Ej (Er 64)):=by intro ev o w ho;unfold execOp;simp only[ho];simp[go_sem];exact congrArg (fun c=>w.alloc (EI c 214)) Ec
theorem kR:Og EJ 115 (Ej (Er 8)):=by intro ev o w ho;unfold execOp;simp only[ho];simp[go_sem];exact congrArg (fun c=>w.alloc (EI c 115)) Ec
theorem XT:ID EJ 115 8:=⟨⟨_,Tryz.underlying115,O⟩,Ec⟩
def vF(full x2 s1:List Int)(g7:Nat)(i:Nat)(v:M)(w:H):Prop:=match i with
 |0=>v=EU (Ej full)
 |1=> ∃g,v=u (X ⟨g,0,Z⟩) 64 64/\Row w (X ⟨g,0,Z⟩) x2
 |2=>v=u (X ⟨g7,0,Z⟩) 32 32
 |3=> ∃g A,v=u (X ⟨g,0,Z⟩) 2 2/\D w g #[u A 64 64,u (X ⟨g7,0,Z⟩) 32 32] 23/\Row w A x2
 |4=> ∃A d,v=u A 96 d/\Row w A (x2++s1)
 |5=>v=EU (Ej (Ux (x2++s1)))
 |_=>True
theorem Mj(full x2 s1:List Int)(g7:Nat): ∀i v w w',i<6->vF full x2 s1 g7 i v w->Eh w w'->vF full x2 s1 g7 i v w':=by
 intro i v w w' hi h hb;match i,hi with
 |0,_=>exact h
 |1,_=> obtain⟨g,e,r⟩:=h;exact⟨g,e,Iq r hb⟩
 |2,_=>exact h
 |3,_=> obtain⟨g,A,e,k,r⟩:=h;exact⟨g,A,e,k.B hb,Iq r hb⟩
 |4,_=> obtain⟨A,d,e,r⟩:=h;exact⟨A,d,e,Iq r hb⟩
 |5,_=>exact h
 |_+6,hi=>exact absurd hi U
theorem Mk(k:List Int)(hk:k.length<=64):putAt (Er 64) 0 k=k++Er (64-k.length):=by unfold putAt Er;simp only[Ij,List.nil_append,Nat.zero_add,List.drop_replicate]
theorem EIQ(A Y4:Option Et)(k b:List Int)(n m c d:Nat)(w:H)(hn:k.length=n)(hm:b.length=m)(hk:Row w A k)(hb:Row w Y4 b)(hl:n<=64)(hl2:m<=10000000)(hR:Jc w): Ef EJ 215 #[u A n c,u Y4 m d] w fun e w'=>e=Eg (EU (Ej (Jy k b)))/\Eh w w':=by
 have aj:=J hn;have kP:=J hm;have qx:=J hk;have BI:=J hb;have RT:=J hR;have EIR: ¬64<(n:Int):=U;obtain⟨ans,kV⟩:=JO (Jy k b);rw[kV];have BJ:=J kV;clear hn hm hk hb hR kV;go_enter Tryz.func215,Tryz.ntmps215;go_wp2_with (with_reducible first|refine wA Zl ?_|refine wA Mi (Ed.mk ?_));refine Ed.in ?_;have K4:=J<|(D.new w (Ej (Er 32)) 41).alloc (EI (Ej (Er 64)) 214);have K5:=J<|D.new' (w.alloc (EI (Ej (Er 32)) 41)) (Ej (Er 64)) 214 (g:=w.heap.size+1) Ek;have BB:=J<|JF w (EI (Ej (Er 32)) 41) (EI (Ej (Er 64)) 214);have lg:w.heap.size<w.heap.size+1:=U;generalize (w.alloc (EI (Ej (Er 32)) 41)).alloc (EI (Ej (Er 64)) 214)=w1 at*;generalize w.heap.size+1=g5 at*;go_wp2_with ((with_reducible show wpList _ _ _ (⟨X 18,_,_,_,_,Z⟩::_) _ _);refine Ed.mk ?_);refine Ed.in ?_;have qy:=J<|Iq qx.out BB.out;(with_reducible refine gD ?_ g5 0 64 64 (Er 64) 214 A n c k n (X ⟨g5,0,Z⟩) ?_ K5 aj.out qy ?_ ?_ ?_ ?_);·exact Ei O
 ·exact Ek4
 ·exact Nat.min_eq_left U
 ·rw[bL];omega
 ·exact Emc
 intro w5 dc b5 o5 s5;have e5:putAt (Er 64) 0 (k.take n)=ZY k:=by have h1:=aj.out;rw[List.take_of_length_le U,Mk k U];have h2:keyed k=k:=if_neg U;unfold ZY;rw[h2]
 rw[e5] at dc;replace K4:=J<|show D w5 w.heap.size (Ej (Er 32)) 41 from(o5 _ U).trans K4.out;replace BB:=J<|BB.out.trans (b5.mono U);clear K5 o5 s5 b5 e5 qy;have K5:=dc;clear dc;replace K5:=J K5;have fz:=Ma qx.out.2;have Zm:=MZ k;have kW:Jy k b=Ux (UH (ZY k) 92++Ux (UH (ZY k) 54++b)):=rfl;generalize ZY k=full at*;rw[BJ.out] at kW;replace fz:=J fz;replace Zm:=J Zm;have HM:=J kW;clear kW;have C1:=J (vy full 54 · Zm.out U);have C2:=J (vy full 92 · Zm.out U);have jZ:(UH full 54).length=64:=vG;have ja:(UH full 92).length=64:=vG;have kY:=vx full 54;have k_:=vx full 92;generalize UH full 54=x1 at*;generalize UH full 92=x2 at*;replace jZ:=J jZ;replace ja:=J ja;replace kY:=J kY;replace k_:=J k_;go_wp2_with (with_reducible refine wL kL K5 ?_ (hn:=Ml));(with_reducible refine(C1.out _).mono ?_);rintro e w6 ⟨rfl,KT,b6⟩;replace K4:=J<|K4.out.B b6;replace K5:=J<|K5.out.B b6;replace BB:=ET BB b6;have fy:=J<|Zk KT kY.out;clear b6 KT;generalize (w5.heap.size+1)=gt at*;go_wp2_with (go_at_call 243;refine Ed.mk ?_);refine Ed.in ?_;have bl:=Eo w6 (EI #[u (X ⟨gt,0,Z⟩) 64 64,u Y4 m d] 23);have KJ:=D.new w6 #[u (X ⟨gt,0,Z⟩) 64 64,u Y4 m d] 23;replace fy:=J<|Iq fy.out bl;replace K4:=J<|K4.out.B bl;replace K5:=J<|K5.out.B bl;replace BB:=ET BB bl;clear bl;generalize w6.alloc (EI #[u (X ⟨gt,0,Z⟩) 64 64,u Y4 m d] 23)=w7 at*;(with_reducible refine(vC w6.heap.size 2 (X ⟨gt,0,Z⟩) Y4 64 m 64 d x1 b w7 jZ.out kP.out KJ fy.out (Iq BI.out BB.out) U).mono ?_);rintro e w8 ⟨⟨A1,d1,rfl,o1⟩,b8⟩;replace K4:=J<|K4.out.B b8;replace K5:=J<|K5.out.B b8;replace BB:=ET BB b8;clear b8 KJ;have RJ:=J o1.row;have LJ:(x1++b).length=64+m:=Mm;clear o1;generalize hJ:x1++b=j1 at*;replace LJ:=J LJ;replace hJ:=J hJ;go_wp2_with fail;(with_reducible refine(nL A1 j1 (64+m) d1 w8 LJ.out RJ.out U (RT.out.B BB.out)).mono ?_);rintro e w9 ⟨rfl,b9⟩;replace K4:=J<|K4.out.B b9;replace K5:=J<|K5.out.B b9;replace BB:=ET BB b9;have l9:=K5.out.lt;clear b9 RJ;have gT:=gS j1;have lE:=nG j1;generalize hS:Ux j1=s1 at*;replace hS:=J hS;replace gT:=J gT;replace lE:=J lE;go_wp2_with (with_reducible refine wA Zl (Ed.mk ?_));refine Ed.in ?_;have bel:=Eo w9 (EI (Ej (Er 32)) 41);replace K4:=J<|K4.out.B bel;replace K5:=J<|K5.out.B bel;replace BB:=ET BB bel;have K7:=J<|D.new w9 (Ej (Er 32)) 41;clear bel;generalize w9.alloc (EI (Ej (Er 32)) 41)=UD at*;generalize w9.heap.size=g7 at*;go_wp2_with (with_reducible refine wS (cs:=Ej s1) JC K7 (Ed.mk ?_) (ho:=Uh) (hn:=Mn) (h1:=Uw _));refine Ed.in ?_;replace K4:=J<|K4.out.setRow_other g7 (Ej s1) U;replace K5:=J<|K5.out.setRow_other g7 (Ej s1) U;replace K7:=J<|K7.out.setRow (Ej s1);replace BB:=J<|E2 (g:=g7) BB.out U (Ej s1);generalize UD.setRow g7 (Ej s1)=Zn at*;go_wp2_with fail;refine Hl Ec 6 Ec Ek EZ (vF full x2 s1 g7) (Mj full x2 s1 g7) ?_ ?_
 ·simp only[iW,Il,Ij,EB,Ic,Ig,IJ,IU,and_true];refine⟨?_,?_,?_,?_,?_,?_⟩;all_goals intro v w' hb hd
  ·exact Elw
  ·exact EjW
  ·exact zD (Ei O) Ew O
  ·exact EiS
  ·exact EiM
  ·exact Eji
 ·intro v w' hb hr;have d5:v 5=EU (Ej (Ux (x2++s1))):=hr 5 U;simp only[Il,Ij,Iz,Ix,EB,Ic,Ig,IJ,IU];have ea:Ux (x2++s1)=ans:=HM.out.symm;rw[ea] at d5;have AL:ans.length=32:=by rw[<-ea,gS]
  rw[d5];exact EjX
theorem EIS(A Y4:Option Et)(k b:List Int)(n m c d:Nat)(w:H)(hn:k.length=n)(hm:b.length=m)(hk:Row w A k)(hb:Row w Y4 b)(hl:64<n/\n<=10000000)(hl2:m<=10000000)(hR:Jc w): Ef EJ 215 #[u A n c,u Y4 m d] w fun e w'=>e=Eg (EU (Ej (Jy k b)))/\Eh w w':=by
 have aj:=J hn;have kP:=J hm;have qx:=J hk;have BI:=J hb;have RT:=J hR;have EIR:64<(n:Int):=U;obtain⟨ans,kV⟩:=JO (Jy k b);rw[kV];have BJ:=J kV;clear hn hm hk hb hR kV;go_enter Tryz.func215,Tryz.ntmps215;go_wp2_with (with_reducible first|refine wA Zl ?_|refine wA Mi (Ed.mk ?_));refine Ed.in ?_;have K4:=J<|(D.new w (Ej (Er 32)) 41).alloc (EI (Ej (Er 64)) 214);have K5:=J<|D.new' (w.alloc (EI (Ej (Er 32)) 41)) (Ej (Er 64)) 214 (g:=w.heap.size+1) Ek;have BB:=J<|JF w (EI (Ej (Er 32)) 41) (EI (Ej (Er 64)) 214);have lg:w.heap.size<w.heap.size+1:=U;generalize (w.alloc (EI (Ej (Er 32)) 41)).alloc (EI (Ej (Er 64)) 214)=w1 at*;generalize w.heap.size+1=g5 at*;go_wp2_with fail;(with_reducible refine(nL A k n c w1 aj.out (Iq qx.out BB.out) U (RT.out.B BB.out)).mono ?_);rintro e w2 ⟨rfl,b2⟩;have KL:=gS k;have KB:=nG k;have hkk:keyed k=Ux k:=if_pos (by rw[aj.out];omega);generalize Ux k=sk at*;replace KL:=J KL;replace KB:=J KB;replace hkk:=J hkk;replace K4:=J<|K4.out.B b2;replace K5:=J<|K5.out.B b2;replace BB:=ET BB b2;have l2:=K5.out.lt;clear b2;go_wp2_with (with_reducible refine wA Zl (Ed.mk ?_));refine Ed.in ?_;have bel:=Eo w2 (EI (Ej (Er 32)) 41);replace K4:=J<|K4.out.B bel;replace K5:=J<|K5.out.B bel;replace BB:=ET BB bel;have K6:=J<|D.new w2 (Ej (Er 32)) 41;clear bel;generalize w2.alloc (EI (Ej (Er 32)) 41)=w3 at*;generalize w2.heap.size=g6 at*;go_wp2_with (with_reducible refine wS (cs:=Ej sk) JC K6 (Ed.mk ?_) (ho:=Uh) (hn:=Mp) (h1:=Uw _));refine Ed.in ?_;replace K4:=J<|K4.out.setRow_other g6 (Ej sk) U;replace K5:=J<|K5.out.setRow_other g6 (Ej sk) U;replace K6:=J<|K6.out.setRow (Ej sk);replace BB:=J<|E2 (g:=g6) BB.out U (Ej sk);generalize w3.setRow g6 (Ej sk)=w4 at*;go_wp2_with fail;refine pP 2 Ec Ec ?_;simp only[Il,Ij,Iz,Ix];repeat (go_big_quiet_step (fail))
 refine wpQuiet_nil ?_;intro _ hw';obtain⟨nq,rfl⟩:=hw';replace K4:=J<|K4.out.drewN nq;replace K5:=J<|K5.out.drewN nq;have qy:=J<|Zk (K6.out.drewN nq) KB.out;replace BB:=J<|aQ BB.out nq;generalize w4.drewN nq=w4 at*;(with_reducible refine gD ?_ g5 0 64 64 (Er 64) 214 (X ⟨g6,0,Z⟩) 32 32 sk 32 (X ⟨g5,0,Z⟩) ?_ K5 KL.out qy ?_ ?_ ?_ ?_);·exact Ei O
 ·exact Ek4
 ·rfl
 ·rw[bL];omega
 ·exact Emc
 intro w5 dc b5 o5 s5;have e5:putAt (Er 64) 0 (sk.take 32)=ZY k:=by have h1:=KL.out;rw[List.take_of_length_le U,Mk sk U];unfold ZY;rw[hkk.out]
 rw[e5] at dc;replace K4:=J<|show D w5 w.heap.size (Ej (Er 32)) 41 from(o5 _ U).trans K4.out;replace BB:=J<|BB.out.trans (b5.mono U);clear K5 K6 o5 s5 b5 e5 qy hkk;have K5:=dc;clear dc;replace K5:=J K5;have fz:=Ma qx.out.2;have Zm:=MZ k;have kW:Jy k b=Ux (UH (ZY k) 92++Ux (UH (ZY k) 54++b)):=rfl;generalize ZY k=full at*;rw[BJ.out] at kW;replace fz:=J fz;replace Zm:=J Zm;have HM:=J kW;clear kW;have C1:=J (vy full 54 · Zm.out U);have C2:=J (vy full 92 · Zm.out U);have jZ:(UH full 54).length=64:=vG;have ja:(UH full 92).length=64:=vG;have kY:=vx full 54;have k_:=vx full 92;generalize UH full 54=x1 at*;generalize UH full 92=x2 at*;replace jZ:=J jZ;replace ja:=J ja;replace kY:=J kY;replace k_:=J k_;go_wp2_with (with_reducible refine wL kL K5 ?_ (hn:=Ml));(with_reducible refine(C1.out _).mono ?_);rintro e w6 ⟨rfl,KT,b6⟩;replace K4:=J<|K4.out.B b6;replace K5:=J<|K5.out.B b6;replace BB:=ET BB b6;have fy:=J<|Zk KT kY.out;clear b6 KT;generalize (w5.heap.size+1)=gt at*;go_wp2_with (go_at_call 243;refine Ed.mk ?_);refine Ed.in ?_;have bl:=Eo w6 (EI #[u (X ⟨gt,0,Z⟩) 64 64,u Y4 m d] 23);have KJ:=D.new w6 #[u (X ⟨gt,0,Z⟩) 64 64,u Y4 m d] 23;replace fy:=J<|Iq fy.out bl;replace K4:=J<|K4.out.B bl;replace K5:=J<|K5.out.B bl;replace BB:=ET BB bl;clear bl;generalize w6.alloc (EI #[u (X ⟨gt,0,Z⟩) 64 64,u Y4 m d] 23)=w7 at*;(with_reducible refine(vC w6.heap.size 2 (X ⟨gt,0,Z⟩) Y4 64 m 64 d x1 b w7 jZ.out kP.out KJ fy.out (Iq BI.out BB.out) U).mono ?_);rintro e w8 ⟨⟨A1,d1,rfl,o1⟩,b8⟩;replace K4:=J<|K4.out.B b8;replace K5:=J<|K5.out.B b8;replace BB:=ET BB b8;clear b8 KJ;have RJ:=J o1.row;have LJ:(x1++b).length=64+m:=Mm;clear o1;generalize hJ:x1++b=j1 at*;replace LJ:=J LJ;replace hJ:=J hJ;go_wp2_with fail;(with_reducible refine(nL A1 j1 (64+m) d1 w8 LJ.out RJ.out U (RT.out.B BB.out)).mono ?_);rintro e w9 ⟨rfl,b9⟩;replace K4:=J<|K4.out.B b9;replace K5:=J<|K5.out.B b9;replace BB:=ET BB b9;have l9:=K5.out.lt;clear b9 RJ;have gT:=gS j1;have lE:=nG j1;generalize hS:Ux j1=s1 at*;replace hS:=J hS;replace gT:=J gT;replace lE:=J lE;go_wp2_with (with_reducible refine wA Zl (Ed.mk ?_));refine Ed.in ?_;have bel:=Eo w9 (EI (Ej (Er 32)) 41);replace K4:=J<|K4.out.B bel;replace K5:=J<|K5.out.B bel;replace BB:=ET BB bel;have K7:=J<|D.new w9 (Ej (Er 32)) 41;clear bel;generalize w9.alloc (EI (Ej (Er 32)) 41)=UD at*;generalize w9.heap.size=g7 at*;go_wp2_with (with_reducible refine wS (cs:=Ej s1) JC K7 (Ed.mk ?_) (ho:=Uh) (hn:=Mn) (h1:=Uw _));refine Ed.in ?_;replace K4:=J<|K4.out.setRow_other g7 (Ej s1) U;replace K5:=J<|K5.out.setRow_other g7 (Ej s1) U;replace K7:=J<|K7.out.setRow (Ej s1);replace BB:=J<|E2 (g:=g7) BB.out U (Ej s1);generalize UD.setRow g7 (Ej s1)=Zn at*;go_wp2_with fail;refine Hl Ec 6 Ec Ek EZ (vF full x2 s1 g7) (Mj full x2 s1 g7) ?_ ?_
 ·simp only[iW,Il,Ij,EB,Ic,Ig,IJ,IU,and_true];refine⟨?_,?_,?_,?_,?_,?_⟩;all_goals intro v w' hb hd
  ·exact Elw
  ·exact EjW
  ·exact zD (Ei O) Ew O
  ·exact EiS
  ·exact EiM
  ·exact Eji
 ·intro v w' hb hr;have d5:v 5=EU (Ej (Ux (x2++s1))):=hr 5 U;simp only[Il,Ij,Iz,Ix,EB,Ic,Ig,IJ,IU];have ea:Ux (x2++s1)=ans:=HM.out.symm;rw[ea] at d5;have AL:ans.length=32:=by rw[<-ea,gS]
  rw[d5];exact EjX
theorem Mq(A Y4:Option Et)(k b:List Int)(n m c d:Nat)(w:H)(hn:k.length=n)(hm:b.length=m)(hk:Row w A k)(hb:Row w Y4 b)(hl:n<=10000000)(hl2:m<=10000000)(hR:Jc w): Ef EJ 215 #[u A n c,u Y4 m d] w fun e w'=>e=Eg (EU (Ej (Jy k b)))/\Eh w w':=by
 rcases Nat.lt_or_ge 64 n with h|h;·exact EIS A Y4 k b n m c d w hn hm hk hb ⟨h,hl⟩ hl2 hR
 ·exact EIQ A Y4 k b n m c d w hn hm hk hb h hl2 hR
end Go.Proofs.YtclmichaaiohjaaGreatDoor
