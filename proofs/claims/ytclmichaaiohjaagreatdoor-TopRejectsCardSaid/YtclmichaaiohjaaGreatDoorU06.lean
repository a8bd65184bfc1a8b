import Derived.Test.YtclmichaaiohjaaGreatDoorU05
import Derived.ChangeSlices
import Derived.Deep.DeepCutAuto
set_option maxRecDepth 100000
set_option linter.unusedVariables false
set_option linter.unusedSimpArgs false
set_option maxHeartbeats 6400000
namespace Go.Proofs.YtclmichaaiohjaaGreatDoor
open RowKit
open _root_.Array renaming getElem?_eq_none->gQ
open Bool renaming true->EI,false->B
open Go renaming bits->Iu,World->H,Calls->Ef,TypeId->EB,Value->Y,Addr->Eu,Program->Jh,heap_alloc_new->fz,bodyPost_ret->EV,Act->E6,Oper->EL,execOp->If,wpList->Ic,Operand->J7,info_parts->bz,madeCells->aL,below_setRow->E2,wpQuiet_nil->I1,method->XY,callFunc->Jd,wp_loop_rounds->Ud,rounds_succ->Ij,wpList_store_mid->Ui
open Act renaming put->Ig
open DataW renaming trod->Zx
open Ending renaming returned->Eg
open Instr renaming loadAt->fB,sureAddr->dJ,index->Uj
open IntKind renaming wrap->oI,bits->jV,signed->jW,i64->I,u8->IL,u64->Im
open Lib renaming hid->J
open Obj renaming cells->EJ
open Go.Proofs.Tryz renaming prog->Eb,underlying23->bA,func138->kH,ntmps138->kK
open Result renaming andThen_ok->OC
open RowKit renaming Below->Ik,Hid->Ec,intOf->Ir
open RowKit.Below renaming refl->E9,heap_setCell->XK
open Sem renaming run_bind->Oz,run_pure->Og,run->Us
open Value renaming bool->EU,int->E,agg->EZ,slice->G,tuple->Et,pointer->M,oneCell'->OF
open World renaming block_lt_of_cell?->Xv,alloc->Uz,cell?->jo,ownsRow->cu
open Int renaming toNat_natCast->mO,eq_ofNat_of_zero_le->jU,le_refl->Zo
open List renaming getElem?_eq_none->bf,mem_of_mem_take->fy,getElem?_eq_getElem->J5,take_succ_cons->Iq,take_of_length_le->OY,getElem?_take_of_lt->bj,getElem?_append_right->aX,map_cons->Uv,map_nil->Xn,take_zero->Io,mem_map->dU,getElem?_toArray->OE,setIfInBounds_toArray->Ii,length_append->IY,mem_cons->UJ,getElem_mem->gY,set_cons_succ->Ia,set_cons_zero->Ib,mem_append->XM,length_drop->mB,not_mem_nil->UA,drop_succ_cons->IP,drop_zero->IH,Perm->jr
open List.Perm renaming refl->aT,swap->aV,cons->vd
open Nat renaming lt_or_ge->JY,le_trans->Ez,le_refl->E7,zero_add->OD,zero_le->bG,le_of_lt->am,le_of_eq->Om
open Option renaming some->Z,none->X
open KQ
variable{b w w' a W W':H}{c:Ey}{base g lo hi N gq gt gc gs ns g2 i:Nat}{A:Option Eu}{xs hd:List Int}{cs cs2:Array Y}{S S2:EB}{ys:List Y}{rs:List Rec}{L:List One}
def Zn(n b:Int):Bool:=decide (0<=n/\n<b)
theorem AQ{n b:Int}(h:Zn n b=EI):0<=n/\n<b:=of_decide_eq_true h
theorem Sy(n b:Int)(w:H): Ef Eb 162 #[E I n,E I b] w fun e w'=>e=Eg (EU (Zn n b))/\w=w':=by
 by_cases h:0<=n;·go_enter Tryz.func162,Tryz.ntmps162;go_wp2;go_ret;exact⟨yg (by unfold Zn;simp[h]),O⟩
 ·go_enter Tryz.func162,Tryz.ntmps162;go_wp2;go_ret;exact⟨yg (by unfold Zn;simp;omega),O⟩
theorem gO(n b:Int)(w:H)(h:Zn n b=EI): Ef Eb 162 #[E I n,E I b] w fun e w'=>e=Eg (EU EI)/\w=w':=by have:=Sy n b w;rwa [h] at this
theorem pq(n b:Int)(w:H)(h:Zn n b=B): Ef Eb 162 #[E I n,E I b] w fun e w'=>e=Eg (EU B)/\w=w':=by have:=Sy n b w;rwa [h] at this
def pn(g:Nat->Y)(i:Nat):Int:=Ir (g i)
def kG(g:Nat->Y)(source role:Int):Bool:=Zn source 5&&Zn role 4&&has (pn g (9+source.toNat)) role
def may(g:Nat->Y)(mode role Sz:Int):Bool:=Zn mode 5&&Zn role 4&&Zn Sz 4&&has (pn g (14+mode.toNat*4+role.toNat)) Sz
def ia(g:Nat->Y)(from_ aD:Int):Bool:=Zn from_ 5&&Zn aD 5&&has (pn g (34+from_.toNat)) aD
theorem SA(g:Nat->Y)(s r:Int)(w:H)(hg: ∀i,9<=i->i<56->ZG (g i)): Ef Eb 119 #[EZ (EG 56 g),E I s,E I r] w fun e w'=>e=Eg (EU (kG g s r))/\El w w':=by
 cases h1:Zn s 5;·have N1:=J h1;rw[show kG g s r=B from by simp[kG,h1]];clear h1;go_enter Tryz.func119,Tryz.ntmps119;exact Emn
 ·cases h2:Zn r 4;·have N1:=J h1;have N2:=J h2;rw[show kG g s r=B from by simp[kG,h2]];clear h1 h2;go_enter Tryz.func119,Tryz.ntmps119;go_wp2_with fail;refine(gO _ _ _ N1.out).mono ?_;rintro e w' ⟨rfl,rfl⟩;go_wp2_with fail;refine(pq _ _ _ N2.out).mono ?_;rintro e w' ⟨rfl,rfl⟩;go_wp2;go_ret;exact⟨O,Er _ _⟩
  ·have N1:=J h1;have N2:=J h2;obtain⟨k1,k2⟩:=AQ h1;obtain⟨k,rfl⟩:=jU k1;rw[show kG g k r=has (pn g (9+k)) r from by simp[kG,h1,h2]];have hlt:9+k<56:=U;obtain⟨e1,m1,m2⟩:=hg (9+k) U hlt;obtain⟨p1,hp1⟩:=Jl (Ir (g (9+k)));rw[show pn g (9+k)=p1 from hp1];rw[hp1] at e1 m1 m2;obtain⟨b,hb⟩:=Jl (has p1 r);have hh:=Fa p1 r;rw[hb] at hh;have HH:=J hh;rw[hb];clear h1 h2 hp1 hg hb hh;go_enter Tryz.func119,Tryz.ntmps119;exact Epl
theorem SD(g:Nat->Y)(s r:Int)(w:H)(hg: ∀i,9<=i->i<56->ZG (g i)): Ef Eb 183 #[EZ (EG 56 g),E I s,E I r] w fun e w'=>e=Eg (EU (ia g s r))/\El w w':=by
 cases h1:Zn s 5;·have N1:=J h1;rw[show ia g s r=B from by simp[ia,h1]];clear h1;go_enter Tryz.func183,Tryz.ntmps183;exact Emn
 ·cases h2:Zn r 5;·have N1:=J h1;have N2:=J h2;rw[show ia g s r=B from by simp[ia,h2]];clear h1 h2;go_enter Tryz.func183,Tryz.ntmps183;go_wp2_with fail;refine(gO _ _ _ N1.out).mono ?_;rintro e w' ⟨rfl,rfl⟩;go_wp2_with fail;refine(pq _ _ _ N2.out).mono ?_;rintro e w' ⟨rfl,rfl⟩;go_wp2;go_ret;exact⟨O,Er _ _⟩
  ·have N1:=J h1;have N2:=J h2;obtain⟨k1,k2⟩:=AQ h1;obtain⟨k,rfl⟩:=jU k1;rw[show ia g k r=has (pn g (34+k)) r from by simp[ia,h1,h2]];have hlt:34+k<56:=U;obtain⟨e1,m1,m2⟩:=hg (34+k) U hlt;obtain⟨p1,hp1⟩:=Jl (Ir (g (34+k)));rw[show pn g (34+k)=p1 from hp1];rw[hp1] at e1 m1 m2;obtain⟨b,hb⟩:=Jl (has p1 r);have hh:=Fa p1 r;rw[hb] at hh;have HH:=J hh;rw[hb];clear h1 h2 hp1 hg hb hh;go_enter Tryz.func183,Tryz.ntmps183;exact Epl
theorem vJ(g:Nat->Y)(s r c:Int)(w:H)(hg: ∀i,9<=i->i<56->ZG (g i)): Ef Eb 182 #[EZ (EG 56 g),E I s,E I r,E I c] w fun e w'=>e=Eg (EU (may g s r c))/\El w w':=by
 cases h1:Zn s 5;·have N1:=J h1;rw[show may g s r c=B from by simp[may,h1]];clear h1;go_enter Tryz.func182,Tryz.ntmps182;exact Emn
 ·cases h2:Zn r 4;·have N1:=J h1;have N2:=J h2;rw[show may g s r c=B from by simp[may,h2]];clear h1 h2;go_enter Tryz.func182,Tryz.ntmps182;go_wp2_with fail;refine(gO _ _ _ N1.out).mono ?_;rintro e w' ⟨rfl,rfl⟩;go_wp2_with fail;refine(pq _ _ _ N2.out).mono ?_;rintro e w' ⟨rfl,rfl⟩;go_wp2;go_ret;exact⟨O,Er _ _⟩
  ·cases h3:Zn c 4;·have N1:=J h1;have N2:=J h2;have N3:=J h3;rw[show may g s r c=B from by simp[may,h3]];clear h1 h2 h3;go_enter Tryz.func182,Tryz.ntmps182;go_wp2_with fail;refine(gO _ _ _ N1.out).mono ?_;rintro e w' ⟨rfl,rfl⟩;go_wp2_with fail;refine(gO _ _ _ N2.out).mono ?_;rintro e w' ⟨rfl,rfl⟩;go_wp2_with fail;refine(pq _ _ _ N3.out).mono ?_;rintro e w' ⟨rfl,rfl⟩;go_wp2;go_ret;exact⟨O,Er _ _⟩
   ·have N1:=J h1;have N2:=J h2;have N3:=J h3;obtain⟨k1,k2⟩:=AQ h1;obtain⟨k,rfl⟩:=jU k1;obtain⟨j1,j2⟩:=AQ h2;obtain⟨j,rfl⟩:=jU j1;rw[show may g k j c=has (pn g (14+k*4+j)) c from by simp[may,h1,h2,h3]];have hlt:14+k*4+j<56:=U;obtain⟨e1,m1,m2⟩:=hg (14+k*4+j) U hlt;obtain⟨p1,hp1⟩:=Jl (Ir (g (14+k*4+j)));rw[show pn g (14+k*4+j)=p1 from hp1];rw[hp1] at e1 m1 m2;obtain⟨b,hb⟩:=Jl (has p1 c);have hh:=Fa p1 c;rw[hb] at hh;have HH:=J hh;rw[hb];clear h1 h2 h3 hp1 hg hb hh;go_enter Tryz.func182,Tryz.ntmps182;go_wp2_with fail;refine(gO _ _ _ N1.out).mono ?_;rintro e w' ⟨rfl,rfl⟩;go_wp2_with fail;refine(gO _ _ _ N2.out).mono ?_;rintro e w' ⟨rfl,rfl⟩;go_wp2_with fail;refine(gO _ _ _ N3.out).mono ?_;exact Emb
def place(a b c d e s:Int):Int:=if a=s then 0 else if b=s then 1 else if c=s then 2 else if d=s then 3 else if e=s then 4 else-1
def aS(g:Nat->Y)(s:Int):Int:=place (pn g 0) (pn g 1) (pn g 2) (pn g 3) (pn g 4) s
def Hq(g:Nat->Y)(a b:Int):Bool:=aS g a != -1&&aS g b != -1&&decide (aS g a<aS g b)
theorem EbJ(a b c d e s:Int)(hp:0<=place a b c d e s\/place a b c d e s= -1)(h:a=s):place a b c d e s=0:=by
 unfold place at*;repeat' split at hp
 all_goals (repeat' split)
 all_goals first|rfl|omega
theorem EbO(a b c d e s:Int)(hp:0<=place a b c d e s\/place a b c d e s= -1)(h: ¬a=s):1<=place a b c d e s\/place a b c d e s= -1:=by
 unfold place at*;repeat' split at hp
 all_goals (repeat' split)
 all_goals omega
theorem EbU(a b c d e s:Int)(hp:1<=place a b c d e s\/place a b c d e s= -1)(h:b=s):place a b c d e s=1:=by
 unfold place at*;repeat' split at hp
 all_goals (repeat' split)
 all_goals first|rfl|omega
theorem EbX(a b c d e s:Int)(hp:1<=place a b c d e s\/place a b c d e s= -1)(h: ¬b=s):2<=place a b c d e s\/place a b c d e s= -1:=by
 unfold place at*;repeat' split at hp
 all_goals (repeat' split)
 all_goals omega
theorem EbZ(a b c d e s:Int)(hp:2<=place a b c d e s\/place a b c d e s= -1)(h:c=s):place a b c d e s=2:=by
 unfold place at*;repeat' split at hp
 all_goals (repeat' split)
 all_goals first|rfl|omega
theorem Eba(a b c d e s:Int)(hp:2<=place a b c d e s\/place a b c d e s= -1)(h: ¬c=s):3<=place a b c d e s\/place a b c d e s= -1:=by
 unfold place at*;repeat' split at hp
 all_goals (repeat' split)
 all_goals omega
theorem Ebb(a b c d e s:Int)(hp:3<=place a b c d e s\/place a b c d e s= -1)(h:d=s):place a b c d e s=3:=by
 unfold place at*;repeat' split at hp
 all_goals (repeat' split)
 all_goals first|rfl|omega
theorem Ebc(a b c d e s:Int)(hp:3<=place a b c d e s\/place a b c d e s= -1)(h: ¬d=s):4<=place a b c d e s\/place a b c d e s= -1:=by
 unfold place at*;repeat' split at hp
 all_goals (repeat' split)
 all_goals omega
theorem Ebd(a b c d e s:Int)(hp:4<=place a b c d e s\/place a b c d e s= -1)(h:e=s):place a b c d e s=4:=by
 unfold place at*;repeat' split at hp
 all_goals (repeat' split)
 all_goals first|rfl|omega
theorem Ebf(a b c d e s:Int)(hp:4<=place a b c d e s\/place a b c d e s= -1)(h: ¬e=s):5<=place a b c d e s\/place a b c d e s= -1:=by
 unfold place at*;repeat' split at hp
 all_goals (repeat' split)
 all_goals omega
theorem Ebg(a b c d e s:Int)(hp:5<=place a b c d e s\/place a b c d e s= -1):place a b c d e s= -1:=by
 unfold place at*;repeat' split at hp
 all_goals (repeat' split)
 all_goals first|rfl|omega
theorem SG(a b c d e s:Int)(w:H): Ef Eb 245 #[EZ #[E I a,E I b,E I c,E I d,E I e],E I s] w fun e' w'=>e'=Eg (E I (place a b c d e s))/\El w w':=by
 have Y4:=J<|Er w;have i0: ∀w,(Uj 337 (EZ #[E I a,E I b,E I c,E I d,E I e]) (E I 0)).run Eb w= .ok (E I a) w:=fun _=>Ed;have i1: ∀w,(Uj 337 (EZ #[E I a,E I b,E I c,E I d,E I e]) (E I 1)).run Eb w= .ok (E I b) w:=fun _=>Ed;have i2: ∀w,(Uj 337 (EZ #[E I a,E I b,E I c,E I d,E I e]) (E I 2)).run Eb w= .ok (E I c) w:=fun _=>Ed;have i3: ∀w,(Uj 337 (EZ #[E I a,E I b,E I c,E I d,E I e]) (E I 3)).run Eb w= .ok (E I d) w:=fun _=>Ed;have i4: ∀w,(Uj 337 (EZ #[E I a,E I b,E I c,E I d,E I e]) (E I 4)).run Eb w= .ok (E I e) w:=fun _=>Ed;go_enter Tryz.func245,Tryz.ntmps245;go_wp2_with fail;go_loop [8] (fun y=> ∃k:Int,y=E I k/\0<=k/\k<=5/\Ec (k<=place a b c d e s\/place a b c d e s= -1)) (fun y=>5-(Ir y).toNat);case atStart=>exact⟨0,O,U,U,J (by unfold place;repeat' split;all_goals omega)⟩
 case round=>
  obtain⟨k,rfl,k0,k5,HK⟩:=hrel;rcases(show k=0\/k=1\/k=2\/k=3\/k=4\/k=5 from U) with rfl|rfl|rfl|rfl|rfl|rfl
  ·by_cases h:a=s;·have HP:=J<|EbJ a b c d e s HK.out h;have hb:(a==s)=EI:=Up;clear h;go_wp2;go_ret;exact⟨i9 HP.out.symm,Y4.out _⟩
   ·have HP:=J<|EbO a b c d e s HK.out h;have hb:(a==s)=B:=Up;clear h;go_wp2;exact⟨⟨1,O,U,U,HP⟩,Zj⟩
  ·by_cases h:b=s;·have HP:=J<|EbU a b c d e s HK.out h;have hb:(b==s)=EI:=Up;clear h;go_wp2;go_ret;exact⟨i9 HP.out.symm,Y4.out _⟩
   ·have HP:=J<|EbX a b c d e s HK.out h;have hb:(b==s)=B:=Up;clear h;go_wp2;exact⟨⟨2,O,U,U,HP⟩,Zj⟩
  ·by_cases h:c=s;·have HP:=J<|EbZ a b c d e s HK.out h;have hb:(c==s)=EI:=Up;clear h;go_wp2;go_ret;exact⟨i9 HP.out.symm,Y4.out _⟩
   ·have HP:=J<|Eba a b c d e s HK.out h;have hb:(c==s)=B:=Up;clear h;go_wp2;exact⟨⟨3,O,U,U,HP⟩,Zj⟩
  ·by_cases h:d=s;·have HP:=J<|Ebb a b c d e s HK.out h;have hb:(d==s)=EI:=Up;clear h;go_wp2;go_ret;exact⟨i9 HP.out.symm,Y4.out _⟩
   ·have HP:=J<|Ebc a b c d e s HK.out h;have hb:(d==s)=B:=Up;clear h;go_wp2;exact⟨⟨4,O,U,U,HP⟩,Zj⟩
  ·by_cases h:e=s;·have HP:=J<|Ebd a b c d e s HK.out h;have hb:(e==s)=EI:=Up;clear h;go_wp2;go_ret;exact⟨i9 HP.out.symm,Y4.out _⟩
   ·have HP:=J<|Ebf a b c d e s HK.out h;have hb:(e==s)=B:=Up;clear h;go_wp2;exact⟨⟨5,O,U,U,HP⟩,Zj⟩
  ·have HP:=J<|Ebg a b c d e s HK.out;go_wp2;go_ret;exact⟨i9 HP.out.symm,Y4.out _⟩
theorem jn{v:Y}(h:ZG v): ∃n,v=E I n/\Ir v=n:=⟨_,h.1,O⟩
theorem Ebh(g:Nat->Y)(s:Int)(w:H)(hg: ∀i,i<5->ZG (g i)): Ef Eb 219 #[EZ (EG 56 g),E I s] w fun e' w'=>e'=Eg (E I (aS g s))/\El w w':=by obtain⟨a,e0,p0⟩:=jn (hg 0 U);obtain⟨b,e1,p1⟩:=jn (hg 1 U);obtain⟨c,e2,p2⟩:=jn (hg 2 U);obtain⟨d,e3,p3⟩:=jn (hg 3 U);obtain⟨e,e4,p4⟩:=jn (hg 4 U);rw[show aS g s=place a b c d e s from SK];clear hg p0 p1 p2 p3 p4;go_enter Tryz.func219,Tryz.ntmps219;go_wp2_with fail;refine(SG a b c d e s _).mono ?_;rintro e' w1 ⟨rfl,b1⟩;go_wp2;go_ret;exact⟨O,NG b1⟩
theorem Ebi(g:Nat->Y)(s t:Int)(w:H)(hg: ∀i,i<5->ZG (g i)): Ef Eb 217 #[EZ (EG 56 g),E I s,E I t] w fun e' w'=>e'=Eg (EU (Hq g s t))/\El w w':=by
 obtain⟨a,e0,p0⟩:=jn (hg 0 U);obtain⟨b,e1,p1⟩:=jn (hg 1 U);obtain⟨c,e2,p2⟩:=jn (hg 2 U);obtain⟨d,e3,p3⟩:=jn (hg 3 U);obtain⟨e,e4,p4⟩:=jn (hg 4 U);have hr: ∀s,aS g s=place a b c d e s:=fun s=>SK;unfold Hq;rw[hr,hr];have C:=J<|SG a b c d e;have B0:=J<|Er w (EJ (EG 56 g) 28);clear hg p0 p1 p2 p3 p4 hr;go_enter Tryz.func217,Tryz.ntmps217;go_wp2_with fail;go_cut[8,9] (fun Y3 v wx=>Y3=E I (place a b c d e s)/\v=E I (place a b c d e t)/\El w wx)
 case first=>
  go_region_with (go_at_call 245;refine(C.out _ _).mono ?_;rintro e' w1 ⟨rfl,b1⟩;(first|(have cc:=NF b1;have b2:=J b1;clear b1)|(have cc:=NF (NH b1);have b2:=J (NH b1);clear b1)|skip))
  all_goals
   go_wp2_with fail
   go_meet
   refine⟨O,O,?_⟩
  all_goals exact yk (NG b2.out) b1 (E7 _)
 case rest=>
  obtain⟨rfl,rfl,hb⟩:=hcut;have HB:=J hb;clear hb;go_wp2_with fail
  all_goals
   go_ret
   refine⟨yg ?_,HB.out⟩
   first|rfl|simp_all
section
open Go.ChangeShapes Go.WideShapes
def Xr(w:H):Prop:= ∀i:Nat,i<12->w.cell? ⟨1,i,X⟩=Z (EU (i==10||i==11))
theorem Xr.V(h:Xr w)(hb:El w w'):Xr w':=fun i hi=>by rw[hb.cell (Xv _ _ (h i hi))];exact h i hi
def SN(g:Nat->Y)(holder OJ source role mode kind JD Oi Oj:Int):Int:=
 if¬(kind=10\/kind=11) then 1 else if¬source=holder then 20 else if¬JD=OJ then 21
 else if may g mode role (if kind=10 then 0 else Oj)=B then 22 else if kind=10/\ia g mode Oi=B then 23 else 0
theorem Ebj(g:Nat->Y)(holder OJ source role mode kind JD Oi Oj:Int)(t2 t3 t4 t5 t6 t7 m1 m2 m3 m7 m8 m9 m10 m11:Y)(w:H)(hg: ∀i,9<=i->i<56->ZG (g i))(hc:Xr w)(hk: ¬(kind=10\/kind=11)): Ef Eb 138 #[EZ (EG 56 g),EZ #[E I holder,E I OJ,t2,t3,t4,t5,t6,t7],E I source,E I role,E I mode,EZ #[E I kind,m1,m2,m3,E I JD,E I Oi,E I Oj,m7,m8,m9,m10,m11]] w fun e w'=>e=Eg (E I 1)/\El w w':=by
 have Y4:=J<|Z_ w;by_cases h0:kind<0;·exact Eox
 ·by_cases h1:12<=kind;·clear hc hg;go_enter kH,kK;go_wp2;go_ret;exact⟨O,Y4.out _ _ _⟩
  ·obtain⟨k,rfl⟩:=jU (show 0<=kind from U);have hcell:=hc k U;rw[show(k==10||k==11)=B from Ji] at hcell;have hlt:1<w.heap.size:=Xv _ _ hcell;have hz0:0<w.heap.size:=U;have hlt2:k<12:=U;exact Eox
theorem Ebk(g:Nat->Y)(holder OJ source role mode kind JD Oi Oj:Int)(t2 t3 t4 t5 t6 t7 m1 m2 m3 m7 m8 m9 m10 m11:Y)(w:H)(hg: ∀i,9<=i->i<56->ZG (g i))(hc:Xr w)(hk:kind=10\/kind=11)(hs: ¬source=holder): Ef Eb 138 #[EZ (EG 56 g),EZ #[E I holder,E I OJ,t2,t3,t4,t5,t6,t7],E I source,E I role,E I mode,EZ #[E I kind,m1,m2,m3,E I JD,E I Oi,E I Oj,m7,m8,m9,m10,m11]] w fun e w'=>e=Eg (E I 20)/\El w w':=by
 have Y4:=J<|Z_ w;have HG:=J hg;have hcell:=hc 10 U;have hcell2:=hc 11 U;rw[show((10:Nat)==10||(10:Nat)==11)=EI from rfl] at hcell;rw[show((11:Nat)==10||(11:Nat)==11)=EI from rfl] at hcell2;have hlt:1<w.heap.size:=Xv _ _ hcell;have hz0:0<w.heap.size:=U;clear hc hg;have hs':(source !=holder)=EI:=oh;clear hs;rcases hk with rfl|rfl
 all_goals
  go_enter kH,kK
  go_wp2
  go_ret
  exact⟨O,Y4.out _ _ _⟩
theorem Ebl(g:Nat->Y)(holder OJ source role mode kind JD Oi Oj:Int)(t2 t3 t4 t5 t6 t7 m1 m2 m3 m7 m8 m9 m10 m11:Y)(w:H)(hg: ∀i,9<=i->i<56->ZG (g i))(hc:Xr w)(hk:kind=10\/kind=11)(hs:source=holder)(he: ¬JD=OJ): Ef Eb 138 #[EZ (EG 56 g),EZ #[E I holder,E I OJ,t2,t3,t4,t5,t6,t7],E I source,E I role,E I mode,EZ #[E I kind,m1,m2,m3,E I JD,E I Oi,E I Oj,m7,m8,m9,m10,m11]] w fun e w'=>e=Eg (E I 21)/\El w w':=by
 have Y4:=J<|Z_ w;have HG:=J hg;have hcell:=hc 10 U;have hcell2:=hc 11 U;rw[show((10:Nat)==10||(10:Nat)==11)=EI from rfl] at hcell;rw[show((11:Nat)==10||(11:Nat)==11)=EI from rfl] at hcell2;have hlt:1<w.heap.size:=Xv _ _ hcell;have hz0:0<w.heap.size:=U;clear hc hg;have hs':(JD !=OJ)=EI:=by simpa using he
 clear he;subst hs;rcases hk with rfl|rfl
 all_goals
  go_enter kH,kK
  go_wp2
  go_ret
  exact⟨O,Y4.out _ _ _⟩
theorem Hr{a b c:Obj}(h:Ik (((w.alloc a).alloc b).alloc c).heap.size (((w.alloc a).alloc b).alloc c) w'): w'.heap[w.heap.size]?=Z a/\w'.heap[w.heap.size+1]?=Z b/\w'.heap[w.heap.size+2]?=Z c/\El w w':=by
 refine⟨Xj ?_ h,Xj ?_ h,Xj ?_ h,bt (Z_ w a b c) h⟩;·exact Xj (heap_alloc2_old w a b) (Er _ _)
 ·exact Xj (heap_alloc2_new w a b) (Er _ _)
 ·have:=fz ((w.alloc a).alloc b) c;exact EnV
theorem Ebm(g:Nat->Y)(holder OJ source role mode kind JD Oi Oj:Int)(t2 t3 t4 t5 t6 t7 m1 m2 m3 m7 m8 m9 m10 m11:Y)(w:H)(hg: ∀i,9<=i->i<56->ZG (g i))(hc:Xr w)(hk:kind=10)(hs:source=holder)(he:JD=OJ)(hm:may g mode role 0=B): Ef Eb 138 #[EZ (EG 56 g),EZ #[E I holder,E I OJ,t2,t3,t4,t5,t6,t7],E I source,E I role,E I mode,EZ #[E I kind,m1,m2,m3,E I JD,E I Oi,E I Oj,m7,m8,m9,m10,m11]] w fun e w'=>e=Eg (E I 22)/\El w w':=by
 have Y4:=J<|Z_ w;have HG:=J hg;have hcell:=hc 10 U;have hcell2:=hc 11 U;rw[show((10:Nat)==10||(10:Nat)==11)=EI from rfl] at hcell;rw[show((11:Nat)==10||(11:Nat)==11)=EI from rfl] at hcell2;have hlt:1<w.heap.size:=Xv _ _ hcell;have hz0:0<w.heap.size:=U;clear hc hg;have HM:=J hm;clear hm;subst hs he hk;have Q0:=J<|show(((w.alloc (EJ (EG 56 g) 28)).alloc (EJ #[E I source,E I JD,t2,t3,t4,t5,t6,t7] 109)).alloc (EJ #[E I 10,m1,m2,m3,E I JD,E I Oi,E I Oj,m7,m8,m9,m10,m11] 183)).heap[w.heap.size]?=Z (EJ (EG 56 g) 28 (0,0)) from Xj (heap_alloc2_old w _ _) (Er _ _);go_enter kH,kK
 go_wp2_with (first
  |((with_reducible refine fD 28 ?_);refine oK rfl _ rfl w.heap.size g Q0 rfl ?_)
  |fail)
 refine(vJ _ _ _ _ _ HG.out).mono ?_;exact En3
theorem Ebn(g:Nat->Y)(holder OJ source role mode kind JD Oi Oj:Int)(t2 t3 t4 t5 t6 t7 m1 m2 m3 m7 m8 m9 m10 m11:Y)(w:H)(hg: ∀i,9<=i->i<56->ZG (g i))(hc:Xr w)(hk:kind=11)(hs:source=holder)(he:JD=OJ)(hm:may g mode role Oj=B): Ef Eb 138 #[EZ (EG 56 g),EZ #[E I holder,E I OJ,t2,t3,t4,t5,t6,t7],E I source,E I role,E I mode,EZ #[E I kind,m1,m2,m3,E I JD,E I Oi,E I Oj,m7,m8,m9,m10,m11]] w fun e w'=>e=Eg (E I 22)/\El w w':=by
 have Y4:=J<|Z_ w;have HG:=J hg;have hcell:=hc 10 U;have hcell2:=hc 11 U;rw[show((10:Nat)==10||(10:Nat)==11)=EI from rfl] at hcell;rw[show((11:Nat)==10||(11:Nat)==11)=EI from rfl] at hcell2;have hlt:1<w.heap.size:=Xv _ _ hcell;have hz0:0<w.heap.size:=U;clear hc hg;have HM:=J hm;clear hm;subst hs he hk;have Q0:=J<|show(((w.alloc (EJ (EG 56 g) 28)).alloc (EJ #[E I source,E I JD,t2,t3,t4,t5,t6,t7] 109)).alloc (EJ #[E I 11,m1,m2,m3,E I JD,E I Oi,E I Oj,m7,m8,m9,m10,m11] 183)).heap[w.heap.size]?=Z (EJ (EG 56 g) 28 (0,0)) from Xj (heap_alloc2_old w _ _) (Er _ _);go_enter kH,kK
 go_wp2_with (first
  |((with_reducible refine fD 28 ?_);refine oK rfl _ rfl w.heap.size g Q0 rfl ?_)
  |fail)
 refine(vJ _ _ _ _ _ HG.out).mono ?_;exact En3
theorem Ebo(g:Nat->Y)(holder OJ source role mode kind JD Oi Oj:Int)(t2 t3 t4 t5 t6 t7 m1 m2 m3 m7 m8 m9 m10 m11:Y)(w:H)(hg: ∀i,9<=i->i<56->ZG (g i))(hc:Xr w)(hk:kind=11)(hs:source=holder)(he:JD=OJ)(hm:may g mode role Oj=EI): Ef Eb 138 #[EZ (EG 56 g),EZ #[E I holder,E I OJ,t2,t3,t4,t5,t6,t7],E I source,E I role,E I mode,EZ #[E I kind,m1,m2,m3,E I JD,E I Oi,E I Oj,m7,m8,m9,m10,m11]] w fun e w'=>e=Eg (E I 0)/\El w w':=by
 have Y4:=J<|Z_ w;have HG:=J hg;have hcell:=hc 10 U;have hcell2:=hc 11 U;rw[show((10:Nat)==10||(10:Nat)==11)=EI from rfl] at hcell;rw[show((11:Nat)==10||(11:Nat)==11)=EI from rfl] at hcell2;have hlt:1<w.heap.size:=Xv _ _ hcell;have hz0:0<w.heap.size:=U;clear hc hg;have HM:=J hm;clear hm;subst hs he hk;have Q0:=J<|show(((w.alloc (EJ (EG 56 g) 28)).alloc (EJ #[E I source,E I JD,t2,t3,t4,t5,t6,t7] 109)).alloc (EJ #[E I 11,m1,m2,m3,E I JD,E I Oi,E I Oj,m7,m8,m9,m10,m11] 183)).heap[w.heap.size]?=Z (EJ (EG 56 g) 28 (0,0)) from Xj (heap_alloc2_old w _ _) (Er _ _);go_enter kH,kK
 go_wp2_with (first
  |((with_reducible refine fD 28 ?_);refine oK rfl _ rfl w.heap.size g Q0 rfl ?_)
  |fail)
 refine(vJ _ _ _ _ _ HG.out).mono ?_;rintro e w1 ⟨rfl,b1⟩;rw[HM.out];clear Q0;obtain⟨q0,q1,q2,b2⟩:=Hr b1;obtain⟨c2,-⟩:=JU q2;have u:=J b2;clear q0 q1 q2 b1 b2;go_wp2;go_ret;exact EoJ
theorem Ebp(g:Nat->Y)(holder OJ source role mode kind JD Oi Oj:Int)(t2 t3 t4 t5 t6 t7 m1 m2 m3 m7 m8 m9 m10 m11:Y)(w:H)(hg: ∀i,9<=i->i<56->ZG (g i))(hc:Xr w)(hk:kind=10)(hs:source=holder)(he:JD=OJ)(hm:may g mode role 0=EI)(hn:ia g mode Oi=B): Ef Eb 138 #[EZ (EG 56 g),EZ #[E I holder,E I OJ,t2,t3,t4,t5,t6,t7],E I source,E I role,E I mode,EZ #[E I kind,m1,m2,m3,E I JD,E I Oi,E I Oj,m7,m8,m9,m10,m11]] w fun e w'=>e=Eg (E I 23)/\El w w':=by
 have Y4:=J<|Z_ w;have HG:=J hg;have hcell:=hc 10 U;have hcell2:=hc 11 U;rw[show((10:Nat)==10||(10:Nat)==11)=EI from rfl] at hcell;rw[show((11:Nat)==10||(11:Nat)==11)=EI from rfl] at hcell2;have hlt:1<w.heap.size:=Xv _ _ hcell;have hz0:0<w.heap.size:=U;clear hc hg;have HM:=J hm;have HN:=J hn;clear hm hn;subst hs he hk;have Q0:=J<|show(((w.alloc (EJ (EG 56 g) 28)).alloc (EJ #[E I source,E I JD,t2,t3,t4,t5,t6,t7] 109)).alloc (EJ #[E I 10,m1,m2,m3,E I JD,E I Oi,E I Oj,m7,m8,m9,m10,m11] 183)).heap[w.heap.size]?=Z (EJ (EG 56 g) 28 (0,0)) from Xj (heap_alloc2_old w _ _) (Er _ _);go_enter kH,kK
 go_wp2_with (first
  |((with_reducible refine fD 28 ?_);refine oK rfl _ rfl w.heap.size g Q0 rfl ?_)
  |fail)
 refine(vJ _ _ _ _ _ HG.out).mono ?_;rintro e w1 ⟨rfl,b1⟩;rw[HM.out];clear Q0;obtain⟨q0,q1,q2,b2⟩:=Hr b1;obtain⟨c2,-⟩:=JU q2;have u:=J b2;have Q0:=J q0;clear q0 q1 q2 b1 b2
 go_wp2_with (first
  |((with_reducible refine fD 28 ?_);refine oK rfl _ rfl w.heap.size g Q0 rfl ?_)
  |(go_at_call 183;refine(SD _ _ _ _ HG.out).mono ?_;rintro e w2 ⟨rfl,b2⟩;have u:=ET u b2;clear b2;rw[HN.out]))
 go_ret;exact EoJ
theorem Ebq(g:Nat->Y)(holder OJ source role mode kind JD Oi Oj:Int)(t2 t3 t4 t5 t6 t7 m1 m2 m3 m7 m8 m9 m10 m11:Y)(w:H)(hg: ∀i,9<=i->i<56->ZG (g i))(hc:Xr w)(hk:kind=10)(hs:source=holder)(he:JD=OJ)(hm:may g mode role 0=EI)(hn:ia g mode Oi=EI): Ef Eb 138 #[EZ (EG 56 g),EZ #[E I holder,E I OJ,t2,t3,t4,t5,t6,t7],E I source,E I role,E I mode,EZ #[E I kind,m1,m2,m3,E I JD,E I Oi,E I Oj,m7,m8,m9,m10,m11]] w fun e w'=>e=Eg (E I 0)/\El w w':=by
 have Y4:=J<|Z_ w;have HG:=J hg;have hcell:=hc 10 U;have hcell2:=hc 11 U;rw[show((10:Nat)==10||(10:Nat)==11)=EI from rfl] at hcell;rw[show((11:Nat)==10||(11:Nat)==11)=EI from rfl] at hcell2;have hlt:1<w.heap.size:=Xv _ _ hcell;have hz0:0<w.heap.size:=U;clear hc hg;have HM:=J hm;have HN:=J hn;clear hm hn;subst hs he hk;have Q0:=J<|show(((w.alloc (EJ (EG 56 g) 28)).alloc (EJ #[E I source,E I JD,t2,t3,t4,t5,t6,t7] 109)).alloc (EJ #[E I 10,m1,m2,m3,E I JD,E I Oi,E I Oj,m7,m8,m9,m10,m11] 183)).heap[w.heap.size]?=Z (EJ (EG 56 g) 28 (0,0)) from Xj (heap_alloc2_old w _ _) (Er _ _);go_enter kH,kK
 go_wp2_with (first
  |((with_reducible refine fD 28 ?_);refine oK rfl _ rfl w.heap.size g Q0 rfl ?_)
  |fail)
 refine(vJ _ _ _ _ _ HG.out).mono ?_;rintro e w1 ⟨rfl,b1⟩;rw[HM.out];clear Q0;obtain⟨q0,q1,q2,b2⟩:=Hr b1;obtain⟨c2,-⟩:=JU q2;have u:=J b2;have Q0:=J q0;clear q0 q1 q2 b1 b2
 go_wp2_with (first
  |((with_reducible refine fD 28 ?_);refine oK rfl _ rfl w.heap.size g Q0 rfl ?_)
  |(go_at_call 183;refine(SD _ _ _ _ HG.out).mono ?_;rintro e w2 ⟨rfl,b2⟩;have u:=ET u b2;clear b2;rw[HN.out]))
 go_ret;exact EoJ
theorem SP(g:Nat->Y)(holder OJ source role mode kind JD Oi Oj:Int)(t2 t3 t4 t5 t6 t7 m1 m2 m3 m7 m8 m9 m10 m11:Y)(w:H)(hg: ∀i,9<=i->i<56->ZG (g i))(hc:Xr w): Ef Eb 138 #[EZ (EG 56 g),EZ #[E I holder,E I OJ,t2,t3,t4,t5,t6,t7],E I source,E I role,E I mode,EZ #[E I kind,m1,m2,m3,E I JD,E I Oi,E I Oj,m7,m8,m9,m10,m11]] w fun e w'=>e=Eg (E I (SN g holder OJ source role mode kind JD Oi Oj))/\El w w':=by
 unfold SN;by_cases hk:kind=10\/kind=11
 ·rw[if_neg (fun h=>h hk)];by_cases hs:source=holder
  ·rw[if_neg (fun h=>h hs)];by_cases he:JD=OJ
   ·rw[if_neg (fun h=>h he)];rcases hk with hk|hk
    ·rw[if_pos hk];cases hm:may g mode role 0;·rw[if_pos O];exact Ebm g holder OJ source role mode kind JD Oi Oj t2 t3 t4 t5 t6 t7 m1 m2 m3 m7 m8 m9 m10 m11 w hg hc hk hs he hm
     ·rw[if_neg Eh];cases hn:ia g mode Oi;·rw[if_pos ⟨hk,O⟩];exact Ebp g holder OJ source role mode kind JD Oi Oj t2 t3 t4 t5 t6 t7 m1 m2 m3 m7 m8 m9 m10 m11 w hg hc hk hs he hm hn
      ·rw[if_neg Eh];exact Ebq g holder OJ source role mode kind JD Oi Oj t2 t3 t4 t5 t6 t7 m1 m2 m3 m7 m8 m9 m10 m11 w hg hc hk hs he hm hn
    ·rw[if_neg (show¬kind=10 from U)];cases hm:may g mode role Oj;·rw[if_pos O];exact Ebn g holder OJ source role mode kind JD Oi Oj t2 t3 t4 t5 t6 t7 m1 m2 m3 m7 m8 m9 m10 m11 w hg hc hk hs he hm
     ·rw[if_neg Eh,if_neg U];exact Ebo g holder OJ source role mode kind JD Oi Oj t2 t3 t4 t5 t6 t7 m1 m2 m3 m7 m8 m9 m10 m11 w hg hc hk hs he hm
   ·rw[if_pos he];exact Ebl g holder OJ source role mode kind JD Oi Oj t2 t3 t4 t5 t6 t7 m1 m2 m3 m7 m8 m9 m10 m11 w hg hc hk hs he
  ·rw[if_pos hs];exact Ebk g holder OJ source role mode kind JD Oi Oj t2 t3 t4 t5 t6 t7 m1 m2 m3 m7 m8 m9 m10 m11 w hg hc hk hs
 ·rw[if_pos hk];exact Ebj g holder OJ source role mode kind JD Oi Oj t2 t3 t4 t5 t6 t7 m1 m2 m3 m7 m8 m9 m10 m11 w hg hc hk
end
def aj(n:Int):Prop:= -9223372036854775808<=n/\n<=9223372036854775807
theorem AR{n a r:Int}(hn:aj n)(ha:aj a)(hr:aj r):aj (Jv n a r):=by
 unfold aj Jv at*;repeat' split
 all_goals omega
theorem AV:IG Eb 50 12:=⟨⟨_,Tryz.underlying50,O⟩,Ed⟩
theorem Ebr(f:Nat->Y)(c a0 a1 a2 a3 n0 n1 n2 n3 ru so se r:Int)(w:H)(hr:f 54=E I r)(ir:aj r)(Hs:aj a0)(Ht:aj a1)(Hu:aj a2)(Hv:aj a3)(Hw:aj n0)(Hx:aj n1)(Hy:aj n2)(Hz:aj n3)(b:Bool)(hm:decide ((Jv n0 a0 r)=n0/\(Jv n1 a1 r)=n1/\(Jv n2 a2 r)=n2/\(Jv n3 a3 r)=n3)=b): Ef Eb 107 #[EZ (EG 56 f),EZ #[E I c,E I a0,E I a1,E I a2,E I a3,E I n0,E I n1,E I n2,E I n3,E I ru,E I so,E I se]] w fun e w'=>e=Eg (EZ #[E I c,E I a0,E I a1,E I a2,E I a3,E I (Jv n0 a0 r),E I (Jv n1 a1 r),E I (Jv n2 a2 r),E I (Jv n3 a3 r),E I (if b then ru else 4),E I so,E I se])/\El w w':=by
 have j0: ∀w,(Uj 25 (EZ #[E I a0,E I a1,E I a2,E I a3]) (E I 0)).run Eb w= .ok (E I a0) w:=fun _=>Ed;have j1: ∀w,(Uj 25 (EZ #[E I a0,E I a1,E I a2,E I a3]) (E I 1)).run Eb w= .ok (E I a1) w:=fun _=>Ed;have j2: ∀w,(Uj 25 (EZ #[E I a0,E I a1,E I a2,E I a3]) (E I 2)).run Eb w= .ok (E I a2) w:=fun _=>Ed;have j3: ∀w,(Uj 25 (EZ #[E I a0,E I a1,E I a2,E I a3]) (E I 3)).run Eb w= .ok (E I a3) w:=fun _=>Ed;have C0:=J (yh n0 a0 r · Hw.1 Hw.2 Hs.1 Hs.2 ir.1 ir.2);have C1:=J (yh n1 a1 r · Hx.1 Hx.2 Ht.1 Ht.2 ir.1 ir.2);have C2:=J (yh n2 a2 r · Hy.1 Hy.2 Hu.1 Hu.2 ir.1 ir.2);have C3:=J (yh n3 a3 r · Hz.1 Hz.2 Hv.1 Hv.2 ir.1 ir.2);have HM:=J hm;have hneq:=EX3 (Jv n0 a0 r) (Jv n1 a1 r) (Jv n2 a2 r) (Jv n3 a3 r) n0 n1 n2 n3;rw[hm] at hneq;clear hm;have hl:(54:Nat)<56:=U;clear ir Hs Ht Hu Hv Hw Hx Hy Hz;go_enter Tryz.func107,Tryz.ntmps107;go_wp2_with fail;go_loopw[12] (fun y wr=> ∃k:Int,y=E I k/\0<=k/\k<=4/\wr.heap[w.heap.size]?=Z (EJ (EG 56 f) 28 (0,0))/\wr.heap[w.heap.size+1]?=Z (EJ (if k=0 then#[E I c,E I a0,E I a1,E I a2,E I a3,E I n0,E I n1,E I n2,E I n3,E I ru,E I so,E I se] else if k=1 then#[E I c,E I a0,E I a1,E I a2,E I a3,E I (Jv n0 a0 r),E I n1,E I n2,E I n3,E I ru,E I so,E I se] else if k=2 then#[E I c,E I a0,E I a1,E I a2,E I a3,E I (Jv n0 a0 r),E I (Jv n1 a1 r),E I n2,E I n3,E I ru,E I so,E I se] else if k=3 then#[E I c,E I a0,E I a1,E I a2,E I a3,E I (Jv n0 a0 r),E I (Jv n1 a1 r),E I (Jv n2 a2 r),E I n3,E I ru,E I so,E I se] else#[E I c,E I a0,E I a1,E I a2,E I a3,E I (Jv n0 a0 r),E I (Jv n1 a1 r),E I (Jv n2 a2 r),E I (Jv n3 a3 r),E I ru,E I so,E I se]) 50 (0,0))/\wr.heap[w.heap.size+1+1]?=Z (EJ #[E I 0,E I 0,E I 0,E I 0,E I 0,E I 0,E I 0,E I 0,E I 0,E I 0,E I 0,E I 0] 50 (0,0))/\wr.heap[w.heap.size+1+1+1]?=Z (EJ #[E I n0,E I n1,E I n2,E I n3] 25 (0,0))/\El w wr) (fun y _=>4-(Ir y).toNat)
 case atStart=>
  refine⟨0,O,U,U,?_,?_,?_,?_,?_⟩;·exact Xj (Xj (heap_alloc2_old w _ _) (Er _ _)) (Er _ _)
  ·exact Xj (Xj (heap_alloc2_new w _ _) (Er _ _)) (Er _ _)
  ·exact Xj (by have:=fz ((w.alloc (EJ (EG 56 f) 28)).alloc (EJ #[E I c,E I a0,E I a1,E I a2,E I a3,E I n0,E I n1,E I n2,E I n3,E I ru,E I so,E I se] 50)) (EJ #[E I 0,E I 0,E I 0,E I 0,E I 0,E I 0,E I 0,E I 0,E I 0,E I 0,E I 0,E I 0] 50);simpa using this) (Er _ _)
  ·have:=fz (((w.alloc (EJ (EG 56 f) 28)).alloc (EJ #[E I c,E I a0,E I a1,E I a2,E I a3,E I n0,E I n1,E I n2,E I n3,E I ru,E I so,E I se] 50)).alloc (EJ #[E I 0,E I 0,E I 0,E I 0,E I 0,E I 0,E I 0,E I 0,E I 0,E I 0,E I 0,E I 0] 50)) (EJ #[E I n0,E I n1,E I n2,E I n3] 25);exact EnV
  ·exact bt (Z_ w _ _ _) (Er _ _)
 case round=>
  obtain⟨k,rfl,k0,k4,hp,hq,hz,hn,hb⟩:=hrel;have HP:=J hp;have HN:=J hn;have HB:=J hb;have HZ:=J hz;obtain⟨cP,-⟩:=JU hp;obtain⟨cN,-⟩:=JU hn;clear hp hn hb hz;rcases(show k=0\/k=1\/k=2\/k=3\/k=4 from U) with rfl|rfl|rfl|rfl|rfl
  ·simp only[if_true,reduceIte] at hq;obtain⟨cQ,fQ⟩:=JU hq;have HQ:=J hq;clear hq hneq;go_wp2_with fail;go_region_with (go_at_call 152;(with_reducible refine(C0.out _).mono ?_);rintro e w1 ⟨rfl,rfl⟩);go_wp2_with fail
   all_goals
    refine⟨⟨1,O,U,U,?_,?_,?_,?_,?_⟩,Zj⟩
    ·exact EmD
    ·show(wr.setCell _ _).heap[_]?=_;rw[mI HQ.out 5 _];rfl
    ·exact EmC
    ·exact EmF
    ·exact(HB.out.setCell (p:=⟨w.heap.size+1,5,X⟩) UT _).drew
  ·simp only[show¬((1:Int)=0) from U,if_false,if_true,reduceIte] at hq;obtain⟨cQ,fQ⟩:=JU hq;have HQ:=J hq;clear hq hneq;go_wp2_with fail;go_region_with (go_at_call 152;(with_reducible refine(C1.out _).mono ?_);rintro e w1 ⟨rfl,rfl⟩);go_wp2_with fail
   all_goals
    refine⟨⟨2,O,U,U,?_,?_,?_,?_,?_⟩,Zj⟩
    ·exact EmD
    ·show(wr.setCell _ _).heap[_]?=_;rw[mI HQ.out 6 _];rfl
    ·exact EmC
    ·exact EmF
    ·exact(HB.out.setCell (p:=⟨w.heap.size+1,6,X⟩) UT _).drew
  ·simp only[show¬((2:Int)=0) from U,show¬((2:Int)=1) from U,if_false,if_true,reduceIte] at hq;obtain⟨cQ,fQ⟩:=JU hq;have HQ:=J hq;clear hq hneq;go_wp2_with fail;go_region_with (go_at_call 152;(with_reducible refine(C2.out _).mono ?_);rintro e w1 ⟨rfl,rfl⟩);go_wp2_with fail
   all_goals
    refine⟨⟨3,O,U,U,?_,?_,?_,?_,?_⟩,Zj⟩
    ·exact EmD
    ·show(wr.setCell _ _).heap[_]?=_;rw[mI HQ.out 7 _];rfl
    ·exact EmC
    ·exact EmF
    ·exact(HB.out.setCell (p:=⟨w.heap.size+1,7,X⟩) UT _).drew
  ·simp only[show¬((3:Int)=0) from U,show¬((3:Int)=1) from U,show¬((3:Int)=2) from U,if_false,if_true,reduceIte] at hq;obtain⟨cQ,fQ⟩:=JU hq;have HQ:=J hq;clear hq hneq;go_wp2_with fail;go_region_with (go_at_call 152;(with_reducible refine(C3.out _).mono ?_);rintro e w1 ⟨rfl,rfl⟩);go_wp2_with fail
   all_goals
    refine⟨⟨4,O,U,U,?_,?_,?_,?_,?_⟩,Zj⟩
    ·exact EmD
    ·show(wr.setCell _ _).heap[_]?=_;rw[mI HQ.out 8 _];rfl
    ·exact EmC
    ·exact EmF
    ·exact(HB.out.setCell (p:=⟨w.heap.size+1,8,X⟩) UT _).drew
  ·simp only[show¬((4:Int)=0) from U,show¬((4:Int)=1) from U,show¬((4:Int)=2) from U,show¬((4:Int)=3) from U,if_false,if_true,reduceIte] at hq;obtain⟨cQ,fQ⟩:=JU hq;have HQ:=J hq;clear hq j0 j1 j2 j3 C0 C1 C2 C3;cases b;·have hz':(wr.setCell ⟨w.heap.size+1,9,X⟩ (E I 4)).heap[w.heap.size+1+1]?=_:=(XK _ _ _ _ UT).trans HZ.out;have HZ:=J hz';have HB:=J<|HB.out.setCell (p:=⟨w.heap.size+1,9,X⟩) UT (E I 4);clear hz';go_wp2_with ((with_reducible show Ic _ _ _ (⟨X,.store 50 (.tmp 4) _,_,_,_,_⟩::_) _ _);(with_reducible refine Fc (cs:= #[E I c,E I a0,E I a1,E I a2,E I a3,E I (Jv n0 a0 r),E I (Jv n1 a1 r),E I (Jv n2 a2 r),E I (Jv n3 a3 r),E I 4,E I so,E I se]) AV ?_ ?_ HZ ?_ ?_ ?_ ?_);(·exact Ei O);(·exact⟨O,O,O⟩);(·rfl);(·rfl);(·(simp[OF];done)));refine EV (v:=EZ #[E I c,E I a0,E I a1,E I a2,E I a3,E I (Jv n0 a0 r),E I (Jv n1 a1 r),E I (Jv n2 a2 r),E I (Jv n3 a3 r),E I 4,E I so,E I se]) ?_ O ⟨O,E2 HB.out U _⟩;exact Ff AV O _ _ (w.heap.size+1+1) _ O (setRow_heap _ _ _ _ _ _ HZ.out) O
   ·go_wp2_with ((with_reducible show Ic _ _ _ (⟨X,.store 50 (.tmp 4) _,_,_,_,_⟩::_) _ _);(with_reducible refine Fc (cs:= #[E I c,E I a0,E I a1,E I a2,E I a3,E I (Jv n0 a0 r),E I (Jv n1 a1 r),E I (Jv n2 a2 r),E I (Jv n3 a3 r),E I ru,E I so,E I se]) AV ?_ ?_ HZ ?_ ?_ ?_ ?_);(·exact Ei O);(·exact⟨O,O,O⟩);(·rfl);(·rfl);(·(simp[OF];done)));refine EV (v:=EZ #[E I c,E I a0,E I a1,E I a2,E I a3,E I (Jv n0 a0 r),E I (Jv n1 a1 r),E I (Jv n2 a2 r),E I (Jv n3 a3 r),E I ru,E I so,E I se]) ?_ O ⟨O,E2 HB.out U _⟩;exact Ff AV O _ _ (w.heap.size+1+1) _ O (setRow_heap _ _ _ _ _ _ HZ.out) O
section
open Go.ChangeShapes Go.WideShapes
theorem SY{cap:Nat}(h:Own w base A cap xs)(hp:0<xs.length): ∃g cur,A=Z ⟨g,0,X⟩/\base<=g/\D w g cur 5/\cur.toList.take xs.length=xs.map (E .u8)/\xs.length<=cap:=by
 rcases h.1.2 with⟨hv,hn⟩|⟨g,cap',cur,hv,hg,hh,hl,hm,hs,ht⟩;·omega
 ·injection hv with h1 h2 h3;rw[Nat.mul_one] at ht;exact⟨g,cur,h1,hg,hh,ht,U⟩
theorem Ebs{cur:Array Y}{T:EB}{P:List Int}(hk:D w g cur T)(ht:cur.toList.take P.length=P.map (E .u8))(hb: ∀x∈P,0<=x/\x<=255)(off n:Nat): Row w (Z ⟨g,off,X⟩) ((P.drop off).take n):=by refine⟨.inr ⟨g,off,O,fun i hi=> ?_⟩,fun x hx=>hb x (List.mem_of_mem_drop (fy hx))⟩;have hi2:off+i<P.length:=rJ;rw[hk.cell (off+i),<-Array.getElem?_toList,<-bj hi2,ht];simp[hi2]
theorem Ebt{Y9:Type}{enc:EB×Y->Y9}{fuel:Nat}{a:Option Eu}{l c:Nat}{x:DataW Y9×List MemPlace}(hf:Zx enc Eb w 0 (fun _=>EI) EI fuel 23 [G a l c]=Z x):Nx .u8 w (G a l c):=by
 rcases open_ints bA Tryz.underlying5 Ed hf with⟨hcs,_⟩|⟨x,l',c',zs,hcs,_,hl,hm,hz,hx,hcell,hwz⟩;·simp at hcs;obtain⟨rfl,rfl,rfl⟩:=hcs;exact .inl O
 ·simp at hcs;obtain⟨rfl,rfl,rfl⟩:=hcs;have hzc:zs.length=c:=by simpa using hz
  refine .inr ⟨x,l,c,zs,O,fun h0=> ?_,hl,by unfold maxLen at hm;omega,hzc,hcell,hwz⟩;have h1:=hcell 0 U;have e0:x.add 0=x:=by simp[Addr.add]
  rw[e0] at h1;refine⟨?_,World.cell?_spot h1⟩;rcases JY x.block w.heap.size with h2|h2;·exact h2
  ·rw[jo,gQ h2] at h1;simp at h1
end
def H_:List EB:=[58,264]
def ib(lo hi k:Nat)(T:EB):Bool:=(decide (lo<=k)&&kE.contains T)||(decide (hi<=k)&&H_.contains T)
structure Ew(lo hi:Nat)(w w':H):Prop where
 os:w'.os=w.os
 tape:w'.tape=w.tape
 output:w'.output=w.output
 size:w.heap.size<=w'.heap.size
 low: ∀k,k<hi->k<w.heap.size->(∀c T p,w.heap[k]?=Z (EJ c T p)->ib lo hi k T=B)->w'.heap[k]?=w.heap[k]?
 high: ∀k c T,D w k c T->ib lo hi k T=B->D w' k c T
 stay: ∀k c T,D w k c T-> ∃c',D w' k c' T
 AW: ∀k c T p,k<hi->w.heap[k]?=Z (EJ c T p)-> ∃c' p',w'.heap[k]?=Z (EJ c' T p')
theorem Ew.refl(lo hi:Nat)(w:H):Ew lo hi w w:=⟨O,O,O,E7 _,fun _ _ _ _=>rfl,fun _ _ _ h _=>h,fun _ c _ h=>⟨c,h⟩,fun _ c _ p _ h=>⟨c,p,h⟩⟩
theorem Ew.trans{c:H}(h:Ew lo hi a b)(k:Ew lo hi b c):Ew lo hi a c:=by
 refine⟨k.os.trans h.os,k.tape.trans h.tape,k.output.trans h.output,Ez h.size k.size,fun i hi' hl hm=> ?_,fun i d T hb hm=>k.high i d T (h.high i d T hb hm) hm,fun i d T hb=> ?_,fun i d T p hi' hb=> ?_⟩;·have e:=h.low i hi' hl hm;refine(k.low i hi' (Nat.lt_of_lt_of_le hl h.size) fun d T p hb=>hm d T p ?_).trans e;rw[<-e];exact hb
 ·obtain⟨d',hd⟩:=h.stay i d T hb;exact k.stay i d' T hd
 ·obtain⟨d',p',hd⟩:=h.AW i d T p hi' hb;exact k.AW i d' T p' hi' hd
theorem Ew.EA(h:El w w'):Ew lo hi w w':=
 ⟨h.os,h.tape,h.output,h.size,fun k _ hl _=>h.block k hl,fun _ _ _ hb _=>hb.V h,fun _ c _ hb=>⟨c,hb.V h⟩,fun _ c _ p _ hb=>⟨c,p,Xj hb h⟩⟩
theorem Ew.Ek(h:Ew lo hi w w')(K:D w g cs S)(hS:kE.contains S=B)(hR:H_.contains S=B):D w' g cs S:=
 h.high g cs S K (by unfold ib;rw[hS,hR];simp)
theorem Ew.old(h:Ew lo hi w w')(K:D w g cs S)(hS:kE.contains S=B)(hg:g<hi):D w' g cs S:=
 h.high g cs S K (by unfold ib;rw[hS,IJ (show¬hi<=g from U)];simp)
theorem Ew.vO{cs':Array Y}(h:E3 g w w')(K:D w g cs S)(K':D w' g cs' S)(hS:kE.contains S=EI)(hl:lo<=g):Ew lo hi w w':=by
 have hb:=h.bel 0 (bG _) (bG _);refine⟨hb.os,hb.tape,hb.output,h.size,fun k _ hk hm=> ?_,fun k c T hk hm=> ?_,fun k c T hk=> ?_,fun k c T p _ hk=> ?_⟩;·refine h.keep k (fun e=> ?_) hk;subst e;have:=hm cs S (0,0) K;unfold ib at this;rw[hS,IU hl] at this;simp at this
 ·refine h.Ek hk (fun e=> ?_);subst e;have e2:=(show Z (EJ c T (0,0))=Z (EJ cs S (0,0)) from hk.symm.trans K);injection e2 with e2;injection e2 with e3 e4;subst e4;unfold ib at hm;rw[hS,IU hl] at hm;simp at hm
 ·by_cases e:k=g;·subst e;have e2:=(show Z (EJ c T (0,0))=Z (EJ cs S (0,0)) from hk.symm.trans K);injection e2 with e2;injection e2 with e3 e4;subst e4;exact⟨cs',K'⟩
  ·exact⟨c,h.Ek hk e⟩
 ·by_cases e:k=g;·subst e;have e2:=(show Z (EJ c T p)=Z (EJ cs S (0,0)) from hk.symm.trans K);injection e2 with e2;injection e2 with e3 e4 e5;subst e4;exact⟨cs',(0,0),K'⟩
  ·exact⟨c,p,(h.keep k e (mE hk)).trans hk⟩
theorem Ew.S6{T:EB}(h:jO hi T N ys w w')(hT:H_.contains T=EI)(hh:hi<=w.heap.size):Ew lo hi w w':=by
 have hb:=h.2.1 hh;refine⟨hb.os,hb.tape,hb.output,hb.size,fun k hk _ _=>hb.block k hk,fun k c S hk hm=> ?_,fun k c S hk=> ?_,fun k c S p hlt hk=>⟨c,p,(hb.block k hlt).trans hk⟩⟩
 ·by_cases hkh:k<hi;·exact(hb.block k hkh).trans hk
  ·obtain⟨c',e,-,hS,-⟩:=h.2.2 k c S hk;by_cases eS:S=T;·subst eS;unfold ib at hm;rw[hT,IU (U:hi<=k)] at hm;simp at hm
   ·rw[hS eS] at e;exact e
 ·obtain⟨c',e,-⟩:=h.2.2 k c S hk;exact⟨c',e⟩
theorem Ew.Ebu(h:Ew lo hi w w')(hh:hi<=w.heap.size):Fu lo hi w w':=by
 refine⟨h.os,h.tape,h.output,h.size,fun k hk hm=> ?_,fun k h1 h2 h3=> ?_⟩
 ·refine h.low k hk U fun c T p hc=> ?_;unfold ib;rw[IJ (U: ¬hi<=k)];by_cases hl:lo<=k;·have:=hm hl;unfold t_ Ft at this;rw[hc] at this;simp at this⊢;exact fun _=>this
  ·simp;omega
 ·unfold t_ Ft at h3⊢;cases e:w.heap[k]? with
  |none=>rw[e] at h3;cases h3
  |some o=>
   rw[e] at h3;cases o with
   |cells c T p=> obtain⟨c',p',hc'⟩:=h.AW k c T p h2 e;rw[hc'];exact h3
   |_=>cases h3
structure Dr where
 n:Int
 op:Bool
 nc:List Int
def Dr.v(d:Dr):List Y:=[E I d.n,EU d.op]++d.nc.map (E .u8)
structure Dr.ok(d:Dr):Prop where
 n:0<=d.n/\d.n<=4294967295
 len:d.nc.length=8
 bytes: ∀x∈d.nc,0<=x/\x<=255
theorem Dr.len'{d:Dr}(h:d.ok):d.v.length=10:=by simp[Dr.v,h.len]
def ak(p:List Y)(c:Ey)(gq gt:Nat)(d0 d1 d2:Dr)(hd:List Int):List (List Y):=
 [p,c.tok.v,[M (Z ⟨gq,0,X⟩)],d0.v,d1.v,d2.v,[M (Z ⟨gt,0,X⟩)],[E I c.samples],[E I c.beyond],[E I c.mode],c.Em.v,c.pt.v,hd.map (E .u8)]
def kL(k:Nat):Nat:=[0,56,64,65,75,85,95,96,97,98,99,102,114].getD k 146
theorem Ok{p:List Y}{d0 d1 d2:Dr}(hp:p.length=56)(h0:d0.ok)(h1:d1.ok)(h2:d2.ok)(k:Nat)(hk:k<13):aM (ak p c gq gt d0 d1 d2 hd) k=kL k:=by have e0:=Dr.len' h0;have e1:=Dr.len' h1;have e2:=Dr.len' h2;rcases(show k=0\/k=1\/k=2\/k=3\/k=4\/k=5\/k=6\/k=7\/k=8\/k=9\/k=10\/k=11\/k=12 from U) with rfl|rfl|rfl|rfl|rfl|rfl|rfl|rfl|rfl|rfl|rfl|rfl|rfl<;>simp[aM,ak,kL,hp,e0,e1,e2,EK.v,Xz.v,Pt.v]
def TM(a m:Int):Prop:=0<=a/\a<=1000/\0<=m/\m<=1000
structure EQ.XX(T:EQ):Prop where
 In:0<=T.In/\T.In<=1000
 st:TM T.sa T.sm
 E4: ∀i,TM (T.E4 i).a (T.E4 i).m
theorem EQ.XX.put{T:EQ}(h:T.XX)(k:Nat){s:Jm}(hs:TM s.a s.m):(T.put k s).XX:=by
 match k with
 |0=>exact⟨h.In,h.st,fun i=>match i with|0=>hs|1=>h.E4 1|_+2=>h.E4 2⟩
 |1=>exact⟨h.In,h.st,fun i=>match i with|0=>h.E4 0|1=>hs|_+2=>h.E4 2⟩
 |_+2=>exact⟨h.In,h.st,fun i=>match i with|0=>h.E4 0|1=>h.E4 1|_+2=>hs⟩
theorem TM.start{T:EQ}(h:T.XX):TM 0 (max T.In 0):=by have:=h.In;exact⟨Zo _,U,U,U⟩
structure Ey.ok(c:Ey):Prop where
 tok:c.tok.ok
 T:c.T.ok
 q:c.q.length<=3
 ones: ∀x∈c.q,x.ok
 src: ∀x∈c.q,1<=x.s/\x.s<=3
 nd:(c.q.map One.s).Nodup
 ic:0<=c.samples/\c.samples<=4294967295
 jp:0<=c.beyond/\c.beyond<=1000
 mode:0<=c.mode/\c.mode<=4
 Em:c.Em.ok
 pt:c.pt.ok
 In:c.T.XX
def ig(W:H)(lo:Nat)(v:Y):Prop:= ∃(gk n cap:Nat) (cur:Array Y) (ys:List Int),v=G (Z ⟨gk,0,X⟩) n cap/\lo<=gk/\ys.length=n/\1<=n/\n<=64/\n<=cap/\cap<=9223372036854775807/\D W gk cur 5/\cur.toList.take n=ys.map (E .u8)/\ ∀x∈ys,0<=x/\x<=255
theorem ig.Ek{v:Y}(h:ig W lo v)(hb: ∀g cs,D W g cs 5->D W' g cs 5):ig W' lo v:=by obtain⟨gk,n,cap,cur,ys,h1,h2,h3,h4,h5,h6,h7,h8,h9⟩:=h;exact⟨gk,n,cap,cur,ys,h1,h2,h3,h4,h5,h6,h7,hb _ _ h8,h9⟩
theorem ig.row{v:Y}(h:ig W lo v): ∃(A:Option Eu) (n cap:Nat) (ys:List Int),v=G A n cap/\ys.length=n/\1<=n/\n<=64/\n<=cap/\cap<=9223372036854775807/\Row W A ys:=by obtain⟨gk,n,cap,cur,ys,h1,-,h3,h4,h5,h6,h7,h8,h9,h10⟩:=h;subst h3;have:=Ebs h8 h9 h10 0 ys.length;rw[IH,OY (E7 _)] at this;exact⟨_,_,cap,ys,h1,O,h4,h5,h6,h7,this⟩
def Jn(W:H)(lo gq:Nat)(L:List One)(most:Int):Prop:= ∃(v:Y) (came:Nat),D W gq #[v,E I most,E Im came] 152/\came<18446744073709551616/\W.ownsRow lo 171 5 v L.length (IC L)
structure Ebv(g:Nat->Y):Prop where
 int: ∀i,i<56->i<5\/8<i->ZG (g i)
 fit: ∀i,9<=i->i<56-> ∃n:Nat,g i=E I n/\bR i n
structure JE(lo:Nat)(g:Nat->Y)(gc gq gt:Nat)(c:Ey)(W:H):Prop where
 lo2:2<=lo
 X2:Ebv g
 ok:c.ok
 lc:lo<=gc
 lq:lo<=gq
 lt:lo<=gt
 Ek: ∃(d0 d1 d2:Dr) (hd:List Int),Jc W gc (ak (EG 56 g).toList c gq gt d0 d1 d2 hd) 120/\d0.ok/\d1.ok/\d2.ok/\hd.length=32/\ ∀x∈hd,0<=x/\x<=255
 tab:Il W gt c.T
 ZL:Jn W lo gq c.q (pn g 48)
 keys: ∀i,5<=i->i<=8->ig W lo (g i)
 roots:Jt W
 cmds:Xr W
structure sU where
 l:List Y
 one: ∀Y3∈l,Y3.oneCell'=EI
structure E5(lo hi:Nat)(g:Nat->Y)(gc gq gt gs:Nat)(c:Ey)(ns:Nat)(rs:List Rec)(W:H):Prop where
 core:JE lo g gc gq gt c W
 hc:gc<hi
 hq:gq<hi
 ht:gt<hi
 ct:lo<=hi
 his:hi<=gs
 fU: ∃(sv rv:Y) (sc:sU),D W gs #[M (Z ⟨gc,0,X⟩),sv,rv] 124/\W.ownsRow hi 264 2 sv ns sc.l/\W.ownsRow hi 58 6 rv rs.length (Uw rs)
theorem EP{T:EB}{size n:Nat}{v:Y}{xs:List Y}(h:W.ownsRow base T size v n xs)(hb: ∀g cs,D W g cs T->D W' g cs T):W'.ownsRow base T size v n xs:=by
 obtain⟨h1,h2|⟨gg,cap,cur,hv,hg,hh,r⟩⟩:=h;·exact⟨h1,.inl h2⟩
 ·exact⟨h1,.inr ⟨gg,cap,cur,hv,hg,hb _ _ hh,r⟩⟩
theorem JE.V{g:Nat->Y}(h:JE lo g gc gq gt c W)(hb:El W W'):JE lo g gc gq gt c W':=by obtain⟨d0,d1,d2,hd,k,r⟩:=h.Ek;obtain⟨v,came,k2,r2,r3⟩:=h.ZL;exact⟨h.lo2,h.X2,h.ok,h.lc,h.lq,h.lt,⟨d0,d1,d2,hd,k.V hb,r⟩,h.tab.V hb,⟨v,came,k2.V hb,r2,EP r3 fun _ _ hk=>hk.V hb⟩,fun i h1 h2=>(h.keys i h1 h2).Ek fun _ _ hk=>hk.V hb,h.roots.V hb,h.cmds.V hb⟩
theorem E5.V{g:Nat->Y}(h:E5 lo hi g gc gq gt gs c ns rs W)(hb:El W W'):E5 lo hi g gc gq gt gs c ns rs W':=by obtain⟨sv,rv,sc,k,r1,r2⟩:=h.fU;exact⟨h.core.V hb,h.hc,h.hq,h.ht,h.ct,h.his,sv,rv,sc,k.V hb,EP r1 fun _ _ hk=>hk.V hb,EP r2 fun _ _ hk=>hk.V hb⟩
def AY:List EB:=[120,152,171,163,5]
theorem JE.via{g:Nat->Y}(h:JE lo g gc gq gt c W)(hb: ∀k cs S,AY.contains S=EI->D W k cs S->D W' k cs S)(hl:Ik lo W W'):JE lo g gc gq gt c W':=by
 obtain⟨d0,d1,d2,hd,k,r⟩:=h.Ek;obtain⟨v,came,k2,r2,r3⟩:=h.ZL;refine⟨h.lo2,h.X2,h.ok,h.lc,h.lq,h.lt,⟨d0,d1,d2,hd,hb _ _ _ Ea k,r⟩,hb _ _ _ Ea h.tab,⟨v,came,hb _ _ _ Ea k2,r2,EP r3 fun _ _ hk=>hb _ _ _ Ea hk⟩,fun i h1 h2=>(h.keys i h1 h2).Ek fun _ _ hk=>hb _ _ _ Ea hk,fun i hi=> ?_,fun i hi=> ?_⟩;·exact En4
 ·exact En6
theorem EW(h:D W g cs S)(k:D W g2 cs2 S2)(hne:S≠S2):g≠g2:=fun e=>by subst e;have e2:=(show Z (EJ cs S (0,0))=Z (EJ cs2 S2 (0,0)) from h.symm.trans k);injection e2 with e2;injection e2 with e3 e4;exact hne e4
theorem JE.set{g:Nat->Y}{c':Ey}(h:JE lo g gc gq gt c W)(ho:E3 gc W W')(hT:c'.T=c.T)(hq:c'.q=c.q)(hok:c'.ok) (hb: ∃(d0 d1 d2:Dr) (hd:List Int),Jc W' gc (ak (EG 56 g).toList c' gq gt d0 d1 d2 hd) 120/\d0.ok/\d1.ok/\d2.ok/\hd.length=32/\ ∀x∈hd,0<=x/\x<=255):JE lo g gc gq gt c' W':=by
 obtain⟨e0,e1,e2,ehd,k,r⟩:=h.Ek;obtain⟨v,came,k2,r2,r3⟩:=h.ZL;have hl:=ho.bel lo h.lc (Ez h.lc (am k.lt));refine⟨h.lo2,h.X2,hok,h.lc,h.lq,h.lt,hb,?_,⟨v,came,ho.Ek k2 (EW k2 k Ea),r2,?_⟩,fun i h1 h2=>(h.keys i h1 h2).Ek fun _ _ hk=>ho.Ek hk (EW hk k Ea),fun i hi=> ?_,fun i hi=> ?_⟩;·rw[hT];exact ho.Ek h.tab (EW h.tab k Ea)
 ·rw[hq];exact EP r3 fun _ _ hk=>ho.Ek hk (EW hk k Ea)
 ·exact En4
 ·exact En6
theorem ZZ{P:Jh}{a:E6}{o:EL}{K:E6->Prop}{T TB:EB}{off n:Nat}{Gs:List (List Y)}{old:List Y}(hT:IG P T n)(x:J7)(ho:o.op= .load T x)(hx:a.eval x=M (Z ⟨g,off,X⟩))(hg:Ec (Jc W g Gs TB))(k:Nat)(hk:Gs[k]?=Z old)(hf:aM Gs k=off)(hn:old.length=n) (h:K (a.put o.dst (EZ old.toArray))):o.quiet P a (fun w'=> ∃x,w'=EC W x) K:=by obtain⟨⟨d,hu,hd⟩,hi⟩:=hT;refine⟨_,fun w hw=> ?_,h⟩;obtain⟨y,rfl⟩:=hw;have hb:(EC W y).heap[g]?=Z (EJ Gs.flatten.toArray TB (0,0)):=hg.out.V (EN y);have hrun:=run_loadVar_mid (EC W y) g off T _ d (World.rangeAt_of_block hb off n) hu mj (by rw[hi,Array.length_toList,Jc.extract k hk hf n hn];simp[hn]);rw[Array.toArray_toList,Jc.extract k hk hf n hn] at hrun;unfold Oper.quietAt If;simp only[ho,hx,fB,dJ,Oz,Og,OC,hrun];first|exact⟨rfl,rfl⟩|exact⟨rfl,y,rfl⟩
theorem Jz(g:Nat->Y):(EG 56 g).toList.length=56:=Eh
theorem Ka{g:Nat->Y}{d0 d1 d2:Dr}(K:Jc W gc (ak (EG 56 g).toList c gq gt d0 d1 d2 hd) 120)(h0:d0.ok)(h1:d1.ok)(h2:d2.ok)(k:Nat)(hk:k<13){old:List Y}(ho:(ak (EG 56 g).toList c gq gt d0 d1 d2 hd)[k]?=Z old)(j:Nat)(hj:j<old.length):W.cell? ⟨gc,kL k+j,X⟩=old[j]?:=
 K.cell k ho (Ok (Jz g) h0 h1 h2 k hk) j hj
theorem vU{b0:Nat}{T:EB}(h:jO b0 T N ys w w')(hk:D w g ys.toArray S)(hN:N=0\/ys.length<=N):D w' g ys.toArray S:=by
 obtain⟨cs',e,s,-,hj⟩:=h.2.2 g ys.toArray S hk
 have:cs'=ys.toArray:=by
  apply Array.ext_getElem?;intro j;rcases hj j with h1|⟨h1,h2,h3⟩;·exact h1
  ·rcases hN with rfl|hN;·rw[h3];simp
   ·rw[h3];have hl:cs'.size=ys.length:=by simpa using s
    rw[OE];by_cases hlt:j<ys.length;·omega
    ·have e1:cs'[j]?=X:=gQ U;rw[<-h3,e1,bf U]
 rw[this] at e;exact e
theorem Ebx:(Tryz.prog.info? 58).map (fun i=>(i.zero,i.size,i.bytes))=Z (Z (EZ #[E I 0,E I 0,E I 0,E I 0,E I 0,E I 0]),6,48):=Ed
theorem S7:IG Eb 58 6:=⟨⟨_,Tryz.underlying58,O⟩,Ed⟩
theorem vX:IG Eb 124 3:=⟨⟨_,Tryz.underlying124,O⟩,Ed⟩
def A_(hi:Nat)(T:EB)(size n:Nat)(xs:List Y)(v:Y)(w:H):Prop:= ∃(A:Option Eu) (c:Nat),v=G A n c/\w.ownsRow hi T size v n xs
theorem Xs{T:EB}{size n:Nat}{v:Y}{xs:List Y}(h:w.ownsRow base T size v n xs): ∃(A:Option Eu) (c:Nat),v=G A n c/\(A=X->n=0):=by
 rcases h.2 with⟨e,hn⟩|⟨g,cap,cur,hv,-⟩;·exact⟨X,0,by rw[e,hn],fun _=>hn⟩
 ·exact⟨_,cap,hv,fun h=>XE⟩
theorem dw(h:D W g cs S)(k:D W g2 cs2 S2)(hne:S≠S2):g≠g2:=fun e=>by subst e;have e2:=(show Z (EJ cs S (0,0))=Z (EJ cs2 S2 (0,0)) from h.symm.trans k);injection e2 with e2;injection e2 with e3 e4;exact hne e4
theorem Eby{a b c:Y}(K:D w gs #[a,b,c] S)(v:Y):D (w.setCell ⟨gs,2,X⟩ v) gs #[a,b,v] S:=by have:=K.set 2 v;exact EnV
theorem Ebz{a b c:Y}(K:D w gs #[a,b,c] S)(v:Y):D (w.setCell ⟨gs,1,X⟩ v) gs #[a,v,c] S:=by have:=K.set 1 v;exact EnV
theorem S_(h:lo<=g)(v:Y):Ik lo w (w.setCell ⟨g,i,X⟩ v):=(E9 lo w).setCell (p:=⟨g,i,X⟩) h v
theorem Ew.setCell(K:D w g cs S)(hS:kE.contains S=EI)(hl:lo<=g)(i:Nat)(v:Y):Ew lo hi w (w.setCell ⟨g,i,X⟩ v):=
 Ew.vO (J1 i v) K (K.set i v) hS hl
theorem TI: ∃i,Tryz.prog.info? 58=Z i/\i.zero=Z (EZ #[E I 0,E I 0,E I 0,E I 0,E I 0,E I 0])/\i.size=6/\i.bytes=48:=by obtain⟨i,h1,h2,h3,h4⟩:=bz Ebx;exact⟨i,h1,h2,h3,h4⟩
theorem Zp(lo hi:Nat)(g:Nat->Y)(gc gq gt gs:Nat)(c:Ey)(ns:Nat)(rs:List Rec)(k s q cd hw:Int)(w:H)(S:E5 lo hi g gc gq gt gs c ns rs w)(hl:rs.length<1000000): Ef Eb 102 #[M (Z ⟨gs,0,X⟩),E I k,E I s,E I q,E I cd,E I hw] w fun e w'=>e=Eg (Et #[])/\E5 lo hi g gc gq gt gs c ns (rs++[⟨k,s,q,c.tok.e,cd,hw⟩]) w'/\Ew lo hi w w':=by
 obtain⟨sv,rv,sc,KS,OS,OR⟩:=S.fU;obtain⟨A0,c0,rfl,hnil⟩:=Xs OR;obtain⟨d0,d1,d2,hd,KG,o0,o1,o2,JT,Ol⟩:=S.core.Ek;have c0':w.cell? ⟨gs,0,X⟩=Z (M (Z ⟨gc,0,X⟩)):=(D.cell KS 0).trans O;have c1':w.cell? ⟨gc,57,X⟩=Z (E I c.tok.e):=Ka KG o0 o1 o2 1 U O 1 XR;have HL:=J hl;have HH:=J (show hi<=w.heap.size by have:=S.his;have:=KS.lt;omega);have vZ:=J<|show lo<=gs from Ez S.ct S.his;have IR:=J TI;have TJ:=J S;have CB:=J S.core;have KS:=J KS;have OS:=J OS;have OR:=J OR;have Ekc:=J hnil;clear S hl hnil KG o0 o1 o2 JT Ol;generalize c.tok.e=ep at*;go_enter Tryz.func102,Tryz.ntmps102;go_wp2_with fail;have jm:=J<|D.new w #[E I k,E I s,E I q,E I ep,E I cd,E I hw] 58;have b1:=Er w (EJ #[E I k,E I s,E I q,E I ep,E I cd,E I hw] 58);replace KS:=J<|KS.out.V b1;replace OS:=J<|EP OS.out fun _ _ h=>D.V h b1;replace OR:=J<|EP OR.out fun _ _ h=>D.V h b1;replace CB:=J<|CB.out.V b1;have MM:Ec (Ew lo hi w (w.alloc (EJ #[E I k,E I s,E I q,E I ep,E I cd,E I hw] 58))):=J<|Ew.EA b1;clear b1 c0' c1';generalize w.alloc (EJ #[E I k,E I s,E I q,E I ep,E I cd,E I hw] 58)=w1 at*;obtain⟨gr,hgr⟩:=En w.heap.size;rw[<-hgr] at jm⊢;replace hgr:=J hgr;have HN:Ec (rs.length*6=0\/(Rec.mk k s q ep cd hw).v.length<=rs.length*6):=J BI;have HX:Ec (∀j,rs.length*6<=j->j<rs.length*6+(Rec.mk k s q ep cd hw).v.length->j<(Uw rs++(Rec.mk k s q ep cd hw).v).length->(Uw rs++(Rec.mk k s q ep cd hw).v)[j]?=((Rec.mk k s q ep cd hw).v)[j-rs.length*6]?):=J (fun j h1 h2 h3=>by rw[aX (by rw[yK];exact h1),yK]);refine bH (Ph:=fun p wq=>match p with|0=>(D wq gs #[M (Z ⟨gc,0,X⟩),sv,G A0 rs.length c0] 124/\D wq gr (Rec.mk k s q ep cd hw).v.toArray 58/\cu wq hi 58 6 (G A0 rs.length c0) rs.length (Uw rs)/\(JE lo g gc gq gt c wq/\cu wq hi 264 2 sv ns sc.l/\Ew lo hi w wq))|_=>(∃(A:Option Eu) (cp:Nat),D wq gs #[M (Z ⟨gc,0,X⟩),sv,G A (rs.length+1) cp] 124/\D wq gr (Rec.mk k s q ep cd hw).v.toArray 58/\cu wq hi 58 6 (G A (rs.length+1) cp) (rs.length+1) (Uw rs++(Rec.mk k s q ep cd hw).v)/\(JE lo g gc gq gt c wq/\cu wq hi 264 2 sv ns sc.l/\Ew lo hi w wq))) (Rel:=(jO hi 58 (rs.length*6) (Rec.mk k s q ep cd hw).v)) (Is:=(fun w w'=> ∀g2 c2,D w g2 c2 58->D w' g2 c2 58)) [kp gs 0,kp gs 0,kp gs 0,kp gs 2,kq (G A0 rs.length c0),kq (EZ (Rec.mk k s q ep cd hw).v.toArray),.dep (fun v w=> ∃b:Nat,v=G (Z ⟨b,0,X⟩) 1 1/\D w b (Rec.mk k s q ep cd hw).v.toArray 58) (fun v w w' h hr=>by obtain⟨b,e,hk⟩:=h;exact⟨b,e,vU hr hk HN.out⟩) (fun v w w' h hr=>TU),.dep (A_ hi 58 6 (rs.length+1) (Uw rs++(Rec.mk k s q ep cd hw).v)) (fun v w w' h hr=>by obtain⟨A,c,e,ho⟩:=h;exact⟨A,c,e,mA hr ho HX.out⟩) (fun v w w' h hr=>TX),kp gs 0,kp gs 2,.val (fun _=>True)] _ O [10] [(0,0),(0,0),(0,0),(0,0),(0,0),(0,0),(0,0),(0,0),(0,0),(0,0),(0,0)] Ed Ed Ed Ed Ed UP Ed ?hPh ?h0 ?hstep ?hend
 case hPh=>
  intro p w2 w3 h hr;have keep: ∀g2 c2 S2,S2≠58->D w2 g2 c2 S2->D w3 g2 c2 S2:=fun g2 c2 S2 hS k2=>X1 hr k2 hS;have rest:(JE lo g gc gq gt c w2/\cu w2 hi 264 2 sv ns sc.l/\Ew lo hi w w2)->(JE lo g gc gq gt c w3/\cu w3 hi 264 2 sv ns sc.l/\Ew lo hi w w3):=fun⟨a1,a2,a3⟩=>⟨a1.via (fun k2 c2 S hS h2=>keep _ _ _ X3 h2) ((hr.2.1 (Ez HH.out a3.size)).mono (Ez (by exact TJ.out.ct) (E7 _))),EP a2 (fun g2 c2 h2=>keep _ _ _ Ea h2),a3.trans (Ew.S6 hr Ea (Ez HH.out a3.size))⟩;match p,h with
  |0,h=>exact⟨keep _ _ _ Ea h.1,vU hr h.2.1 HN.out,mA hr h.2.2.1 (fun j h1 h2 h3=>by rw[yK] at h3;omega),rest h.2.2.2⟩
  |_+1,h=> obtain⟨A,cp,h1,h2,h3,h4⟩:=h;exact⟨A,cp,keep _ _ _ Ea h1,vU hr h2 HN.out,mA hr h3 HX.out,rest h4⟩
 case h0=> exact⟨KS.out.drew,jm.out.drew,OR.out,CB.out.V (Jg _),OS.out,MM.out.trans (Ew.EA (Jg _))⟩
 case hstep=>
  refine⟨?_,?_,?_,?_,?_,?_,?_,?_,?_,?_,?_,trivial⟩;all_goals first|intro xv wq p hlo hhi hp hd|intro xv wq hp hd
  all_goals try obtain rfl:p=0:=U
  all_goals simp only[EH,Ig,Ii,Ia,Ib]
  ·exact IM hX (Ei O) Ex O
  ·exact IM hX (Ei O) Ex O
  ·have d1:xv 1=M (Z ⟨gs,0,X⟩):=hd.at 1 rfl;exact IM hX (Ei O) Xp O
  ·have d2:xv 2=M (Z ⟨gs,0,X⟩):=hd.at 2 rfl;exact IM hX (Ei O) Kb O
  ·have d3:xv 3=M (Z ⟨gs,2,X⟩):=hd.at 3 rfl;have cc:wq.cell? ⟨gs,2,X⟩=Z (G A0 rs.length c0):=(D.cell hp.1 2).trans O;exact IM hX (Ei O) (by simp[go_sem,d3,cc]) O
  ·exact jI hX S7 (Ei O) ⟨O,O⟩ (hp.2.1) O O
  ·have d5:xv 5=EZ (Rec.mk k s q ep cd hw).v.toArray:=hd.at 5 rfl;exact Zg (Ei O) (by simp[go_sem,d5];rfl) (uZ (Er wq _)) ⟨wq.heap.size,O,D.new _ _ _⟩
  ·have d4:xv 4=G A0 rs.length c0:=hd.at 4 rfl;obtain⟨b,e6,k6⟩: ∃b:Nat,xv 6=G (Z ⟨b,0,X⟩) 1 1/\D wq b (Rec.mk k s q ep cd hw).v.toArray 58:=hd.at 6 rfl;obtain⟨A',c',w',hrun,hown,hgr,-,-⟩:=dX (P:=Eb) wq hi hi 40 _ 58 IR.out.choose _ 6 48 Tryz.underlying40 IR.out.choose_spec.1 IR.out.choose_spec.2.1 IR.out.choose_spec.2.2.1 IR.out.choose_spec.2.2.2 rfl A0 c0 rs.length (Uw rs) hp.2.2.1 ⟨b,0,X⟩ 1 1 (Rec.mk k s q ep cd hw).v O (fun j Y3 hu=>by rw[show(⟨b,0,X⟩:Eu).add j=⟨b,j,X⟩ from Xw];rw[D.cell k6,OE];exact hu) (by simp[Rec.v,OF]) (fun _=>U) (by have:=HL.out;unfold maxLen;omega) JN (Ez HH.out hp.2.2.2.2.2.size) (E7 _);exact Zg (Ei O) (Ua O (show xv 4=_ from d4) (show xv 6=_ from e6) hrun) hgr ⟨A',c',O,hown⟩
  ·have d0:xv 0=M (Z ⟨gs,0,X⟩):=hd.at 0 rfl;exact IM hX (Ei O) UW O
  ·have d8:xv 8=M (Z ⟨gs,0,X⟩):=hd.at 8 rfl;exact IM hX (Ei O) fV O
  ·have d9:xv 9=M (Z ⟨gs,2,X⟩):=hd.at 9 rfl;obtain⟨A,cp,e7,ho⟩:A_ hi 58 6 (rs.length+1) (Uw rs++(Rec.mk k s q ep cd hw).v) (xv 7) wq:=hd.at 7 rfl;have cc:wq.cell? ⟨gs,2,X⟩=Z (G A0 rs.length c0):=(D.cell hp.1 2).trans O;have ff:wq.frozen? ⟨gs,2,X⟩=B:=D.JX hp.1 2;rw[e7] at ho;have kk:=Eby hp.1 (G A (rs.length+1) cp);refine Fy (w':=wq.setCell ⟨gs,2,X⟩ (G A (rs.length+1) cp)) (Ei O) (by simp[go_sem,d9,e7,cc,ff]) ⟨fun g2 c2 h2=>h2.other gs 2 _ (dw h2 hp.1 Ea),?_⟩ trivial;exact⟨A,cp,kk,hp.2.1.other gs 2 _ (dw hp.2.1 hp.1 Ea),EP ho (fun g2 c2 h2=>h2.other gs 2 _ (dw h2 hp.1 Ea)),hp.2.2.2.1.via (fun k2 c2 S hS h2=>h2.other gs 2 _ (dw h2 hp.1 X3)) (S_ vZ.out _),EP hp.2.2.2.2.1 (fun g2 c2 h2=>h2.other gs 2 _ (dw h2 hp.1 Ea)),hp.2.2.2.2.2.trans (Ew.setCell hp.1 Ea vZ.out 2 _)⟩
 case hend=>
  intro xv W6 hp hr;clear hr;simp only[EH,Ig,Ii,Ia,Ib];obtain⟨A,cp,h1,h2,h3,h4,h5,h6⟩:=hp;replace KS:=J h1;replace jm:=J h2;replace OR:=J h3;replace CB:=J h4;replace OS:=J h5;replace MM:=J h6;clear h1 h2 h3 h4 h5 h6 HN HX;obtain⟨d0,d1,d2,hd,KG,o0,o1,o2,JT,Ol⟩:=CB.out.Ek;have KG:=J KG;have HF:=J<|Ok (c:=c) (gq:=gq) (gt:=gt) (hd:=hd) (Jz g) o0 o1 o2 12 U;have CN:Ec (∀W,Jt W->Ef Eb 68 #[EZ (hd.map (E .u8)).toArray,EZ (Rec.mk k s q ep cd hw).v.toArray] W fun e' w'=>e'=Eg (EZ (Ej (Xo (hd++gE k s q ep cd hw))))/\El W w'):=J<|fun W (r:Jt W)=>Eac hd k s q ep cd hw JT Ol W r;have RT:=J CB.out.roots;have cs: ∀y:Ext W6,(EC W6 y).cell? ⟨gs,0,X⟩=Z (M (Z ⟨gc,0,X⟩)):=fun y=>(D.cell (KS.out.V (EN y)) 0).trans O;obtain⟨nh,Kc⟩:=En (Xo (hd++gE k s q ep cd hw));rw[<-Kc] at CN;have pu:=J (show nh.length=32/\ ∀x∈nh,0<=x/\x<=255 by rw[Kc];exact⟨kw _,rG _⟩);have pw:=J (show(hd.map (E .u8)).length=32 by simp[JT]);clear Kc JT Ol;go_wp2_with fail;refine J_ 15 Ed Ed ?_;simp only[Iq,Io,IP,IH]
  repeat (first
   |go_big_quiet_skip
   |(go_big_quiet_want
     first
      |(refine UB (T:=58) (g:=gr) S7 _ rfl rfl jm ?_ ?_;(·rfl);go_simp;go_big_quiet_on)
      |(refine ZZ (T:=41) (g:=gc) (off:=114) OZ _ rfl rfl KG 12 rfl HF.out pw.out ?_;go_simp;go_big_quiet_on)
      |(go_big_quiet_op
        first
         |go_big_quiet_on
         |go_big_quiet_call (with_reducible refine aE (CN.out _ (RT.out.V (EN _)))))))
  refine I1 ?_;intro _ hw';obtain⟨y9,rfl⟩:=hw';have Em:=EN y9;replace KS:=J<|KS.out.V Em;replace OR:=J<|EP OR.out fun _ _ h=>D.V h Em;replace OS:=J<|EP OS.out fun _ _ h=>D.V h Em;replace CB:=J<|CB.out.V Em;replace KG:=J<|KG.out.V Em;replace MM:=J<|MM.out.trans (Ew.EA Em);clear cs Em jm;generalize EC W6 y9=W7 at*;have KF:=J<|KG.out.set 12 rfl HF.out (nh.map (E .u8)) (by rw[pw.out];simp[pu.out.1]);have TH:=J<|KG.out.there 12 rfl HF.out 32 (Om pw.out.symm);have ON:=J<|JG (g:=gc) (nh.map (E .u8)) 114 W7;go_wp2_with ((with_reducible refine JB 41 ?_);(with_reducible refine Ui O 41 _ _ O gc 114 (Ej nh) ?_ ?_ ?_ ?_ ?_ ?_);(·rfl);(·rfl);(·rw[Od,pu.out.1];exact TH.out);(·rw[Od,pu.out.1];exact OZ.2);(·exact Xm _));go_end0;have CB2:=CB.out.set ON.out O O CB.out.ok ⟨d0,d1,d2,nh,KF.out,o0,o1,o2,pu.out.1,pu.out.2⟩;have S2:=TJ.out;refine⟨O,⟨CB2,S2.hc,S2.hq,S2.ht,S2.ct,S2.his,sv,G A (rs.length+1) cp,sc,ON.out.Ek KS.out (EW KS.out KG.out Ea),EP OS.out fun _ _ h=>ON.out.Ek h (EW h KG.out Ea),?_⟩,MM.out.trans (Ew.vO ON.out KG.out KF.out Ea CB.out.lc)⟩;have:=EP OR.out fun _ _ h=>ON.out.Ek h (EW h KG.out Ea);rw[Pd,IY,show Uw [Rec.mk k s q ep cd hw]=(Rec.mk k s q ep cd hw).v from by simp[Uw]];exact this
def pA(z:Int):Int:=if(Iu .and .u16 z 32768 !=0)=EI then Iu .xor .u16 (IntKind.u16.wrap (z*2)) 4129 else IntKind.u16.wrap (z*2)
def sZ:Nat->Int->Int
 |0,z=>z
 |k+1,z=>pA (sZ k z)
def pB(s c:Int):Int:=sZ 8 (Iu .xor .u16 s (c*256))
def XS(xs:List Int):Int:=xs.foldl pB 65535
theorem EbB(op:BinOp)(a b:Int):0<=Iu op .u16 a b/\Iu op .u16 a b<=65535:=by
 unfold Iu;have h: ∀x:Int,0<=IntKind.u16.wrap x/\IntKind.u16.wrap x<=65535:=fun x=>by exact Eny
 exact h _
theorem EbC(x:Int):0<=IntKind.u16.wrap x/\IntKind.u16.wrap x<=65535:=by exact Eny
theorem EbD(z:Int):0<=pA z/\pA z<=65535:=by
 unfold pA;split;·exact EbB _ _ _
 ·exact EbC _
theorem EbF(s c:Int):0<=pB s c/\pB s c<=65535:=EbD _
theorem TZ(xs:List Int)(x:Int):XS (xs++[x])=pB (XS xs) x:=by unfold XS;rw[List.foldl_append];rfl
theorem Ta(xs:List Int):0<=XS xs/\XS xs<=65535:=by refine PW (P:=fun xs=>0<=XS xs/\XS xs<=65535) Ea (fun l x _=> ?_) xs;rw[TZ];exact EbF _ _
theorem EbG(s c:Int)(w:H)(h1:0<=s/\s<=65535)(h2:0<=c/\c<=255): Ef Eb 200 #[.int .u16 s,E IL c] w fun e w'=>e=Eg (.int .u16 (pB s c))/\w=w':=by
 obtain⟨r,hr⟩:=En (pB s c);rw[<-hr];replace hr:=J hr;go_enter Tryz.func200,Tryz.ntmps200;go_wp2_with fail;go_loop [0,10] (fun x y=> ∃i:Nat,i<=8/\y=E I i/\x= .int .u16 (sZ i (Iu .xor .u16 s (c*256)))) (fun _ y=>8-(Ir y).toNat);case atStart=>exact⟨0,U,O,O⟩
 case round=>
  obtain⟨i,hi,rfl,rfl⟩:=hrel;by_cases hlt:i<8
  ·have t1:decide ((i:Int)<8)=EI:=IU U;obtain⟨z,hz⟩: ∃z,z=sZ i (Iu .xor .u16 s (c*256)):=⟨_,O⟩;rw[<-hz];have HZ:Ec (sZ (i+1) (Iu .xor .u16 s (c*256))=pA z):=J (by rw[hz];rfl);clear hz;cases hb:(Iu .and .u16 z 32768 !=0) with
   |true=> go_wp2_with fail;refine⟨⟨i+1,U,Eh,?_⟩,JM⟩;rw[HZ.out];unfold pA;rw[if_pos hb]
   |false=> go_wp2_with fail;refine⟨⟨i+1,U,Eh,?_⟩,JM⟩;rw[HZ.out];unfold pA;rw[if_neg (by rw[hb];decide)]
  ·have t1:decide ((i:Int)<8)=B:=IJ U;obtain rfl:i=8:=U;rw[show sZ 8 (Iu .xor .u16 s (c*256))=r from hr.out.symm];exact Eli
theorem Tb(a:Option Eu)(xs:List Int)(n c:Nat)(w:H)(hn:xs.length=n)(hr:Row w a xs)(hm:n<=9223372036854775807): Ef Eb 157 #[G a n c] w fun e w'=>e=Eg (.int .u16 (XS xs))/\w=w':=by
 obtain⟨hr,hb⟩:=hr;have HR:=J hr;have HB:=J hb;have HN:=J hn;clear hr hb hn;obtain⟨r,hr⟩:=En (XS xs);rw[<-hr];replace hr:=J hr;go_enter Tryz.func157,Tryz.ntmps157;go_wp2_with fail;go_loop [3,8] (fun x y=> ∃i:Nat,i<=n/\y=E I i/\x= .int .u16 (XS (xs.take i))) (fun _ y=>n-(Ir y).toNat);case atStart=>exact⟨0,U,O,O⟩
 case round=>
  obtain⟨i,hi,rfl,rfl⟩:=hrel;by_cases hlt:i<n
  ·have t1:decide ((i:Int)<(n:Int))=EI:=IU U;rcases HR.out with e|⟨b,off,rfl,hc⟩;·have:=HN.out;rw[e] at this;simp at this;omega
   ·have hil:i<xs.length:=mD;have hc:=hc i hil;have hx:=HB.out xs[i] (gY _);have HS:Ec (XS (xs.take (i+1))=pB (XS (xs.take i)) xs[i]):=J (by rw[<-TZ,List.take_append_getElem hil]);have hin:=Ta (xs.take i);generalize XS (xs.take i)=z at*;go_wp2_with fail;refine(EbG z xs[i] _ hin hx).mono ?_;rintro e w2 ⟨rfl,rfl⟩;go_wp2_with fail;exact⟨⟨i+1,U,Eh,by rw[HS.out]⟩,JM⟩
  ·obtain rfl:i=n:=U;have t1:decide ((i:Int)<(i:Int))=B:=IJ U;rw[show xs.take i=xs from OY BJ,show XS xs=r from hr.out.symm];exact Eli
theorem Tc(x:Int)(k:Nat)(hx:x=k)(hk:k<=1000000000000)(W:H): (Instr.makeSlice 23 (E I 0) (E I x)).run Eb W= .ok (G (Z ⟨W.heap.size,0,X⟩) 0 k) (W.alloc (EJ (aL #[E .u8 0] k) 5)):=by subst hx;obtain⟨i0,hi,hz0,hz1,hz2⟩:=bz mJ;have h:=run_make (P:=Eb) W 23 5 i0 _ bA hi hz0 .i64 .i64 0 k U U (by rw[hz2];omega) U;rw[h,hz1,mO,Nat.mul_one];rfl
theorem Td(w:H)(base k:Nat)(hb:base<=w.heap.size)(hk:k<=1000000000000):Own (w.alloc (EJ (aL #[E .u8 0] k) 5)) base (Z ⟨w.heap.size,0,X⟩) k []:=by refine⟨⟨O,.inr ⟨w.heap.size,k,aL #[E .u8 0] k,O,hb,?_,bG _,Ot,by simp[aL],Eh⟩⟩,fun x hx=>tM⟩;exact D.new w _ _
theorem Tf(w:H)(xs:List Int)(h: ∀x∈xs,0<=x/\x<=255)(cs:Array Y)(hc:cs=(xs.map (E .u8)).toArray):Row (w.alloc (EJ cs 5)) (Z ⟨w.heap.size,0,X⟩) xs:=by subst hc;refine⟨.inr ⟨w.heap.size,0,O,fun i hi=> ?_⟩,h⟩;rw[D.cell (D.new w (xs.map (E .u8)).toArray 5),OE,OD];simp[hi]
theorem EbH(h:Row w A xs)(g:Nat)(hg:A=Z ⟨g,0,X⟩)(k:Nat):Row w (Z ⟨g,k,X⟩) (xs.drop k):=by
 obtain⟨h1,h2⟩:=h;refine⟨?_,fun x hx=>h2 x (List.mem_of_mem_drop hx)⟩;rcases h1 with e|⟨b,off,e,hc⟩;·left;rw[e];simp
 ·right;rw[hg] at e;injection e with e;injection e with e1 e2 e3;subst e1 e2;refine⟨g,k,O,fun i hi=> ?_⟩;have hil:i<xs.length-k:=U5;have hh:=hc (k+i) U;rw[show 0+(k+i)=k+i from U] at hh;rw[hh];simp
theorem EbK(n:Nat)(h:n<=255):IntKind.u8.wrap (n:Int)=n:=FH
theorem EbL(A:Option Eu)(xs:List Int)(n c:Nat)(w:H)(hn:xs.length=n)(hr:Row w A xs)(hm:n<=9223372036854775807): Ef Eb 166 #[G A n c] w fun e w'=>(∃A' n' c' x,e=Eg (Et #[G A' n' c',E I x]))/\El w w':=by
 have HR:=J hr;have HN:=J hn;clear hr hn;by_cases h:n<=32
 ·have t1:decide ((32:Int)<(n:Int))=B:=IJ U;have hmk: ∀W:H,(Instr.makeSlice 23 (E I 0) (E I (3+(n:Int)+2))).run Eb W= .ok (G (Z ⟨W.heap.size,0,X⟩) 0 (n+5)) (W.alloc (EJ (aL #[E .u8 0] (n+5)) 5)):=Tc _ _ U U;have cv:IntKind.u8.wrap (n:Int)=n:=EbK n U;have O1:=J<|Td w w.heap.size (n+5) (E7 _) U;have B1:=J<|Er w (EJ (aL #[E .u8 0] (n+5)) 5);go_enter Tryz.func166,Tryz.ntmps166;go_wp2_with (with_reducible refine I7 18 ?_);apply Eo;generalize w.alloc (EJ (aL #[E .u8 0] (n+5)) 5)=w1 at*;have R2:=J<|Tf w1 [165,1,(n:Int)] (by intro x hx;simp at hx;omega) _ O;have BL:=J<|Er w1 (EJ ([165,1,(n:Int)].map (E .u8)).toArray 5);replace O1:=J<|ZD O1.out BL.out;replace B1:=ET B1 BL.out;simp only[Uv,Xn] at O1 R2 B1;clear BL;go_wp2_with ((with_reducible refine It 19 ?_);(with_reducible refine my _ (Ei O) (.tmp 14) (.tmp 18) O w.heap.size (Z ⟨w.heap.size,0,X⟩) (n+5) 0 [] O ?_ O1.out (Z ⟨w1.heap.size,0,X⟩) 3 3 [165,1,(n:Int)] O ?_ R2.out U B1.out.size ?_);(·rfl);(·rfl);intro A2 c2 w3 o3 b3 k3;refine Ev.mk ?_);apply Eo;replace O1:Ec (Own w3 w.heap.size A2 c2 [165,1,(n:Int)]):=J o3;replace B1:=J<|B1.out.trans b3;clear b3 k3 o3 R2;go_wp2_with ((with_reducible refine It 22 ?_);(with_reducible refine my _ (Ei O) (.tmp 20) (.tmp 21) O w.heap.size A2 c2 3 [165,1,(n:Int)] O ?_ O1.out A c n xs HN.out ?_ (HR.out.V B1.out) U B1.out.size ?_);(·rfl);(·rfl);intro A3 c3 w4 o4 b4 k4;refine Ev.mk ?_);apply Eo;replace O1:=J o4;replace B1:=J<|B1.out.trans b4;clear b4 k4 o4;have HL:Ec (([165,1,(n:Int)]++xs).length=n+3):=J sb;rw[show 3+n=n+3 from U];generalize [165,1,(n:Int)]++xs=ys at*;obtain⟨g3,Ekd,rfl,lg3,kg3,cu3,Tg⟩:=SY O1.out Ga;have hc3:n+3<=c3:=by rw[<-HL.out];exact Tg
  have HRW:=J<|EbH O1.out.row g3 O 1;have pw:Ec ((ys.drop 1).length=n+2):=J (by rw[mB,HL.out];omega);generalize ys.drop 1=zs at*;clear kg3 cu3 Tg;go_wp2_with fail;refine(Tb (Z ⟨g3,1,X⟩) zs (n+2) _ _ pw.out HRW.out U).mono ?_;rintro e w5 ⟨rfl,rfl⟩;have hci:=Ta zs;generalize XS zs=s at*;go_wp2_with (with_reducible refine I7 32 ?_);apply Eo;have R5:=J<|Tf w4 [s/256,s%256] (by intro x hx;simp at hx;omega) _ O;have BL:=J<|Er w4 (EJ ([s/256,s%256].map (E .u8)).toArray 5);replace O1:=J<|ZD O1.out BL.out;replace B1:=ET B1 BL.out;simp only[Uv,Xn] at O1 R5 B1;clear BL;go_wp2_with ((with_reducible refine It 33 ?_);(with_reducible refine my _ (Ei O) (.tmp 26) (.tmp 32) O w.heap.size (Z ⟨g3,0,X⟩) c3 (n+3) ys HL.out ?_ O1.out (Z ⟨w4.heap.size,0,X⟩) 2 2 [s/256,s%256] O ?_ R5.out U B1.out.size ?_);(·rfl);(·rfl);intro A6 c6 w6 o6 b6 k6;refine Ev.mk ?_);apply Eo;replace B1:=J<|B1.out.trans b6;clear b6 k6 o6;go_wp2_with fail;go_ret2;exact⟨⟨_,_,_,_,O⟩,B1.out⟩
 ·have t1:decide ((32:Int)<(n:Int))=EI:=IU U;go_enter Tryz.func166,Tryz.ntmps166;go_wp2_with fail;go_ret2;exact⟨⟨_,_,_,_,O⟩,E9 _ _⟩
def Jo(c:Ey):List Y:=[E I c.mode,E I c.pt.c,E I c.pt.n0,E I c.pt.n1,E I c.pt.n2,E I c.pt.n3,E I c.Em.r,E I c.Em.s,E I c.Em.q,E I c.pt.b.r,E I c.pt.b.s,E I c.pt.b.q]
def I8(act:List Y)(sv rv:Y)(hd:List Int):List Y:=act++([sv,rv]++hd.map (E .u8))
theorem Zq:IG Eb 43 46:=⟨⟨_,Tryz.underlying43,O⟩,Ed⟩
theorem EbP(c:Ey)(A Y4:Option Eu)(n m d f:Nat)(h0 h1 h2 h3 h4 h5 h6 h7 h8 h9 h10 h11 h12 ii kF BO h16 nj h18 h19 h20 h21 h22 h23 BU pC Ba h27 Bb Bc Bd h31:Int):Tryz.prog.built 43 [(0,EZ #[E I c.mode,E I c.pt.c,E I c.pt.n0,E I c.pt.n1,E I c.pt.n2,E I c.pt.n3,E I c.Em.r,E I c.Em.s,E I c.Em.q,E I c.pt.b.r,E I c.pt.b.s,E I c.pt.b.q]),(1,G A n d),(2,G Y4 m f),(3,EZ ([h0,h1,h2,h3,h4,h5,h6,h7,h8,h9,h10,h11,h12,ii,kF,BO,h16,nj,h18,h19,h20,h21,h22,h23,BU,pC,Ba,h27,Bb,Bc,Bd,h31].map (E .u8)).toArray)]=Z (I8 (Jo c) (G A n d) (G Y4 m f) [h0,h1,h2,h3,h4,h5,h6,h7,h8,h9,h10,h11,h12,ii,kF,BO,h16,nj,h18,h19,h20,h21,h22,h23,BU,pC,Ba,h27,Bb,Bc,Bd,h31]).toArray:=Ed
theorem EbQ(c:Ey)(A Y4:Option Eu)(n m d f:Nat)(hd:List Int)(h:hd.length=32):Tryz.prog.built 43 [(0,EZ #[E I c.mode,E I c.pt.c,E I c.pt.n0,E I c.pt.n1,E I c.pt.n2,E I c.pt.n3,E I c.Em.r,E I c.Em.s,E I c.Em.q,E I c.pt.b.r,E I c.pt.b.s,E I c.pt.b.q]),(1,G A n d),(2,G Y4 m f),(3,EZ (hd.map (E .u8)).toArray)]=Z (I8 (Jo c) (G A n d) (G Y4 m f) hd).toArray:=by
 match hd,h with
 |[h0,h1,h2,h3,h4,h5,h6,h7,h8,h9,h10,h11,h12,ii,kF,BO,h16,nj,h18,h19,h20,h21,h22,h23,BU,pC,Ba,h27,Bb,Bc,Bd,h31],_=>exact EbP c A Y4 n m d f h0 h1 h2 h3 h4 h5 h6 h7 h8 h9 h10 h11 h12 ii kF BO h16 nj h18 h19 h20 h21 h22 h23 BU pC Ba h27 Bb Bc Bd h31
theorem vb(lo hi:Nat)(g:Nat->Y)(gc gq gt gs:Nat)(c:Ey)(ns:Nat)(rs:List Rec)(w:H)(S:E5 lo hi g gc gq gt gs c ns rs w): Ef Eb 46 #[M (Z ⟨gs,0,X⟩)] w fun e w'=> ∃(sv rv:Y) (sc:sU) (hd:List Int),e=Eg (EZ (I8 (Jo c) sv rv hd).toArray)/\hd.length=32/\(∀x∈hd,0<=x/\x<=255)/\w'.ownsRow hi 264 2 sv ns sc.l/\w'.ownsRow hi 58 6 rv rs.length (Uw rs)/\El w w':=by
 obtain⟨sv,rv,sc,KS,OS,OR⟩:=S.fU;obtain⟨d0,d1,d2,hd,KG,o0,o1,o2,JT,Ol⟩:=S.core.Ek;have HF:=J<|Ok (c:=c) (gq:=gq) (gt:=gt) (hd:=hd) (Jz g) o0 o1 o2 12 U;have pw:=J (show(hd.map (E .u8)).length=32 by simp[JT]);obtain⟨A1,e1,rfl,-⟩:=Xs OS;obtain⟨A2,e2,rfl,-⟩:=Xs OR;have BT:=J<|EbQ c A1 A2 ns rs.length e1 e2 hd JT;have SZ:=J (show(I8 (Jo c) (G A1 ns e1) (G A2 rs.length e2) hd).toArray.size=46 by simp[I8,Jo,JT]);have ONE:=J<|show(I8 (Jo c) (G A1 ns e1) (G A2 rs.length e2) hd).toArray.all (·.oneCell')=EI from all_oneCell_toArray (by intro v hv;simp only[I8,Jo,XM,UJ,UA,or_false,dU] at hv;rcases hv with hv|(rfl|rfl)|⟨x,-,rfl⟩<;>first|rfl|(rcases hv with rfl|rfl|rfl|rfl|rfl|rfl|rfl|rfl|rfl|rfl|rfl|rfl<;>rfl));have KS:=J KS;have KG:=J KG;have CC:=J<|fun(W:H) (K:Jc W gc (ak (EG 56 g).toList c gq gt d0 d1 d2 hd) 120) (k:Nat) (hk:k<13) (old:List Y) (ho:(ak (EG 56 g).toList c gq gt d0 d1 d2 hd)[k]?=Z old) (j:Nat) (hj:j<old.length)=>Ka K o0 o1 o2 k hk ho j hj;have HB:=J (show hd.length=32/\ ∀x∈hd,0<=x/\x<=255 from⟨JT,Ol⟩);have OS:=J OS;have OR:=J OR;clear S o0 o1 o2 JT Ol;go_enter Tryz.func46,Tryz.ntmps46;go_wp2_with fail;generalize hW:Uz _ _=w1 at*;have K2:Ec (∃z:Array Y,z.size=46/\D w1 w.heap.size z 43):=J ⟨_,O,hW▸D.new _ _ _⟩;have b1:El w w1:=hW▸Er w _;replace KS:=J<|KS.out.V b1;replace KG:=J<|KG.out.V b1;replace OS:=J<|EP OS.out fun _ _ h=>D.V h b1;replace OR:=J<|EP OR.out fun _ _ h=>D.V h b1;have u:=J b1;clear hW b1;have cs0: ∀y:Ext w1,(EC w1 y).cell? ⟨gs,0,X⟩=Z (M (Z ⟨gc,0,X⟩)):=fun y=>(D.cell (KS.out.V (EN y)) 0).trans O;have cs1: ∀y:Ext w1,(EC w1 y).cell? ⟨gs,1,X⟩=Z (G A1 ns e1):=fun y=>(D.cell (KS.out.V (EN y)) 1).trans O;have cs2: ∀y:Ext w1,(EC w1 y).cell? ⟨gs,2,X⟩=Z (G A2 rs.length e2):=fun y=>(D.cell (KS.out.V (EN y)) 2).trans O;have EbR: ∀y:Ext w1,(EC w1 y).cell? ⟨gc,98,X⟩=Z (E I c.mode):=fun y=>CC.out _ (KG.out.V (EN y)) 9 U _ O 0 gU;have EbS: ∀y:Ext w1,(EC w1 y).cell? ⟨gc,99,X⟩=Z (E I c.Em.r):=fun y=>CC.out _ (KG.out.V (EN y)) 10 U _ O 0 gU;have EbT: ∀y:Ext w1,(EC w1 y).cell? ⟨gc,100,X⟩=Z (E I c.Em.s):=fun y=>CC.out _ (KG.out.V (EN y)) 10 U _ O 1 gU;have EbV: ∀y:Ext w1,(EC w1 y).cell? ⟨gc,101,X⟩=Z (E I c.Em.q):=fun y=>CC.out _ (KG.out.V (EN y)) 10 U _ O 2 gU;have EbW: ∀y:Ext w1,(EC w1 y).cell? ⟨gc,102,X⟩=Z (E I c.pt.c):=fun y=>CC.out _ (KG.out.V (EN y)) 11 U _ O 0 gU;have EbY: ∀y:Ext w1,(EC w1 y).cell? ⟨gc,107,X⟩=Z (E I c.pt.n0):=fun y=>CC.out _ (KG.out.V (EN y)) 11 U _ O 5 gU;have Eb0: ∀y:Ext w1,(EC w1 y).cell? ⟨gc,108,X⟩=Z (E I c.pt.n1):=fun y=>CC.out _ (KG.out.V (EN y)) 11 U _ O 6 gU;have Eb1: ∀y:Ext w1,(EC w1 y).cell? ⟨gc,109,X⟩=Z (E I c.pt.n2):=fun y=>CC.out _ (KG.out.V (EN y)) 11 U _ O 7 gU;have Eb2: ∀y:Ext w1,(EC w1 y).cell? ⟨gc,110,X⟩=Z (E I c.pt.n3):=fun y=>CC.out _ (KG.out.V (EN y)) 11 U _ O 8 gU;have Eb3: ∀y:Ext w1,(EC w1 y).cell? ⟨gc,111,X⟩=Z (E I c.pt.b.r):=fun y=>CC.out _ (KG.out.V (EN y)) 11 U _ O 9 gU;have Eb4: ∀y:Ext w1,(EC w1 y).cell? ⟨gc,112,X⟩=Z (E I c.pt.b.s):=fun y=>CC.out _ (KG.out.V (EN y)) 11 U _ O 10 gU;have Eb5: ∀y:Ext w1,(EC w1 y).cell? ⟨gc,113,X⟩=Z (E I c.pt.b.q):=fun y=>CC.out _ (KG.out.V (EN y)) 11 U _ O 11 gU;refine J_ 54 Ed Ed ?_;simp only[Iq,Io,IP,IH]
 repeat (first
  |go_big_quiet_skip
  |(go_big_quiet_want
    first
     |(refine ZZ (T:=41) (g:=gc) (off:=114) OZ _ rfl rfl KG 12 rfl HF.out pw.out ?_;go_simp;go_big_quiet_on)
     |(go_big_quiet_op
       first
        |go_big_quiet_on
        |go_big_quiet_call (fail))))
 refine I1 ?_;intro _ hw';obtain⟨y9,rfl⟩:=hw';have Em:=EN y9;replace OS:=J<|EP OS.out fun _ _ h=>D.V h Em;replace OR:=J<|EP OR.out fun _ _ h=>D.V h Em;replace u:=ET u Em;obtain⟨z,hz,kz⟩:=K2.out;have KZ:=J<|D.V kz Em;have HZ:=J hz;clear cs0 cs1 cs2 Em kz hz K2 KG KS EbR EbS EbT EbV EbW EbY Eb0 Eb1 Eb2 Eb3 Eb4 Eb5;generalize EC w1 y9=w2 at*;obtain⟨tv,IE⟩: ∃tv,tv=(I8 (Jo c) (G A1 ns e1) (G A2 rs.length e2) hd).toArray:=⟨_,O⟩;rw[<-IE] at BT SZ ONE;replace IE:=J IE;go_wp2_with (first|((with_reducible refine It 57 ?_);refine I3 rfl 43 _ rfl tv BT.out ?_)|(with_reducible refine wS (cs:=tv) Zq KZ ?_ (ho:=HZ.out) (hn:=SZ.out) (h1:=ONE.out)));refine EV (Jj Zq O _ _ w.heap.size tv O (KZ.out.setRow tv) SZ.out) O ?_;refine⟨G A1 ns e1,G A2 rs.length e2,sc,hd,by rw[IE.out],HB.out.1,HB.out.2,?_,?_,E2 (g:=w.heap.size) u.out (E7 _) tv⟩;·exact EP OS.out fun _ _ h=>D.setRow_other h _ _ (EW h KZ.out Ea)
 ·exact EP OR.out fun _ _ h=>D.setRow_other h _ _ (EW h KZ.out Ea)
theorem Eb6(l:List Int)(w:H)(hl:du l):Ef Eb 165 #[EZ (I6 l)] w fun e w'=> ∃(A:Option Eu) (n c:Nat) (x:Int) (xs:List Int),e=Eg (Et #[G A n c,E I x])/\xs.length=n/\Row w' A xs/\n<=9223372036854775807/\El w w':=by
 refine(Ea_ l w hl).mono fun e w' ⟨h,hb⟩=> ?_;cases hp:ng l with
 |none=> rw[hp] at h;exact⟨X,0,0,1,[],h,O,⟨.inl O,Eh⟩,U,hb⟩
 |some bs=>
  rw[hp] at h;obtain⟨A,c,base,he,ho⟩:=h;refine⟨A,bs.length,c,0,bs,he,O,ho.row,?_,hb⟩;rcases ho.1.2 with⟨hv,hn⟩|⟨g,cap',cur,hv,hg,hh,hl,hm,hs,ht⟩;·omega
  ·unfold maxLen at hm;omega
theorem Th: ∃i,Tryz.prog.info? 264=Z i/\i.zero=Z (EZ #[E I 0,G X 0 0])/\i.size=2/\i.bytes=32:=by have h:(Tryz.prog.info? 264).map (fun i=>(i.zero,i.size,i.bytes))=Z (Z (EZ #[E I 0,G X 0 0]),2,32):=Ed;exact Emt
theorem vc(lo hi:Nat)(g:Nat->Y)(gc gq gt gs:Nat)(c:Ey)(ns:Nat)(rs:List Rec)(l:List Int)(k:Int)(w:H)(S:E5 lo hi g gc gq gt gs c ns rs w)(hl:du l)(hn:ns<1000000): Ef Eb 122 #[M (Z ⟨gs,0,X⟩),E I k,EZ (I6 l)] w fun e w'=>e=Eg (Et #[])/\E5 lo hi g gc gq gt gs c (ns+1) rs w'/\Ew lo hi w w':=by have kP:=J S;have HH:=J (show hi<=w.heap.size by obtain⟨_,_,_,KS,_⟩:=S.fU;have:=S.his;have:=KS.lt;omega);have vZ:=J<|show lo<=gs from Ez S.ct S.his;have IR:=J Th;have CP:=J<|fun W=>Eb6 l W hl;have hsz:Ec ((I6 l).size=14):=J<|pd l;have hone:=J<|Hk l;clear hl S;obtain⟨mv,hmv⟩:=En (I6 l);rw[<-hmv] at hsz hone CP⊢;clear hmv;go_enter Tryz.func122,Tryz.ntmps122;go_wp2_with (((with_reducible refine XH 222 ?_);(with_reducible refine ZR (g:=w.heap.size) AB ?_ ?_ (J (D.new w mv 222)) ?_ ?_);(·exact Ei O);(·exact⟨O,O⟩);(·exact hsz.out)));have b1:=Er w (EJ mv 222);generalize w.alloc (EJ mv 222)=w1 at*;refine(CP.out _).mono ?_;rintro e w2 ⟨A,n,cp,x,xs,rfl,hxl,hrow,hnm,b2⟩;replace b2:=b1.trans (b2.mono b1.size);clear b1;go_wp2_with fail;refine(EbL A xs n cp _ hxl hrow hnm).mono ?_;rintro e w3 ⟨⟨A',n',c',x',rfl⟩,b3⟩;replace b3:=b2.trans (b3.mono b2.size);clear b2 hxl hrow hnm CP;have S3:=kP.out.V b3;obtain⟨sv,rv,sc,KS,OS,OR⟩:=S3.fU;obtain⟨A0,c0,rfl,hnil⟩:=Xs OS;have MM:=J<|Ew.EA (lo:=lo) (hi:=hi) b3;have CB:=J S3.core;have HI3:=J<|Ez HH.out b3.size;replace KS:=J KS;replace OS:=J OS;replace OR:=J OR;clear S3 hnil b3;have cs1:w3.cell? ⟨gs,1,X⟩=Z (G A0 ns c0):=(D.cell KS.out 1).trans O;go_wp2_with (with_reducible refine I7 29 ?_);apply Eo;have KB:=J<|D.new w3 #[E I k,G A' n' c'] 264;have bl:=Er w3 (EJ #[E I k,G A' n' c'] 264);replace KS:=J<|KS.out.V bl;replace OS:=J<|EP OS.out fun _ _ h=>D.V h bl;replace OR:=J<|EP OR.out fun _ _ h=>D.V h bl;replace CB:=J<|CB.out.V bl;replace MM:=J<|MM.out.trans (Ew.EA bl);replace HI3:=J<|Ez HI3.out bl.size;clear cs1 bl;generalize w3.alloc (EJ #[E I k,G A' n' c'] 264)=w4 at*;generalize w3.heap.size=gb at*;obtain⟨A7,c7,w7,hrun,hown,hgr,-,-⟩:=dX (P:=Eb) w4 hi hi 39 39 264 IR.out.choose _ 2 32 Tryz.underlying39 IR.out.choose_spec.1 IR.out.choose_spec.2.1 IR.out.choose_spec.2.2.1 IR.out.choose_spec.2.2.2 rfl A0 c0 ns sc.l OS.out ⟨gb,0,X⟩ 1 1 [E I k,G A' n' c'] O (fun j Y3 hu=>by rw[show(⟨gb,0,X⟩:Eu).add j=⟨gb,j,X⟩ from Xw];rw[D.cell KB.out,OE];exact hu) dx (fun _=>U) Ot U HI3.out (E7 _);go_wp2_with ((with_reducible refine It 29 ?_);(refine Jr (Ei O) (Ua O O O hrun) ?_);refine Ev.mk ?_);apply Eo;have keep: ∀g2 c2 S2,S2≠264->D w4 g2 c2 S2->D w7 g2 c2 S2:=fun g2 c2 S2 hS k2=>X1 hgr k2 hS;replace KS:=J<|keep _ _ _ Ea KS.out;replace OR:=J<|EP OR.out fun g2 c2 h2=>keep _ _ _ Ea h2;replace CB:=J<|CB.out.via (fun k2 c2 S hS h2=>keep _ _ _ X3 h2) ((hgr.2.1 HI3.out).mono (by exact kP.out.ct));replace MM:=J<|MM.out.trans (Ew.S6 hgr Ea HI3.out);replace OS:=J hown;clear keep hgr hown hrun KB HI3;have cs1:w7.cell? ⟨gs,1,X⟩=Z (G A0 ns c0):=(D.cell KS.out 1).trans O;have ff:w7.frozen? ⟨gs,1,X⟩=B:=D.JX KS.out 1;go_wp2_with fail;go_end0;have kk:=Ebz KS.out (G A7 (ns+1) c7);have S2:=kP.out;refine⟨O,⟨CB.out.via (fun k2 c2 S hS h2=>h2.other gs 1 _ (dw h2 KS.out X3)) (S_ vZ.out _),S2.hc,S2.hq,S2.ht,S2.ct,S2.his,G A7 (ns+1) c7,rv,⟨sc.l++[E I k,G A' n' c'],fun Y3 hu=>by rcases XM.1 hu with hu|hu;(·exact sc.one Y3 hu);(·simp at hu;rcases hu with rfl|rfl<;>rfl)⟩,kk,EP OS.out (fun g2 c2 h2=>h2.other gs 1 _ (dw h2 KS.out Ea)),EP OR.out (fun g2 c2 h2=>h2.other gs 1 _ (dw h2 KS.out Ea))⟩,MM.out.trans (Ew.setCell KS.out Ea vZ.out 1 _)⟩
theorem E5.IB{g:Nat->Y}(S:E5 lo hi g gc gq gt gs c ns rs w):w.cell? ⟨gs,0,X⟩=Z (M (Z ⟨gc,0,X⟩)):=by obtain⟨sv,rv,sc,KS,-,-⟩:=S.fU;exact(D.cell KS 0).trans O
def coreC(p:List Y)(c:Ey)(gq gt:Nat)(k:Nat):Option (List Y):=match k with
 |0=>Z p
 |1=>Z c.tok.v
 |2=>Z [M (Z ⟨gq,0,X⟩)]
 |6=>Z [M (Z ⟨gt,0,X⟩)]
 |7=>Z [E I c.samples]
 |8=>Z [E I c.beyond]
 |9=>Z [E I c.mode]
 |10=>Z c.Em.v
 |11=>Z c.pt.v
 |_=>X
theorem JE.cell{g:Nat->Y}(C:JE lo g gc gq gt c w)(k:Nat){old:List Y}(ho:coreC (EG 56 g).toList c gq gt k=Z old)(j:Nat)(hj:j<old.length):w.cell? ⟨gc,kL k+j,X⟩=old[j]?:=by
 obtain⟨d0,d1,d2,hd,KG,o0,o1,o2,-,-⟩:=C.Ek
 have hk:k<13:=by
  rcases JY k 13 with h|h;·exact h
  ·unfold coreC at ho;split at ho<;>first|omega|cases ho
 refine Ka KG o0 o1 o2 k hk ?_ j hj;unfold coreC at ho;split at ho<;>first|exact ho|cases ho
theorem Kd(s:Int)(w:H):Ef Eb 70 #[E I s] w fun e w'=>e=Eg (EU (decide (1<=s/\s<=3)))/\w=w':=by
 by_cases h1:1<=s
 ·by_cases h2:s<=3;·rw[IU (⟨h1,h2⟩:1<=s/\s<=3)];have t1:decide (1<=s)=EI:=IU h1;have t2:decide (s<=3)=EI:=IU h2;go_enter Tryz.func70,Tryz.ntmps70;go_wp2_with fail;go_ret;exact⟨O,O⟩
  ·rw[IJ (U: ¬(1<=s/\s<=3))];have t1:decide (1<=s)=EI:=IU h1;have t2:decide (s<=3)=B:=IJ h2;go_enter Tryz.func70,Tryz.ntmps70;exact Eli
 ·rw[IJ (U: ¬(1<=s/\s<=3))];have t1:decide (1<=s)=B:=IJ h1;go_enter Tryz.func70,Tryz.ntmps70;exact Eli
theorem Bf(lo hi:Nat)(g:Nat->Y)(gc gq gt gs:Nat)(c:Ey)(ns:Nat)(rs:List Rec)(l:List Int)(k:Int)(w:H)(S:E5 lo hi g gc gq gt gs c ns rs w)(hl:du l)(hn:ns<1000000): Ef Eb 141 #[M (Z ⟨gs,0,X⟩),E I k,EZ (I6 l)] w fun e w'=>e=Eg (Et #[])/\(∃m,m<=1/\E5 lo hi g gc gq gt gs c (ns+m) rs w')/\Ew lo hi w w':=by
 have kP:=J S;have TL:=J<|fun W (s:E5 lo hi g gc gq gt gs c ns rs W)=>vc lo hi g gc gq gt gs c ns rs l k W s hl hn;have hsz:Ec ((I6 l).size=14):=J<|pd l;have hone:=J<|Hk l;clear hl S;obtain⟨mv,hmv⟩:=En (I6 l);rw[<-hmv] at hsz hone TL⊢;clear hmv;go_enter Tryz.func141,Tryz.ntmps141;go_wp2_with fail;have KM:=J<|D.new w mv 222;have b1:=Er w (EJ mv 222);have S1:=J<|kP.out.V b1;have MM:=J<|Ew.EA (lo:=lo) (hi:=hi) b1;clear b1;generalize w.alloc (EJ mv 222)=w1 at*;generalize w.heap.size=gm at*;have c0:=S1.out.IB;have c95:w1.cell? ⟨gc,95,X⟩=Z (M (Z ⟨gt,0,X⟩)):=S1.out.core.cell 6 rfl 0 Eh;refine(Kd k _).mono ?_;rintro e w2 ⟨rfl,rfl⟩;cases hlk:decide (1<=k/\k<=3) with
 |false=> go_wp2_with fail;go_end0;exact⟨O,⟨0,U,S1.out⟩,MM.out⟩
 |true=>
  go_wp2_with fail;refine(mG gt c.T k _ S1.out.core.tab S1.out.core.ok.T).mono ?_;rintro e w2 ⟨rfl,rfl⟩;cases hon:c.T.UV k with
  |false=> go_wp2_with fail;go_end0;exact⟨O,⟨0,U,S1.out⟩,MM.out⟩
  |true=> go_wp2_with (with_reducible refine wL AB KM ?_ (hn:=hsz.out));refine(TL.out _ S1.out).mono ?_;rintro e w2 ⟨rfl,S2,M2⟩;go_wp2_with fail;go_end0;exact⟨O,⟨1,U,S2⟩,MM.out.trans M2⟩
theorem pD(a b c d e f:Int):du [a,b,c,d,e,f,0,0,0,0,0,0,0,0]:=by exact Emw
theorem jq(lo hi:Nat)(g:Nat->Y)(gc gq gt gs:Nat)(c:Ey)(ns:Nat)(rs:List Rec)(k n:Int)(w:H)(S:E5 lo hi g gc gq gt gs c ns rs w)(hn:ns<1000000): Ef Eb 175 #[M (Z ⟨gs,0,X⟩),E I k,E I n] w fun e w'=>e=Eg (Et #[])/\E5 lo hi g gc gq gt gs c (ns+1) rs w'/\Ew lo hi w w':=by have BR:Tryz.prog.built 222 [(0,E I 131),(1,E I n)]=Z (I6 [131,n,0,0,0,0,0,0,0,0,0,0,0,0]):=Ed;have TL:=J<|fun W (s:E5 lo hi g gc gq gt gs c ns rs W)=>vc lo hi g gc gq gt gs c ns rs [131,n,0,0,0,0,0,0,0,0,0,0,0,0] k W s (pD _ _ _ _ _ _) hn;have S:=J S;generalize I6 [131,n,0,0,0,0,0,0,0,0,0,0,0,0]=rv at*;go_enter Tryz.func175,Tryz.ntmps175;go_wp2_with ((with_reducible refine It 9 ?_);refine I3 O 222 _ O rv BR ?_);refine(TL.out _ S.out).mono ?_;exact EnO
theorem pF(lo hi:Nat)(g:Nat->Y)(gc gq gt gs:Nat)(c:Ey)(ns:Nat)(rs:List Rec)(k who cd:Int)(w:H)(S:E5 lo hi g gc gq gt gs c ns rs w)(hn:ns<1000000): Ef Eb 99 #[M (Z ⟨gs,0,X⟩),E I k,E I who,E I cd] w fun e w'=>e=Eg (Et #[])/\(∃m,m<=1/\E5 lo hi g gc gq gt gs c (ns+m) rs w')/\Ew lo hi w w':=by have BR:Tryz.prog.built 222 [(0,E I 136),(3,E I who),(5,E I cd)]=Z (I6 [136,0,0,who,0,cd,0,0,0,0,0,0,0,0]):=Ed;have TL:=J<|fun W (s:E5 lo hi g gc gq gt gs c ns rs W)=>Bf lo hi g gc gq gt gs c ns rs [136,0,0,who,0,cd,0,0,0,0,0,0,0,0] k W s (pD _ _ _ _ _ _) hn;have S:=J S;generalize I6 [136,0,0,who,0,cd,0,0,0,0,0,0,0,0]=rv at*;go_enter Tryz.func99,Tryz.ntmps99;go_wp2_with ((with_reducible refine It 12 ?_);refine I3 O 222 _ O rv BR ?_);refine(TL.out _ S.out).mono ?_;exact EnO
theorem sd(lo hi:Nat)(g:Nat->Y)(gc gq gt gs:Nat)(c:Ey)(ns:Nat)(rs:List Rec)(k cd:Int)(w:H)(S:E5 lo hi g gc gq gt gs c ns rs w)(hl:rs.length<1000000): Ef Eb 84 #[M (Z ⟨gs,0,X⟩),E I k,E I cd] w fun e w'=>e=Eg (Et #[])/\E5 lo hi g gc gq gt gs c ns (rs++[⟨1,k,0,c.tok.e,cd,0⟩]) w'/\Ew lo hi w w':=by have S:=J S;go_enter Tryz.func84,Tryz.ntmps84;go_wp2_with fail;refine(Zp lo hi g gc gq gt gs c ns rs 1 k 0 cd 0 _ S.out hl).mono ?_;exact EnO
theorem ij(lo hi:Nat)(g:Nat->Y)(gc gq gt gs:Nat)(c:Ey)(ns:Nat)(rs:List Rec)(k n cd:Int)(w:H)(S:E5 lo hi g gc gq gt gs c ns rs w)(hn:ns<1000000)(hl:rs.length<1000000): Ef Eb 120 #[M (Z ⟨gs,0,X⟩),E I k,E I n,E I cd] w fun e w'=>e=Eg (Et #[])/\E5 lo hi g gc gq gt gs c (ns+1) (rs++[⟨7,k,n,c.tok.e,cd,0⟩]) w'/\Ew lo hi w w':=by have BR:Tryz.prog.built 222 [(0,E I 132),(1,E I n),(5,E I cd)]=Z (I6 [132,n,0,0,0,cd,0,0,0,0,0,0,0,0]):=Ed;have TL:=J<|fun W (s:E5 lo hi g gc gq gt gs c ns rs W)=>vc lo hi g gc gq gt gs c ns rs [132,n,0,0,0,cd,0,0,0,0,0,0,0,0] k W s (pD _ _ _ _ _ _) hn;have S:=J S;generalize I6 [132,n,0,0,0,cd,0,0,0,0,0,0,0,0]=rv at*;go_enter Tryz.func120,Tryz.ntmps120;go_wp2_with ((with_reducible refine It 12 ?_);refine I3 O 222 _ O rv BR ?_);refine(TL.out _ S.out).mono ?_;rintro e w2 ⟨rfl,S2,M2⟩;go_wp2_with fail;refine(Zp lo hi g gc gq gt gs c (ns+1) rs 7 k n cd 0 _ S2 hl).mono ?_;rintro e w3 ⟨rfl,S3,M3⟩;go_wp2_with fail;go_end0;exact⟨O,S3,M2.trans M3⟩
theorem Eb7(gq:Nat)(W:H):Us Eb (XY 460 236 (M (Z ⟨gq,0,X⟩)) "Len") W=Us Eb (do let v<-load ⟨gq,0,X⟩;pure (272,v)) W:=Ed
theorem kR(gq:Nat)(v:Y)(W:H)(h:W.cell? ⟨gq,0,X⟩=Z v):Us Eb (XY 460 236 (M (Z ⟨gq,0,X⟩)) "Len") W= .ok (272,v) W:=by rw[Eb7];simp[go_sem,h]
theorem Eb8(gq:Nat)(W:H):Us Eb (XY 460 236 (M (Z ⟨gq,0,X⟩)) "Less") W=Us Eb (do let v<-load ⟨gq,0,X⟩;pure (273,v)) W:=Ed
theorem Bg(gq:Nat)(v:Y)(W:H)(h:W.cell? ⟨gq,0,X⟩=Z v):Us Eb (XY 460 236 (M (Z ⟨gq,0,X⟩)) "Less") W= .ok (273,v) W:=by rw[Eb8];simp[go_sem,h]
theorem Eb9(gq:Nat)(W:H):Us Eb (XY 460 236 (M (Z ⟨gq,0,X⟩)) "Swap") W=Us Eb (do let v<-load ⟨gq,0,X⟩;pure (274,v)) W:=Ed
theorem pG(gq:Nat)(v:Y)(W:H)(h:W.cell? ⟨gq,0,X⟩=Z v):Us Eb (XY 460 236 (M (Z ⟨gq,0,X⟩)) "Swap") W= .ok (274,v) W:=by rw[Eb9];simp[go_sem,h]
theorem E3.cell(h:E3 g w w')(hne:g2≠g)(hl:g2<w.heap.size)(i:Nat):w'.cell? ⟨g2,i,X⟩=w.cell? ⟨g2,i,X⟩:=by unfold jo;rw[h.keep g2 hne hl]
theorem sf{v:Y}(h:w.cell? ⟨g,i,X⟩=Z v):g<w.heap.size:=by
 rcases JY g w.heap.size with k|k;·exact k
 ·unfold jo at h;rw[gQ k] at h;cases h
theorem Eb_(gq g cap:Nat)(a:One)(rest:List Y)(w:H)(HC:w.cell? ⟨gq,0,X⟩=Z (G (Z ⟨g,0,X⟩) 1 cap))(K:Ln w g [a] rest)(hne:gq≠g): Ef Eb 188 #[.iface 236 (M (Z ⟨gq,0,X⟩)),E I 0] w fun e w'=>e=Eg (Et #[])/\(∃L',L'.Perm [a]/\Ln w' g L' rest)/\E3 g w w':=by exact ElW
theorem EcE(gq g cap:Nat)(a b:One)(rest:List Y)(w:H)(HC:w.cell? ⟨gq,0,X⟩=Z (G (Z ⟨g,0,X⟩) 2 cap))(K:Ln w g [a,b] rest)(hne:gq≠g): Ef Eb 188 #[.iface 236 (M (Z ⟨gq,0,X⟩)),E I 0] w fun e w'=>e=Eg (Et #[])/\(∃L',L'.Perm [a,b]/\Ln w' g L' rest)/\E3 g w w':=by exact ElW
theorem EcI(gq g cap:Nat)(a b d:One)(rest:List Y)(w:H)(HC:w.cell? ⟨gq,0,X⟩=Z (G (Z ⟨g,0,X⟩) 3 cap))(K:Ln w g [a,b,d] rest)(hne:gq≠g): Ef Eb 188 #[.iface 236 (M (Z ⟨gq,0,X⟩)),E I 0] w fun e w'=>e=Eg (Et #[])/\(∃L',L'.Perm [a,b,d]/\Ln w' g L' rest)/\E3 g w w':=by exact ElW
theorem EcJ(gq g cap:Nat)(a b:One)(rest:List Y)(w:H)(HC:w.cell? ⟨gq,0,X⟩=Z (G (Z ⟨g,0,X⟩) 2 cap))(K:Ln w g [a,b] rest)(hne:gq≠g): Ef Eb 188 #[.iface 236 (M (Z ⟨gq,0,X⟩)),E I 1] w fun e w'=>e=Eg (Et #[])/\(∃L',L'.Perm [a,b]/\Ln w' g L' rest)/\E3 g w w':=by
 have K:=J K;have HC:=J HC;have Jb:=J hne;clear hne;have Kf: ∀(args:Array Y) (W:H),(Jd 273 args).run Eb W= .ok (.enter 273 args) W:=fun _ _=>Ed;have kS: ∀(args:Array Y) (W:H),(Jd 274 args).run Eb W= .ok (.enter 274 args) W:=fun _ _=>Ed;have pH:=Bg gq _ w HC.out;have C1:Ef Eb 273 #[G (Z ⟨g,0,X⟩) 2 cap,E I 1,E I 0] w _:=jJ g [a,b] rest 2 cap 1 0 b a O O O w K.out;replace C1:=J C1;go_enter Tryz.func188,Tryz.ntmps188;go_wp2_with fail;refine Ud 2 ?_;rw[Ij];go_wp2_with fail;refine C1.out.mono ?_;rintro e w1 ⟨rfl,b1⟩;replace K:Ec (Ln w1 g [a,b] rest):=EM K b1;have ON:=J<|E3.EA (g:=g) b1;have lq:=sf HC.out;replace HC:Ec (w1.cell? ⟨gq,0,X⟩=_):=J<|(ON.out.cell Jb.out lq 0).trans HC.out;clear b1 lq C1 pH;cases l1:less b a with
 |false=> go_wp2_with fail;go_end0;exact⟨O,⟨_,aT _,K.out⟩,ON.out⟩
 |true=> have fX:=pG gq _ w1 HC.out;have C2:Ef Eb 274 #[G (Z ⟨g,0,X⟩) 2 cap,E I 0,E I 1] w1 _:=dW g [a,b] rest 2 cap 0 1 a b O O O w1 K.out;replace C2:=J C2;clear l1;go_wp2_with fail;refine C2.out.mono ?_;rintro e w2 ⟨rfl,k2,o2⟩;replace K:Ec (Ln w2 g [b,a] rest):=J k2;replace ON:=J<|ON.out.trans o2;clear C2 fX k2 o2;go_wp2_with fail;rw[Ij];go_wp2_with fail;go_end0;exact⟨O,⟨_,aV _ _ _,K.out⟩,ON.out⟩
theorem EcO(gq g cap:Nat)(a b d:One)(rest:List Y)(w:H)(HC:w.cell? ⟨gq,0,X⟩=Z (G (Z ⟨g,0,X⟩) 3 cap))(K:Ln w g [a,b,d] rest)(hne:gq≠g): Ef Eb 188 #[.iface 236 (M (Z ⟨gq,0,X⟩)),E I 1] w fun e w'=>e=Eg (Et #[])/\(∃L',L'.Perm [a,b,d]/\Ln w' g L' rest)/\E3 g w w':=by
 have K:=J K;have HC:=J HC;have Jb:=J hne;clear hne;have Kf: ∀(args:Array Y) (W:H),(Jd 273 args).run Eb W= .ok (.enter 273 args) W:=fun _ _=>Ed;have kS: ∀(args:Array Y) (W:H),(Jd 274 args).run Eb W= .ok (.enter 274 args) W:=fun _ _=>Ed;have pH:=Bg gq _ w HC.out;have C1:Ef Eb 273 #[G (Z ⟨g,0,X⟩) 3 cap,E I 1,E I 0] w _:=jJ g [a,b,d] rest 3 cap 1 0 b a O O O w K.out;replace C1:=J C1;go_enter Tryz.func188,Tryz.ntmps188;go_wp2_with fail;refine Ud 2 ?_;rw[Ij];go_wp2_with fail;refine C1.out.mono ?_;rintro e w1 ⟨rfl,b1⟩;replace K:Ec (Ln w1 g [a,b,d] rest):=EM K b1;have ON:=J<|E3.EA (g:=g) b1;have lq:=sf HC.out;replace HC:Ec (w1.cell? ⟨gq,0,X⟩=_):=J<|(ON.out.cell Jb.out lq 0).trans HC.out;clear b1 lq C1 pH;cases l1:less b a with
 |false=> go_wp2_with fail;go_end0;exact⟨O,⟨_,aT _,K.out⟩,ON.out⟩
 |true=> have fX:=pG gq _ w1 HC.out;have C2:Ef Eb 274 #[G (Z ⟨g,0,X⟩) 3 cap,E I 0,E I 1] w1 _:=dW g [a,b,d] rest 3 cap 0 1 a b O O O w1 K.out;replace C2:=J C2;clear l1;go_wp2_with fail;refine C2.out.mono ?_;rintro e w2 ⟨rfl,k2,o2⟩;replace K:Ec (Ln w2 g [b,a,d] rest):=J k2;replace ON:=J<|ON.out.trans o2;clear C2 fX k2 o2;go_wp2_with fail;rw[Ij];go_wp2_with fail;go_end0;exact⟨O,⟨_,aV _ _ _,K.out⟩,ON.out⟩
theorem EcU(gq g cap:Nat)(a b d:One)(rest:List Y)(w:H)(HC:w.cell? ⟨gq,0,X⟩=Z (G (Z ⟨g,0,X⟩) 3 cap))(K:Ln w g [a,b,d] rest)(hne:gq≠g): Ef Eb 188 #[.iface 236 (M (Z ⟨gq,0,X⟩)),E I 2] w fun e w'=>e=Eg (Et #[])/\(∃L',L'.Perm [a,b,d]/\Ln w' g L' rest)/\E3 g w w':=by
 have K:=J K;have HC:=J HC;have Jb:=J hne;clear hne;have Kf: ∀(args:Array Y) (W:H),(Jd 273 args).run Eb W= .ok (.enter 273 args) W:=fun _ _=>Ed;have kS: ∀(args:Array Y) (W:H),(Jd 274 args).run Eb W= .ok (.enter 274 args) W:=fun _ _=>Ed;have pH:=Bg gq _ w HC.out;have C1:Ef Eb 273 #[G (Z ⟨g,0,X⟩) 3 cap,E I 2,E I 0] w _:=jJ g [a,b,d] rest 3 cap 2 0 d a O O O w K.out;replace C1:=J C1;go_enter Tryz.func188,Tryz.ntmps188;go_wp2_with fail;refine Ud 2 ?_;rw[Ij];go_wp2_with fail;refine C1.out.mono ?_;rintro e w1 ⟨rfl,b1⟩;replace K:Ec (Ln w1 g [a,b,d] rest):=EM K b1;have ON:=J<|E3.EA (g:=g) b1;have lq:=sf HC.out;replace HC:Ec (w1.cell? ⟨gq,0,X⟩=_):=J<|(ON.out.cell Jb.out lq 0).trans HC.out;clear b1 lq C1 pH;cases l1:less d a with
 |false=> go_wp2_with fail;go_end0;exact⟨O,⟨_,aT _,K.out⟩,ON.out⟩
 |true=> have fX:=pG gq _ w1 HC.out;have C2:Ef Eb 274 #[G (Z ⟨g,0,X⟩) 3 cap,E I 0,E I 2] w1 _:=dW g [a,b,d] rest 3 cap 0 2 a d O O O w1 K.out;replace C2:=J C2;clear l1;go_wp2_with fail;refine C2.out.mono ?_;rintro e w2 ⟨rfl,k2,o2⟩;replace K:Ec (Ln w2 g [d,b,a] rest):=J k2;replace ON:=J<|ON.out.trans o2;clear C2 fX k2 o2;go_wp2_with fail;rw[Ij];go_wp2_with fail;go_end0;exact⟨O,⟨_,(List.Perm.trans (aV b d [a]) (List.Perm.trans (vd b (aV a d [])) (aV a b [d]))),K.out⟩,ON.out⟩
theorem EcX(gq g cap:Nat)(a b:One)(rest:List Y)(w:H)(HC:w.cell? ⟨gq,0,X⟩=Z (G (Z ⟨g,0,X⟩) 2 cap))(K:Ln w g [a,b] rest)(hne:gq≠g): Ef Eb 187 #[.iface 236 (M (Z ⟨gq,0,X⟩)),E I 0,E I 1] w fun e w'=>(∃b,e=Eg (EU b))/\(∃L',L'.Perm [a,b]/\Ln w' g L' rest)/\E3 g w w':=by exact Ems
theorem EcZ(gq g cap:Nat)(a b d:One)(rest:List Y)(w:H)(HC:w.cell? ⟨gq,0,X⟩=Z (G (Z ⟨g,0,X⟩) 3 cap))(K:Ln w g [a,b,d] rest)(hne:gq≠g): Ef Eb 187 #[.iface 236 (M (Z ⟨gq,0,X⟩)),E I 0,E I 2] w fun e w'=>(∃b,e=Eg (EU b))/\(∃L',L'.Perm [a,b,d]/\Ln w' g L' rest)/\E3 g w w':=by
 have K:=J K;have HC:=J HC;have Jb:=J hne;clear hne;have Kf: ∀(args:Array Y) (W:H),(Jd 273 args).run Eb W= .ok (.enter 273 args) W:=fun _ _=>Ed;have kS: ∀(args:Array Y) (W:H),(Jd 274 args).run Eb W= .ok (.enter 274 args) W:=fun _ _=>Ed;have pH:=Bg gq _ w HC.out;have C1:Ef Eb 273 #[G (Z ⟨g,0,X⟩) 3 cap,E I 1,E I 0] w _:=jJ g [a,b,d] rest 3 cap 1 0 b a O O O w K.out;replace C1:=J C1;go_enter Tryz.func187,Tryz.ntmps187;go_wp2_with fail;refine Ud 2 ?_;rw[Ij];go_wp2_with fail;refine C1.out.mono ?_;rintro e w1 ⟨rfl,b1⟩;replace K:Ec (Ln w1 g [a,b,d] rest):=EM K b1;have ON:=J<|E3.EA (g:=g) b1;have lq:=sf HC.out;replace HC:Ec (w1.cell? ⟨gq,0,X⟩=_):=J<|(ON.out.cell Jb.out lq 0).trans HC.out;clear b1 lq C1 pH;cases l1:less b a with
 |false=> go_wp2_with fail;go_ret;exact⟨⟨_,O⟩,⟨_,aT _,K.out⟩,ON.out⟩
 |true=> have fX:=pG gq _ w1 HC.out;have C2:Ef Eb 274 #[G (Z ⟨g,0,X⟩) 3 cap,E I 0,E I 1] w1 _:=dW g [a,b,d] rest 3 cap 0 1 a b O O O w1 K.out;replace C2:=J C2;clear l1;go_wp2_with fail;refine C2.out.mono ?_;rintro e w2 ⟨rfl,k2,o2⟩;replace K:Ec (Ln w2 g [b,a,d] rest):=J k2;replace ON:=J<|ON.out.trans o2;clear C2 fX k2 o2;go_wp2_with fail;rw[Ij];go_wp2_with fail;go_ret;exact⟨⟨_,O⟩,⟨_,aV _ _ _,K.out⟩,ON.out⟩
theorem Eca(gq g cap:Nat)(a b d:One)(rest:List Y)(w:H)(HC:w.cell? ⟨gq,0,X⟩=Z (G (Z ⟨g,0,X⟩) 3 cap))(K:Ln w g [a,b,d] rest)(hne:gq≠g): Ef Eb 187 #[.iface 236 (M (Z ⟨gq,0,X⟩)),E I 1,E I 2] w fun e w'=>(∃b,e=Eg (EU b))/\(∃L',L'.Perm [a,b,d]/\Ln w' g L' rest)/\E3 g w w':=by exact Ems
theorem kV(gq g n cap:Nat)(L:List One)(rest:List Y)(x:One)(hx:L[n]?=Z x)(m k:Y)(w:H)(KQ:D w gq #[G (Z ⟨g,0,X⟩) (n+1) cap,m,k] 152)(K:Ln w g L rest)(hc:n+1<=cap)(hcm:cap<=9223372036854775807): Ef Eb 275 #[M (Z ⟨gq,0,X⟩)] w fun e w'=>e=Eg (.iface 171 (EZ x.v.toArray))/\D w' gq #[G (Z ⟨g,0,X⟩) n cap,m,k] 152/\E3 gq w w':=by have cq:w.cell? ⟨gq,0,X⟩=Z (G (Z ⟨g,0,X⟩) (n+1) cap):=(D.cell KQ 0).trans O;have EX:=J<|Ln.ext (rest:=rest) n hx;have KK:Ec (D w g (IC L++rest).toArray 171):=J K;have KQ:=J KQ;have hsz:Ec (x.v.toArray.size=5):=J O;have hon:=J<|One.one x;clear K hx;generalize x.v.toArray=xv at*;go_enter Tryz.func275,Tryz.ntmps275;go_wp2_with (with_reducible first|refine wM (off:=n*5) (cs:=xv) bK KK ?_ (hn:=hsz.out) (he:=EX.out)|refine dS 171 ?_);apply Eo;generalize hW:Uz _ _=w1 at*;have KN:Ec (D w1 (w.heap.size) #[E I 0,E I 0,E I 0,E I 0,E Im 0] 171):=J (by subst hW;repeat (first|exact D.new _ _ _|exact D.new' _ _ _ Eh|refine D.alloc ?_ _));have b1:Ec (El w w1):=J Kg;clear hW;go_wp2_with (with_reducible refine wS (cs:=xv) bK KN (Ev.mk ?_) (hn:=hsz.out) (h1:=hon.out));apply Eo;replace KN:=J<|KN.out.setRow xv;replace b1:=J<|E2 (g:=w.heap.size) b1.out (E7 _) xv;generalize w1.setRow w.heap.size xv=w2 at*;replace KQ:=J<|KQ.out.V b1.out;have lq:=J<|D.lt KQ.out;clear cq;have cq:w2.cell? ⟨gq,0,X⟩=Z (G (Z ⟨g,0,X⟩) (n+1) cap):=(D.cell KQ.out 0).trans O;have ff:w2.frozen? ⟨gq,0,X⟩=B:=D.JX KQ.out 0;have ON:=J<|(E3.EA (g:=gq) b1.out).trans (J1 0 (G (Z ⟨g,0,X⟩) n cap));have KS:=J<|KQ.out.set 0 (G (Z ⟨g,0,X⟩) n cap);have KM:=J<|KN.out.other gq 0 (G (Z ⟨g,0,X⟩) n cap) (EW KN.out KQ.out Ea);go_wp2_with (with_reducible refine wL bK KM ?_ (hn:=hsz.out));go_ret;exact⟨O,KS.out,ON.out⟩
structure JZ(g h:Nat)(W w':H):Prop where
 size:W.heap.size<=w'.heap.size
 keep: ∀k,k≠g->k≠h->k<W.heap.size->w'.heap[k]?=W.heap[k]?
 bel: ∀lo,lo<=g->lo<=h->lo<=W.heap.size->Ik lo W w'
theorem JZ.Z1{h:Nat}(k:E3 g W w'):JZ g h W w':=⟨k.size,fun i h1 _ h3=>k.keep i h1 h3,fun lo h1 _ h3=>k.bel lo h1 h3⟩
theorem JZ.kW{h:Nat}(k:E3 h W w'):JZ g h W w':=⟨k.size,fun i _ h2 h3=>k.keep i h2 h3,fun lo _ h2 h3=>k.bel lo h2 h3⟩
theorem JZ.trans{h:Nat}{c:H}(k:JZ g h a b)(l:JZ g h b c):JZ g h a c:=
 ⟨Ez k.size l.size,fun i h1 h2 h3=>(l.keep i h1 h2 (Nat.lt_of_lt_of_le h3 k.size)).trans (k.keep i h1 h2 h3),fun lo h1 h2 h3=>(k.bel lo h1 h2 h3).trans (l.bel lo h1 h2 (Ez h3 k.size))⟩
theorem Ln.cut{x:One}{rest:List Y}(K:Ln W g (L++[x]) rest):Ln W g L (x.v++rest):=by unfold Ln at*;rw[show IC L++(x.v++rest)=IC (L++[x])++rest by simp[IC]];exact K
theorem kY{L':List One}{n:Nat}(h:L'.Perm L)(hn:L.length=n+1): ∃Zr x,L'=Zr++[x]/\Zr.length=n/\L'[n]?=Z x:=by
 have hl:L'.length=n+1:=by rw[h.length_eq,hn]
 refine⟨L'.take n,L'[n]' U,?_,Ji,J5 _⟩;rw[List.take_append_getElem,OY U]
theorem Ecb(gq g cap:Nat)(a:One)(rest:List Y)(m k:Y)(w:H)(KQ:D w gq #[G (Z ⟨g,0,X⟩) 1 cap,m,k] 152)(K:Ln w g [a] rest)(hc:1<=cap)(hcm:cap<=9223372036854775807): Ef Eb 143 #[.iface 236 (M (Z ⟨gq,0,X⟩)),E I 0] w fun e w'=>(∃v,e=Eg v)/\(∃L' x,(L'++[x]).Perm [a]/\L'.length=0/\Ln w' g L' (x.v++rest)/\D w' gq #[G (Z ⟨g,0,X⟩) 0 cap,m,k] 152)/\JZ g gq w w':=by have Jb:=J<|EW KQ K Ea;have K:=J K;have KQ:=J KQ;have HC:Ec (w.cell? ⟨gq,0,X⟩=Z (G (Z ⟨g,0,X⟩) 1 cap)):=J<|(D.cell KQ.out 0).trans O;have TT:Ec (JZ g gq w w):=J<|JZ.Z1 (E3.refl g w);have ao:=kR gq _ w HC.out;have nk: ∀(args:Array Y) (W:H),(Jd 272 args).run Eb W= .ok (.enter 272 args) W:=fun _ _=>Ed;have kS: ∀(args:Array Y) (W:H),(Jd 274 args).run Eb W= .ok (.enter 274 args) W:=fun _ _=>Ed;have vf: ∀(args:Array Y) (W:H),(Jd 275 args).run Eb W= .ok (.enter 275 args) W:=fun _ _=>Ed;have vg: ∀W,Us Eb (XY 460 236 (M (Z ⟨gq,0,X⟩)) "Pop") W= .ok (275,M (Z ⟨gq,0,X⟩)) W:=fun _=>Ed;go_enter Tryz.func143,Tryz.ntmps143;go_wp2_with fail;refine(dV _ 1 cap _).mono ?_;rintro e w0 ⟨rfl,rfl⟩;rw[show((1:Nat):Int)=1 from rfl];clear ao;obtain⟨L3,hp3,k3⟩: ∃L3:List One,L3.Perm [a]/\Ln w g L3 rest:=⟨_,aT _,K.out⟩;have HP:=J hp3;replace K:=J k3;clear hp3 k3;obtain⟨Zr,x,rfl,hl2,hx⟩:=kY (n:=0) HP.out O;have CP:=J<|kV gq g 0 cap _ rest x hx m k _ KQ.out K.out U hcm;exact ElH
theorem Ecc(gq g cap:Nat)(a b:One)(rest:List Y)(m k:Y)(w:H)(KQ:D w gq #[G (Z ⟨g,0,X⟩) 2 cap,m,k] 152)(K:Ln w g [a,b] rest)(hc:2<=cap)(hcm:cap<=9223372036854775807): Ef Eb 143 #[.iface 236 (M (Z ⟨gq,0,X⟩)),E I 0] w fun e w'=>(∃v,e=Eg v)/\(∃L' x,(L'++[x]).Perm [a,b]/\L'.length=1/\Ln w' g L' (x.v++rest)/\D w' gq #[G (Z ⟨g,0,X⟩) 1 cap,m,k] 152)/\JZ g gq w w':=by
 have Jb:=J<|EW KQ K Ea;have K:=J K;have KQ:=J KQ;have HC:Ec (w.cell? ⟨gq,0,X⟩=Z (G (Z ⟨g,0,X⟩) 2 cap)):=J<|(D.cell KQ.out 0).trans O;have TT:Ec (JZ g gq w w):=J<|JZ.Z1 (E3.refl g w);have ao:=kR gq _ w HC.out;have nk: ∀(args:Array Y) (W:H),(Jd 272 args).run Eb W= .ok (.enter 272 args) W:=fun _ _=>Ed;have kS: ∀(args:Array Y) (W:H),(Jd 274 args).run Eb W= .ok (.enter 274 args) W:=fun _ _=>Ed;have vf: ∀(args:Array Y) (W:H),(Jd 275 args).run Eb W= .ok (.enter 275 args) W:=fun _ _=>Ed;have vg: ∀W,Us Eb (XY 460 236 (M (Z ⟨gq,0,X⟩)) "Pop") W= .ok (275,M (Z ⟨gq,0,X⟩)) W:=fun _=>Ed;go_enter Tryz.func143,Tryz.ntmps143;go_wp2_with fail;refine(dV _ 2 cap _).mono ?_;rintro e w0 ⟨rfl,rfl⟩;rw[show((2:Nat):Int)=2 from rfl];clear ao;have fX:=pG gq _ w HC.out;have C2:Ef Eb 274 #[G (Z ⟨g,0,X⟩) 2 cap,E I 0,E I 1] w _:=dW g [a,b] rest 2 cap 0 1 a b O O O w K.out;replace C2:=J C2;go_wp2_with fail;refine C2.out.mono ?_;rintro e w2 ⟨rfl,k2,o2⟩;replace K:Ec (Ln w2 g [b,a] rest):=J k2;replace TT:=J<|TT.out.trans (JZ.Z1 o2);replace KQ:=J<|o2.Ek KQ.out Jb.out;clear fX C2 HC k2 o2;have HC:Ec (w2.cell? ⟨gq,0,X⟩=Z (G (Z ⟨g,0,X⟩) 2 cap)):=J<|(D.cell KQ.out 0).trans O;have HP:Ec (jr [b,a] [a,b]):=J<|aV _ _ _;go_wp2_with fail;refine(EcX gq g cap b a rest _ HC.out K.out Jb.out).mono ?_;rintro e w3 ⟨⟨b3,rfl⟩,⟨L3,hp3,k3⟩,o3⟩;replace K:=J k3;replace HP:=J<|hp3.trans HP.out;replace TT:=J<|TT.out.trans (JZ.Z1 o3);replace KQ:=J<|o3.Ek KQ.out Jb.out;clear HC k3 hp3 o3;cases b3 with
 |true=> obtain⟨Zr,x,rfl,hl2,hx⟩:=kY (n:=1) HP.out O;have CP:=J<|kV gq g 1 cap _ rest x hx m k _ KQ.out K.out U hcm;have HL2:=J hl2;clear hl2 hx;go_wp2_with fail;refine CP.out.mono ?_;rintro e w9 ⟨rfl,aq,o9⟩;replace TT:=J<|TT.out.trans (JZ.kW o9);replace K:=J<|o9.Ek K.out Jb.out.symm;go_wp2_with fail;go_ret;exact⟨⟨_,O⟩,⟨Zr,x,HP.out,HL2.out,Ln.cut K.out,aq⟩,TT.out⟩
 |false=>
  have HC:Ec (w3.cell? ⟨gq,0,X⟩=Z (G (Z ⟨g,0,X⟩) 2 cap)):=J<|(D.cell KQ.out 0).trans O;have hl3:L3.length=2:=HP.out.length_eq;match L3,hl3,K,HP with
  |[a,b],_,K,HP=> go_wp2_with fail;refine(EcE gq g cap a b rest _ HC.out K.out Jb.out).mono ?_;rintro e w4 ⟨rfl,⟨L4,Zs,k4⟩,o4⟩;replace K:=J k4;replace HP:=J<|Zs.trans HP.out;replace TT:=J<|TT.out.trans (JZ.Z1 o4);replace KQ:=J<|o4.Ek KQ.out Jb.out;clear HC k4 Zs o4;obtain⟨Zr,x,rfl,hl2,hx⟩:=kY (n:=1) HP.out O;have CP:=J<|kV gq g 1 cap _ rest x hx m k _ KQ.out K.out U hcm;have HL2:=J hl2;clear hl2 hx;go_wp2_with fail;refine CP.out.mono ?_;rintro e w9 ⟨rfl,aq,o9⟩;replace TT:=J<|TT.out.trans (JZ.kW o9);replace K:=J<|o9.Ek K.out Jb.out.symm;go_wp2_with fail;go_ret;exact⟨⟨_,O⟩,⟨Zr,x,HP.out,HL2.out,Ln.cut K.out,aq⟩,TT.out⟩
theorem Ecd(gq g cap:Nat)(a b:One)(rest:List Y)(m k:Y)(w:H)(KQ:D w gq #[G (Z ⟨g,0,X⟩) 2 cap,m,k] 152)(K:Ln w g [a,b] rest)(hc:2<=cap)(hcm:cap<=9223372036854775807): Ef Eb 143 #[.iface 236 (M (Z ⟨gq,0,X⟩)),E I 1] w fun e w'=>(∃v,e=Eg v)/\(∃L' x,(L'++[x]).Perm [a,b]/\L'.length=1/\Ln w' g L' (x.v++rest)/\D w' gq #[G (Z ⟨g,0,X⟩) 1 cap,m,k] 152)/\JZ g gq w w':=by have Jb:=J<|EW KQ K Ea;have K:=J K;have KQ:=J KQ;have HC:Ec (w.cell? ⟨gq,0,X⟩=Z (G (Z ⟨g,0,X⟩) 2 cap)):=J<|(D.cell KQ.out 0).trans O;have TT:Ec (JZ g gq w w):=J<|JZ.Z1 (E3.refl g w);have ao:=kR gq _ w HC.out;have nk: ∀(args:Array Y) (W:H),(Jd 272 args).run Eb W= .ok (.enter 272 args) W:=fun _ _=>Ed;have kS: ∀(args:Array Y) (W:H),(Jd 274 args).run Eb W= .ok (.enter 274 args) W:=fun _ _=>Ed;have vf: ∀(args:Array Y) (W:H),(Jd 275 args).run Eb W= .ok (.enter 275 args) W:=fun _ _=>Ed;have vg: ∀W,Us Eb (XY 460 236 (M (Z ⟨gq,0,X⟩)) "Pop") W= .ok (275,M (Z ⟨gq,0,X⟩)) W:=fun _=>Ed;go_enter Tryz.func143,Tryz.ntmps143;go_wp2_with fail;refine(dV _ 2 cap _).mono ?_;rintro e w0 ⟨rfl,rfl⟩;rw[show((2:Nat):Int)=2 from rfl];clear ao;obtain⟨L3,hp3,k3⟩: ∃L3:List One,L3.Perm [a,b]/\Ln w g L3 rest:=⟨_,aT _,K.out⟩;have HP:=J hp3;replace K:=J k3;clear hp3 k3;obtain⟨Zr,x,rfl,hl2,hx⟩:=kY (n:=1) HP.out O;have CP:=J<|kV gq g 1 cap _ rest x hx m k _ KQ.out K.out U hcm;exact ElH
theorem Ecf(gq g cap:Nat)(a b d:One)(rest:List Y)(m k:Y)(w:H)(KQ:D w gq #[G (Z ⟨g,0,X⟩) 3 cap,m,k] 152)(K:Ln w g [a,b,d] rest)(hc:3<=cap)(hcm:cap<=9223372036854775807): Ef Eb 143 #[.iface 236 (M (Z ⟨gq,0,X⟩)),E I 0] w fun e w'=>(∃v,e=Eg v)/\(∃L' x,(L'++[x]).Perm [a,b,d]/\L'.length=2/\Ln w' g L' (x.v++rest)/\D w' gq #[G (Z ⟨g,0,X⟩) 2 cap,m,k] 152)/\JZ g gq w w':=by
 have Jb:=J<|EW KQ K Ea;have K:=J K;have KQ:=J KQ;have HC:Ec (w.cell? ⟨gq,0,X⟩=Z (G (Z ⟨g,0,X⟩) 3 cap)):=J<|(D.cell KQ.out 0).trans O;have TT:Ec (JZ g gq w w):=J<|JZ.Z1 (E3.refl g w);have ao:=kR gq _ w HC.out;have nk: ∀(args:Array Y) (W:H),(Jd 272 args).run Eb W= .ok (.enter 272 args) W:=fun _ _=>Ed;have kS: ∀(args:Array Y) (W:H),(Jd 274 args).run Eb W= .ok (.enter 274 args) W:=fun _ _=>Ed;have vf: ∀(args:Array Y) (W:H),(Jd 275 args).run Eb W= .ok (.enter 275 args) W:=fun _ _=>Ed;have vg: ∀W,Us Eb (XY 460 236 (M (Z ⟨gq,0,X⟩)) "Pop") W= .ok (275,M (Z ⟨gq,0,X⟩)) W:=fun _=>Ed;go_enter Tryz.func143,Tryz.ntmps143;go_wp2_with fail;refine(dV _ 3 cap _).mono ?_;rintro e w0 ⟨rfl,rfl⟩;rw[show((3:Nat):Int)=3 from rfl];clear ao;have fX:=pG gq _ w HC.out;have C2:Ef Eb 274 #[G (Z ⟨g,0,X⟩) 3 cap,E I 0,E I 2] w _:=dW g [a,b,d] rest 3 cap 0 2 a d O O O w K.out;replace C2:=J C2;go_wp2_with fail;refine C2.out.mono ?_;rintro e w2 ⟨rfl,k2,o2⟩;replace K:Ec (Ln w2 g [d,b,a] rest):=J k2;replace TT:=J<|TT.out.trans (JZ.Z1 o2);replace KQ:=J<|o2.Ek KQ.out Jb.out;clear fX C2 HC k2 o2;have HC:Ec (w2.cell? ⟨gq,0,X⟩=Z (G (Z ⟨g,0,X⟩) 3 cap)):=J<|(D.cell KQ.out 0).trans O;have HP:Ec (jr [d,b,a] [a,b,d]):=J<|(List.Perm.trans (aV b d [a]) (List.Perm.trans (vd b (aV a d [])) (aV a b [d])));go_wp2_with fail;refine(EcZ gq g cap d b a rest _ HC.out K.out Jb.out).mono ?_;rintro e w3 ⟨⟨b3,rfl⟩,⟨L3,hp3,k3⟩,o3⟩;replace K:=J k3;replace HP:=J<|hp3.trans HP.out;replace TT:=J<|TT.out.trans (JZ.Z1 o3);replace KQ:=J<|o3.Ek KQ.out Jb.out;clear HC k3 hp3 o3;cases b3 with
 |true=> obtain⟨Zr,x,rfl,hl2,hx⟩:=kY (n:=2) HP.out O;have CP:=J<|kV gq g 2 cap _ rest x hx m k _ KQ.out K.out U hcm;have HL2:=J hl2;clear hl2 hx;go_wp2_with fail;refine CP.out.mono ?_;rintro e w9 ⟨rfl,aq,o9⟩;replace TT:=J<|TT.out.trans (JZ.kW o9);replace K:=J<|o9.Ek K.out Jb.out.symm;go_wp2_with fail;go_ret;exact⟨⟨_,O⟩,⟨Zr,x,HP.out,HL2.out,Ln.cut K.out,aq⟩,TT.out⟩
 |false=>
  have HC:Ec (w3.cell? ⟨gq,0,X⟩=Z (G (Z ⟨g,0,X⟩) 3 cap)):=J<|(D.cell KQ.out 0).trans O;have hl3:L3.length=3:=HP.out.length_eq;match L3,hl3,K,HP with
  |[a,b,d],_,K,HP=> go_wp2_with fail;refine(EcI gq g cap a b d rest _ HC.out K.out Jb.out).mono ?_;rintro e w4 ⟨rfl,⟨L4,Zs,k4⟩,o4⟩;replace K:=J k4;replace HP:=J<|Zs.trans HP.out;replace TT:=J<|TT.out.trans (JZ.Z1 o4);replace KQ:=J<|o4.Ek KQ.out Jb.out;clear HC k4 Zs o4;obtain⟨Zr,x,rfl,hl2,hx⟩:=kY (n:=2) HP.out O;have CP:=J<|kV gq g 2 cap _ rest x hx m k _ KQ.out K.out U hcm;have HL2:=J hl2;clear hl2 hx;go_wp2_with fail;refine CP.out.mono ?_;rintro e w9 ⟨rfl,aq,o9⟩;replace TT:=J<|TT.out.trans (JZ.kW o9);replace K:=J<|o9.Ek K.out Jb.out.symm;go_wp2_with fail;go_ret;exact⟨⟨_,O⟩,⟨Zr,x,HP.out,HL2.out,Ln.cut K.out,aq⟩,TT.out⟩
theorem Ecg(gq g cap:Nat)(a b d:One)(rest:List Y)(m k:Y)(w:H)(KQ:D w gq #[G (Z ⟨g,0,X⟩) 3 cap,m,k] 152)(K:Ln w g [a,b,d] rest)(hc:3<=cap)(hcm:cap<=9223372036854775807): Ef Eb 143 #[.iface 236 (M (Z ⟨gq,0,X⟩)),E I 1] w fun e w'=>(∃v,e=Eg v)/\(∃L' x,(L'++[x]).Perm [a,b,d]/\L'.length=2/\Ln w' g L' (x.v++rest)/\D w' gq #[G (Z ⟨g,0,X⟩) 2 cap,m,k] 152)/\JZ g gq w w':=by
 have Jb:=J<|EW KQ K Ea;have K:=J K;have KQ:=J KQ;have HC:Ec (w.cell? ⟨gq,0,X⟩=Z (G (Z ⟨g,0,X⟩) 3 cap)):=J<|(D.cell KQ.out 0).trans O;have TT:Ec (JZ g gq w w):=J<|JZ.Z1 (E3.refl g w);have ao:=kR gq _ w HC.out;have nk: ∀(args:Array Y) (W:H),(Jd 272 args).run Eb W= .ok (.enter 272 args) W:=fun _ _=>Ed;have kS: ∀(args:Array Y) (W:H),(Jd 274 args).run Eb W= .ok (.enter 274 args) W:=fun _ _=>Ed;have vf: ∀(args:Array Y) (W:H),(Jd 275 args).run Eb W= .ok (.enter 275 args) W:=fun _ _=>Ed;have vg: ∀W,Us Eb (XY 460 236 (M (Z ⟨gq,0,X⟩)) "Pop") W= .ok (275,M (Z ⟨gq,0,X⟩)) W:=fun _=>Ed;go_enter Tryz.func143,Tryz.ntmps143;go_wp2_with fail;refine(dV _ 3 cap _).mono ?_;rintro e w0 ⟨rfl,rfl⟩;rw[show((3:Nat):Int)=3 from rfl];clear ao;have fX:=pG gq _ w HC.out;have C2:Ef Eb 274 #[G (Z ⟨g,0,X⟩) 3 cap,E I 1,E I 2] w _:=dW g [a,b,d] rest 3 cap 1 2 b d O O O w K.out;replace C2:=J C2;go_wp2_with fail;refine C2.out.mono ?_;rintro e w2 ⟨rfl,k2,o2⟩;replace K:Ec (Ln w2 g [a,d,b] rest):=J k2;replace TT:=J<|TT.out.trans (JZ.Z1 o2);replace KQ:=J<|o2.Ek KQ.out Jb.out;clear fX C2 HC k2 o2;have HC:Ec (w2.cell? ⟨gq,0,X⟩=Z (G (Z ⟨g,0,X⟩) 3 cap)):=J<|(D.cell KQ.out 0).trans O;have HP:Ec (jr [a,d,b] [a,b,d]):=J<|vd _ (aV _ _ _);go_wp2_with fail;refine(Eca gq g cap a d b rest _ HC.out K.out Jb.out).mono ?_;rintro e w3 ⟨⟨b3,rfl⟩,⟨L3,hp3,k3⟩,o3⟩;replace K:=J k3;replace HP:=J<|hp3.trans HP.out;replace TT:=J<|TT.out.trans (JZ.Z1 o3);replace KQ:=J<|o3.Ek KQ.out Jb.out;clear HC k3 hp3 o3;cases b3 with
 |true=> obtain⟨Zr,x,rfl,hl2,hx⟩:=kY (n:=2) HP.out O;have CP:=J<|kV gq g 2 cap _ rest x hx m k _ KQ.out K.out U hcm;have HL2:=J hl2;clear hl2 hx;go_wp2_with fail;refine CP.out.mono ?_;rintro e w9 ⟨rfl,aq,o9⟩;replace TT:=J<|TT.out.trans (JZ.kW o9);replace K:=J<|o9.Ek K.out Jb.out.symm;go_wp2_with fail;go_ret;exact⟨⟨_,O⟩,⟨Zr,x,HP.out,HL2.out,Ln.cut K.out,aq⟩,TT.out⟩
 |false=>
  have HC:Ec (w3.cell? ⟨gq,0,X⟩=Z (G (Z ⟨g,0,X⟩) 3 cap)):=J<|(D.cell KQ.out 0).trans O;have hl3:L3.length=3:=HP.out.length_eq;match L3,hl3,K,HP with
  |[a,b,d],_,K,HP=> go_wp2_with fail;refine(EcO gq g cap a b d rest _ HC.out K.out Jb.out).mono ?_;rintro e w4 ⟨rfl,⟨L4,Zs,k4⟩,o4⟩;replace K:=J k4;replace HP:=J<|Zs.trans HP.out;replace TT:=J<|TT.out.trans (JZ.Z1 o4);replace KQ:=J<|o4.Ek KQ.out Jb.out;clear HC k4 Zs o4;obtain⟨Zr,x,rfl,hl2,hx⟩:=kY (n:=2) HP.out O;have CP:=J<|kV gq g 2 cap _ rest x hx m k _ KQ.out K.out U hcm;have HL2:=J hl2;clear hl2 hx;go_wp2_with fail;refine CP.out.mono ?_;rintro e w9 ⟨rfl,aq,o9⟩;replace TT:=J<|TT.out.trans (JZ.kW o9);replace K:=J<|o9.Ek K.out Jb.out.symm;go_wp2_with fail;go_ret;exact⟨⟨_,O⟩,⟨Zr,x,HP.out,HL2.out,Ln.cut K.out,aq⟩,TT.out⟩
theorem Ech(gq g cap:Nat)(a b d:One)(rest:List Y)(m k:Y)(w:H)(KQ:D w gq #[G (Z ⟨g,0,X⟩) 3 cap,m,k] 152)(K:Ln w g [a,b,d] rest)(hc:3<=cap)(hcm:cap<=9223372036854775807): Ef Eb 143 #[.iface 236 (M (Z ⟨gq,0,X⟩)),E I 2] w fun e w'=>(∃v,e=Eg v)/\(∃L' x,(L'++[x]).Perm [a,b,d]/\L'.length=2/\Ln w' g L' (x.v++rest)/\D w' gq #[G (Z ⟨g,0,X⟩) 2 cap,m,k] 152)/\JZ g gq w w':=by have Jb:=J<|EW KQ K Ea;have K:=J K;have KQ:=J KQ;have HC:Ec (w.cell? ⟨gq,0,X⟩=Z (G (Z ⟨g,0,X⟩) 3 cap)):=J<|(D.cell KQ.out 0).trans O;have TT:Ec (JZ g gq w w):=J<|JZ.Z1 (E3.refl g w);have ao:=kR gq _ w HC.out;have nk: ∀(args:Array Y) (W:H),(Jd 272 args).run Eb W= .ok (.enter 272 args) W:=fun _ _=>Ed;have kS: ∀(args:Array Y) (W:H),(Jd 274 args).run Eb W= .ok (.enter 274 args) W:=fun _ _=>Ed;have vf: ∀(args:Array Y) (W:H),(Jd 275 args).run Eb W= .ok (.enter 275 args) W:=fun _ _=>Ed;have vg: ∀W,Us Eb (XY 460 236 (M (Z ⟨gq,0,X⟩)) "Pop") W= .ok (275,M (Z ⟨gq,0,X⟩)) W:=fun _=>Ed;go_enter Tryz.func143,Tryz.ntmps143;go_wp2_with fail;refine(dV _ 3 cap _).mono ?_;rintro e w0 ⟨rfl,rfl⟩;rw[show((3:Nat):Int)=3 from rfl];clear ao;obtain⟨L3,hp3,k3⟩: ∃L3:List One,L3.Perm [a,b,d]/\Ln w g L3 rest:=⟨_,aT _,K.out⟩;have HP:=J hp3;replace K:=J k3;clear hp3 k3;obtain⟨Zr,x,rfl,hl2,hx⟩:=kY (n:=2) HP.out O;have CP:=J<|kV gq g 2 cap _ rest x hx m k _ KQ.out K.out U hcm;exact ElH
end Go.Proofs.YtclmichaaiohjaaGreatDoor
