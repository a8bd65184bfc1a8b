import Derived.Test.YtclmichaaiohjaaGreatDoorR10
import Derived.Deep.Slices
import Derived.Lib.BytesEntry
import Derived.OrdersIn
import Derived.RangeFuncLeaves
import Derived.RangeFuncNested
set_option maxRecDepth 100000
set_option linter.unusedVariables false
set_option linter.unusedSimpArgs false
set_option maxHeartbeats 6400000
namespace Go.Proofs.YtclmichaaiohjaaGreatDoor
open RowKit
open And renaming intro->Jm
open _root_.Array renaming getElem?_eq_none->g_,getElem?_eq_some_iff->Jt,getElem?_eq_getElem->dY,replicate->Zn
open Bool renaming true->u,false->B,and_eq_true->Oc,or_eq_true->kI
open Classical renaming byContradiction->jZ
open Go renaming bits->Ix,World->M,Calls->Ef,TypeId->EC,Value->V,Addr->Eu,Program->Js,bodyPost_ret->ET,results->Xa,Act->E6,Oper->EN,yielded->Jd,execOp->Iw,wpList->IZ,undef->I6,mem_ready->Uo,getD_set_ne->XL,Operand->UH,below_setRow->E3,wpQuiet_nil->IM,wp_loop_rounds->O9,rounds_succ->Ic,Ending->Ut,wpListIn->aD
open Act renaming put->In
open Code renaming region->ZP
open DataW renaming trod->ZN
open Ending renaming returned->Eg
open Fence renaming wide->X1
open IntKind renaming bits->j7,signed->j8,i64->I,u8->IP
open Lib renaming hid->O
open Obj renaming cells->EJ
open Oper renaming wp->ah
open Go.Proofs.Tryz renaming prog->EU,underlying23->bR
open Region renaming wanted->I_,binds->Oq,ready->d_
open Result renaming andThen_ok->Uf
open RowKit renaming Hid->Ea,intOf->Iv
open RowKit.Below renaming refl->IE,alloc->JH,setCell->JK,size->XJ
open Sem renaming run_bind->Ud,run_pure->UU
open Value renaming bool->Ec,int->E,agg->EZ,slice->EI,pointer->Y,oneCell'->OC
open World renaming alloc->UN,ownsRow_nil->cJ,ownsRow_lit->pE,ownsRow->cK
open Int renaming toNat_natCast->mo,eq_ofNat_of_zero_le->ji,le_refl->ZB
open List renaming mem_of_mem_take->fK,eq_nil_of_length_eq_zero->aN,getElem?_eq_getElem->Ok,range->UA,all_eq_true->UY,mem_range->Z6,drop_of_length_le->mq,eq_nil_iff_forall_not_mem->mr,drop_eq_getElem_cons->kJ,length_filter_le->mA,mem_cons_of_mem->ai,mem_cons_self->hO,getElem?_eq_some_iff->UG,mem_iff_getElem?->aP,take_append_drop->hU,take_succ_cons->Ir,length_take->aj,take_of_length_le->UZ,getD_eq_getElem?_getD->UK,map_cons->UL,map_nil->Xu,take_zero->Im,mem_map->da,getElem?_toArray->Og,setIfInBounds_toArray->Ip,length_append->I2,length_cons->ZV,mem_cons->Ui,append_assoc->U9,set_cons_succ->Ig,set_cons_zero->Ih,mem_append->XP,map_append->ku,nil_append->Z8,length_drop->mV,not_mem_nil->UP,drop_succ_cons->IL,drop_zero->IG,append_nil->fc,take_add_one->nm,all_cons->ar,mem_of_getElem?->dw,mem_append_left->jF,mem_singleton->ft
open List.cons renaming injEq->cG
open Nat renaming lt_or_ge->JG,le_trans->EA,le_refl->E7,strongRecOn->mx,zero_add->JV,zero_le->bY,add_assoc->js,le_of_lt->ax,le_of_eq->OQ
open Ne renaming symm->Zr
open Option renaming some->D,none->Z
open Option.some renaming inj->fI
variable{lo gc gq gt m n base id:Nat}{g:Nat->V}{c c1 c':EB}{W w0:M}{k code:Int}{a new:List Rec}{l:List EN}{o o0:EN}{t t1:EG}{rs rs':Int->List Int}{Y9:Type}{P:Js}{cs:List V}{F:Fence}{K:E6->M->Prop}{a0:E6}
theorem xg:Od EU 124 #[Y Z,EI Z 0 0,EI Z 0 0]:=by exact El7
theorem xh(gc:Nat):Tryz.prog.built 124 [(0,Y (D ⟨gc,0,Z⟩))]=D #[Y (D ⟨gc,0,Z⟩),EI Z 0 0,EI Z 0 0]:=Ed
theorem Mg:IW EU 74 2:=⟨⟨_,Tryz.underlying74,U⟩,Ed⟩
theorem xi{hi:Nat}{gs:Nat}(C:JO lo g gc gq gt c W)(K:H W gs #[Y (D ⟨gc,0,Z⟩),EI Z 0 0,EI Z 0 0] 124)(hc:gc<hi)(hq:gq<hi)(ht:gt<hi)(hl:lo<=hi)(hs:hi<=gs):E_ lo hi g gc gq gt gs c 0 [] W:=
 ⟨C,hc,hq,ht,hl,hs,_,_,⟨[],fun _ h=>absurd h UP⟩,K,cJ _ _ _ _,cJ _ _ _ _⟩
theorem JO.lv(C:JO lo g gc gq gt c W):gc<W.heap.size/\gq<W.heap.size/\gt<W.heap.size/\lo<=W.heap.size:=by obtain⟨_,_,_,_,k,_⟩:=C.Ek;obtain⟨_,_,k2,_⟩:=C.Z2;have kt:H W gt c.T.v.toArray 163:=C.tab;exact⟨k.lt,k2.lt,kt.lt,EA C.lc (ax k.lt)⟩
def xj(lo hi:Nat)(g:Nat->V)(gc gq gt:Nat)(R:EB->Nat->List Rec->Prop)(w:M)(e:Ut)(w':M):Prop:=
 ∃(c':EB) (ns:Nat) (new:List Rec) (sv rv:V) (sc:sK) (hd:List Int),e=Eg (EZ (Jb (J8 c') sv rv hd).toArray)/\hd.length=32/\(∀x∈hd,0<=x/\x<=255)/\w'.ownsRow hi 264 2 sv ns sc.l/\w'.ownsRow hi 58 6 rv new.length (Uh new)/\JO lo g gc gq gt c' w'/\R c' ns new/\Ex lo hi w w'
theorem iV(act:List V)(sv rv:V)(hd:List Int)(h1:act.length=12)(h:hd.length=32):(Jb act sv rv hd).toArray.size=46:=by simp[Jb,h1,h]
theorem mI(c:EB)(A Y4:Option Eu)(n m d f:Nat)(hd:List Int):(Jb (J8 c) (EI A n d) (EI Y4 m f) hd).toArray.all (·.oneCell')=u:=by
 refine all_oneCell_toArray ?_;intro v hv;simp only[Jb,J8,XP,Ui,UP,or_false,da] at hv;rcases hv with hv|(rfl|rfl)|⟨x,-,rfl⟩;·exact EoW
 ·rfl
 ·rfl
 ·rfl
theorem xm(lo:Nat)(g:Nat->V)(gc gq gt:Nat)(c:EB)(w:M)(C:JO lo g gc gq gt c w): Ef EU 53 #[Y (D ⟨gc,0,Z⟩)] w fun e w'=>e=Eg (Ec u)/\w=w':=by have U7:w.cell? ⟨gc,95,Z⟩=D (Y (D ⟨gt,0,Z⟩)):=C.cell 6 rfl 0 Eh;go_enter Tryz.func53,Tryz.ntmps53;exact Els
theorem Egi(lo:Nat)(g:Nat->V)(gc gq gt:Nat)(c:EB)(w:M)(C:JO lo g gc gq gt c w): Ef EU 25 #[Y (D ⟨gc,0,Z⟩)] w (xj lo w.heap.size g gc gq gt (fun c2 ns new=>c2=c/\ns=0/\new=[]) w):=by
 have C0:=O C;have LT:=O C.lv;have BS:=O<|xh gc;clear C;go_enter Tryz.func25,Tryz.ntmps25;go_wp2_with (with_reducible refine I7 5 ?_);apply Eo;generalize hW:UN _ _=w1 at*;have cY:Ea (∃z:Array V,z.size=46/\H w1 (w.heap.size) z 43):=O (by subst hW;exact⟨_,U,by first|exact H.new _ _ _|exact H.new' _ _ _ Eh⟩);have b1:Ea (El w w1):=O (by subst hW;(repeat (first|exact IE _ _|(refine JH ?_ Iu _)|(refine JK ?_ Iu _))));clear hW;obtain⟨gz,hgz⟩:=En w.heap.size;obtain⟨hi,hhi⟩:=En w.heap.size;rw[<-hhi] at LT⊢;rw[<-hgz] at cY;rw[show(Y (D ⟨hi,0,Z⟩))=Y (D ⟨gz,0,Z⟩) by rw[hgz,hhi]];have HZ:=O (show hi<=gz/\w.heap.size<=gz/\hi=w.heap.size from X);have C1:=O<|C0.out.G b1.out;have LW:=O (show hi<=w1.heap.size from xn);have MM:=O<|Ex.Ew (lo:=lo) (hi:=hi) b1.out;clear b1 hgz hhi C0;have K0:=O<|H.new w1 #[Y Z,EI Z 0 0,EI Z 0 0] 124;have b2:=Ep w1 (EJ #[Y Z,EI Z 0 0,EI Z 0 0] 124);go_wp2_with (first|((with_reducible refine Is 5 ?_);refine I3 rfl 124 _ rfl #[Y (D ⟨gc,0,Z⟩),EI Z 0 0,EI Z 0 0] BS.out ?_)|(with_reducible refine wA xg ?_)|(with_reducible refine wS (cs:= #[Y (D ⟨gc,0,Z⟩),EI Z 0 0,EI Z 0 0]) vw K0 (Ev.mk ?_) (h1:=Us)));apply Eo;obtain⟨gs,hgs⟩:=En w1.heap.size;rw[<-hgs] at K0⊢;generalize w1.alloc (EJ #[Y Z,EI Z 0 0,EI Z 0 0] 124)=w2 at*;have KS:=O<|K0.out.setRow #[Y (D ⟨gc,0,Z⟩),EI Z 0 0,EI Z 0 0];have b3:=E3 (g:=gs) b2 (OQ hgs.symm) #[Y (D ⟨gc,0,Z⟩),EI Z 0 0,EI Z 0 0];generalize w2.setRow gs #[Y (D ⟨gc,0,Z⟩),EI Z 0 0,EI Z 0 0]=w3 at*;replace C1:=O<|C1.out.G b3;replace MM:=O<|MM.out.trans (Ex.Ew b3);have KZ:Ea (∃z:Array V,z.size=46/\H w3 gz z 43):=O xo;have SS:=O<|xi C1.out KS.out LT.out.1 LT.out.2.1 LT.out.2.2.1 LT.out.2.2.2 qS;clear K0 b2 hgs b3 cY KS LW;clear C1;go_wp2_with fail;refine(vy lo hi g gc gq gt gs c _ _ _ SS.out).mono ?_;rintro e6 w6 ⟨sv,rv,sc,hd,rfl,J2,Oy,os,J3,b6⟩;obtain⟨z,hz,kz⟩:=KZ.out;have OY:=O<|H.G kz b6;have mJ:=O hz;replace SS:=O<|SS.out.core.G b6;replace MM:=O<|MM.out.trans (Ex.Ew b6);have OS:=O os;have OR:=O J3;have HD:=O<|Jm J2 Oy;obtain⟨A1,e1,rfl,-⟩:=Xy os;obtain⟨A2,e2,rfl,-⟩:=Xy J3;have TS:=O<|iV (J8 c) (EI A1 0 e1) (.slice A2 ([]:List Rec).length e2) hd U J2;have TO:=O<|mI c A1 A2 0 ([]:List Rec).length e1 e2 hd;obtain⟨tv,Ia⟩: ∃tv,tv=(Jb (J8 c) (EI A1 0 e1) (.slice A2 ([]:List Rec).length e2) hd).toArray:=⟨_,U⟩;rw[<-Ia] at TS TO⊢;have OZ:=O Ia;clear os J3 J2 Oy Ia b6 kz hz KZ;go_wp2_with (with_reducible refine wS (cs:=tv) ZD OY ?_ (ho:=mJ.out) (hn:=TS.out) (h1:=TO.out));refine ET (Jl ZD U _ _ gz tv U (OY.out.setRow tv) TS.out) U ?_;have ho:=On (g:=gz) (W:=w6) tv;have hz2:=HZ.out;obtain⟨hz3,gy,gA⟩:=hz2;subst gA;have hb:=ho.bel lo tD xp;refine⟨c,_,_,_,_,sc,hd,bu,HD.out.1,HD.out.2,ER OS.out fun _ _ h=>ho.Ek h (E5 h OY.out Eb),ER OR.out fun _ _ h=>ho.Ek h (E5 h OY.out Eb),?_,⟨U,U,U⟩,?_⟩;·exact Emy
 ·exact EnR
theorem Egj(lo:Nat)(g:Nat->V)(gc gq gt:Nat)(c:EB)(w:M)(C:JO lo g gc gq gt c w): Ef EU 52 #[Y (D ⟨gc,0,Z⟩)] w (xj lo w.heap.size g gc gq gt (fun c2 ns new=>ns<=15/\new.length<=13/\Cz c c2 new) w):=by
 have C0:=O C;have LT:=O C.lv;have BS:=O<|xh gc;clear C;go_enter Tryz.func52,Tryz.ntmps52;go_wp2_with (with_reducible refine I7 5 ?_);apply Eo;generalize hW:UN _ _=w1 at*;have cY:Ea (∃z:Array V,z.size=46/\H w1 (w.heap.size) z 43):=O (by subst hW;exact⟨_,U,by first|exact H.new _ _ _|exact H.new' _ _ _ Eh⟩);have b1:Ea (El w w1):=O (by subst hW;(repeat (first|exact IE _ _|(refine JH ?_ Iu _)|(refine JK ?_ Iu _))));clear hW;obtain⟨gz,hgz⟩:=En w.heap.size;obtain⟨hi,hhi⟩:=En w.heap.size;rw[<-hhi] at LT⊢;rw[<-hgz] at cY;rw[show(Y (D ⟨hi,0,Z⟩))=Y (D ⟨gz,0,Z⟩) by rw[hgz,hhi]];have HZ:=O (show hi<=gz/\w.heap.size<=gz/\hi=w.heap.size from X);have C1:=O<|C0.out.G b1.out;have LW:=O (show hi<=w1.heap.size from xn);have MM:=O<|Ex.Ew (lo:=lo) (hi:=hi) b1.out;clear b1 hgz hhi C0;have K0:=O<|H.new w1 #[Y Z,EI Z 0 0,EI Z 0 0] 124;have b2:=Ep w1 (EJ #[Y Z,EI Z 0 0,EI Z 0 0] 124);go_wp2_with (first|((with_reducible refine Is 5 ?_);refine I3 rfl 124 _ rfl #[Y (D ⟨gc,0,Z⟩),EI Z 0 0,EI Z 0 0] BS.out ?_)|(with_reducible refine wA xg ?_)|(with_reducible refine wS (cs:= #[Y (D ⟨gc,0,Z⟩),EI Z 0 0,EI Z 0 0]) vw K0 (Ev.mk ?_) (h1:=Us)));apply Eo;obtain⟨gs,hgs⟩:=En w1.heap.size;rw[<-hgs] at K0⊢;generalize w1.alloc (EJ #[Y Z,EI Z 0 0,EI Z 0 0] 124)=w2 at*;have KS:=O<|K0.out.setRow #[Y (D ⟨gc,0,Z⟩),EI Z 0 0,EI Z 0 0];have b3:=E3 (g:=gs) b2 (OQ hgs.symm) #[Y (D ⟨gc,0,Z⟩),EI Z 0 0,EI Z 0 0];generalize w2.setRow gs #[Y (D ⟨gc,0,Z⟩),EI Z 0 0,EI Z 0 0]=w3 at*;replace C1:=O<|C1.out.G b3;replace MM:=O<|MM.out.trans (Ex.Ew b3);have KZ:Ea (∃z:Array V,z.size=46/\H w3 gz z 43):=O xo;have SS:=O<|xi C1.out KS.out LT.out.1 LT.out.2.1 LT.out.2.2.1 LT.out.2.2.2 qS;clear K0 b2 hgs b3 cY KS LW;go_wp2_with fail;refine(xm lo g gc gq gt c _ C1.out).mono ?_;rintro e4 w4 ⟨rfl,rfl⟩;clear C1;go_wp2_with fail;refine(Egc lo hi g gc gq gt gs c 0 [] _ SS.out X Eh).mono ?_;rintro e5 w5 ⟨rfl,⟨c',m,new,hm,hnl,s5,h5⟩,ZM⟩;rw[Z8] at s5;replace SS:=O s5;replace MM:=O<|MM.out.trans ZM;replace KZ:Ea (∃z:Array V,z.size=46/\H w5 gz z 43):=O (by obtain⟨z,h1,h2⟩:=KZ.out;exact⟨z,h1,ZM.Ek h2 Eb Eb⟩);clear s5 ZM;go_wp2_with fail;refine(vy lo hi g gc gq gt gs c' _ _ _ SS.out).mono ?_;rintro e6 w6 ⟨sv,rv,sc,hd,rfl,J2,Oy,os,J3,b6⟩;obtain⟨z,hz,kz⟩:=KZ.out;have OY:=O<|H.G kz b6;have mJ:=O hz;replace SS:=O<|SS.out.core.G b6;replace MM:=O<|MM.out.trans (Ex.Ew b6);have OS:=O os;have OR:=O J3;have HD:=O<|Jm J2 Oy;obtain⟨A1,e1,rfl,-⟩:=Xy os;obtain⟨A2,e2,rfl,-⟩:=Xy J3;have TS:=O<|iV (J8 c') (EI A1 (0+m) e1) (EI A2 new.length e2) hd U J2;have TO:=O<|mI c' A1 A2 (0+m) new.length e1 e2 hd;obtain⟨tv,Ia⟩: ∃tv,tv=(Jb (J8 c') (EI A1 (0+m) e1) (EI A2 new.length e2) hd).toArray:=⟨_,U⟩;rw[<-Ia] at TS TO⊢;have OZ:=O Ia;clear os J3 J2 Oy Ia b6 kz hz KZ;go_wp2_with (with_reducible refine wS (cs:=tv) ZD OY ?_ (ho:=mJ.out) (hn:=TS.out) (h1:=TO.out));refine ET (Jl ZD U _ _ gz tv U (OY.out.setRow tv) TS.out) U ?_;have ho:=On (g:=gz) (W:=w6) tv;have hz2:=HZ.out;obtain⟨hz3,gy,gA⟩:=hz2;subst gA;have hb:=ho.bel lo tD xp;refine⟨c',_,_,_,_,sc,hd,bu,HD.out.1,HD.out.2,ER OS.out fun _ _ h=>ho.Ek h (E5 h OY.out Eb),ER OR.out fun _ _ h=>ho.Ek h (E5 h OY.out Eb),?_,⟨X,hnl,h5⟩,?_⟩;·exact Emy
 ·exact EnR
theorem Egk(lo:Nat)(g:Nat->V)(gc gq gt:Nat)(c:EB)(bad:Bool)(w:M)(C:JO lo g gc gq gt c w): Ef EU 51 #[Y (D ⟨gc,0,Z⟩),Ec bad] w (xj lo w.heap.size g gc gq gt (fun c2 ns new=>ns<=9/\qN bad c c2 new) w):=by
 have C0:=O C;have LT:=O C.lv;have BS:=O<|xh gc;clear C;go_enter Tryz.func51,Tryz.ntmps51;go_wp2_with (with_reducible refine I7 7 ?_);apply Eo;generalize hW:UN _ _=w1 at*;have cY:Ea (∃z:Array V,z.size=46/\H w1 (w.heap.size) z 43):=O (by subst hW;exact⟨_,U,by first|exact H.new _ _ _|exact H.new' _ _ _ Eh⟩);have b1:Ea (El w w1):=O (by subst hW;(repeat (first|exact IE _ _|(refine JH ?_ Iu _)|(refine JK ?_ Iu _))));clear hW;obtain⟨gz,hgz⟩:=En w.heap.size;obtain⟨hi,hhi⟩:=En w.heap.size;rw[<-hhi] at LT⊢;rw[<-hgz] at cY;rw[show(Y (D ⟨hi,0,Z⟩))=Y (D ⟨gz,0,Z⟩) by rw[hgz,hhi]];have HZ:=O (show hi<=gz/\w.heap.size<=gz/\hi=w.heap.size from X);have C1:=O<|C0.out.G b1.out;have LW:=O (show hi<=w1.heap.size from xn);have MM:=O<|Ex.Ew (lo:=lo) (hi:=hi) b1.out;clear b1 hgz hhi C0;have K0:=O<|H.new w1 #[Y Z,EI Z 0 0,EI Z 0 0] 124;have b2:=Ep w1 (EJ #[Y Z,EI Z 0 0,EI Z 0 0] 124);go_wp2_with (first|((with_reducible refine Is 7 ?_);refine I3 rfl 124 _ rfl #[Y (D ⟨gc,0,Z⟩),EI Z 0 0,EI Z 0 0] BS.out ?_)|(with_reducible refine wA xg ?_)|(with_reducible refine wS (cs:= #[Y (D ⟨gc,0,Z⟩),EI Z 0 0,EI Z 0 0]) vw K0 (Ev.mk ?_) (h1:=Us)));apply Eo;obtain⟨gs,hgs⟩:=En w1.heap.size;rw[<-hgs] at K0⊢;generalize w1.alloc (EJ #[Y Z,EI Z 0 0,EI Z 0 0] 124)=w2 at*;have KS:=O<|K0.out.setRow #[Y (D ⟨gc,0,Z⟩),EI Z 0 0,EI Z 0 0];have b3:=E3 (g:=gs) b2 (OQ hgs.symm) #[Y (D ⟨gc,0,Z⟩),EI Z 0 0,EI Z 0 0];generalize w2.setRow gs #[Y (D ⟨gc,0,Z⟩),EI Z 0 0,EI Z 0 0]=w3 at*;replace C1:=O<|C1.out.G b3;replace MM:=O<|MM.out.trans (Ex.Ew b3);have KZ:Ea (∃z:Array V,z.size=46/\H w3 gz z 43):=O xo;have SS:=O<|xi C1.out KS.out LT.out.1 LT.out.2.1 LT.out.2.2.1 LT.out.2.2.2 qS;clear K0 b2 hgs b3 cY KS LW;go_wp2_with fail;refine(xm lo g gc gq gt c _ C1.out).mono ?_;rintro e4 w4 ⟨rfl,rfl⟩;clear C1;go_wp2_with fail;refine(EgI lo hi g gc gq gt gs c 0 [] bad _ SS.out X Eh).mono ?_;rintro e5 w5 ⟨rfl,⟨c',m,new,hm,s5,h5⟩,ZM⟩;rw[Z8] at s5;replace SS:=O s5;replace MM:=O<|MM.out.trans ZM;replace KZ:Ea (∃z:Array V,z.size=46/\H w5 gz z 43):=O (by obtain⟨z,h1,h2⟩:=KZ.out;exact⟨z,h1,ZM.Ek h2 Eb Eb⟩);clear s5 ZM;go_wp2_with fail;refine(vy lo hi g gc gq gt gs c' _ _ _ SS.out).mono ?_;rintro e6 w6 ⟨sv,rv,sc,hd,rfl,J2,Oy,os,J3,b6⟩;obtain⟨z,hz,kz⟩:=KZ.out;have OY:=O<|H.G kz b6;have mJ:=O hz;replace SS:=O<|SS.out.core.G b6;replace MM:=O<|MM.out.trans (Ex.Ew b6);have OS:=O os;have OR:=O J3;have HD:=O<|Jm J2 Oy;obtain⟨A1,e1,rfl,-⟩:=Xy os;obtain⟨A2,e2,rfl,-⟩:=Xy J3;have TS:=O<|iV (J8 c') (EI A1 (0+m) e1) (EI A2 new.length e2) hd U J2;have TO:=O<|mI c' A1 A2 (0+m) new.length e1 e2 hd;obtain⟨tv,Ia⟩: ∃tv,tv=(Jb (J8 c') (EI A1 (0+m) e1) (EI A2 new.length e2) hd).toArray:=⟨_,U⟩;rw[<-Ia] at TS TO⊢;have OZ:=O Ia;clear os J3 J2 Oy Ia b6 kz hz KZ;go_wp2_with (with_reducible refine wS (cs:=tv) ZD OY ?_ (ho:=mJ.out) (hn:=TS.out) (h1:=TO.out));refine ET (Jl ZD U _ _ gz tv U (OY.out.setRow tv) TS.out) U ?_;have ho:=On (g:=gz) (W:=w6) tv;have hz2:=HZ.out;obtain⟨hz3,gy,gA⟩:=hz2;subst gA;have hb:=ho.bel lo tD xp;refine⟨c',_,_,_,_,sc,hd,bu,HD.out.1,HD.out.2,ER OS.out fun _ _ h=>ho.Ek h (E5 h OY.out Eb),ER OR.out fun _ _ h=>ho.Ek h (E5 h OY.out Eb),?_,⟨X,h5⟩,?_⟩;·exact Emy
 ·exact EnR
theorem Egl(lo:Nat)(g:Nat->V)(gc gq gt:Nat)(c:EB)(va gv:Bool)(x0 x1 x2 x3:Int)(w:M)(C:JO lo g gc gq gt c w)(hx:JI x0/\JI x1/\JI x2/\JI x3): Ef EU 50 #[Y (D ⟨gc,0,Z⟩),EZ #[Ec va,E I x0,E I x1,E I x2,E I x3,Ec gv]] w (xj lo w.heap.size g gc gq gt (fun c2 ns new=>ns<=3/\qM c c2 new) w):=by
 have C0:=O C;have LT:=O C.lv;have BS:=O<|xh gc;have HX:=O hx;clear hx;clear C;go_enter Tryz.func50,Tryz.ntmps50;go_wp2_with (with_reducible refine I7 7 ?_);apply Eo;generalize hW:UN _ _=w1 at*;have cY:Ea (∃z:Array V,z.size=46/\H w1 (w.heap.size+1) z 43):=O (by subst hW;exact⟨_,U,by first|exact H.new _ _ _|exact H.new' _ _ _ Eh⟩);have KI:Ea (H w1 (w.heap.size) #[Ec va,E I x0,E I x1,E I x2,E I x3,Ec gv] 46):=O (by subst hW;repeat (first|exact H.new _ _ _|exact H.new' _ _ _ Eh|refine H.alloc ?_ _));have b1:Ea (El w w1):=O (by subst hW;(repeat (first|exact IE _ _|(refine JH ?_ Iu _)|(refine JK ?_ Iu _))));clear hW;obtain⟨gz,hgz⟩:=En (w.heap.size+1);obtain⟨hi,hhi⟩:=En w.heap.size;rw[<-hgz] at cY⊢;rw[<-hhi] at KI LT⊢;obtain⟨gi,hgi⟩:=En hi;rw[show(Y (D ⟨hi,0,Z⟩))=Y (D ⟨gi,0,Z⟩) by rw[hgi]];rw[<-hgi] at KI;have HZ:=O (show hi<=gz/\w.heap.size<=gz/\hi=w.heap.size from X);have C1:=O<|C0.out.G b1.out;have LW:=O (show hi<=w1.heap.size from xn);have MM:=O<|Ex.Ew (lo:=lo) (hi:=hi) b1.out;clear b1 hgz hhi hgi C0;have K0:=O<|H.new w1 #[Y Z,EI Z 0 0,EI Z 0 0] 124;have b2:=Ep w1 (EJ #[Y Z,EI Z 0 0,EI Z 0 0] 124);go_wp2_with (first|((with_reducible refine Is 7 ?_);refine I3 rfl 124 _ rfl #[Y (D ⟨gc,0,Z⟩),EI Z 0 0,EI Z 0 0] BS.out ?_)|(with_reducible refine wA xg ?_)|(with_reducible refine wS (cs:= #[Y (D ⟨gc,0,Z⟩),EI Z 0 0,EI Z 0 0]) vw K0 (Ev.mk ?_) (h1:=Us)));apply Eo;obtain⟨gs,hgs⟩:=En w1.heap.size;rw[<-hgs] at K0⊢;generalize w1.alloc (EJ #[Y Z,EI Z 0 0,EI Z 0 0] 124)=w2 at*;have KS:=O<|K0.out.setRow #[Y (D ⟨gc,0,Z⟩),EI Z 0 0,EI Z 0 0];have b3:=E3 (g:=gs) b2 (OQ hgs.symm) #[Y (D ⟨gc,0,Z⟩),EI Z 0 0,EI Z 0 0];generalize w2.setRow gs #[Y (D ⟨gc,0,Z⟩),EI Z 0 0,EI Z 0 0]=w3 at*;replace C1:=O<|C1.out.G b3;replace MM:=O<|MM.out.trans (Ex.Ew b3);replace KI:=EQ KI b3;have KZ:Ea (∃z:Array V,z.size=46/\H w3 gz z 43):=O xo;have SS:=O<|xi C1.out KS.out LT.out.1 LT.out.2.1 LT.out.2.2.1 LT.out.2.2.2 qS;clear K0 b2 hgs b3 cY KS LW;go_wp2_with fail;refine(xm lo g gc gq gt c _ C1.out).mono ?_;rintro e4 w4 ⟨rfl,rfl⟩;clear C1;go_wp2_with (with_reducible refine wL Cw KI ?_);refine(Ef2 lo hi g gc gq gt gs c 0 [] va gv x0 x1 x2 x3 _ SS.out HX.out X Eh).mono ?_;rintro e5 w5 ⟨rfl,⟨c',m,new,hm,s5,h5⟩,ZM⟩;rw[Z8] at s5;replace SS:=O s5;replace MM:=O<|MM.out.trans ZM;replace KZ:Ea (∃z:Array V,z.size=46/\H w5 gz z 43):=O (by obtain⟨z,h1,h2⟩:=KZ.out;exact⟨z,h1,ZM.Ek h2 Eb Eb⟩);clear s5 ZM;go_wp2_with fail;refine(vy lo hi g gc gq gt gs c' _ _ _ SS.out).mono ?_;rintro e6 w6 ⟨sv,rv,sc,hd,rfl,J2,Oy,os,J3,b6⟩;obtain⟨z,hz,kz⟩:=KZ.out;have OY:=O<|H.G kz b6;have mJ:=O hz;replace SS:=O<|SS.out.core.G b6;replace MM:=O<|MM.out.trans (Ex.Ew b6);have OS:=O os;have OR:=O J3;have HD:=O<|Jm J2 Oy;obtain⟨A1,e1,rfl,-⟩:=Xy os;obtain⟨A2,e2,rfl,-⟩:=Xy J3;have TS:=O<|iV (J8 c') (EI A1 (0+m) e1) (EI A2 new.length e2) hd U J2;have TO:=O<|mI c' A1 A2 (0+m) new.length e1 e2 hd;obtain⟨tv,Ia⟩: ∃tv,tv=(Jb (J8 c') (EI A1 (0+m) e1) (EI A2 new.length e2) hd).toArray:=⟨_,U⟩;rw[<-Ia] at TS TO⊢;have OZ:=O Ia;clear os J3 J2 Oy Ia b6 kz hz KZ;go_wp2_with (with_reducible refine wS (cs:=tv) ZD OY ?_ (ho:=mJ.out) (hn:=TS.out) (h1:=TO.out));refine ET (Jl ZD U _ _ gz tv U (OY.out.setRow tv) TS.out) U ?_;have ho:=On (g:=gz) (W:=w6) tv;have hz2:=HZ.out;obtain⟨hz3,gy,gA⟩:=hz2;subst gA;have hb:=ho.bel lo tD xp;refine⟨c',_,_,_,_,sc,hd,bu,HD.out.1,HD.out.2,ER OS.out fun _ _ h=>ho.Ek h (E5 h OY.out Eb),ER OR.out fun _ _ h=>ho.Ek h (E5 h OY.out Eb),?_,⟨X,h5⟩,?_⟩;·exact Emy
 ·exact EnR
theorem Egm(lo:Nat)(g:Nat->V)(gc gq gt:Nat)(c:EB)(code:Int)(A:Option Eu)(n cap:Nat)(xs:List Int)(k:Int)(w:M)(C:JO lo g gc gq gt c w)(hk:1<=k/\k<=3)(hx:xs.length=n)(hnc:n<=cap)(hcap:cap<=9223372036854775807)(wK:n<=1000)(hr:Row w A xs): Ef EU 49 #[Y (D ⟨gc,0,Z⟩),E I k,EZ #[E I code,EI A n cap]] w (xj lo w.heap.size g gc gq gt (fun c2 ns new=>ns<=3/\nT g k code xs c c2 ns new) w):=by
 have C0:=O C;have LT:=O C.lv;have BS:=O<|xh gc;have HX:=O<|Jm hk (Jm hx (Jm hnc (Jm hcap wK)));have wH:=O hr;have HLK:Ea (decide (1<=k/\k<=3)=u):=O<|Ib hk;clear hk hx hnc hcap wK hr;clear C;go_enter Tryz.func49,Tryz.ntmps49;go_wp2_with (with_reducible refine I7 9 ?_);apply Eo;generalize hW:UN _ _=w1 at*;have cY:Ea (∃z:Array V,z.size=46/\H w1 (w.heap.size+1) z 43):=O (by subst hW;exact⟨_,U,by first|exact H.new _ _ _|exact H.new' _ _ _ Eh⟩);have KI:Ea (H w1 (w.heap.size) #[E I code,EI A n cap] 74):=O (by subst hW;repeat (first|exact H.new _ _ _|exact H.new' _ _ _ Eh|refine H.alloc ?_ _));have b1:Ea (El w w1):=O (by subst hW;(repeat (first|exact IE _ _|(refine JH ?_ Iu _)|(refine JK ?_ Iu _))));clear hW;obtain⟨gz,hgz⟩:=En (w.heap.size+1);obtain⟨hi,hhi⟩:=En w.heap.size;rw[<-hgz] at cY⊢;rw[<-hhi] at KI LT⊢;obtain⟨gi,hgi⟩:=En hi;rw[show(Y (D ⟨hi,0,Z⟩))=Y (D ⟨gi,0,Z⟩) by rw[hgi]];rw[<-hgi] at KI;have HZ:=O (show hi<=gz/\w.heap.size<=gz/\hi=w.heap.size from X);have C1:=O<|C0.out.G b1.out;have RW:=O<|Iy wH.out b1.out;have LW:=O (show hi<=w1.heap.size from xn);have MM:=O<|Ex.Ew (lo:=lo) (hi:=hi) b1.out;clear b1 hgz hhi hgi C0;have K0:=O<|H.new w1 #[Y Z,EI Z 0 0,EI Z 0 0] 124;have b2:=Ep w1 (EJ #[Y Z,EI Z 0 0,EI Z 0 0] 124);go_wp2_with (first|((with_reducible refine Is 9 ?_);refine I3 rfl 124 _ rfl #[Y (D ⟨gc,0,Z⟩),EI Z 0 0,EI Z 0 0] BS.out ?_)|(with_reducible refine wA xg ?_)|(with_reducible refine wS (cs:= #[Y (D ⟨gc,0,Z⟩),EI Z 0 0,EI Z 0 0]) vw K0 (Ev.mk ?_) (h1:=Us)));apply Eo;obtain⟨gs,hgs⟩:=En w1.heap.size;rw[<-hgs] at K0⊢;generalize w1.alloc (EJ #[Y Z,EI Z 0 0,EI Z 0 0] 124)=w2 at*;have KS:=O<|K0.out.setRow #[Y (D ⟨gc,0,Z⟩),EI Z 0 0,EI Z 0 0];have b3:=E3 (g:=gs) b2 (OQ hgs.symm) #[Y (D ⟨gc,0,Z⟩),EI Z 0 0,EI Z 0 0];generalize w2.setRow gs #[Y (D ⟨gc,0,Z⟩),EI Z 0 0,EI Z 0 0]=w3 at*;replace C1:=O<|C1.out.G b3;replace RW:=O<|Iy RW.out b3;replace MM:=O<|MM.out.trans (Ex.Ew b3);replace KI:=EQ KI b3;have KZ:Ea (∃z:Array V,z.size=46/\H w3 gz z 43):=O xo;have SS:=O<|xi C1.out KS.out LT.out.1 LT.out.2.1 LT.out.2.2.1 LT.out.2.2.2 qS;clear K0 b2 hgs b3 cY KS LW;go_wp2_with fail;refine(Km k _).mono ?_;rintro e4 w4 ⟨rfl,rfl⟩;rw[HLK.out];go_wp2_with fail;refine(xm lo g gc gq gt c _ C1.out).mono ?_;rintro e4 w4 ⟨rfl,rfl⟩;clear C1;go_wp2_with (with_reducible refine wL Mg KI ?_);refine(Efv lo hi g gc gq gt gs c 0 [] code A n cap xs k _ SS.out HX.out.1 HX.out.2.1 HX.out.2.2.1 HX.out.2.2.2.1 HX.out.2.2.2.2 RW.out X Eh).mono ?_;rintro e5 w5 ⟨rfl,⟨c',m,new,hm,s5,h5⟩,ZM⟩;rw[Z8] at s5;replace SS:=O s5;replace MM:=O<|MM.out.trans ZM;replace KZ:Ea (∃z:Array V,z.size=46/\H w5 gz z 43):=O (by obtain⟨z,h1,h2⟩:=KZ.out;exact⟨z,h1,ZM.Ek h2 Eb Eb⟩);clear s5 ZM;go_wp2_with fail;refine(vy lo hi g gc gq gt gs c' _ _ _ SS.out).mono ?_;rintro e6 w6 ⟨sv,rv,sc,hd,rfl,J2,Oy,os,J3,b6⟩;obtain⟨z,hz,kz⟩:=KZ.out;have OY:=O<|H.G kz b6;have mJ:=O hz;replace SS:=O<|SS.out.core.G b6;replace MM:=O<|MM.out.trans (Ex.Ew b6);have OS:=O os;have OR:=O J3;have HD:=O<|Jm J2 Oy;obtain⟨A1,e1,rfl,-⟩:=Xy os;obtain⟨A2,e2,rfl,-⟩:=Xy J3;have TS:=O<|iV (J8 c') (EI A1 (0+m) e1) (EI A2 new.length e2) hd U J2;have TO:=O<|mI c' A1 A2 (0+m) new.length e1 e2 hd;obtain⟨tv,Ia⟩: ∃tv,tv=(Jb (J8 c') (EI A1 (0+m) e1) (EI A2 new.length e2) hd).toArray:=⟨_,U⟩;rw[<-Ia] at TS TO⊢;have OZ:=O Ia;clear os J3 J2 Oy Ia b6 kz hz KZ;go_wp2_with (with_reducible refine wS (cs:=tv) ZD OY ?_ (ho:=mJ.out) (hn:=TS.out) (h1:=TO.out));refine ET (Jl ZD U _ _ gz tv U (OY.out.setRow tv) TS.out) U ?_;have ho:=On (g:=gz) (W:=w6) tv;have hz2:=HZ.out;obtain⟨hz3,gy,gA⟩:=hz2;subst gA;have hb:=ho.bel lo tD xp;refine⟨c',_,_,_,_,sc,hd,bu,HD.out.1,HD.out.2,ER OS.out fun _ _ h=>ho.Ek h (E5 h OY.out Eb),ER OR.out fun _ _ h=>ho.Ek h (E5 h OY.out Eb),?_,⟨X,by first|exact h5|(rw[JV];exact h5)⟩,?_⟩;·exact Emy
 ·exact EnR
def UR:List Int->Nat
 |[]=>0
 |x::r=>if x=165 then 0 else UR r+1
theorem Mh: ∀xs,UR xs<=xs.length
 |[]=>E7 _
 |x::r=>by
  unfold UR;split;·exact bY _
  ·have:=Mh r;simp;exact this
structure c_ where
 kd:Int
 sz:Nat
 cd:Int
 b:List Int
def dE:c_:=⟨0,0,0,[]⟩
def jT(c:Int):c_:=⟨3,1,c,[]⟩
def jV(n:Nat):c_:=⟨1,n,0,[]⟩
def qT(xs:List Int):c_:=⟨2,xs.length+5,0,xs⟩
def fy(v n:Int)(r:List Int):c_:=
 if 32<n then jT 11 else if(r.length:Int)<n+2 then dE else if XW (v::n::r.take n.toNat)≠256*r.getD n.toNat 0+r.getD (n.toNat+1) 0 then jT 12 else qT (r.take n.toNat)
def DU:List Int->c_
 |[]=>dE
 |n::r=>fy 1 n r
def n_:List Int->c_
 |[]=>dE
 |v::r=>if v≠1 then jT 10 else DU r
def nx:List Int->c_
 |[]=>dE
 |a::r=>if a≠165 then jV (UR (a::r)) else n_ r
theorem jW(a:Int)(r:List Int):nx (a::r)=if a≠165 then jV (UR (a::r)) else n_ r:=rfl
theorem qV(v:Int)(r:List Int):n_ (v::r)=if v≠1 then jT 10 else DU r:=rfl
def c_.item(f:c_):List (Int×List Int):=if f.kd=2 then [(0,f.b)] else if f.kd=3 then [(f.cd,[])] else []
def U8(xs:List Int):Prop:= ∀x∈xs,0<=x/\x<=255
theorem U8.dr{xs:List Int}(h:U8 xs)(k:Nat):U8 (xs.drop k):=fun y hy=>h y (List.mem_of_mem_drop hy)
theorem U8.tk{xs:List Int}(h:U8 xs)(k:Nat):U8 (xs.take k):=fun y hy=>h y (fK hy)
theorem U8.app{xs ys:List Int}(h:U8 xs)(k:U8 ys):U8 (xs++ys):=fun y hy=>by
 rcases XP.1 hy with h1|h1;·exact h y h1
 ·exact k y h1
inductive Ym(xs:List Int)(f:c_):Prop
 |wait (h:f=dE)
 |qW (c:Int) (h:f=jT c) (hc:c=10\/c=11\/c=12) (hl:1<=xs.length)
 |skip (h:f=jV (UR xs)) (h1:1<=UR xs)
 |frame (n:Nat) (h:f=qT ((xs.drop 3).take n)) (hl:n+5<=xs.length) (hn:n<=32)
theorem DX(xs:List Int)(hb:U8 xs):Ym xs (nx xs):=by
 match xs,hb with
 |[],_=>exact .wait U
 |a::r,hb=>
  by_cases h1:a≠165;·refine .skip (by rw[jW,if_pos h1]) ?_;unfold UR;rw[if_neg h1];omega
  ·have e1:nx (a::r)=n_ r:=by rw[jW,if_neg h1]
   rw[e1];match r,hb with
   |[],_=>exact .wait U
   |v::r2,hb=>
    by_cases h2:v≠1;·exact .qW 10 (by rw[qV,if_pos h2]) (.inl U) Eh
    ·have e2:n_ (v::r2)=DU r2:=by rw[qV,if_neg h2]
     rw[e2];match r2,hb with
     |[],_=>exact .wait U
     |n::r3,hb=>
      show Ym _ (fy 1 n r3);have hn:=hb n Eh;unfold fy;split;·exact .qW 11 rfl (.inr (.inl U)) Eh
      ·split;·exact .wait U
       ·split;·exact .qW 12 rfl (.inr (.inr U)) Eh
        ·exact .frame n.toNat Eh Jn X
theorem Ego(ys:List Int)(n:Nat)(h:n<=ys.length):(qT (ys.take n)).sz=n+5:=by simp[qT];omega
theorem Mi{xs:List Int}(hb:U8 xs)(h:(nx xs).kd≠0):1<=(nx xs).sz/\(nx xs).sz<=xs.length:=by
 cases DX xs hb with
 |wait e=>rw[e] at h;exact absurd U h
 |qW c e _ hl=>rw[e];exact⟨E7 _,hl⟩
 |skip e h1=>rw[e];exact⟨h1,Mh _⟩
 |frame n e hl hn=>rw[e,Ego _ _ Jn];omega
theorem Egp{xs:List Int}(hb:U8 xs):(nx xs).b.length<=32/\U8 (nx xs).b:=by
 cases DX xs hb with
 |wait e=>rw[e];exact⟨by simp[dE],by intro y hy;simp[dE] at hy⟩
 |qW c e _ hl=>rw[e];exact⟨by simp[jT],by intro y hy;simp[jT] at hy⟩
 |skip e h1=>rw[e];exact⟨by simp[jV],by intro y hy;simp[jV] at hy⟩
 |frame n e hl hn=>rw[e];exact⟨by simp[qT];omega,(hb.dr 3).tk n⟩
inductive Xo:List Int->List (Int×List Int)->List Int->Prop
 |wait {xs} (h:(nx xs).kd=0):Xo xs [] xs
 |step {xs its r} (h:(nx xs).kd≠0) (t:Xo (xs.drop (nx xs).sz) its r):Xo xs ((nx xs).item++its) r
theorem Xo.det{xs i r}(h:Xo xs i r): ∀{i' r'},Xo xs i' r'->i=i'/\r=r':=by
 induction h with
 |wait h=>
  intro i' r' k;cases k with
  |wait=>exact⟨U,U⟩
  |step h' _=>exact absurd h h'
 |step h t ih=>
  intro i' r' k;cases k with
  |wait h'=>exact absurd h' h
  |step _ t'=>obtain⟨rfl,rfl⟩:=ih t';exact⟨U,U⟩
theorem Xo.ex: ∀(n:Nat) (xs:List Int),xs.length<=n->U8 xs-> ∃i r,Xo xs i r
 |0,xs,h,_=>⟨[],xs,.wait (by have:xs=[]:=aN X;subst this;rfl)⟩
 |n+1,xs,h,hb=>by
  by_cases h0:(nx xs).kd=0;·exact⟨_,_,.wait h0⟩
  ·have hs:=Mi hb h0;obtain⟨i,r,t⟩:=Xo.ex n (xs.drop (nx xs).sz) (by rw[mV];omega) (hb.dr _);exact⟨_,_,.step h0 t⟩
theorem Xo.left{xs i r}(h:Xo xs i r): ∃k,r=xs.drop k:=by
 induction h with
 |wait h=>exact⟨0,U⟩
 |step h t ih=>obtain⟨k,e⟩:=ih;exact⟨_,by rw[e,List.drop_drop]⟩
def Yn(i:Int×List Int):Prop:=U8 i.2/\i.2.length<=32/\(i.1=0\/i.1=10\/i.1=11\/i.1=12)
theorem Egr{xs:List Int}(hb:U8 xs): ∀i∈(nx xs).item,Yn i:=by
 intro i hi;have hbd:=Egp hb;unfold c_.item at hi;split at hi;·simp at hi;subst hi;exact⟨hbd.2,hbd.1,.inl U⟩
 ·split at hi
  ·rename_i h3;simp at hi;subst hi;refine⟨by intro y hy;simp at hy,Eh,?_⟩;cases DX xs hb with
   |wait e=>rw[e] at h3;cases h3
   |qW c e hc hl=>rw[e];exact .inr hc
   |skip e h1=>rw[e] at h3;cases h3
   |frame n e hl hn=>rw[e] at h3;cases h3
  ·simp at hi
theorem Xo.ok{xs i r}(h:Xo xs i r):U8 xs->(∀x∈i,Yn x)/\U8 r:=by
 induction h with
 |wait h=>exact fun hb=>⟨Eh,hb⟩
 |step h t ih=>
  intro hb;obtain⟨h1,h2⟩:=ih (hb.dr _);refine⟨fun x hx=> ?_,h2⟩;rcases XP.1 hx with h3|h3;·exact Egr hb x h3
  ·exact h1 x h3
theorem Xo.len{xs i r}(h:Xo xs i r):U8 xs->i.length+r.length<=xs.length:=by
 induction h with
 |wait h=>exact fun hb=>Eh
 | @step xs its r h t ih=>
   intro hb;have h1:=ih (hb.dr _);have h2:=Mi hb h;have h3:(nx xs).item.length<=1:=by unfold c_.item;split<;>(try split)<;>simp
   rw[I2];rw[mV] at h1;omega
inductive dI(g:Nat->V)(k:Int):List (Int×List Int)->EB->EB->Nat->List Rec->Prop
 |nil (c:EB):dI g k [] c c 0 []
 |cons {i:Int×List Int} {r:List (Int×List Int)} {c c1 c2:EB} {m n:Nat} {a b:List Rec}:nT g k i.1 i.2 c c1 m a->dI g k r c1 c2 n b->dI g k (i::r) c c2 (m+n) (a++b)
theorem dI.snoc{its:List (Int×List Int)}(h:dI g k its c c1 m a){i:Int×List Int}{c2:EB}{b:List Rec}(h2:nT g k i.1 i.2 c1 c2 n b):dI g k (its++[i]) c c2 (m+n) (a++b):=by
 induction h with
 |nil c=>simpa using dI.cons h2 (.nil _)
 |cons h1 t ih=>rw[List.cons_append,js,U9];exact .cons h1 (ih h2)
theorem qK.len{l:List Int}(h:qK g k l c c' new):new.length<=2:=by
 rcases h with⟨_,rfl⟩|⟨_,_,_,rfl⟩|⟨_,_,_,_,_,_,_,rfl⟩|⟨_,_,_,_,_,rfl⟩|⟨_,_,_,rfl⟩|⟨_,_,_,rfl⟩|⟨rfl,_⟩;·simp
 ·split<;>simp
 all_goals simp
theorem nT.len{xs:List Int}(h:nT g k code xs c c' m new):new.length<=2:=by
 rcases h with⟨_,_,_,rfl,_⟩|⟨_,_,_,_,rfl,_⟩|⟨_,_,_,_,h⟩;·simp
 ·simp
 ·exact h.len
theorem dI.len{its:List (Int×List Int)}(h:dI g k its c c1 m a):a.length<=its.length*2:=by
 induction h with
 |nil=>simp
 |cons h1 t ih=>have:=h1.len;simp only[I2,ZV];omega
structure JZ where
 (kind src:Int)
 b:List Int
 valid:Bool
 (x0 x1 x2 x3:Int)
 give:Bool
 bad:Bool
def DZ(g:Nat->V)(e:JZ)(c:EB)(rs:Int->List Int)(c':EB)(rs':Int->List Int)(m:Nat)(new:List Rec):Prop:=
 (e.kind=0/\1<=e.src/\e.src<=3/\ ∃its r,Xo (rs e.src++e.b) its r/\rs'=(fun s=>if s=e.src then r else rs s)/\dI g e.src its c c' m new)
 \/(e.kind=1/\rs'=rs/\qM c c' new)
 \/(e.kind=2/\rs'=rs/\qN e.bad c c' new)
 \/(e.kind=3/\rs'=rs/\Cz c c' new)
 \/((e.kind≠1/\e.kind≠2/\e.kind≠3/\(e.kind=0-> ¬(1<=e.src/\e.src<=3)))/\rs'=rs/\c'=c/\m=0/\new=[])
def fz(o:Int)(new:List Rec):Prop:= ∃x∈new,x.k=8\/(x.k=11/\x.s=o)\/(x.k=12/\x.s=o)
theorem fz.left{o:Int}(h:fz o a)(b:List Rec):fz o (a++b):=by obtain⟨x,hx,h⟩:=h;exact⟨x,jF _ hx,h⟩
theorem fz.right{o:Int}{b:List Rec}(h:fz o b)(a:List Rec):fz o (a++b):=by obtain⟨x,hx,h⟩:=h;exact⟨x,List.mem_append_right _ hx,h⟩
def aZ(k:Int)(t t':EG)(new:List Rec):Prop:=
 (t'.o=t.o/\t'.e=t.e/\t'.h=t.h/\t'.oa=t.oa/\t'.om=t.om)\/(t.e<t'.e/\fz t.o new)\/(t'.o= -1/\t'.e=t.e/\t'.h=t.h/\k=t.o/\fz t.o new)
theorem aZ.same{t2:EG}(b:List Rec)(h:aZ k t t1 a)(e1:t2=t1):aZ k t t2 (a++b):=by
 subst e1;rcases h with h|⟨h1,h2⟩|⟨h1,h2,h3,h4,h5⟩;·exact .inl h
 ·exact .inr (.inl ⟨h1,h2.left b⟩)
 ·exact .inr (.inr ⟨h1,h2,h3,h4,h5.left b⟩)
theorem aZ.end_{b:List Rec}(h:aZ k t t1 a)(ho:0<=t.o)(h1:t1.o=k)(hs:fz k b)(hk:0<=k):aZ k t t1.end_ (a++b):=by
 rcases h with⟨e1,e2,e3,_,_⟩|⟨e1,e2⟩|⟨e1,_⟩;·exact .inr (.inr ⟨U,e2,e3,X,by rw[<-e1,h1];exact hs.right a⟩)
 ·exact .inr (.inl ⟨e1,e2.left b⟩)
 ·omega
theorem aZ.Mj{l:List Int}(hk:1<=k/\k<=3)(ho:0<=t.o)(hh:t.o≠t.h)(h:aZ k t c.tok a)(w:qK g k l c c' new):aZ k t c'.tok (a++new):=by
 rcases w with⟨rfl,rfl⟩|⟨_,_,rfl,rfl⟩|⟨L',t2,hw,Egs,te,_,rfl,rfl⟩|⟨_,_,_,_,rfl,rfl⟩|⟨h1,h2,rfl,rfl⟩|⟨h1,h2,rfl,rfl⟩|⟨rfl,rfl|⟨p,hp,rfl⟩⟩;·exact Epx
 ·show aZ k t (c.tok.drop k).1 _;by_cases hc:c.tok.o<0\/c.tok.o≠k;·exact h.same _ (by unfold EG.drop;rw[if_pos hc])
  ·have e1:c.tok.drop k=(c.tok.end_,u):=by unfold EG.drop;rw[if_neg hc]
   rw[e1];exact h.end_ ho X ⟨_,jF _ (ft.2 rfl),.inr (.inr ⟨U,U⟩)⟩ X
 ·refine .inr (.inl ⟨?_,fz.right ⟨_,ft.2 rfl,.inl U⟩ a⟩);show t.e<t2.e;rcases h with⟨_,e2,_⟩|⟨e1,_⟩|⟨_,e2,_⟩<;>omega
 ·exact Epx
 ·exact h.end_ ho h2 ⟨_,ft.2 rfl,.inr (.inl ⟨U,U⟩)⟩ X
 ·rcases h with⟨e1,_⟩|⟨e1,e2⟩|⟨_,_,e3,e4,_⟩;·omega
  ·exact .inr (.inl ⟨e1,e2.left _⟩)
  ·exact absurd (e4.symm.trans (h1.trans e3)) hh
 ·exact Epx
 ·exact Epx
theorem aZ.item{xs:List Int}(hk:1<=k/\k<=3)(ho:0<=t.o)(hh:t.o≠t.h)(h:aZ k t c.tok a)(w:nT g k code xs c c' m new):aZ k t c'.tok (a++new):=by
 rcases w with⟨_,rfl,_,_,_⟩|⟨_,_,_,_,_,rfl|⟨_,_,rfl⟩⟩|⟨_,_,_,_,w⟩;·exact Epx
 ·exact Epx
 ·exact Epx
 ·exact aZ.Mj (c:={c with T:=(c.T.take k xs).tab}) hk ho hh h w
theorem aZ.items{its:List (Int×List Int)}(hk:1<=k/\k<=3)(ho:0<=t.o)(hh:t.o≠t.h)(w:dI g k its c c' m new): ∀{a:List Rec},aZ k t c.tok a->aZ k t c'.tok (a++new):=by
 induction w with
 |nil=>intro a h;rw[fc];exact h
 |cons h1 _ ih=>intro a h;rw[<-U9];exact ih (h.item hk ho hh h1)
theorem Egt{e:JZ}(hok:c.tok.ok)(ho:0<=c.tok.o)(w:DZ g e c rs c' rs' m new): (c'.tok.o=c.tok.o/\c'.tok.e=c.tok.e/\c'.tok.om=c.tok.om/\((e.kind≠3/\c'.tok.oa=c.tok.oa)\/(e.kind=3/\c'.tok.oa=c.tok.oa+1/\c'.tok.oa<c.tok.om)))\/(¬(c'.tok.o=c.tok.o/\c'.tok.e=c.tok.e)/\fz c.tok.o new):=by
 have hoff:=hok.off ho;rcases w with⟨h0,h1,h2,its,r,_,_,w⟩|⟨h0,_,w⟩|⟨h0,_,w⟩|⟨h0,_,w⟩|⟨h0,_,rfl,_,rfl⟩
 ·have:=aZ.items (t:=c.tok) (a:=[]) ⟨h1,h2⟩ ho X w (.inl ⟨U,U,U,U,U⟩);rw[Z8] at this;rcases this with⟨a1,a2,_,a3,a4⟩|⟨a1,a2⟩|⟨a1,a2,_,_,a3⟩;·exact .inl ⟨a1,a2,a4,.inl ⟨X,a3⟩⟩
  ·exact .inr ⟨X,a2⟩
  ·exact .inr ⟨X,a3⟩
 ·obtain⟨a,b,T1,⟨rfl,rfl⟩|w⟩:=w;·exact .inl ⟨U,U,U,.inl ⟨X,U⟩⟩
  ·rcases w with⟨_,_,rfl,_⟩|⟨_,t2,_,_,te,hto,rfl,rfl⟩|⟨rfl,p,hp,rfl⟩;·exact .inl ⟨U,U,U,.inl ⟨X,U⟩⟩
   ·exact .inr ⟨Yo,_,ft.2 rfl,.inl U⟩
   ·exact .inl ⟨U,U,U,.inl ⟨X,U⟩⟩
 ·rcases w with⟨_,rfl,rfl⟩|⟨_,L',t2,md,_,hto,_,rfl,⟨rfl,h4⟩|rfl⟩;·exact .inl ⟨U,U,U,.inl ⟨X,U⟩⟩
  ·omega
  ·exact .inr ⟨Yo,_,ft.2 rfl,.inl U⟩
 ·obtain⟨⟨w1,_⟩,_⟩:=w;rcases w1 ho with⟨a1,a2,a3,a4,a5⟩|⟨a1,x,hx,h⟩
  ·refine .inl ⟨a1,a2,a3,.inr ⟨h0,?_,a5⟩⟩;rw[a4] at a5⊢;unfold sat at*;by_cases h6:c.tok.oa<c.tok.om;·rw[if_pos h6]
   ·rw[if_neg h6] at a5;omega
  ·exact .inr ⟨X,x,hx,h.elim .inl fun h=> .inr (.inr h)⟩
 ·exact .inl ⟨U,U,U,.inl ⟨h0.2.2.1,U⟩⟩
def aC(g:Nat->V)(t:EG):Prop:=0<=t.o->t.om=max (pn g 44) 0
theorem aC.Mj{l:List Int}(h:aC g c.tok)(w:qK g k l c c' new):aC g c'.tok/\c.tok.e<=c'.tok.e:=by
 rcases w with⟨rfl,rfl⟩|⟨_,_,rfl,rfl⟩|⟨L',t2,hw,Egs,te,hto,rfl,rfl⟩|⟨_,_,_,_,rfl,rfl⟩|⟨h1,h2,rfl,rfl⟩|⟨h1,h2,rfl,rfl⟩|⟨rfl,rfl|⟨p,hp,rfl⟩⟩;·exact EoP
 ·show aC g (c.tok.drop k).1/\c.tok.e<=(c.tok.drop k).1.e;unfold EG.drop;split;·exact⟨h,ZB _⟩
  ·exact⟨fun h=>by simp[EG.end_] at h,ZB _⟩
 ·exact EoK
 ·exact EoP
 ·exact⟨fun h=>by simp[EG.end_] at h,ZB _⟩
 ·exact⟨fun _=>rfl,ZB _⟩
 ·exact EoP
 ·exact EoP
theorem aC.item{xs:List Int}(h:aC g c.tok)(w:nT g k code xs c c' m new):aC g c'.tok/\c.tok.e<=c'.tok.e:=by
 rcases w with⟨_,rfl,_,_,_⟩|⟨_,_,_,_,_,rfl|⟨_,_,rfl⟩⟩|⟨_,_,_,_,w⟩;·exact EoP
 ·exact EoP
 ·exact EoP
 ·exact aC.Mj (c:={c with T:=(c.T.take k xs).tab}) h w
theorem aC.items{its:List (Int×List Int)}(w:dI g k its c c' m new):aC g c.tok->aC g c'.tok/\c.tok.e<=c'.tok.e:=by
 induction w with
 |nil=>exact fun h=>⟨h,ZB _⟩
 |cons h1 _ ih=>exact fun h=>⟨(ih (h.item h1).1).1,Int.le_trans (h.item h1).2 (ih (h.item h1).1).2⟩
theorem aC.step{e:JZ}(h:aC g c.tok)(w:DZ g e c rs c' rs' m new):aC g c'.tok/\c.tok.e<=c'.tok.e:=by
 rcases w with⟨_,h1,h2,its,r,_,_,w⟩|⟨_,_,w⟩|⟨_,_,w⟩|⟨_,_,w⟩|⟨_,_,rfl,_,rfl⟩;·exact aC.items w h
 ·obtain⟨a,b,T1,⟨rfl,rfl⟩|w⟩:=w;·exact⟨h,ZB _⟩
  ·rcases w with⟨_,_,rfl,_⟩|⟨_,t2,_,_,te,hto,rfl,rfl⟩|⟨rfl,p,hp,rfl⟩;·exact⟨h,ZB _⟩
   ·have te2:t2.e=c.tok.e+1:=te;exact EoK
   ·exact EoP
 ·rcases w with⟨_,rfl,rfl⟩|⟨_,L',t2,md,_,hto,te,rfl,_⟩;·exact⟨h,ZB _⟩
  ·refine⟨fun h=> ?_,te⟩;have h2:0<=t2.o:=h;omega
 ·obtain⟨⟨w1,w2⟩,we,_⟩:=w;refine⟨fun h3=> ?_,we⟩;by_cases ho:0<=c.tok.o
  ·rcases w1 ho with⟨a1,a2,a3,a4,a5⟩|⟨a1,_⟩;·rw[a3];exact h ho
   ·omega
  ·have:=w2 X;omega
 ·exact EoP
section
open Go.ChangeShapes Go.Deep Go.WideShapes
theorem Yp{enc:EC×V->Y9}{w:M}{t:EC}{fs:Array Field}{x:DataW Y9×List MemPlace}(ht:P.underlying t=D (.struct fs))(h:ZN enc P w 0 (fun _=>u) u n t cs=D x): ∃m,cs.length=P.cellsOf t/\ ∀(i:Nat) (f:Field),fs[i]?=D f-> ∃y,ZN enc P w 0 (fun _=>u) u m f.type ((cs.drop f.offset).take (P.cellsOf f.type))=D y:=by
 obtain⟨xs,m,-,-,hl,hxl,hf⟩:=DataW.trod_struct ht h;refine⟨m,hl,fun i f hif=> ?_⟩
 have hi:i<fs.size:=by
  rcases JG i fs.size with h|h;·exact h
  ·rw[g_ h] at hif;cases hif
 exact⟨_,(hf i f hif).trans (Ok X)⟩
theorem Egu{enc:EC×V->Y9}{w:M}{t e:EC}{k:Nat}{x:DataW Y9×List MemPlace}(ht:P.underlying t=D (.array k e))(h:ZN enc P w 0 (fun _=>u) u n t cs=D x): ∃m,cs.length=P.cellsOf t/\ ∀(i:Nat),i<k-> ∃y,ZN enc P w 0 (fun _=>u) u m e ((cs.drop (i*P.cellsOf e)).take (P.cellsOf e))=D y:=by obtain⟨xs,m,-,-,hl,hxl,hf⟩:=DataW.trod_array ht h;exact⟨m,hl,fun i hi=>⟨_,(hf i hi).trans (Ok X)⟩⟩
theorem Egv{enc:EC×V->Y9}{w:M}{t e:EC}{k:Nat}{kd:IntKind}{x:DataW Y9×List MemPlace}(ht:P.underlying t=D (.array k e))(he:P.underlying e=D (.int kd))(hc:P.cellsOf e=1)(hk:P.cellsOf t=k) (h:ZN enc P w 0 (fun _=>u) u n t cs=D x): ∃l:List Int,l.length=k/\cs=l.map (E kd)/\ ∀z∈l,(Lit.int kd z).wf=u:=by
 obtain⟨m,hl,hf⟩:=Egu ht h;rw[hk] at hl;rw[hc] at hf;have key: ∀i (hi:i<cs.length),∃z,cs[i]= .int kd z/\(Lit.int kd z).wf=u:=by intro i hi;obtain⟨y,hy⟩:=hf i X;rw[Nat.mul_one,kJ hi] at hy;obtain⟨z,e1,-,e3⟩:=DataW.trod_int he hy;simp only[Ir,Im,cG,and_true] at e1;exact⟨z,e1,e3⟩
 refine⟨cs.map fun v=>match v with| .int _ z=>z|_=>0,by simp[hl],?_,?_⟩;·rw[List.map_map];refine List.ext_getElem Eh fun i h1 h2=> ?_;obtain⟨z,e1,-⟩:=key i h1;simp[e1]
 ·intro z hz;obtain⟨v,hv,rfl⟩:=da.1 hz;obtain⟨i,hi,rfl⟩:=List.getElem_of_mem hv;obtain⟨z,e1,e3⟩:=key i hi;rw[e1];exact e3
theorem Yq{enc:EC×V->Y9}{w:M}{t:EC}{kd:IntKind}{x:DataW Y9×List MemPlace}(he:P.underlying t=D (.int kd))(h:ZN enc P w 0 (fun _=>u) u n t cs=D x): ∃z,cs=[.int kd z]/\(Lit.int kd z).wf=u:=by obtain⟨z,e1,-,e3⟩:=DataW.trod_int he h;exact⟨z,e1,e3⟩
end
section
open Go.ChangeShapes Go.Deep Go.WideShapes
theorem Yr(b o i:Nat):(⟨b,o,Z⟩:Eu).add i=⟨b,o+i,Z⟩:=XB
theorem Da{x:Int}(h:(Lit.int .i64 x).wf=u):JI x:=by unfold JI;exact Epu
def JZ.Y5(e:JZ)(a:Option Eu)(c:Nat):List (List V):=[[E I e.kind],[E I e.src],[EI a e.b.length c],[Ec e.valid,E I e.x0,E I e.x1,E I e.x2,E I e.x3,Ec e.give],[Ec e.bad]]
def JZ.cells(e:JZ)(a:Option Eu)(c:Nat):List V:=(e.Y5 a c).flatten
structure JZ.ok(e:JZ):Prop where
 x0:JI e.x0
 x1:JI e.x1
 x2:JI e.x2
 x3:JI e.x3
structure tF(w:M)(e:JZ)(a:Option Eu)(c:Nat):Prop where
 ok:e.ok
 row:Row w a e.b
 le:e.b.length<=c
 max:c<=9223372036854775807
theorem tF.G{w w':M}{e:JZ}{a:Option Eu}{c:Nat}(h:tF w e a c)(hb:El w w'):tF w' e a c:=
 ⟨h.ok,Iy h.row hb,h.le,h.max⟩
theorem Egw{enc:EC×V->Y9}{w:M}{x:DataW Y9×List MemPlace}(h:ZN enc EU w 0 (fun _=>u) u n 46 cs=D x): ∃(va gv:Bool) (x0 x1 x2 x3:Int),JI x0/\JI x1/\JI x2/\JI x3/\cs=[Ec va,E I x0,E I x1,E I x2,E I x3,Ec gv]:=by
 obtain⟨m,hl,hf⟩:=Yp Tryz.underlying46 h;rw[show Tryz.prog.cellsOf 46=6 from Ed] at hl;match cs,hl with
 |[c0,c1,c2,c3,c4,c5],_=>
  obtain⟨y0,h0⟩:=hf 0 _ U;have g0:ZN enc EU w 0 (fun _=>u) u m 4 (([c0,c1,c2,c3,c4,c5].drop 0).take (Tryz.prog.cellsOf 4))=D y0:=h0;rw[show Tryz.prog.cellsOf 4=1 from Ed] at g0;obtain⟨va,e0,-⟩:=DataW.trod_bool Tryz.underlying4 g0;simp only[IL,IG,Ir,Im,cG,and_true] at e0;obtain⟨y1,h1⟩:=hf 1 _ U;have g1:ZN enc EU w 0 (fun _=>u) u m 25 (([c0,c1,c2,c3,c4,c5].drop 1).take (Tryz.prog.cellsOf 25))=D y1:=h1;rw[show Tryz.prog.cellsOf 25=4 from Ed] at g1;obtain⟨xl,hxl,ex,hw⟩:=Egv Tryz.underlying25 Tryz.underlying3 Ed Ed g1;obtain⟨y2,h2⟩:=hf 2 _ U;have g2:ZN enc EU w 0 (fun _=>u) u m 4 (([c0,c1,c2,c3,c4,c5].drop 5).take (Tryz.prog.cellsOf 4))=D y2:=h2;rw[show Tryz.prog.cellsOf 4=1 from Ed] at g2;obtain⟨gv,e2,-⟩:=DataW.trod_bool Tryz.underlying4 g2;simp only[IL,IG,Ir,Im,cG,and_true] at e2;match xl,hxl with
  |[b0,b1,b2,b3],_=> simp only[IL,IG,Ir,Im,UL,Xu,cG,and_true] at ex;obtain⟨f0,f1,f2,f3⟩:=ex;exact⟨va,gv,b0,b1,b2,b3,Da (hw _ Eh),Da (hw _ Eh),Da (hw _ Eh),Da (hw _ Eh),by rw[e0,e2,f0,f1,f2,f3]⟩
theorem Egx(cs:List V)(h:cs.length=10):cs=(cs.drop 0).take 1++((cs.drop 1).take 1++((cs.drop 2).take 1++((cs.drop 3).take 6++(cs.drop 9).take 1))):=by
 have st: ∀a n:Nat,cs.drop a=(cs.drop a).take n++cs.drop (a+n):=fun a n=>by rw[<-List.drop_drop,hU]
 have e7:cs.drop 9=(cs.drop 9).take 1:=by rw[UZ (by rw[mV];omega)]
 rw[<-e7,<-st 3 6,<-st 2 1,<-st 1 1,<-st 0 1,IG]
theorem Egy{enc:EC×V->Y9}{w:M}{x:DataW Y9×List MemPlace}(h:ZN enc EU w 0 (fun _=>u) u n 48 cs=D x): ∃(e:JZ) (a:Option Eu) (c:Nat),tF w e a c/\cs=e.cells a c:=by
 obtain⟨m,hl,hf⟩:=Yp Tryz.underlying48 h;rw[show Tryz.prog.cellsOf 48=10 from Ed] at hl;have sp:=Egx cs hl;obtain⟨y0,h0⟩:=hf 0 _ U;have g0:ZN enc EU w 0 (fun _=>u) u m 3 ((cs.drop 0).take (Tryz.prog.cellsOf 3))=D y0:=h0;rw[show Tryz.prog.cellsOf 3=1 from Ed] at g0;obtain⟨y1,h1⟩:=hf 1 _ U;have g1:ZN enc EU w 0 (fun _=>u) u m 3 ((cs.drop 1).take (Tryz.prog.cellsOf 3))=D y1:=h1;rw[show Tryz.prog.cellsOf 3=1 from Ed] at g1;obtain⟨y2,h2⟩:=hf 2 _ U;have g2:ZN enc EU w 0 (fun _=>u) u m 23 ((cs.drop 2).take (Tryz.prog.cellsOf 23))=D y2:=h2;rw[show Tryz.prog.cellsOf 23=1 from Ed] at g2;obtain⟨y3,h3⟩:=hf 3 _ U;have g3:ZN enc EU w 0 (fun _=>u) u m 46 ((cs.drop 3).take (Tryz.prog.cellsOf 46))=D y3:=h3;rw[show Tryz.prog.cellsOf 46=6 from Ed] at g3;obtain⟨y4,h4⟩:=hf 4 _ U;have g4:ZN enc EU w 0 (fun _=>u) u m 4 ((cs.drop 9).take (Tryz.prog.cellsOf 4))=D y4:=h4;rw[show Tryz.prog.cellsOf 4=1 from Ed] at g4;obtain⟨b0,e0,-⟩:=Yq Tryz.underlying3 g0;obtain⟨b1,e1,-⟩:=Yq Tryz.underlying3 g1;obtain⟨va,gv,x0,x1,x2,x3,i0,i1,i2,i3,e3⟩:=Egw g3;obtain⟨b4,e4,-⟩:=DataW.trod_bool Tryz.underlying4 g4
 obtain⟨a,l,c,e2⟩: ∃a l c,(cs.drop 2).take 1=[EI a l c]:=by
  rcases open_slice bR g2 with⟨hcs,_⟩|⟨a,l,c,m,n,Y_,Pl,hcs,_⟩;·exact⟨_,_,_,hcs⟩
  ·exact⟨_,_,_,hcs⟩
 rw[e2] at g2;obtain⟨A,xs,cap,ev,r1,r2,r3,-⟩:=EU1 (EbK g2);obtain⟨rfl,rfl,rfl⟩:a=A/\l=xs.length/\c=cap:=by injection ev with a b c;exact⟨a,b,c⟩
 refine⟨⟨b0,b1,xs,va,x0,x1,x2,x3,gv,b4⟩,a,c,⟨⟨i0,i1,i2,i3⟩,r3,r1,r2⟩,?_⟩;rw[sp,e0,e1,e2,e3,e4];rfl
def qY(w:M)(v:V):Prop:= ∃(A:Option Eu) (l c:Nat),v=EI A l c/\(l=0\/ ∃b off,A=D ⟨b,off,Z⟩/\ ∀i,i<l-> ∃(e:JZ) (a:Option Eu) (d:Nat),tF w e a d/\ ∀j,j<10->w.cell? ⟨b,off+i*10+j,Z⟩=(e.cells a d)[j]?)
theorem mk_sl_api_Event{enc:EC×V->Y9}{w:M}{r:Reach}{v:V}{d:DataW Y9}{p:List MemPlace} (h:Value.okWide EU w r base 29 v) (hd:DataW.Trod enc EU w 0 (fun _=>u) u 29 v d p):qY w v:=by
 obtain⟨a,len,cap,rfl⟩:=okWide_slice Tryz.underlying29 h;obtain⟨fuel,hf⟩:=hd;rcases open_slice Tryz.underlying29 hf with⟨hcs,-⟩|⟨x,l,c,m,n,Y_,Pl,hcs,-,hl,hm,hmm,-,hi⟩;·simp[Value.cells] at hcs;obtain⟨rfl,rfl,rfl⟩:=hcs;exact⟨Z,0,0,U,.inl U⟩
 ·simp[Value.cells] at hcs;obtain⟨rfl,rfl,rfl⟩:=hcs;simp only[if_true] at hmm;subst hmm;rw[show Tryz.prog.cellsOf 48=10 from Ed] at hi;refine⟨D x,len,m,U,?_⟩;have hc: ∀i,i<len-> ∃(e:JZ) (a:Option Eu) (d:Nat),tF w e a d/\ ∀j,j<10->w.cell? ((x.add (i*10)).add j)=(e.cells a d)[j]?:=by intro i hil;obtain⟨cs',h1,h2⟩:=hi i X;obtain⟨e,a,d,ho,hcs⟩:=Egy h2;obtain⟨-,-,h3⟩:=World.cells?_some h1;exact⟨e,a,d,ho,fun j hj=>by rw[h3 j hj,hcs]⟩
  by_cases h0:len=0;·exact .inl h0
  ·have hx:x=⟨x.block,x.off,Z⟩:=by
    obtain⟨e,a,d,-,hj⟩:=hc 0 X;have c0:=hj 0 X;have e1:(x.add (0*10)).add 0=x:=by simp[Addr.add]
    rw[e1] at c0;have:=World.cell?_spot (c0.trans (show(e.cells a d)[0]?=D _ from rfl));cases x;simp_all
   refine .inr ⟨x.block,x.off,by rw[<-hx],fun i hil=> ?_⟩;obtain⟨e,a,d,ho,hj⟩:=hc i hil;refine⟨e,a,d,ho,fun j hjl=> ?_⟩;have h1:=hj j hjl;rw[hx,Yr,Yr] at h1;exact h1
end
section
variable{P:Program}{ops:Array Oper}{Q:Exit->Act->World->Prop}{C:World->Prop}{n:Nat}
theorem Egz{ro:Option Nat}(hd: ∀c,o.op≠ .defer c)(ρ:UH->V):o.semAt ro ρ=Iw ρ o:=Oper.semAt_eq ro ρ o hd
theorem Ys{row:String}{args:Array V}{w:M}{R:V->M->Prop}(h:Rows P row args w R):RowsIn X1 n P row args w R:=
 fun c cs _=>let ⟨v,w',r,s⟩:=h c cs;⟨v,w',r,stepsIn_wide.2 s⟩
theorem Yt(hF:F=X1\/ ∃l,F=Fence.wide.inRound l)(hd:F=X1\/ ∀c,o.op≠ .defer c){a:E6}{w:M}(hq: ¬LetsOut Q)(h:o.wp P a w K Q):o.wpIn F n P a w K Q:=by
 have hs:o.semAt F.round a.eval=Iw a.eval o:=by
  rcases hd with rfl|hd;·rfl
  ·exact Egz hd _
 have hf: ∀f,F.fn f:=fun f=>Yu
 have hc: ∀{f args w R},Ef P f args w R->CallsIn F (n-1) P f args w R:=fun h=>by
  rcases hF with rfl|⟨l,rfl⟩;·exact callsIn_wide.2 h
  ·exact CallsIn.inRound (F:=X1) l (callsIn_wide.2 h)
 have hr: ∀{row args w R},Rows P row args w R->RowsIn F (n-1) P row args w R:=fun h=>by
  rcases hF with rfl|⟨l,rfl⟩;·exact Ys h
  ·exact Ys (n:=n-1) h
 have hdp:F.depth.isSome=u->1<=n:=fun h=>by rcases hF with rfl|⟨l,rfl⟩<;>cases h
 refine⟨fun f _=>hf f,?_⟩;rw[hs];unfold ah at h;generalize (Iw a.eval o).run P w=r at*;cases r with
 |ok x w'=>
  cases x<;>simp only[Oper.upon,Oper.uponIn] at h⊢ <;>
   first
    |exact h
    |exact⟨hdp,hc h⟩
    |exact⟨hdp,hr h⟩
    |exact h.elim
 |halt x w'=>cases x<;>simp only[Oper.upon,Oper.uponIn] at h⊢ <;>exact h
theorem EgA{a:E6}{w:M}(h:o.wp P a w K (fun _ _ _=>False)):o.wpIn X1 n P a w K Q:=by
 have h1:=Yt (n:=n) (F:=X1) (.inl U) (.inl U) tG h;unfold Oper.wpIn at*;refine⟨h1.1,?_⟩;have h1:=h1.2;generalize (o.semAt Fence.wide.round a.eval).run P w=r at*;cases r with
 |ok x w'=>
  cases x<;>simp only[Oper.uponIn] at h1⊢ <;>
   first
    |exact h1
    |exact⟨h1.1,CallsIn.mono h1.2 (fun e w'' he=>by cases e<;>first|exact he|exact he.elim|exact Yv)⟩
    |exact⟨h1.1,RoundIn.mono h1.2 (fun e w'' he=>by cases e<;>first|exact he|exact he.elim|exact Yv)⟩
 |halt x w'=>cases x<;>simp only[Oper.uponIn] at h1⊢ <;>exact h1.elim
def tH(l:List EN):Bool:=l.all fun o=>match o.op with| .defer _=>false|_=>true
theorem EgB(h:tH l=u)(ho:o∈l): ∀c,o.op≠ .defer c:=fun c e=>by have:=UY.1 h o ho;rw[e] at this;cases this
theorem Db{F:Fence}(hF:F=X1\/ ∃l,F=Fence.wide.inRound l)(hq: ¬LetsOut Q): ∀(l1 l2:List EN) (a:E6) (w:M),tH l1=u-> IZ P ops (Exit.then (aD F n P ops Q l2) Q) l1 a w->aD F n P ops Q (l1++l2) a w
 |[],_,_,_,_,h=>h
 |o::l1,l2,a,w,hd,h=>by
  have hd2:tH l1=u:=by unfold tH at*;rw[ar,Oc] at hd;exact hd.2
  have hq': ¬LetsOut (Exit.then (aD F n P ops Q l2) Q):=fun⟨a,w,h⟩=>hq ⟨a,w,h⟩;unfold IZ at h;rw[List.cons_append];unfold aD;split
  ·rename_i hw;rw[if_pos hw] at h;rcases h with h|⟨_,h⟩
   ·have h1:=Yt (n:=n) hF (.inr (EgB hd (hO ..))) hq' h;unfold Oper.wpIn at*;refine⟨h1.1,?_⟩;have h1:=h1.2;generalize (o.semAt F.round a.eval).run P w=r at*;have ih:=fun a w h=>Db hF hq l1 l2 a w hd2 h;cases r with
    |ok x w'=>
     cases x<;>simp only[Oper.uponIn] at h1⊢ <;>
      first
       |exact ih _ _ h1
       |exact⟨h1.1,CallsIn.mono h1.2 (fun e w'' he=>Yw)⟩
       |exact⟨h1.1,RowsIn.mono h1.2 (fun _ _ he=>ih _ _ he)⟩
       |exact⟨h1.1,RoundIn.mono h1.2 (fun e w'' he=>Yw)⟩
    |halt x w'=>cases x<;>simp only[Oper.uponIn] at h1⊢ <;>exact h1
   ·exact absurd h hq'
  ·rename_i hw;rw[if_neg hw] at h;exact⟨fun f _=>Yu,Db hF hq l1 l2 _ w hd2 h⟩
theorem xq(m:Nat){a:E6}{w:M}(hF:F=X1\/ ∃l,F=Fence.wide.inRound l)(hq: ¬LetsOut Q)(hd:tH (l.take m)=u)(h:IZ P ops (Exit.then (aD F n P ops Q (l.drop m)) Q) (l.take m) a w):aD F n P ops Q l a w:=by have:=Db (n:=n) hF hq (l.take m) (l.drop m) a w hd h;rwa [hU] at this
theorem xr{l:Nat}{os:List EN}{a:E6}{w:M}(hq: ¬LetsOut Q)(hd:tH os=u)(h:IZ P os.toArray Q os a w):(ZP id os.toArray B).wpIn (Fence.wide.inRound l) n P Q a w:=by
 refine wpIn_region_lit ?_;have:=Db (P:=P) (F:=Fence.wide.inRound l) (n:=n) (ops:=os.toArray) (.inr ⟨l,U⟩) hq os [] a w hd ?_;·rwa [fc] at this
 ·have hm: ∀e a w,Q e a w->Exit.then (aD (Fence.wide.inRound l) n P os.toArray Q []) Q e a w:=fun e a w h=>by cases e<;>exact h
  have hqq:(Exit.then (aD (Fence.wide.inRound l) n P os.toArray Q []) Q)=Q:=by funext e a w;cases e<;>rfl
  rw[hqq];exact h
def xt(ops:Array EN)(m:Nat):Bool:=
 (UA ops.size).all fun i=>match ops[i]? with
  |none=>B
  |some o=>o.after.all (fun e=>decide (e.on<i))&&(decide (i<m)||(UA i).all fun j=>decide (j=0)||(UA (i+1)).any fun k=>decide (j<k)&&match ops[k]? with
   |some p=>p.after.any fun e=>Oq .any e&&e.on==j
   |none=>B)
theorem xu(h:xt ops m=u){i:Nat}(ho:ops[i]?=D o):(∀e∈o.after,e.on<i)/\(m<=i-> ∀j,j<i->j≠0-> ∃k p,j<k/\k<=i/\ops[k]?=D p/\ ∃e∈p.after,Oq .any e=u/\e.on=j):=by
 have hi:=(Jt.1 ho).1;have h1:=UY.1 h i (Z6.2 hi);simp only[ho,Oc,kI,decide_eq_true_eq] at h1;refine⟨fun e he=> ?_,fun hm j hj h0=> ?_⟩;·exact EnM
 ·rcases h1.2 with h2|h2;·omega
  ·have h3:=UY.1 h2 j (Z6.2 hj);simp only[kI,decide_eq_true_eq] at h3;rcases h3 with h3|h3;·exact absurd h3 h0
   ·obtain⟨k,hk,hk2⟩:=List.any_eq_true.1 h3;have hk1:=Z6.1 hk;simp only[Oc,decide_eq_true_eq] at hk2;obtain⟨hjk,hk3⟩:=hk2;cases hp:ops[k]? with
    |none=>rw[hp] at hk3;cases hk3
    |some p=> rw[hp] at hk3;obtain⟨e,he,hb⟩:=Array.any_eq_true'.1 hk3;simp only[Oc,beq_iff_eq] at hb;exact⟨k,p,hjk,X,hp,e,he,hb.1,hb.2⟩
theorem Yx(hB:xt ops m=u){listed:Array Bool}(hs:listed.size=ops.size)(hc:bK ops listed)(h0:listed.getD 0 u=u){i:Nat}(hi:i∈d_ .any ops listed)(hm:m<=i): ∀j,j<i->listed.getD j u=u:=by
 obtain⟨h1,o,ho,hall⟩:=Uo.1 hi;have hin:=(Jt.1 ho).1
 have key: ∀d j,i-j=d->j<i->listed.getD j u=u:=by
  intro d;induction d using mx with
  |ind d ih=>
   intro j hd hj;by_cases hj0:j=0;·subst hj0;exact h0
   ·obtain⟨k,p,hjk,hki,hp,e,he,hb,heq⟩:=(xu hB ho).2 hm j hj hj0;by_cases h:k=i;·subst h;have:p=o:=fI (hp.symm.trans ho);subst this;have h3:=hall e he hb;rw[heq] at h3;have h5:j<listed.size:=X;simpa[h5] using h3
    ·exact Eph
 exact fun j hj=>key _ j U hj
theorem EgC{k:Nat}(ho:ops[k]?=D o)(rest:List EN)(a:E6)(w:M)(h:aD X1 n P ops Q (o::rest) a w):wpOpIn X1 n P ops Q k (aD X1 n P ops Q rest) a w:=by unfold wpOpIn;simp only[ho];unfold aD at h;exact h
theorem Yy(hB:xt ops m=u)(hm0:1<=m): ∀(fuel k:Nat) (listed:Array Bool) (a:E6) (w:M),m<=k->k<=ops.size->ops.size-k<=fuel->listed.size=ops.size-> (∀j,j<ops.size->listed.getD j u=decide (j<k))->bK ops listed->aD X1 n P ops Q (ops.toList.drop k) a w->wpAnyIn X1 n P .any ops Q fuel listed a w:=by
 intro fuel;induction fuel with
 |zero=> intro k listed a w hm hk hf hs hl hc h;have hkn:k=ops.size:=X;subst hkn;rw[mq Eh] at h;refine wpAnyIn_done ?_ h 0;rw[mr];intro j hj;obtain⟨h1,o,ho,-⟩:=Uo.1 hj;have hjn:=(Jt.1 ho).1;rw[hl j hjn] at h1;simp at h1;omega
 |succ fuel ih=>
  intro k listed a w hm hk hf hs hl hc h;rcases JG k ops.size with hlt|hge
  ·have ho:ops[k]?=D ops[k]:=dY hlt;have hd:ops.toList.drop k=ops[k]::ops.toList.drop (k+1):=by rw[kJ Fk];simp
   rw[hd] at h;have hmem:k∈d_ .any ops listed:=by refine Uo.2 ⟨Fl,_,ho,fun e he _=> ?_⟩;have h1:=(xu hB ho).1 e he;exact Enf
   refine⟨fun h0=>Fm,fun i hi=> ?_⟩;obtain⟨h1,o,hoi,hall⟩:=Uo.1 hi;have hin:=(Jt.1 hoi).1;have hki:k<=i:=by exact Eo1
   have hik:i=k:=by
    rcases JG k i with h2|h2;·have h3:=Yx hB hs hc (by rw[hl 0 X];exact Ib X) hi X k h2;rw[hl k hlt] at h3;simp at h3
    ·omega
   subst hik;refine wpOpIn_mono (fun a' w' h'=>ih (i+1) (listed.setIfInBounds i u) a' w' X X X hI (fun j hj=> ?_) (hc.set hs hi) h') (EgC ho _ a w h);by_cases e:i=j;·subst e;exact Enc
   ·exact Eou
  ·have hkn:k=ops.size:=X;subst hkn;rw[mq Eh] at h;refine wpAnyIn_done ?_ h _;exact EmM
theorem EgD{i:Nat}{a:E6}{K:E6->Prop}{K':E6->M->Prop}{w:M}(hC:C w)(h: ∀a w',C w'->K a->K' a w')(hh:qOp P ops C i K a):wpOpIn X1 n P ops Q i K' a w:=by
 have h1:=wpOp_of_qOp (Q':=fun _ _ _=>False) hC h hh;unfold wpOp at h1;unfold wpOpIn;split;·rename_i ho;rw[ho] at h1;exact h1
 ·rename_i o ho;rw[ho] at h1;simp only at h1;split
  ·rename_i hw;rw[if_pos hw] at h1;rcases h1 with h1|⟨_,_,_,h1⟩;·exact EgA h1
   ·exact h1.elim
  ·rename_i hw;rw[if_neg hw] at h1;exact⟨fun _ _=>trivial,h1⟩
theorem EgF(hB:xt ops m=u)(hm0:1<=m)(hmn:m<=ops.size){F:(Nat->V)->E6}{y:Nat->V} (hF: ∀i o x v,i<m->ops[i]?=D o->(F x).put o.dst v=F (J4 x i v)) (hstep: ∀i o x,i<m->ops[i]?=D o->(∀e∈o.after,Oq .any e=u->x e.on=y e.on)->YieldsIn P ops C o (y i) (F x)) (hend: ∀x w,C w->(∀i,i<m->x i=y i)->aD X1 n P ops Q (ops.toList.drop m) (F x) w): ∀(fuel:Nat) (listed:Array Bool) (x:Nat->V) (w:M),(UX ops listed).length<=fuel->listed.size=ops.size->listed.getD 0 u=u->(∀j,m<=j->j<ops.size->listed.getD j u=B)->bK ops listed->C w-> (∀i,i<m->listed.getD i u=u->x i=y i)->wpAnyIn X1 n P .any ops Q fuel listed (F x) w:=by
 intro fuel;induction fuel with
 |zero=>
  intro listed x w hf hs hl0 ht hc hb hr
  have hall: ∀j,j<ops.size->listed.getD j u=u:=by
   intro j hj;cases hc:listed.getD j u;·exact El_
   ·rfl
  have hm:m=ops.size:=by
   rcases JG m ops.size with h|h;·exact Env
   ·omega
  refine Yy hB hm0 0 m listed _ w (E7 _) hmn X hs (fun j hj=>by rw[hall j hj,Ib X]) hc (hend x w hb fun i hi=>hr i hi (hall i X))
 |succ fuel ih=>
  intro listed x w hf hs hl0 ht hc hb hr;by_cases hall: ∀j,j<m->listed.getD j u=u
  ·have hlen:ops.size-m<=fuel+1:=by
    have hsub:(List.range' m (ops.size-m)).length<=(UX ops listed).length:=by
     apply List.Nodup.length_le_of_subset;·exact Epy
     ·exact Emg
    simp at hsub;omega
   refine Yy hB hm0 (fuel+1) m listed _ w (E7 _) hmn hlen hs (fun j hj=> ?_) hc (hend x w hb fun i hi=>hr i hi (hall i hi));rcases JG j m with h|h;·rw[hall j h,Ib h]
   ·rw[ht j h hj,IJ X]
  ·refine⟨fun h0=> ?_,fun i hi=> ?_⟩
   ·exfalso
    have hex: ∃j,j<m/\listed.getD j u=B:=by
     apply jZ;intro hno
     exact hall fun j hj=>by
      cases hc:listed.getD j u;·exact Eog
      ·rfl
    have hmin: ∃j,(j<m/\listed.getD j u=B)/\ ∀k,k<j-> ¬(k<m/\listed.getD k u=B):=by
     obtain⟨j,hj⟩:=hex;induction j using mx with
     |ind j fE=>
      by_cases h: ∃k,k<j/\(k<m/\listed.getD k u=B);·exact EmN
      ·exact Emz
    obtain⟨j,⟨hjm,hj⟩,hlt⟩:=hmin;have hjn:j<ops.size:=X;have ho:ops[j]?=D ops[j]:=dY hjn
    have:j∈d_ .any ops listed:=by
     refine Uo.2 ⟨hj,_,ho,fun e he _=> ?_⟩;have h1:=(xu hB ho).1 e he;have h2:=hlt e.on h1;have h3:e.on<listed.size:=X;cases hc:listed.getD e.on u;·exact EoH
     ·simpa[h3] using hc
    rw[h0] at this;cases this
   ·obtain⟨h1,o,ho,dX⟩:=Uo.1 hi;have hin:=(Jt.1 ho).1;have him:i<m:=by apply jZ;intro hge;apply hall;intro j hj;exact Yx hB hs hc hl0 hi X j X
    have hi0:i≠0:=fun e=>by subst e;rw[hl0] at h1;cases h1
    have hdr: ∀e∈o.after,Oq .any e=u->x e.on=y e.on:=by intro e he hb';have h3:=dX e he hb';have h4:=(xu hB ho).1 e he;exact EnS
    have st:=hstep i o x him ho hdr;refine EgD (C:=C) (K:=fun a'=>a'=F (J4 x i (y i))) hb (fun a' w' hw' ha'=> ?_) (st.qOp ho ?_)
    ·subst ha';have hlt:=mw hs hin h1;refine ih _ _ w' X hI (by rw[XL u hi0];exact hl0) (fun j hj hjn=> ?_) (hc.set hs hi) hw' (fun j hj hl=> ?_);·rw[XL u X];exact ht j hj hjn
     ·by_cases hji:j=i;·subst hji;rw[kE]
      ·exact EoT
    ·exact hF i o x (y i) him ho
def Mk(l:List EN)(m:Nat):Bool:=xt l.toArray m&&decide (1<=m)&&decide (m<=l.length)&&Region.noSelect (l.take m).toArray&&decide (O4 (l.take m)).Nodup&&rH (l.take m) l.toArray&&Region.noSelect l.toArray&&Region.free .any l.toArray (Zn l.length B) 0&&(d_ .any l.toArray (Zn l.length B)).contains 0
theorem EgG(m:Nat)(hm:P.follows .mixedOrders=u)(hB:Mk l m=u){x:UH}(ho0:l[0]?=D o0)(hx:o0.op= .move x)(hg0:o0.guard=Z)(hQ: ∀c a w,Q (.panic c) (a.put o0.dst (a0.eval x)) w->Q (.panic c) a w) (hC:C w0.drew) (h:wpQuiet P l.toArray C (fun a'=> ∀w',C w'->aD X1 n P l.toArray Q (l.drop m) a' w') (l.take m) a0):(ZP id l.toArray u).wp P Q a0 w0:=by
 simp only[Mk,Oc,decide_eq_true_eq] at hB;obtain⟨⟨⟨⟨⟨⟨⟨⟨hB,hm0⟩,hmn⟩,hsel⟩,hnd⟩,hap⟩,EgH⟩,hfree⟩,Yz⟩:=hB;obtain⟨y,hy,hK⟩:=Fs (l.take m) 0 a0 h;have htk: ∀i o,i<m->l.toArray[i]?=D o->(l.take m)[i]?=D o:=fun i o hi ho=>by exact EnX
 have hlen:(l.take m).length=m:=mg;have oP:EL (l.take m) 0 (held (l.take m) a0) a0=a0:=ja a0 _ 0 _ (fun k o ho d hd=>by unfold held;rw[JV,ho];simp only[hd]);have hl0:l.length=(l.length-1)+1:=X;have YA: ∀(w:M),(Iw a0.eval o0).run P w= .ok (.value (a0.eval x)) w:=fun w=>by unfold Iw;rw[hx];rfl
 have hwant:I_ o0 (Jd l.toArray a0.tmps)=u:=by unfold I_;rw[hg0]
 have my: ∀i o x v,i<m->l.toArray[i]?=D o->(EL (l.take m) 0 x a0).put o.dst v=EL (l.take m) 0 (J4 x i v) a0:=by intro i o x v hi ho;exact Emj
 have hy0:y 0=a0.eval x:=by
  have h1:=hy 0 o0 (by rw[List.getElem?_take,if_pos X];exact ho0);rw[Im,JV] at h1;rcases h1 with⟨_,h1⟩|⟨h1,_⟩;·have h2:=h1 w0.drew hC;simp only[EL] at h2;unfold Oper.quietAt at h2;rw[YA] at h2;exact h2.2.symm
  ·simp only[EL] at h1;rw[hwant] at h1;cases h1
 refine(wpIn_wide (n:=n)).1 (wpIn_region_any hm ?_);rw[show l.toArray.size=(l.length-1)+1 from Jn];refine wpAnyIn_take (i:=0) (oi:=o0) (v:=a0.eval x) U (by simpa using ho0) EgH (by simpa[show l.length-1+1=l.length from X] using hfree) (by simpa[show l.length-1+1=l.length from X] using Yz) hQ ⟨.inl ⟨hwant,YA⟩,fun w=>by unfold Oper.about;rw[hx]⟩ ?_;rw[show l.length-1+1=l.length from X];have key:=EgF (P:=P) (Q:=Q) (C:=C) (n:=n) (ops:=l.toArray) (F:=fun x=>EL (l.take m) 0 x a0) (y:=y) hB hm0 uZ my ?_ ?_ (l.length-1) ((Zn l.length B).setIfInBounds 0 u) (J4 (held (l.take m) a0) 0 (a0.eval x)) w0.drew ?_ Eh Eh (fun j hj hjn=> ?_) ?_ hC (fun i hi h=> ?_);·have e:=my 0 o0 (held (l.take m) a0) (a0.eval x) X (by simpa using ho0);simp only[oP] at e;rw[e];exact key
 ·intro i o x hi ho hd;have hi':=htk i o hi ho;have h1:=hy i o hi';rw[JV] at h1
  have e1:EL ((l.take m).take i) 0 y a0=EL (l.take m) 0 (mix (held (l.take m) a0) y i) a0:=by
   have e2:EL (l.take m) 0 (mix (held (l.take m) a0) y i) a0=EL ((l.take m).drop i) i (mix (held (l.take m) a0) y i) (EL ((l.take m).take i) 0 (mix (held (l.take m) a0) y i) a0):=by exact EnG
   have e3:EL ((l.take m).take i) 0 (mix (held (l.take m) a0) y i) a0=EL ((l.take m).take i) 0 y a0:=rK _ 0 _ _ _ fun j _ hj=>by have:j<i:=yQ;simp[mix,this]
   rw[e2,e3];refine(ja _ _ _ _ fun k p hp d hd=> ?_).symm;have hk:(l.take m)[i+k]?=D p:=mF;have hkm:i+k<m:=Pd;show mix (held (l.take m) a0) y i (i+k)=_;have e5:mix (held (l.take m) a0) y i (i+k)=a0.tmps.getD d I6:=by exact Epv
   rw[e5];exact EoR
  rw[e1] at h1;have deps: ∀e∈o.after,Oq .any e=u->x e.on=mix (held (l.take m) a0) y i e.on:=by intro e he hb;have:=(xu hB ho).1 e he;rw[hd e he hb];simp[mix,this]
  obtain⟨s1,s2⟩:=Pb (ops:=l.toArray) hnd hap hsel (aP.2 ⟨i,hi'⟩) (mix (held (l.take m) a0) y i) x a0 (fun e he hb=>(deps e he hb).symm);exact h1.of_same s1 s2
 ·exact Enp
 ·have h2:=mw (ops:=l.toArray) (listed:=Zn l.length B) (i:=0) Eh (by rw[List.size_toArray];omega) (yN (by simpa using(show 0<l.length from X)));have h3:=mA (fun i=> !(Zn l.length B).getD i u) (UA l.toArray.size);have h4:(UX l.toArray (Zn l.length B)).length<=l.length:=by simpa[UX] using h3
  rw[hlen] at*;omega
 ·rw[XL u X];have:j<l.length:=by simpa using hjn
  simp[this]
 ·have hcl:bK l.toArray (Zn l.length B):=by intro j o ho hl;have hj:=(Jt.1 ho).1;rw[yN yR] at hl;cases hl
  exact hcl.set Eh (by simpa using Yz)
 ·by_cases h0:i=0;·subst h0;rw[kE,hy0]
  ·rw[XL u (fun e=>h0 e.symm)] at h;have:i<l.length:=X;simp[this] at h
theorem Ml(m:Nat)(hm:P.follows .mixedOrders=u)(hB:Mk l m=u){x:UH}(ho0:l[0]?=D o0)(hx:o0.op= .move x)(hg0:o0.guard=Z)(hQ: ∀c a w,Q (.panic c) (a.put o0.dst (a0.eval x)) w->Q (.panic c) a w) (h:wpQuiet P l.toArray (fun w'=> ∃y,w'=Ey w0 y) (fun a'=> ∀w',(∃y,w'=Ey w0 y)->aD X1 9 P l.toArray Q (l.drop m) a' w') (l.take m) a0):(ZP id l.toArray u).wp P Q a0 w0:=
 EgG m hm hB ho0 hx hg0 hQ ⟨⟨_,Jk w0⟩,U⟩ h
end
theorem Dc(A:Option Eu)(n c:Nat)(w:M):(binOp .eql 23 (EI A n c) (EI Z 0 0)).run EU w= .ok (Ec (match A with|none=>true|some _=>false)) w:=by cases A<;>kernel_rfl
theorem YB(w:M)(base:Nat)(h:base<=w.heap.size):Own (w.alloc (EJ #[] 5)) base (D ⟨w.heap.size,0,Z⟩) 0 []:=
 ⟨pE (base:=base) (size:=1) (e:=5) w #[] 0 h OD U,fun _ h=>oL⟩
theorem EgK(A:Option Eu)(xs:List Int)(n c:Nat)(w:M)(hn:xs.length=n)(hr:Row w A xs)(hm:n<=1000000): Ef EU 158 #[EI A n c] w fun e w'=>(∃A' c',e=Eg (EI A' n c')/\Own w' w.heap.size A' c' xs)/\El w w':=by
 cases A with
 |none=>
  have hx:xs=[]:=by
   rcases hr.1 with h|⟨b,o,h,-⟩;·exact h
   ·cases h
  subst hx;obtain rfl:n=0:=hn.symm;have hne0:=Dc Z 0 c w;go_enter Tryz.func158,Tryz.ntmps158;exact Epi
 |some ad=> have hne0:=Dc (D ad) n c w;have HR:=O hr;have O1:=O<|YB w w.heap.size (E7 _);have b1:=O<|Ep w (EJ #[] 5);clear hr;go_enter Tryz.func158,Tryz.ntmps158;go_wp2_with (with_reducible refine I7 7 ?_);apply Eo;obtain⟨A7,c7,w7,hrun,hown,hbel,-⟩:=zd (w.alloc (EJ #[] 5)) w.heap.size (D ⟨w.heap.size,0,Z⟩) 0 [] O1.out (D ad) c xs (Iy HR.out b1.out) Jn b1.out.size 23;rw[List.length_nil,JV,hn] at hrun;have vL:=O hown;have B7:=O<|b1.out.trans hbel;clear hown hbel;go_wp2_with ((with_reducible refine Is 7 ?_);(refine Ol (Ei U) (Up U U U hrun) ?_));go_ret;exact⟨⟨A7,c7,U,vL.out⟩,B7.out⟩
theorem Dd(A:Option Eu)(xs:List Int)(n c:Nat)(w:M)(hn:xs.length=n)(hr:Row w A xs)(hm:n<=1000000): Ef EU 41 #[EI A n c] w fun e w'=>(∃A' c',e=Eg (EI A' n c')/\Own w' w.heap.size A' c' xs)/\El w w':=by
 cases A with
 |none=>
  have hx:xs=[]:=by
   rcases hr.1 with h|⟨b,o,h,-⟩;·exact h
   ·cases h
  subst hx;obtain rfl:n=0:=hn.symm;have hne0:=Dc Z 0 c w;go_enter Tryz.func41,Tryz.ntmps41;exact Epi
 |some ad=> have hne0:=Dc (D ad) n c w;have HR:=O hr;have O1:=O<|YB w w.heap.size (E7 _);have b1:=O<|Ep w (EJ #[] 5);clear hr;go_enter Tryz.func41,Tryz.ntmps41;go_wp2_with (with_reducible refine I7 7 ?_);apply Eo;obtain⟨A7,c7,w7,hrun,hown,hbel,-⟩:=zd (w.alloc (EJ #[] 5)) w.heap.size (D ⟨w.heap.size,0,Z⟩) 0 [] O1.out (D ad) c xs (Iy HR.out b1.out) Jn b1.out.size 23;rw[List.length_nil,JV,hn] at hrun;have vL:=O hown;have B7:=O<|b1.out.trans hbel;clear hown hbel;go_wp2_with ((with_reducible refine Is 7 ?_);(refine Ol (Ei U) (Up U U U hrun) ?_));go_ret;exact⟨⟨A7,c7,U,vL.out⟩,B7.out⟩
theorem YC: ∀(xs:List Int),(∀x∈xs,0<=x/\x<=255)->Lib.indexByte (Lib.bytesOf xs) (165:Int).toNat.toUInt8=if UR xs<xs.length then(UR xs:Int) else-1
 |[],_=>rfl
 |x::r,h=>by
  have hx:=h x (hO ..);have ih:=YC r (fun y hy=>h y (ai _ hy));unfold Lib.bytesOf at*;rw[UL];unfold Lib.indexByte UR
  have hb:(UInt8.ofNat x.toNat==(165:Int).toNat.toUInt8)=decide (x=165):=by
   obtain⟨k,rfl⟩: ∃k:Nat,x=k:=⟨x.toNat,X⟩;have hk:k<=255:=X;rw[show(UInt8.ofNat ((k:Int).toNat)==(165:Int).toNat.toUInt8)=decide (UInt8.ofNat k=165) from rfl];by_cases h5:k=165;·subst h5;rfl
   ·rw[IJ (p:=(k:Int)=165) X];refine IJ ?_;intro he;have:=congrArg UInt8.toNat he;simp at this;omega
  rw[hb,ih];by_cases h5:x=165;·simp[h5]
  ·rw[IJ h5,if_neg Eb,if_neg h5];by_cases h6:UR r<r.length;·rw[if_pos h6,if_neg Iu,if_pos Iu];all_goals (try simp)
   ·rw[if_neg h6,if_pos Eb,if_neg Iu]
theorem EgL(A:Option Eu)(xs:List Int)(n c:Nat)(w:M)(hn:xs.length=n)(h1:1<=n)(hr:Row w A xs): Ef EU 159 #[EI A n c,E IP 165] w fun e w'=>e=Eg (E I (if UR xs<n then(UR xs:Int) else-1))/\w=w':=by
 have hi:=YC xs hr.2;subst hn;obtain⟨z,hz⟩:=En ((if UR xs<xs.length then(UR xs:Int) else-1));rw[<-hz] at hi⊢
 have HX:(Extern.BytealgIndexByte.indexByte #[EI A xs.length c,E IP 165]).run EU w= .ok (E I z) w:=by
  rcases hr.1 with h|⟨b,o,h,hc⟩;·subst h;simp at h1
  ·subst h;rw[<-hi];exact Lib.run_indexByteSlice (P:=EU) w b o xs.length c xs U (fun i h2=>by rw[hc i h2,UK,Ok h2];rfl) 165
 clear hi hz hr h1;go_enter Tryz.func159,Tryz.ntmps159;go_wp2;rw[run_callFunc_extern Tryz.func201 Ed Ed Ed (e:=Extern.BytealgIndexByte.indexByte) Ed,HX];simp only[Result.andThen];rw[Oper.upon_value];go_wp2;exact ElD
def Uy(c:EB):List V:=[E I c.tok.h,E I c.tok.e,E I c.tok.o,E I c.mode,E I c.Em.r,E I c.Em.s,E I c.Em.q,E I c.pt.c,E I c.pt.a0,E I c.pt.a1,E I c.pt.a2,E I c.pt.a3,E I c.pt.n0,E I c.pt.n1,E I c.pt.n2,E I c.pt.n3,E I c.pt.b.r,E I c.pt.b.s,E I c.pt.b.q]
def Zk(h:List V)(q:V)(o r:Nat->V)(b:V):List (List V):=[h,[q],[o 0],[o 1],[o 2],[o 3],[o 4],[r 0],[r 1],[r 2],[r 3],[r 4],[b]]
def mO(c:EB)(q:V):List V:=(Zk (Uy c) q (fun i=>Ec (c.T.Zu i)) (fun i=>E I (c.T.gI i)) (Ec c.tok.bad)).flatten
theorem Df(h:List V)(q:V)(o r:Nat->V)(b:V)(hl:h.length=19)(k:Nat)(hk:1<=k)(hk2:k<13):aT (Zk h q o r b) k=18+k:=by have h:k=1\/k=2\/k=3\/k=4\/k=5\/k=6\/k=7\/k=8\/k=9\/k=10\/k=11\/k=12:=X;rcases h with rfl|rfl|rfl|rfl|rfl|rfl|rfl|rfl|rfl|rfl|rfl|rfl<;>simp[aT,Zk,hl]
theorem fB:IW EU 54 31:=⟨⟨_,Tryz.underlying54,U⟩,Ed⟩
def X2:Array V:=(Zk ((UA 19).map fun _=>E I 0) (EI Z 0 0) (fun _=>Ec B) (fun _=>E I 0) (Ec B)).flatten.toArray
theorem tK:Od EU 54 X2:=by exact El7
theorem EgM(h e o m:Int)(br bs bq:Int)(pc a0 a1 a2 a3 n0 n1 n2 n3 qr qs qq:Int)(bad:Bool):Tryz.prog.built 54 [(0,E I h),(1,E I e),(2,E I o),(3,E I m),(4,EZ #[E I br,E I bs,E I bq]),(5,EZ #[E I pc,E I a0,E I a1,E I a2,E I a3,E I n0,E I n1,E I n2,E I n3,E I qr,E I qs,E I qq]),(9,Ec bad)]=D (Zk [E I h,E I e,E I o,E I m,E I br,E I bs,E I bq,E I pc,E I a0,E I a1,E I a2,E I a3,E I n0,E I n1,E I n2,E I n3,E I qr,E I qs,E I qq] (EI Z 0 0) (fun _=>Ec B) (fun _=>E I 0) (Ec bad)).flatten.toArray:=Ed
theorem YD{h:List V}{q:V}{o r:Nat->V}{b:V}(h1: ∀v∈h,v.oneCell'=u)(h2:q.oneCell'=u)(h3: ∀i,(o i).oneCell'=u)(h4: ∀i,(r i).oneCell'=u)(h5:b.oneCell'=u):(Zk h q o r b).flatten.toArray.all (·.oneCell')=u:=by refine all_oneCell_toArray fun v hv=> ?_;simp only[Zk,List.flatten_cons,List.flatten_nil,fc,XP,Ui,UP,or_false] at hv;rcases hv with hv|rfl|rfl|rfl|rfl|rfl|rfl|rfl|rfl|rfl|rfl|rfl|rfl<;>first|exact h1 _ hv|exact h2|exact h3 _|exact h4 _|exact h5
theorem YF(c:EB): ∀v∈Uy c,v.oneCell'=u:=by intro v hv;simp only[Uy,Ui,UP,or_false] at hv;rcases hv with rfl|rfl|rfl|rfl|rfl|rfl|rfl|rfl|rfl|rfl|rfl|rfl|rfl|rfl|rfl|rfl|rfl|rfl|rfl<;>rfl
theorem Mm{h:List V}(q:V)(o r:Nat->V)(b:V)(hl:h.length=19):(Zk h q o r b).flatten.toArray.size=31:=by simp[Zk,hl]
theorem Mn{F:UH->V}{T:EC}{parts:Array (Nat×UH)}{cs:Array V}{w:M}(ho:o.op= .build T parts)(hb:P.built T (parts.toList.map fun(i,x)=>(i,F x))=D cs):(Iw F o).run P w= .ok (.value (EZ cs)) w:=by unfold Iw;simp only[ho,Ud,run_build (P:=P) w T (parts.map fun(i,x)=>(i,F x)) cs (by rw[Array.toList_map];exact hb),Uf,UU]
theorem EgN(lo:Nat)(g:Nat->V)(gc gq gt:Nat)(c:EB)(w:M)(C:JO lo g gc gq gt c w): Ef EU 27 #[Y (D ⟨gc,0,Z⟩)] w fun e w'=>(∃v,e=Eg (EZ (mO c v).toArray)/\w'.ownsRow w.heap.size 3 1 v c.q.length (Zc ((Ju c.q).map One.s)))/\El w w':=by
 have C0:=O C;have LT:=O C.lv;have II:=O Wd;clear C;have b1:=Ep w (EJ X2 54);have C1:=O<|C0.out.G b1;have KR:=O<|H.new w X2 54;have BB:=O b1;clear b1 C0;go_enter Tryz.func27,Tryz.ntmps27;go_wp2_with (with_reducible refine wA tK ?_);generalize w.alloc (EJ X2 54)=w1 at*;obtain⟨gr,hgr⟩:=En w.heap.size;have q_:=O hgr;rw[<-hgr] at KR;refine(xm lo g gc gq gt c _ C1.out).mono ?_;rintro e4 w4 ⟨rfl,rfl⟩;go_wp2_with fail;obtain⟨n0,hn0⟩:=En w1.heap.size;have X0:=O<|OQ hn0;have Z4:=O (show lo<=n0/\w.heap.size<=n0/\gr<n0/\w.heap.size<=gr by have:=LT.out;have:=BB.out.size;have:=KR.out.lt;omega);clear hgr;refine iF (Ph:=fun _ wq=>JO lo g gc gq gt c wq/\n0<=wq.heap.size/\El w wq/\H wq gr X2 54) (Rel:=Oa) (Ij:=lP 54 31 (Zk (Uy c) (EI Z 0 0) (fun _=>Ec B) (fun _=>E I 0) (Ec c.tok.bad)).flatten.toArray) [.val (fun v=>v=Y (D ⟨gc,0,Z⟩)),.val (fun v=>v=Y (D ⟨gc,0,Z⟩)),.val (fun v=>v=Y (D ⟨gc,56,Z⟩)),.val (fun v=>v=Y (D ⟨gc,56,Z⟩)),.val (fun v=>v=E I c.tok.h),.val (fun v=>v=Y (D ⟨gc,0,Z⟩)),.val (fun v=>v=Y (D ⟨gc,0,Z⟩)),.val (fun v=>v=Y (D ⟨gc,56,Z⟩)),.val (fun v=>v=Y (D ⟨gc,57,Z⟩)),.val (fun v=>v=E I c.tok.e),.val (fun v=>v=Y (D ⟨gc,0,Z⟩)),.val (fun v=>v=Y (D ⟨gc,0,Z⟩)),.val (fun v=>v=Y (D ⟨gc,56,Z⟩)),.val (fun v=>v=Y (D ⟨gc,58,Z⟩)),.val (fun v=>v=E I c.tok.o),.val (fun v=>v=Y (D ⟨gc,0,Z⟩)),.val (fun v=>v=Y (D ⟨gc,0,Z⟩)),.val (fun v=>v=Y (D ⟨gc,98,Z⟩)),.val (fun v=>v=E I c.mode),.val (fun v=>v=Y (D ⟨gc,0,Z⟩)),.val (fun v=>v=Y (D ⟨gc,0,Z⟩)),.val (fun v=>v=Y (D ⟨gc,99,Z⟩)),.val (fun v=>v=EZ #[E I c.Em.r,E I c.Em.s,E I c.Em.q]),.val (fun v=>v=Y (D ⟨gc,0,Z⟩)),.val (fun v=>v=Y (D ⟨gc,0,Z⟩)),.val (fun v=>v=Y (D ⟨gc,102,Z⟩)),.val (fun v=>v=EZ #[E I c.pt.c,E I c.pt.a0,E I c.pt.a1,E I c.pt.a2,E I c.pt.a3,E I c.pt.n0,E I c.pt.n1,E I c.pt.n2,E I c.pt.n3,E I c.pt.b.r,E I c.pt.b.s,E I c.pt.b.q]),.val (fun v=>v=Y (D ⟨gc,0,Z⟩)),.val (fun v=>v=Y (D ⟨gc,0,Z⟩)),.val (fun v=>v=Y (D ⟨gc,56,Z⟩)),.val (fun v=>v=Y (D ⟨gc,63,Z⟩)),.val (fun v=>v=Ec c.tok.bad),.val (fun v=>v=EZ (Zk (Uy c) (EI Z 0 0) (fun _=>Ec B) (fun _=>E I 0) (Ec c.tok.bad)).flatten.toArray),.dep (bF 54 31 n0) (fun v w w' h hr=>h.G hr) (fun v w w' h hr=>h.sz hr),.tie [33] (fun x w=> ∃b:Nat,x 33=Y (D ⟨b,0,Z⟩)/\n0<=b/\H w b (Zk (Uy c) (EI Z 0 0) (fun _=>Ec B) (fun _=>E I 0) (Ec c.tok.bad)).flatten.toArray 54) (fun x w w' h hr=>qo) (fun x y w hq h=>by rw[hq 33 Eh] at h;exact h)] [B,B,B,B,B,B,B,B,B,B,B,B,B,B,B,B,B,B,B,B,B,B,B,B,B,B,B,B,B,B,B,B,B,B,u] U [[],[],[],[],[],[],[],[],[],[],[],[],[],[],[],[],[],[],[],[],[],[],[],[],[],[],[],[],[],[],[],[],[],[],[33]] U [34] [(0,0),(0,0),(0,0),(0,0),(0,0),(0,0),(0,0),(0,0),(0,0),(0,0),(0,0),(0,0),(0,0),(0,0),(0,0),(0,0),(0,0),(0,0),(0,0),(0,0),(0,0),(0,0),(0,0),(0,0),(0,0),(0,0),(0,0),(0,0),(0,0),(0,0),(0,0),(0,0),(0,0),(0,0),(0,0)] Ed Ed Ed Ed Ed Ed U_ Ed ?hPh ?h0 ?hstep ?hend;case hPh=> intro p w2 w3 h hr;exact⟨h.1.G hr,EA h.2.1 (XJ hr),bt h.2.2.1 hr,H.G h.2.2.2 hr⟩
 case h0=> have hb:=Jk w1;exact⟨C1.out.G hb,EA (OQ hn0) (XJ hb),bt BB.out hb,H.G KR.out hb⟩
 case hstep=>
  refine⟨?_,?_,?_,?_,?_,?_,?_,?_,?_,?_,?_,?_,?_,?_,?_,?_,?_,?_,?_,?_,?_,?_,?_,?_,?_,?_,?_,?_,?_,?_,?_,?_,?_,?_,?_,trivial⟩;all_goals first|intro xv wq p hlo hhi hp hd|intro xv wq hp hd
  all_goals try obtain rfl:p=0:=X
  all_goals simp only[EL,In,Ip,Ig,Ih]
  ·exact Emq
  ·have d0:xv 0=Y (D ⟨gc,0,Z⟩):=hd.at 0 rfl;exact EpX
  ·have d1:xv 1=Y (D ⟨gc,0,Z⟩):=hd.at 1 rfl;exact Es Xw U
  ·have d2:xv 2=Y (D ⟨gc,56,Z⟩):=hd.at 2 rfl;exact Es Kk U
  ·have d3:xv 3=Y (D ⟨gc,56,Z⟩):=hd.at 3 rfl;have cc:wq.cell? ⟨gc,56,Z⟩=D (E I c.tok.h):=hp.1.cell 1 rfl 0 XV;exact Es (by simp[go_sem,d3,cc]) U
  ·exact Emq
  ·have d5:xv 5=Y (D ⟨gc,0,Z⟩):=hd.at 5 rfl;exact Es dq U
  ·exact En5
  ·have d7:xv 7=Y (D ⟨gc,56,Z⟩):=hd.at 7 rfl;exact Es gh U
  ·have d8:xv 8=Y (D ⟨gc,57,Z⟩):=hd.at 8 rfl;have cc:wq.cell? ⟨gc,57,Z⟩=D (E I c.tok.e):=hp.1.cell 1 rfl 1 XV;exact Es CU U
  ·exact Emq
  ·have d10:xv 10=Y (D ⟨gc,0,Z⟩):=hd.at 10 rfl;exact Eps
  ·have d11:xv 11=Y (D ⟨gc,0,Z⟩):=hd.at 11 rfl;exact EpO
  ·have d12:xv 12=Y (D ⟨gc,56,Z⟩):=hd.at 12 rfl;exact Es (by simp[go_sem,d12]) U
  ·have d13:xv 13=Y (D ⟨gc,58,Z⟩):=hd.at 13 rfl;have cc:wq.cell? ⟨gc,58,Z⟩=D (E I c.tok.o):=hp.1.cell 1 rfl 2 XV;exact Es (by simp[go_sem,d13,cc]) U
  ·exact Emq
  ·exact Epf
  ·exact Eox
  ·have d17:xv 17=Y (D ⟨gc,98,Z⟩):=hd.at 17 rfl;have cc:wq.cell? ⟨gc,98,Z⟩=D (E I c.mode):=hp.1.cell 9 rfl 0 XV;exact Es (by simp[go_sem,d17,cc]) U
  ·exact Emq
  ·have d19:xv 19=Y (D ⟨gc,0,Z⟩):=hd.at 19 rfl;exact Es (by simp[go_sem,d19]) U
  ·exact Epc
  ·have d21:xv 21=Y (D ⟨gc,99,Z⟩):=hd.at 21 rfl;obtain⟨big,KB,UJ⟩:=bA hp.1;have EX:big.extract 99 (99+3)= #[E I c.Em.r,E I c.Em.s,E I c.Em.q]:=(UJ 10 c.Em.v U).trans U;exact aV EM fo (Ei U) ⟨U,d21⟩ KB U EX U
  ·exact Emq
  ·have d23:xv 23=Y (D ⟨gc,0,Z⟩):=hd.at 23 rfl;exact Es (by simp[go_sem,d23]) U
  ·have d24:xv 24=Y (D ⟨gc,0,Z⟩):=hd.at 24 rfl;exact Es (by simp[go_sem,d24]) U
  ·have d25:xv 25=Y (D ⟨gc,102,Z⟩):=hd.at 25 rfl;obtain⟨big,KB,UJ⟩:=bA hp.1;have EX:big.extract 102 (102+12)= #[E I c.pt.c,E I c.pt.a0,E I c.pt.a1,E I c.pt.a2,E I c.pt.a3,E I c.pt.n0,E I c.pt.n1,E I c.pt.n2,E I c.pt.n3,E I c.pt.b.r,E I c.pt.b.s,E I c.pt.b.q]:=(UJ 11 c.pt.v U).trans U;exact aV EM iC (Ei U) ⟨U,d25⟩ KB U EX U
  ·exact Emq
  ·have d27:xv 27=Y (D ⟨gc,0,Z⟩):=hd.at 27 rfl;exact Es (by simp[go_sem,d27]) U
  ·have d28:xv 28=Y (D ⟨gc,0,Z⟩):=hd.at 28 rfl;exact Es Lx U
  ·have d29:xv 29=Y (D ⟨gc,56,Z⟩):=hd.at 29 rfl;exact Es (by simp[go_sem,d29]) U
  ·have d30:xv 30=Y (D ⟨gc,63,Z⟩):=hd.at 30 rfl;have cc:wq.cell? ⟨gc,63,Z⟩=D (Ec c.tok.bad):=hp.1.cell 1 rfl 7 XV;exact Es (by simp[go_sem,d30,cc]) U
  ·have d4:xv 4=E I c.tok.h:=hd.at 4 rfl;have d9:xv 9=E I c.tok.e:=hd.at 9 rfl;have d14:xv 14=E I c.tok.o:=hd.at 14 rfl;have d18:xv 18=E I c.mode:=hd.at 18 rfl;have d22:xv 22=EZ #[E I c.Em.r,E I c.Em.s,E I c.Em.q]:=hd.at 22 rfl;have d26:xv 26=EZ #[E I c.pt.c,E I c.pt.a0,E I c.pt.a1,E I c.pt.a2,E I c.pt.a3,E I c.pt.n0,E I c.pt.n1,E I c.pt.n2,E I c.pt.n3,E I c.pt.b.r,E I c.pt.b.s,E I c.pt.b.q]:=hd.at 26 rfl;have d31:xv 31=Ec c.tok.bad:=hd.at 31 rfl;exact IQ EM (Ei U) (Mn U (by simp only[UL,Xu,d4,d9,d14,d18,d22,d26,d31];exact EgM _ _ _ _ _ _ _ _ _ _ _ _ _ _ _ _ _ _ _ _)) U
  ·exact Zq (Ei U) (tK _ _ _ U) (Ep wq _) ⟨wq.heap.size,_,U,hp.2.1,Mm _ _ _ _ U,H.new _ _ _⟩
  ·have d32:xv 32=EZ (Zk (Uy c) (EI Z 0 0) (fun _=>Ec B) (fun _=>E I 0) (Ec c.tok.bad)).flatten.toArray:=hd.at 32 rfl;obtain⟨b,c8,eA,lb,h8,kb⟩:bF 54 31 n0 (xv 33) wq:=hd.at 33 rfl;have nh:=X0.out;refine db fB (Ei U) ⟨U,eA,d32⟩ kb h8 (Mm _ _ _ _ U) (YD (YF c) U (fun _=>rfl) (fun _=>rfl) U) ⟨wC (Mm _ _ _ _ U),?_⟩ ⟨b,eA,lb,kb.setRow _⟩;obtain⟨c1,n1,b1,kr⟩:=hp;have ho:=On (g:=b) (W:=wq) (Zk (Uy c) (EI Z 0 0) (fun _=>Ec B) (fun _=>E I 0) (Ec c.tok.bad)).flatten.toArray;exact⟨c1.via (fun k cs S hS hk=>ho.Ek hk (E5 hk kb ZU)) (ho.bel lo xw xw),EA n1 ho.size,b1.trans (ho.bel w.heap.size xw b1.size),ho.Ek kr xw⟩
 case hend=>
  intro xv W6 hp hd;simp only[EL,In,Ip,Ig,Ih];obtain⟨b,eA,lb,kb⟩: ∃b:Nat,xv 33=Y (D ⟨b,0,Z⟩)/\n0<=b/\H W6 b (Zk (Uy c) (EI Z 0 0) (fun _=>Ec B) (fun _=>E I 0) (Ec c.tok.bad)).flatten.toArray 54:=hd 34 Eb;obtain⟨c6,-,b6,YG⟩:=hp;replace C1:=O c6;replace BB:=O b6;replace KR:=O YG;have KB:Ea (Ji W6 b (Zk (Uy c) (EI Z 0 0) (fun _=>Ec B) (fun _=>E I 0) (Ec c.tok.bad)) 54):=O kb;have XI:=O (show b≠gr/\w.heap.size<=b from xw);rw[eA];clear c6 b6 YG kb hd eA lb;have z64:W6.cell? ⟨gc,64,Z⟩=D (Y (D ⟨gq,0,Z⟩)):=C1.out.cell 2 rfl 0 Eh;go_wp2_with fail;refine(Ky lo gq c.q (pn g 48) _ C1.out.Z2 C1.out.ok.q).mono ?_;rintro e8 w8 ⟨⟨v8,rfl,o8⟩,b8⟩;obtain⟨A,c8,rfl,-⟩:=Xy o8;have aI:=O<|h_ c.q;have tB:=O C1.out.ok.q;obtain⟨n,hn⟩:=En c.q.length;obtain⟨SL,lV⟩:=En (Ju c.q);have Mc:=O hn;have dC:=O lV;have qP:Ea (n<=3):=O MZ;rw[<-hn,<-lV] at o8 aI;rw[show EI A c.q.length c8= .slice A n c8 by rw[hn]];have OA:=O o8;replace C1:=O<|C1.out.G b8;replace BB:=EW BB b8;replace KR:=EQ KR b8;replace KB:=O<|Ji.G KB.out b8;clear o8 b8 z64 hn lV tB;go_wp2_with fail;go_loopw[50] (fun y wr=> ∃(i:Nat) (A2:Option Eu) (c2:Nat),i<=n/\y=E I i/\Ji wr b (Zk (Uy c) (EI A2 i c2) (fun _=>Ec B) (fun _=>E I 0) (Ec c.tok.bad)) 54/\wr.ownsRow w.heap.size 3 1 (EI A2 i c2) i (Zc ((SL.take i).map One.s))/\JO lo g gc gq gt c wr/\H wr gr X2 54/\El w wr/\ ∃base,wr.ownsRow base 133 4 (EI A n c8) n (U5 SL)) (fun y _=>n-(Iv y).toNat);case atStart=>exact⟨0,Z,0,X,U,KB.out,cJ _ _ _ _,C1.out,KR.out,BB.out,_,OA.out⟩
  case round=>
   obtain⟨i,A2,c2,w_,rfl,YH,o9,c9,YK,b9,base,YM⟩:=hrel;replace KB:=O YH;have OI:=O o9;replace C1:=O c9;replace KR:=O YK;replace BB:=O b9;replace OA:=O YM;clear YH o9 c9 YK b9 YM;by_cases hlt:i<n;·have t1':decide ((i:Int)<(n:Int))=u:=Ib X;obtain⟨x,hx⟩: ∃x,SL[i]?=D x:=⟨SL[i]' Cy,Ok _⟩;obtain⟨gg,cur,rfl,ka,dQ⟩:=wV OA.out hx aI.out;have KA:=O ka;have dR:=O dQ;have gu:Ea ((SL.take (i+1)).map One.s=(SL.take i).map One.s++[x.s]):=O (by rw[nm,hx,ku];rfl);clear ka dQ hx;have K0:=O<|H.new wr #[E I 0,E I 0,E I 0,E I 0] 133;have b2:=Ep wr (EJ #[E I 0,E I 0,E I 0,E I 0] 133);go_wp2_with (with_reducible first|refine wM (off:=i*4) (cs:= #[E I x.s,E I x.r,E I x.a,E I x.m]) jR KA ?_ (he:=dR.out)|refine wA wW ?_|refine wS (cs:= #[E I x.s,E I x.r,E I x.a,E I x.m]) jR K0 (Ev.mk ?_) (h1:=Us));apply Eo;obtain⟨gx,hgx⟩:=En wr.heap.size;rw[<-hgx] at K0⊢;generalize wr.alloc (EJ #[E I 0,E I 0,E I 0,E I 0] 133)=Xz at*;have KX:=O<|K0.out.setRow #[E I x.s,E I x.r,E I x.a,E I x.m];have b3:=E3 (g:=gx) b2 (OQ hgx.symm) #[E I x.s,E I x.r,E I x.a,E I x.m];generalize Xz.setRow gx #[E I x.s,E I x.r,E I x.a,E I x.m]=Jx at*;clear K0 b2 hgx KA dR;replace C1:=O<|C1.out.G b3;replace BB:=EW BB b3;replace KR:=EQ KR b3;replace KB:=O<|Ji.G KB.out b3;replace OA:=O<|ER OA.out fun _ _ h=>H.G h b3;replace OI:=O<|ER OI.out fun _ _ h=>H.G h b3;clear b3;have cq:Jx.cell? ⟨b,19,Z⟩=D (EI A2 i c2):=(KB.out.cell 1 rfl (Df _ _ _ _ _ U 1 X X) 0 Eh).trans U;have cx:Jx.cell? ⟨gx,0,Z⟩=D (E I x.s):=(H.cell KX.out 0).trans U;have p3:=qP.out;go_wp2_with (with_reducible refine I7 59 ?_);apply Eo;have KI:=O<|H.new Jx #[E I x.s] 3;have b4:=O<|Ep Jx (EJ #[E I x.s] 3);replace C1:=O<|C1.out.G b4.out;replace BB:=EW BB b4.out;replace KR:=EQ KR b4.out;replace KB:=O<|Ji.G KB.out b4.out;replace OA:=O<|ER OA.out fun _ _ h=>H.G h b4.out;replace OI:=O<|ER OI.out fun _ _ h=>H.G h b4.out;clear b4 cq cx KX;generalize Jx.alloc (EJ #[E I x.s] 3)=cW at*;generalize Jx.heap.size=gb at*;obtain⟨qA,qc,qw,U6,ZX,Oj,-,-⟩:=dc (P:=EU) cW w.heap.size w.heap.size 51 51 3 II.out.choose _ 1 8 Tryz.underlying51 II.out.choose_spec.1 II.out.choose_spec.2.1 II.out.choose_spec.2.2.1 II.out.choose_spec.2.2.2 rfl A2 c2 i (Zc ((SL.take i).map One.s)) OI.out ⟨gb,0,Z⟩ 1 1 [E I x.s] U (fun j Y3 hu=>by rw[show(⟨gb,0,Z⟩:Eu).add j=⟨gb,j,Z⟩ from XB];rw[H.cell KI.out,Og];exact hu) dB (fun _=>X) OD X BB.out.size (E7 _);have iy:=vM (P:=EU) cW w.heap.size 51 51 3 II.out.choose _ 1 8 Tryz.underlying51 II.out.choose_spec.1 II.out.choose_spec.2.1 II.out.choose_spec.2.2.1 II.out.choose_spec.2.2.2 A2 c2 i (Zc ((SL.take i).map One.s)) OI.out ⟨gb,0,Z⟩ 1 1 [E I x.s] U (fun j Y3 hu=>by rw[show(⟨gb,0,Z⟩:Eu).add j=⟨gb,j,Z⟩ from XB];rw[H.cell KI.out,Og];exact hu) dB (fun _=>X) OD X U6;go_wp2_with ((with_reducible refine Is 59 ?_);(refine Ol (Ei U) (Up U U U U6) ?_);refine Ev.mk ?_);apply Eo;replace OI:Ea (cK qw w.heap.size 3 1 (EI qA (i+1) qc) (i+1) (Zc ((SL.take (i+1)).map One.s))):=O (by rw[gu.out];unfold Zc;rw[ku];exact ZX);have Oz:Ea (Ji qw b (Zk (Uy c) (EI A2 i c2) (fun _=>Ec B) (fun _=>E I 0) (Ec c.tok.bad)) 54):=O<|X_ Oj KB.out Eb;replace OA:=O<|ER OA.out fun _ _ h=>X_ Oj h Eb;replace KR:=O<|X_ Oj KR.out Eb;have hbl:=Oj.2.1 BB.out.size;replace C1:=O<|C1.out.via (fun k cs S hS hk=>X_ Oj hk ZU) (hbl.mono tD);replace BB:=O<|BB.out.trans hbl;clear ZX Oj U6 iy KI hbl KB;have cq:qw.cell? ⟨b,19,Z⟩=D (EI A2 i c2):=(Oz.out.cell 1 rfl (Df _ _ _ _ _ U 1 X X) 0 Eh).trans U;have fq:=Oz.out.JX 19;have ho:=J6 (g:=b) (W:=qw) 19 (EI qA (i+1) qc);have KB3:Ea (Ji (qw.setCell ⟨b,19,Z⟩ (EI qA (i+1) qc)) b (Zk (Uy c) (EI qA (i+1) qc) (fun _=>Ec B) (fun _=>E I 0) (Ec c.tok.bad)) 54):=O<|Oz.out.set 1 rfl (Df _ _ _ _ _ U 1 X X) [EI qA (i+1) qc] U;have HO:=O ho;clear ho;go_wp2_with fail;refine⟨⟨i+1,qA,qc,X,Eh,KB3.out,ER OI.out fun _ _ h=>HO.out.Ek h (E5 h Oz.out Eb),C1.out.via (fun k cs S hS hk=>HO.out.Ek hk (E5 hk Oz.out ZU)) (HO.out.bel lo iW iY),HO.out.Ek KR.out (Zr XI.out.1),BB.out.trans (HO.out.bel w.heap.size XI.out.2 BB.out.size),base,ER OA.out fun _ _ h=>HO.out.Ek h (E5 h Oz.out Eb)⟩,Jv⟩
   ·obtain rfl:i=n:=X;have t1':decide ((i:Int)<(i:Int))=B:=IJ X;have K_:Ea (SL.take i=SL):=O<|UZ (by rw[aI.out];exact E7 _);rw[K_.out] at OI;clear OA;obtain⟨o0,ho0⟩:=En (c.T.Zu 0);obtain⟨r0,hr0⟩:=En (c.T.gI 0);have CY:Ea (∀W,JO lo g gc gq gt c W->Ef EU 55 #[Y (D ⟨gt,0,Z⟩),E I 0] W fun e w'=>e=Eg (Ec o0)/\W=w'):=O (fun W C=>by rw[ho0];exact nI gt c.T 0 W C.tab C.ok.T);have CR0:Ea (∀W,JO lo g gc gq gt c W->Ef EU 56 #[Y (D ⟨gt,0,Z⟩),E I 0] W fun e w'=>e=Eg (E I r0)/\W=w'):=O (fun W C=>by rw[hr0];exact sI gt c.T 0 W C.tab C.ok.T);replace ho0:=O ho0;replace hr0:=O hr0;obtain⟨o1,ho1⟩:=En (c.T.Zu 1);obtain⟨r1,hr1⟩:=En (c.T.gI 1);have CO1:Ea (∀W,JO lo g gc gq gt c W->Ef EU 55 #[Y (D ⟨gt,0,Z⟩),E I 1] W fun e w'=>e=Eg (Ec o1)/\W=w'):=O (fun W C=>by rw[ho1];exact nI gt c.T 1 W C.tab C.ok.T);have CR1:Ea (∀W,JO lo g gc gq gt c W->Ef EU 56 #[Y (D ⟨gt,0,Z⟩),E I 1] W fun e w'=>e=Eg (E I r1)/\W=w'):=O (fun W C=>by rw[hr1];exact sI gt c.T 1 W C.tab C.ok.T);replace ho1:=O ho1;replace hr1:=O hr1;obtain⟨o2,ho2⟩:=En (c.T.Zu 2);obtain⟨r2,hr2⟩:=En (c.T.gI 2);have CO2:Ea (∀W,JO lo g gc gq gt c W->Ef EU 55 #[Y (D ⟨gt,0,Z⟩),E I 2] W fun e w'=>e=Eg (Ec o2)/\W=w'):=O (fun W C=>by rw[ho2];exact nI gt c.T 2 W C.tab C.ok.T);have CR2:Ea (∀W,JO lo g gc gq gt c W->Ef EU 56 #[Y (D ⟨gt,0,Z⟩),E I 2] W fun e w'=>e=Eg (E I r2)/\W=w'):=O (fun W C=>by rw[hr2];exact sI gt c.T 2 W C.tab C.ok.T);replace ho2:=O ho2;replace hr2:=O hr2;obtain⟨o3,ho3⟩:=En (c.T.Zu 3);obtain⟨r3,hr3⟩:=En (c.T.gI 3);have CO3:Ea (∀W,JO lo g gc gq gt c W->Ef EU 55 #[Y (D ⟨gt,0,Z⟩),E I 3] W fun e w'=>e=Eg (Ec o3)/\W=w'):=O (fun W C=>by rw[ho3];exact nI gt c.T 3 W C.tab C.ok.T);have CR3:Ea (∀W,JO lo g gc gq gt c W->Ef EU 56 #[Y (D ⟨gt,0,Z⟩),E I 3] W fun e w'=>e=Eg (E I r3)/\W=w'):=O (fun W C=>by rw[hr3];exact sI gt c.T 3 W C.tab C.ok.T);replace ho3:=O ho3;replace hr3:=O hr3;obtain⟨o4,nS⟩:=En (c.T.Zu 4);obtain⟨r4,hr4⟩:=En (c.T.gI 4);have CO4:Ea (∀W,JO lo g gc gq gt c W->Ef EU 55 #[Y (D ⟨gt,0,Z⟩),E I 4] W fun e w'=>e=Eg (Ec o4)/\W=w'):=O (fun W C=>by rw[nS];exact nI gt c.T 4 W C.tab C.ok.T);have CR4:Ea (∀W,JO lo g gc gq gt c W->Ef EU 56 #[Y (D ⟨gt,0,Z⟩),E I 4] W fun e w'=>e=Eg (E I r4)/\W=w'):=O (fun W C=>by rw[hr4];exact sI gt c.T 4 W C.tab C.ok.T);replace nS:=O nS;replace hr4:=O hr4;go_wp2_with fail;refine O9 6 ?_;obtain⟨qv,Dg⟩:=En (EI A2 i c2);rw[<-Dg] at KB OI;replace Dg:=O Dg;replace KB:Ea (Ji wr b [Uy c,[qv],[Ec B],[Ec B],[Ec B],[Ec B],[Ec B],[E I 0],[E I 0],[E I 0],[E I 0],[E I 0],[Ec c.tok.bad]] 54):=O KB.out;have OFF:Ea (∀(x0 x1 x2 x3 x4 x5 x6 x7 x8 x9:V) (k:Nat),1<=k->k<13->aT [Uy c,[qv],[x0],[x1],[x2],[x3],[x4],[x5],[x6],[x7],[x8],[x9],[Ec c.tok.bad]] k=18+k):=O<|fun x0 x1 x2 x3 x4 x5 x6 x7 x8 x9 k h1 h2=>Df (Uy c) qv (fun i=>[x0,x1,x2,x3,x4].getD i x0) (fun i=>[x5,x6,x7,x8,x9].getD i x5) (Ec c.tok.bad) U k h1 h2;have U7:wr.cell? ⟨gc,95,Z⟩=D (Y (D ⟨gt,0,Z⟩)):=C1.out.cell 6 rfl 0 Eh;rw[Ic];go_wp2_with fail;refine(CY.out _ C1.out).mono ?_;rintro e20 fu ⟨rfl,rfl⟩;clear U7;have cs:wr.cell? ⟨b,20,Z⟩=D (Ec B):=(KB.out.cell 2 rfl (OFF.out _ _ _ _ _ _ _ _ _ _ 2 X X) 0 Eh).trans U;have fs:=KB.out.JX 20;have HO:=O<|J6 (g:=b) (W:=wr) 20 (Ec o0);have Oz:Ea (Ji (wr.setCell ⟨b,20,Z⟩ (Ec o0)) b [Uy c,[qv],[Ec o0],[Ec B],[Ec B],[Ec B],[Ec B],[E I 0],[E I 0],[E I 0],[E I 0],[E I 0],[Ec c.tok.bad]] 54):=O<|KB.out.set 2 rfl (OFF.out _ _ _ _ _ _ _ _ _ _ 2 X X) [Ec o0] U;have UT:=O<|ER OI.out fun _ _ h=>HO.out.Ek h (E5 h KB.out Eb);have C2:=O<|C1.out.via (fun k cs S hS hk=>HO.out.Ek hk (E5 hk KB.out ZU)) (HO.out.bel lo iW iY);have JT:=O<|HO.out.Ek KR.out (Zr XI.out.1);have Jw:=O<|BB.out.trans (HO.out.bel w.heap.size XI.out.2 BB.out.size);clear HO KB OI C1 KR BB;have U7:(wr.setCell ⟨b,20,Z⟩ (Ec o0)).cell? ⟨gc,95,Z⟩=D (Y (D ⟨gt,0,Z⟩)):=C2.out.cell 6 rfl 0 Eh;go_wp2_with fail;generalize wr.setCell ⟨b,20,Z⟩ (Ec o0)=xy at*;have KB:=Oz;have OI:=UT;have C1:=C2;have KR:=JT;have BB:=Jw;clear Oz UT C2 JT Jw cs fs U7;refine(CR0.out _ C1.out).mono ?_;rintro e30 w30 ⟨rfl,rfl⟩;have cs:xy.cell? ⟨b,25,Z⟩=D (E I 0):=(KB.out.cell 7 rfl (OFF.out _ _ _ _ _ _ _ _ _ _ 7 X X) 0 Eh).trans U;have fs:=KB.out.JX 25;have HO:=O<|J6 (g:=b) (W:=xy) 25 (E I r0);have Oz:Ea (Ji (xy.setCell ⟨b,25,Z⟩ (E I r0)) b [Uy c,[qv],[Ec o0],[Ec B],[Ec B],[Ec B],[Ec B],[E I r0],[E I 0],[E I 0],[E I 0],[E I 0],[Ec c.tok.bad]] 54):=O<|KB.out.set 7 rfl (OFF.out _ _ _ _ _ _ _ _ _ _ 7 X X) [E I r0] U;have UT:=O<|ER OI.out fun _ _ h=>HO.out.Ek h (E5 h KB.out Eb);have C2:=O<|C1.out.via (fun k cs S hS hk=>HO.out.Ek hk (E5 hk KB.out ZU)) (HO.out.bel lo iW iY);have JT:=O<|HO.out.Ek KR.out (Zr XI.out.1);have Jw:=O<|BB.out.trans (HO.out.bel w.heap.size XI.out.2 BB.out.size);clear HO KB OI C1 KR BB;have U7:(xy.setCell ⟨b,25,Z⟩ (E I r0)).cell? ⟨gc,95,Z⟩=D (Y (D ⟨gt,0,Z⟩)):=C2.out.cell 6 rfl 0 Eh;go_wp2_with fail;rw[Ic];go_wp2_with fail;generalize xy.setCell ⟨b,25,Z⟩ (E I r0)=xz at*;have KB:=Oz;have OI:=UT;have C1:=C2;have KR:=JT;have BB:=Jw;clear Oz UT C2 JT Jw cs fs U7;refine(CO1.out _ C1.out).mono ?_;rintro e21 dP ⟨rfl,rfl⟩;have cs:xz.cell? ⟨b,21,Z⟩=D (Ec B):=(KB.out.cell 3 rfl (OFF.out _ _ _ _ _ _ _ _ _ _ 3 X X) 0 Eh).trans U;have fs:=KB.out.JX 21;have HO:=O<|J6 (g:=b) (W:=xz) 21 (Ec o1);have Oz:Ea (Ji (xz.setCell ⟨b,21,Z⟩ (Ec o1)) b [Uy c,[qv],[Ec o0],[Ec o1],[Ec B],[Ec B],[Ec B],[E I r0],[E I 0],[E I 0],[E I 0],[E I 0],[Ec c.tok.bad]] 54):=O<|KB.out.set 3 rfl (OFF.out _ _ _ _ _ _ _ _ _ _ 3 X X) [Ec o1] U;have UT:=O<|ER OI.out fun _ _ h=>HO.out.Ek h (E5 h KB.out Eb);have C2:=O<|C1.out.via (fun k cs S hS hk=>HO.out.Ek hk (E5 hk KB.out ZU)) (HO.out.bel lo iW iY);have JT:=O<|HO.out.Ek KR.out (Zr XI.out.1);have Jw:=O<|BB.out.trans (HO.out.bel w.heap.size XI.out.2 BB.out.size);clear HO KB OI C1 KR BB;have U7:(xz.setCell ⟨b,21,Z⟩ (Ec o1)).cell? ⟨gc,95,Z⟩=D (Y (D ⟨gt,0,Z⟩)):=C2.out.cell 6 rfl 0 Eh;go_wp2_with fail;generalize xz.setCell ⟨b,21,Z⟩ (Ec o1)=xA at*;have KB:=Oz;have OI:=UT;have C1:=C2;have KR:=JT;have BB:=Jw;clear Oz UT C2 JT Jw cs fs U7;refine(CR1.out _ C1.out).mono ?_;rintro e31 w31 ⟨rfl,rfl⟩;have cs:xA.cell? ⟨b,26,Z⟩=D (E I 0):=(KB.out.cell 8 rfl (OFF.out _ _ _ _ _ _ _ _ _ _ 8 X X) 0 Eh).trans U;have fs:=KB.out.JX 26;have HO:=O<|J6 (g:=b) (W:=xA) 26 (E I r1);have Oz:Ea (Ji (xA.setCell ⟨b,26,Z⟩ (E I r1)) b [Uy c,[qv],[Ec o0],[Ec o1],[Ec B],[Ec B],[Ec B],[E I r0],[E I r1],[E I 0],[E I 0],[E I 0],[Ec c.tok.bad]] 54):=O<|KB.out.set 8 rfl (OFF.out _ _ _ _ _ _ _ _ _ _ 8 X X) [E I r1] U;have UT:=O<|ER OI.out fun _ _ h=>HO.out.Ek h (E5 h KB.out Eb);have C2:=O<|C1.out.via (fun k cs S hS hk=>HO.out.Ek hk (E5 hk KB.out ZU)) (HO.out.bel lo iW iY);have JT:=O<|HO.out.Ek KR.out (Zr XI.out.1);have Jw:=O<|BB.out.trans (HO.out.bel w.heap.size XI.out.2 BB.out.size);clear HO KB OI C1 KR BB;have U7:(xA.setCell ⟨b,26,Z⟩ (E I r1)).cell? ⟨gc,95,Z⟩=D (Y (D ⟨gt,0,Z⟩)):=C2.out.cell 6 rfl 0 Eh;go_wp2_with fail;rw[Ic];go_wp2_with fail;generalize xA.setCell ⟨b,26,Z⟩ (E I r1)=xB at*;have KB:=Oz;have OI:=UT;have C1:=C2;have KR:=JT;have BB:=Jw;clear Oz UT C2 JT Jw cs fs U7;refine(CO2.out _ C1.out).mono ?_;rintro e22 Yi ⟨rfl,rfl⟩;have cs:xB.cell? ⟨b,22,Z⟩=D (Ec B):=(KB.out.cell 4 rfl (OFF.out _ _ _ _ _ _ _ _ _ _ 4 X X) 0 Eh).trans U;have fs:=KB.out.JX 22;have HO:=O<|J6 (g:=b) (W:=xB) 22 (Ec o2);have Oz:Ea (Ji (xB.setCell ⟨b,22,Z⟩ (Ec o2)) b [Uy c,[qv],[Ec o0],[Ec o1],[Ec o2],[Ec B],[Ec B],[E I r0],[E I r1],[E I 0],[E I 0],[E I 0],[Ec c.tok.bad]] 54):=O<|KB.out.set 4 rfl (OFF.out _ _ _ _ _ _ _ _ _ _ 4 X X) [Ec o2] U;have UT:=O<|ER OI.out fun _ _ h=>HO.out.Ek h (E5 h KB.out Eb);have C2:=O<|C1.out.via (fun k cs S hS hk=>HO.out.Ek hk (E5 hk KB.out ZU)) (HO.out.bel lo iW iY);have JT:=O<|HO.out.Ek KR.out (Zr XI.out.1);have Jw:=O<|BB.out.trans (HO.out.bel w.heap.size XI.out.2 BB.out.size);clear HO KB OI C1 KR BB;have U7:(xB.setCell ⟨b,22,Z⟩ (Ec o2)).cell? ⟨gc,95,Z⟩=D (Y (D ⟨gt,0,Z⟩)):=C2.out.cell 6 rfl 0 Eh;go_wp2_with fail;generalize xB.setCell ⟨b,22,Z⟩ (Ec o2)=xC at*;have KB:=Oz;have OI:=UT;have C1:=C2;have KR:=JT;have BB:=Jw;clear Oz UT C2 JT Jw cs fs U7;refine(CR2.out _ C1.out).mono ?_;rintro e32 w32 ⟨rfl,rfl⟩;have cs:xC.cell? ⟨b,27,Z⟩=D (E I 0):=(KB.out.cell 9 rfl (OFF.out _ _ _ _ _ _ _ _ _ _ 9 X X) 0 Eh).trans U;have fs:=KB.out.JX 27;have HO:=O<|J6 (g:=b) (W:=xC) 27 (E I r2);have Oz:Ea (Ji (xC.setCell ⟨b,27,Z⟩ (E I r2)) b [Uy c,[qv],[Ec o0],[Ec o1],[Ec o2],[Ec B],[Ec B],[E I r0],[E I r1],[E I r2],[E I 0],[E I 0],[Ec c.tok.bad]] 54):=O<|KB.out.set 9 rfl (OFF.out _ _ _ _ _ _ _ _ _ _ 9 X X) [E I r2] U;have UT:=O<|ER OI.out fun _ _ h=>HO.out.Ek h (E5 h KB.out Eb);have C2:=O<|C1.out.via (fun k cs S hS hk=>HO.out.Ek hk (E5 hk KB.out ZU)) (HO.out.bel lo iW iY);have JT:=O<|HO.out.Ek KR.out (Zr XI.out.1);have Jw:=O<|BB.out.trans (HO.out.bel w.heap.size XI.out.2 BB.out.size);clear HO KB OI C1 KR BB;have U7:(xC.setCell ⟨b,27,Z⟩ (E I r2)).cell? ⟨gc,95,Z⟩=D (Y (D ⟨gt,0,Z⟩)):=C2.out.cell 6 rfl 0 Eh;go_wp2_with fail;rw[Ic];go_wp2_with fail;generalize xC.setCell ⟨b,27,Z⟩ (E I r2)=xD at*;have KB:=Oz;have OI:=UT;have C1:=C2;have KR:=JT;have BB:=Jw;clear Oz UT C2 JT Jw cs fs U7;refine(CO3.out _ C1.out).mono ?_;rintro e23 w23 ⟨rfl,rfl⟩;have cs:xD.cell? ⟨b,23,Z⟩=D (Ec B):=(KB.out.cell 5 rfl (OFF.out _ _ _ _ _ _ _ _ _ _ 5 X X) 0 Eh).trans U;have fs:=KB.out.JX 23;have HO:=O<|J6 (g:=b) (W:=xD) 23 (Ec o3);have Oz:Ea (Ji (xD.setCell ⟨b,23,Z⟩ (Ec o3)) b [Uy c,[qv],[Ec o0],[Ec o1],[Ec o2],[Ec o3],[Ec B],[E I r0],[E I r1],[E I r2],[E I 0],[E I 0],[Ec c.tok.bad]] 54):=O<|KB.out.set 5 rfl (OFF.out _ _ _ _ _ _ _ _ _ _ 5 X X) [Ec o3] U;have UT:=O<|ER OI.out fun _ _ h=>HO.out.Ek h (E5 h KB.out Eb);have C2:=O<|C1.out.via (fun k cs S hS hk=>HO.out.Ek hk (E5 hk KB.out ZU)) (HO.out.bel lo iW iY);have JT:=O<|HO.out.Ek KR.out (Zr XI.out.1);have Jw:=O<|BB.out.trans (HO.out.bel w.heap.size XI.out.2 BB.out.size);clear HO KB OI C1 KR BB;have U7:(xD.setCell ⟨b,23,Z⟩ (Ec o3)).cell? ⟨gc,95,Z⟩=D (Y (D ⟨gt,0,Z⟩)):=C2.out.cell 6 rfl 0 Eh;go_wp2_with fail;generalize xD.setCell ⟨b,23,Z⟩ (Ec o3)=xF at*;have KB:=Oz;have OI:=UT;have C1:=C2;have KR:=JT;have BB:=Jw;clear Oz UT C2 JT Jw cs fs U7;refine(CR3.out _ C1.out).mono ?_;rintro e33 w33 ⟨rfl,rfl⟩;have cs:xF.cell? ⟨b,28,Z⟩=D (E I 0):=(KB.out.cell 10 rfl (OFF.out _ _ _ _ _ _ _ _ _ _ 10 X X) 0 Eh).trans U;have fs:=KB.out.JX 28;have HO:=O<|J6 (g:=b) (W:=xF) 28 (E I r3);have Oz:Ea (Ji (xF.setCell ⟨b,28,Z⟩ (E I r3)) b [Uy c,[qv],[Ec o0],[Ec o1],[Ec o2],[Ec o3],[Ec B],[E I r0],[E I r1],[E I r2],[E I r3],[E I 0],[Ec c.tok.bad]] 54):=O<|KB.out.set 10 rfl (OFF.out _ _ _ _ _ _ _ _ _ _ 10 X X) [E I r3] U;have UT:=O<|ER OI.out fun _ _ h=>HO.out.Ek h (E5 h KB.out Eb);have C2:=O<|C1.out.via (fun k cs S hS hk=>HO.out.Ek hk (E5 hk KB.out ZU)) (HO.out.bel lo iW iY);have JT:=O<|HO.out.Ek KR.out (Zr XI.out.1);have Jw:=O<|BB.out.trans (HO.out.bel w.heap.size XI.out.2 BB.out.size);clear HO KB OI C1 KR BB;have U7:(xF.setCell ⟨b,28,Z⟩ (E I r3)).cell? ⟨gc,95,Z⟩=D (Y (D ⟨gt,0,Z⟩)):=C2.out.cell 6 rfl 0 Eh;go_wp2_with fail;rw[Ic];go_wp2_with fail;generalize xF.setCell ⟨b,28,Z⟩ (E I r3)=xG at*;have KB:=Oz;have OI:=UT;have C1:=C2;have KR:=JT;have BB:=Jw;clear Oz UT C2 JT Jw cs fs U7;refine(CO4.out _ C1.out).mono ?_;rintro e24 w24 ⟨rfl,rfl⟩;have cs:xG.cell? ⟨b,24,Z⟩=D (Ec B):=(KB.out.cell 6 rfl (OFF.out _ _ _ _ _ _ _ _ _ _ 6 X X) 0 Eh).trans U;have fs:=KB.out.JX 24;have HO:=O<|J6 (g:=b) (W:=xG) 24 (Ec o4);have Oz:Ea (Ji (xG.setCell ⟨b,24,Z⟩ (Ec o4)) b [Uy c,[qv],[Ec o0],[Ec o1],[Ec o2],[Ec o3],[Ec o4],[E I r0],[E I r1],[E I r2],[E I r3],[E I 0],[Ec c.tok.bad]] 54):=O<|KB.out.set 6 rfl (OFF.out _ _ _ _ _ _ _ _ _ _ 6 X X) [Ec o4] U;have UT:=O<|ER OI.out fun _ _ h=>HO.out.Ek h (E5 h KB.out Eb);have C2:=O<|C1.out.via (fun k cs S hS hk=>HO.out.Ek hk (E5 hk KB.out ZU)) (HO.out.bel lo iW iY);have JT:=O<|HO.out.Ek KR.out (Zr XI.out.1);have Jw:=O<|BB.out.trans (HO.out.bel w.heap.size XI.out.2 BB.out.size);clear HO KB OI C1 KR BB;have U7:(xG.setCell ⟨b,24,Z⟩ (Ec o4)).cell? ⟨gc,95,Z⟩=D (Y (D ⟨gt,0,Z⟩)):=C2.out.cell 6 rfl 0 Eh;go_wp2_with fail;generalize xG.setCell ⟨b,24,Z⟩ (Ec o4)=xH at*;have KB:=Oz;have OI:=UT;have C1:=C2;have KR:=JT;have BB:=Jw;clear Oz UT C2 JT Jw cs fs U7;refine(CR4.out _ C1.out).mono ?_;rintro e34 w34 ⟨rfl,rfl⟩;have cs:xH.cell? ⟨b,29,Z⟩=D (E I 0):=(KB.out.cell 11 rfl (OFF.out _ _ _ _ _ _ _ _ _ _ 11 X X) 0 Eh).trans U;have fs:=KB.out.JX 29;have HO:=O<|J6 (g:=b) (W:=xH) 29 (E I r4);have Oz:Ea (Ji (xH.setCell ⟨b,29,Z⟩ (E I r4)) b [Uy c,[qv],[Ec o0],[Ec o1],[Ec o2],[Ec o3],[Ec o4],[E I r0],[E I r1],[E I r2],[E I r3],[E I r4],[Ec c.tok.bad]] 54):=O<|KB.out.set 11 rfl (OFF.out _ _ _ _ _ _ _ _ _ _ 11 X X) [E I r4] U;have UT:=O<|ER OI.out fun _ _ h=>HO.out.Ek h (E5 h KB.out Eb);have C2:=O<|C1.out.via (fun k cs S hS hk=>HO.out.Ek hk (E5 hk KB.out ZU)) (HO.out.bel lo iW iY);have JT:=O<|HO.out.Ek KR.out (Zr XI.out.1);have Jw:=O<|BB.out.trans (HO.out.bel w.heap.size XI.out.2 BB.out.size);clear HO KB OI C1 KR BB;have U7:(xH.setCell ⟨b,29,Z⟩ (E I r4)).cell? ⟨gc,95,Z⟩=D (Y (D ⟨gt,0,Z⟩)):=C2.out.cell 6 rfl 0 Eh;go_wp2_with fail;rw[Ic];generalize xH.setCell ⟨b,29,Z⟩ (E I r4)=YN at*;have KB:=Oz;have OI:=UT;have C1:=C2;have KR:=JT;have BB:=Jw;clear Oz UT C2 JT Jw cs fs U7;obtain⟨sv,hsv⟩: ∃sv,sv=([Uy c,[qv],[Ec o0],[Ec o1],[Ec o2],[Ec o3],[Ec o4],[E I r0],[E I r1],[E I r2],[E I r3],[E I r4],[Ec c.tok.bad]]:List (List V)).flatten.toArray:=⟨_,U⟩;have mU:Ea (sv.size=31):=O (by rw[hsv];simp[Uy]);have rE:Ea (sv.all (·.oneCell')=u):=O (by rw[hsv];exact YD (h:=Uy c) (q:=qv) (o:=fun i=>[Ec o0,Ec o1,Ec o2,Ec o3,Ec o4].getD i (Ec o0)) (r:=fun i=>[E .i64 r0,E I r1,E I r2,E I r3,E I r4].getD i (E I r0)) (b:=Ec c.tok.bad) (YF c) (by rw[Dg.out];rfl) (fun i=>YP) (fun i=>YP) U);have KF:Ea (H YN b sv 54):=O (by rw[hsv];exact KB.out);have fg:=O hsv;clear hsv KB;have hgr:=q_.out;subst hgr;go_wp2_with (with_reducible first|refine wL fB KF ?_ (hn:=mU.out)|refine wS (cs:=sv) fB KR ?_ (hn:=mU.out) (h1:=rE.out));refine ET (Jl fB U _ _ w.heap.size sv U (KR.out.setRow sv) mU.out) U ?_;refine⟨⟨qv,?_,?_⟩,E3 (g:=w.heap.size) BB.out Z4.out.2.2.2 sv⟩;·rw[fg.out,ho0.out,ho1.out,ho2.out,ho3.out,nS.out,hr0.out,hr1.out,hr2.out,hr3.out,hr4.out];rfl
    ·rw[<-Mc.out,<-dC.out];exact ER OI.out fun _ _ h=>(On (g:=w.heap.size) (W:=YN) sv).Ek h (E5 h KR.out Eb)
theorem OJ:IW EU 101 4:=⟨⟨_,Tryz.underlying101,U⟩,Ed⟩
theorem Eg2(x z:Int)(h0:0<=x)(h1:x<=255)(x0:0<=z)(x1:z<=255):Ix .or .u16 (x*256) z=x*256+z:=by obtain⟨m,rfl⟩:=ji h0;obtain⟨y,rfl⟩:=ji x0;have e:((m:Int)*256)=((m*256:Nat):Int):=Eh;rw[e,u16_or_nat _ _ X X,nat_join 8 _ _ X X];simp
def rI(W:M)(base:Nat)(f:c_)(v:V):Prop:= ∃(A:Option Eu) (c:Nat),v=EZ #[E I f.kd,E I f.sz,E I f.cd,EI A f.b.length c]/\Own W base A c f.b
theorem aF{gz:Nat}{A:Option Eu}{c:Nat}{xs:List Int}{z:Array V}(h:Own W base A c xs)(K:H W gz z 101)(tv:Array V):Own (W.setRow gz tv) base A c xs:=
 ⟨ER h.1 fun _ _ h2=>(On tv).Ek h2 (E5 h2 K Eb),h.2⟩
theorem tL(W:M)(base:Nat)(f:c_)(h:f.b=[]):rI W base f (EZ #[E I f.kd,E I f.sz,E I f.cd,EI Z 0 0]):=⟨Z,0,by rw[h];rfl,by rw[h];exact X9 _ _⟩
theorem Dh(cd:Int)(w:M): Ef EU 116 #[E I cd] w fun e w'=>e=Eg (EZ #[E I 3,E I 1,E I cd,EI Z 0 0])/\El w w':=by go_enter Tryz.func116,Tryz.ntmps116;go_wp2_with fail;refine ET (v:=EZ #[E I 3,E I 1,E I cd,EI Z 0 0]) (by simp[Xa,Tryz.results116,go_sem]) U ?_;exact⟨U,Ep _ _⟩
theorem xK(A:Option Eu)(xs:List Int)(n c:Nat)(w:M)(hn:xs.length=n)(h1:1<=n)(hr:Row w A xs)(hm:n<=9223372036854775807): Ef EU 117 #[EI A n c] w fun e w'=>e=Eg (EZ #[E I 1,E I (UR xs),E I 0,EI Z 0 0])/\El w w':=by
 have hle:UR xs<=n:=by rw[<-hn];exact Mh xs
 have HR:=O hr;have HN:=O hn;clear hr hn;generalize hz:UR xs=z at*;replace hz:=O hz;go_enter Tryz.func117,Tryz.ntmps117;go_wp2_with fail;refine(EgL A xs n c _ HN.out h1 (HR.out.G (Ep _ _))).mono ?_;rintro e w2 ⟨rfl,rfl⟩;rw[hz.out];by_cases hlt:z<n;·rw[if_pos hlt];have t1:decide ((z:Int)<0)=B:=IJ X;exact Eom
 ·rw[if_neg hlt];obtain rfl:z=n:=X;exact Eom
theorem Eg3(b off:Nat)(a v:Int)(k:Nat)(r:List Int)(n c:Nat)(w:M)(hn:r.length+3=n)(hr:Row w (D ⟨b,off,Z⟩) (a::v::(k:Int)::r))(hc:n<=c)(hm:c<=9223372036854775807): Ef EU 115 #[EI (D ⟨b,off,Z⟩) n c] w fun e w'=>(∃Y3,e=Eg Y3/\rI w' w.heap.size (fy v k r) Y3)/\El w w':=by
 have hk:k<=255:=by have:=hr.2 k Eh;omega
 have b1:=Ep w (EJ #[E I 0,E I 0,E I 0,EI Z 0 0] 101);replace hr:=Iy hr b1;have HB1:=O b1
 have c2:(w.alloc (EJ #[E I 0,E I 0,E I 0,EI Z 0 0] 101)).cell? ⟨b,off+2,Z⟩=D (E IP (k:Int)):=by
  rcases hr.1 with h|⟨b',off',e,h⟩;·cases h
  ·injection e with e;injection e with e1 e2 e3;subst e1 e2;exact h 2 Eh
 have i2:2<n:=X;have HR:=O hr;have HN:=O hn;clear hr hn b1;unfold fy;have K0:=O<|H.new w #[E I 0,E I 0,E I 0,EI Z 0 0] 101;by_cases h32:(32:Int)<k;·rw[if_pos h32];have t1:decide ((32:Int)<(k:Int))=u:=Ib h32;go_enter Tryz.func115,Tryz.ntmps115;go_wp2_with fail;refine(Dh 11 _).mono ?_;rintro e w2 ⟨rfl,b2⟩;replace K0:=EQ K0 b2;replace HB1:=EW HB1 b2;obtain⟨tv,Ia⟩:=En (#[E I 3,E I 1,E I 11,EI Z 0 0]:Array V);have TS:Ea (tv.size=4):=O fC;have TO:Ea (tv.all (·.oneCell')=u):=O fD;rw[<-Ia];replace Ia:=O Ia;go_wp2_with (with_reducible refine wS (cs:=tv) OJ K0 ?_ (hn:=TS.out) (h1:=TO.out));refine ET (Jl OJ U _ _ w.heap.size tv U (K0.out.setRow tv) TS.out) U ?_;rw[Ia.out];exact⟨⟨_,U,tL _ _ (jT 11) U⟩,E3 HB1.out (E7 _) _⟩
 rw[if_neg h32];have t1:decide ((32:Int)<(k:Int))=B:=IJ h32;by_cases hw:(r.length:Int)<(k:Int)+2;·rw[if_pos hw];have t2:decide ((n:Int)<3+(k:Int)+2)=u:=Ib Ob;go_enter Tryz.func115,Tryz.ntmps115;obtain⟨tv,Ia⟩:=En (#[E I 0,E I 0,E I 0,EI Z 0 0]:Array V);have TS:Ea (tv.size=4):=O fC;have TO:Ea (tv.all (·.oneCell')=u):=O fD;have BS:Ea (Tryz.prog.built 101 [(0,E I 0)]=D tv):=O (by rw[Ia];kernel_rfl);replace Ia:=O Ia;go_wp2_with (first|((with_reducible refine Is 19 ?_);refine I3 rfl 101 _ rfl tv BS.out ?_)|(with_reducible refine wS (cs:=tv) OJ K0 ?_ (hn:=TS.out) (h1:=TO.out)));refine ET (Jl OJ U _ _ w.heap.size tv U (K0.out.setRow tv) TS.out) U ?_;rw[Ia.out];exact⟨⟨_,U,tL _ _ dE U⟩,E3 HB1.out (E7 _) _⟩
 rw[if_neg X];have t2:decide ((n:Int)<3+(k:Int)+2)=B:=IJ Ob;obtain⟨f,hf⟩: ∃f,f=if XW (v::(k:Int)::r.take (k:Int).toNat)≠256*r.getD (k:Int).toNat 0+r.getD ((k:Int).toNat+1) 0 then jT 12 else qT (r.take (k:Int).toNat):=⟨_,U⟩
 rw[<-hf];rw[mo] at hf;go_enter Tryz.func115,Tryz.ntmps115;go_wp2_with fail;obtain⟨w1,hw1⟩: ∃w1,w1=w.alloc (EJ #[E I 0,E I 0,E I 0,EI Z 0 0] 101):=⟨_,U⟩;rw[<-hw1] at HR HB1 K0⊢;clear c2 hw1;have i3:3+k<n:=Ob;have i4:3+k+1<n:=Ob;have i5:3+k<=c:=X;obtain⟨x,hx⟩: ∃x,r[k]?=D x:=⟨r[k]' X,Ok _⟩;obtain⟨z,hz⟩: ∃z,r[k+1]?=D z:=⟨r[k+1]' X,Ok _⟩
 have cellAt: ∀(i:Nat) (Y3:Int),(a::v::(k:Int)::r)[i]?=D Y3-> ∀y:Ext w1,(Ey w1 y).cell? ⟨b,off+i,Z⟩=D (E IP Y3):=fun i Y3 h y=>by
  rcases(Iy HR.out (ED y)).1 with h2|⟨b',off',e,h2⟩;·cases h2
  ·injection e with e;injection e with e1 e2 e3;subst e1 e2;obtain⟨hi,he⟩:=UG.1 h;rw[h2 i hi,he]
 have yx:=cellAt (3+k) x (by rw[Nat.add_comm 3 k];exact hx);have yz:=cellAt (3+k+1) z (by rw[show 3+k+1=k+1+3 from X];exact hz);have xb:0<=x/\x<=255:=HR.out.2 x (ai _ (ai _ (ai _ (dw hx))));have zb:0<=z/\z<=255:=HR.out.2 z (ai _ (ai _ (ai _ (dw hz))));clear cellAt;have RC:Ea (Row w1 (D ⟨b,off+1,Z⟩) (v::(k:Int)::r.take k)):=O (by have:=oG (np HR.out 1) (k+2);simpa using this);have LC:Ea ((v::(k:Int)::r.take k).length=2+k):=O (by have:=HN.out;simp;omega);obtain⟨cr,hcr⟩:=En (XW (v::(k:Int)::r.take k));have CS:Ea (∀(y:Ext w1) (cc:Nat),Ef EU 157 #[EI (D ⟨b,off+1,Z⟩) (2+k) cc] (Ey w1 y) fun e w'=>e=Eg (.int .u16 cr)/\Ey w1 y=w'):=O (fun y cc=>by rw[hcr];exact Tq _ _ _ _ _ LC.out (Iy RC.out (ED y)) X);refine Xs Ed Ed ?_
 repeat (first
  |go_big_quiet_skip
  |(go_big_quiet_want
    first
     |(go_big_quiet_op
       first
        |go_big_quiet_on
        |go_big_quiet_call (go_loud (with_reducible refine X5 (CS.out _ _))))))
 refine IM ?_;intro _ hw';obtain⟨y9,rfl⟩:=hw';have Em:=ED y9;have YR:(XW (v::(k:Int)::r.take k) !=Ix .or .u16 (x*256) z)=(XW (v::(k:Int)::r.take k) !=256*x+z):=by rw[Eg2 x z xb.1 xb.2 zb.1 zb.2,Int.mul_comm]
 simp only[YR];rw[UK,UK,hx,hz] at hf;simp only[Option.getD_some] at hf;replace K0:=EQ K0 Em;replace HB1:=EW HB1 Em;replace HR:=O<|Iy HR.out Em;clear Em YR CS RC LC yx yz xb zb hcr hx hz;generalize Ey w1 y9=w2 at*;clear y9 w1;by_cases hq:XW (v::(k:Int)::r.take k)=256*x+z
 ·rw[if_neg (by simp[hq])] at hf;subst hf;have tq:(XW (v::(k:Int)::r.take k) !=256*x+z)=B:=by rw[hq];simp
  have hlen:(r.take k).length=k:=by rw[aj];have:=HN.out;omega
  have RD:Ea (Row w2 (D ⟨b,off+3,Z⟩) (r.take k)):=O (by have:=oG (np HR.out 3) k;simpa using this);simp only[tq];go_wp2_with fail;refine(EgK (D ⟨b,off+3,Z⟩) (r.take k) k (c-3) _ hlen RD.out X).mono ?_;rintro e w3 ⟨⟨A',c',rfl,ow⟩,b2⟩;have OW:=O<|bJ ow (show w.heap.size<=w2.heap.size from HB1.out.size);replace K0:=EQ K0 b2;replace HB1:=EW HB1 b2;clear ow b2 RD;have eS:(3+(k:Int)+2)=((k+5:Nat):Int):=X;rw[eS];obtain⟨tv,Ia⟩:=En (#[E I 2,E I ((k+5:Nat):Int),E I 0,EI A' k c']:Array V);have TS:Ea (tv.size=4):=O fC;have TO:Ea (tv.all (·.oneCell')=u):=O fD;have BS:Ea (Tryz.prog.built 101 [(0,E I 2),(1,E I ((k+5:Nat):Int)),(3,EI A' k c')]=D tv):=O (by rw[Ia];kernel_rfl);replace Ia:=O Ia;go_wp2_with (first|((with_reducible refine Is 45 ?_);refine I3 rfl 101 _ rfl tv BS.out ?_)|(with_reducible refine wS (cs:=tv) OJ K0 ?_ (hn:=TS.out) (h1:=TO.out)));refine ET (Jl OJ U _ _ w.heap.size tv U (K0.out.setRow tv) TS.out) U ?_;rw[Ia.out];exact⟨⟨_,U,⟨A',c',by simp only[qT,hlen],aF OW.out K0.out _⟩⟩,E3 HB1.out (E7 _) _⟩
 ·rw[if_pos hq] at hf;subst hf;have tq:(XW (v::(k:Int)::r.take k) !=256*x+z)=u:=rP;simp only[tq];clear tq hq i3 i4 i5 i2;go_wp2_with fail;refine(Dh 12 _).mono ?_;rintro e w3 ⟨rfl,b2⟩;replace K0:=EQ K0 b2;replace HB1:=EW HB1 b2;obtain⟨tv,Ia⟩:=En (#[E I 3,E I 1,E I 12,EI Z 0 0]:Array V);have TS:Ea (tv.size=4):=O fC;have TO:Ea (tv.all (·.oneCell')=u):=O fD;rw[<-Ia];replace Ia:=O Ia;go_wp2_with (with_reducible refine wS (cs:=tv) OJ K0 ?_ (hn:=TS.out) (h1:=TO.out));refine ET (Jl OJ U _ _ w.heap.size tv U (K0.out.setRow tv) TS.out) U ?_;rw[Ia.out];exact⟨⟨_,U,tL _ _ (jT 12) U⟩,E3 HB1.out (E7 _) _⟩
theorem rJ{b off:Nat}{xs:List Int}(h:Row W (D ⟨b,off,Z⟩) xs)(i:Nat){Y3:Int}(hi:xs[i]?=D Y3):W.cell? ⟨b,off+i,Z⟩=D (E IP Y3):=by
 obtain⟨hl,he⟩:=UG.1 hi;rcases h.1 with h2|⟨b',off',e,h2⟩;·rw[h2] at hl;exact absurd hl Eh
 ·injection e with e;injection e with e1 e2 e3;subst e1 e2;rw[h2 i hl,he]
end Go.Proofs.YtclmichaaiohjaaGreatDoor
