import Derived.Test.YtclmichaaiohjaaGreatDoorS03
import Derived.ArgAppend
import Derived.ChangeSlices
import Derived.Deep.DeepCutAuto
set_option maxRecDepth 100000
set_option linter.unusedVariables false
set_option linter.unusedSimpArgs false
set_option maxHeartbeats 6400000
namespace Go.Proofs.YtclmichaaiohjaaGreatDoor
open RowKit
open _root_.Array renaming getElem?_eq_none->iJ
open Bool renaming true->EJ,false->EI,false_eq_true->kL
open Go renaming bits->Ir,World->M,Calls->Eg,TypeId->EB,Value->Y,Addr->Ep,Program->Jq,heap_alloc_new->gI,bodyPost_ret->ET,binOp->X5,Exit->UM,Act->E_,Oper->EP,yielded->Jg,execOp->Ig,wpList->Ib,Operand->J5,info_parts->au,madeCells->bZ,below_setRow->EY,wpQuiet_nil->I5,callFunc->Jm,wp_loop_rounds->Uk,rounds_succ->Il,run_underlying->go,Ending->Ud,wpList_store_mid->Ux
open Act renaming put->Ih
open Builtin renaming append_->ZX
open DataW renaming trod->ZN
open Ending renaming returned->Ei
open Instr renaming loadAt->gJ,sureAddr->dp,index->Un
open IntKind renaming wrap->pE,bits->kh,signed->ki,i64->I,u8->Ix,u64->Im
open Lib renaming hid->J
open Obj renaming cells->Eb
open Go.Proofs.Tryz renaming prog->EZ,underlying23->aJ,func212->nN,ntmps212->nP,func138->ly,ntmps138->lA
open Region renaming wanted->JO
open Result renaming andThen_ok->OM
open RowKit renaming Below->Ij,Hid->Ed,intOf->In
open RowKit.Below renaming refl->IU,heap_setCell->XK
open Sem renaming run_bind->OH,run_pure->Oi
open Value renaming bool->Ec,int->E,agg->Ea,slice->G,tuple->Eu,pointer->V,oneCell'->Oc
open World renaming block_lt_of_cell?->Xv,setCell->fZ,alloc->Xo,cell?->jC,ownsRow->dU
open Int renaming toNat_natCast->kn,eq_ofNat_of_zero_le->fm,le_refl->Zz
open List renaming getElem?_eq_none->bJ,mem_of_mem_take->iI,eq_nil_of_length_eq_zero->ZP,getElem?_eq_getElem->JV,range->U4,all_eq_true->Xw,take_succ_cons->Is,take_of_length_le->OP,getD_eq_getElem?_getD->OE,getElem?_take_of_lt->cE,getElem?_append_right->aE,map_cons->UB,map_nil->Xn,take_zero->Iq,mem_map->dw,getElem?_toArray->J2,setIfInBounds_toArray->Ik,length_append->IY,length_cons->Zn,mem_cons->UJ,getElem_mem->gh,set_cons_succ->Ic,set_cons_zero->If,mem_append->Xp,map_append->ik,length_drop->il,getElem?_cons_zero->kS,not_mem_nil->Um,drop_succ_cons->IT,drop_zero->IM,append_nil->dy,take_add_one->nG,all_nil->bv,all_cons->aC,length_nil->jP
open List.cons renaming injEq->dJ
open Nat renaming lt_or_ge->JW,le_trans->Ew,le_refl->E3,zero_add->Ox,lt_of_lt_of_le->gX,zero_le->aO,reduceAdd->Z3,le_of_lt->aH,le_of_eq->OC
open Option renaming some->D,none->Z
open KQ
variable{o:EP}{a:E_}{d:FD}{w w' W W':M}{base gm cap g lo hi N gq gt gc gs ns g2:Nat}{A:Option Ep}{fs:List (FD×Nat)}{b:Y}{c:Ey}{xs hd:List Int}{cs cs2:Array Y}{S S2:EB}{ys:List Y}{rs:List Rec}
def I9(l:List Int):Array Y:=(l.map (E .i64)).toArray
theorem tI(l:List Int):(I9 l).all (·.oneCell')=EJ:=by simp[I9,Oc]
theorem Ch:IL EZ 176 10:=⟨⟨_,Tryz.underlying176,O⟩,Ef⟩
theorem tJ:IL EZ 206 2:=⟨⟨_,Tryz.underlying206,O⟩,Ef⟩
theorem Tm:IL EZ 207 12:=⟨⟨_,Tryz.underlying207,O⟩,Ef⟩
theorem Ebc:IL EZ 58 6:=⟨⟨_,Tryz.underlying58,O⟩,Ef⟩
theorem La:Od EZ 176 (Em (Ev 10)):=by intro ev o w ho;unfold Ig;simp only[ho];simp[go_sem];exact congrArg (fun c=>w.alloc (Eb c 176)) Ef
theorem tO:Od EZ 206 (I9 (Ev 2)):=by intro ev o w ho;unfold Ig;simp only[ho];simp[go_sem];exact congrArg (fun c=>w.alloc (Eb c 206)) Ef
theorem Ebd:Od EZ 207 (I9 (Ev 12)):=by intro ev o w ho;unfold Ig;simp only[ho];simp[go_sem];exact congrArg (fun c=>w.alloc (Eb c 207)) Ef
theorem Ebf: ∃i,Tryz.prog.info? 206=D i/\i.size=2:=by
 have h:(Tryz.prog.info? 206).map (·.size)=D 2:=Ef;cases hi:Tryz.prog.info? 206 with
 |none=>rw[hi] at h;cases h
 |some i=>rw[hi] at h;exact⟨i,O,Ov⟩
theorem tU(cs:Array Y)(i:Nat)(h:i<6)(W:M):(Un 207 (Ea cs) (E I (i:Int))).run EZ W= .ok (Ea (cs.extract (i*2) (i*2+2))) W:=by obtain⟨i0,hi,h1⟩:=Ebf;unfold Un;have c1:(0:Int)<=(i:Int)/\(i:Int)<(6:Int):=U;simp[asIntOf,go Tryz.underlying207,c1,sizeOf,typeInfo,hi,h1,Go.part,isAgg,go Tryz.underlying206];omega
def gM(k s q e c h:Int):List Int:=be (k%256) 1++be (s%256) 1++be (q%4294967296) 4++be (e%65536) 2++be (c%256) 1++be (h%256) 1
theorem Ebg(k s q e c h:Int):(gM k s q e c h).length=10:=by simp[gM,UU]
theorem Ebh(k s q e c h:Int): ∀x∈gM k s q e c h,0<=x/\x<=255:=by intro x hx;simp only[gM,Xp] at hx;rcases hx with((((h|h)|h)|h)|h)|h<;>exact u0 _ _ x h
theorem Lb(n:Int)(k:Nat)(m:Int)(hk:k<=63)(hm:IntKind.u64.wrap (IntKind.u64.wrap (2^k)-1)=m)(hd:(2:Int)^k∣18446744073709551616):Ir .and .u64 (IntKind.u64.wrap n) m=n%2^k:=by
 have e:IntKind.u64.wrap n=n%18446744073709551616:=by unfold pE;rfl
 rw[e,<-hm,QS k hk _ U U];exact Int.emod_emod_of_dvd n hd
theorem Ci(n:Int):Ir .and .u64 (IntKind.u64.wrap n) 255=n%256:=Lb n 8 255 U EU EU
theorem Ebi(n:Int):Ir .and .u64 (IntKind.u64.wrap n) 65535=n%65536:=Lb n 16 65535 U EU EU
theorem Ebj(n:Int):Ir .and .u64 (IntKind.u64.wrap n) 4294967295=n%4294967296:=Lb n 32 4294967295 U EU EU
theorem pV(p y:List Int)(n at_:Nat)(hp:p.length=at_):putAt (p++Ev n) at_ y=(p++y)++Ev (n-y.length):=by subst hp;unfold putAt Ev;simp[List.drop_append]
theorem Ebk(k s q e c h:Int)(w:M): Eg EZ 81 #[Ea #[E I k,E I s,E I q,E I e,E I c,E I h]] w fun e' w'=>e'=Ei (Ea (Em (gM k s q e c h)))/\El w w':=by
 have u:=J<|IU w.heap.size w;go_enter Tryz.func81,Tryz.ntmps81;go_wp2_with (with_reducible refine wA La (Ex.mk ?_));apply Es;have KR:=J<|(H.new w #[E I k,E I s,E I q,E I e,E I c,E I h] 58).alloc (Eb (Em (Ev 10)) 176);have K2:=J<|H.new' (w.alloc (Eb #[E I k,E I s,E I q,E I e,E I c,E I h] 58)) (Em (Ev 10)) 176 (g:=w.heap.size+1) Ej;replace u:=J<|JY w (Eb #[E I k,E I s,E I q,E I e,E I c,E I h] 58) (Eb (Em (Ev 10)) 176);generalize (w.alloc (Eb #[E I k,E I s,E I q,E I e,E I c,E I h] 58)).alloc (Eb (Em (Ev 10)) 176)=w1 at*;have g2e:w.heap.size<=w.heap.size+1:=Nat.le_succ _;generalize w.heap.size+1=g2 at*;have ck:=(Jf KR.out).1;have l1:=K2.out.lt;go_wp2_with (with_reducible refine wA Ebd (Ex.mk ?_));apply Es;have bel:=Er w1 (Eb (I9 (Ev 12)) 207);replace KR:=J<|KR.out.B bel;replace K2:=J<|K2.out.B bel;replace u:=EV u bel;have K3:=J<|H.new w1 (I9 (Ev 12)) 207;clear bel;generalize w1.alloc (Eb (I9 (Ev 12)) 207)=w2 at*;generalize w1.heap.size=g3 at*;clear ck;go_wp2_with (with_reducible refine wS (cs:= #[E I k,E I 1,E I s,E I 1,E I q,E I 4,E I e,E I 2,E I c,E I 1,E I h,E I 1]) Tm K3 (Ex.mk ?_) (h1:=U9));apply Es;replace KR:=J<|KR.out.setRow_other g3 (#[E I k,E I 1,E I s,E I 1,E I q,E I 4,E I e,E I 2,E I c,E I 1,E I h,E I 1]) U;replace K2:=J<|K2.out.setRow_other g3 (#[E I k,E I 1,E I s,E I 1,E I q,E I 4,E I e,E I 2,E I c,E I 1,E I h,E I 1]) U;replace K3:=J<|K3.out.setRow (#[E I k,E I 1,E I s,E I 1,E I q,E I 4,E I e,E I 2,E I c,E I 1,E I h,E I 1]);replace u:=J<|EY (g:=g3) u.out U (#[E I k,E I 1,E I s,E I 1,E I q,E I 4,E I e,E I 2,E I c,E I 1,E I h,E I 1]);generalize w2.setRow g3 (#[E I k,E I 1,E I s,E I 1,E I q,E I 4,E I e,E I 2,E I c,E I 1,E I h,E I 1])=w3 at*;have l3:=K3.out.lt;go_wp2_with (with_reducible refine wA La (Ex.mk ?_));apply Es;have bel:=Er w3 (Eb (Em (Ev 10)) 176);replace KR:=J<|KR.out.B bel;replace K2:=J<|K2.out.B bel;replace K3:=J<|K3.out.B bel;replace u:=EV u bel;have K4:=J<|H.new w3 (Em (Ev 10)) 176;clear bel;generalize w3.alloc (Eb (Em (Ev 10)) 176)=w4 at*;generalize w3.heap.size=g4 at*;clear KR;have K3c:Ed (H w4 g3 (#[E I k,E I 1,E I s,E I 1,E I q,E I 4,E I e,E I 2,E I c,E I 1,E I h,E I 1]) 207):=K3;go_wp2_with (with_reducible refine wL Tm K3 ?_);refine Uk 7 ?_;have l4:=K4.out.lt;have P0L:Ed ((([]:List Int)++Ev 10).length=10):=J pW;have P0E:Ed (putAt (([]:List Int)++Ev 10) 0 (be (k%256) 1)=(([]:List Int)++be (k%256) 1)++Ev 9):=J (by rw[pV _ _ _ _ tX,UU]);have P1L:Ed (((([]:List Int)++be (k%256) 1)++Ev 9).length=10):=J pW;have P1E:Ed (putAt ((([]:List Int)++be (k%256) 1)++Ev 9) 1 (be (s%256) 1)=((([]:List Int)++be (k%256) 1)++be (s%256) 1)++Ev 8):=J (by rw[pV _ _ _ _ tX,UU]);have P2L:Ed ((((([]:List Int)++be (k%256) 1)++be (s%256) 1)++Ev 8).length=10):=J pW;have P2E:Ed (putAt (((([]:List Int)++be (k%256) 1)++be (s%256) 1)++Ev 8) 2 (be (q%4294967296) 4)=(((([]:List Int)++be (k%256) 1)++be (s%256) 1)++be (q%4294967296) 4)++Ev 4):=J (by rw[pV _ _ _ _ tX,UU]);have P3L:Ed (((((([]:List Int)++be (k%256) 1)++be (s%256) 1)++be (q%4294967296) 4)++Ev 4).length=10):=J pW;have P3E:Ed (putAt ((((([]:List Int)++be (k%256) 1)++be (s%256) 1)++be (q%4294967296) 4)++Ev 4) 6 (be (e%65536) 2)=((((([]:List Int)++be (k%256) 1)++be (s%256) 1)++be (q%4294967296) 4)++be (e%65536) 2)++Ev 2):=J (by rw[pV _ _ _ _ tX,UU]);have P4L:Ed ((((((([]:List Int)++be (k%256) 1)++be (s%256) 1)++be (q%4294967296) 4)++be (e%65536) 2)++Ev 2).length=10):=J pW;have P4E:Ed (putAt (((((([]:List Int)++be (k%256) 1)++be (s%256) 1)++be (q%4294967296) 4)++be (e%65536) 2)++Ev 2) 8 (be (c%256) 1)=(((((([]:List Int)++be (k%256) 1)++be (s%256) 1)++be (q%4294967296) 4)++be (e%65536) 2)++be (c%256) 1)++Ev 1):=J (by rw[pV _ _ _ _ tX,UU]);have P5L:Ed (((((((([]:List Int)++be (k%256) 1)++be (s%256) 1)++be (q%4294967296) 4)++be (e%65536) 2)++be (c%256) 1)++Ev 1).length=10):=J pW;have P5E:Ed (putAt ((((((([]:List Int)++be (k%256) 1)++be (s%256) 1)++be (q%4294967296) 4)++be (e%65536) 2)++be (c%256) 1)++Ev 1) 9 (be (h%256) 1)=((((((([]:List Int)++be (k%256) 1)++be (s%256) 1)++be (q%4294967296) 4)++be (e%65536) 2)++be (c%256) 1)++be (h%256) 1)++Ev 0):=J (by rw[pV _ _ _ _ tX,UU]);replace K4:Ed (H w4 g4 (Em (([]:List Int)++Ev 10)) 176):=K4;clear K3c K3;rw[Il];have IX: ∀W,(Un 207 (Ea #[E I k,E I 1,E I s,E I 1,E I q,E I 4,E I e,E I 2,E I c,E I 1,E I h,E I 1]) (E I 0)).run EZ W= .ok (Ea #[E I k,E I 1]) W:=fun W=>tU _ 0 U W;go_wp2_with (with_reducible refine wA tO (Ex.mk ?_));apply Es;have bel:=Er w4 (Eb (I9 (Ev 2)) 206);replace K2:=J<|K2.out.B bel;replace K4:=J<|K4.out.B bel;replace u:=EV u bel;have K7:=J<|H.new w4 (I9 (Ev 2)) 206;clear bel;generalize w4.alloc (Eb (I9 (Ev 2)) 206)=w0a at*;generalize w4.heap.size=vz at*;go_wp2_with (with_reducible refine wS (cs:=I9 [k,1]) tJ K7 (Ex.mk ?_) (h1:=tI _));apply Es;replace K2:=J<|K2.out.setRow_other vz (I9 [k,1]) U;replace K4:=J<|K4.out.setRow_other vz (I9 [k,1]) U;replace K7:=J<|K7.out.setRow (I9 [k,1]);replace u:=J<|EY (g:=vz) u.out U (I9 [k,1]);generalize w0a.setRow vz (I9 [k,1])=Tn at*;have cf: ∀i,Tn.cell? ⟨vz,i,Z⟩=(#[E I k,E I 1]:Array Y)[i]?:=(Jf K7.out).1;clear IX;have PUT: ∀W:M,Eg EZ 111 #[E Im (k%256),E I 1] W fun en w'=>en=Ei (Eu #[G (D ⟨W.heap.size,0,Z⟩) 1 1,E I 0])/\Row w' (D ⟨W.heap.size,0,Z⟩) (be (k%256) 1)/\El W w':=fun W=>kR (k%256) 1 W U U U (by show(k%256)/256=0;omega);go_wp2_with fail;rw[Ci];refine(PUT _).mono ?_;rintro e' w0c ⟨rfl,RP,bp⟩;clear PUT cf;replace K2:=J<|K2.out.B bp;replace K4:=J<|K4.out.B bp;replace K7:=J<|K7.out.B bp;replace u:=EV u bp;clear bp K7;replace RP:=J RP;go_wp2_with (with_reducible refine JE 60 ?_);apply Es;(with_reducible refine kD ?_ g4 0 1 1 (([]:List Int)++Ev 10) 176 (D ⟨Tn.heap.size,0,Z⟩) 1 1 (be (k%256) 1) 1 (D ⟨g4,0,Z⟩) ?_ K4 (UU _ _) RP ?_ ?_ ?_ ?_);·exact Eh O
 ·exact Eps
 ·rfl
 ·rw[P0L.out];omega
 ·exact EqG
 intro vB XT b5 o5 s5;rw[OP tZ,P0E.out] at XT;replace u:=J<|u.out.trans (b5.mono U);replace K2:=J<|show H vB g2 (Em (Ev 10)) 176 from(o5 _ U).trans K2.out;clear K4 o5 s5 b5 RP;replace K4:=J XT;clear XT;have l4:=K4.out.lt;go_wp2_with fail;rw[Il];have IX: ∀W,(Un 207 (Ea #[E I k,E I 1,E I s,E I 1,E I q,E I 4,E I e,E I 2,E I c,E I 1,E I h,E I 1]) (E I 1)).run EZ W= .ok (Ea #[E I s,E I 1]) W:=fun W=>tU _ 1 U W;go_wp2_with (with_reducible refine wA tO (Ex.mk ?_));apply Es;have bel:=Er vB (Eb (I9 (Ev 2)) 206);replace K2:=J<|K2.out.B bel;replace K4:=J<|K4.out.B bel;replace u:=EV u bel;have K7:=J<|H.new vB (I9 (Ev 2)) 206;clear bel;generalize vB.alloc (Eb (I9 (Ev 2)) 206)=w1a at*;generalize vB.heap.size=vC at*;go_wp2_with (with_reducible refine wS (cs:=I9 [s,1]) tJ K7 (Ex.mk ?_) (h1:=tI _));apply Es;replace K2:=J<|K2.out.setRow_other vC (I9 [s,1]) U;replace K4:=J<|K4.out.setRow_other vC (I9 [s,1]) U;replace K7:=J<|K7.out.setRow (I9 [s,1]);replace u:=J<|EY (g:=vC) u.out U (I9 [s,1]);generalize w1a.setRow vC (I9 [s,1])=To at*;have cf: ∀i,To.cell? ⟨vC,i,Z⟩=(#[E I s,E I 1]:Array Y)[i]?:=(Jf K7.out).1;clear IX;have PUT: ∀W:M,Eg EZ 111 #[E Im (s%256),E I 1] W fun en w'=>en=Ei (Eu #[G (D ⟨W.heap.size,0,Z⟩) 1 1,E I 0])/\Row w' (D ⟨W.heap.size,0,Z⟩) (be (s%256) 1)/\El W w':=fun W=>kR (s%256) 1 W U U U (by show(s%256)/256=0;omega);go_wp2_with fail;rw[Ci];refine(PUT _).mono ?_;rintro e' w1c ⟨rfl,RP,bp⟩;clear PUT cf;replace K2:=J<|K2.out.B bp;replace K4:=J<|K4.out.B bp;replace K7:=J<|K7.out.B bp;replace u:=EV u bp;clear bp K7;replace RP:=J RP;go_wp2_with (with_reducible refine JE 60 ?_);apply Es;(with_reducible refine kD ?_ g4 1 1 1 ((([]:List Int)++be (k%256) 1)++Ev 9) 176 (D ⟨To.heap.size,0,Z⟩) 1 1 (be (s%256) 1) 1 (D ⟨g4,1,Z⟩) ?_ K4 (UU _ _) RP ?_ ?_ ?_ ?_);·exact Eh O
 ·exact Eps
 ·rfl
 ·rw[P1L.out];omega
 ·exact EqG
 intro vD XT b5 o5 s5;rw[OP tZ,P1E.out] at XT;replace u:=J<|u.out.trans (b5.mono U);replace K2:=J<|show H vD g2 (Em (Ev 10)) 176 from(o5 _ U).trans K2.out;clear K4 o5 s5 b5 RP;replace K4:=J XT;clear XT;have l4:=K4.out.lt;go_wp2_with fail;rw[Il];have IX: ∀W,(Un 207 (Ea #[E I k,E I 1,E I s,E I 1,E I q,E I 4,E I e,E I 2,E I c,E I 1,E I h,E I 1]) (E I 2)).run EZ W= .ok (Ea #[E I q,E I 4]) W:=fun W=>tU _ 2 U W;go_wp2_with (with_reducible refine wA tO (Ex.mk ?_));apply Es;have bel:=Er vD (Eb (I9 (Ev 2)) 206);replace K2:=J<|K2.out.B bel;replace K4:=J<|K4.out.B bel;replace u:=EV u bel;have K7:=J<|H.new vD (I9 (Ev 2)) 206;clear bel;generalize vD.alloc (Eb (I9 (Ev 2)) 206)=w2a at*;generalize vD.heap.size=vF at*;go_wp2_with (with_reducible refine wS (cs:=I9 [q,4]) tJ K7 (Ex.mk ?_) (h1:=tI _));apply Es;replace K2:=J<|K2.out.setRow_other vF (I9 [q,4]) U;replace K4:=J<|K4.out.setRow_other vF (I9 [q,4]) U;replace K7:=J<|K7.out.setRow (I9 [q,4]);replace u:=J<|EY (g:=vF) u.out U (I9 [q,4]);generalize w2a.setRow vF (I9 [q,4])=Tp at*;have cf: ∀i,Tp.cell? ⟨vF,i,Z⟩=(#[E I q,E I 4]:Array Y)[i]?:=(Jf K7.out).1;clear IX;have PUT: ∀W:M,Eg EZ 111 #[E Im (q%4294967296),E I 4] W fun en w'=>en=Ei (Eu #[G (D ⟨W.heap.size,0,Z⟩) 4 4,E I 0])/\Row w' (D ⟨W.heap.size,0,Z⟩) (be (q%4294967296) 4)/\El W w':=fun W=>kR (q%4294967296) 4 W U U U (by show(q%4294967296)/4294967296=0;omega);go_wp2_with fail;rw[Ebj];refine(PUT _).mono ?_;rintro e' w2c ⟨rfl,RP,bp⟩;clear PUT cf;replace K2:=J<|K2.out.B bp;replace K4:=J<|K4.out.B bp;replace K7:=J<|K7.out.B bp;replace u:=EV u bp;clear bp K7;replace RP:=J RP;go_wp2_with (with_reducible refine JE 60 ?_);apply Es;(with_reducible refine kD ?_ g4 2 4 4 (((([]:List Int)++be (k%256) 1)++be (s%256) 1)++Ev 8) 176 (D ⟨Tp.heap.size,0,Z⟩) 4 4 (be (q%4294967296) 4) 4 (D ⟨g4,2,Z⟩) ?_ K4 (UU _ _) RP ?_ ?_ ?_ ?_);·exact Eh O
 ·exact Eps
 ·rfl
 ·rw[P2L.out];omega
 ·exact EqG
 intro vG XT b5 o5 s5;rw[OP tZ,P2E.out] at XT;replace u:=J<|u.out.trans (b5.mono U);replace K2:=J<|show H vG g2 (Em (Ev 10)) 176 from(o5 _ U).trans K2.out;clear K4 o5 s5 b5 RP;replace K4:=J XT;clear XT;have l4:=K4.out.lt;go_wp2_with fail;rw[Il];have IX: ∀W,(Un 207 (Ea #[E I k,E I 1,E I s,E I 1,E I q,E I 4,E I e,E I 2,E I c,E I 1,E I h,E I 1]) (E I 3)).run EZ W= .ok (Ea #[E I e,E I 2]) W:=fun W=>tU _ 3 U W;go_wp2_with (with_reducible refine wA tO (Ex.mk ?_));apply Es;have bel:=Er vG (Eb (I9 (Ev 2)) 206);replace K2:=J<|K2.out.B bel;replace K4:=J<|K4.out.B bel;replace u:=EV u bel;have K7:=J<|H.new vG (I9 (Ev 2)) 206;clear bel;generalize vG.alloc (Eb (I9 (Ev 2)) 206)=w3a at*;generalize vG.heap.size=vH at*;go_wp2_with (with_reducible refine wS (cs:=I9 [e,2]) tJ K7 (Ex.mk ?_) (h1:=tI _));apply Es;replace K2:=J<|K2.out.setRow_other vH (I9 [e,2]) U;replace K4:=J<|K4.out.setRow_other vH (I9 [e,2]) U;replace K7:=J<|K7.out.setRow (I9 [e,2]);replace u:=J<|EY (g:=vH) u.out U (I9 [e,2]);generalize w3a.setRow vH (I9 [e,2])=Cj at*;have cf: ∀i,Cj.cell? ⟨vH,i,Z⟩=(#[E I e,E I 2]:Array Y)[i]?:=(Jf K7.out).1;clear IX;have PUT: ∀W:M,Eg EZ 111 #[E Im (e%65536),E I 2] W fun en w'=>en=Ei (Eu #[G (D ⟨W.heap.size,0,Z⟩) 2 2,E I 0])/\Row w' (D ⟨W.heap.size,0,Z⟩) (be (e%65536) 2)/\El W w':=fun W=>kR (e%65536) 2 W U U U (by show(e%65536)/65536=0;omega);go_wp2_with fail;rw[Ebi];refine(PUT _).mono ?_;rintro e' w3c ⟨rfl,RP,bp⟩;clear PUT cf;replace K2:=J<|K2.out.B bp;replace K4:=J<|K4.out.B bp;replace K7:=J<|K7.out.B bp;replace u:=EV u bp;clear bp K7;replace RP:=J RP;go_wp2_with (with_reducible refine JE 60 ?_);apply Es;(with_reducible refine kD ?_ g4 6 2 2 ((((([]:List Int)++be (k%256) 1)++be (s%256) 1)++be (q%4294967296) 4)++Ev 4) 176 (D ⟨Cj.heap.size,0,Z⟩) 2 2 (be (e%65536) 2) 2 (D ⟨g4,6,Z⟩) ?_ K4 (UU _ _) RP ?_ ?_ ?_ ?_);·exact Eh O
 ·exact Eps
 ·rfl
 ·rw[P3L.out];omega
 ·exact EqG
 intro vK XT b5 o5 s5;rw[OP tZ,P3E.out] at XT;replace u:=J<|u.out.trans (b5.mono U);replace K2:=J<|show H vK g2 (Em (Ev 10)) 176 from(o5 _ U).trans K2.out;clear K4 o5 s5 b5 RP;replace K4:=J XT;clear XT;have l4:=K4.out.lt;go_wp2_with fail;rw[Il];have IX: ∀W,(Un 207 (Ea #[E I k,E I 1,E I s,E I 1,E I q,E I 4,E I e,E I 2,E I c,E I 1,E I h,E I 1]) (E I 4)).run EZ W= .ok (Ea #[E I c,E I 1]) W:=fun W=>tU _ 4 U W;go_wp2_with (with_reducible refine wA tO (Ex.mk ?_));apply Es;have bel:=Er vK (Eb (I9 (Ev 2)) 206);replace K2:=J<|K2.out.B bel;replace K4:=J<|K4.out.B bel;replace u:=EV u bel;have K7:=J<|H.new vK (I9 (Ev 2)) 206;clear bel;generalize vK.alloc (Eb (I9 (Ev 2)) 206)=w4a at*;generalize vK.heap.size=vL at*;go_wp2_with (with_reducible refine wS (cs:=I9 [c,1]) tJ K7 (Ex.mk ?_) (h1:=tI _));apply Es;replace K2:=J<|K2.out.setRow_other vL (I9 [c,1]) U;replace K4:=J<|K4.out.setRow_other vL (I9 [c,1]) U;replace K7:=J<|K7.out.setRow (I9 [c,1]);replace u:=J<|EY (g:=vL) u.out U (I9 [c,1]);generalize w4a.setRow vL (I9 [c,1])=Tq at*;have cf: ∀i,Tq.cell? ⟨vL,i,Z⟩=(#[E I c,E I 1]:Array Y)[i]?:=(Jf K7.out).1;clear IX;have PUT: ∀W:M,Eg EZ 111 #[E Im (c%256),E I 1] W fun en w'=>en=Ei (Eu #[G (D ⟨W.heap.size,0,Z⟩) 1 1,E I 0])/\Row w' (D ⟨W.heap.size,0,Z⟩) (be (c%256) 1)/\El W w':=fun W=>kR (c%256) 1 W U U U (by show(c%256)/256=0;omega);go_wp2_with fail;rw[Ci];refine(PUT _).mono ?_;rintro e' w4c ⟨rfl,RP,bp⟩;clear PUT cf;replace K2:=J<|K2.out.B bp;replace K4:=J<|K4.out.B bp;replace K7:=J<|K7.out.B bp;replace u:=EV u bp;clear bp K7;replace RP:=J RP;go_wp2_with (with_reducible refine JE 60 ?_);apply Es;(with_reducible refine kD ?_ g4 8 1 1 (((((([]:List Int)++be (k%256) 1)++be (s%256) 1)++be (q%4294967296) 4)++be (e%65536) 2)++Ev 2) 176 (D ⟨Tq.heap.size,0,Z⟩) 1 1 (be (c%256) 1) 1 (D ⟨g4,8,Z⟩) ?_ K4 (UU _ _) RP ?_ ?_ ?_ ?_);·exact Eh O
 ·exact Eps
 ·rfl
 ·rw[P4L.out];omega
 ·exact EqG
 intro vM XT b5 o5 s5;rw[OP tZ,P4E.out] at XT;replace u:=J<|u.out.trans (b5.mono U);replace K2:=J<|show H vM g2 (Em (Ev 10)) 176 from(o5 _ U).trans K2.out;clear K4 o5 s5 b5 RP;replace K4:=J XT;clear XT;have l4:=K4.out.lt;go_wp2_with fail;rw[Il];have IX: ∀W,(Un 207 (Ea #[E I k,E I 1,E I s,E I 1,E I q,E I 4,E I e,E I 2,E I c,E I 1,E I h,E I 1]) (E I 5)).run EZ W= .ok (Ea #[E I h,E I 1]) W:=fun W=>tU _ 5 U W;go_wp2_with (with_reducible refine wA tO (Ex.mk ?_));apply Es;have bel:=Er vM (Eb (I9 (Ev 2)) 206);replace K2:=J<|K2.out.B bel;replace K4:=J<|K4.out.B bel;replace u:=EV u bel;have K7:=J<|H.new vM (I9 (Ev 2)) 206;clear bel;generalize vM.alloc (Eb (I9 (Ev 2)) 206)=w5a at*;generalize vM.heap.size=vN at*;go_wp2_with (with_reducible refine wS (cs:=I9 [h,1]) tJ K7 (Ex.mk ?_) (h1:=tI _));apply Es;replace K2:=J<|K2.out.setRow_other vN (I9 [h,1]) U;replace K4:=J<|K4.out.setRow_other vN (I9 [h,1]) U;replace K7:=J<|K7.out.setRow (I9 [h,1]);replace u:=J<|EY (g:=vN) u.out U (I9 [h,1]);generalize w5a.setRow vN (I9 [h,1])=Tr at*;have cf: ∀i,Tr.cell? ⟨vN,i,Z⟩=(#[E I h,E I 1]:Array Y)[i]?:=(Jf K7.out).1;clear IX;have PUT: ∀W:M,Eg EZ 111 #[E Im (h%256),E I 1] W fun en w'=>en=Ei (Eu #[G (D ⟨W.heap.size,0,Z⟩) 1 1,E I 0])/\Row w' (D ⟨W.heap.size,0,Z⟩) (be (h%256) 1)/\El W w':=fun W=>kR (h%256) 1 W U U U (by show(h%256)/256=0;omega);go_wp2_with fail;rw[Ci];refine(PUT _).mono ?_;rintro e' w5c ⟨rfl,RP,bp⟩;clear PUT cf;replace K2:=J<|K2.out.B bp;replace K4:=J<|K4.out.B bp;replace K7:=J<|K7.out.B bp;replace u:=EV u bp;clear bp K7;replace RP:=J RP;go_wp2_with (with_reducible refine JE 60 ?_);apply Es;(with_reducible refine kD ?_ g4 9 1 1 ((((((([]:List Int)++be (k%256) 1)++be (s%256) 1)++be (q%4294967296) 4)++be (e%65536) 2)++be (c%256) 1)++Ev 1) 176 (D ⟨Tr.heap.size,0,Z⟩) 1 1 (be (h%256) 1) 1 (D ⟨g4,9,Z⟩) ?_ K4 (UU _ _) RP ?_ ?_ ?_ ?_);·exact Eh O
 ·exact Eps
 ·rfl
 ·rw[P5L.out];omega
 ·exact EqG
 intro w5d XT b5 o5 s5;rw[OP tZ,P5E.out] at XT;replace u:=J<|u.out.trans (b5.mono U);replace K2:=J<|show H w5d g2 (Em (Ev 10)) 176 from(o5 _ U).trans K2.out;clear K4 o5 s5 b5 RP;replace K4:=J XT;clear XT;have l4:=K4.out.lt;go_wp2_with fail;rw[Il];have Ts:gM k s q e c h=((((((([]:List Int)++be (k%256) 1)++be (s%256) 1)++be (q%4294967296) 4)++be (e%65536) 2)++be (c%256) 1)++be (h%256) 1):=rfl;have PL:(((((((([]:List Int)++be (k%256) 1)++be (s%256) 1)++be (q%4294967296) 4)++be (e%65536) 2)++be (c%256) 1)++be (h%256) 1)++Ev 0).length=10:=pW;have PE:((((((([]:List Int)++be (k%256) 1)++be (s%256) 1)++be (q%4294967296) 4)++be (e%65536) 2)++be (c%256) 1)++be (h%256) 1)++Ev 0=gM k s q e c h:=by rw[Ts];exact dy _
 rw[PE] at K4 PL;clear PE Ts;generalize hrb:gM k s q e c h=rb at*;replace hrb:=J hrb;replace PL:=J PL;go_wp2_with (with_reducible first|refine wL Ch K4 ?_ (hn:=Tt)|refine wS (cs:=Em rb) Ch K2 (Ex.mk ?_) (ho:=XP) (hn:=Tt) (h1:=X6 _));apply Es;replace K2:=J<|K2.out.setRow (Em rb);replace u:=J<|EY (g:=g2) u.out U (Em rb);go_wp2_with fail;refine ET (v:=Ea (Em rb)) (Jd Ch O _ _ g2 _ O K2.out (by rw[Ob,PL.out])) O ⟨by rw[hrb.out],u.out⟩
theorem of_nil(w:M):Eg EZ 45 #[G Z 0 0] w fun e w'=>e=Ei (Ea (Em (Ev 32)))/\El w w':=by have u:=J<|IU w.heap.size w;go_enter Tryz.func45,Tryz.ntmps45;go_wp2_with (with_reducible refine wA fy (Ex.mk ?_));apply Es;have K2:=J<|H.new w (Em (Ev 32)) 41;replace u:=J<|Er w (Eb (Em (Ev 32)) 41);generalize w.alloc (Eb (Em (Ev 32)) 41)=w1 at*;have l1:=K2.out.lt;go_wp2_with (with_reducible refine wA fy (Ex.mk ?_));apply Es;have bel:=Er w1 (Eb (Em (Ev 32)) 41);replace K2:=J<|K2.out.B bel;replace u:=EV u bel;have K3:=J<|H.new w1 (Em (Ev 32)) 41;clear bel;generalize w1.alloc (Eb (Em (Ev 32)) 41)=w2 at*;generalize w1.heap.size=g3 at*;go_wp2_with fail;refine Uk 1 ?_;rw[Il];go_wp2_with (with_reducible first|refine wL UX K3 ?_ (hn:=XP)|refine wS (cs:=Em (Ev 32)) UX K2 (Ex.mk ?_) (ho:=XP) (hn:=XP) (h1:=X6 _));apply Es;go_wp2_with fail;refine ET (v:=Ea (Em (Ev 32))) (Jd UX O _ _ w.heap.size _ O (K2.out.setRow (Em (Ev 32))) Lc) O ⟨O,EY u.out U _⟩
theorem EbG(w:M)(g:Nat)(xs:List Int)(hr0:Row w (D ⟨g,0,Z⟩) xs)(g' c:Nat)(ys:List Int)(hr:Row w (D ⟨g',0,Z⟩) ys)(hpos:0<ys.length)(hsmall:xs.length+ys.length<=1000000000)(ty:EB): ∃A' cap' w',(ZX #[23,23] ty #[G (D ⟨g,0,Z⟩) xs.length xs.length,G (D ⟨g',0,Z⟩) ys.length c]).run EZ w= .ok (G A' (xs.length+ys.length) cap') w'/\ Own w' w.heap.size A' cap' (xs++ys)/\El w w':=by
 obtain⟨i0,hi,hz0,hz1,hz2⟩:=au jl
 have cells: ∀(g:Nat) (l:List Int),Row w (D ⟨g,0,Z⟩) l-> ∀(j:Nat) Y3,(l.map (E .u8))[j]?=D Y3->w.cell? ((⟨g,0,Z⟩:Ep).add j)=D Y3:=by
  intro g l hl j Y3 hu
  have hj:j<l.length:=by
   rcases JW j l.length with h|h;·exact h
   ·exact Eq9
  rcases hl.1 with h|⟨b,off,h,hc⟩;·subst h;simp at hj
  ·injection h with h;have e:((⟨g,0,Z⟩:Ep)).add j=⟨b,off+j,Z⟩:=by rw[h];unfold Addr.add;split<;>simp_all
   rw[e,hc j hj];simpa[hj] using hu
 have hbb: ∀x∈xs++ys,0<=x/\x<=255:=by
  intro x hx;rcases Xp.1 hx with h|h;·exact hr0.2 x h
  ·exact hr.2 x h
 obtain⟨v',w',hrun,h2,h3⟩:=run_append_arg_grows (P:=EZ) w 23 ty 5 i0 (E Ix 0) 1 1 aJ hi hz0 hz1 hz2 O U ⟨g,0,Z⟩ xs.length xs.length (xs.map (E .u8)) Ej (cells g xs hr0) ⟨g',0,Z⟩ ys.length c (ys.map (E .u8)) Ej (cells g' ys hr) U J8 U;have hbel:El w w':=(IU _ _).grown h3 (E3 _) (fun k hk=>by cases hk);rcases h2.2 with⟨hv,hn⟩|⟨g2,cap',cur,hv,hrest⟩;·omega
 ·refine⟨D ⟨g2,0,Z⟩,cap',w',by rw[hrun,hv],⟨?_,hbb⟩,hbel⟩;rw[hv] at h2;rw[IY,ik];exact h2
theorem EbH{ops:Array EP}{rest:List EP}{Q:UM->E_->M->Prop}(w:M)(hgd:JO o (Jg ops a.tmps)=EJ)(s x:J5) (ho:o.op= .call {callee:= .builtin .append,args:= #[s,x],argTypes:= #[23,23]}) (g n:Nat) (xs:List Int) (hn:xs.length=n) (hs:a.eval s=G (D ⟨g,0,Z⟩) n n) (hr0:Row w (D ⟨g,0,Z⟩) xs) (g' c m:Nat) (ys:List Int) (hm:ys.length=m) (hx:a.eval x=G (D ⟨g',0,Z⟩) m c) (hr:Row w (D ⟨g',0,Z⟩) ys) (hpos:0<m) (hsmall:n+m<=1000000000) (h: ∀A' cap' w',Own w' w.heap.size A' cap' (xs++ys)->El w w'->Ib EZ ops Q rest (a.put o.dst (G A' (n+m) cap')) w'):Ib EZ ops Q (o::rest) a w:=by subst hn hm;obtain⟨A',cap',w',hrun,hown,hbel⟩:=EbG w g xs hr0 g' c ys hr hpos hsmall o.type;refine Jo hgd (v:=G A' (xs.length+ys.length) cap') (w':=w') ?_ (h _ _ _ hown hbel);exact Ep9
theorem EbK(hd:List Int)(k s q e c h:Int)(hl:hd.length=32)(hb: ∀x∈hd,0<=x/\x<=255)(w:M)(hR:Ju w): Eg EZ 68 #[Ea (Em hd),Ea #[E I k,E I s,E I q,E I e,E I c,E I h]] w fun e' w'=>e'=Ei (Ea (Em (Zu (hd++gM k s q e c h))))/\El w w':=by
 have RT:=J hR;have HL:=J hl;have HB:=J hb;have CR:=fun W:M=>Ebk k s q e c h W;have RL:=Ebg k s q e c h;have RB:=Ebh k s q e c h;generalize gM k s q e c h=rb at*;replace RL:=J RL;replace RB:=J RB;replace CR:=J CR;clear hl hb hR;have CS:=fun(A:Option Ep) (cp:Nat) (W:M) (hr:Row W A (hd++rb)) (hb:El w W)=>A_ A (hd++rb) 42 cp W (by rw[IY,HL.out,RL.out]) hr U (RT.out.B hb);have AL:=pG (hd++rb);generalize Zu (hd++rb)=ans at*;replace AL:=J AL;replace CS:=J CS;go_enter Tryz.func68,Tryz.ntmps68;go_wp2_with (with_reducible refine wA fy (Ex.mk ?_));apply Es;have K2:=J<|((H.new w (Em hd) 41).alloc (Eb #[E I k,E I s,E I q,E I e,E I c,E I h] 58)).alloc (Eb (Em (Ev 32)) 41);have K3:=J<|(H.new' (w.alloc (Eb (Em hd) 41)) #[E I k,E I s,E I q,E I e,E I c,E I h] 58 (g:=w.heap.size+1) Ej).alloc (Eb (Em (Ev 32)) 41);have K4:=J<|H.new' ((w.alloc (Eb (Em hd) 41)).alloc (Eb #[E I k,E I s,E I q,E I e,E I c,E I h] 58)) (Em (Ev 32)) 41 (g:=w.heap.size+1+1) Ej;have u:=J<|bO w (Eb (Em hd) 41) (Eb #[E I k,E I s,E I q,E I e,E I c,E I h] 58) (Eb (Em (Ev 32)) 41);generalize ((w.alloc (Eb (Em hd) 41)).alloc (Eb #[E I k,E I s,E I q,E I e,E I c,E I h] 58)).alloc (Eb (Em (Ev 32)) 41)=w1 at*;obtain⟨g3,hg3⟩:=JK (w.heap.size+1);rw[hg3] at K3 K4;simp only[hg3];obtain⟨g4,hg4⟩:=JK (g3+1);rw[hg4] at K4;simp only[hg4];have lo4:w.heap.size<g4:=U;clear hg3 hg4;go_wp2_with (with_reducible refine wL Ebc K3 ?_);refine(CR.out _).mono ?_;rintro e' w2 ⟨rfl,b2⟩;clear CR K3;replace K2:=J<|K2.out.B b2;replace K4:=J<|K4.out.B b2;replace u:=EV u b2;clear b2;have l4:=K4.out.lt;go_wp2_with (with_reducible refine wA La (Ex.mk ?_));apply Es;have bel:=Er w2 (Eb (Em (Ev 10)) 176);replace K2:=J<|K2.out.B bel;replace K4:=J<|K4.out.B bel;replace u:=EV u bel;have K5:=J<|H.new w2 (Em (Ev 10)) 176;clear bel;generalize w2.alloc (Eb (Em (Ev 10)) 176)=w3 at*;generalize w2.heap.size=g5 at*;go_wp2_with (with_reducible refine wS (cs:=Em rb) Ch K5 (Ex.mk ?_) (ho:=XP) (hn:=Tu) (h1:=X6 _));apply Es;replace K2:=J<|K2.out.setRow_other g5 (Em rb) U;replace K4:=J<|K4.out.setRow_other g5 (Em rb) U;replace K5:=J<|K5.out.setRow (Em rb);replace u:=J<|EY (g:=g5) u.out U (Em rb);generalize w3.setRow g5 (Em rb)=w4 at*;go_wp2_with fail;refine uF 2 Ef Ef ?_;simp only[Is,Iq,IT,IM];repeat (go_big_quiet_step (fail))
 refine I5 ?_;intro _ hw';obtain⟨nq,rfl⟩:=hw';replace u:=J<|jk u.out nq;replace K2:=J<|K2.out.drewN nq;replace K4:=J<|K4.out.drewN nq;replace K5:=J<|K5.out.drewN nq;generalize w4.drewN nq=w5 at*;have r2:=J<|iZ K2.out HB.out;have r5:=J<|iZ K5.out RB.out;(with_reducible refine EbH _ ?_ (.tmp 8) (.tmp 9) O w.heap.size 32 hd HL.out ?_ r2.out g5 10 10 rb RL.out ?_ r5.out U U ?_);·exact Eh O
 ·rfl
 ·rfl
 intro A1 nu w6 o6 b6;have r6:=J o6.row;clear r2 r5 o6 K2 K5;replace K4:=J<|K4.out.B b6;replace u:=EV u b6;clear b6;go_wp2_with fail;refine(CS.out _ _ _ r6.out u.out).mono ?_;rintro e' w7 ⟨rfl,b7⟩;replace K4:=J<|K4.out.B b7;replace u:=EV u b7;clear b7 r6 CS;go_wp2_with (with_reducible refine wS (cs:=Em ans) UX K4 (Ex.mk ?_) (ho:=XP) (hn:=SX) (h1:=X6 _));apply Es;go_wp2_with fail;refine ET (v:=Ea (Em ans)) (Jd UX O _ _ g4 _ O (K4.out.setRow _) (by rw[Ob,AL.out])) O ⟨O,EY u.out U _⟩
def JJ(l:List Int):Array Y:=((U4 14).map fun i=>if 6<=i then E .u8 (l.getD i 0) else E I (l.getD i 0)).toArray
theorem pY(l:List Int):(JJ l).size=14:=by simp[JJ]
theorem bz(l:List Int)(i:Nat)(h:i<14):(JJ l)[i]?=D (if 6<=i then E .u8 (l.getD i 0) else E I (l.getD i 0)):=by simp[JJ,h]
theorem Ld(l:List Int):(JJ l).all (·.oneCell')=EJ:=by rw[Array.all_eq_true];intro i hi;simp only[JJ,List.getElem_toArray,List.getElem_map];split<;>rfl
theorem EbL(l:List Int)(hl:l.length=14)(o:Nat)(ho:o<14)(n:Int):(JJ l).setIfInBounds o (if 6<=o then E .u8 n else E I n)=JJ (l.set o n):=by
 apply Array.ext_getElem?;intro j;rw[Array.getElem?_setIfInBounds];by_cases h:o=j
 ·subst h;rw[if_pos O,if_pos (by rw[pY];exact ho),bz _ _ ho];have e:(l.set o n).getD o 0=n:=by simp[hl,ho]
  rw[e]
 ·rw[if_neg h];by_cases hj:j<14
  ·rw[bz _ _ hj,bz _ _ hj];have e1:(l.set o n).getD j 0=l.getD j 0:=by simp[OE,List.getElem?_set_ne h]
   rw[e1]
  ·rw[iJ (by rw[pY];omega),iJ (by rw[pY];omega)]
theorem Ck:IL EZ 222 14:=⟨⟨_,Tryz.underlying222,O⟩,Ef⟩
def dK(l:List Int):Prop:=l.length=14/\ ∀i,6<=i->i<14->0<=l.getD i 0/\l.getD i 0<=255
def FD.Lf(d:FD):Prop:=d.off<14/\(d.kd=0\/d.kd=2\/d.kd=3)/\(d.kd=3↔6<=d.off)
theorem FD.EbM(h:d.kd=2):d.get=250:=G5
theorem FD.EbN(h:d.kd=2):d.set=251:=Af
theorem FD.Tv(h:d.kd=2):d.box=333:=Ah
theorem FD.EbP(h:d.kd=3):d.get=248:=G5
theorem FD.EbQ(h:d.kd=3):d.set=249:=Af
theorem FD.Tw(h:d.kd=3):d.box=331:=Ah
theorem EbR(gb gm o:Nat)(n:Int)(w:M)(hb:H w gb #[V (D ⟨gm,o,Z⟩)] 333)(hc:w.cell? ⟨gm,o,Z⟩=D (E I n)): Eg EZ 250 #[V (D ⟨gb,0,Z⟩)] w fun e w'=>e=Ei (E I n)/\w=w':=by have c0:=hb.cell 0;simp only[J2,kS] at c0;clear hb;go_enter Tryz.func250,Tryz.ntmps250;exact Enu
theorem EbS(gb gm o:Nat)(n m:Int)(w:M)(hb:H w gb #[V (D ⟨gm,o,Z⟩)] 333)(hc:w.cell? ⟨gm,o,Z⟩=D (E I m))(hf:w.frozen? ⟨gm,o,Z⟩=EI): Eg EZ 251 #[E I n,V (D ⟨gb,0,Z⟩)] w fun e w'=>e=Ei (Eu #[])/\w.setCell ⟨gm,o,Z⟩ (E I n)=w':=by have c0:=hb.cell 0;simp only[J2,kS] at c0;clear hb;go_enter Tryz.func251,Tryz.ntmps251;exact Eqy
theorem EbT(gb gm o:Nat)(n:Int)(w:M)(h0:0<=n)(h1:n<=255)(hb:H w gb #[V (D ⟨gm,o,Z⟩)] 331)(hc:w.cell? ⟨gm,o,Z⟩=D (E Ix n)): Eg EZ 248 #[V (D ⟨gb,0,Z⟩)] w fun e w'=>e=Ei (E I n)/\w=w':=by have c0:=hb.cell 0;simp only[J2,kS] at c0;clear hb;go_enter Tryz.func248,Tryz.ntmps248;exact Enu
theorem EbV(gb gm o:Nat)(n m:Int)(w:M)(h0:0<=n)(h1:n<=255)(hb:H w gb #[V (D ⟨gm,o,Z⟩)] 331)(hc:w.cell? ⟨gm,o,Z⟩=D (E Ix m))(hf:w.frozen? ⟨gm,o,Z⟩=EI): Eg EZ 249 #[E I n,V (D ⟨gb,0,Z⟩)] w fun e w'=>e=Ei (Eu #[])/\w.setCell ⟨gm,o,Z⟩ (E Ix n)=w':=by have c0:=hb.cell 0;simp only[J2,kS] at c0;clear hb;go_enter Tryz.func249,Tryz.ntmps249;exact Eqy
theorem EbW(d:FD)(gb gm:Nat)(l:List Int)(w:M)(hd:d.Lf)(hl:dK l)(hb:Za w d gm gb)(hm:H w gm (JJ l) 222): Eg EZ d.get #[V (D ⟨gb,0,Z⟩)] w fun e w'=>e=Ei (E I (l.getD d.off 0))/\w=w':=by
 obtain⟨ho,hk,h3⟩:=hd;have hc:=hm.cell d.off;rw[bz _ _ ho] at hc;unfold Za at hb;rcases hk with hk|hk|hk;·rw[if_neg (fun h=>Cl)] at hc;rw[FD.Ag hk] at hb;rw[FD.QV hk];exact EUn gb gm d.off _ w hb hc
 ·rw[if_neg (fun h=>Cl)] at hc;rw[FD.Tv hk] at hb;rw[FD.EbM hk];exact EbR gb gm d.off _ w hb hc
 ·rw[if_pos (h3.1 hk)] at hc;rw[FD.Tw hk] at hb;rw[FD.EbP hk];have h8:=hl.2 d.off (h3.1 hk) ho;exact EbT gb gm d.off _ w h8.1 h8.2 hb hc
theorem EbY(d:FD)(gb gm:Nat)(l:List Int)(n:Int)(w:M)(hd:d.Lf)(hn:d.kd=3->0<=n/\n<=255)(hl:dK l)(hb:Za w d gm gb)(hm:H w gm (JJ l) 222): Eg EZ d.set #[E I n,V (D ⟨gb,0,Z⟩)] w fun e w'=>e=Ei (Eu #[])/\H w' gm (JJ (l.set d.off n)) 222/\(∀k,k≠gm->w'.heap[k]?=w.heap[k]?)/\w'.heap.size=w.heap.size/\Ij gm w w':=by
 obtain⟨ho,hk,h3⟩:=hd;have hc:=hm.cell d.off;have hf:=hm.JZ d.off;rw[bz _ _ ho] at hc;have fin: ∀v,v=(if 6<=d.off then E .u8 n else E I n)->H (w.setCell ⟨gm,d.off,Z⟩ v) gm (JJ (l.set d.off n)) 222/\(∀k,k≠gm->(w.setCell ⟨gm,d.off,Z⟩ v).heap[k]?=w.heap[k]?)/\(w.setCell ⟨gm,d.off,Z⟩ v).heap.size=w.heap.size/\Ij gm w (w.setCell ⟨gm,d.off,Z⟩ v):=by intro v hv;subst hv;refine⟨?_,fun k hk=>XK _ _ _ _ hk,Gv,(IU gm w).setCell (p:=⟨gm,d.off,Z⟩) (E3 _) _⟩;have h:=hm.set d.off (if 6<=d.off then E .u8 n else E I n);rw[EbL l hl.1 _ ho] at h;exact h
 unfold Za at hb;rcases hk with hk|hk|hk;·have h6: ¬6<=d.off:=fun h=>Cl;rw[if_neg h6] at hc;rw[FD.Ag hk] at hb;rw[FD.G6 hk];have Aj:=fin (E I n) (by rw[if_neg h6]);exact Eqn
 ·have h6: ¬6<=d.off:=fun h=>Cl;rw[if_neg h6] at hc;rw[FD.Tv hk] at hb;rw[FD.EbN hk];have Aj:=fin (E I n) (by rw[if_neg h6]);exact(EbS gb gm d.off n _ w hb hc hf).mono fun e w' ⟨he,hw⟩=>⟨he,Ak⟩
 ·have h6:=h3.1 hk;rw[if_pos h6] at hc;rw[FD.Tw hk] at hb;rw[FD.EbQ hk];have Aj:=fin (E Ix n) (by rw[if_pos h6]);have h8:=hn hk;exact(EbV gb gm d.off n _ w h8.1 h8.2 hb hc hf).mono fun e w' ⟨he,hw⟩=>⟨he,Ak⟩
theorem Tx(gm o:Nat)(w:M): Eg EZ 241 #[V (D ⟨gm,o,Z⟩)] w fun e w'=> ∃v,e=Ei v/\FV w' w.heap.size gm ⟨2,1,0,255,o⟩ v/\El w w':=by have BF:Tryz.prog.built 298 [(0,E I 1),(2,E I 255),(3,.func (.func 250) #[] #[V (D ⟨w.heap.size,0,Z⟩)]),(4,.func (.func 251) #[] #[V (D ⟨w.heap.size,0,Z⟩)])]=D (IG ⟨2,1,0,255,o⟩ w.heap.size):=G7 ⟨2,1,0,255,o⟩ w.heap.size O;have O1:=J<|im ⟨2,1,0,255,o⟩ w.heap.size;have O0:Ed ((IG ⟨2,1,0,255,o⟩ w.heap.size).size=5):=J O;generalize Ul:IG ⟨2,1,0,255,o⟩ w.heap.size=fv at*;replace BF:=J BF;have HB:Ed (∀W:M,H W w.heap.size #[V (D ⟨gm,o,Z⟩)] 333->FV W w.heap.size gm ⟨2,1,0,255,o⟩ (Ea fv)):=J fun W h=>⟨w.heap.size,by rw[Ul],E3 _,h⟩;clear Ul;go_enter Tryz.func241,Tryz.ntmps241;go_wp2_with (with_reducible refine wA gu (Ex.mk ?_));apply Es;have K4:=J<|(H.new w #[V (D ⟨gm,o,Z⟩)] 333).alloc (Eb JA 298);have K8:=J<|H.new' (w.alloc (Eb #[V (D ⟨gm,o,Z⟩)] 333)) JA 298 (g:=w.heap.size+1) Ej;have u:=J<|JY w (Eb #[V (D ⟨gm,o,Z⟩)] 333) (Eb JA 298);generalize (w.alloc (Eb #[V (D ⟨gm,o,Z⟩)] 333)).alloc (Eb JA 298)=w1 at*;exact EnF
theorem nM(gm o:Nat)(w:M): Eg EZ 240 #[V (D ⟨gm,o,Z⟩)] w fun e w'=> ∃v,e=Ei v/\FV w' w.heap.size gm ⟨3,1,0,255,o⟩ v/\El w w':=by have BF:Tryz.prog.built 298 [(0,E I 1),(2,E I 255),(3,.func (.func 248) #[] #[V (D ⟨w.heap.size,0,Z⟩)]),(4,.func (.func 249) #[] #[V (D ⟨w.heap.size,0,Z⟩)])]=D (IG ⟨3,1,0,255,o⟩ w.heap.size):=G7 ⟨3,1,0,255,o⟩ w.heap.size O;have O1:=J<|im ⟨3,1,0,255,o⟩ w.heap.size;have O0:Ed ((IG ⟨3,1,0,255,o⟩ w.heap.size).size=5):=J O;generalize Ul:IG ⟨3,1,0,255,o⟩ w.heap.size=fv at*;replace BF:=J BF;have HB:Ed (∀W:M,H W w.heap.size #[V (D ⟨gm,o,Z⟩)] 331->FV W w.heap.size gm ⟨3,1,0,255,o⟩ (Ea fv)):=J fun W h=>⟨w.heap.size,by rw[Ul],E3 _,h⟩;clear Ul;go_enter Tryz.func240,Tryz.ntmps240;go_wp2_with (with_reducible refine wA gu (Ex.mk ?_));apply Es;have K4:=J<|(H.new w #[V (D ⟨gm,o,Z⟩)] 331).alloc (Eb JA 298);have K8:=J<|H.new' (w.alloc (Eb #[V (D ⟨gm,o,Z⟩)] 331)) JA 298 (g:=w.heap.size+1) Ej;have u:=J<|JY w (Eb #[V (D ⟨gm,o,Z⟩)] 331) (Eb JA 298);generalize (w.alloc (Eb #[V (D ⟨gm,o,Z⟩)] 331)).alloc (Eb JA 298)=w1 at*;exact EnF
def Zx:FD:=⟨2,1,0,255,5⟩
def IW(i:Nat):FD:=⟨3,1,0,255,6+i⟩
def lu(k:Int):Option (List FD):=
 if k=129 then D [IW 0,IW 1,IW 2,IW 3,IW 4,IW 5,IW 6,IW 7] else if k=130 then D [Xa,Jj,IS] else if k=131 then D [Ii] else if k=132 then D [Ii,Zx]
 else if k=133 then D [IS] else if k=134\/k=135 then D [Jj,IS] else if k=136 then D [Jj,Zx] else Z
theorem Eb0(gm:Nat)(l:List Int)(w:M)(hm:H w gm (JJ l) 222)(hk:l.getD 0 0=131): Eg EZ 212 #[V (D ⟨gm,0,Z⟩)] w (Zc w gm [Ii]):=by have c0:=hm.cell 0;rw[bz _ _ U,if_neg U,hk] at c0;have CF:=J<|fun W=>iy gm 1 W;have u:=J<|IU w.heap.size w;clear hm hk;go_enter nN,nP;exact Enn
theorem Eb1(gm:Nat)(l:List Int)(w:M)(hm:H w gm (JJ l) 222)(hk:l.getD 0 0=133): Eg EZ 212 #[V (D ⟨gm,0,Z⟩)] w (Zc w gm [IS]):=by have c0:=hm.cell 0;rw[bz _ _ U,if_neg U,hk] at c0;have CF:=J<|fun W=>pQ gm 4 W;have u:=J<|IU w.heap.size w;clear hm hk;go_enter nN,nP;go_wp2_with fail;refine(CF.out _).mono ?_;rintro e w1 ⟨v,rfl,⟨gb,rfl,lb,kb⟩,b1⟩;have FB:Ed (El w (w1.alloc (Eb (E5 [(IS,gb)]).toArray 298))):=J<|b1.alloc b1.size _;have FK:Ed (Xr (w1.alloc (Eb (E5 [(IS,gb)]).toArray 298)) w.heap.size w1.heap.size gm [(IS,gb)]):=J (aA (H.new w1 _ 298) (fun i hi=>by have:i=0:=U5;subst this;exact⟨lb,H.alloc kb _⟩) b1.size);exact En1
def Cm(base gm:Nat)(i:Nat)(v:Y)(w:M):Prop:=match i with
 |0=>v=V (D ⟨gm,0,Z⟩)
 |1=>v=V (D ⟨gm,0,Z⟩)
 |2=>v=V (D ⟨gm,3,Z⟩)
 |3=>FV w base gm Jj v
 |4=>v=V (D ⟨gm,0,Z⟩)
 |5=>v=V (D ⟨gm,0,Z⟩)
 |6=>v=V (D ⟨gm,4,Z⟩)
 |7=>FV w base gm IS v
 |8=> ∃(gl:Nat) (fs:List (FD×Nat)),v=G (D ⟨gl,0,Z⟩) 2 2/\fs.map (·.1)=[Jj,IS]/\base<=gl/\JB w base gm fs/\H w gl (E5 fs).toArray 298
 |9=> ∃(gl:Nat) (fs:List (FD×Nat)),v=G (D ⟨gl,0,Z⟩) 2 2/\fs.map (·.1)=[Jj,IS]/\base<=gl/\JB w base gm fs/\H w gl (E5 fs).toArray 298
 |_=>v=Ec EJ
theorem Eb2(base gm:Nat): ∀i v w w',i<11->Cm base gm i v w->J0 w w'->Cm base gm i v w':=by
 intro i v w w' hi h hb;unfold Cm at*;split at h;case h_4|h_8=>exact h.B hb
 case h_9|h_10=> exact EnH
 all_goals exact h
theorem Eb3(gm:Nat)(l:List Int)(w:M)(hm:H w gm (JJ l) 222)(hk:l.getD 0 0=134): Eg EZ 212 #[V (D ⟨gm,0,Z⟩)] w (Zc w gm [Jj,IS]):=by
 have c0:=hm.cell 0;rw[bz _ _ U,if_neg U,hk] at c0;have u:=J<|IU w.heap.size w;clear hm hk;go_enter nN,nP;go_wp2_with fail;clear c0;refine ZV ER Ef 11 Ef Ej EU (Cm w.heap.size gm) (Eb2 _ _) ?_ ?_
 ·simp only[Xl,Is,Iq,EM,Ih,Ik,Ic,If,and_true];refine⟨?_,?_,?_,?_,?_,?_,?_,?_,?_,?_,?_⟩;all_goals intro v w' hb hd
  ·exact EnB
  ·exact EnT
  ·exact EnS
  ·exact Err
  ·exact EnB
  ·exact EnR
  ·exact EnQ
  ·exact Enw
  ·obtain⟨g0,d3,l0,k0⟩:FV w' w.heap.size gm Jj (v 3):=hd.at 3 rfl;obtain⟨g1,d7,l1,k1⟩:FV w' w.heap.size gm IS (v 7):=hd.at 7 rfl;refine Z9 (w':=w'.alloc (Eb (E5 [(Jj,g0),(IS,g1)]).toArray 298)) (v:=G (D ⟨w'.heap.size,0,Z⟩) 2 2) (Eh O) pR (Er w' _) ⟨w'.heap.size,[(Jj,g0),(IS,g1)],O,O,Ew u.out.size hb.size,fun i hi=> ?_,H.new _ _ _⟩;match i,hi with
   |0,_=>exact⟨l0,H.alloc k0 _⟩
   |1,_=>exact⟨l1,H.alloc k1 _⟩
  ·exact Erq
  ·exact EnB
 ·exact Ero
def Cn(base gm:Nat)(i:Nat)(v:Y)(w:M):Prop:=match i with
 |0=>v=V (D ⟨gm,0,Z⟩)
 |1=>v=V (D ⟨gm,0,Z⟩)
 |2=>v=V (D ⟨gm,3,Z⟩)
 |3=>FV w base gm Jj v
 |4=>v=V (D ⟨gm,0,Z⟩)
 |5=>v=V (D ⟨gm,0,Z⟩)
 |6=>v=V (D ⟨gm,4,Z⟩)
 |7=>FV w base gm IS v
 |8=> ∃(gl:Nat) (fs:List (FD×Nat)),v=G (D ⟨gl,0,Z⟩) 2 2/\fs.map (·.1)=[Jj,IS]/\base<=gl/\JB w base gm fs/\H w gl (E5 fs).toArray 298
 |9=> ∃(gl:Nat) (fs:List (FD×Nat)),v=G (D ⟨gl,0,Z⟩) 2 2/\fs.map (·.1)=[Jj,IS]/\base<=gl/\JB w base gm fs/\H w gl (E5 fs).toArray 298
 |_=>v=Ec EJ
theorem Eb4(base gm:Nat): ∀i v w w',i<11->Cn base gm i v w->J0 w w'->Cn base gm i v w':=by
 intro i v w w' hi h hb;unfold Cn at*;split at h;case h_4|h_8=>exact h.B hb
 case h_9|h_10=> exact EnH
 all_goals exact h
theorem Eb5(gm:Nat)(l:List Int)(w:M)(hm:H w gm (JJ l) 222)(hk:l.getD 0 0=135): Eg EZ 212 #[V (D ⟨gm,0,Z⟩)] w (Zc w gm [Jj,IS]):=by
 have c0:=hm.cell 0;rw[bz _ _ U,if_neg U,hk] at c0;have u:=J<|IU w.heap.size w;clear hm hk;go_enter nN,nP;go_wp2_with fail;clear c0;refine ZV ER Ef 11 Ef Ej EU (Cn w.heap.size gm) (Eb4 _ _) ?_ ?_
 ·simp only[Xl,Is,Iq,EM,Ih,Ik,Ic,If,and_true];refine⟨?_,?_,?_,?_,?_,?_,?_,?_,?_,?_,?_⟩;all_goals intro v w' hb hd
  ·exact EnB
  ·exact EnT
  ·exact EnS
  ·exact Err
  ·exact EnB
  ·exact EnR
  ·exact EnQ
  ·exact Enw
  ·obtain⟨g0,d3,l0,k0⟩:FV w' w.heap.size gm Jj (v 3):=hd.at 3 rfl;obtain⟨g1,d7,l1,k1⟩:FV w' w.heap.size gm IS (v 7):=hd.at 7 rfl;refine Z9 (w':=w'.alloc (Eb (E5 [(Jj,g0),(IS,g1)]).toArray 298)) (v:=G (D ⟨w'.heap.size,0,Z⟩) 2 2) (Eh O) pR (Er w' _) ⟨w'.heap.size,[(Jj,g0),(IS,g1)],O,O,Ew u.out.size hb.size,fun i hi=> ?_,H.new _ _ _⟩;match i,hi with
   |0,_=>exact⟨l0,H.alloc k0 _⟩
   |1,_=>exact⟨l1,H.alloc k1 _⟩
  ·exact Erq
  ·exact EnB
 ·exact Ero
def Co(base gm:Nat)(i:Nat)(v:Y)(w:M):Prop:=match i with
 |0=>v=V (D ⟨gm,0,Z⟩)
 |1=>v=V (D ⟨gm,0,Z⟩)
 |2=>v=V (D ⟨gm,3,Z⟩)
 |3=>FV w base gm Jj v
 |4=>v=V (D ⟨gm,0,Z⟩)
 |5=>v=V (D ⟨gm,0,Z⟩)
 |6=>v=V (D ⟨gm,5,Z⟩)
 |7=>FV w base gm Zx v
 |8=> ∃(gl:Nat) (fs:List (FD×Nat)),v=G (D ⟨gl,0,Z⟩) 2 2/\fs.map (·.1)=[Jj,Zx]/\base<=gl/\JB w base gm fs/\H w gl (E5 fs).toArray 298
 |9=> ∃(gl:Nat) (fs:List (FD×Nat)),v=G (D ⟨gl,0,Z⟩) 2 2/\fs.map (·.1)=[Jj,Zx]/\base<=gl/\JB w base gm fs/\H w gl (E5 fs).toArray 298
 |_=>v=Ec EJ
theorem Eb6(base gm:Nat): ∀i v w w',i<11->Co base gm i v w->J0 w w'->Co base gm i v w':=by
 intro i v w w' hi h hb;unfold Co at*;split at h;case h_4|h_8=>exact h.B hb
 case h_9|h_10=> exact EnH
 all_goals exact h
theorem Eb7(gm:Nat)(l:List Int)(w:M)(hm:H w gm (JJ l) 222)(hk:l.getD 0 0=136): Eg EZ 212 #[V (D ⟨gm,0,Z⟩)] w (Zc w gm [Jj,Zx]):=by
 have c0:=hm.cell 0;rw[bz _ _ U,if_neg U,hk] at c0;have u:=J<|IU w.heap.size w;clear hm hk;go_enter nN,nP;go_wp2_with fail;clear c0;refine ZV ER Ef 11 Ef Ej EU (Co w.heap.size gm) (Eb6 _ _) ?_ ?_
 ·simp only[Xl,Is,Iq,EM,Ih,Ik,Ic,If,and_true];refine⟨?_,?_,?_,?_,?_,?_,?_,?_,?_,?_,?_⟩;all_goals intro v w' hb hd
  ·exact EnB
  ·exact EnT
  ·exact EnS
  ·exact Err
  ·exact EnB
  ·exact EnR
  ·exact EnQ
  ·exact Eop
  ·obtain⟨g0,d3,l0,k0⟩:FV w' w.heap.size gm Jj (v 3):=hd.at 3 rfl;obtain⟨g1,d7,l1,k1⟩:FV w' w.heap.size gm Zx (v 7):=hd.at 7 rfl;refine Z9 (w':=w'.alloc (Eb (E5 [(Jj,g0),(Zx,g1)]).toArray 298)) (v:=G (D ⟨w'.heap.size,0,Z⟩) 2 2) (Eh O) pR (Er w' _) ⟨w'.heap.size,[(Jj,g0),(Zx,g1)],O,O,Ew u.out.size hb.size,fun i hi=> ?_,H.new _ _ _⟩;match i,hi with
   |0,_=>exact⟨l0,H.alloc k0 _⟩
   |1,_=>exact⟨l1,H.alloc k1 _⟩
  ·obtain⟨gl,fs,e,m,lg,bx,kk⟩: ∃(gl:Nat) (fs:List (FD×Nat)),v 8=G (D ⟨gl,0,Z⟩) 2 2/\fs.map (·.1)=[Jj,Zx]/\w.heap.size<=gl/\JB w' w.heap.size gm fs/\H w' gl (E5 fs).toArray 298:=hd.at 8 rfl;exact En_
  ·exact EnB
 ·intro v w' hb hr;obtain⟨gl,fs,e,m,lg,bx,kk⟩: ∃(gl:Nat) (fs:List (FD×Nat)),v 9=G (D ⟨gl,0,Z⟩) 2 2/\fs.map (·.1)=[Jj,Zx]/\w.heap.size<=gl/\JB w' w.heap.size gm fs/\H w' gl (E5 fs).toArray 298:=hr 9 U;exact Ers
def Cp(base gm:Nat)(i:Nat)(v:Y)(w:M):Prop:=match i with
 |0=>v=V (D ⟨gm,0,Z⟩)
 |1=>v=V (D ⟨gm,0,Z⟩)
 |2=>v=V (D ⟨gm,1,Z⟩)
 |3=>FV w base gm Ii v
 |4=>v=V (D ⟨gm,0,Z⟩)
 |5=>v=V (D ⟨gm,0,Z⟩)
 |6=>v=V (D ⟨gm,5,Z⟩)
 |7=>FV w base gm Zx v
 |8=> ∃(gl:Nat) (fs:List (FD×Nat)),v=G (D ⟨gl,0,Z⟩) 2 2/\fs.map (·.1)=[Ii,Zx]/\base<=gl/\JB w base gm fs/\H w gl (E5 fs).toArray 298
 |9=> ∃(gl:Nat) (fs:List (FD×Nat)),v=G (D ⟨gl,0,Z⟩) 2 2/\fs.map (·.1)=[Ii,Zx]/\base<=gl/\JB w base gm fs/\H w gl (E5 fs).toArray 298
 |_=>v=Ec EJ
theorem Eb8(base gm:Nat): ∀i v w w',i<11->Cp base gm i v w->J0 w w'->Cp base gm i v w':=by
 intro i v w w' hi h hb;unfold Cp at*;split at h;case h_4|h_8=>exact h.B hb
 case h_9|h_10=> exact EnH
 all_goals exact h
theorem Eb9(gm:Nat)(l:List Int)(w:M)(hm:H w gm (JJ l) 222)(hk:l.getD 0 0=132): Eg EZ 212 #[V (D ⟨gm,0,Z⟩)] w (Zc w gm [Ii,Zx]):=by
 have c0:=hm.cell 0;rw[bz _ _ U,if_neg U,hk] at c0;have u:=J<|IU w.heap.size w;clear hm hk;go_enter nN,nP;go_wp2_with fail;clear c0;refine ZV ER Ef 11 Ef Ej EU (Cp w.heap.size gm) (Eb8 _ _) ?_ ?_
 ·simp only[Xl,Is,Iq,EM,Ih,Ik,Ic,If,and_true];refine⟨?_,?_,?_,?_,?_,?_,?_,?_,?_,?_,?_⟩;all_goals intro v w' hb hd
  ·exact EnB
  ·exact EnT
  ·exact EnS
  ·exact Ent
  ·exact EnB
  ·exact EnR
  ·exact EnQ
  ·exact Eop
  ·obtain⟨g0,d3,l0,k0⟩:FV w' w.heap.size gm Ii (v 3):=hd.at 3 rfl;obtain⟨g1,d7,l1,k1⟩:FV w' w.heap.size gm Zx (v 7):=hd.at 7 rfl;refine Z9 (w':=w'.alloc (Eb (E5 [(Ii,g0),(Zx,g1)]).toArray 298)) (v:=G (D ⟨w'.heap.size,0,Z⟩) 2 2) (Eh O) pR (Er w' _) ⟨w'.heap.size,[(Ii,g0),(Zx,g1)],O,O,Ew u.out.size hb.size,fun i hi=> ?_,H.new _ _ _⟩;match i,hi with
   |0,_=>exact⟨l0,H.alloc k0 _⟩
   |1,_=>exact⟨l1,H.alloc k1 _⟩
  ·obtain⟨gl,fs,e,m,lg,bx,kk⟩: ∃(gl:Nat) (fs:List (FD×Nat)),v 8=G (D ⟨gl,0,Z⟩) 2 2/\fs.map (·.1)=[Ii,Zx]/\w.heap.size<=gl/\JB w' w.heap.size gm fs/\H w' gl (E5 fs).toArray 298:=hd.at 8 rfl;exact En_
  ·exact EnB
 ·intro v w' hb hr;obtain⟨gl,fs,e,m,lg,bx,kk⟩: ∃(gl:Nat) (fs:List (FD×Nat)),v 9=G (D ⟨gl,0,Z⟩) 2 2/\fs.map (·.1)=[Ii,Zx]/\w.heap.size<=gl/\JB w' w.heap.size gm fs/\H w' gl (E5 fs).toArray 298:=hr 9 U;exact Ers
def Cq(base gm:Nat)(i:Nat)(v:Y)(w:M):Prop:=match i with
 |0=>v=V (D ⟨gm,0,Z⟩)
 |1=>v=V (D ⟨gm,0,Z⟩)
 |2=>v=V (D ⟨gm,2,Z⟩)
 |3=>FV w base gm Xa v
 |4=>v=V (D ⟨gm,0,Z⟩)
 |5=>v=V (D ⟨gm,0,Z⟩)
 |6=>v=V (D ⟨gm,3,Z⟩)
 |7=>FV w base gm Jj v
 |8=>v=V (D ⟨gm,0,Z⟩)
 |9=>v=V (D ⟨gm,0,Z⟩)
 |10=>v=V (D ⟨gm,4,Z⟩)
 |11=>FV w base gm IS v
 |12=> ∃(gl:Nat) (fs:List (FD×Nat)),v=G (D ⟨gl,0,Z⟩) 3 3/\fs.map (·.1)=[Xa,Jj,IS]/\base<=gl/\JB w base gm fs/\H w gl (E5 fs).toArray 298
 |13=> ∃(gl:Nat) (fs:List (FD×Nat)),v=G (D ⟨gl,0,Z⟩) 3 3/\fs.map (·.1)=[Xa,Jj,IS]/\base<=gl/\JB w base gm fs/\H w gl (E5 fs).toArray 298
 |_=>v=Ec EJ
theorem Eb_(base gm:Nat): ∀i v w w',i<15->Cq base gm i v w->J0 w w'->Cq base gm i v w':=by
 intro i v w w' hi h hb;unfold Cq at*;split at h;case h_4|h_8|h_12=>exact h.B hb
 case h_13|h_14=> exact EnH
 all_goals exact h
theorem EcE(gm:Nat)(l:List Int)(w:M)(hm:H w gm (JJ l) 222)(hk:l.getD 0 0=130): Eg EZ 212 #[V (D ⟨gm,0,Z⟩)] w (Zc w gm [Xa,Jj,IS]):=by
 have c0:=hm.cell 0;rw[bz _ _ U,if_neg U,hk] at c0;have u:=J<|IU w.heap.size w;clear hm hk;go_enter nN,nP;go_wp2_with fail;clear c0;refine ZV ER Ef 15 Ef Ej EU (Cq w.heap.size gm) (Eb_ _ _) ?_ ?_
 ·simp only[Xl,Is,Iq,EM,Ih,Ik,Ic,If,and_true];refine⟨?_,?_,?_,?_,?_,?_,?_,?_,?_,?_,?_,?_,?_,?_,?_⟩;all_goals intro v w' hb hd
  ·exact EnB
  ·exact EnT
  ·exact EnS
  ·have d2:v 2=V (D ⟨gm,2,Z⟩):=hd.at 2 rfl;refine J4 (f:=202) (args:= #[v 2]) (Eh O) Ez ?_;rw[d2];exact(H_ gm 2 w').mono fun e w'' ⟨v,he,⟨gb,e2,lb,kb⟩,hb'⟩=>⟨v,he,hb',gb,e2,Ew (Ew u.out.size hb.size) lb,kb⟩
  ·exact EnB
  ·exact EnR
  ·exact EnQ
  ·exact Ery
  ·exact EnB
  ·exact Epk
  ·exact Epj
  ·have d10:v 10=V (D ⟨gm,4,Z⟩):=hd.at 10 rfl;refine J4 (f:=206) (args:= #[v 10]) (Eh O) Ez ?_;rw[d10];exact(pQ gm 4 w').mono fun e w'' ⟨v,he,⟨gb,e2,lb,kb⟩,hb'⟩=>⟨v,he,hb',gb,e2,Ew (Ew u.out.size hb.size) lb,kb⟩
  ·obtain⟨g0,d3,l0,k0⟩:FV w' w.heap.size gm Xa (v 3):=hd.at 3 rfl;obtain⟨g1,d7,l1,k1⟩:FV w' w.heap.size gm Jj (v 7):=hd.at 7 rfl;obtain⟨g2,d11,l2,k2⟩:FV w' w.heap.size gm IS (v 11):=hd.at 11 rfl;refine Z9 (w':=w'.alloc (Eb (E5 [(Xa,g0),(Jj,g1),(IS,g2)]).toArray 298)) (v:=G (D ⟨w'.heap.size,0,Z⟩) 3 3) (Eh O) Kc (Er w' _) ⟨w'.heap.size,[(Xa,g0),(Jj,g1),(IS,g2)],O,O,Ew u.out.size hb.size,fun i hi=> ?_,H.new _ _ _⟩;match i,hi with
   |0,_=>exact⟨l0,H.alloc k0 _⟩
   |1,_=>exact⟨l1,H.alloc k1 _⟩
   |2,_=>exact⟨l2,H.alloc k2 _⟩
  ·obtain⟨gl,fs,e,m,lg,bx,kk⟩: ∃(gl:Nat) (fs:List (FD×Nat)),v 12=G (D ⟨gl,0,Z⟩) 3 3/\fs.map (·.1)=[Xa,Jj,IS]/\w.heap.size<=gl/\JB w' w.heap.size gm fs/\H w' gl (E5 fs).toArray 298:=hd.at 12 rfl;exact En_
  ·exact EnB
 ·intro v w' hb hr;obtain⟨gl,fs,e,m,lg,bx,kk⟩: ∃(gl:Nat) (fs:List (FD×Nat)),v 13=G (D ⟨gl,0,Z⟩) 3 3/\fs.map (·.1)=[Xa,Jj,IS]/\w.heap.size<=gl/\JB w' w.heap.size gm fs/\H w' gl (E5 fs).toArray 298:=hr 13 U;have dt:v 14=Ec EJ:=hr 14 U;exact Eno
def nQ(w:M)(base:Nat)(A:Option Ep)(gm cap:Nat)(fs:List (FD×Nat)):Prop:=w.ownsRow base 298 5 (G A fs.length cap) fs.length (E5 fs)/\JB w base gm fs
theorem nQ.B(h:nQ w base A gm cap fs)(hb:El w w'):nQ w' base A gm cap fs:=
 ⟨kP (uW (b0:=0) (T:=298) (N:=0) (ys:=[]) hb) h.1 fun j _ hj hlt=>absurd hj Ss,h.2.B hb⟩
theorem EcI(w:M)(base gm:Nat):nQ w base Z gm 0 []:=⟨⟨O,.inl ⟨O,O⟩⟩,fun i hi=>absurd hi Ej⟩
theorem nQ.Kb(h:nQ w base A gm cap fs)(hf:fs≠[]): ∃gl,A=D ⟨gl,0,Z⟩/\Xr w base gl gm fs:=by
 rcases h.1.2 with⟨h1,h2⟩|⟨g,cp,cur,hv,hbg,-⟩;·exact absurd (ZP h2) hf
 ·injection hv with e1 e2 e3;subst e1;exact⟨g,O,hbg,fun j Y3 hu=>by have:=h.1.cells (g:=g) O j Y3 hu;rwa [Ka] at this,h.2⟩
theorem nR(w:M)(base gm cap:Nat)(A:Option Ep)(fs:List (FD×Nat))(n:Nat)(hn:fs.length=n)(h:nQ w base A gm cap fs)(d:FD)(gb g1 c1:Nat)(hgb:base<=gb)(hbx:Za w d gm gb)(hk:H w g1 (E5 [(d,gb)]).toArray 298)(hs:n<=1000)(hbase:base<=w.heap.size)(ty:EB): ∃A' cap' w',(ZX #[254,254] ty #[G A n cap,G (D ⟨g1,0,Z⟩) 1 c1]).run EZ w= .ok (G A' (n+1) cap') w'/\nQ w' base A' gm cap' (fs++[(d,gb)])/\Ij base w w':=by
 subst hn;obtain⟨i0,hi,hz0,hz1,hz2⟩:=au Sr
 obtain⟨A',cap',w',hrun,h2,h3,h4,-⟩:=aw (P:=EZ) w base base 254 ty 298 i0 _ 5 40 Tryz.underlying254 hi hz0 hz1 hz2 O A cap fs.length _ h.1 ⟨g1,0,Z⟩ 1 c1 (E5 [(d,gb)]) (vg _)
  (fun j Y3 hu=>Sv) (Sq _) (fun _=>U) J8 U hbase (E3 _)
 rw[<-So] at h2;refine⟨A',cap',w',hrun,⟨Sw,fun i hi=> ?_⟩,h3.2.1 hbase⟩;rcases JW i fs.length with hlt|hge;·rw[List.getElem_append_left hlt];exact⟨(h.2 i hlt).1,Uw h3 (h.2 i hlt).2 (Bm _)⟩
 ·exact Eo6
theorem EcJ(gm:Nat)(l:List Int)(w:M)(hm:H w gm (JJ l) 222)(hk:l.getD 0 0=129): Eg EZ 212 #[V (D ⟨gm,0,Z⟩)] w (Zc w gm [IW 0,IW 1,IW 2,IW 3,IW 4,IW 5,IW 6,IW 7]):=by
 have c0:=hm.cell 0;rw[bz _ _ U,if_neg U,hk] at c0;have u:=J<|IU w.heap.size w;have K0:=J<|EcI w w.heap.size gm;clear hm hk;go_enter nN,nP;go_wp2_with fail;refine Uk 9 ?_;rw[Il];go_wp2_with fail;refine(nM gm 6 _).mono ?_;rintro e x0 ⟨v0,rfl,⟨cR,rfl,lb0,vh⟩,b0⟩;have Kd:=u.out.size;replace K0:=J<|(K0.out.B b0).B (Er x0 (Eb (E5 [(IW 0,cR)]).toArray 298));have HA:=J<|H.new x0 (E5 [(IW 0,cR)]).toArray 298;have HB0:=J<|H.alloc vh (Eb (E5 [(IW 0,cR)]).toArray 298);replace u:=J<|bt (bt u.out b0) (Er x0 (Eb (E5 [(IW 0,cR)]).toArray 298));clear b0 vh;unfold IG;go_wp2_with (with_reducible refine JE 23 ?_);apply Es;change Ib _ _ _ _ _ (x0.alloc (Eb (E5 [(IW 0,cR)]).toArray 298));have hz0:w.heap.size<=(x0.alloc (Eb (E5 [(IW 0,cR)]).toArray 298)).heap.size:=u.out.size;obtain⟨A1,cp1,y0,hrun,k,b⟩:=nR _ w.heap.size gm _ _ _ 0 rfl K0.out (IW 0) cR x0.heap.size 1 U HB0.out HA.out U hz0 254;(with_reducible refine Jo ?_ (Ol (s:= .tmp 15) (y:= .tmp 22) ?_ ?_ ?_ hrun) ?_);·exact Eh O
 ·rfl
 ·rfl
 ·rfl
 have K1:=J k;replace u:=J<|u.out.trans b;clear k b hrun HA HB0 K0 hz0 Kd;go_wp2_with fail;rw[Il];go_wp2_with fail;refine(nM gm 7 _).mono ?_;rintro e x1 ⟨v1,rfl,⟨cV,rfl,lb1,vj⟩,b1⟩;have Kf:=u.out.size;replace K1:=J<|(K1.out.B b1).B (Er x1 (Eb (E5 [(IW 1,cV)]).toArray 298));have HA:=J<|H.new x1 (E5 [(IW 1,cV)]).toArray 298;have HB1:=J<|H.alloc vj (Eb (E5 [(IW 1,cV)]).toArray 298);replace u:=J<|bt (bt u.out b1) (Er x1 (Eb (E5 [(IW 1,cV)]).toArray 298));clear b1 vj;unfold IG;go_wp2_with (with_reducible refine JE 23 ?_);apply Es;change Ib _ _ _ _ _ (x1.alloc (Eb (E5 [(IW 1,cV)]).toArray 298));have hz1:w.heap.size<=(x1.alloc (Eb (E5 [(IW 1,cV)]).toArray 298)).heap.size:=u.out.size;obtain⟨A2,cp2,y1,hrun,k,b⟩:=nR _ w.heap.size gm _ _ _ 1 rfl K1.out (IW 1) cV x1.heap.size 1 U HB1.out HA.out U hz1 254;(with_reducible refine Jo ?_ (Ol (s:= .tmp 15) (y:= .tmp 22) ?_ ?_ ?_ hrun) ?_);·exact Eh O
 ·rfl
 ·rfl
 ·rfl
 have K2:=J k;replace u:=J<|u.out.trans b;clear k b hrun HA HB1 K1 hz1 Kf;go_wp2_with fail;rw[Il];go_wp2_with fail;refine(nM gm 8 _).mono ?_;rintro e x2 ⟨v2,rfl,⟨cW,rfl,lb2,nD⟩,b2⟩;have Kg:=u.out.size;replace K2:=J<|(K2.out.B b2).B (Er x2 (Eb (E5 [(IW 2,cW)]).toArray 298));have HA:=J<|H.new x2 (E5 [(IW 2,cW)]).toArray 298;have HB2:=J<|H.alloc nD (Eb (E5 [(IW 2,cW)]).toArray 298);replace u:=J<|bt (bt u.out b2) (Er x2 (Eb (E5 [(IW 2,cW)]).toArray 298));clear b2 nD;unfold IG;go_wp2_with (with_reducible refine JE 23 ?_);apply Es;change Ib _ _ _ _ _ (x2.alloc (Eb (E5 [(IW 2,cW)]).toArray 298));have hz2:w.heap.size<=(x2.alloc (Eb (E5 [(IW 2,cW)]).toArray 298)).heap.size:=u.out.size;obtain⟨A3,cp3,y2,hrun,k,b⟩:=nR _ w.heap.size gm _ _ _ 2 rfl K2.out (IW 2) cW x2.heap.size 1 U HB2.out HA.out U hz2 254;(with_reducible refine Jo ?_ (Ol (s:= .tmp 15) (y:= .tmp 22) ?_ ?_ ?_ hrun) ?_);·exact Eh O
 ·rfl
 ·rfl
 ·rfl
 have K3:=J k;replace u:=J<|u.out.trans b;clear k b hrun HA HB2 K2 hz2 Kg;go_wp2_with fail;rw[Il];go_wp2_with fail;refine(nM gm 9 _).mono ?_;rintro e x3 ⟨v3,rfl,⟨cY,rfl,lb3,vl⟩,b3⟩;have Kh:=u.out.size;replace K3:=J<|(K3.out.B b3).B (Er x3 (Eb (E5 [(IW 3,cY)]).toArray 298));have HA:=J<|H.new x3 (E5 [(IW 3,cY)]).toArray 298;have HB3:=J<|H.alloc vl (Eb (E5 [(IW 3,cY)]).toArray 298);replace u:=J<|bt (bt u.out b3) (Er x3 (Eb (E5 [(IW 3,cY)]).toArray 298));clear b3 vl;unfold IG;go_wp2_with (with_reducible refine JE 23 ?_);apply Es;change Ib _ _ _ _ _ (x3.alloc (Eb (E5 [(IW 3,cY)]).toArray 298));have hz3:w.heap.size<=(x3.alloc (Eb (E5 [(IW 3,cY)]).toArray 298)).heap.size:=u.out.size;obtain⟨A4,cp4,y3,hrun,k,b⟩:=nR _ w.heap.size gm _ _ _ 3 rfl K3.out (IW 3) cY x3.heap.size 1 U HB3.out HA.out U hz3 254;(with_reducible refine Jo ?_ (Ol (s:= .tmp 15) (y:= .tmp 22) ?_ ?_ ?_ hrun) ?_);·exact Eh O
 ·rfl
 ·rfl
 ·rfl
 have K4:=J k;replace u:=J<|u.out.trans b;clear k b hrun HA HB3 K3 hz3 Kh;go_wp2_with fail;rw[Il];go_wp2_with fail;refine(nM gm 10 _).mono ?_;rintro e x4 ⟨v4,rfl,⟨p6,rfl,lb4,Ty⟩,b4⟩;have lx4:=u.out.size;replace K4:=J<|(K4.out.B b4).B (Er x4 (Eb (E5 [(IW 4,p6)]).toArray 298));have HA:=J<|H.new x4 (E5 [(IW 4,p6)]).toArray 298;have Tz:=J<|H.alloc Ty (Eb (E5 [(IW 4,p6)]).toArray 298);replace u:=J<|bt (bt u.out b4) (Er x4 (Eb (E5 [(IW 4,p6)]).toArray 298));clear b4 Ty;unfold IG;go_wp2_with (with_reducible refine JE 23 ?_);apply Es;change Ib _ _ _ _ _ (x4.alloc (Eb (E5 [(IW 4,p6)]).toArray 298));have Cr:w.heap.size<=(x4.alloc (Eb (E5 [(IW 4,p6)]).toArray 298)).heap.size:=u.out.size;obtain⟨A5,cp5,y4,hrun,k,b⟩:=nR _ w.heap.size gm _ _ _ 4 rfl K4.out (IW 4) p6 x4.heap.size 1 U Tz.out HA.out U Cr 254;(with_reducible refine Jo ?_ (Ol (s:= .tmp 15) (y:= .tmp 22) ?_ ?_ ?_ hrun) ?_);·exact Eh O
 ·rfl
 ·rfl
 ·rfl
 have K5:=J k;replace u:=J<|u.out.trans b;clear k b hrun HA Tz K4 Cr lx4;go_wp2_with fail;rw[Il];go_wp2_with fail;refine(nM gm 11 _).mono ?_;rintro e x5 ⟨v5,rfl,⟨p8,rfl,lb5,TA⟩,b5⟩;have lx5:=u.out.size;replace K5:=J<|(K5.out.B b5).B (Er x5 (Eb (E5 [(IW 5,p8)]).toArray 298));have HA:=J<|H.new x5 (E5 [(IW 5,p8)]).toArray 298;have vP:=J<|H.alloc TA (Eb (E5 [(IW 5,p8)]).toArray 298);replace u:=J<|bt (bt u.out b5) (Er x5 (Eb (E5 [(IW 5,p8)]).toArray 298));clear b5 TA;unfold IG;go_wp2_with (with_reducible refine JE 23 ?_);apply Es;change Ib _ _ _ _ _ (x5.alloc (Eb (E5 [(IW 5,p8)]).toArray 298));have Cs:w.heap.size<=(x5.alloc (Eb (E5 [(IW 5,p8)]).toArray 298)).heap.size:=u.out.size;obtain⟨A6,cp6,y5,hrun,k,b⟩:=nR _ w.heap.size gm _ _ _ 5 rfl K5.out (IW 5) p8 x5.heap.size 1 U vP.out HA.out U Cs 254;(with_reducible refine Jo ?_ (Ol (s:= .tmp 15) (y:= .tmp 22) ?_ ?_ ?_ hrun) ?_);·exact Eh O
 ·rfl
 ·rfl
 ·rfl
 have K6:=J k;replace u:=J<|u.out.trans b;clear k b hrun HA vP K5 Cs lx5;go_wp2_with fail;rw[Il];go_wp2_with fail;refine(nM gm 12 _).mono ?_;rintro e x6 ⟨v6,rfl,⟨qE,rfl,lb6,TD⟩,b6⟩;have lx6:=u.out.size;replace K6:=J<|(K6.out.B b6).B (Er x6 (Eb (E5 [(IW 6,qE)]).toArray 298));have HA:=J<|H.new x6 (E5 [(IW 6,qE)]).toArray 298;have vQ:=J<|H.alloc TD (Eb (E5 [(IW 6,qE)]).toArray 298);replace u:=J<|bt (bt u.out b6) (Er x6 (Eb (E5 [(IW 6,qE)]).toArray 298));clear b6 TD;unfold IG;go_wp2_with (with_reducible refine JE 23 ?_);apply Es;change Ib _ _ _ _ _ (x6.alloc (Eb (E5 [(IW 6,qE)]).toArray 298));have TF:w.heap.size<=(x6.alloc (Eb (E5 [(IW 6,qE)]).toArray 298)).heap.size:=u.out.size;obtain⟨A7,cp7,y6,hrun,k,b⟩:=nR _ w.heap.size gm _ _ _ 6 rfl K6.out (IW 6) qE x6.heap.size 1 U vQ.out HA.out U TF 254;(with_reducible refine Jo ?_ (Ol (s:= .tmp 15) (y:= .tmp 22) ?_ ?_ ?_ hrun) ?_);·exact Eh O
 ·rfl
 ·rfl
 ·rfl
 have K7:=J k;replace u:=J<|u.out.trans b;clear k b hrun HA vQ K6 TF lx6;go_wp2_with fail;rw[Il];go_wp2_with fail;refine(nM gm 13 _).mono ?_;rintro e x7 ⟨v7,rfl,⟨qI,rfl,lb7,TQ⟩,b7⟩;have lx7:=u.out.size;replace K7:=J<|(K7.out.B b7).B (Er x7 (Eb (E5 [(IW 7,qI)]).toArray 298));have HA:=J<|H.new x7 (E5 [(IW 7,qI)]).toArray 298;have qJ:=J<|H.alloc TQ (Eb (E5 [(IW 7,qI)]).toArray 298);replace u:=J<|bt (bt u.out b7) (Er x7 (Eb (E5 [(IW 7,qI)]).toArray 298));clear b7 TQ;unfold IG;go_wp2_with (with_reducible refine JE 23 ?_);apply Es;change Ib _ _ _ _ _ (x7.alloc (Eb (E5 [(IW 7,qI)]).toArray 298));have Kr:w.heap.size<=(x7.alloc (Eb (E5 [(IW 7,qI)]).toArray 298)).heap.size:=u.out.size;obtain⟨A8,cp8,y7,hrun,k,b⟩:=nR _ w.heap.size gm _ _ _ 7 rfl K7.out (IW 7) qI x7.heap.size 1 U qJ.out HA.out U Kr 254;(with_reducible refine Jo ?_ (Ol (s:= .tmp 15) (y:= .tmp 22) ?_ ?_ ?_ hrun) ?_);·exact Eh O
 ·rfl
 ·rfl
 ·rfl
 have K8:=J k;replace u:=J<|u.out.trans b;clear k b hrun HA qJ K7 Kr lx7;go_wp2_with fail;rw[Il];go_wp2;go_ret2;obtain⟨gl,hA,hfl⟩:=K8.out.Kb Ej;subst hA;exact⟨_,_,_,O,O,hfl,u.out⟩
section
variable{P:Program}
theorem TR{e:EB}(he:P.underlying e=D (.int .u8))(d:Nat)(x y:List Int)(n:Nat)(hx:x.length=n)(hy:y.length=n)(W:M): ∀(m j:Nat),j+m<=n-> (Op.eqItems (d+1) e 1 (Em x) (Em y) (List.range' j m)).run P W= .ok ((List.range' j m).all fun i=>x.getD i 0==y.getD i 0) W
 |0,j,_=>by simp only[List.range'_zero,Op.eqItems,Oi,bv]
 |m+1,j,h=>by
  have p1:=Bv he (Em x) j _ (kB x j U) W;have p2:=Bv he (Em y) j _ (kB y j U) W;rw[List.range'_succ,aC];simp only[Op.eqItems,OH,Nat.mul_one,p1,p2,OM,run_equalIn_int W d e .u8 .u8 _ _ he];cases hb:(x.getD j 0==y.getD j 0);·exact Erc
  ·simp only[Bool.not_true,kL,if_false,Bool.true_and];exact TR he d x y n hx hy W m (j+1) U
theorem Eca(x y:List Int)(n:Nat)(hx:x.length=n)(hy:y.length=n):((U4 n).all fun i=>x.getD i 0==y.getD i 0)=decide (x=y):=by
 rw[Bool.eq_iff_iff,decide_eq_true_iff,Xw];constructor;·intro h;refine List.ext_getElem U fun i h1 h2=> ?_;have:=h i I8;simpa[h1,h2] using this
 ·rintro rfl i _;simp
theorem Ecb{t e:EB}{n:Nat}{i:TypeInfo}(hu:P.underlying t=D (.array n e))(he:P.underlying e=D (.int .u8))(hc:P.cellsOf e=1)(hi:P.info? e=D i)(d:Nat)(x y:List Int)(hx:x.length=n)(hy:y.length=n)(W:M): (Op.equalIn (d+1+1) t (Ea (Em x)) (Ea (Em y))).run P W= .ok (decide (x=y)) W:=by rw[run_equalIn_array W (d+1) _ _ hu hi,hc,List.range_eq_range',TR he d x y n hx hy W n 0 U,<-List.range_eq_range',Eca x y n hx hy]
end
theorem Ecc: ∃i,Tryz.prog.info? 5=D i:=by obtain⟨i0,hi,-⟩:=au jl;exact⟨i0,hi⟩
theorem Ecd(gm:Nat)(l:List Int)(w:M)(k:Int)(hm:H w gm (JJ l) 222)(hk:l.getD 0 0=k)(hn:lu k=Z): Eg EZ 212 #[V (D ⟨gm,0,Z⟩)] w fun e w'=>e=Ei (Eu #[G Z 0 0,Ec EI])/\w=w':=by
 have c0:=hm.cell 0;rw[bz _ _ U,if_neg U,hk] at c0
 have hne:k≠129/\k≠130/\k≠131/\k≠132/\k≠133/\k≠134/\k≠135/\k≠136:=by
  unfold lu at hn;repeat' split at hn
  all_goals first|(cases hn;done)|omega
 obtain⟨n129,n130,n131,n132,n133,n134,n135,n136⟩:=hne;have Emg:(k==129)=EI:=by simp[n129]
 have Emh:(k==130)=EI:=by simp[n130]
 have Emi:(k==131)=EI:=by simp[n131]
 have Emj:(k==132)=EI:=by simp[n132]
 have Emk:(k==133)=EI:=by simp[n133]
 have Eml:(k==134)=EI:=by simp[n134]
 have Emm:(k==135)=EI:=by simp[n135]
 have Emn:(k==136)=EI:=by simp[n136]
 clear hm hk hn;go_enter nN,nP;go_wp2;exact EqP
def Lg(w:M)(gm:Nat)(k:Int)(e:Ud)(w':M):Prop:=
 match lu k with
 |some ds=>Zc w gm ds e w'
 |none=>e=Ei (Eu #[G Z 0 0,Ec EI])/\w=w'
theorem Ecf(gm:Nat)(l:List Int)(w:M)(hm:H w gm (JJ l) 222):Eg EZ 212 #[V (D ⟨gm,0,Z⟩)] w (Lg w gm (l.getD 0 0)):=by
 generalize hk:l.getD 0 0=k at*;by_cases Ecg:k=129;·subst Ecg;exact EcJ gm l w hm hk
 by_cases Ech:k=130;·subst Ech;exact EcE gm l w hm hk
 by_cases Eci:k=131;·subst Eci;exact Eb0 gm l w hm hk
 by_cases Ecj:k=132;·subst Ecj;exact Eb9 gm l w hm hk
 by_cases Eck:k=133;·subst Eck;exact Eb1 gm l w hm hk
 by_cases Ecl:k=134;·subst Ecl;exact Eb3 gm l w hm hk
 by_cases Ecm:k=135;·subst Ecm;exact Eb5 gm l w hm hk
 by_cases Ecn:k=136;·subst Ecn;exact Eb7 gm l w hm hk
 have hn:lu k=Z:=by unfold lu;exact EqC
 unfold Lg;rw[hn];exact Ecd gm l w k hm hk hn
theorem Eco(a0 a1 a2 a3 a4 a5 a6 a7 a8 a9 Uf OU a12 qO b0 b1 b2 b3 b4 b5 b6 b7 b8 b9 b10 b11 b12 b13:Int)(W:M): (X5 .neq 222 (Ea #[E I a0,E I a1,E I a2,E I a3,E I a4,E I a5,E Ix a6,E Ix a7,E Ix a8,E Ix a9,E Ix Uf,E Ix OU,E Ix a12,E Ix qO]) (Ea #[E I b0,E I b1,E I b2,E I b3,E I b4,E I b5,E Ix b6,E Ix b7,E Ix b8,E Ix b9,E Ix b10,E Ix b11,E Ix b12,E Ix b13])).run EZ W= .ok (Ec (!decide (a0=b0/\a1=b1/\a2=b2/\a3=b3/\a4=b4/\a5=b5/\[a6,a7,a8,a9,Uf,OU,a12,qO]=[b6,b7,b8,b9,b10,b11,b12,b13]))) W:=by
 obtain⟨i0,hi⟩:=Ecc;have hx:=Ecb Tryz.underlying115 Tryz.underlying5 Ef hi 9997 [a6,a7,a8,a9,Uf,OU,a12,qO] [b6,b7,b8,b9,b10,b11,b12,b13] O O W;simp only[Em,UB,Xn,Z3] at hx;by_cases e0:a0=b0
 ·by_cases e1:a1=b1
  ·by_cases e2:a2=b2
   ·by_cases e3:a3=b3
    ·by_cases e4:a4=b4
     ·by_cases e5:a5=b5
      ·by_cases e8:[a6,a7,a8,a9,Uf,OU,a12,qO]=[b6,b7,b8,b9,b10,b11,b12,b13];·rw[IJ e8] at hx;simp only[dJ,and_true] at e8;obtain⟨z6,z7,z8,z9,z10,z11,Ia,z13⟩:=e8;subst z6 z7 z8 z9 z10 z11 Ia z13;simp[go_sem,e0,e1,e2,e3,e4,e5,hx]
       ·rw[IZ e8] at hx;have e9:(!decide (a0=b0/\a1=b1/\a2=b2/\a3=b3/\a4=b4/\a5=b5/\[a6,a7,a8,a9,Uf,OU,a12,qO]=[b6,b7,b8,b9,b10,b11,b12,b13]))=EJ:=by simp only[Bool.not_eq_true',decide_eq_false_iff_not];exact fun h=>e8 h.2.2.2.2.2.2
        rw[e9];simp[go_sem,e0,e1,e2,e3,e4,e5,hx]
      ·simp[go_sem,e0,e1,e2,e3,e4,e5]
     ·simp[go_sem,e0,e1,e2,e3,e4]
    ·simp[go_sem,e0,e1,e2,e3]
   ·simp[go_sem,e0,e1,e2]
  ·simp[go_sem,e0,e1]
 ·simp[go_sem,e0]
theorem Ecs(x y:List Int)(hx:dK x)(hy:dK y)(W:M):(X5 .neq 222 (Ea (JJ x)) (Ea (JJ y))).run EZ W= .ok (Ec (!decide (x=y))) W:=by
 obtain⟨hx,-⟩:=hx;obtain⟨hy,-⟩:=hy;match x,hx with
 |[a0,a1,a2,a3,a4,a5,a6,a7,a8,a9,Uf,OU,a12,qO],_=>
  match y,hy with
  |[b0,b1,b2,b3,b4,b5,b6,b7,b8,b9,b10,b11,b12,b13],_=> refine(Eco a0 a1 a2 a3 a4 a5 a6 a7 a8 a9 Uf OU a12 qO b0 b1 b2 b3 b4 b5 b6 b7 b8 b9 b10 b11 b12 b13 W).trans ?_;congr 3;rw[decide_eq_decide];simp
def qU(k:Int):List Int:=[k,0,0,0,0,0,0,0,0,0,0,0,0,0]
def nS(l:List Int):Option (List Int):=
 match lu (l.getD 0 0) with
 |none=>Z
 |some ds=>match c_ ds l with
  |none=>Z
  |some ps=>if J1 ds l=qU (l.getD 0 0) then D (l.getD 0 0::ps) else Z
structure FD.Lh(d:FD):Prop where
 ok:d.Lf
 off1:1<=d.off
 neg:d.lo<0-> -32768<=d.lo/\d.hi<=32767
 pos:0<=d.lo->1<=d.size/\d.size<=7/\d.hi<256^d.size.toNat
theorem Ect{k:Int}{ds:List FD}(h:lu k=D ds):129<=k/\k<=136/\ds.length<=8/\ ∀d∈ds,d.Lh:=by
 unfold lu at h;repeat' split at h
 all_goals first
  |(cases h;done)
  |(injection h with h
    subst h
    refine⟨U,U,EU,fun d hd=> ?_⟩
    simp only[UJ,Um,or_false] at hd)
 ·rcases hd with rfl|rfl|rfl|rfl|rfl|rfl|rfl|rfl<;>exact⟨⟨EU,EU,EU⟩,EU,EU,EU⟩
 ·rcases hd with rfl|rfl|rfl<;>exact⟨⟨EU,EU,EU⟩,EU,EU,EU⟩
 ·subst hd;exact⟨⟨EU,EU,EU⟩,EU,EU,EU⟩
 ·exact Epw
 ·subst hd;exact⟨⟨EU,EU,EU⟩,EU,EU,EU⟩
 ·exact Epw
 ·exact Epw
theorem Ecu{gl:Nat}{l:List Int}(h:Xr w base gl gm fs)(hl:dK l)(hm:H w gm (JJ l) 222)(hd: ∀p∈fs,p.1.Lh): ∀a∈fs.map (BK l),a.ok/\fo w a.Y5 a.gp a.n:=by intro a ha;obtain⟨p,hp,rfl⟩:=dw.1 ha;have hg:=hd p hp;obtain⟨i,hi,he⟩:=List.getElem_of_mem hp;refine⟨⟨hg.neg,hg.pos⟩,EUr p.1,fun W hW=> ?_⟩;have hb:=(h.2.2 i hi).2;rw[he] at hb;exact EbW p.1 p.2 gm l W hg.ok hl (H.B hb hW) (hm.B hW)
theorem TY(ds:List FD)(l:List Int)(h:dK l):dK (J1 ds l):=by
 refine⟨(BW ds l).trans h.1,fun i h6 lv=> ?_⟩;rcases EaB ds l i with h1|h1;·rw[h1];omega
 ·rw[h1];exact h.2 i h6 lv
theorem Ecv(k:Int):dK (qU k):=by exact EoD
theorem Ecw(k:Int):Tryz.prog.built 222 [(0,E I k)]=D (JJ (qU k)):=Ef
def vR(l:List Int)(w:M)(e:Ud)(w':M):Prop:=
 (match nS l with
  |none=>e=Ei (Eu #[G Z 0 0,E I 1])
  |some bs=> ∃A c base,e=Ei (Eu #[G A bs.length c,E I 0])/\Own w' base A c bs)/\El w w'
theorem Ecx(l:List Int)(w:M)(hl:dK l):Eg EZ 165 #[Ea (JJ l)] w (vR l w):=by
 have CF:=J<|fun W gm hm=>Ecf gm l W hm;have HL:=J hl;have hsz:Ed ((JJ l).size=14):=J<|pY l;have hone:=J<|Ld l;clear hl;obtain⟨mv,hmv⟩:=Eo (JJ l);obtain⟨k,hk⟩:=Eo (l.getD 0 0);rw[<-hmv] at hsz hone⊢;replace hmv:=J hmv;rw[<-hk] at CF;replace hk:=J hk;go_enter Tryz.func165,Tryz.ntmps165;go_wp2_with fail;have K1:=J<|H.new w mv 222;have u:=J<|Er w (Eb mv 222);rw[hmv.out] at K1 u⊢;generalize w.alloc (Eb (JJ l) 222)=w0 at*;have l0:=K1.out.lt;refine(CF.out _ _ K1.out).mono ?_;rintro e w1 hf;unfold Lg at hf;cases hfo:lu k with
 |none=>
  rw[hfo] at hf;obtain⟨rfl,rfl⟩:=hf;have hp:nS l=Z:=by unfold nS;rw[<-hk.out,hfo]
  replace hp:=J hp;clear hfo;go_wp2;go_ret2;unfold vR;rw[hp.out];exact Eqt
 |some ds=>
  rw[hfo] at hf;obtain⟨gl,cp,fs,rfl,hds,hfl,b1⟩:=hf;obtain⟨k1,k11,hd7,hgood⟩:=Ect hfo;have T_:=J hfo;have BY:=J hds;have FL:=J hfl;have HG:=J hgood;replace K1:=J<|K1.out.B b1;replace u:=EV u b1;have hlen:fs.length=ds.length:=by rw[<-hds,List.length_map]
  have HN:=J hlen;have hgl:w.heap.size<gl:=by have:=hfl.1;omega
  have c0:=K1.out.cell 0;rw[bz _ _ U,if_neg U,<-hk.out] at c0;have l1:=K1.out.lt;have Li: ∀p∈fs,p.1.Lh:=fun p hp=>hgood _ (by rw[<-hds];exact List.mem_map_of_mem hp);have CP:=J<|Eal k (fs.map (BK l)) ds.length gl cp (by rw[List.length_map,hlen]) U U U w1 (fun W hW=>Eaz l (hfl.B hW)) (Ecu hfl HL.out K1.out Li);have HG2:=J Li;clear Li;clear hfo hds hfl hgood b1 hlen;generalize hnl:ds.length=n at*;replace hnl:=J hnl;go_wp2_with fail;refine(CP.out).mono ?_;rintro e w2 ⟨vS,b2⟩;clear CP c0;rw[Eay,BY.out] at vS;have VE:=b2.size;replace K1:=J<|K1.out.B b2;replace FL:=J<|FL.out.B b2;replace u:=EV u b2;clear b2;cases hps:c_ ds l with
  |none=>
   rw[hps] at vS;obtain rfl:=vS;have hp:nS l=Z:=by unfold nS;rw[<-hk.out,T_.out];simp only[hps]
   replace hp:=J hp;clear hps;go_wp2;go_ret2;unfold vR;rw[hp.out];exact Eqt
  |some ps=>
   rw[hps] at vS;obtain⟨A,c,rfl,ho⟩:=vS;have Bt:=J hps;have HO:=J ho;clear hps ho;go_wp2_with fail;go_loopw[26] (fun y wr=> ∃i:Nat,i<=n/\y=E I i/\H wr w.heap.size (JJ (J1 (ds.take i) l)) 222/\Xr wr w0.heap.size gl w.heap.size fs/\Own wr w1.heap.size A c (k::ps)/\El w wr) (fun y _=>n-(In y).toNat);case atStart=>exact⟨0,U,O,K1.out,FL.out,HO.out,u.out⟩
   case round=>
    obtain⟨i,hi,rfl,hm,hfl,ho,hbb⟩:=hrel;have K1:=J hm;have FL:=J hfl;have HO:=J ho;have u:=J hbb;have lr:=hm.lt;have lb:=hbb.size;clear hm hfl ho hbb;by_cases hin:i<n
    ·have hil:i<fs.length:=Bu;have hcell:=fun j hj=>FL.out.cells i hil j hj;have pS:=(FL.out.2.2 i hil).2;have hgd:=HG2.out _ (gh hil);have htk:ds.take (i+1)=ds.take i++[(fs[i]'hil).1]:=by have e1:ds[i]?=D (fs[i]'hil).1:=S_;rw[nG,e1];rfl
     generalize fs[i]'hil=p at*;obtain⟨d,gb⟩:=p;simp only at hcell pS hgd htk;have HT:=J htk;have vn:=J pS;have CS:=J<|fun W (hb:Za W d w.heap.size gb) (hm:H W w.heap.size (JJ (J1 (ds.take i) l)) 222)=>EbY d gb w.heap.size (J1 (ds.take i) l) 0 W hgd.ok (fun _=>U) (TY _ _ HL.out) hb hm;have HE: ∀(args:Array Y) (w:M),(Jm d.set args).run EZ w= .ok (.enter d.set args) w:=Q2 d;have c0:=hcell 0 U;have c1:=hcell 1 U;have c2:=hcell 2 U;have c3:=hcell 3 U;have c4:=hcell 4 U;simp only[IG,Nat.add_zero] at c0 c1 c2 c3 c4;clear hcell pS hgd htk;have Kq:=J<|im d gb;have hsz2:Ed ((IG d gb).size=5):=J O;have t1:decide ((i:Int)<(n:Int))=EJ:=IJ U;go_wp2_with (with_reducible refine wA gu (Ex.mk ?_));apply Es;clear c0 c1 c2 c3 c4 t1;have K5:=J<|H.new wr JA 298;have b5:=J<|Er wr (Eb JA 298);generalize wr.alloc (Eb JA 298)=w4 at*;go_wp2_with (with_reducible refine wS (cs:=(IG d gb)) XB K5 (Ex.mk ?_) (hn:=hsz2.out) (h1:=Kq.out));apply Es;replace K5:=J<|K5.out.setRow (IG d gb);replace b5:=J<|EY (g:=wr.heap.size) b5.out U (IG d gb);generalize w4.setRow wr.heap.size (IG d gb)=w5 at*;replace K1:=J<|K1.out.B b5.out;replace FL:=J<|FL.out.B b5.out;replace HO:=J<|XM HO.out b5.out;replace u:=EV u b5.out;have vo:Ed (Za w5 d w.heap.size gb):=EH vn b5.out;clear vn;clear b5;have k4:=K5.out.cell 4;simp only[IG,J2,List.getElem?_cons_succ,kS] at k4;have HK4:w5.cell? ⟨wr.heap.size,4,Z⟩=D (.func (.func d.set) #[] #[V (D ⟨gb,0,Z⟩)]):=k4;clear k4 K5;go_wp2_with fail;refine(CS.out _ vo.out K1.out).mono ?_;rintro e w6 ⟨rfl,VI,Lj,hs6,b6⟩;clear HK4 HE CS;replace K1:=J VI;replace FL:=J<|FL.out.keep U Lj;replace HO:=J<|EaA HO.out U Lj;replace u:=J<|u.out.trans b6;clear VI Lj b6 vo;go_wp2_with fail;refine⟨⟨i+1,U,Ej,?_,FL.out,HO.out,u.out⟩,Jb⟩;rw[HT.out,EaC];exact K1.out
    ·obtain rfl:i=n:=U;have VJ:ds.take i=ds:=by rw[<-hnl.out,List.take_length]
     rw[VJ] at K1;have c0:=K1.out.cell 0;rw[bz _ _ U,if_neg U,sY _ _ _ (fun d hd=>by have:=(HG.out d hd).off1;omega),<-hk.out] at c0;have NQ:=fun W=>Ecs (J1 ds l) (qU k) (TY ds l HL.out) (Ecv k) W;have hput:nS l=if J1 ds l=qU k then D (k::ps) else Z:=by unfold nS;rw[<-hk.out,T_.out];simp only[Bt.out]
     replace hput:=J hput;have zs:Ed ((JJ (J1 ds l)).size=14):=J<|pY _;have BM:=J<|Ecw k;have HKP:Ed ((k::ps).length=1+ps.length):=J (by rw[Zn];omega);clear VJ;generalize JJ (J1 ds l)=mz at*;generalize JJ (qU k)=mk at*;have t1:decide ((i:Int)<(i:Int))=EI:=IZ U;by_cases hz:J1 ds l=qU k;·rw[IJ hz] at NQ;rw[if_pos hz] at hput;clear hz;go_wp2_with (first|(with_reducible refine wL Ck K1 ?_ (hn:=zs.out))|((with_reducible refine Io 37 ?_);refine I4 rfl 222 _ rfl mk BM.out ?_));go_ret2;unfold vR;rw[hput.out];exact⟨⟨A,c,_,by rw[HKP.out];rfl,HO.out⟩,u.out⟩
     ·rw[IZ hz] at NQ;rw[if_neg hz] at hput;clear hz;go_wp2_with (first|(with_reducible refine wL Ck K1 ?_ (hn:=zs.out))|((with_reducible refine Io 37 ?_);refine I4 rfl 222 _ rfl mk BM.out ?_));go_ret2;unfold vR;rw[hput.out];exact Eqt
def Zy(n b:Int):Bool:=decide (0<=n/\n<b)
theorem Ct{n b:Int}(h:Zy n b=EJ):0<=n/\n<b:=of_decide_eq_true h
theorem VO(n b:Int)(w:M): Eg EZ 162 #[E I n,E I b] w fun e w'=>e=Ei (Ec (Zy n b))/\w=w':=by
 by_cases h:0<=n;·go_enter Tryz.func162,Tryz.ntmps162;go_wp2;go_ret;exact⟨zo (by unfold Zy;simp[h]),O⟩
 ·go_enter Tryz.func162,Tryz.ntmps162;go_wp2;go_ret;exact⟨zo (by unfold Zy;simp;omega),O⟩
theorem gN(n b:Int)(w:M)(h:Zy n b=EJ): Eg EZ 162 #[E I n,E I b] w fun e w'=>e=Ei (Ec EJ)/\w=w':=by have:=VO n b w;rwa [h] at this
theorem qX(n b:Int)(w:M)(h:Zy n b=EI): Eg EZ 162 #[E I n,E I b] w fun e w'=>e=Ei (Ec EI)/\w=w':=by have:=VO n b w;rwa [h] at this
def pn(g:Nat->Y)(i:Nat):Int:=In (g i)
def lx(g:Nat->Y)(source role:Int):Bool:=Zy source 5&&Zy role 4&&has (pn g (9+source.toNat)) role
def may(g:Nat->Y)(mode role VU:Int):Bool:=Zy mode 5&&Zy role 4&&Zy VU 4&&has (pn g (14+mode.toNat*4+role.toNat)) VU
def iD(g:Nat->Y)(from_ bI:Int):Bool:=Zy from_ 5&&Zy bI 5&&has (pn g (34+from_.toNat)) bI
theorem VX(g:Nat->Y)(s r:Int)(w:M)(hg: ∀i,9<=i->i<56->Z1 (g i)): Eg EZ 119 #[Ea (EL 56 g),E I s,E I r] w fun e w'=>e=Ei (Ec (lx g s r))/\El w w':=by
 cases h1:Zy s 5;·have N1:=J h1;rw[show lx g s r=EI from by simp[lx,h1]];clear h1;go_enter Tryz.func119,Tryz.ntmps119;exact Eoq
 ·cases h2:Zy r 4;·have N1:=J h1;have N2:=J h2;rw[show lx g s r=EI from by simp[lx,h2]];clear h1 h2;go_enter Tryz.func119,Tryz.ntmps119;go_wp2_with fail;refine(gN _ _ _ N1.out).mono ?_;rintro e w' ⟨rfl,rfl⟩;go_wp2_with fail;refine(qX _ _ _ N2.out).mono ?_;rintro e w' ⟨rfl,rfl⟩;go_wp2;go_ret;exact⟨O,Er _ _⟩
  ·have N1:=J h1;have N2:=J h2;obtain⟨k1,k2⟩:=Ct h1;obtain⟨k,rfl⟩:=fm k1;rw[show lx g k r=has (pn g (9+k)) r from by simp[lx,h1,h2]];have hlt:9+k<56:=U;obtain⟨e1,m1,m2⟩:=hg (9+k) U hlt;obtain⟨p1,hp1⟩:=JK (In (g (9+k)));rw[show pn g (9+k)=p1 from hp1];rw[hp1] at e1 m1 m2;obtain⟨b,hb⟩:=JK (has p1 r);have hh:=Gg p1 r;rw[hb] at hh;have HH:=J hh;rw[hb];clear h1 h2 hp1 hg hb hh;go_enter Tryz.func119,Tryz.ntmps119;exact Erv
theorem VZ(g:Nat->Y)(s r:Int)(w:M)(hg: ∀i,9<=i->i<56->Z1 (g i)): Eg EZ 183 #[Ea (EL 56 g),E I s,E I r] w fun e w'=>e=Ei (Ec (iD g s r))/\El w w':=by
 cases h1:Zy s 5;·have N1:=J h1;rw[show iD g s r=EI from by simp[iD,h1]];clear h1;go_enter Tryz.func183,Tryz.ntmps183;exact Eoq
 ·cases h2:Zy r 5;·have N1:=J h1;have N2:=J h2;rw[show iD g s r=EI from by simp[iD,h2]];clear h1 h2;go_enter Tryz.func183,Tryz.ntmps183;go_wp2_with fail;refine(gN _ _ _ N1.out).mono ?_;rintro e w' ⟨rfl,rfl⟩;go_wp2_with fail;refine(qX _ _ _ N2.out).mono ?_;rintro e w' ⟨rfl,rfl⟩;go_wp2;go_ret;exact⟨O,Er _ _⟩
  ·have N1:=J h1;have N2:=J h2;obtain⟨k1,k2⟩:=Ct h1;obtain⟨k,rfl⟩:=fm k1;rw[show iD g k r=has (pn g (34+k)) r from by simp[iD,h1,h2]];have hlt:34+k<56:=U;obtain⟨e1,m1,m2⟩:=hg (34+k) U hlt;obtain⟨p1,hp1⟩:=JK (In (g (34+k)));rw[show pn g (34+k)=p1 from hp1];rw[hp1] at e1 m1 m2;obtain⟨b,hb⟩:=JK (has p1 r);have hh:=Gg p1 r;rw[hb] at hh;have HH:=J hh;rw[hb];clear h1 h2 hp1 hg hb hh;go_enter Tryz.func183,Tryz.ntmps183;exact Erv
theorem vT(g:Nat->Y)(s r c:Int)(w:M)(hg: ∀i,9<=i->i<56->Z1 (g i)): Eg EZ 182 #[Ea (EL 56 g),E I s,E I r,E I c] w fun e w'=>e=Ei (Ec (may g s r c))/\El w w':=by
 cases h1:Zy s 5;·have N1:=J h1;rw[show may g s r c=EI from by simp[may,h1]];clear h1;go_enter Tryz.func182,Tryz.ntmps182;exact Eoq
 ·cases h2:Zy r 4;·have N1:=J h1;have N2:=J h2;rw[show may g s r c=EI from by simp[may,h2]];clear h1 h2;go_enter Tryz.func182,Tryz.ntmps182;go_wp2_with fail;refine(gN _ _ _ N1.out).mono ?_;rintro e w' ⟨rfl,rfl⟩;go_wp2_with fail;refine(qX _ _ _ N2.out).mono ?_;rintro e w' ⟨rfl,rfl⟩;go_wp2;go_ret;exact⟨O,Er _ _⟩
  ·cases h3:Zy c 4;·have N1:=J h1;have N2:=J h2;have N3:=J h3;rw[show may g s r c=EI from by simp[may,h3]];clear h1 h2 h3;go_enter Tryz.func182,Tryz.ntmps182;go_wp2_with fail;refine(gN _ _ _ N1.out).mono ?_;rintro e w' ⟨rfl,rfl⟩;go_wp2_with fail;refine(gN _ _ _ N2.out).mono ?_;rintro e w' ⟨rfl,rfl⟩;go_wp2_with fail;refine(qX _ _ _ N3.out).mono ?_;rintro e w' ⟨rfl,rfl⟩;go_wp2;go_ret;exact⟨O,Er _ _⟩
   ·have N1:=J h1;have N2:=J h2;have N3:=J h3;obtain⟨k1,k2⟩:=Ct h1;obtain⟨k,rfl⟩:=fm k1;obtain⟨j1,j2⟩:=Ct h2;obtain⟨j,rfl⟩:=fm j1;rw[show may g k j c=has (pn g (14+k*4+j)) c from by simp[may,h1,h2,h3]];have hlt:14+k*4+j<56:=U;obtain⟨e1,m1,m2⟩:=hg (14+k*4+j) U hlt;obtain⟨p1,hp1⟩:=JK (In (g (14+k*4+j)));rw[show pn g (14+k*4+j)=p1 from hp1];rw[hp1] at e1 m1 m2;obtain⟨b,hb⟩:=JK (has p1 c);have hh:=Gg p1 c;rw[hb] at hh;have HH:=J hh;rw[hb];clear h1 h2 h3 hp1 hg hb hh;go_enter Tryz.func182,Tryz.ntmps182;go_wp2_with fail;refine(gN _ _ _ N1.out).mono ?_;rintro e w' ⟨rfl,rfl⟩;go_wp2_with fail;refine(gN _ _ _ N2.out).mono ?_;rintro e w' ⟨rfl,rfl⟩;go_wp2_with fail;refine(gN _ _ _ N3.out).mono ?_;exact Eoi
def place(a b c d e s:Int):Int:=if a=s then 0 else if b=s then 1 else if c=s then 2 else if d=s then 3 else if e=s then 4 else-1
def bA(g:Nat->Y)(s:Int):Int:=place (pn g 0) (pn g 1) (pn g 2) (pn g 3) (pn g 4) s
def Lk(g:Nat->Y)(a b:Int):Bool:=bA g a != -1&&bA g b != -1&&decide (bA g a<bA g b)
theorem EcA(a b c d e s:Int)(hp:0<=place a b c d e s\/place a b c d e s= -1)(h:a=s):place a b c d e s=0:=by
 unfold place at*;repeat' split at hp
 all_goals (repeat' split)
 all_goals first|rfl|omega
theorem EcB(a b c d e s:Int)(hp:0<=place a b c d e s\/place a b c d e s= -1)(h: ¬a=s):1<=place a b c d e s\/place a b c d e s= -1:=by
 unfold place at*;repeat' split at hp
 all_goals (repeat' split)
 all_goals omega
theorem EcC(a b c d e s:Int)(hp:1<=place a b c d e s\/place a b c d e s= -1)(h:b=s):place a b c d e s=1:=by
 unfold place at*;repeat' split at hp
 all_goals (repeat' split)
 all_goals first|rfl|omega
theorem EcD(a b c d e s:Int)(hp:1<=place a b c d e s\/place a b c d e s= -1)(h: ¬b=s):2<=place a b c d e s\/place a b c d e s= -1:=by
 unfold place at*;repeat' split at hp
 all_goals (repeat' split)
 all_goals omega
theorem EcF(a b c d e s:Int)(hp:2<=place a b c d e s\/place a b c d e s= -1)(h:c=s):place a b c d e s=2:=by
 unfold place at*;repeat' split at hp
 all_goals (repeat' split)
 all_goals first|rfl|omega
theorem EcG(a b c d e s:Int)(hp:2<=place a b c d e s\/place a b c d e s= -1)(h: ¬c=s):3<=place a b c d e s\/place a b c d e s= -1:=by
 unfold place at*;repeat' split at hp
 all_goals (repeat' split)
 all_goals omega
theorem EcH(a b c d e s:Int)(hp:3<=place a b c d e s\/place a b c d e s= -1)(h:d=s):place a b c d e s=3:=by
 unfold place at*;repeat' split at hp
 all_goals (repeat' split)
 all_goals first|rfl|omega
theorem EcK(a b c d e s:Int)(hp:3<=place a b c d e s\/place a b c d e s= -1)(h: ¬d=s):4<=place a b c d e s\/place a b c d e s= -1:=by
 unfold place at*;repeat' split at hp
 all_goals (repeat' split)
 all_goals omega
theorem EcL(a b c d e s:Int)(hp:4<=place a b c d e s\/place a b c d e s= -1)(h:e=s):place a b c d e s=4:=by
 unfold place at*;repeat' split at hp
 all_goals (repeat' split)
 all_goals first|rfl|omega
theorem EcM(a b c d e s:Int)(hp:4<=place a b c d e s\/place a b c d e s= -1)(h: ¬e=s):5<=place a b c d e s\/place a b c d e s= -1:=by
 unfold place at*;repeat' split at hp
 all_goals (repeat' split)
 all_goals omega
theorem EcN(a b c d e s:Int)(hp:5<=place a b c d e s\/place a b c d e s= -1):place a b c d e s= -1:=by
 unfold place at*;repeat' split at hp
 all_goals (repeat' split)
 all_goals first|rfl|omega
theorem Va(a b c d e s:Int)(w:M): Eg EZ 245 #[Ea #[E I a,E I b,E I c,E I d,E I e],E I s] w fun e' w'=>e'=Ei (E I (place a b c d e s))/\El w w':=by
 have Y4:=J<|Er w;have i0: ∀w,(Un 337 (Ea #[E I a,E I b,E I c,E I d,E I e]) (E I 0)).run EZ w= .ok (E I a) w:=fun _=>Ef;have i1: ∀w,(Un 337 (Ea #[E I a,E I b,E I c,E I d,E I e]) (E I 1)).run EZ w= .ok (E I b) w:=fun _=>Ef;have i2: ∀w,(Un 337 (Ea #[E I a,E I b,E I c,E I d,E I e]) (E I 2)).run EZ w= .ok (E I c) w:=fun _=>Ef;have i3: ∀w,(Un 337 (Ea #[E I a,E I b,E I c,E I d,E I e]) (E I 3)).run EZ w= .ok (E I d) w:=fun _=>Ef;have i4: ∀w,(Un 337 (Ea #[E I a,E I b,E I c,E I d,E I e]) (E I 4)).run EZ w= .ok (E I e) w:=fun _=>Ef;go_enter Tryz.func245,Tryz.ntmps245;go_wp2_with fail;go_loop [8] (fun y=> ∃k:Int,y=E I k/\0<=k/\k<=5/\Ed (k<=place a b c d e s\/place a b c d e s= -1)) (fun y=>5-(In y).toNat);case atStart=>exact⟨0,O,U,U,J (by unfold place;repeat' split;all_goals omega)⟩
 case round=>
  obtain⟨k,rfl,k0,k5,HK⟩:=hrel;rcases(show k=0\/k=1\/k=2\/k=3\/k=4\/k=5 from U) with rfl|rfl|rfl|rfl|rfl|rfl
  ·by_cases h:a=s;·have HP:=J<|EcA a b c d e s HK.out h;have hb:(a==s)=EJ:=Ov;clear h;go_wp2;go_ret;exact⟨jj HP.out.symm,Y4.out _⟩
   ·have HP:=J<|EcB a b c d e s HK.out h;have hb:(a==s)=EI:=Ov;clear h;go_wp2;exact⟨⟨1,O,U,U,HP⟩,Zs⟩
  ·by_cases h:b=s;·have HP:=J<|EcC a b c d e s HK.out h;have hb:(b==s)=EJ:=Ov;clear h;go_wp2;go_ret;exact⟨jj HP.out.symm,Y4.out _⟩
   ·have HP:=J<|EcD a b c d e s HK.out h;have hb:(b==s)=EI:=Ov;clear h;go_wp2;exact⟨⟨2,O,U,U,HP⟩,Zs⟩
  ·by_cases h:c=s;·have HP:=J<|EcF a b c d e s HK.out h;have hb:(c==s)=EJ:=Ov;clear h;go_wp2;go_ret;exact⟨jj HP.out.symm,Y4.out _⟩
   ·have HP:=J<|EcG a b c d e s HK.out h;have hb:(c==s)=EI:=Ov;clear h;go_wp2;exact⟨⟨3,O,U,U,HP⟩,Zs⟩
  ·by_cases h:d=s;·have HP:=J<|EcH a b c d e s HK.out h;have hb:(d==s)=EJ:=Ov;clear h;go_wp2;go_ret;exact⟨jj HP.out.symm,Y4.out _⟩
   ·have HP:=J<|EcK a b c d e s HK.out h;have hb:(d==s)=EI:=Ov;clear h;go_wp2;exact⟨⟨4,O,U,U,HP⟩,Zs⟩
  ·by_cases h:e=s;·have HP:=J<|EcL a b c d e s HK.out h;have hb:(e==s)=EJ:=Ov;clear h;go_wp2;go_ret;exact⟨jj HP.out.symm,Y4.out _⟩
   ·have HP:=J<|EcM a b c d e s HK.out h;have hb:(e==s)=EI:=Ov;clear h;go_wp2;exact⟨⟨5,O,U,U,HP⟩,Zs⟩
  ·have HP:=J<|EcN a b c d e s HK.out;go_wp2;go_ret;exact⟨jj HP.out.symm,Y4.out _⟩
theorem jB{v:Y}(h:Z1 v): ∃n,v=E I n/\In v=n:=⟨_,h.1,O⟩
theorem EcP(g:Nat->Y)(s:Int)(w:M)(hg: ∀i,i<5->Z1 (g i)): Eg EZ 219 #[Ea (EL 56 g),E I s] w fun e' w'=>e'=Ei (E I (bA g s))/\El w w':=by obtain⟨a,e0,p0⟩:=jB (hg 0 U);obtain⟨b,e1,p1⟩:=jB (hg 1 U);obtain⟨c,e2,p2⟩:=jB (hg 2 U);obtain⟨d,e3,p3⟩:=jB (hg 3 U);obtain⟨e,e4,p4⟩:=jB (hg 4 U);rw[show bA g s=place a b c d e s from Vb];clear hg p0 p1 p2 p3 p4;go_enter Tryz.func219,Tryz.ntmps219;go_wp2_with fail;refine(Va a b c d e s _).mono ?_;rintro e' w1 ⟨rfl,b1⟩;go_wp2;go_ret;exact⟨O,PW b1⟩
theorem EcQ(g:Nat->Y)(s t:Int)(w:M)(hg: ∀i,i<5->Z1 (g i)): Eg EZ 217 #[Ea (EL 56 g),E I s,E I t] w fun e' w'=>e'=Ei (Ec (Lk g s t))/\El w w':=by
 obtain⟨a,e0,p0⟩:=jB (hg 0 U);obtain⟨b,e1,p1⟩:=jB (hg 1 U);obtain⟨c,e2,p2⟩:=jB (hg 2 U);obtain⟨d,e3,p3⟩:=jB (hg 3 U);obtain⟨e,e4,p4⟩:=jB (hg 4 U);have hr: ∀s,bA g s=place a b c d e s:=fun s=>Vb;unfold Lk;rw[hr,hr];have C:=J<|Va a b c d e;have B0:=J<|Er w (Eb (EL 56 g) 28);clear hg p0 p1 p2 p3 p4 hr;go_enter Tryz.func217,Tryz.ntmps217;go_wp2_with fail;go_cut[8,9] (fun Y3 v wx=>Y3=E I (place a b c d e s)/\v=E I (place a b c d e t)/\El w wx)
 case first=>
  go_region_with (go_at_call 245;refine(C.out _ _).mono ?_;rintro e' w1 ⟨rfl,b1⟩;(first|(have cc:=PT b1;have b2:=J b1;clear b1)|(have cc:=PT (PY b1);have b2:=J (PY b1);clear b1)|skip))
  all_goals
   go_wp2
   go_meet
   refine⟨O,O,?_⟩
  all_goals exact zr (PW b2.out) b1 (E3 _)
 case rest=>
  obtain⟨rfl,rfl,hb⟩:=hcut;have HB:=J hb;clear hb;go_wp2_with fail
  all_goals
   go_ret
   refine⟨zo ?_,HB.out⟩
   first|rfl|simp_all
section
open Go.ChangeShapes Go.WideShapes
def Xs(w:M):Prop:= ∀i:Nat,i<12->w.cell? ⟨1,i,Z⟩=D (Ec (i==10||i==11))
theorem Xs.B(h:Xs w)(hb:El w w'):Xs w':=fun i hi=>by rw[hb.cell (Xv _ _ (h i hi))];exact h i hi
def Vc(g:Nat->Y)(holder OJ source role mode kind JH Om On:Int):Int:=
 if¬(kind=10\/kind=11) then 1 else if¬source=holder then 20 else if¬JH=OJ then 21
 else if may g mode role (if kind=10 then 0 else On)=EI then 22 else if kind=10/\iD g mode Om=EI then 23 else 0
theorem EcR(g:Nat->Y)(holder OJ source role mode kind JH Om On:Int)(t2 t3 t4 t5 t6 t7 m1 m2 m3 m7 m8 m9 m10 m11:Y)(w:M)(hg: ∀i,9<=i->i<56->Z1 (g i))(hc:Xs w)(hk: ¬(kind=10\/kind=11)): Eg EZ 138 #[Ea (EL 56 g),Ea #[E I holder,E I OJ,t2,t3,t4,t5,t6,t7],E I source,E I role,E I mode,Ea #[E I kind,m1,m2,m3,E I JH,E I Om,E I On,m7,m8,m9,m10,m11]] w fun e w'=>e=Ei (E I 1)/\El w w':=by
 have Y4:=J<|bO w;by_cases h0:kind<0;·exact EqF
 ·by_cases h1:12<=kind;·clear hc hg;go_enter ly,lA;go_wp2;go_ret;exact⟨O,Y4.out _ _ _⟩
  ·obtain⟨k,rfl⟩:=fm (show 0<=kind from U);have hcell:=hc k U;rw[show(k==10||k==11)=EI from I8] at hcell;have hlt:1<w.heap.size:=Xv _ _ hcell;have hz0:0<w.heap.size:=U;have hlt2:k<12:=U;exact EqF
theorem EcS(g:Nat->Y)(holder OJ source role mode kind JH Om On:Int)(t2 t3 t4 t5 t6 t7 m1 m2 m3 m7 m8 m9 m10 m11:Y)(w:M)(hg: ∀i,9<=i->i<56->Z1 (g i))(hc:Xs w)(hk:kind=10\/kind=11)(hs: ¬source=holder): Eg EZ 138 #[Ea (EL 56 g),Ea #[E I holder,E I OJ,t2,t3,t4,t5,t6,t7],E I source,E I role,E I mode,Ea #[E I kind,m1,m2,m3,E I JH,E I Om,E I On,m7,m8,m9,m10,m11]] w fun e w'=>e=Ei (E I 20)/\El w w':=by
 have Y4:=J<|bO w;have HG:=J hg;have hcell:=hc 10 U;have hcell2:=hc 11 U;rw[show((10:Nat)==10||(10:Nat)==11)=EJ from rfl] at hcell;rw[show((11:Nat)==10||(11:Nat)==11)=EJ from rfl] at hcell2;have hlt:1<w.heap.size:=Xv _ _ hcell;have hz0:0<w.heap.size:=U;clear hc hg;have hs':(source !=holder)=EJ:=pX;clear hs;rcases hk with rfl|rfl
 all_goals
  go_enter ly,lA
  go_wp2
  go_ret
  exact⟨O,Y4.out _ _ _⟩
theorem EcT(g:Nat->Y)(holder OJ source role mode kind JH Om On:Int)(t2 t3 t4 t5 t6 t7 m1 m2 m3 m7 m8 m9 m10 m11:Y)(w:M)(hg: ∀i,9<=i->i<56->Z1 (g i))(hc:Xs w)(hk:kind=10\/kind=11)(hs:source=holder)(he: ¬JH=OJ): Eg EZ 138 #[Ea (EL 56 g),Ea #[E I holder,E I OJ,t2,t3,t4,t5,t6,t7],E I source,E I role,E I mode,Ea #[E I kind,m1,m2,m3,E I JH,E I Om,E I On,m7,m8,m9,m10,m11]] w fun e w'=>e=Ei (E I 21)/\El w w':=by
 have Y4:=J<|bO w;have HG:=J hg;have hcell:=hc 10 U;have hcell2:=hc 11 U;rw[show((10:Nat)==10||(10:Nat)==11)=EJ from rfl] at hcell;rw[show((11:Nat)==10||(11:Nat)==11)=EJ from rfl] at hcell2;have hlt:1<w.heap.size:=Xv _ _ hcell;have hz0:0<w.heap.size:=U;clear hc hg;have hs':(JH !=OJ)=EJ:=by simpa using he
 clear he;subst hs;rcases hk with rfl|rfl
 all_goals
  go_enter ly,lA
  go_wp2
  go_ret
  exact⟨O,Y4.out _ _ _⟩
theorem Ll{a b c:Obj}(h:Ij (((w.alloc a).alloc b).alloc c).heap.size (((w.alloc a).alloc b).alloc c) w'): w'.heap[w.heap.size]?=D a/\w'.heap[w.heap.size+1]?=D b/\w'.heap[w.heap.size+2]?=D c/\El w w':=by
 refine⟨Xk ?_ h,Xk ?_ h,Xk ?_ h,bt (bO w a b c) h⟩;·exact Xk (heap_alloc2_old w a b) (Er _ _)
 ·exact Xk (heap_alloc2_new w a b) (Er _ _)
 ·have:=gI ((w.alloc a).alloc b) c;exact EpY
theorem EcV(g:Nat->Y)(holder OJ source role mode kind JH Om On:Int)(t2 t3 t4 t5 t6 t7 m1 m2 m3 m7 m8 m9 m10 m11:Y)(w:M)(hg: ∀i,9<=i->i<56->Z1 (g i))(hc:Xs w)(hk:kind=10)(hs:source=holder)(he:JH=OJ)(hm:may g mode role 0=EI): Eg EZ 138 #[Ea (EL 56 g),Ea #[E I holder,E I OJ,t2,t3,t4,t5,t6,t7],E I source,E I role,E I mode,Ea #[E I kind,m1,m2,m3,E I JH,E I Om,E I On,m7,m8,m9,m10,m11]] w fun e w'=>e=Ei (E I 22)/\El w w':=by
 have Y4:=J<|bO w;have HG:=J hg;have hcell:=hc 10 U;have hcell2:=hc 11 U;rw[show((10:Nat)==10||(10:Nat)==11)=EJ from rfl] at hcell;rw[show((11:Nat)==10||(11:Nat)==11)=EJ from rfl] at hcell2;have hlt:1<w.heap.size:=Xv _ _ hcell;have hz0:0<w.heap.size:=U;clear hc hg;have HM:=J hm;clear hm;subst hs he hk;have Q0:=J<|show(((w.alloc (Eb (EL 56 g) 28)).alloc (Eb #[E I source,E I JH,t2,t3,t4,t5,t6,t7] 109)).alloc (Eb #[E I 10,m1,m2,m3,E I JH,E I Om,E I On,m7,m8,m9,m10,m11] 183)).heap[w.heap.size]?=D (Eb (EL 56 g) 28 (0,0)) from Xk (heap_alloc2_old w _ _) (Er _ _);go_enter ly,lA
 go_wp2_with (first
  |((with_reducible refine iX 28 ?_);refine pB rfl _ rfl w.heap.size g Q0 rfl ?_)
  |fail)
 refine(vT _ _ _ _ _ HG.out).mono ?_;exact Ep5
theorem EcW(g:Nat->Y)(holder OJ source role mode kind JH Om On:Int)(t2 t3 t4 t5 t6 t7 m1 m2 m3 m7 m8 m9 m10 m11:Y)(w:M)(hg: ∀i,9<=i->i<56->Z1 (g i))(hc:Xs w)(hk:kind=11)(hs:source=holder)(he:JH=OJ)(hm:may g mode role On=EI): Eg EZ 138 #[Ea (EL 56 g),Ea #[E I holder,E I OJ,t2,t3,t4,t5,t6,t7],E I source,E I role,E I mode,Ea #[E I kind,m1,m2,m3,E I JH,E I Om,E I On,m7,m8,m9,m10,m11]] w fun e w'=>e=Ei (E I 22)/\El w w':=by
 have Y4:=J<|bO w;have HG:=J hg;have hcell:=hc 10 U;have hcell2:=hc 11 U;rw[show((10:Nat)==10||(10:Nat)==11)=EJ from rfl] at hcell;rw[show((11:Nat)==10||(11:Nat)==11)=EJ from rfl] at hcell2;have hlt:1<w.heap.size:=Xv _ _ hcell;have hz0:0<w.heap.size:=U;clear hc hg;have HM:=J hm;clear hm;subst hs he hk;have Q0:=J<|show(((w.alloc (Eb (EL 56 g) 28)).alloc (Eb #[E I source,E I JH,t2,t3,t4,t5,t6,t7] 109)).alloc (Eb #[E I 11,m1,m2,m3,E I JH,E I Om,E I On,m7,m8,m9,m10,m11] 183)).heap[w.heap.size]?=D (Eb (EL 56 g) 28 (0,0)) from Xk (heap_alloc2_old w _ _) (Er _ _);go_enter ly,lA
 go_wp2_with (first
  |((with_reducible refine iX 28 ?_);refine pB rfl _ rfl w.heap.size g Q0 rfl ?_)
  |fail)
 refine(vT _ _ _ _ _ HG.out).mono ?_;exact Ep5
theorem EcY(g:Nat->Y)(holder OJ source role mode kind JH Om On:Int)(t2 t3 t4 t5 t6 t7 m1 m2 m3 m7 m8 m9 m10 m11:Y)(w:M)(hg: ∀i,9<=i->i<56->Z1 (g i))(hc:Xs w)(hk:kind=11)(hs:source=holder)(he:JH=OJ)(hm:may g mode role On=EJ): Eg EZ 138 #[Ea (EL 56 g),Ea #[E I holder,E I OJ,t2,t3,t4,t5,t6,t7],E I source,E I role,E I mode,Ea #[E I kind,m1,m2,m3,E I JH,E I Om,E I On,m7,m8,m9,m10,m11]] w fun e w'=>e=Ei (E I 0)/\El w w':=by
 have Y4:=J<|bO w;have HG:=J hg;have hcell:=hc 10 U;have hcell2:=hc 11 U;rw[show((10:Nat)==10||(10:Nat)==11)=EJ from rfl] at hcell;rw[show((11:Nat)==10||(11:Nat)==11)=EJ from rfl] at hcell2;have hlt:1<w.heap.size:=Xv _ _ hcell;have hz0:0<w.heap.size:=U;clear hc hg;have HM:=J hm;clear hm;subst hs he hk;have Q0:=J<|show(((w.alloc (Eb (EL 56 g) 28)).alloc (Eb #[E I source,E I JH,t2,t3,t4,t5,t6,t7] 109)).alloc (Eb #[E I 11,m1,m2,m3,E I JH,E I Om,E I On,m7,m8,m9,m10,m11] 183)).heap[w.heap.size]?=D (Eb (EL 56 g) 28 (0,0)) from Xk (heap_alloc2_old w _ _) (Er _ _);go_enter ly,lA
 go_wp2_with (first
  |((with_reducible refine iX 28 ?_);refine pB rfl _ rfl w.heap.size g Q0 rfl ?_)
  |fail)
 refine(vT _ _ _ _ _ HG.out).mono ?_;rintro e w1 ⟨rfl,b1⟩;rw[HM.out];clear Q0;obtain⟨q0,q1,q2,b2⟩:=Ll b1;obtain⟨c2,-⟩:=Jf q2;have u:=J b2;clear q0 q1 q2 b1 b2;go_wp2;go_ret;exact Eqt
theorem Ec0(g:Nat->Y)(holder OJ source role mode kind JH Om On:Int)(t2 t3 t4 t5 t6 t7 m1 m2 m3 m7 m8 m9 m10 m11:Y)(w:M)(hg: ∀i,9<=i->i<56->Z1 (g i))(hc:Xs w)(hk:kind=10)(hs:source=holder)(he:JH=OJ)(hm:may g mode role 0=EJ)(hn:iD g mode Om=EI): Eg EZ 138 #[Ea (EL 56 g),Ea #[E I holder,E I OJ,t2,t3,t4,t5,t6,t7],E I source,E I role,E I mode,Ea #[E I kind,m1,m2,m3,E I JH,E I Om,E I On,m7,m8,m9,m10,m11]] w fun e w'=>e=Ei (E I 23)/\El w w':=by
 have Y4:=J<|bO w;have HG:=J hg;have hcell:=hc 10 U;have hcell2:=hc 11 U;rw[show((10:Nat)==10||(10:Nat)==11)=EJ from rfl] at hcell;rw[show((11:Nat)==10||(11:Nat)==11)=EJ from rfl] at hcell2;have hlt:1<w.heap.size:=Xv _ _ hcell;have hz0:0<w.heap.size:=U;clear hc hg;have HM:=J hm;have HN:=J hn;clear hm hn;subst hs he hk;have Q0:=J<|show(((w.alloc (Eb (EL 56 g) 28)).alloc (Eb #[E I source,E I JH,t2,t3,t4,t5,t6,t7] 109)).alloc (Eb #[E I 10,m1,m2,m3,E I JH,E I Om,E I On,m7,m8,m9,m10,m11] 183)).heap[w.heap.size]?=D (Eb (EL 56 g) 28 (0,0)) from Xk (heap_alloc2_old w _ _) (Er _ _);go_enter ly,lA
 go_wp2_with (first
  |((with_reducible refine iX 28 ?_);refine pB rfl _ rfl w.heap.size g Q0 rfl ?_)
  |fail)
 refine(vT _ _ _ _ _ HG.out).mono ?_;rintro e w1 ⟨rfl,b1⟩;rw[HM.out];clear Q0;obtain⟨q0,q1,q2,b2⟩:=Ll b1;obtain⟨c2,-⟩:=Jf q2;have u:=J b2;have Q0:=J q0;clear q0 q1 q2 b1 b2
 go_wp2_with (first
  |((with_reducible refine iX 28 ?_);refine pB rfl _ rfl w.heap.size g Q0 rfl ?_)
  |(go_at_call 183;refine(VZ _ _ _ _ HG.out).mono ?_;rintro e w2 ⟨rfl,b2⟩;have u:=EV u b2;clear b2;rw[HN.out]))
 go_ret;exact Eqt
theorem Ec1(g:Nat->Y)(holder OJ source role mode kind JH Om On:Int)(t2 t3 t4 t5 t6 t7 m1 m2 m3 m7 m8 m9 m10 m11:Y)(w:M)(hg: ∀i,9<=i->i<56->Z1 (g i))(hc:Xs w)(hk:kind=10)(hs:source=holder)(he:JH=OJ)(hm:may g mode role 0=EJ)(hn:iD g mode Om=EJ): Eg EZ 138 #[Ea (EL 56 g),Ea #[E I holder,E I OJ,t2,t3,t4,t5,t6,t7],E I source,E I role,E I mode,Ea #[E I kind,m1,m2,m3,E I JH,E I Om,E I On,m7,m8,m9,m10,m11]] w fun e w'=>e=Ei (E I 0)/\El w w':=by
 have Y4:=J<|bO w;have HG:=J hg;have hcell:=hc 10 U;have hcell2:=hc 11 U;rw[show((10:Nat)==10||(10:Nat)==11)=EJ from rfl] at hcell;rw[show((11:Nat)==10||(11:Nat)==11)=EJ from rfl] at hcell2;have hlt:1<w.heap.size:=Xv _ _ hcell;have hz0:0<w.heap.size:=U;clear hc hg;have HM:=J hm;have HN:=J hn;clear hm hn;subst hs he hk;have Q0:=J<|show(((w.alloc (Eb (EL 56 g) 28)).alloc (Eb #[E I source,E I JH,t2,t3,t4,t5,t6,t7] 109)).alloc (Eb #[E I 10,m1,m2,m3,E I JH,E I Om,E I On,m7,m8,m9,m10,m11] 183)).heap[w.heap.size]?=D (Eb (EL 56 g) 28 (0,0)) from Xk (heap_alloc2_old w _ _) (Er _ _);go_enter ly,lA
 go_wp2_with (first
  |((with_reducible refine iX 28 ?_);refine pB rfl _ rfl w.heap.size g Q0 rfl ?_)
  |fail)
 refine(vT _ _ _ _ _ HG.out).mono ?_;rintro e w1 ⟨rfl,b1⟩;rw[HM.out];clear Q0;obtain⟨q0,q1,q2,b2⟩:=Ll b1;obtain⟨c2,-⟩:=Jf q2;have u:=J b2;have Q0:=J q0;clear q0 q1 q2 b1 b2
 go_wp2_with (first
  |((with_reducible refine iX 28 ?_);refine pB rfl _ rfl w.heap.size g Q0 rfl ?_)
  |(go_at_call 183;refine(VZ _ _ _ _ HG.out).mono ?_;rintro e w2 ⟨rfl,b2⟩;have u:=EV u b2;clear b2;rw[HN.out]))
 go_ret;exact Eqt
theorem Vd(g:Nat->Y)(holder OJ source role mode kind JH Om On:Int)(t2 t3 t4 t5 t6 t7 m1 m2 m3 m7 m8 m9 m10 m11:Y)(w:M)(hg: ∀i,9<=i->i<56->Z1 (g i))(hc:Xs w): Eg EZ 138 #[Ea (EL 56 g),Ea #[E I holder,E I OJ,t2,t3,t4,t5,t6,t7],E I source,E I role,E I mode,Ea #[E I kind,m1,m2,m3,E I JH,E I Om,E I On,m7,m8,m9,m10,m11]] w fun e w'=>e=Ei (E I (Vc g holder OJ source role mode kind JH Om On))/\El w w':=by
 unfold Vc;by_cases hk:kind=10\/kind=11
 ·rw[if_neg (fun h=>h hk)];by_cases hs:source=holder
  ·rw[if_neg (fun h=>h hs)];by_cases he:JH=OJ
   ·rw[if_neg (fun h=>h he)];rcases hk with hk|hk
    ·rw[if_pos hk];cases hm:may g mode role 0;·rw[if_pos O];exact EcV g holder OJ source role mode kind JH Om On t2 t3 t4 t5 t6 t7 m1 m2 m3 m7 m8 m9 m10 m11 w hg hc hk hs he hm
     ·rw[if_neg Ej];cases hn:iD g mode Om;·rw[if_pos ⟨hk,O⟩];exact Ec0 g holder OJ source role mode kind JH Om On t2 t3 t4 t5 t6 t7 m1 m2 m3 m7 m8 m9 m10 m11 w hg hc hk hs he hm hn
      ·rw[if_neg Ej];exact Ec1 g holder OJ source role mode kind JH Om On t2 t3 t4 t5 t6 t7 m1 m2 m3 m7 m8 m9 m10 m11 w hg hc hk hs he hm hn
    ·rw[if_neg (show¬kind=10 from U)];cases hm:may g mode role On;·rw[if_pos O];exact EcW g holder OJ source role mode kind JH Om On t2 t3 t4 t5 t6 t7 m1 m2 m3 m7 m8 m9 m10 m11 w hg hc hk hs he hm
     ·rw[if_neg Ej,if_neg U];exact EcY g holder OJ source role mode kind JH Om On t2 t3 t4 t5 t6 t7 m1 m2 m3 m7 m8 m9 m10 m11 w hg hc hk hs he hm
   ·rw[if_pos he];exact EcT g holder OJ source role mode kind JH Om On t2 t3 t4 t5 t6 t7 m1 m2 m3 m7 m8 m9 m10 m11 w hg hc hk hs he
  ·rw[if_pos hs];exact EcS g holder OJ source role mode kind JH Om On t2 t3 t4 t5 t6 t7 m1 m2 m3 m7 m8 m9 m10 m11 w hg hc hk hs
 ·rw[if_pos hk];exact EcR g holder OJ source role mode kind JH Om On t2 t3 t4 t5 t6 t7 m1 m2 m3 m7 m8 m9 m10 m11 w hg hc hk
end
def aF(n:Int):Prop:= -9223372036854775808<=n/\n<=9223372036854775807
theorem Cu{n a r:Int}(hn:aF n)(ha:aF a)(hr:aF r):aF (Jy n a r):=by
 unfold aF Jy at*;repeat' split
 all_goals omega
theorem Cv:IL EZ 50 12:=⟨⟨_,Tryz.underlying50,O⟩,Ef⟩
theorem Ec2(f:Nat->Y)(c a0 a1 a2 a3 n0 n1 n2 n3 ru so se r:Int)(w:M)(hr:f 54=E I r)(ir:aF r)(Lm:aF a0)(Lo:aF a1)(Lp:aF a2)(Lq:aF a3)(Lr:aF n0)(Ls:aF n1)(Lt:aF n2)(Lu:aF n3)(b:Bool)(hm:decide ((Jy n0 a0 r)=n0/\(Jy n1 a1 r)=n1/\(Jy n2 a2 r)=n2/\(Jy n3 a3 r)=n3)=b): Eg EZ 107 #[Ea (EL 56 f),Ea #[E I c,E I a0,E I a1,E I a2,E I a3,E I n0,E I n1,E I n2,E I n3,E I ru,E I so,E I se]] w fun e w'=>e=Ei (Ea #[E I c,E I a0,E I a1,E I a2,E I a3,E I (Jy n0 a0 r),E I (Jy n1 a1 r),E I (Jy n2 a2 r),E I (Jy n3 a3 r),E I (if b then ru else 4),E I so,E I se])/\El w w':=by
 have j0: ∀w,(Un 25 (Ea #[E I a0,E I a1,E I a2,E I a3]) (E I 0)).run EZ w= .ok (E I a0) w:=fun _=>Ef;have j1: ∀w,(Un 25 (Ea #[E I a0,E I a1,E I a2,E I a3]) (E I 1)).run EZ w= .ok (E I a1) w:=fun _=>Ef;have j2: ∀w,(Un 25 (Ea #[E I a0,E I a1,E I a2,E I a3]) (E I 2)).run EZ w= .ok (E I a2) w:=fun _=>Ef;have j3: ∀w,(Un 25 (Ea #[E I a0,E I a1,E I a2,E I a3]) (E I 3)).run EZ w= .ok (E I a3) w:=fun _=>Ef;have C0:=J (zp n0 a0 r · Lr.1 Lr.2 Lm.1 Lm.2 ir.1 ir.2);have C1:=J (zp n1 a1 r · Ls.1 Ls.2 Lo.1 Lo.2 ir.1 ir.2);have C2:=J (zp n2 a2 r · Lt.1 Lt.2 Lp.1 Lp.2 ir.1 ir.2);have C3:=J (zp n3 a3 r · Lu.1 Lu.2 Lq.1 Lq.2 ir.1 ir.2);have HM:=J hm;have hneq:=Eaq (Jy n0 a0 r) (Jy n1 a1 r) (Jy n2 a2 r) (Jy n3 a3 r) n0 n1 n2 n3;rw[hm] at hneq;clear hm;have hl:(54:Nat)<56:=U;clear ir Lm Lo Lp Lq Lr Ls Lt Lu;go_enter Tryz.func107,Tryz.ntmps107;go_wp2_with fail;go_loopw[12] (fun y wr=> ∃k:Int,y=E I k/\0<=k/\k<=4/\wr.heap[w.heap.size]?=D (Eb (EL 56 f) 28 (0,0))/\wr.heap[w.heap.size+1]?=D (Eb (if k=0 then#[E I c,E I a0,E I a1,E I a2,E I a3,E I n0,E I n1,E I n2,E I n3,E I ru,E I so,E I se] else if k=1 then#[E I c,E I a0,E I a1,E I a2,E I a3,E I (Jy n0 a0 r),E I n1,E I n2,E I n3,E I ru,E I so,E I se] else if k=2 then#[E I c,E I a0,E I a1,E I a2,E I a3,E I (Jy n0 a0 r),E I (Jy n1 a1 r),E I n2,E I n3,E I ru,E I so,E I se] else if k=3 then#[E I c,E I a0,E I a1,E I a2,E I a3,E I (Jy n0 a0 r),E I (Jy n1 a1 r),E I (Jy n2 a2 r),E I n3,E I ru,E I so,E I se] else#[E I c,E I a0,E I a1,E I a2,E I a3,E I (Jy n0 a0 r),E I (Jy n1 a1 r),E I (Jy n2 a2 r),E I (Jy n3 a3 r),E I ru,E I so,E I se]) 50 (0,0))/\wr.heap[w.heap.size+1+1]?=D (Eb #[E I 0,E I 0,E I 0,E I 0,E I 0,E I 0,E I 0,E I 0,E I 0,E I 0,E I 0,E I 0] 50 (0,0))/\wr.heap[w.heap.size+1+1+1]?=D (Eb #[E I n0,E I n1,E I n2,E I n3] 25 (0,0))/\El w wr) (fun y _=>4-(In y).toNat)
 case atStart=>
  refine⟨0,O,U,U,?_,?_,?_,?_,?_⟩;·exact Xk (Xk (heap_alloc2_old w _ _) (Er _ _)) (Er _ _)
  ·exact Xk (Xk (heap_alloc2_new w _ _) (Er _ _)) (Er _ _)
  ·exact Xk (by have:=gI ((w.alloc (Eb (EL 56 f) 28)).alloc (Eb #[E I c,E I a0,E I a1,E I a2,E I a3,E I n0,E I n1,E I n2,E I n3,E I ru,E I so,E I se] 50)) (Eb #[E I 0,E I 0,E I 0,E I 0,E I 0,E I 0,E I 0,E I 0,E I 0,E I 0,E I 0,E I 0] 50);simpa using this) (Er _ _)
  ·have:=gI (((w.alloc (Eb (EL 56 f) 28)).alloc (Eb #[E I c,E I a0,E I a1,E I a2,E I a3,E I n0,E I n1,E I n2,E I n3,E I ru,E I so,E I se] 50)).alloc (Eb #[E I 0,E I 0,E I 0,E I 0,E I 0,E I 0,E I 0,E I 0,E I 0,E I 0,E I 0,E I 0] 50)) (Eb #[E I n0,E I n1,E I n2,E I n3] 25);exact EpY
  ·exact bt (bO w _ _ _) (Er _ _)
 case round=>
  obtain⟨k,rfl,k0,k4,hp,hq,hz,hn,hb⟩:=hrel;have HP:=J hp;have HN:=J hn;have HB:=J hb;have HZ:=J hz;obtain⟨cP,-⟩:=Jf hp;obtain⟨cN,-⟩:=Jf hn;clear hp hn hb hz;rcases(show k=0\/k=1\/k=2\/k=3\/k=4 from U) with rfl|rfl|rfl|rfl|rfl
  ·simp only[if_true,reduceIte] at hq;obtain⟨cQ,fQ⟩:=Jf hq;have HQ:=J hq;clear hq hneq;go_wp2_with fail;go_region_with (go_at_call 152;(with_reducible refine(C0.out _).mono ?_);rintro e w1 ⟨rfl,rfl⟩);go_wp2_with fail
   all_goals
    refine⟨⟨1,O,U,U,?_,?_,?_,?_,?_⟩,Zs⟩
    ·exact EoM
    ·show(wr.setCell _ _).heap[_]?=_;rw[mV HQ.out 5 _];rfl
    ·exact EoL
    ·exact EoN
    ·exact(HB.out.setCell (p:=⟨w.heap.size+1,5,Z⟩) UT _).drew
  ·simp only[show¬((1:Int)=0) from U,if_false,if_true,reduceIte] at hq;obtain⟨cQ,fQ⟩:=Jf hq;have HQ:=J hq;clear hq hneq;go_wp2_with fail;go_region_with (go_at_call 152;(with_reducible refine(C1.out _).mono ?_);rintro e w1 ⟨rfl,rfl⟩);go_wp2_with fail
   all_goals
    refine⟨⟨2,O,U,U,?_,?_,?_,?_,?_⟩,Zs⟩
    ·exact EoM
    ·show(wr.setCell _ _).heap[_]?=_;rw[mV HQ.out 6 _];rfl
    ·exact EoL
    ·exact EoN
    ·exact(HB.out.setCell (p:=⟨w.heap.size+1,6,Z⟩) UT _).drew
  ·simp only[show¬((2:Int)=0) from U,show¬((2:Int)=1) from U,if_false,if_true,reduceIte] at hq;obtain⟨cQ,fQ⟩:=Jf hq;have HQ:=J hq;clear hq hneq;go_wp2_with fail;go_region_with (go_at_call 152;(with_reducible refine(C2.out _).mono ?_);rintro e w1 ⟨rfl,rfl⟩);go_wp2_with fail
   all_goals
    refine⟨⟨3,O,U,U,?_,?_,?_,?_,?_⟩,Zs⟩
    ·exact EoM
    ·show(wr.setCell _ _).heap[_]?=_;rw[mV HQ.out 7 _];rfl
    ·exact EoL
    ·exact EoN
    ·exact(HB.out.setCell (p:=⟨w.heap.size+1,7,Z⟩) UT _).drew
  ·simp only[show¬((3:Int)=0) from U,show¬((3:Int)=1) from U,show¬((3:Int)=2) from U,if_false,if_true,reduceIte] at hq;obtain⟨cQ,fQ⟩:=Jf hq;have HQ:=J hq;clear hq hneq;go_wp2_with fail;go_region_with (go_at_call 152;(with_reducible refine(C3.out _).mono ?_);rintro e w1 ⟨rfl,rfl⟩);go_wp2_with fail
   all_goals
    refine⟨⟨4,O,U,U,?_,?_,?_,?_,?_⟩,Zs⟩
    ·exact EoM
    ·show(wr.setCell _ _).heap[_]?=_;rw[mV HQ.out 8 _];rfl
    ·exact EoL
    ·exact EoN
    ·exact(HB.out.setCell (p:=⟨w.heap.size+1,8,Z⟩) UT _).drew
  ·simp only[show¬((4:Int)=0) from U,show¬((4:Int)=1) from U,show¬((4:Int)=2) from U,show¬((4:Int)=3) from U,if_false,if_true,reduceIte] at hq;obtain⟨cQ,fQ⟩:=Jf hq;have HQ:=J hq;clear hq j0 j1 j2 j3 C0 C1 C2 C3;cases b;·have hz':(wr.setCell ⟨w.heap.size+1,9,Z⟩ (E I 4)).heap[w.heap.size+1+1]?=_:=(XK _ _ _ _ UT).trans HZ.out;have HZ:=J hz';have HB:=J<|HB.out.setCell (p:=⟨w.heap.size+1,9,Z⟩) UT (E I 4);clear hz';go_wp2_with ((with_reducible show Ib _ _ _ (⟨Z,.store 50 (.tmp 4) _,_,_,_,_⟩::_) _ _);(with_reducible refine Gi (cs:= #[E I c,E I a0,E I a1,E I a2,E I a3,E I (Jy n0 a0 r),E I (Jy n1 a1 r),E I (Jy n2 a2 r),E I (Jy n3 a3 r),E I 4,E I so,E I se]) Cv ?_ ?_ HZ ?_ ?_ ?_ ?_);(·exact Eh O);(·exact⟨O,O,O⟩);(·rfl);(·rfl);(·(simp[Oc];done)));refine ET (v:=Ea #[E I c,E I a0,E I a1,E I a2,E I a3,E I (Jy n0 a0 r),E I (Jy n1 a1 r),E I (Jy n2 a2 r),E I (Jy n3 a3 r),E I 4,E I so,E I se]) ?_ O ⟨O,EY HB.out U _⟩;exact Gj Cv O _ _ (w.heap.size+1+1) _ O (setRow_heap _ _ _ _ _ _ HZ.out) O
   ·go_wp2_with ((with_reducible show Ib _ _ _ (⟨Z,.store 50 (.tmp 4) _,_,_,_,_⟩::_) _ _);(with_reducible refine Gi (cs:= #[E I c,E I a0,E I a1,E I a2,E I a3,E I (Jy n0 a0 r),E I (Jy n1 a1 r),E I (Jy n2 a2 r),E I (Jy n3 a3 r),E I ru,E I so,E I se]) Cv ?_ ?_ HZ ?_ ?_ ?_ ?_);(·exact Eh O);(·exact⟨O,O,O⟩);(·rfl);(·rfl);(·(simp[Oc];done)));refine ET (v:=Ea #[E I c,E I a0,E I a1,E I a2,E I a3,E I (Jy n0 a0 r),E I (Jy n1 a1 r),E I (Jy n2 a2 r),E I (Jy n3 a3 r),E I ru,E I so,E I se]) ?_ O ⟨O,EY HB.out U _⟩;exact Gj Cv O _ _ (w.heap.size+1+1) _ O (setRow_heap _ _ _ _ _ _ HZ.out) O
section
open Go.ChangeShapes Go.WideShapes
theorem Vf(h:Own w base A cap xs)(hp:0<xs.length): ∃g cur,A=D ⟨g,0,Z⟩/\base<=g/\H w g cur 5/\cur.toList.take xs.length=xs.map (E .u8)/\xs.length<=cap:=by
 rcases h.1.2 with⟨hv,hn⟩|⟨g,cap',cur,hv,hg,hh,hl,hm,hs,ht⟩;·omega
 ·injection hv with h1 h2 h3;rw[Nat.mul_one] at ht;exact⟨g,cur,h1,hg,hh,ht,U⟩
theorem Ec3{cur:Array Y}{T:EB}{P:List Int}(hk:H w g cur T)(ht:cur.toList.take P.length=P.map (E .u8))(hb: ∀x∈P,0<=x/\x<=255)(off n:Nat): Row w (D ⟨g,off,Z⟩) ((P.drop off).take n):=by refine⟨.inr ⟨g,off,O,fun i hi=> ?_⟩,fun x hx=>hb x (List.mem_of_mem_drop (iI hx))⟩;have hi2:off+i<P.length:=sE;rw[hk.cell (off+i),<-Array.getElem?_toList,<-cE hi2,ht];simp[hi2]
theorem Ec4{Y9:Type}{enc:EB×Y->Y9}{fuel:Nat}{a:Option Ep}{l c:Nat}{x:DataW Y9×List MemPlace}(hf:ZN enc EZ w 0 (fun _=>EJ) EJ fuel 23 [G a l c]=D x):PH .u8 w (G a l c):=by
 rcases open_ints aJ Tryz.underlying5 Ef hf with⟨hcs,_⟩|⟨x,l',c',zs,hcs,_,hl,hm,hz,hx,hcell,hwz⟩;·simp at hcs;obtain⟨rfl,rfl,rfl⟩:=hcs;exact .inl O
 ·simp at hcs;obtain⟨rfl,rfl,rfl⟩:=hcs;have hzc:zs.length=c:=by simpa using hz
  refine .inr ⟨x,l,c,zs,O,fun h0=> ?_,hl,by unfold maxLen at hm;omega,hzc,hcell,hwz⟩;have h1:=hcell 0 U;have e0:x.add 0=x:=by simp[Addr.add]
  rw[e0] at h1;refine⟨?_,World.cell?_spot h1⟩;rcases JW x.block w.heap.size with h2|h2;·exact h2
  ·rw[jC,iJ h2] at h1;simp at h1
end
def Lv:List EB:=[58,264]
def iF(lo hi k:Nat)(T:EB):Bool:=(decide (lo<=k)&&kF.contains T)||(decide (hi<=k)&&Lv.contains T)
structure EA(lo hi:Nat)(w w':M):Prop where
 os:w'.os=w.os
 tape:w'.tape=w.tape
 output:w'.output=w.output
 size:w.heap.size<=w'.heap.size
 low: ∀k,k<hi->k<w.heap.size->(∀c T p,w.heap[k]?=D (Eb c T p)->iF lo hi k T=EI)->w'.heap[k]?=w.heap[k]?
 high: ∀k c T,H w k c T->iF lo hi k T=EI->H w' k c T
 stay: ∀k c T,H w k c T-> ∃c',H w' k c' T
 Cw: ∀k c T p,k<hi->w.heap[k]?=D (Eb c T p)-> ∃c' p',w'.heap[k]?=D (Eb c' T p')
theorem EA.refl(lo hi:Nat)(w:M):EA lo hi w w:=⟨O,O,O,E3 _,fun _ _ _ _=>rfl,fun _ _ _ h _=>h,fun _ c _ h=>⟨c,h⟩,fun _ c _ p _ h=>⟨c,p,h⟩⟩
theorem EA.trans{a b c:M}(h:EA lo hi a b)(k:EA lo hi b c):EA lo hi a c:=by
 refine⟨k.os.trans h.os,k.tape.trans h.tape,k.output.trans h.output,Ew h.size k.size,fun i hi' hl hm=> ?_,fun i d T hb hm=>k.high i d T (h.high i d T hb hm) hm,fun i d T hb=> ?_,fun i d T p hi' hb=> ?_⟩;·have e:=h.low i hi' hl hm;refine(k.low i hi' (gX hl h.size) fun d T p hb=>hm d T p ?_).trans e;rw[<-e];exact hb
 ·obtain⟨d',hd⟩:=h.stay i d T hb;exact k.stay i d' T hd
 ·obtain⟨d',p',hd⟩:=h.Cw i d T p hi' hb;exact k.Cw i d' T p' hi' hd
theorem EA.ED(h:El w w'):EA lo hi w w':=
 ⟨h.os,h.tape,h.output,h.size,fun k _ hl _=>h.block k hl,fun _ _ _ hb _=>hb.B h,fun _ c _ hb=>⟨c,hb.B h⟩,fun _ c _ p _ hb=>⟨c,p,Xk hb h⟩⟩
theorem EA.Ek(h:EA lo hi w w')(K:H w g cs S)(hS:kF.contains S=EI)(hR:Lv.contains S=EI):H w' g cs S:=
 h.high g cs S K (by unfold iF;rw[hS,hR];simp)
theorem EA.old(h:EA lo hi w w')(K:H w g cs S)(hS:kF.contains S=EI)(hg:g<hi):H w' g cs S:=
 h.high g cs S K (by unfold iF;rw[hS,IZ (show¬hi<=g from U)];simp)
theorem EA.vV{cs':Array Y}(h:E7 g w w')(K:H w g cs S)(K':H w' g cs' S)(hS:kF.contains S=EJ)(hl:lo<=g):EA lo hi w w':=by
 have hb:=h.bel 0 (aO _) (aO _);refine⟨hb.os,hb.tape,hb.output,h.size,fun k _ hk hm=> ?_,fun k c T hk hm=> ?_,fun k c T hk=> ?_,fun k c T p _ hk=> ?_⟩;·refine h.keep k (fun e=> ?_) hk;subst e;have:=hm cs S (0,0) K;unfold iF at this;rw[hS,IJ hl] at this;simp at this
 ·refine h.Ek hk (fun e=> ?_);subst e;have e2:=(show D (Eb c T (0,0))=D (Eb cs S (0,0)) from hk.symm.trans K);injection e2 with e2;injection e2 with e3 e4;subst e4;unfold iF at hm;rw[hS,IJ hl] at hm;simp at hm
 ·by_cases e:k=g;·subst e;have e2:=(show D (Eb c T (0,0))=D (Eb cs S (0,0)) from hk.symm.trans K);injection e2 with e2;injection e2 with e3 e4;subst e4;exact⟨cs',K'⟩
  ·exact⟨c,h.Ek hk e⟩
 ·by_cases e:k=g;·subst e;have e2:=(show D (Eb c T p)=D (Eb cs S (0,0)) from hk.symm.trans K);injection e2 with e2;injection e2 with e3 e4 e5;subst e4;exact⟨cs',(0,0),K'⟩
  ·exact⟨c,p,(h.keep k e (mT hk)).trans hk⟩
theorem EA.Vg{T:EB}(h:dx hi T N ys w w')(hT:Lv.contains T=EJ)(hh:hi<=w.heap.size):EA lo hi w w':=by
 have hb:=h.2.1 hh;refine⟨hb.os,hb.tape,hb.output,hb.size,fun k hk _ _=>hb.block k hk,fun k c S hk hm=> ?_,fun k c S hk=> ?_,fun k c S p hlt hk=>⟨c,p,(hb.block k hlt).trans hk⟩⟩
 ·by_cases hkh:k<hi;·exact(hb.block k hkh).trans hk
  ·obtain⟨c',e,-,hS,-⟩:=h.2.2 k c S hk;by_cases eS:S=T;·subst eS;unfold iF at hm;rw[hT,IJ (U:hi<=k)] at hm;simp at hm
   ·rw[hS eS] at e;exact e
 ·obtain⟨c',e,-⟩:=h.2.2 k c S hk;exact⟨c',e⟩
theorem EA.Ec5(h:EA lo hi w w')(hh:hi<=w.heap.size):Gz lo hi w w':=by
 refine⟨h.os,h.tape,h.output,h.size,fun k hk hm=> ?_,fun k h1 h2 h3=> ?_⟩
 ·refine h.low k hk U fun c T p hc=> ?_;unfold iF;rw[IZ (U: ¬hi<=k)];by_cases hl:lo<=k;·have:=hm hl;unfold uN Gy at this;rw[hc] at this;simp at this⊢;exact fun _=>this
  ·simp;omega
 ·unfold uN Gy at h3⊢;cases e:w.heap[k]? with
  |none=>rw[e] at h3;cases h3
  |some o=>
   rw[e] at h3;cases o with
   |cells c T p=> obtain⟨c',p',hc'⟩:=h.Cw k c T p h2 e;rw[hc'];exact h3
   |_=>cases h3
structure Dr where
 n:Int
 op:Bool
 nc:List Int
def Dr.v(d:Dr):List Y:=[E I d.n,Ec d.op]++d.nc.map (E .u8)
structure Dr.ok(d:Dr):Prop where
 n:0<=d.n/\d.n<=4294967295
 len:d.nc.length=8
 bytes: ∀x∈d.nc,0<=x/\x<=255
theorem Dr.len'{d:Dr}(h:d.ok):d.v.length=10:=by simp[Dr.v,h.len]
def aG(p:List Y)(c:Ey)(gq gt:Nat)(d0 d1 d2:Dr)(hd:List Int):List (List Y):=
 [p,c.tok.v,[V (D ⟨gq,0,Z⟩)],d0.v,d1.v,d2.v,[V (D ⟨gt,0,Z⟩)],[E I c.samples],[E I c.beyond],[E I c.mode],c.En.v,c.pt.v,hd.map (E .u8)]
def lB(k:Nat):Nat:=[0,56,64,65,75,85,95,96,97,98,99,102,114].getD k 146
theorem Oo{p:List Y}{d0 d1 d2:Dr}(hp:p.length=56)(h0:d0.ok)(h1:d1.ok)(h2:d2.ok)(k:Nat)(hk:k<13):bh (aG p c gq gt d0 d1 d2 hd) k=lB k:=by have e0:=Dr.len' h0;have e1:=Dr.len' h1;have e2:=Dr.len' h2;rcases(show k=0\/k=1\/k=2\/k=3\/k=4\/k=5\/k=6\/k=7\/k=8\/k=9\/k=10\/k=11\/k=12 from U) with rfl|rfl|rfl|rfl|rfl|rfl|rfl|rfl|rfl|rfl|rfl|rfl|rfl<;>simp[bh,aG,lB,hp,e0,e1,e2,EN.v,Xz.v,Pt.v]
def TM(a m:Int):Prop:=0<=a/\a<=1000/\0<=m/\m<=1000
structure EK.Xb(T:EK):Prop where
 Iu:0<=T.Iu/\T.Iu<=1000
 st:TM T.sa T.sm
 E4: ∀i,TM (T.E4 i).a (T.E4 i).m
theorem EK.Xb.put{T:EK}(h:T.Xb)(k:Nat){s:JF}(hs:TM s.a s.m):(T.put k s).Xb:=by
 match k with
 |0=>exact⟨h.Iu,h.st,fun i=>match i with|0=>hs|1=>h.E4 1|_+2=>h.E4 2⟩
 |1=>exact⟨h.Iu,h.st,fun i=>match i with|0=>h.E4 0|1=>hs|_+2=>h.E4 2⟩
 |_+2=>exact⟨h.Iu,h.st,fun i=>match i with|0=>h.E4 0|1=>h.E4 1|_+2=>hs⟩
theorem TM.start{T:EK}(h:T.Xb):TM 0 (max T.Iu 0):=by have:=h.Iu;exact⟨Zz _,U,U,U⟩
structure Ey.ok(c:Ey):Prop where
 tok:c.tok.ok
 T:c.T.ok
 q:c.q.length<=3
 ones: ∀x∈c.q,x.ok
 src: ∀x∈c.q,1<=x.s/\x.s<=3
 nd:(c.q.map One.s).Nodup
 iG:0<=c.samples/\c.samples<=4294967295
 jD:0<=c.beyond/\c.beyond<=1000
 mode:0<=c.mode/\c.mode<=4
 En:c.En.ok
 pt:c.pt.ok
 Iu:c.T.Xb
def iH(W:M)(lo:Nat)(v:Y):Prop:= ∃(gk n cap:Nat) (cur:Array Y) (ys:List Int),v=G (D ⟨gk,0,Z⟩) n cap/\lo<=gk/\ys.length=n/\1<=n/\n<=64/\n<=cap/\cap<=9223372036854775807/\H W gk cur 5/\cur.toList.take n=ys.map (E .u8)/\ ∀x∈ys,0<=x/\x<=255
theorem iH.Ek{v:Y}(h:iH W lo v)(hb: ∀g cs,H W g cs 5->H W' g cs 5):iH W' lo v:=by obtain⟨gk,n,cap,cur,ys,h1,h2,h3,h4,h5,h6,h7,h8,h9⟩:=h;exact⟨gk,n,cap,cur,ys,h1,h2,h3,h4,h5,h6,h7,hb _ _ h8,h9⟩
theorem iH.row{v:Y}(h:iH W lo v): ∃(A:Option Ep) (n cap:Nat) (ys:List Int),v=G A n cap/\ys.length=n/\1<=n/\n<=64/\n<=cap/\cap<=9223372036854775807/\Row W A ys:=by obtain⟨gk,n,cap,cur,ys,h1,-,h3,h4,h5,h6,h7,h8,h9,h10⟩:=h;subst h3;have:=Ec3 h8 h9 h10 0 ys.length;rw[IM,OP (E3 _)] at this;exact⟨_,_,cap,ys,h1,O,h4,h5,h6,h7,this⟩
def Jr(W:M)(lo gq:Nat)(L:List One)(most:Int):Prop:= ∃(v:Y) (came:Nat),H W gq #[v,E I most,E Im came] 152/\came<18446744073709551616/\W.ownsRow lo 171 5 v L.length (ID L)
structure Ec6(g:Nat->Y):Prop where
 int: ∀i,i<56->i<5\/8<i->Z1 (g i)
 fit: ∀i,9<=i->i<56-> ∃n:Nat,g i=E I n/\cF i n
structure JU(lo:Nat)(g:Nat->Y)(gc gq gt:Nat)(c:Ey)(W:M):Prop where
 lo2:2<=lo
 XV:Ec6 g
 ok:c.ok
 lc:lo<=gc
 lq:lo<=gq
 lt:lo<=gt
 Ek: ∃(d0 d1 d2:Dr) (hd:List Int),Jl W gc (aG (EL 56 g).toList c gq gt d0 d1 d2 hd) 120/\d0.ok/\d1.ok/\d2.ok/\hd.length=32/\ ∀x∈hd,0<=x/\x<=255
 tab:Iv W gt c.T
 ZC:Jr W lo gq c.q (pn g 48)
 keys: ∀i,5<=i->i<=8->iH W lo (g i)
 roots:Ju W
 cmds:Xs W
structure ta where
 l:List Y
 one: ∀Y3∈l,Y3.oneCell'=EJ
structure E9(lo hi:Nat)(g:Nat->Y)(gc gq gt gs:Nat)(c:Ey)(ns:Nat)(rs:List Rec)(W:M):Prop where
 core:JU lo g gc gq gt c W
 hc:gc<hi
 hq:gq<hi
 ht:gt<hi
 dO:lo<=hi
 his:hi<=gs
 fH: ∃(sv rv:Y) (sc:ta),H W gs #[V (D ⟨gc,0,Z⟩),sv,rv] 124/\W.ownsRow hi 264 2 sv ns sc.l/\W.ownsRow hi 58 6 rv rs.length (UC rs)
theorem EG{T:EB}{size n:Nat}{v:Y}{xs:List Y}(h:W.ownsRow base T size v n xs)(hb: ∀g cs,H W g cs T->H W' g cs T):W'.ownsRow base T size v n xs:=by
 obtain⟨h1,h2|⟨gg,cap,cur,hv,hg,hh,r⟩⟩:=h;·exact⟨h1,.inl h2⟩
 ·exact⟨h1,.inr ⟨gg,cap,cur,hv,hg,hb _ _ hh,r⟩⟩
theorem JU.B{g:Nat->Y}(h:JU lo g gc gq gt c W)(hb:El W W'):JU lo g gc gq gt c W':=by obtain⟨d0,d1,d2,hd,k,r⟩:=h.Ek;obtain⟨v,came,k2,r2,r3⟩:=h.ZC;exact⟨h.lo2,h.XV,h.ok,h.lc,h.lq,h.lt,⟨d0,d1,d2,hd,k.B hb,r⟩,h.tab.B hb,⟨v,came,k2.B hb,r2,EG r3 fun _ _ hk=>hk.B hb⟩,fun i h1 h2=>(h.keys i h1 h2).Ek fun _ _ hk=>hk.B hb,h.roots.B hb,h.cmds.B hb⟩
theorem E9.B{g:Nat->Y}(h:E9 lo hi g gc gq gt gs c ns rs W)(hb:El W W'):E9 lo hi g gc gq gt gs c ns rs W':=by obtain⟨sv,rv,sc,k,r1,r2⟩:=h.fH;exact⟨h.core.B hb,h.hc,h.hq,h.ht,h.dO,h.his,sv,rv,sc,k.B hb,EG r1 fun _ _ hk=>hk.B hb,EG r2 fun _ _ hk=>hk.B hb⟩
def Cx:List EB:=[120,152,171,163,5]
theorem JU.via{g:Nat->Y}(h:JU lo g gc gq gt c W)(hb: ∀k cs S,Cx.contains S=EJ->H W k cs S->H W' k cs S)(hl:Ij lo W W'):JU lo g gc gq gt c W':=by
 obtain⟨d0,d1,d2,hd,k,r⟩:=h.Ek;obtain⟨v,came,k2,r2,r3⟩:=h.ZC;refine⟨h.lo2,h.XV,h.ok,h.lc,h.lq,h.lt,⟨d0,d1,d2,hd,hb _ _ _ EU k,r⟩,hb _ _ _ EU h.tab,⟨v,came,hb _ _ _ EU k2,r2,EG r3 fun _ _ hk=>hb _ _ _ EU hk⟩,fun i h1 h2=>(h.keys i h1 h2).Ek fun _ _ hk=>hb _ _ _ EU hk,fun i hi=> ?_,fun i hi=> ?_⟩;·exact Ep6
 ·exact Ep8
theorem E6(h:H W g cs S)(k:H W g2 cs2 S2)(hne:S≠S2):g≠g2:=fun e=>by subst e;have e2:=(show D (Eb cs S (0,0))=D (Eb cs2 S2 (0,0)) from h.symm.trans k);injection e2 with e2;injection e2 with e3 e4;exact hne e4
theorem JU.set{g:Nat->Y}{c':Ey}(h:JU lo g gc gq gt c W)(ho:E7 gc W W')(hT:c'.T=c.T)(hq:c'.q=c.q)(hok:c'.ok) (hb: ∃(d0 d1 d2:Dr) (hd:List Int),Jl W' gc (aG (EL 56 g).toList c' gq gt d0 d1 d2 hd) 120/\d0.ok/\d1.ok/\d2.ok/\hd.length=32/\ ∀x∈hd,0<=x/\x<=255):JU lo g gc gq gt c' W':=by
 obtain⟨e0,e1,e2,ehd,k,r⟩:=h.Ek;obtain⟨v,came,k2,r2,r3⟩:=h.ZC;have hl:=ho.bel lo h.lc (Ew h.lc (aH k.lt));refine⟨h.lo2,h.XV,hok,h.lc,h.lq,h.lt,hb,?_,⟨v,came,ho.Ek k2 (E6 k2 k EU),r2,?_⟩,fun i h1 h2=>(h.keys i h1 h2).Ek fun _ _ hk=>ho.Ek hk (E6 hk k EU),fun i hi=> ?_,fun i hi=> ?_⟩;·rw[hT];exact ho.Ek h.tab (E6 h.tab k EU)
 ·rw[hq];exact EG r3 fun _ _ hk=>ho.Ek hk (E6 hk k EU)
 ·exact Ep6
 ·exact Ep8
theorem Zf{P:Jq}{K:E_->Prop}{T TB:EB}{off n:Nat}{Gs:List (List Y)}{old:List Y}(hT:IL P T n)(x:J5)(ho:o.op= .load T x)(hx:a.eval x=V (D ⟨g,off,Z⟩))(hg:Ed (Jl W g Gs TB))(k:Nat)(hk:Gs[k]?=D old)(hf:bh Gs k=off)(hn:old.length=n) (h:K (a.put o.dst (Ea old.toArray))):o.quiet P a (fun w'=> ∃x,w'=EC W x) K:=by obtain⟨⟨d,hu,hd⟩,hi⟩:=hT;refine⟨_,fun w hw=> ?_,h⟩;obtain⟨y,rfl⟩:=hw;have hb:(EC W y).heap[g]?=D (Eb Gs.flatten.toArray TB (0,0)):=hg.out.B (EQ y);have hrun:=run_loadVar_mid (EC W y) g off T _ d (World.rangeAt_of_block hb off n) hu nX (by rw[hi,Array.length_toList,Jl.extract k hk hf n hn];simp[hn]);rw[Array.toArray_toList,Jl.extract k hk hf n hn] at hrun;unfold Oper.quietAt Ig;simp only[ho,hx,gJ,dp,OH,Oi,OM,hrun];first|exact⟨rfl,rfl⟩|exact⟨rfl,y,rfl⟩
theorem JC(g:Nat->Y):(EL 56 g).toList.length=56:=Ej
theorem Lw{g:Nat->Y}{d0 d1 d2:Dr}(K:Jl W gc (aG (EL 56 g).toList c gq gt d0 d1 d2 hd) 120)(h0:d0.ok)(h1:d1.ok)(h2:d2.ok)(k:Nat)(hk:k<13){old:List Y}(ho:(aG (EL 56 g).toList c gq gt d0 d1 d2 hd)[k]?=D old)(j:Nat)(hj:j<old.length):W.cell? ⟨gc,lB k+j,Z⟩=old[j]?:=
 K.cell k ho (Oo (JC g) h0 h1 h2 k hk) j hj
theorem vW{b0:Nat}{T:EB}(h:dx b0 T N ys w w')(hk:H w g ys.toArray S)(hN:N=0\/ys.length<=N):H w' g ys.toArray S:=by
 obtain⟨cs',e,s,-,hj⟩:=h.2.2 g ys.toArray S hk
 have:cs'=ys.toArray:=by
  apply Array.ext_getElem?;intro j;rcases hj j with h1|⟨h1,h2,h3⟩;·exact h1
  ·rcases hN with rfl|hN;·rw[h3];simp
   ·rw[h3];have hl:cs'.size=ys.length:=by simpa using s
    rw[J2];by_cases hlt:j<ys.length;·omega
    ·have e1:cs'[j]?=Z:=iJ U;rw[<-h3,e1,bJ U]
 rw[this] at e;exact e
theorem Ec8:(Tryz.prog.info? 58).map (fun i=>(i.zero,i.size,i.bytes))=D (D (Ea #[E I 0,E I 0,E I 0,E I 0,E I 0,E I 0]),6,48):=Ef
theorem Vh:IL EZ 58 6:=⟨⟨_,Tryz.underlying58,O⟩,Ef⟩
theorem Ec9:IL EZ 124 3:=⟨⟨_,Tryz.underlying124,O⟩,Ef⟩
def Cy(hi:Nat)(T:EB)(size n:Nat)(xs:List Y)(v:Y)(w:M):Prop:= ∃(A:Option Ep) (c:Nat),v=G A n c/\w.ownsRow hi T size v n xs
theorem aK{T:EB}{size n:Nat}{v:Y}{xs:List Y}(h:w.ownsRow base T size v n xs): ∃(A:Option Ep) (c:Nat),v=G A n c/\(A=Z->n=0):=by
 rcases h.2 with⟨e,hn⟩|⟨g,cap,cur,hv,-⟩;·exact⟨Z,0,by rw[e,hn],fun _=>hn⟩
 ·exact⟨_,cap,hv,fun h=>UL⟩
theorem dL(h:H W g cs S)(k:H W g2 cs2 S2)(hne:S≠S2):g≠g2:=fun e=>by subst e;have e2:=(show D (Eb cs S (0,0))=D (Eb cs2 S2 (0,0)) from h.symm.trans k);injection e2 with e2;injection e2 with e3 e4;exact hne e4
theorem Ec_{a c:Y}(K:H w gs #[a,b,c] S)(v:Y):H (w.setCell ⟨gs,2,Z⟩ v) gs #[a,b,v] S:=by have:=K.set 2 v;exact EpY
theorem EdE{a c:Y}(K:H w gs #[a,b,c] S)(v:Y):H (w.setCell ⟨gs,1,Z⟩ v) gs #[a,v,c] S:=by have:=K.set 1 v;exact EpY
theorem Vi{i:Nat}(h:lo<=g)(v:Y):Ij lo w (w.setCell ⟨g,i,Z⟩ v):=(IU lo w).setCell (p:=⟨g,i,Z⟩) h v
theorem EA.setCell(K:H w g cs S)(hS:kF.contains S=EJ)(hl:lo<=g)(i:Nat)(v:Y):EA lo hi w (w.setCell ⟨g,i,Z⟩ v):=
 EA.vV (JS i v) K (K.set i v) hS hl
theorem Vj: ∃i,Tryz.prog.info? 58=D i/\i.zero=D (Ea #[E I 0,E I 0,E I 0,E I 0,E I 0,E I 0])/\i.size=6/\i.bytes=48:=by obtain⟨i,h1,h2,h3,h4⟩:=au Ec8;exact⟨i,h1,h2,h3,h4⟩
theorem ZD(lo hi:Nat)(g:Nat->Y)(gc gq gt gs:Nat)(c:Ey)(ns:Nat)(rs:List Rec)(k s q cd hw:Int)(w:M)(S:E9 lo hi g gc gq gt gs c ns rs w)(hl:rs.length<1000000): Eg EZ 102 #[V (D ⟨gs,0,Z⟩),E I k,E I s,E I q,E I cd,E I hw] w fun e w'=>e=Ei (Eu #[])/\E9 lo hi g gc gq gt gs c ns (rs++[⟨k,s,q,c.tok.e,cd,hw⟩]) w'/\EA lo hi w w':=by
 obtain⟨sv,rv,sc,KS,OS,OR⟩:=S.fH;obtain⟨A0,c0,rfl,hnil⟩:=aK OR;obtain⟨d0,d1,d2,hd,KG,o0,o1,o2,XI,XF⟩:=S.core.Ek;have c0':w.cell? ⟨gs,0,Z⟩=D (V (D ⟨gc,0,Z⟩)):=(H.cell KS 0).trans O;have c1':w.cell? ⟨gc,57,Z⟩=D (E I c.tok.e):=Lw KG o0 o1 o2 1 U O 1 XW;have HL:=J hl;have HH:=J (show hi<=w.heap.size by have:=S.his;have:=KS.lt;omega);have vY:=J<|show lo<=gs from Ew S.dO S.his;have IR:=J Vj;have Vk:=J S;have CB:=J S.core;have KS:=J KS;have OS:=J OS;have OR:=J OR;have Emo:=J hnil;clear S hl hnil KG o0 o1 o2 XI XF;generalize c.tok.e=ep at*;go_enter Tryz.func102,Tryz.ntmps102;go_wp2_with fail;have jA:=J<|H.new w #[E I k,E I s,E I q,E I ep,E I cd,E I hw] 58;have b1:=Er w (Eb #[E I k,E I s,E I q,E I ep,E I cd,E I hw] 58);replace KS:=J<|KS.out.B b1;replace OS:=J<|EG OS.out fun _ _ h=>H.B h b1;replace OR:=J<|EG OR.out fun _ _ h=>H.B h b1;replace CB:=J<|CB.out.B b1;have MM:Ed (EA lo hi w (w.alloc (Eb #[E I k,E I s,E I q,E I ep,E I cd,E I hw] 58))):=J<|EA.ED b1;clear b1 c0' c1';generalize w.alloc (Eb #[E I k,E I s,E I q,E I ep,E I cd,E I hw] 58)=w1 at*;obtain⟨gr,hgr⟩:=Eo w.heap.size;rw[<-hgr] at jA⊢;replace hgr:=J hgr;have HN:Ed (rs.length*6=0\/(Rec.mk k s q ep cd hw).v.length<=rs.length*6):=J Cz;have HX:Ed (∀j,rs.length*6<=j->j<rs.length*6+(Rec.mk k s q ep cd hw).v.length->j<(UC rs++(Rec.mk k s q ep cd hw).v).length->(UC rs++(Rec.mk k s q ep cd hw).v)[j]?=((Rec.mk k s q ep cd hw).v)[j-rs.length*6]?):=J (fun j h1 h2 h3=>by rw[aE (by rw[zS];exact h1),zS]);refine cZ (Ph:=fun p wq=>match p with|0=>(H wq gs #[V (D ⟨gc,0,Z⟩),sv,G A0 rs.length c0] 124/\H wq gr (Rec.mk k s q ep cd hw).v.toArray 58/\dU wq hi 58 6 (G A0 rs.length c0) rs.length (UC rs)/\(JU lo g gc gq gt c wq/\dU wq hi 264 2 sv ns sc.l/\EA lo hi w wq))|_=>(∃(A:Option Ep) (cp:Nat),H wq gs #[V (D ⟨gc,0,Z⟩),sv,G A (rs.length+1) cp] 124/\H wq gr (Rec.mk k s q ep cd hw).v.toArray 58/\dU wq hi 58 6 (G A (rs.length+1) cp) (rs.length+1) (UC rs++(Rec.mk k s q ep cd hw).v)/\(JU lo g gc gq gt c wq/\dU wq hi 264 2 sv ns sc.l/\EA lo hi w wq))) (Rel:=(dx hi 58 (rs.length*6) (Rec.mk k s q ep cd hw).v)) (Iw:=(fun w w'=> ∀g2 c2,H w g2 c2 58->H w' g2 c2 58)) [kp gs 0,kp gs 0,kp gs 0,kp gs 2,kq (G A0 rs.length c0),kq (Ea (Rec.mk k s q ep cd hw).v.toArray),.dep (fun v w=> ∃b:Nat,v=G (D ⟨b,0,Z⟩) 1 1/\H w b (Rec.mk k s q ep cd hw).v.toArray 58) (fun v w w' h hr=>by obtain⟨b,e,hk⟩:=h;exact⟨b,e,vW hr hk HN.out⟩) (fun v w w' h hr=>Vl),.dep (Cy hi 58 6 (rs.length+1) (UC rs++(Rec.mk k s q ep cd hw).v)) (fun v w w' h hr=>by obtain⟨A,c,e,ho⟩:=h;exact⟨A,c,e,kP hr ho HX.out⟩) (fun v w w' h hr=>Vm),kp gs 0,kp gs 2,.val (fun _=>True)] _ O [10] [(0,0),(0,0),(0,0),(0,0),(0,0),(0,0),(0,0),(0,0),(0,0),(0,0),(0,0)] Ef Ef Ef Ef Ef UP Ef ?hPh ?h0 ?hstep ?hend
 case hPh=>
  intro p w2 w3 h hr;have keep: ∀g2 c2 S2,S2≠58->H w2 g2 c2 S2->H w3 g2 c2 S2:=fun g2 c2 S2 hS k2=>Uw hr k2 hS;have rest:(JU lo g gc gq gt c w2/\dU w2 hi 264 2 sv ns sc.l/\EA lo hi w w2)->(JU lo g gc gq gt c w3/\dU w3 hi 264 2 sv ns sc.l/\EA lo hi w w3):=fun⟨a1,a2,a3⟩=>⟨a1.via (fun k2 c2 S hS h2=>keep _ _ _ aZ h2) ((hr.2.1 (Ew HH.out a3.size)).mono (Ew (by exact Vk.out.dO) (E3 _))),EG a2 (fun g2 c2 h2=>keep _ _ _ EU h2),a3.trans (EA.Vg hr EU (Ew HH.out a3.size))⟩;match p,h with
  |0,h=>exact⟨keep _ _ _ EU h.1,vW hr h.2.1 HN.out,kP hr h.2.2.1 (fun j h1 h2 h3=>by rw[zS] at h3;omega),rest h.2.2.2⟩
  |_+1,h=> obtain⟨A,cp,h1,h2,h3,h4⟩:=h;exact⟨A,cp,keep _ _ _ EU h1,vW hr h2 HN.out,kP hr h3 HX.out,rest h4⟩
 case h0=> exact⟨KS.out.drew,jA.out.drew,OR.out,CB.out.B (Jn _),OS.out,MM.out.trans (EA.ED (Jn _))⟩
 case hstep=>
  refine⟨?_,?_,?_,?_,?_,?_,?_,?_,?_,?_,?_,trivial⟩;all_goals first|intro xv wq p hlo hhi hp hd|intro xv wq hp hd
  all_goals try obtain rfl:p=0:=U
  all_goals simp only[EM,Ih,Ik,Ic,If]
  ·exact IQ fl (Eh O) Ez O
  ·exact IQ fl (Eh O) Ez O
  ·have d1:xv 1=V (D ⟨gs,0,Z⟩):=hd.at 1 rfl;exact IQ fl (Eh O) XZ O
  ·have d2:xv 2=V (D ⟨gs,0,Z⟩):=hd.at 2 rfl;exact IQ fl (Eh O) Lx O
  ·have d3:xv 3=V (D ⟨gs,2,Z⟩):=hd.at 3 rfl;have cc:wq.cell? ⟨gs,2,Z⟩=D (G A0 rs.length c0):=(H.cell hp.1 2).trans O;exact IQ fl (Eh O) (by simp[go_sem,d3,cc]) O
  ·exact jn fl Vh (Eh O) ⟨O,O⟩ (hp.2.1) O O
  ·have d5:xv 5=Ea (Rec.mk k s q ep cd hw).v.toArray:=hd.at 5 rfl;exact Zp (Eh O) (by simp[go_sem,d5];rfl) (uW (Er wq _)) ⟨wq.heap.size,O,H.new _ _ _⟩
  ·have d4:xv 4=G A0 rs.length c0:=hd.at 4 rfl;obtain⟨b,e6,k6⟩: ∃b:Nat,xv 6=G (D ⟨b,0,Z⟩) 1 1/\H wq b (Rec.mk k s q ep cd hw).v.toArray 58:=hd.at 6 rfl;obtain⟨A',c',w',hrun,hown,hgr,-,-⟩:=aw (P:=EZ) wq hi hi 40 _ 58 IR.out.choose _ 6 48 Tryz.underlying40 IR.out.choose_spec.1 IR.out.choose_spec.2.1 IR.out.choose_spec.2.2.1 IR.out.choose_spec.2.2.2 rfl A0 c0 rs.length (UC rs) hp.2.2.1 ⟨b,0,Z⟩ 1 1 (Rec.mk k s q ep cd hw).v O (fun j Y3 hu=>by rw[show(⟨b,0,Z⟩:Ep).add j=⟨b,j,Z⟩ from U3];rw[H.cell k6,J2];exact hu) (by simp[Rec.v,Oc]) (fun _=>U) (by have:=HL.out;unfold maxLen;omega) JQ (Ew HH.out hp.2.2.2.2.2.size) (E3 _);exact Zp (Eh O) (Ol O (show xv 4=_ from d4) (show xv 6=_ from e6) hrun) hgr ⟨A',c',O,hown⟩
  ·have d0:xv 0=V (D ⟨gs,0,Z⟩):=hd.at 0 rfl;exact IQ fl (Eh O) UW O
  ·have d8:xv 8=V (D ⟨gs,0,Z⟩):=hd.at 8 rfl;exact IQ fl (Eh O) gG O
  ·have d9:xv 9=V (D ⟨gs,2,Z⟩):=hd.at 9 rfl;obtain⟨A,cp,e7,ho⟩:Cy hi 58 6 (rs.length+1) (UC rs++(Rec.mk k s q ep cd hw).v) (xv 7) wq:=hd.at 7 rfl;have cc:wq.cell? ⟨gs,2,Z⟩=D (G A0 rs.length c0):=(H.cell hp.1 2).trans O;have ff:wq.frozen? ⟨gs,2,Z⟩=EI:=H.JZ hp.1 2;rw[e7] at ho;have kk:=Ec_ hp.1 (G A (rs.length+1) cp);refine GD (w':=wq.setCell ⟨gs,2,Z⟩ (G A (rs.length+1) cp)) (Eh O) (by simp[go_sem,d9,e7,cc,ff]) ⟨fun g2 c2 h2=>h2.other gs 2 _ (dL h2 hp.1 EU),?_⟩ trivial;exact⟨A,cp,kk,hp.2.1.other gs 2 _ (dL hp.2.1 hp.1 EU),EG ho (fun g2 c2 h2=>h2.other gs 2 _ (dL h2 hp.1 EU)),hp.2.2.2.1.via (fun k2 c2 S hS h2=>h2.other gs 2 _ (dL h2 hp.1 aZ)) (Vi vY.out _),EG hp.2.2.2.2.1 (fun g2 c2 h2=>h2.other gs 2 _ (dL h2 hp.1 EU)),hp.2.2.2.2.2.trans (EA.setCell hp.1 EU vY.out 2 _)⟩
 case hend=>
  intro xv W6 hp hr;clear hr;simp only[EM,Ih,Ik,Ic,If];obtain⟨A,cp,h1,h2,h3,h4,h5,h6⟩:=hp;replace KS:=J h1;replace jA:=J h2;replace OR:=J h3;replace CB:=J h4;replace OS:=J h5;replace MM:=J h6;clear h1 h2 h3 h4 h5 h6 HN HX;obtain⟨d0,d1,d2,hd,KG,o0,o1,o2,XI,XF⟩:=CB.out.Ek;have KG:=J KG;have HF:=J<|Oo (c:=c) (gq:=gq) (gt:=gt) (hd:=hd) (JC g) o0 o1 o2 12 U;have CN:Ed (∀W,Ju W->Eg EZ 68 #[Ea (hd.map (E .u8)).toArray,Ea (Rec.mk k s q ep cd hw).v.toArray] W fun e' w'=>e'=Ei (Ea (Em (Zu (hd++gM k s q ep cd hw))))/\El W w'):=J<|fun W (r:Ju W)=>EbK hd k s q ep cd hw XI XF W r;have RT:=J CB.out.roots;have cs: ∀y:Ext W6,(EC W6 y).cell? ⟨gs,0,Z⟩=D (V (D ⟨gc,0,Z⟩)):=fun y=>(H.cell (KS.out.B (EQ y)) 0).trans O;obtain⟨nh,Ly⟩:=Eo (Zu (hd++gM k s q ep cd hw));rw[<-Ly] at CN;have jF:=J (show nh.length=32/\ ∀x∈nh,0<=x/\x<=255 by rw[Ly];exact⟨pG _,vJ _⟩);have qZ:=J (show(hd.map (E .u8)).length=32 by simp[XI]);clear Ly XI XF;go_wp2_with fail;refine Oa 15 Ef Ef ?_;simp only[Is,Iq,IT,IM]
  repeat (first
   |go_big_quiet_skip
   |(go_big_quiet_want
     first
      |(refine UV (T:=58) (g:=gr) Vh _ rfl rfl jA ?_ ?_;(·rfl);go_simp;go_big_quiet_on)
      |(refine Zf (T:=41) (g:=gc) (off:=114) UX _ rfl rfl KG 12 rfl HF.out qZ.out ?_;go_simp;go_big_quiet_on)
      |(go_big_quiet_op
        first
         |go_big_quiet_on
         |go_big_quiet_call (with_reducible refine ao (CN.out _ (RT.out.B (EQ _)))))))
  refine I5 ?_;intro _ hw';obtain⟨y9,rfl⟩:=hw';have En:=EQ y9;replace KS:=J<|KS.out.B En;replace OR:=J<|EG OR.out fun _ _ h=>H.B h En;replace OS:=J<|EG OS.out fun _ _ h=>H.B h En;replace CB:=J<|CB.out.B En;replace KG:=J<|KG.out.B En;replace MM:=J<|MM.out.trans (EA.ED En);clear cs En jA;generalize EC W6 y9=W7 at*;have KF:=J<|KG.out.set 12 rfl HF.out (nh.map (E .u8)) (by rw[qZ.out];simp[jF.out.1]);have TH:=J<|KG.out.there 12 rfl HF.out 32 (OC qZ.out.symm);have ON:=J<|JP (g:=gc) (nh.map (E .u8)) 114 W7;go_wp2_with ((with_reducible refine I3 41 ?_);(with_reducible refine Ux O 41 _ _ O gc 114 (Em nh) ?_ ?_ ?_ ?_ ?_ ?_);(·rfl);(·rfl);(·rw[Ob,jF.out.1];exact TH.out);(·rw[Ob,jF.out.1];exact UX.2);(·exact X6 _));go_end0;have CB2:=CB.out.set ON.out O O CB.out.ok ⟨d0,d1,d2,nh,KF.out,o0,o1,o2,jF.out.1,jF.out.2⟩;have S2:=Vk.out;refine⟨O,⟨CB2,S2.hc,S2.hq,S2.ht,S2.dO,S2.his,sv,G A (rs.length+1) cp,sc,ON.out.Ek KS.out (E6 KS.out KG.out EU),EG OS.out fun _ _ h=>ON.out.Ek h (E6 h KG.out EU),?_⟩,MM.out.trans (EA.vV ON.out KG.out KF.out EU CB.out.lc)⟩;have:=EG OR.out fun _ _ h=>ON.out.Ek h (E6 h KG.out EU);rw[Qh,IY,show UC [Rec.mk k s q ep cd hw]=(Rec.mk k s q ep cd hw).v from by simp[UC]];exact this
def lC(z:Int):Int:=if(Ir .and .u16 z 32768 !=0)=EJ then Ir .xor .u16 (IntKind.u16.wrap (z*2)) 4129 else IntKind.u16.wrap (z*2)
def dX:Nat->Int->Int
 |0,z=>z
 |k+1,z=>lC (dX k z)
def jG(s c:Int):Int:=dX 8 (Ir .xor .u16 s (c*256))
def Ug(xs:List Int):Int:=xs.foldl jG 65535
theorem Vn(op:BinOp)(a b:Int):0<=Ir op .u16 a b/\Ir op .u16 a b<=65535:=by
 unfold Ir;have h: ∀x:Int,0<=IntKind.u16.wrap x/\IntKind.u16.wrap x<=65535:=fun x=>by exact EpA
 exact h _
theorem EdJ(x:Int):0<=IntKind.u16.wrap x/\IntKind.u16.wrap x<=65535:=by exact EpA
theorem Vo(z:Int):0<=lC z/\lC z<=65535:=by
 unfold lC;split;·exact Vn _ _ _
 ·exact EdJ _
theorem EdO(s c:Int):0<=jG s c/\jG s c<=65535:=Vo _
theorem Vp(xs:List Int)(x:Int):Ug (xs++[x])=jG (Ug xs) x:=by unfold Ug;rw[List.foldl_append];rfl
theorem CY(xs:List Int):0<=Ug xs/\Ug xs<=65535:=by refine QR (P:=fun xs=>0<=Ug xs/\Ug xs<=65535) EU (fun l x _=> ?_) xs;rw[Vp];exact EdO _ _
theorem EdU(s c:Int)(w:M)(h1:0<=s/\s<=65535)(h2:0<=c/\c<=255): Eg EZ 200 #[.int .u16 s,E Ix c] w fun e w'=>e=Ei (.int .u16 (jG s c))/\w=w':=by
 obtain⟨r,hr⟩:=Eo (jG s c);rw[<-hr];replace hr:=J hr;go_enter Tryz.func200,Tryz.ntmps200;go_wp2_with fail;go_loop [0,10] (fun x y=> ∃i:Nat,i<=8/\y=E I i/\x= .int .u16 (dX i (Ir .xor .u16 s (c*256)))) (fun _ y=>8-(In y).toNat);case atStart=>exact⟨0,U,O,O⟩
 case round=>
  obtain⟨i,hi,rfl,rfl⟩:=hrel;by_cases hlt:i<8
  ·have t1:decide ((i:Int)<8)=EJ:=IJ U;obtain⟨z,hz⟩: ∃z,z=dX i (Ir .xor .u16 s (c*256)):=⟨_,O⟩;rw[<-hz];have HZ:Ed (dX (i+1) (Ir .xor .u16 s (c*256))=lC z):=J (by rw[hz];rfl);clear hz;cases hb:(Ir .and .u16 z 32768 !=0) with
   |true=> go_wp2_with fail;refine⟨⟨i+1,U,Ej,?_⟩,Jb⟩;rw[HZ.out];unfold lC;rw[if_pos hb]
   |false=> go_wp2_with fail;refine⟨⟨i+1,U,Ej,?_⟩,Jb⟩;rw[HZ.out];unfold lC;rw[if_neg (by rw[hb];decide)]
  ·have t1:decide ((i:Int)<8)=EI:=IZ U;obtain rfl:i=8:=U;rw[show dX 8 (Ir .xor .u16 s (c*256))=r from hr.out.symm];exact Enu
theorem Vq(a:Option Ep)(xs:List Int)(n c:Nat)(w:M)(hn:xs.length=n)(hr:Row w a xs)(hm:n<=9223372036854775807): Eg EZ 157 #[G a n c] w fun e w'=>e=Ei (.int .u16 (Ug xs))/\w=w':=by
 obtain⟨hr,hb⟩:=hr;have HR:=J hr;have HB:=J hb;have HN:=J hn;clear hr hb hn;obtain⟨r,hr⟩:=Eo (Ug xs);rw[<-hr];replace hr:=J hr;go_enter Tryz.func157,Tryz.ntmps157;go_wp2_with fail;go_loop [3,8] (fun x y=> ∃i:Nat,i<=n/\y=E I i/\x= .int .u16 (Ug (xs.take i))) (fun _ y=>n-(In y).toNat);case atStart=>exact⟨0,U,O,O⟩
 case round=>
  obtain⟨i,hi,rfl,rfl⟩:=hrel;by_cases hlt:i<n
  ·have t1:decide ((i:Int)<(n:Int))=EJ:=IJ U;rcases HR.out with e|⟨b,off,rfl,hc⟩;·have:=HN.out;rw[e] at this;simp at this;omega
   ·have hil:i<xs.length:=kV;have hc:=hc i hil;have hx:=HB.out xs[i] (gh _);have HS:Ed (Ug (xs.take (i+1))=jG (Ug (xs.take i)) xs[i]):=J Vr;have hin:=CY (xs.take i);generalize Ug (xs.take i)=z at*;go_wp2_with fail;refine(EdU z xs[i] _ hin hx).mono ?_;exact EqI
  ·exact Erw
theorem Vs(x:Int)(k:Nat)(hx:x=k)(hk:k<=1000000000000)(W:M): (Instr.makeSlice 23 (E I 0) (E I x)).run EZ W= .ok (G (D ⟨W.heap.size,0,Z⟩) 0 k) (W.alloc (Eb (bZ #[E .u8 0] k) 5)):=by subst hx;obtain⟨i0,hi,hz0,hz1,hz2⟩:=au jl;have h:=run_make (P:=EZ) W 23 5 i0 _ aJ hi hz0 .i64 .i64 0 k U U (by rw[hz2];omega) U;rw[h,hz1,kn,Nat.mul_one];rfl
theorem Vt(w:M)(base k:Nat)(hb:base<=w.heap.size)(hk:k<=1000000000000):Own (w.alloc (Eb (bZ #[E .u8 0] k) 5)) base (D ⟨w.heap.size,0,Z⟩) k []:=by refine⟨⟨O,.inr ⟨w.heap.size,k,bZ #[E .u8 0] k,O,hb,?_,aO _,J8,by simp[bZ],Ej⟩⟩,fun x hx=>uB⟩;exact H.new w _ _
theorem Vu(w:M)(xs:List Int)(h: ∀x∈xs,0<=x/\x<=255)(cs:Array Y)(hc:cs=(xs.map (E .u8)).toArray):Row (w.alloc (Eb cs 5)) (D ⟨w.heap.size,0,Z⟩) xs:=by subst hc;refine⟨.inr ⟨w.heap.size,0,O,fun i hi=> ?_⟩,h⟩;rw[H.cell (H.new w (xs.map (E .u8)).toArray 5),J2,Ox];simp[hi]
theorem EdX(h:Row w A xs)(g:Nat)(hg:A=D ⟨g,0,Z⟩)(k:Nat):Row w (D ⟨g,k,Z⟩) (xs.drop k):=by
 obtain⟨h1,h2⟩:=h;refine⟨?_,fun x hx=>h2 x (List.mem_of_mem_drop hx)⟩;rcases h1 with e|⟨b,off,e,hc⟩;·left;rw[e];simp
 ·right;rw[hg] at e;injection e with e;injection e with e1 e2 e3;subst e1 e2;refine⟨g,k,O,fun i hi=> ?_⟩;have hil:i<xs.length-k:=U5;have hh:=hc (k+i) U;rw[show 0+(k+i)=k+i from U] at hh;rw[hh];simp
theorem EdZ(n:Nat)(h:n<=255):IntKind.u8.wrap (n:Int)=n:=GH
theorem Eda(A:Option Ep)(xs:List Int)(n c:Nat)(w:M)(hn:xs.length=n)(hr:Row w A xs)(hm:n<=9223372036854775807): Eg EZ 166 #[G A n c] w fun e w'=>(∃A' n' c' x,e=Ei (Eu #[G A' n' c',E I x]))/\El w w':=by
 have HR:=J hr;have HN:=J hn;clear hr hn;by_cases h:n<=32
 ·have t1:decide ((32:Int)<(n:Int))=EI:=IZ U;have hmk: ∀W:M,(Instr.makeSlice 23 (E I 0) (E I (3+(n:Int)+2))).run EZ W= .ok (G (D ⟨W.heap.size,0,Z⟩) 0 (n+5)) (W.alloc (Eb (bZ #[E .u8 0] (n+5)) 5)):=Vs _ _ U U;have cv:IntKind.u8.wrap (n:Int)=n:=EdZ n U;have O1:=J<|Vt w w.heap.size (n+5) (E3 _) U;have B1:=J<|Er w (Eb (bZ #[E .u8 0] (n+5)) 5);go_enter Tryz.func166,Tryz.ntmps166;go_wp2_with (with_reducible refine JE 18 ?_);apply Es;generalize w.alloc (Eb (bZ #[E .u8 0] (n+5)) 5)=w1 at*;have R2:=J<|Vu w1 [165,1,(n:Int)] (by intro x hx;simp at hx;omega) _ O;have BL:=J<|Er w1 (Eb ([165,1,(n:Int)].map (E .u8)).toArray 5);replace O1:=J<|XM O1.out BL.out;replace B1:=EV B1 BL.out;simp only[UB,Xn] at O1 R2 B1;clear BL;go_wp2_with ((with_reducible refine Io 19 ?_);(with_reducible refine nr _ (Eh O) (.tmp 14) (.tmp 18) O w.heap.size (D ⟨w.heap.size,0,Z⟩) (n+5) 0 [] O ?_ O1.out (D ⟨w1.heap.size,0,Z⟩) 3 3 [165,1,(n:Int)] O ?_ R2.out U B1.out.size ?_);(·rfl);(·rfl);intro A2 c2 w3 o3 b3 k3;refine Ex.mk ?_);apply Es;replace O1:Ed (Own w3 w.heap.size A2 c2 [165,1,(n:Int)]):=J o3;replace B1:=J<|B1.out.trans b3;clear b3 k3 o3 R2;go_wp2_with ((with_reducible refine Io 22 ?_);(with_reducible refine nr _ (Eh O) (.tmp 20) (.tmp 21) O w.heap.size A2 c2 3 [165,1,(n:Int)] O ?_ O1.out A c n xs HN.out ?_ (HR.out.B B1.out) U B1.out.size ?_);(·rfl);(·rfl);intro A3 c3 w4 o4 b4 k4;refine Ex.mk ?_);apply Es;replace O1:=J o4;replace B1:=J<|B1.out.trans b4;clear b4 k4 o4;have HL:Ed (([165,1,(n:Int)]++xs).length=n+3):=J td;rw[show 3+n=n+3 from U];generalize [165,1,(n:Int)]++xs=ys at*;obtain⟨g3,Emp,rfl,lg3,kg3,cu3,Vv⟩:=Vf O1.out Hd;have hc3:n+3<=c3:=by rw[<-HL.out];exact Vv
  have HRW:=J<|EdX O1.out.row g3 O 1;have qZ:Ed ((ys.drop 1).length=n+2):=J (by rw[il,HL.out];omega);generalize ys.drop 1=zs at*;clear kg3 cu3 Vv;go_wp2_with fail;refine(Vq (D ⟨g3,1,Z⟩) zs (n+2) _ _ qZ.out HRW.out U).mono ?_;rintro e w5 ⟨rfl,rfl⟩;have hci:=CY zs;generalize Ug zs=s at*;go_wp2_with (with_reducible refine JE 32 ?_);apply Es;have R5:=J<|Vu w4 [s/256,s%256] (by intro x hx;simp at hx;omega) _ O;have BL:=J<|Er w4 (Eb ([s/256,s%256].map (E .u8)).toArray 5);replace O1:=J<|XM O1.out BL.out;replace B1:=EV B1 BL.out;simp only[UB,Xn] at O1 R5 B1;clear BL;go_wp2_with ((with_reducible refine Io 33 ?_);(with_reducible refine nr _ (Eh O) (.tmp 26) (.tmp 32) O w.heap.size (D ⟨g3,0,Z⟩) c3 (n+3) ys HL.out ?_ O1.out (D ⟨w4.heap.size,0,Z⟩) 2 2 [s/256,s%256] O ?_ R5.out U B1.out.size ?_);(·rfl);(·rfl);intro A6 c6 w6 o6 b6 k6;refine Ex.mk ?_);apply Es;replace B1:=J<|B1.out.trans b6;clear b6 k6 o6;go_wp2;go_ret2;exact⟨⟨_,_,_,_,O⟩,B1.out⟩
 ·have t1:decide ((32:Int)<(n:Int))=EJ:=IJ U;go_enter Tryz.func166,Tryz.ntmps166;go_wp2;go_ret2;exact⟨⟨_,_,_,_,O⟩,IU _ _⟩
def OZ(c:Ey):List Y:=[E I c.mode,E I c.pt.c,E I c.pt.n0,E I c.pt.n1,E I c.pt.n2,E I c.pt.n3,E I c.En.r,E I c.En.s,E I c.En.q,E I c.pt.b.r,E I c.pt.b.s,E I c.pt.b.q]
def Jh(act:List Y)(sv rv:Y)(hd:List Int):List Y:=act++([sv,rv]++hd.map (E .u8))
theorem fK:IL EZ 43 46:=⟨⟨_,Tryz.underlying43,O⟩,Ef⟩
theorem Edd(c:Ey)(A Y4:Option Ep)(n m d f:Nat)(h0 h1 h2 h3 h4 h5 h6 h7 h8 h9 h10 h11 h12 iK lv C_ h16 nT h18 h19 h20 h21 h22 h23 DE qi DI h27 DJ DO DU h31:Int):Tryz.prog.built 43 [(0,Ea #[E I c.mode,E I c.pt.c,E I c.pt.n0,E I c.pt.n1,E I c.pt.n2,E I c.pt.n3,E I c.En.r,E I c.En.s,E I c.En.q,E I c.pt.b.r,E I c.pt.b.s,E I c.pt.b.q]),(1,G A n d),(2,G Y4 m f),(3,Ea ([h0,h1,h2,h3,h4,h5,h6,h7,h8,h9,h10,h11,h12,iK,lv,C_,h16,nT,h18,h19,h20,h21,h22,h23,DE,qi,DI,h27,DJ,DO,DU,h31].map (E .u8)).toArray)]=D (Jh (OZ c) (G A n d) (G Y4 m f) [h0,h1,h2,h3,h4,h5,h6,h7,h8,h9,h10,h11,h12,iK,lv,C_,h16,nT,h18,h19,h20,h21,h22,h23,DE,qi,DI,h27,DJ,DO,DU,h31]).toArray:=Ef
theorem Edf(c:Ey)(A Y4:Option Ep)(n m d f:Nat)(hd:List Int)(h:hd.length=32):Tryz.prog.built 43 [(0,Ea #[E I c.mode,E I c.pt.c,E I c.pt.n0,E I c.pt.n1,E I c.pt.n2,E I c.pt.n3,E I c.En.r,E I c.En.s,E I c.En.q,E I c.pt.b.r,E I c.pt.b.s,E I c.pt.b.q]),(1,G A n d),(2,G Y4 m f),(3,Ea (hd.map (E .u8)).toArray)]=D (Jh (OZ c) (G A n d) (G Y4 m f) hd).toArray:=by
 match hd,h with
 |[h0,h1,h2,h3,h4,h5,h6,h7,h8,h9,h10,h11,h12,iK,lv,C_,h16,nT,h18,h19,h20,h21,h22,h23,DE,qi,DI,h27,DJ,DO,DU,h31],_=>exact Edd c A Y4 n m d f h0 h1 h2 h3 h4 h5 h6 h7 h8 h9 h10 h11 h12 iK lv C_ h16 nT h18 h19 h20 h21 h22 h23 DE qi DI h27 DJ DO DU h31
theorem Vw(lo hi:Nat)(g:Nat->Y)(gc gq gt gs:Nat)(c:Ey)(ns:Nat)(rs:List Rec)(w:M)(S:E9 lo hi g gc gq gt gs c ns rs w): Eg EZ 46 #[V (D ⟨gs,0,Z⟩)] w fun e w'=> ∃(sv rv:Y) (sc:ta) (hd:List Int),e=Ei (Ea (Jh (OZ c) sv rv hd).toArray)/\hd.length=32/\(∀x∈hd,0<=x/\x<=255)/\w'.ownsRow hi 264 2 sv ns sc.l/\w'.ownsRow hi 58 6 rv rs.length (UC rs)/\El w w':=by
 obtain⟨sv,rv,sc,KS,OS,OR⟩:=S.fH;obtain⟨d0,d1,d2,hd,KG,o0,o1,o2,XI,XF⟩:=S.core.Ek;have HF:=J<|Oo (c:=c) (gq:=gq) (gt:=gt) (hd:=hd) (JC g) o0 o1 o2 12 U;have qZ:=J (show(hd.map (E .u8)).length=32 by simp[XI]);obtain⟨A1,e1,rfl,-⟩:=aK OS;obtain⟨A2,e2,rfl,-⟩:=aK OR;have BT:=J<|Edf c A1 A2 ns rs.length e1 e2 hd XI;have SZ:=J (show(Jh (OZ c) (G A1 ns e1) (G A2 rs.length e2) hd).toArray.size=46 by simp[Jh,OZ,XI]);have ONE:=J<|show(Jh (OZ c) (G A1 ns e1) (G A2 rs.length e2) hd).toArray.all (·.oneCell')=EJ from all_oneCell_toArray (by intro v hv;simp only[Jh,OZ,Xp,UJ,Um,or_false,dw] at hv;rcases hv with hv|(rfl|rfl)|⟨x,-,rfl⟩<;>first|rfl|(rcases hv with rfl|rfl|rfl|rfl|rfl|rfl|rfl|rfl|rfl|rfl|rfl|rfl<;>rfl));have KS:=J KS;have KG:=J KG;have CC:=J<|fun(W:M) (K:Jl W gc (aG (EL 56 g).toList c gq gt d0 d1 d2 hd) 120) (k:Nat) (hk:k<13) (old:List Y) (ho:(aG (EL 56 g).toList c gq gt d0 d1 d2 hd)[k]?=D old) (j:Nat) (hj:j<old.length)=>Lw K o0 o1 o2 k hk ho j hj;have HB:=J (show hd.length=32/\ ∀x∈hd,0<=x/\x<=255 from⟨XI,XF⟩);have OS:=J OS;have OR:=J OR;clear S o0 o1 o2 XI XF;go_enter Tryz.func46,Tryz.ntmps46;go_wp2_with fail;generalize hW:Xo _ _=w1 at*;have K2:Ed (∃z:Array Y,z.size=46/\H w1 w.heap.size z 43):=J ⟨_,O,hW▸H.new _ _ _⟩;have b1:El w w1:=hW▸Er w _;replace KS:=J<|KS.out.B b1;replace KG:=J<|KG.out.B b1;replace OS:=J<|EG OS.out fun _ _ h=>H.B h b1;replace OR:=J<|EG OR.out fun _ _ h=>H.B h b1;have u:=J b1;clear hW b1;have cs0: ∀y:Ext w1,(EC w1 y).cell? ⟨gs,0,Z⟩=D (V (D ⟨gc,0,Z⟩)):=fun y=>(H.cell (KS.out.B (EQ y)) 0).trans O;have cs1: ∀y:Ext w1,(EC w1 y).cell? ⟨gs,1,Z⟩=D (G A1 ns e1):=fun y=>(H.cell (KS.out.B (EQ y)) 1).trans O;have cs2: ∀y:Ext w1,(EC w1 y).cell? ⟨gs,2,Z⟩=D (G A2 rs.length e2):=fun y=>(H.cell (KS.out.B (EQ y)) 2).trans O;have Edg: ∀y:Ext w1,(EC w1 y).cell? ⟨gc,98,Z⟩=D (E I c.mode):=fun y=>CC.out _ (KG.out.B (EQ y)) 9 U _ O 0 gP;have Edh: ∀y:Ext w1,(EC w1 y).cell? ⟨gc,99,Z⟩=D (E I c.En.r):=fun y=>CC.out _ (KG.out.B (EQ y)) 10 U _ O 0 gP;have Edi: ∀y:Ext w1,(EC w1 y).cell? ⟨gc,100,Z⟩=D (E I c.En.s):=fun y=>CC.out _ (KG.out.B (EQ y)) 10 U _ O 1 gP;have Edj: ∀y:Ext w1,(EC w1 y).cell? ⟨gc,101,Z⟩=D (E I c.En.q):=fun y=>CC.out _ (KG.out.B (EQ y)) 10 U _ O 2 gP;have Edk: ∀y:Ext w1,(EC w1 y).cell? ⟨gc,102,Z⟩=D (E I c.pt.c):=fun y=>CC.out _ (KG.out.B (EQ y)) 11 U _ O 0 gP;have Edl: ∀y:Ext w1,(EC w1 y).cell? ⟨gc,107,Z⟩=D (E I c.pt.n0):=fun y=>CC.out _ (KG.out.B (EQ y)) 11 U _ O 5 gP;have Edm: ∀y:Ext w1,(EC w1 y).cell? ⟨gc,108,Z⟩=D (E I c.pt.n1):=fun y=>CC.out _ (KG.out.B (EQ y)) 11 U _ O 6 gP;have Edn: ∀y:Ext w1,(EC w1 y).cell? ⟨gc,109,Z⟩=D (E I c.pt.n2):=fun y=>CC.out _ (KG.out.B (EQ y)) 11 U _ O 7 gP;have Edo: ∀y:Ext w1,(EC w1 y).cell? ⟨gc,110,Z⟩=D (E I c.pt.n3):=fun y=>CC.out _ (KG.out.B (EQ y)) 11 U _ O 8 gP;have Edp: ∀y:Ext w1,(EC w1 y).cell? ⟨gc,111,Z⟩=D (E I c.pt.b.r):=fun y=>CC.out _ (KG.out.B (EQ y)) 11 U _ O 9 gP;have Edq: ∀y:Ext w1,(EC w1 y).cell? ⟨gc,112,Z⟩=D (E I c.pt.b.s):=fun y=>CC.out _ (KG.out.B (EQ y)) 11 U _ O 10 gP;have Edr: ∀y:Ext w1,(EC w1 y).cell? ⟨gc,113,Z⟩=D (E I c.pt.b.q):=fun y=>CC.out _ (KG.out.B (EQ y)) 11 U _ O 11 gP;refine Oa 54 Ef Ef ?_;simp only[Is,Iq,IT,IM]
 repeat (first
  |go_big_quiet_skip
  |(go_big_quiet_want
    first
     |(refine Zf (T:=41) (g:=gc) (off:=114) UX _ rfl rfl KG 12 rfl HF.out qZ.out ?_;go_simp;go_big_quiet_on)
     |(go_big_quiet_op
       first
        |go_big_quiet_on
        |go_big_quiet_call (fail))))
 refine I5 ?_;intro _ hw';obtain⟨y9,rfl⟩:=hw';have En:=EQ y9;replace OS:=J<|EG OS.out fun _ _ h=>H.B h En;replace OR:=J<|EG OR.out fun _ _ h=>H.B h En;replace u:=EV u En;obtain⟨z,hz,kz⟩:=K2.out;have KZ:=J<|H.B kz En;have HZ:=J hz;clear cs0 cs1 cs2 En kz hz K2 KG KS Edg Edh Edi Edj Edk Edl Edm Edn Edo Edp Edq Edr;generalize EC w1 y9=w2 at*;obtain⟨tv,E2⟩: ∃tv,tv=(Jh (OZ c) (G A1 ns e1) (G A2 rs.length e2) hd).toArray:=⟨_,O⟩;rw[<-E2] at BT SZ ONE;replace E2:=J E2;go_wp2_with (first|((with_reducible refine Io 57 ?_);refine I4 rfl 43 _ rfl tv BT.out ?_)|(with_reducible refine wS (cs:=tv) fK KZ ?_ (ho:=HZ.out) (hn:=SZ.out) (h1:=ONE.out)));refine ET (Jd fK O _ _ w.heap.size tv O (KZ.out.setRow tv) SZ.out) O ?_;refine⟨G A1 ns e1,G A2 rs.length e2,sc,hd,by rw[E2.out],HB.out.1,HB.out.2,?_,?_,EY (g:=w.heap.size) u.out (E3 _) tv⟩;·exact EG OS.out fun _ _ h=>H.setRow_other h _ _ (E6 h KZ.out EU)
 ·exact EG OR.out fun _ _ h=>H.setRow_other h _ _ (E6 h KZ.out EU)
theorem Eds(l:List Int)(w:M)(hl:dK l):Eg EZ 165 #[Ea (JJ l)] w fun e w'=> ∃(A:Option Ep) (n c:Nat) (x:Int) (xs:List Int),e=Ei (Eu #[G A n c,E I x])/\xs.length=n/\Row w' A xs/\n<=9223372036854775807/\El w w':=by
 refine(Ecx l w hl).mono fun e w' ⟨h,hb⟩=> ?_;cases hp:nS l with
 |none=> rw[hp] at h;exact⟨Z,0,0,1,[],h,O,⟨.inl O,Ej⟩,U,hb⟩
 |some bs=>
  rw[hp] at h;obtain⟨A,c,base,he,ho⟩:=h;refine⟨A,bs.length,c,0,bs,he,O,ho.row,?_,hb⟩;rcases ho.1.2 with⟨hv,hn⟩|⟨g,cap',cur,hv,hg,hh,hl,hm,hs,ht⟩;·omega
  ·unfold maxLen at hm;omega
theorem Vx: ∃i,Tryz.prog.info? 264=D i/\i.zero=D (Ea #[E I 0,G Z 0 0])/\i.size=2/\i.bytes=32:=by have h:(Tryz.prog.info? 264).map (fun i=>(i.zero,i.size,i.bytes))=D (D (Ea #[E I 0,G Z 0 0]),2,32):=Ef;exact EoA
theorem wE(lo hi:Nat)(g:Nat->Y)(gc gq gt gs:Nat)(c:Ey)(ns:Nat)(rs:List Rec)(l:List Int)(k:Int)(w:M)(S:E9 lo hi g gc gq gt gs c ns rs w)(hl:dK l)(hn:ns<1000000): Eg EZ 122 #[V (D ⟨gs,0,Z⟩),E I k,Ea (JJ l)] w fun e w'=>e=Ei (Eu #[])/\E9 lo hi g gc gq gt gs c (ns+1) rs w'/\EA lo hi w w':=by have lD:=J S;have HH:=J (show hi<=w.heap.size by obtain⟨_,_,_,KS,_⟩:=S.fH;have:=S.his;have:=KS.lt;omega);have vY:=J<|show lo<=gs from Ew S.dO S.his;have IR:=J Vx;have CP:=J<|fun W=>Eds l W hl;have hsz:Ed ((JJ l).size=14):=J<|pY l;have hone:=J<|Ld l;clear hl S;obtain⟨mv,hmv⟩:=Eo (JJ l);rw[<-hmv] at hsz hone CP⊢;clear hmv;go_enter Tryz.func122,Tryz.ntmps122;go_wp2_with (((with_reducible refine Xm 222 ?_);(with_reducible refine aI (g:=w.heap.size) Ck ?_ ?_ (J (H.new w mv 222)) ?_ ?_);(·exact Eh O);(·exact⟨O,O⟩);(·exact hsz.out)));have b1:=Er w (Eb mv 222);generalize w.alloc (Eb mv 222)=w1 at*;refine(CP.out _).mono ?_;rintro e w2 ⟨A,n,cp,x,xs,rfl,hxl,hrow,hnm,b2⟩;replace b2:=b1.trans (b2.mono b1.size);clear b1;go_wp2_with fail;refine(Eda A xs n cp _ hxl hrow hnm).mono ?_;rintro e w3 ⟨⟨A',n',c',x',rfl⟩,b3⟩;replace b3:=b2.trans (b3.mono b2.size);clear b2 hxl hrow hnm CP;have S3:=lD.out.B b3;obtain⟨sv,rv,sc,KS,OS,OR⟩:=S3.fH;obtain⟨A0,c0,rfl,hnil⟩:=aK OS;have MM:=J<|EA.ED (lo:=lo) (hi:=hi) b3;have CB:=J S3.core;have HI3:=J<|Ew HH.out b3.size;replace KS:=J KS;replace OS:=J OS;replace OR:=J OR;clear S3 hnil b3;have cs1:w3.cell? ⟨gs,1,Z⟩=D (G A0 ns c0):=(H.cell KS.out 1).trans O;go_wp2_with (with_reducible refine JE 29 ?_);apply Es;have KB:=J<|H.new w3 #[E I k,G A' n' c'] 264;have bl:=Er w3 (Eb #[E I k,G A' n' c'] 264);replace KS:=J<|KS.out.B bl;replace OS:=J<|EG OS.out fun _ _ h=>H.B h bl;replace OR:=J<|EG OR.out fun _ _ h=>H.B h bl;replace CB:=J<|CB.out.B bl;replace MM:=J<|MM.out.trans (EA.ED bl);replace HI3:=J<|Ew HI3.out bl.size;clear cs1 bl;generalize w3.alloc (Eb #[E I k,G A' n' c'] 264)=w4 at*;generalize w3.heap.size=gb at*;obtain⟨A7,c7,w7,hrun,hown,hgr,-,-⟩:=aw (P:=EZ) w4 hi hi 39 39 264 IR.out.choose _ 2 32 Tryz.underlying39 IR.out.choose_spec.1 IR.out.choose_spec.2.1 IR.out.choose_spec.2.2.1 IR.out.choose_spec.2.2.2 rfl A0 c0 ns sc.l OS.out ⟨gb,0,Z⟩ 1 1 [E I k,G A' n' c'] O (fun j Y3 hu=>by rw[show(⟨gb,0,Z⟩:Ep).add j=⟨gb,j,Z⟩ from U3];rw[H.cell KB.out,J2];exact hu) bB (fun _=>U) J8 U HI3.out (E3 _);go_wp2_with ((with_reducible refine Io 29 ?_);(refine Jo (Eh O) (Ol O O O hrun) ?_);refine Ex.mk ?_);apply Es;have keep: ∀g2 c2 S2,S2≠264->H w4 g2 c2 S2->H w7 g2 c2 S2:=fun g2 c2 S2 hS k2=>Uw hgr k2 hS;replace KS:=J<|keep _ _ _ EU KS.out;replace OR:=J<|EG OR.out fun g2 c2 h2=>keep _ _ _ EU h2;replace CB:=J<|CB.out.via (fun k2 c2 S hS h2=>keep _ _ _ aZ h2) ((hgr.2.1 HI3.out).mono (by exact lD.out.dO));replace MM:=J<|MM.out.trans (EA.Vg hgr EU HI3.out);replace OS:=J hown;clear keep hgr hown hrun KB HI3;have cs1:w7.cell? ⟨gs,1,Z⟩=D (G A0 ns c0):=(H.cell KS.out 1).trans O;have ff:w7.frozen? ⟨gs,1,Z⟩=EI:=H.JZ KS.out 1;go_wp2;go_end0;have kk:=EdE KS.out (G A7 (ns+1) c7);have S2:=lD.out;refine⟨O,⟨CB.out.via (fun k2 c2 S hS h2=>h2.other gs 1 _ (dL h2 KS.out aZ)) (Vi vY.out _),S2.hc,S2.hq,S2.ht,S2.dO,S2.his,G A7 (ns+1) c7,rv,⟨sc.l++[E I k,G A' n' c'],fun Y3 hu=>by rcases Xp.1 hu with hu|hu;(·exact sc.one Y3 hu);(·simp at hu;rcases hu with rfl|rfl<;>rfl)⟩,kk,EG OS.out (fun g2 c2 h2=>h2.other gs 1 _ (dL h2 KS.out EU)),EG OR.out (fun g2 c2 h2=>h2.other gs 1 _ (dL h2 KS.out EU))⟩,MM.out.trans (EA.setCell KS.out EU vY.out 1 _)⟩
theorem E9.IB{g:Nat->Y}(S:E9 lo hi g gc gq gt gs c ns rs w):w.cell? ⟨gs,0,Z⟩=D (V (D ⟨gc,0,Z⟩)):=by obtain⟨sv,rv,sc,KS,-,-⟩:=S.fH;exact(H.cell KS 0).trans O
def coreC(p:List Y)(c:Ey)(gq gt:Nat)(k:Nat):Option (List Y):=match k with
 |0=>D p
 |1=>D c.tok.v
 |2=>D [V (D ⟨gq,0,Z⟩)]
 |6=>D [V (D ⟨gt,0,Z⟩)]
 |7=>D [E I c.samples]
 |8=>D [E I c.beyond]
 |9=>D [E I c.mode]
 |10=>D c.En.v
 |11=>D c.pt.v
 |_=>Z
theorem JU.cell{g:Nat->Y}(C:JU lo g gc gq gt c w)(k:Nat){old:List Y}(ho:coreC (EL 56 g).toList c gq gt k=D old)(j:Nat)(hj:j<old.length):w.cell? ⟨gc,lB k+j,Z⟩=old[j]?:=by
 obtain⟨d0,d1,d2,hd,KG,o0,o1,o2,-,-⟩:=C.Ek
 have hk:k<13:=by
  rcases JW k 13 with h|h;·exact h
  ·unfold coreC at ho;split at ho<;>first|omega|cases ho
 refine Lw KG o0 o1 o2 k hk ?_ j hj;unfold coreC at ho;split at ho<;>first|exact ho|cases ho
theorem Lz(s:Int)(w:M):Eg EZ 70 #[E I s] w fun e w'=>e=Ei (Ec (decide (1<=s/\s<=3)))/\w=w':=by
 by_cases h1:1<=s
 ·by_cases h2:s<=3;·rw[IJ (⟨h1,h2⟩:1<=s/\s<=3)];have t1:decide (1<=s)=EJ:=IJ h1;have t2:decide (s<=3)=EJ:=IJ h2;go_enter Tryz.func70,Tryz.ntmps70;go_wp2;go_ret;exact⟨O,O⟩
  ·rw[IZ (U: ¬(1<=s/\s<=3))];have t1:decide (1<=s)=EJ:=IJ h1;have t2:decide (s<=3)=EI:=IZ h2;go_enter Tryz.func70,Tryz.ntmps70;exact Enu
 ·rw[IZ (U: ¬(1<=s/\s<=3))];have t1:decide (1<=s)=EI:=IZ h1;go_enter Tryz.func70,Tryz.ntmps70;exact Enu
theorem DX(lo hi:Nat)(g:Nat->Y)(gc gq gt gs:Nat)(c:Ey)(ns:Nat)(rs:List Rec)(l:List Int)(k:Int)(w:M)(S:E9 lo hi g gc gq gt gs c ns rs w)(hl:dK l)(hn:ns<1000000): Eg EZ 141 #[V (D ⟨gs,0,Z⟩),E I k,Ea (JJ l)] w fun e w'=>e=Ei (Eu #[])/\(∃m,m<=1/\E9 lo hi g gc gq gt gs c (ns+m) rs w')/\EA lo hi w w':=by
 have lD:=J S;have TL:=J<|fun W (s:E9 lo hi g gc gq gt gs c ns rs W)=>wE lo hi g gc gq gt gs c ns rs l k W s hl hn;have hsz:Ed ((JJ l).size=14):=J<|pY l;have hone:=J<|Ld l;clear hl S;obtain⟨mv,hmv⟩:=Eo (JJ l);rw[<-hmv] at hsz hone TL⊢;clear hmv;go_enter Tryz.func141,Tryz.ntmps141;go_wp2_with fail;have KM:=J<|H.new w mv 222;have b1:=Er w (Eb mv 222);have S1:=J<|lD.out.B b1;have MM:=J<|EA.ED (lo:=lo) (hi:=hi) b1;clear b1;generalize w.alloc (Eb mv 222)=w1 at*;generalize w.heap.size=gm at*;have c0:=S1.out.IB;have c95:w1.cell? ⟨gc,95,Z⟩=D (V (D ⟨gt,0,Z⟩)):=S1.out.core.cell 6 rfl 0 Ej;refine(Lz k _).mono ?_;rintro e w2 ⟨rfl,rfl⟩;cases hlk:decide (1<=k/\k<=3) with
 |false=> go_wp2;go_end0;exact⟨O,⟨0,U,S1.out⟩,MM.out⟩
 |true=>
  go_wp2_with fail;refine(ny gt c.T k _ S1.out.core.tab S1.out.core.ok.T).mono ?_;rintro e w2 ⟨rfl,rfl⟩;cases hon:c.T.XN k with
  |false=> go_wp2;go_end0;exact⟨O,⟨0,U,S1.out⟩,MM.out⟩
  |true=> go_wp2_with (with_reducible refine wL Ck KM ?_ (hn:=hsz.out));refine(TL.out _ S1.out).mono ?_;rintro e w2 ⟨rfl,S2,M2⟩;go_wp2;go_end0;exact⟨O,⟨1,U,S2⟩,MM.out.trans M2⟩
theorem qj(a b c d e f:Int):dK [a,b,c,d,e,f,0,0,0,0,0,0,0,0]:=by exact EoD
theorem jH(lo hi:Nat)(g:Nat->Y)(gc gq gt gs:Nat)(c:Ey)(ns:Nat)(rs:List Rec)(k n:Int)(w:M)(S:E9 lo hi g gc gq gt gs c ns rs w)(hn:ns<1000000): Eg EZ 175 #[V (D ⟨gs,0,Z⟩),E I k,E I n] w fun e w'=>e=Ei (Eu #[])/\E9 lo hi g gc gq gt gs c (ns+1) rs w'/\EA lo hi w w':=by have BR:Tryz.prog.built 222 [(0,E I 131),(1,E I n)]=D (JJ [131,n,0,0,0,0,0,0,0,0,0,0,0,0]):=Ef;have TL:=J<|fun W (s:E9 lo hi g gc gq gt gs c ns rs W)=>wE lo hi g gc gq gt gs c ns rs [131,n,0,0,0,0,0,0,0,0,0,0,0,0] k W s (qj _ _ _ _ _ _) hn;have S:=J S;generalize JJ [131,n,0,0,0,0,0,0,0,0,0,0,0,0]=rv at*;go_enter Tryz.func175,Tryz.ntmps175;go_wp2_with ((with_reducible refine Io 9 ?_);refine I4 O 222 _ O rv BR ?_);refine(TL.out _ S.out).mono ?_;exact Ept
theorem ql(lo hi:Nat)(g:Nat->Y)(gc gq gt gs:Nat)(c:Ey)(ns:Nat)(rs:List Rec)(k who cd:Int)(w:M)(S:E9 lo hi g gc gq gt gs c ns rs w)(hn:ns<1000000): Eg EZ 99 #[V (D ⟨gs,0,Z⟩),E I k,E I who,E I cd] w fun e w'=>e=Ei (Eu #[])/\(∃m,m<=1/\E9 lo hi g gc gq gt gs c (ns+m) rs w')/\EA lo hi w w':=by have BR:Tryz.prog.built 222 [(0,E I 136),(3,E I who),(5,E I cd)]=D (JJ [136,0,0,who,0,cd,0,0,0,0,0,0,0,0]):=Ef;have TL:=J<|fun W (s:E9 lo hi g gc gq gt gs c ns rs W)=>DX lo hi g gc gq gt gs c ns rs [136,0,0,who,0,cd,0,0,0,0,0,0,0,0] k W s (qj _ _ _ _ _ _) hn;have S:=J S;generalize JJ [136,0,0,who,0,cd,0,0,0,0,0,0,0,0]=rv at*;go_enter Tryz.func99,Tryz.ntmps99;go_wp2_with ((with_reducible refine Io 12 ?_);refine I4 O 222 _ O rv BR ?_);refine(TL.out _ S.out).mono ?_;exact Ept
theorem tf(lo hi:Nat)(g:Nat->Y)(gc gq gt gs:Nat)(c:Ey)(ns:Nat)(rs:List Rec)(k cd:Int)(w:M)(S:E9 lo hi g gc gq gt gs c ns rs w)(hl:rs.length<1000000): Eg EZ 84 #[V (D ⟨gs,0,Z⟩),E I k,E I cd] w fun e w'=>e=Ei (Eu #[])/\E9 lo hi g gc gq gt gs c ns (rs++[⟨1,k,0,c.tok.e,cd,0⟩]) w'/\EA lo hi w w':=by have S:=J S;go_enter Tryz.func84,Tryz.ntmps84;go_wp2_with fail;refine(ZD lo hi g gc gq gt gs c ns rs 1 k 0 cd 0 _ S.out hl).mono ?_;exact Ept
theorem iL(lo hi:Nat)(g:Nat->Y)(gc gq gt gs:Nat)(c:Ey)(ns:Nat)(rs:List Rec)(k n cd:Int)(w:M)(S:E9 lo hi g gc gq gt gs c ns rs w)(hn:ns<1000000)(hl:rs.length<1000000): Eg EZ 120 #[V (D ⟨gs,0,Z⟩),E I k,E I n,E I cd] w fun e w'=>e=Ei (Eu #[])/\E9 lo hi g gc gq gt gs c (ns+1) (rs++[⟨7,k,n,c.tok.e,cd,0⟩]) w'/\EA lo hi w w':=by have BR:Tryz.prog.built 222 [(0,E I 132),(1,E I n),(5,E I cd)]=D (JJ [132,n,0,0,0,cd,0,0,0,0,0,0,0,0]):=Ef;have TL:=J<|fun W (s:E9 lo hi g gc gq gt gs c ns rs W)=>wE lo hi g gc gq gt gs c ns rs [132,n,0,0,0,cd,0,0,0,0,0,0,0,0] k W s (qj _ _ _ _ _ _) hn;have S:=J S;generalize JJ [132,n,0,0,0,cd,0,0,0,0,0,0,0,0]=rv at*;go_enter Tryz.func120,Tryz.ntmps120;go_wp2_with ((with_reducible refine Io 12 ?_);refine I4 O 222 _ O rv BR ?_);refine(TL.out _ S.out).mono ?_;rintro e w2 ⟨rfl,S2,M2⟩;go_wp2_with fail;refine(ZD lo hi g gc gq gt gs c (ns+1) rs 7 k n cd 0 _ S2 hl).mono ?_;rintro e w3 ⟨rfl,S3,M3⟩;go_wp2;go_end0;exact⟨O,S3,M2.trans M3⟩
end Go.Proofs.YtclmichaaiohjaaGreatDoor
