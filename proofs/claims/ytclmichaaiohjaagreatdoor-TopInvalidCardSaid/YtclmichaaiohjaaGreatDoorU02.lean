import Derived.Test.YtclmichaaiohjaaGreatDoorU01
import Derived.Laws.BitsAllLaws
import Derived.Laws.BytesArg
import Derived.Laws.EntriesVeiled
import Derived.Lib.BitFns
import Derived.Lib.Slices
import Derived.Lib.Small
import Derived.Lib.Strings
import Derived.Maps.AppendAt
import Derived.Outline
import Derived.OwnWalk
import Derived.StillTailTactics
set_option maxRecDepth 100000
set_option linter.unusedVariables false
set_option linter.unusedSimpArgs false
set_option maxHeartbeats 6400000
namespace Go.Proofs.YtclmichaaiohjaaGreatDoor
open RowKit
open _root_.Array renaming getElem?_eq_none->fD
open Bool renaming true->EI,false->V,false_eq_true->jq
open Go renaming bits->Iu,World->M,Calls->Eg,TypeId->Ez,Value->G,Addr->Ev,Program->Jd,bodyPost_ret->EV,results->UW,Exit->UL,Act->E2,Oper->EG,yielded->Ja,execOp->Ig,wpList->Ih,undef->Iv,Operand->JN,info_parts->bZ,madeCells->az,below_setRow->E6,wpQuiet_nil->I2,method->XM,callFunc->Ji,wp_loop_rounds->OJ,rounds_succ->Ib,results_none->UC,Ending->Uv,wpList_store_mid->Um
open Act renaming put->Ic
open BinOp renaming and->jA
open Builtin renaming append_->bX
open DataW renaming trod->Zr
open Ending renaming returned->Eh
open Instr renaming loadAt->dZ,sureAddr->bI,index->Ua
open IntKind renaming wrap->na,bits->jZ,signed->ja,i64->I,u8->IT,u64->Il,u32->Of
open Lib renaming hid->J
open Obj renaming cells->Ec
open Oper renaming wp->cE,quietAt->ik
open Go.Proofs.Tryz renaming prog->Ea,underlying23->ba,func156->jB,ntmps156->jC
open Region renaming wanted->I8
open Result renaming andThen_ok->On
open RowKit renaming Below->Ir,Hid->Ed,intOf->I5
open RowKit.Below renaming refl->E_,heap_setCell->ax,alloc->J1,setCell->J5
open Sem renaming run_bind->Om,run_pure->Oa,run->Ul
open Value renaming bool->EU,int->E,agg->EZ,slice->EJ,tuple->Es,pointer->Y,oneCell'->Ov,ownBlock->lu
open World renaming block_lt_of_cell?->UV,alloc->XX,ownsRow_nil->bw
open Int renaming toNat_natCast->kL,eq_ofNat_of_zero_le->ib
open List renaming getElem?_eq_none->am,mem_of_mem_take->fC,eq_nil_of_length_eq_zero->ao,getElem?_eq_getElem->JY,range->UM,cons_append->lI,take_succ_cons->Is,drop_eq_getElem_cons->lO,length_take->ZJ,replicate->dg,take_of_length_le->OV,getD_eq_getElem?_getD->Uj,getElem?_append_left->bO,getElem?_take_of_lt->bU,getElem?_append_right->ay,map_cons->Xs,map_nil->Zu,take_zero->Io,mem_map->bc,getElem?_toArray->J0,setIfInBounds_toArray->Ii,length_append->I1,flatMap_cons->nA,length_cons->Zw,mem_cons->OY,getElem_mem->dW,getElem?_map->ls,append_assoc->UY,set_cons_succ->IJ,set_cons_zero->IU,mem_append->Xt,map_append->jr,nil_append->cX,length_drop->ly,getElem?_cons_zero->jt,not_mem_nil->Uu,drop_succ_cons->IS,drop_zero->IM,append_nil->fX
open Nat renaming lt_or_ge->JW,le_trans->EB,le_refl->E9,zero_add->J9
open Ne renaming symm->X1
open Option renaming some->X,none->Z
open KQ
variable{w w' W:M}{base cap g n:Nat}{A:Option Ev}{xs l k:List Int}{ops:Array EG}{rest:List EG}{o:EG}{Q:UL->E2->M->Prop}{cs:Array G}{P:Jd}{gp:G}{T:ET}{K:E2->Prop}
def Jt:List One->List One
 |[a,b]=>if less b a then [b,a] else [a,b]
 |[a,b,c]=>if less b a then(if less c a then(if less c b then [c,b,a] else [b,c,a]) else [b,a,c]) else(if less c b then(if less c a then [c,a,b] else [a,c,b]) else [a,b,c])
 |l=>l
theorem fP: ∀(L:List One),(Jt L).length=L.length
 |[]=>rfl
 |[_]=>rfl
 |[a,b]=>by simp only[Jt];split<;>rfl
 |[a,b,c]=>by
  simp only[Jt];repeat' split
  all_goals rfl
 |_::_::_::_::_=>rfl
theorem EII(g:Nat)(a b:One)(rest:List G)(c:Nat)(w:M)(K:Ln w g [a,b] rest): Eg Ea 191 #[.iface 149 (EJ (X ⟨g,0,Z⟩) 2 c),E I 0,E I 2] w fun e w'=>e=Eh (Es #[])/\Ln w' g (Jt [a,b]) rest/\E3 g w w':=by
 have mL: ∀w,Ul Ea (XM 460 149 (EJ (X ⟨g,0,Z⟩) 2 c) "Less") w= .ok (273,EJ (X ⟨g,0,Z⟩) 2 c) w:=fun _=>Ef;have mS: ∀w,Ul Ea (XM 460 149 (EJ (X ⟨g,0,Z⟩) 2 c) "Swap") w= .ok (274,EJ (X ⟨g,0,Z⟩) 2 c) w:=fun _=>Ef;have eL: ∀(args:Array G) (W:M),(Ji 273 args).run Ea W= .ok (.enter 273 args) W:=fun _ _=>Ef;have eS: ∀(args:Array G) (W:M),(Ji 274 args).run Ea W= .ok (.enter 274 args) W:=fun _ _=>Ef;have K:=J K;have ON:=J<|E3.refl g w;go_enter Tryz.func191,Tryz.ntmps191;(iterate 2 go_wp2_with fail;refine OJ 3 ?_;rw[Ib]);go_wp2_with fail;have C1:Eg Ea 273 #[EJ (X ⟨g,0,Z⟩) 2 c,E I 1,E I 0] w _:=iZ g [a,b] rest 2 c 1 0 b a U U U w K.out;replace C1:=J C1;cases l1:less b a;·rw[l1] at C1;refine C1.out.mono ?_;rintro e w1 ⟨rfl,b1⟩;replace K:Ed (Ln w1 g [a,b] rest):=EP K b1;replace ON:=J<|ON.out.trans (E3.EC b1);have h1:=J l1;clear b1 C1 l1;go_wp2_with fail;rw[Ib];exact EmL
 ·rw[l1] at C1;refine C1.out.mono ?_;rintro e w1 ⟨rfl,b1⟩;replace K:Ed (Ln w1 g [a,b] rest):=EP K b1;replace ON:=J<|ON.out.trans (E3.EC b1);have h1:=J l1;clear b1 C1 l1;go_wp2_with fail;have C2:Eg Ea 274 #[EJ (X ⟨g,0,Z⟩) 2 c,E I 1,E I 0] w1 _:=di g [a,b] rest 2 c 1 0 b a U U U w1 K.out;refine C2.mono ?_;rintro e w2 ⟨rfl,k2,o2⟩;replace K:Ed (Ln w2 g [b,a] rest):=J k2;replace ON:=J<|ON.out.trans o2;clear k2 o2 C2;(iterate 2 go_wp2_with fail;rw[Ib]);exact EmL
theorem EIJ(g:Nat)(a b d:One)(rest:List G)(c:Nat)(w:M)(K:Ln w g [a,b,d] rest): Eg Ea 191 #[.iface 149 (EJ (X ⟨g,0,Z⟩) 3 c),E I 0,E I 3] w fun e w'=>e=Eh (Es #[])/\Ln w' g (Jt [a,b,d]) rest/\E3 g w w':=by
 have mL: ∀w,Ul Ea (XM 460 149 (EJ (X ⟨g,0,Z⟩) 3 c) "Less") w= .ok (273,EJ (X ⟨g,0,Z⟩) 3 c) w:=fun _=>Ef;have mS: ∀w,Ul Ea (XM 460 149 (EJ (X ⟨g,0,Z⟩) 3 c) "Swap") w= .ok (274,EJ (X ⟨g,0,Z⟩) 3 c) w:=fun _=>Ef;have eL: ∀(args:Array G) (W:M),(Ji 273 args).run Ea W= .ok (.enter 273 args) W:=fun _ _=>Ef;have eS: ∀(args:Array G) (W:M),(Ji 274 args).run Ea W= .ok (.enter 274 args) W:=fun _ _=>Ef;have K:=J K;have ON:=J<|E3.refl g w;go_enter Tryz.func191,Tryz.ntmps191;go_wp2_with fail;refine OJ 4 ?_;rw[Ib];go_wp2_with fail;refine OJ 3 ?_;rw[Ib];go_wp2_with fail;have C1:Eg Ea 273 #[EJ (X ⟨g,0,Z⟩) 3 c,E I 1,E I 0] w _:=iZ g [a,b,d] rest 3 c 1 0 b a U U U w K.out;replace C1:=J C1;cases l1:less b a
 ·
   rw[l1] at C1;refine C1.out.mono ?_;rintro e w1 ⟨rfl,b1⟩;replace K:Ed (Ln w1 g [a,b,d] rest):=EP K b1;replace ON:=J<|ON.out.trans (E3.EC b1);have h1:=J l1;clear b1 C1 l1;go_wp2_with fail;rw[Ib];go_wp2_with fail;refine OJ 3 ?_;rw[Ib];go_wp2_with fail;have C2:Eg Ea 273 #[EJ (X ⟨g,0,Z⟩) 3 c,E I 2,E I 1] w1 _:=iZ g [a,b,d] rest 3 c 2 1 d b U U U w1 K.out;replace C2:=J C2;cases l2:less d b;·rw[l2] at C2;refine C2.out.mono ?_;rintro e w2 ⟨rfl,b2⟩;replace K:Ed (Ln w2 g [a,b,d] rest):=EP K b2;replace ON:=J<|ON.out.trans (E3.EC b2);have h2:=J l2;clear b2 C2 l2;go_wp2_with fail;rw[Ib];go_wp2;go_end0;refine⟨U,?_,ON.out⟩;simp only[Jt,h1.out,h2.out,if_true,jq,if_false];exact K.out
   ·
     rw[l2] at C2;refine C2.out.mono ?_;rintro e w2 ⟨rfl,b2⟩;replace K:Ed (Ln w2 g [a,b,d] rest):=EP K b2;replace ON:=J<|ON.out.trans (E3.EC b2);have h2:=J l2;clear b2 C2 l2;go_wp2_with fail;have C3:Eg Ea 274 #[EJ (X ⟨g,0,Z⟩) 3 c,E I 2,E I 1] w2 _:=di g [a,b,d] rest 3 c 2 1 d b U U U w2 K.out;refine C3.mono ?_;rintro e w3 ⟨rfl,k3,o3⟩;replace K:Ed (Ln w3 g [a,d,b] rest):=J k3;replace ON:=J<|ON.out.trans o3;clear k3 o3 C3;go_wp2_with fail;rw[Ib];go_wp2_with fail;have C4:Eg Ea 273 #[EJ (X ⟨g,0,Z⟩) 3 c,E I 1,E I 0] w3 _:=iZ g [a,d,b] rest 3 c 1 0 d a U U U w3 K.out;replace C4:=J C4;cases l4:less d a;·rw[l4] at C4;refine C4.out.mono ?_;rintro e w4 ⟨rfl,b4⟩;replace K:Ed (Ln w4 g [a,d,b] rest):=EP K b4;replace ON:=J<|ON.out.trans (E3.EC b4);have h4:=J l4;clear b4 C4 l4;go_wp2_with fail;rw[Ib];exact Emp
     ·rw[l4] at C4;refine C4.out.mono ?_;rintro e w4 ⟨rfl,b4⟩;replace K:Ed (Ln w4 g [a,d,b] rest):=EP K b4;replace ON:=J<|ON.out.trans (E3.EC b4);have h4:=J l4;clear b4 C4 l4;go_wp2_with fail;have C5:Eg Ea 274 #[EJ (X ⟨g,0,Z⟩) 3 c,E I 1,E I 0] w4 _:=di g [a,d,b] rest 3 c 1 0 d a U U U w4 K.out;refine C5.mono ?_;rintro e w5 ⟨rfl,k5,o5⟩;replace K:Ed (Ln w5 g [d,a,b] rest):=J k5;replace ON:=J<|ON.out.trans o5;clear k5 o5 C5;(iterate 2 go_wp2_with fail;rw[Ib]);exact Emp
 ·
   rw[l1] at C1;refine C1.out.mono ?_;rintro e w1 ⟨rfl,b1⟩;replace K:Ed (Ln w1 g [a,b,d] rest):=EP K b1;replace ON:=J<|ON.out.trans (E3.EC b1);have h1:=J l1;clear b1 C1 l1;go_wp2_with fail;have C6:Eg Ea 274 #[EJ (X ⟨g,0,Z⟩) 3 c,E I 1,E I 0] w1 _:=di g [a,b,d] rest 3 c 1 0 b a U U U w1 K.out;refine C6.mono ?_;rintro e w6 ⟨rfl,k6,o6⟩;replace K:Ed (Ln w6 g [b,a,d] rest):=J k6;replace ON:=J<|ON.out.trans o6;clear k6 o6 C6;(iterate 2 go_wp2_with fail;rw[Ib]);go_wp2_with fail;refine OJ 3 ?_;rw[Ib];go_wp2_with fail;have C7:Eg Ea 273 #[EJ (X ⟨g,0,Z⟩) 3 c,E I 2,E I 1] w6 _:=iZ g [b,a,d] rest 3 c 2 1 d a U U U w6 K.out;replace C7:=J C7;cases l7:less d a;·rw[l7] at C7;refine C7.out.mono ?_;rintro e w7 ⟨rfl,b7⟩;replace K:Ed (Ln w7 g [b,a,d] rest):=EP K b7;replace ON:=J<|ON.out.trans (E3.EC b7);have h7:=J l7;clear b7 C7 l7;go_wp2_with fail;rw[Ib];go_wp2;go_end0;refine⟨U,?_,ON.out⟩;simp only[Jt,h1.out,h7.out,if_true,jq,if_false];exact K.out
   ·
     rw[l7] at C7;refine C7.out.mono ?_;rintro e w7 ⟨rfl,b7⟩;replace K:Ed (Ln w7 g [b,a,d] rest):=EP K b7;replace ON:=J<|ON.out.trans (E3.EC b7);have h7:=J l7;clear b7 C7 l7;go_wp2_with fail;have C8:Eg Ea 274 #[EJ (X ⟨g,0,Z⟩) 3 c,E I 2,E I 1] w7 _:=di g [b,a,d] rest 3 c 2 1 d a U U U w7 K.out;refine C8.mono ?_;rintro e w8 ⟨rfl,k8,o8⟩;replace K:Ed (Ln w8 g [b,d,a] rest):=J k8;replace ON:=J<|ON.out.trans o8;clear k8 o8 C8;go_wp2_with fail;rw[Ib];go_wp2_with fail;have C9:Eg Ea 273 #[EJ (X ⟨g,0,Z⟩) 3 c,E I 1,E I 0] w8 _:=iZ g [b,d,a] rest 3 c 1 0 d b U U U w8 K.out;replace C9:=J C9;cases l9:less d b;·rw[l9] at C9;refine C9.out.mono ?_;rintro e w9 ⟨rfl,b9⟩;replace K:Ed (Ln w9 g [b,d,a] rest):=EP K b9;replace ON:=J<|ON.out.trans (E3.EC b9);have h9:=J l9;clear b9 C9 l9;go_wp2_with fail;rw[Ib];exact Emo
     ·rw[l9] at C9;refine C9.out.mono ?_;rintro e w9 ⟨rfl,b9⟩;replace K:Ed (Ln w9 g [b,d,a] rest):=EP K b9;replace ON:=J<|ON.out.trans (E3.EC b9);have h9:=J l9;clear b9 C9 l9;go_wp2_with fail;have dY:Eg Ea 274 #[EJ (X ⟨g,0,Z⟩) 3 c,E I 1,E I 0] w9 _:=di g [b,d,a] rest 3 c 1 0 d b U U U w9 K.out;refine dY.mono ?_;rintro e U0 ⟨rfl,k10,nC⟩;replace K:Ed (Ln U0 g [d,b,a] rest):=J k10;replace ON:=J<|ON.out.trans nC;clear k10 nC dY;(iterate 2 go_wp2_with fail;rw[Ib]);exact Emo
theorem EIU(w:M):Eg Ea 190 #[E Il 2] w fun e w'=>e=Eh (E I 2)/\w=w':=by go_enter Tryz.func190,Tryz.ntmps190;go_wp2;go_ret;refine⟨congrArg Eh (congrArg (E IntKind.i64) ?_),U⟩;show wrap64 (wrap64 (Lib.len8 2))=2;rw[Lib.len8_of 2 D D];have e:Lib.bitLenAux 64 2=2:=bu;simp[Lib.bitLen,wrap64,e]
theorem EIX(w:M):Eg Ea 190 #[E Il 3] w fun e w'=>e=Eh (E I 2)/\w=w':=by go_enter Tryz.func190,Tryz.ntmps190;go_wp2;go_ret;refine⟨congrArg Eh (congrArg (E IntKind.i64) ?_),U⟩;show wrap64 (wrap64 (Lib.len8 3))=2;rw[Lib.len8_of 3 D D];have e:Lib.bitLenAux 64 3=2:=bu;simp[Lib.bitLen,wrap64,e]
theorem EIZ(A:Option Ev)(c:Nat)(w:M): Eg Ea 109 #[.iface 149 (EJ A 0 c)] w fun e w'=>e=Eh (Es #[])/\w=w':=by have mL: ∀w,Ul Ea (XM 460 149 (EJ A 0 c) "Len") w= .ok (272,EJ A 0 c) w:=fun _=>Ef;have eL: ∀(args:Array G) (W:M),(Ji 272 args).run Ea W= .ok (.enter 272 args) W:=fun _ _=>Ef;go_enter Tryz.func109,Tryz.ntmps109;go_wp2_with fail;refine(dh A 0 c _).mono ?_;rintro e w2 ⟨rfl,rfl⟩;rw[show((0:Nat):Int)=0 from rfl];exact En0
theorem sort_1(A:Option Ev)(c:Nat)(w:M): Eg Ea 109 #[.iface 149 (EJ A 1 c)] w fun e w'=>e=Eh (Es #[])/\w=w':=by have mL: ∀w,Ul Ea (XM 460 149 (EJ A 1 c) "Len") w= .ok (272,EJ A 1 c) w:=fun _=>Ef;have eL: ∀(args:Array G) (W:M),(Ji 272 args).run Ea W= .ok (.enter 272 args) W:=fun _ _=>Ef;go_enter Tryz.func109,Tryz.ntmps109;go_wp2_with fail;refine(dh A 1 c _).mono ?_;rintro e w2 ⟨rfl,rfl⟩;rw[show((1:Nat):Int)=1 from rfl];exact En0
theorem EIa(g:Nat)(a b:One)(rest:List G)(c:Nat)(w:M)(K:Ln w g [a,b] rest): Eg Ea 109 #[.iface 149 (EJ (X ⟨g,0,Z⟩) 2 c)] w fun e w'=>e=Eh (Es #[])/\Ln w' g (Jt [a,b]) rest/\E3 g w w':=by have K:=J K;have mL: ∀w,Ul Ea (XM 460 149 (EJ (X ⟨g,0,Z⟩) 2 c) "Len") w= .ok (272,EJ (X ⟨g,0,Z⟩) 2 c) w:=fun _=>Ef;have eL: ∀(args:Array G) (W:M),(Ji 272 args).run Ea W= .ok (.enter 272 args) W:=fun _ _=>Ef;go_enter Tryz.func109,Tryz.ntmps109;go_wp2_with fail;refine(dh _ 2 c _).mono ?_;rintro e w2 ⟨rfl,rfl⟩;go_wp2_with (first|(go_at_call 190;(with_reducible refine(EIU _).mono ?_);rintro e w2 ⟨rfl,rfl⟩)|(go_at_call 153;go_in)|(go_at_call 154;go_in));refine OJ 1 ?_;rw[Ib];go_wp2_with fail;refine(EII g a b rest c _ K.out).mono ?_;exact Emk
theorem EIb(g:Nat)(a b d:One)(rest:List G)(c:Nat)(w:M)(K:Ln w g [a,b,d] rest): Eg Ea 109 #[.iface 149 (EJ (X ⟨g,0,Z⟩) 3 c)] w fun e w'=>e=Eh (Es #[])/\Ln w' g (Jt [a,b,d]) rest/\E3 g w w':=by have K:=J K;have mL: ∀w,Ul Ea (XM 460 149 (EJ (X ⟨g,0,Z⟩) 3 c) "Len") w= .ok (272,EJ (X ⟨g,0,Z⟩) 3 c) w:=fun _=>Ef;have eL: ∀(args:Array G) (W:M),(Ji 272 args).run Ea W= .ok (.enter 272 args) W:=fun _ _=>Ef;go_enter Tryz.func109,Tryz.ntmps109;go_wp2_with fail;refine(dh _ 3 c _).mono ?_;rintro e w2 ⟨rfl,rfl⟩;go_wp2_with (first|(go_at_call 190;(with_reducible refine(EIX _).mono ?_);rintro e w2 ⟨rfl,rfl⟩)|(go_at_call 153;go_in)|(go_at_call 154;go_in));refine OJ 1 ?_;rw[Ib];go_wp2_with fail;refine(EIJ g a b d rest c _ K.out).mono ?_;exact Emk
theorem ER:IF Ea 109 8:=⟨⟨_,Tryz.underlying109,U⟩,Ef⟩
def O4(h e o oa om la lm:Int)(b:Bool):Array G:= #[E I h,E I e,E I o,E I oa,E I om,E I la,E I lm,EU b]
def EM.a(t:EM):G:=EZ (O4 t.h t.e t.o t.oa t.om t.la t.lm t.bad)
theorem d_(h e o oa om la lm:Int)(b:Bool):(O4 h e o oa om la lm b).all (·.oneCell')=EI:=by simp[O4,Ov]
theorem Dd(t:EM)(IW e2:Int)(w:M): Eg Ea 67 #[t.a,E I IW,E I e2] w fun x w'=>x=Eh (t.pass IW e2).a/\Ek w w':=by unfold EM.a EM.pass O4;obtain⟨h,e,o,oa,om,la,lm,b⟩:=t;simp only;go_enter Tryz.func67,Tryz.ntmps67;go_wp2_with fail;refine EV (by simp[UW,Tryz.results67,go_sem]) U ⟨U,?_⟩;exact aq _ _ _ _
theorem qt(t:EM)(IW:Int)(w:M)(he: -9223372036854775808<=t.e): Eg Ea 140 #[t.a,E I IW] w fun x w'=>x=Eh (Es #[(t.UZ IW).1.a,E I (t.UZ IW).2])/\Ek w w':=by
 have CP:=J<|fun e2 W=>Dd t IW e2 W;unfold EM.UZ;unfold EM.a at*;obtain⟨h,e,o,oa,om,la,lm,b⟩:=t;simp only[EM.pass] at*;by_cases h1:IW<0;·rw[if_pos (.inl h1)];have d1:decide (IW<0)=EI:=IE h1;clear CP;exact EkP
 have d1:decide (IW<0)=V:=Ia h1;by_cases h2:5<=IW;·rw[if_pos (.inr h2)];have d2:decide (5<=IW)=EI:=IE h2;clear h1 h2 CP;exact EkP
 have d2:decide (5<=IW)=V:=Ia h2;rw[if_neg D];by_cases h3:IW=h
 ·rw[if_pos h3];have d3:(IW==h)=EI:=by rw[h3];exact beq_self_eq_true _
  clear h1 h2 h3 CP;exact EkP
 have d3:(IW==h)=V:=beq_eq_false_iff_ne.2 h3;rw[if_neg h3];by_cases h4:65535<=e;·rw[if_pos h4];have d4:decide (65535<=e)=EI:=IE h4;clear h1 h2 h3 h4 CP;exact EkP
 have d4:decide (65535<=e)=V:=Ia h4;rw[if_neg h4];have we:IntKind.i64.wrap (e+1)=e+1:=Df;clear h1 h2 h3 h4 he;replace CP:=J<|CP.out (e+1);obtain⟨r,hr⟩:=Eo (O4 IW (e+1) (-1) 0 0 0 0 b);rw[<-hr] at CP⊢;have SR:Ed (r.size=8):=J tU;have OR:Ed (r.all (·.oneCell')=EI):=J xD;clear hr;unfold O4 at*;go_enter Tryz.func140,Tryz.ntmps140;go_wp2_with fail;have K4:=J<|H.new' (w.alloc (Ec #[E I h,E I e,E I o,E I oa,E I om,E I la,E I lm,EU b] 109)) #[E I 0,E I 0,E I 0,E I 0,E I 0,E I 0,E I 0,EU V] 109 (g:=w.heap.size+1) Ej;have B:=J<|J3 w (Ec #[E I h,E I e,E I o,E I oa,E I om,E I la,E I lm,EU b] 109) (Ec #[E I 0,E I 0,E I 0,E I 0,E I 0,E I 0,E I 0,EU V] 109);generalize (w.alloc (Ec #[E I h,E I e,E I o,E I oa,E I om,E I la,E I lm,EU b] 109)).alloc (Ec #[E I 0,E I 0,E I 0,E I 0,E I 0,E I 0,E I 0,EU V] 109)=w1 at*;refine(CP.out _).mono ?_;rintro x w2 ⟨rfl,b2⟩;replace K4:=J<|K4.out.u b2;replace B:=EW B b2;clear b2;go_wp2_with (with_reducible refine wS (cs:=r) ER K4 ?_ (hn:=SR.out) (h1:=OR.out));refine EV (Us ER U _ _ (w.heap.size+1) r _ U U (K4.out.setRow r) SR.out) U ⟨U,?_⟩;exact Enu
theorem tX(t:EM)(w:M)(h1: -9223372036854775808<=t.e): Eg Ea 96 #[t.a] w fun x w'=>x=Eh t.bh.a/\Ek w w':=by
 have CP:=J<|fun e2 W=>Dd t 4 e2 W;have CS:=J<|fun W=>sF t.e 65535 W h1 D;unfold EM.bh;unfold EM.a at*;obtain⟨h,e,o,oa,om,la,lm,b⟩:=t;simp only[EM.pass] at*;clear h1;by_cases h4:h=4
 ·rw[if_neg fR];have d4:(h !=4)=V:=by rw[h4];rfl
  clear CS;subst h4;replace CP:=J<|CP.out e;obtain⟨r,hr⟩:=Eo (O4 4 e (-1) 0 0 0 0 b);rw[<-hr] at CP⊢;have SR:Ed (r.size=8):=J tU;have OR:Ed (r.all (·.oneCell')=EI):=J xD;clear hr;unfold O4 at*;go_enter Tryz.func96,Tryz.ntmps96;go_wp2_with fail;have K4:=J<|H.new' (w.alloc (Ec #[E I 4,E I e,E I o,E I oa,E I om,E I la,E I lm,EU b] 109)) #[E I 0,E I 0,E I 0,E I 0,E I 0,E I 0,E I 0,EU V] 109 (g:=w.heap.size+1) Ej;have B:=J<|J3 w (Ec #[E I 4,E I e,E I o,E I oa,E I om,E I la,E I lm,EU b] 109) (Ec #[E I 0,E I 0,E I 0,E I 0,E I 0,E I 0,E I 0,EU V] 109);generalize (w.alloc (Ec #[E I 4,E I e,E I o,E I oa,E I om,E I la,E I lm,EU b] 109)).alloc (Ec #[E I 0,E I 0,E I 0,E I 0,E I 0,E I 0,E I 0,EU V] 109)=w1 at*;exact EkH
 ·rw[if_pos h4];have d4:(h !=4)=EI:=fR;generalize sat e 65535=e2 at*;replace CP:=J<|CP.out e2;obtain⟨r,hr⟩:=Eo (O4 4 e2 (-1) 0 0 0 0 b);rw[<-hr] at CP⊢;have SR:Ed (r.size=8):=J tU;have OR:Ed (r.all (·.oneCell')=EI):=J xD;clear hr h4;unfold O4 at*;go_enter Tryz.func96,Tryz.ntmps96;go_wp2_with fail;refine(CS.out _).mono ?_;rintro x w2 ⟨rfl,rfl⟩;go_wp2_with fail;have K4:=J<|H.new' (w.alloc (Ec #[E I h,E I e,E I o,E I oa,E I om,E I la,E I lm,EU b] 109)) #[E I 0,E I 0,E I 0,E I 0,E I 0,E I 0,E I 0,EU V] 109 (g:=w.heap.size+1) Ej;have B:=J<|J3 w (Ec #[E I h,E I e,E I o,E I oa,E I om,E I la,E I lm,EU b] 109) (Ec #[E I 0,E I 0,E I 0,E I 0,E I 0,E I 0,E I 0,EU V] 109);generalize (w.alloc (Ec #[E I h,E I e,E I o,E I oa,E I om,E I la,E I lm,EU b] 109)).alloc (Ec #[E I 0,E I 0,E I 0,E I 0,E I 0,E I 0,E I 0,EU V] 109)=w1 at*;exact EkH
theorem EIc(t:EM)(s:Int)(w:M): Eg Ea 146 #[t.a,E I s] w fun x w'=>x=Eh (Es #[(t.drop s).1.a,EU (t.drop s).2])/\Ek w w':=by
 unfold EM.drop;unfold EM.a;obtain⟨h,e,o,oa,om,la,lm,b⟩:=t;simp only[EM.end_];by_cases h1:o<0;·rw[if_pos (.inl h1)];have d1:decide (0<=o)=V:=Ia D;unfold O4;clear h1;exact Eok
 have d1:decide (0<=o)=EI:=IE D;by_cases h2:o=s;·rw[if_neg D];have d2:(o !=s)=V:=xF;unfold O4;clear h1;subst h2;go_enter Tryz.func146,Tryz.ntmps146;go_wp2;refine EV (v:=EZ #[E I h,E I e,E I (-1),E I 0,E I 0,E I la,E I lm,EU b]) Dh U ?_;exact Eom
 ·rw[if_pos (.inr h2)];have d2:(o !=s)=EI:=by simp[h2]
  unfold O4;clear h1 h2;exact Eok
theorem EId(t:EM)(s:Int)(w:M): Eg Ea 180 #[t.a,E I s] w fun x w'=>x=Eh (Es #[(t.nz s).1.a,E I (t.nz s).2])/\Ek w w':=by
 unfold EM.nz;unfold EM.a;obtain⟨h,e,o,oa,om,la,lm,b⟩:=t;simp only[EM.end_];by_cases h1:o<0;·rw[if_pos (.inl h1)];have d1:decide (0<=o)=V:=Ia D;unfold O4;clear h1;exact Eoj
 have d1:decide (0<=o)=EI:=IE D;by_cases h2:o=s;·rw[if_neg D];have d2:(o !=s)=V:=xF;unfold O4;clear h1;subst h2;go_enter Tryz.func180,Tryz.ntmps180;go_wp2;refine EV (v:=EZ #[E I h,E I e,E I (-1),E I 0,E I 0,E I la,E I lm,EU b]) Dh U ?_;exact Eol
 ·rw[if_pos (.inr h2)];have d2:(o !=s)=EI:=by simp[h2]
  unfold O4;clear h1 h2;exact Eoj
theorem EIf(t:EM)(w:M):Eg Ea 150 #[t.a] w fun x w'=>x=Eh t.end_.a/\Ek w w':=by unfold EM.a;obtain⟨h,e,o,oa,om,la,lm,b⟩:=t;simp only[EM.end_];unfold O4;go_enter Tryz.func150,Tryz.ntmps150;go_wp2;refine EV Dh U ⟨U,?_⟩;exact Ekf
theorem EIg(t:EM)(w:M)(h1: -9223372036854775808<=t.oa)(h3:t.om<=9223372036854775807): Eg Ea 104 #[t.a] w fun x w'=>x=Eh (Es #[t.Uk.1.a,E I t.Uk.2])/\Ek w w':=by
 have CS:=J<|fun W=>sF t.oa t.om W h1 h3;have CE:=J<|fun W=>EIf {t with oa:=sat t.oa t.om} W;unfold EM.Uk;unfold EM.a at*;obtain⟨h,e,o,oa,om,la,lm,b⟩:=t;simp only[EM.end_] at*;clear h1 h3;by_cases h1:o<0;·rw[if_pos h1];have d1:decide (0<=o)=V:=Ia D;unfold O4;clear h1 CS CE;go_enter Tryz.func104,Tryz.ntmps104;go_wp2;refine EV M0 U ⟨U,?_⟩;exact Ekf
 have d1:decide (0<=o)=EI:=IE D;rw[if_neg h1];generalize sat oa om=a2 at*;clear h1;by_cases h2:a2<om;·rw[if_pos h2];have d2:decide (om<=a2)=V:=Ia D;clear h2 CE;unfold O4 at*;go_enter Tryz.func104,Tryz.ntmps104;go_wp2_with (first|(go_at_call 90;(with_reducible refine(CS.out _).mono ?_);rintro x w9 ⟨rfl,rfl⟩)|go_in);refine EV (v:=EZ #[E I a2,E I om]) C_ U ?_;go_wp2;refine EV M0 U ⟨U,?_⟩;exact Ekf
 ·rw[if_neg h2];have d2:decide (om<=a2)=EI:=IE D;clear h2;obtain⟨r,hr⟩:=Eo (O4 h e (-1) 0 0 la lm b);rw[<-hr] at CE⊢;have SR:Ed (r.size=8):=J tU;have OR:Ed (r.all (·.oneCell')=EI):=J xD;clear hr;unfold O4 at*;go_enter Tryz.func104,Tryz.ntmps104;go_wp2_with (first|(go_at_call 90;(with_reducible refine(CS.out _).mono ?_);rintro x w9 ⟨rfl,rfl⟩)|go_in);refine EV (v:=EZ #[E I a2,E I om]) C_ U ?_;go_wp2_with (first|(go_at_call 90;(with_reducible refine(CS.out _).mono ?_);rintro x w9 ⟨rfl,rfl⟩)|go_in);generalize hW:XX _ _=W at*;have K1:Ed (H W w.heap.size #[E I h,E I e,E I o,E I a2,E I om,E I la,E I lm,EU b] 109):=J (by subst hW;repeat (first|exact H.new _ _ _|refine H.alloc ?_ _));have K2:Ed (H W (w.heap.size+1) #[E I 0,E I 0,E I 0,E I 0,E I 0,E I 0,E I 0,EU V] 109):=J (by subst hW;repeat (first|exact H.new' (w.alloc _) _ _ Ej|refine H.alloc ?_ _));have B:Ed (Ek w W):=J (by subst hW;(repeat (first|exact E_ _ _|(refine J1 ?_ IC _)|(refine J5 ?_ IC _))));clear hW;refine MR (Ph:=fun _ wq=>H wq w.heap.size #[E I h,E I e,E I o,E I a2,E I om,E I la,E I lm,EU b] 109/\(∃c,c.size=8/\H wq (w.heap.size+1) c 109)/\Ek w wq) (In:=fun w w'=>w=w') (W.heap.size) [kq (EZ #[E I h,E I e,E I o,E I a2,E I om,E I la,E I lm,EU b]),kq (EZ r),kq (Y (X ⟨w.heap.size,2,Z⟩)),kq (E I o),.onto (w.heap.size+1) 109 (r),kq (E I o)] [] [(0,0),(0,0),(0,0),(0,0),(0,0),(0,0)] Ef Ef Ef Ef O0 Ef U (show List.Nodup ([109]:List Ez) from Eb) bu ?hPh ?hR2 ?h0 ?hstep ?hend;case hPh=>exact fun _ w1 w2 h hr=>⟨hr.El h.1 (by simp[kM]),by obtain⟨c,hs,hk⟩:=h.2.1;obtain⟨c2,hs2,hk2⟩:=hr.some hk;exact⟨c2,hs2.trans hs,hk2⟩,h.2.2.trans (hr.MK h.2.2.size (fun k S cs hk=>EE7 hk (by intro g T c hm;simp at hm;obtain⟨rfl,-⟩:=hm;omega) (by have:=B.out.size;omega)))⟩
  case hR2=>exact fun _ _ _ _ _ _ h k=>k▸h
  case h0=>exact⟨K1.out.drew,⟨_,U,K2.out.drew⟩,B.out.drew⟩
  case hstep=>
   refine⟨?_,?_,?_,?_,?_,?_,trivial⟩;·intro x wq p hlo hhi hp hd;simp only[ED,Ic,Ii,IJ,IU];exact lX JL.kept ER (Ei U) ⟨U,U⟩ (hp.1) U U
   ·intro x wq p hlo hhi hp hd;simp only[ED,Ic,Ii,IJ,IU];have d0:x 0=EZ #[E I h,E I e,E I o,E I a2,E I om,E I la,E I lm,EU b]:=hd.at 0 rfl;refine JE (f:=150) (args:= #[x 0]) (Ei U) Ew ?_;rw[d0];exact(CE.out wq).mono fun e w2 ⟨he,hb⟩=>⟨_,he,JL.u hb,U⟩
   ·intro x wq p hlo hhi hp hd;simp only[ED,Ic,Ii,IJ,IU];exact Elz
   ·intro x wq p hlo hhi hp hd;simp only[ED,Ic,Ii,IJ,IU];have d2:x 2=Y (X ⟨w.heap.size,2,Z⟩):=hd.at 2 rfl;have cc:wq.cell? ⟨w.heap.size,2,Z⟩=X (E I o):=(H.cell hp.1 2).trans U;exact Iw JL.kept (Ei U) bv U
   ·intro x wq p hlo hhi hp hd;simp only[ED,Ic,Ii,IJ,IU];have d1:x 1=EZ r:=hd.at 1 rfl;obtain⟨cz,hz,kz⟩:=hp.2.1;exact cO ER (Ei U) ⟨U,U,d1⟩ (kz) hz SR.out OR.out (JL.setRow (kz) (by simp[kM]) (by rw[SR.out,hz])) (H.setRow (kz) _)
   ·intro x wq p hlo hhi hp hd;simp only[ED,Ic,Ii,IJ,IU];have d3:x 3=E I o:=hd.at 3 rfl;exact Iw JL.kept (Ei U) Zc U
  case hend=> intro x W6 hp hr;have d5:x 5=E I o:=hr 5 Eb;have k4:H W6 (w.heap.size+1) r 109:=hr 4 Eb;simp only[ED,Ic,Ii,IJ,IU];rw[d5];have xG:=J hp.2.2;clear hr hp d5 K1 K2;go_wp2_with fail;refine EV (Us ER U _ _ (w.heap.size+1) r _ U U k4 SR.out) U ⟨U,xG.out⟩
def Own(w:M)(base:Nat)(A:Option Ev)(cap:Nat)(xs:List Int):Prop:=
 w.ownsRow base 5 1 (EJ A xs.length cap) xs.length (xs.map (E .u8))/\ ∀x∈xs,0<=x/\x<=255
theorem Own.row(h:Own w base A cap xs):Row w A xs:=by
 obtain⟨h,hb⟩:=h;refine⟨?_,hb⟩;rcases h.2 with⟨hv,hn⟩|⟨g,cap',cur,hv,hg,hh,hl,hm,hs,ht⟩;·exact .inl (ao hn)
 ·right;injection hv with h1 h2 h3;refine⟨g,0,h1,fun i hi=> ?_⟩;subst h1;have:=h.cellAt i D;rw[J9,this];simp[hi]
theorem Own.EIh(h:Own w base A cap xs):xX w (EJ A xs.length cap):=by
 refine⟨A,xs,cap,U,?_,?_,h.row,?_⟩
 all_goals
  rcases h.1.2 with⟨hv,hn⟩|⟨g,cap',cur,hv,hg,hh,hl,hm,hs,ht⟩
  ·simp at hv;first|omega|(intro _;exact hv.2.2)
  ·injection hv with h1 h2 h3;subst h1 h3;unfold maxLen at hm;first|omega|(intro h;cases h)
theorem XY(w:M)(base:Nat):Own w base Z 0 []:=⟨bw _ _ _ _,fun x hx=>sH⟩
theorem EIi(w:M)(base:Nat)(hb:base<=w.heap.size):Own (w.alloc (Ec #[] 5)) base (X ⟨w.heap.size,0,Z⟩) 0 []:=
 ⟨World.ownsRow_lit w #[] 0 hb Oy U,fun x hx=>sH⟩
theorem Z8(h:Own w base A cap xs)(hb:Ek w w'):Own w' base A cap xs:=by
 refine⟨?_,h.2⟩;obtain⟨h1,h2⟩:=h.1;refine⟨h1,?_⟩;rcases h2 with h2|⟨g,cap',cur,hv,hg,hh,hl⟩;·exact .inl h2
 ·refine .inr ⟨g,cap',cur,hv,hg,?_,hl⟩;rw[hb.block g ?_];·exact hh
  ·rcases JW g w.heap.size with h|h;·exact h
   ·rw[fD h] at hh;cases hh
theorem EIj(w:M)(base:Nat)(A:Option Ev)(cap:Nat)(xs:List Int)(hown:Own w base A cap xs)(Y4:Option Ev)(c:Nat)(ys:List Int)(hr:Row w Y4 ys) (hsmall:xs.length+ys.length<=1000000000) (hbase:base<=w.heap.size) (ty:Ez): ∃A' cap' w',(bX #[23,23] ty #[EJ A xs.length cap,EJ Y4 ys.length c]).run Ea w= .ok (EJ A' (xs.length+ys.length) cap') w'/\ Own w' base A' cap' (xs++ys)/\Ir base w w':=by
 obtain⟨i0,hi,hz0,hz1,hz2⟩:=bZ kK
 have hbb: ∀x∈xs++ys,0<=x/\x<=255:=by
  intro x hx;rcases Xt.1 hx with h|h;·exact hown.2 x h
  ·exact hr.2 x h
 rcases Y4 with _|ad
 ·have hy:ys=[]:=by
   rcases hr.1 with h|⟨b,off,h,_⟩;·exact h
   ·cases h
  subst hy;refine⟨A,cap,w,?_,Dj,E_ _ _⟩;rcases hown.1.2 with⟨hv,hn⟩|⟨g,cap',cur,hv,_,_,hnc,_⟩;·exact El6
  ·exact El7
 ·have hcells: ∀(j:Nat) Y3,(ys.map (E .u8))[j]?=X Y3->w.cell? (ad.add j)=X Y3:=by
   intro j Y3 hu
   have hj:j<ys.length:=by
    rcases JW j ys.length with h|h;·exact h
    ·rw[am UB] at hu;cases hu
   rcases hr.1 with h|⟨b,off,h,hc⟩;·subst h;simp at hj
   ·exact Emd
  obtain⟨v',w',hrun,h2,h3,_,h5⟩:=run_append_own_at (P:=Ea) w base 23 ty 5 i0 (E IT 0) 1 1 ba hi hz0 hz1 hz2 U D _ _ _ hown.1 ad ys.length c (ys.map (E .u8)) Ej hcells
   M7 Oy D hbase
  have hbel:Ir base w w':=by refine(E_ _ _).grown h3 hbase (fun k hk=> ?_);exact(hown.1.lt k hk).1
  rcases h2.2 with⟨hv,hn⟩|⟨g,cap',cur,hv,hrest⟩
  ·refine⟨Z,0,w',?_,⟨?_,hbb⟩,hbel⟩;·rw[hrun,hv,hn]
   ·have e:(xs++ys).length=0:=by simpa using hn
    have e2:xs++ys=[]:=ao e;rw[e2];exact bw _ _ _ _
  ·refine⟨X ⟨g,0,Z⟩,cap',w',by rw[hrun,hv],⟨?_,hbb⟩,hbel⟩;rw[hv] at h2;rw[I1,jr];exact h2
theorem Dk{a:E2}(w:M)(hgd:o.guard=Z)(s x:JN) (ho:o.op= .call {callee:= .builtin .append,args:= #[s,x],argTypes:= #[23,23]}) (base:Nat) (A:Option Ev) (cap n:Nat) (xs:List Int) (hn:xs.length=n) (hs:a.eval s=EJ A n cap) (hown:Own w base A cap xs) (Y4:Option Ev) (c m:Nat) (ys:List Int) (hm:ys.length=m) (hx:a.eval x=EJ Y4 m c) (hr:Row w Y4 ys) (hsmall:n+m<=1000000000) (hbase:base<=w.heap.size) (h: ∀A' cap' w',Own w' base A' cap' (xs++ys)->Ir base w w'->Ih Ea ops Q rest (a.put o.dst (EJ A' (n+m) cap')) w'):Ih Ea ops Q (o::rest) a w:=by subst hn hm;refine wpList_plain hgd fun K hK=> ?_;obtain⟨A',cap',w',hrun,h2,h3⟩:=EIj w base A cap xs hown Y4 c ys hr hsmall hbase o.type;unfold cE Ig;simp only[ho,resolve,invoke,builtin,Om,Oa,On,List.map_toArray,Xs,Zu,hs,hx,hrun];exact hK _ _ (h A' cap' w' h2 h3)
def nD(A:Option Ev)(k:Nat):Prop:= ∀a,A=X a->a.block≠k
theorem EIk(h:Own w base A cap xs): ∀a,A=X a->base<=a.block/\a.block<w.heap.size:=by
 intro a ha;subst ha;rcases h.1.2 with⟨hv,hn⟩|⟨g,cap',cur,hv,hg,hh,hl⟩;·simp at hv
 ·injection hv with h1 h2 h3;injection h1 with h1;subst h1;exact⟨hg,xZ hh⟩
theorem xH(w:M)(base:Nat)(A:Option Ev)(cap:Nat)(xs:List Int)(hown:Own w base A cap xs)(Y4:Option Ev)(c:Nat)(ys:List Int)(hr:Row w Y4 ys) (hsmall:xs.length+ys.length<=1000000000) (hbase:base<=w.heap.size) (ty:Ez): ∃A' cap' w',(bX #[23,23] ty #[EJ A xs.length cap,EJ Y4 ys.length c]).run Ea w= .ok (EJ A' (xs.length+ys.length) cap') w'/\ Own w' base A' cap' (xs++ys)/\Ir base w w'/\(∀k,k<w.heap.size->nD A k->w'.heap[k]?=w.heap[k]?/\nD A' k):=by
 obtain⟨i0,hi,hz0,hz1,hz2⟩:=bZ kK
 have hbb: ∀x∈xs++ys,0<=x/\x<=255:=by
  intro x hx;rcases Xt.1 hx with h|h;·exact hown.2 x h
  ·exact hr.2 x h
 rcases Y4 with _|ad
 ·have hy:ys=[]:=by
   rcases hr.1 with h|⟨b,off,h,_⟩;·exact h
   ·cases h
  subst hy;refine⟨A,cap,w,?_,Dj,E_ _ _,fun k _ hA=>⟨U,hA⟩⟩;rcases hown.1.2 with⟨hv,hn⟩|⟨g,cap',cur,hv,_,_,hnc,_⟩;·exact El6
  ·exact El7
 ·have hcells: ∀(j:Nat) Y3,(ys.map (E .u8))[j]?=X Y3->w.cell? (ad.add j)=X Y3:=by
   intro j Y3 hu
   have hj:j<ys.length:=by
    rcases JW j ys.length with h|h;·exact h
    ·rw[am UB] at hu;cases hu
   rcases hr.1 with h|⟨b,off,h,hc⟩;·subst h;simp at hj
   ·exact Emd
  obtain⟨v',w',hrun,h2,h3,h4,h5⟩:=run_append_own_at (P:=Ea) w base 23 ty 5 i0 (E IT 0) 1 1 ba hi hz0 hz1 hz2 U D _ _ _ hown.1 ad ys.length c (ys.map (E .u8)) Ej hcells
   M7 Oy D hbase
  have hbel:Ir base w w':=(E_ _ _).grown h3 hbase (fun k hk=>(hown.1.lt k hk).1)
  have hblk: ∀k,k<w.heap.size->nD A k->w'.heap[k]?=w.heap[k]?:=by
   intro k hk hA;refine h3.block k hk ?_;cases A with
   |none=>simp[lu]
   |some a=>simpa[lu] using X1 (hA a U)
  rcases h2.2 with⟨hv,hn⟩|⟨g,cap',cur,hv,hrest⟩
  ·refine⟨Z,0,w',?_,⟨?_,hbb⟩,hbel,fun k hk hA=>⟨hblk k hk hA,fun a ha=>by cases ha⟩⟩;·rw[hrun,hv,hn]
   ·have e:(xs++ys).length=0:=by simpa using hn
    have e2:xs++ys=[]:=ao e;rw[e2];exact bw _ _ _ _
  ·refine⟨X ⟨g,0,Z⟩,cap',w',by rw[hrun,hv],⟨?_,hbb⟩,hbel,fun k hk hA=>⟨hblk k hk hA,?_⟩⟩;·rw[hv] at h2;rw[I1,jr];exact h2
   ·intro a ha;injection ha with ha;subst ha;rw[hv] at h5;rcases h5 with h5|h5
    ·cases A with
     |none=>simp[lu] at h5
     |some a=>simp[lu] at h5;rw[h5];exact hA a U
    ·simp[lu] at h5;rw[h5];show w.heap.size≠k;omega
theorem lv{a:E2}(w:M)(hgd:I8 o (Ja ops a.tmps)=EI)(s x:JN) (ho:o.op= .call {callee:= .builtin .append,args:= #[s,x],argTypes:= #[23,23]}) (base:Nat) (A:Option Ev) (cap n:Nat) (xs:List Int) (hn:xs.length=n) (hs:a.eval s=EJ A n cap) (hown:Own w base A cap xs) (Y4:Option Ev) (c m:Nat) (ys:List Int) (hm:ys.length=m) (hx:a.eval x=EJ Y4 m c) (hr:Row w Y4 ys) (hsmall:n+m<=1000000000) (hbase:base<=w.heap.size) (h: ∀A' cap' w',Own w' base A' cap' (xs++ys)->Ir base w w'->(∀k,k<w.heap.size->nD A k->w'.heap[k]?=w.heap[k]?/\nD A' k)->Ih Ea ops Q rest (a.put o.dst (EJ A' (n+m) cap')) w'):Ih Ea ops Q (o::rest) a w:=by subst hn hm;obtain⟨A',cap',w',hrun,h2,h3,h4⟩:=xH w base A cap xs hown Y4 c ys hr hsmall hbase o.type;refine Jq hgd (v:=EJ A' (xs.length+ys.length) cap') (w':=w') ?_ (h A' cap' w' h2 h3 h4);exact EmP
def ia(b0:Nat)(T:Ez)(N:Nat)(ys:List G)(w w':M):Prop:=
 w.heap.size<=w'.heap.size/\(b0<=w.heap.size->Ir b0 w w')/\
 ∀(g:Nat) (cs:Array G) (S:Ez),w.heap[g]?=X (Ec cs S (0,0))-> ∃cs':Array G,w'.heap[g]?=X (Ec cs' S (0,0))/\cs'.size=cs.size/\(S≠T->cs'=cs)/\ ∀j:Nat,cs'[j]?=cs[j]?\/(N<=j/\j<N+ys.length/\cs'[j]?=ys[j-N]?)
section
variable{b0:Nat}{T:TypeId}{N:Nat}{ys:List Value}
theorem fS:Kept (ia b0 T N ys):=by
 refine⟨fun w=>⟨E9 _,fun _=>E_ _ _,fun g cs S h=>⟨cs,h,U,fun _=>rfl,fun j=> .inl U⟩⟩,?_,fun w=>⟨E9 _,fun _=>(E_ _ _).drew,fun g cs S h=>⟨cs,h,U,fun _=>rfl,fun j=> .inl U⟩⟩⟩;rintro a b c ⟨h1,h2,h3⟩ ⟨k1,k2,k3⟩;refine⟨EB h1 k1,fun h=>(h2 h).trans (k2 (EB h h1)),fun g cs S h=> ?_⟩;obtain⟨cs1,e1,s1,t1,j1⟩:=h3 g cs S h;obtain⟨cs2,e2,s2,t2,j2⟩:=k3 g cs1 S e1;refine⟨cs2,e2,s2.trans s1,fun hS=>(t2 hS).trans (t1 hS),fun j=> ?_⟩;rcases j2 j with h|h
 ·rcases j1 j with h'|⟨p,q,r⟩;·exact .inl (h.trans h')
  ·exact .inr ⟨p,q,h.trans r⟩
 ·exact .inr h
theorem tZ(hb:Ek w w'):ia b0 T N ys w w':=
 ⟨hb.size,fun h=>hb.mono h,fun g cs S h=>⟨cs,ZE h hb,U,fun _=>rfl,fun j=> .inl U⟩⟩
theorem XN(h:ia b0 T N ys w w'){S:Ez}(hk:H w g cs S)(hS:S≠T):H w' g cs S:=by obtain⟨cs',e,-,t,-⟩:=h.2.2 g cs S hk;rw[t hS] at e;exact e
theorem lx(h:ia b0 T N ys w w'){size:Nat}{v:G}{xs:List G}(ho:w.ownsRow base T size v n xs) (hx: ∀j,N<=j->j<N+ys.length->j<xs.length->xs[j]?=ys[j-N]?):w'.ownsRow base T size v n xs:=by
 obtain⟨h1,h2⟩:=ho;refine⟨h1,?_⟩;rcases h2 with h2|⟨g,cap,cur,rfl,hg,hh,hnc,hm,hs,ht⟩;·exact .inl h2
 ·obtain⟨cs',e,s,-,hj⟩:=h.2.2 g cur T hh;refine .inr ⟨g,cap,cs',U,hg,e,hnc,hm,s.trans hs,?_⟩;apply List.ext_getElem?;intro j;by_cases hlt:j<xs.length
  ·have h3:xs[j]?=cur[j]?:=by rw[<-ht,bU D];simp
   rw[bU D,Array.getElem?_toList];rcases hj j with h4|⟨p,q,r⟩;·rw[h4,h3]
   ·rw[r,hx j p q hlt]
  ·rw[am Jm,am D]
end
theorem cU(w:M)(b0 base:Nat)(t ty e:Ez)(i:TypeInfo)(z:G)(size bytes:Nat)(ht:P.underlying t=X (.slice e))(hi:P.info? e=X i)(hz:i.zero=X z) (hsize:i.size=size) (hby:i.bytes=bytes) (hzs:z.cells.size=size) (A:Option Ev) (cap n:Nat) (xs:List G) (hown:w.ownsRow base e size (EJ A n cap) n xs) (a:Ev) (m c:Nat) (news:List G) (hl:news.length=m*size) (hnews: ∀j Y3,news[j]?=X Y3->w.cell? (a.add j)=X Y3) (h1: ∀Y3∈news,Y3.oneCell'=EI) (hm:A=Z->0<m) (h63:n+m<=maxLen) (hbytes:(n+m)*bytes<=140737488355328) (hbase:base<=w.heap.size) (hb0:b0<=base): ∃A' cap' w',(bX #[t,t] ty #[EJ A n cap,EJ (X a) m c]).run P w= .ok (EJ A' (n+m) cap') w'/\w'.ownsRow base e size (EJ A' (n+m) cap') (n+m) (xs++news)/\ia b0 e (n*size) news w w'/\A'≠Z/\(cap<n+m->Ek w w'):=by
 subst hsize;subst hby;have hsmall:n+m<=9223372036854775807:=Dl;have hlen:(xs++news).length=(n+m)*i.size:=by rw[I1,hown.1,hl,Nat.add_mul]
 have made: ∀old:Nat,(w.drew.alloc (Ec (xs.toArray++news.toArray++Builtin.zeroCells z.cells (grownCap w (n+m) old e-(n+m))) e)).ownsRow base e i.size (EJ (X ⟨w.heap.size,0,Z⟩) (n+m) (grownCap w (n+m) old e)) (n+m) (xs++news):=by
  intro old;have hge:=grownCap_ge w (n+m) old e;refine⟨hlen,.inr ⟨w.heap.size,_,_,U,hbase,heap_alloc_new w.drew _,hge,grownCap_le_maxLen w (n+m) old e h63,?_,?_⟩⟩;·simp only[Array.size_append,List.size_toArray,size_zeroCells,hzs,hown.1,hl,<-Nat.add_mul];congr 1;omega
  ·simp only[Array.toList_append];rw[<-hlen];exact List.take_left
 have M8: ∀o:Obj,Ek w (w.drew.alloc o):=fun o=>((E_ _ w).drew).alloc (E9 _) o;have bel: ∀o:Obj,ia b0 e (n*i.size) news w (w.drew.alloc o):=fun o=>tZ (((E_ _ w).drew).alloc (E9 _) o);rcases hown.2 with⟨hv,hn⟩|⟨g,cap',cur,hv,hbg,hg,hnc,hcm,hcs,htake⟩;·subst hn;have hx:xs=[]:=ao Dm;subst hx;rw[hv];have hr:=run_append_nil (P:=P) w t ty e i z ht hi hz a m c news hl hnews (hm xK) D Dn;have hmd:=made 0;simp only[J9,cX,Array.empty_append] at hmd⊢;exact⟨_,_,_,hr,hmd,bel _,fun h=>Uq,fun _=>M8 _⟩
 ·rw[hv];by_cases hroom:n+m<=cap'
  ·have hfit:n*i.size+news.length<=cur.size:=Do;have hr:=run_append_room (P:=P) w t ty e i ht hi g n cap' cur hg a m c news hl hnews h1 hroom hfit;have hnew:=setRow_heap w g cur (cur.toList.take (n*i.size)++news++cur.toList.drop (n*i.size+news.length)).toArray e _ hg;have hsz:(cur.toList.take (n*i.size)++news++cur.toList.drop (n*i.size+news.length)).toArray.size=cur.size:=by simp only[List.size_toArray,I1,ZJ,ly,Array.length_toList];omega
   refine⟨_,_,_,hr,⟨hlen,.inr ⟨g,cap',_,U,hbg,hnew,hroom,hcm,hsz.trans hcs,?_⟩⟩,⟨?_,?_,?_⟩,fun h=>Uq,fun h=>absurd h (by injection hv with _ _ h3;omega)⟩;·rw[htake,<-hlen];exact List.take_left
   ·simp
   ·intro _;exact(E_ _ _).trans ⟨U,U,U,Ej,fun k hk=>setRow_other w g k _ D⟩
   ·intro k cs S hk;by_cases e1:k=g
    ·subst e1;rw[hg] at hk;injection hk with hk;injection hk with k1 k2 k3;subst k1 k2;refine⟨_,hnew,hsz,fun hS=>absurd U hS,fun j=> ?_⟩;have tl:(cur.toList.take (n*i.size)).length=n*i.size:=Jm;simp only[J0];rcases JW j (n*i.size) with h|h;·left;rw[UY,bO D,bU h];simp
     ·rcases JW j (n*i.size+news.length) with h2|h2;·right;refine⟨h,h2,?_⟩;rw[bO M9,ay D,tl]
      ·left;rw[ay M9,List.getElem?_drop,I1,tl,<-Array.getElem?_toList];congr 1;omega
    ·exact⟨cs,(setRow_other w g k _ D).trans hk,U,fun _=>rfl,fun j=> .inl U⟩
  ·have holds: ∀j Y3,xs[j]?=X Y3->w.cell? ((⟨g,0,Z⟩:Ev).add j)=X Y3:=by have h5:=hown;rw[hv] at h5;exact h5.cells (g:=g) U
   have hr:=run_append_grow (P:=P) w t ty e i z ht hi hz ⟨g,0,Z⟩ n cap' xs hown.1 holds a m c news hl hnews D D (growslice_fits D hbytes);exact⟨_,_,_,hr,made cap',bel _,fun h=>Uq,fun _=>M8 _⟩
def be(n:Int)(k:Nat):List Int:=(UM k).map fun i=>n/2^(8*(k-1-i))%256
def Z9(n:Int)(k i:Nat):Array G:=((UM k).map fun j=>E .u8 (if j<i then n/2^(8*(k-1-j))%256 else 0)).toArray
theorem EIl(n:Int)(k i:Nat):(Z9 n k i).size=k:=by simp[Z9]
theorem EIm(n:Int)(k i:Nat)(h:i<k):(Z9 n k i)[i]?=X (E IT 0):=by simp[Z9,h]
theorem EIn(n:Int)(k:Nat):az #[E IT 0] k=Z9 n k 0:=by
 apply Array.ext;·simp[az,Z9]
 ·intro i h1 h2;simp[az,Z9,Nat.mod_one]
theorem EIo(n:Int)(k i:Nat)(h:i<k):(Z9 n k i).setIfInBounds i (E IT (n/2^(8*(k-1-i))%256))=Z9 n k (i+1):=by
 apply Array.ext;·simp[Z9]
 ·intro j h1 h2;have hj:j<k:=by simpa[Z9] using h2
  rw[Array.getElem_setIfInBounds (by simpa[Z9] using hj)];simp only[Z9,List.getElem_toArray,List.getElem_map,List.getElem_range];by_cases e:i=j;·subst e;simp
  ·rw[if_neg e];by_cases e2:j<i;·rw[if_pos e2,if_pos D]
   ·rw[if_neg e2,if_neg D]
theorem EIp(n:Int)(k:Nat):Z9 n k k=((be n k).map (E .u8)).toArray:=by unfold Z9 be;rw[List.map_map];congr 1;apply List.map_congr_left;intro j hj;simp at hj;simp[hj]
theorem EIq(n:Int)(k:Nat)(hk:k<=1000)(W:M): (Instr.makeSlice 23 (E I (k:Int)) (E I (k:Int))).run Ea W= .ok (EJ (X ⟨W.heap.size,0,Z⟩) k k) (W.alloc (Ec (Z9 n k 0) 5)):=by obtain⟨i0,hi,hz0,hz1,hz2⟩:=bZ kK;have h:=run_make (P:=Ea) W 23 5 i0 _ ba hi hz0 .i64 .i64 k k D D (by rw[hz2];omega) D;rw[h,hz1,kL,Nat.mul_one];have e:(E IntKind.u8 0).cells= #[E IT 0]:=rfl;rw[e,EIn n]
theorem M_(n:Int)(k:Nat)(w:M)(h0:0<=n)(h1:n<=18446744073709551615)(hk:k<=8)(hn:n/2^(8*k)=0): Eg Ea 111 #[E Il n,E I k] w fun e w'=>e=Eh (Es #[EJ (X ⟨w.heap.size,0,Z⟩) k k,E I 0])/\w.alloc (Ec ((be n k).map (E .u8)).toArray 5)=w':=by
 have hmk:=EIq n k D;have hn':(n/2^(8*k) !=0)=V:=by rw[hn];rfl
 go_enter Tryz.func111,Tryz.ntmps111;go_wp2;clear hmk hn';go_loopw[24] (fun y wr=> ∃i:Nat,i<=k/\y=E I i/\wr=w.alloc (Ec (Z9 n k i) 5)) (fun y _=>k-(I5 y).toNat);case atStart=>exact⟨0,D,U,U⟩
 case round=>
  obtain⟨i,hi,rfl,rfl⟩:=hrel;by_cases hlt:i<k
  ·have hc:=EIm n k i hlt;have hs:=EIl n k i;have hp:=EIo n k i hlt;go_wp2;go_roundw;case rel=>exact⟨i+1,D,by go_num,by first|rfl|rw[hp]⟩
   case measure=>simp[I5];omega
  ·obtain rfl:i=k:=D;have hp:=EIp n i;go_wp2;go_ret2;exact⟨U,by first|rfl|rw[hp]⟩
def num(xs:List Int):Int:=xs.foldl (fun n x=>n*256+x) 0
theorem NE(xs:List Int)(x:Int):num (xs++[x])=num xs*256+x:=by simp[num]
theorem NI(xs:List Int)(i:Nat)(h:i<xs.length):num (xs.take (i+1))=num (xs.take i)*256+xs[i]:=by rw[List.take_succ_eq_append_getElem h,NE]
theorem ta(xs:List Int)(h: ∀x∈xs,0<=x/\x<=255)(i:Nat)(hi:i<=xs.length):0<=num (xs.take i)/\num (xs.take i)<256^i:=by
 induction i with
 |zero=>simp[num]
 |succ i ih=> have:=ih D;have hx:=h xs[i] (dW _);rw[NI xs i D,Int.pow_succ];omega
theorem EIr(n x:Int)(h0:0<=n)(h1:n<72057594037927936)(x0:0<=x)(x1:x<=255):Iu .or .u64 (n*256) x=n*256+x:=by obtain⟨m,rfl⟩:=ib h0;obtain⟨y,rfl⟩:=ib x0;have e:((m:Int)*256)=((m*256:Nat):Int):=Ej;rw[e,u64_or_nat _ _ D D,nat_join 8 _ _ D D];simp
theorem EIs(xs:List Int)(i:Nat)(h:i<xs.length)(h8:xs.length<=8)(nb:0<=num (xs.take i)/\num (xs.take i)<256^i)(hx:0<=xs[i]/\xs[i]<=255): Iu .or .u64 (IntKind.u64.wrap (num (xs.take i)*256)) xs[i]=num (xs.take (i+1)):=by
 have hp:(256:Int)^i<=72057594037927936:=by
  have h1:256^i<=256^7:=Nat.pow_le_pow_right D D;have h2:(256:Int)^i=((256^i:Nat):Int):=by rw[Int.natCast_pow];rfl
  rw[show(256:Nat)^7=72057594037927936 from Eb] at h1;rw[h2];exact Int.ofNat_le.2 h1
 rw[NI xs i h,IntWalk.u64_in _ D,EIr _ _ nb.1 D hx.1 hx.2]
theorem NJ(a:Option Ev)(xs:List Int)(c:Nat)(w:M)(hr:Row w a xs)(hl:xs.length<=8): Eg Ea 239 #[EJ a xs.length c] w fun e w'=>e=Eh (Es #[E Il (num xs),E I 0])/\w=w':=by
 obtain⟨hr,hb⟩:=hr;have NB:=J<|ta xs hb;have HR:=J hr;have HB:=J hb;clear hr hb;go_enter Tryz.func239,Tryz.ntmps239;go_wp2;go_loop [4,11] (fun x y=> ∃i:Nat,i<=xs.length/\y=E I i/\x=E Il (num (xs.take i))) (fun _ y=>xs.length-(I5 y).toNat);case atStart=>exact⟨0,D,U,U⟩
 case round=>
  obtain⟨i,hi,rfl,rfl⟩:=hrel;by_cases hlt:i<xs.length
  ·rcases HR.out with e|⟨b,off,rfl,hc⟩;·rw[e] at hlt;simp at hlt
   ·have hc:=hc i hlt;have nb:=NB.out i hi;have hx:=HB.out xs[i] (dW _);have STEP:=J<|EIs xs i hlt hl nb hx;go_wp2;go_round;case rel=>exact⟨i+1,D,by go_num,by rw[STEP.out]⟩
    case measure=>simp[I5];omega
  ·obtain rfl:i=xs.length:=D;rw[List.take_length];go_wp2;exact Enx
theorem EIt(n:Int)(w:M)(h0: -32768<=n)(h1:n<=32767): Eg Ea 252 #[E I n] w fun e w'=>e=Eh (Es #[EJ (X ⟨w.heap.size,0,Z⟩) 2 2,E I 0])/\w.alloc (Ec ((be (n%65536) 2).map (E .u8)).toArray 5)=w':=by
 have hp:=J<|M_ (n%65536) 2 w D D D (by show n%65536/65536=0;omega);by_cases c:n<0;·have e:n%65536=n+65536:=D;exact Ely
 ·have e:n%65536=n:=D;exact Ely
def sig(xs:List Int):Int:=if 32767<num xs then num xs-65536 else num xs
theorem EIu(a:Option Ev)(xs:List Int)(c:Nat)(w:M)(hr:Row w a xs)(hl:xs.length=2): Eg Ea 238 #[EJ a 2 c] w fun e w'=>e=Eh (Es #[E I (sig xs),E I 0])/\w=w':=by
 have h:=NJ a xs c w hr D;rw[hl] at h;have Y9:=J h;have hb:=ta xs hr.2 xs.length D;rw[List.take_length,hl] at hb;obtain⟨hb1,hb2⟩:=hb;have hb3:num xs<65536:=hb2;clear h hr hl hb2;go_enter Tryz.func238,Tryz.ntmps238;go_wp2_with (go_at_call 239;refine(Y9.out).mono ?_;rintro e w' ⟨rfl,rfl⟩)
 all_goals
  go_ret2
  refine⟨?_,U⟩
  unfold sig
  first|(rw[if_pos (by assumption)];rfl)|(rw[if_neg D];rfl)
theorem OD(n:Int)(k:Nat):(be n k).length=k:=by simp[be]
theorem tc(n:Int)(k:Nat): ∀x∈be n k,0<=x/\x<=255:=by intro x hx;simp only[be,bc] at hx;obtain⟨i,_,rfl⟩:=hx;omega
theorem Dp(n:Int)(k:Nat):be n (k+1)=n/2^(8*k)%256::be n k:=by unfold be;rw[List.range_succ_eq_map,Xs,List.map_map];congr 1;apply List.map_congr_left;intro i hi;simp only[Function.comp_apply,Nat.add_sub_cancel];rw[show k-(i+1)=k-1-i from D]
theorem EIv(n:Int):be n 0=[]:=rfl
theorem EIw(n a b:Int)(ha:0<=a):n/a/b=n/(a*b):=by rw[Int.ediv_ediv,if_neg D];simp
theorem EIx(n:Int)(k:Nat):be n (k+1)=be (n/256) k++[n%256]:=by
 induction k with
 |zero=>simp[be]
 |succ k ih=> rw[Dp,ih,Dp (n/256) k,lI];congr 2;rw[EIw _ _ _ D,Nat.mul_add,Int.pow_add,Int.mul_comm];rfl
theorem NU{P:List Int->Prop}(h0:P [])(h1: ∀l x,P l->P (l++[x]))(l:List Int):P l:=by
 have: ∀l:List Int,P l.reverse:=by
  intro l;induction l with
  |nil=>exact h0
  |cons x l ih=>rw[List.reverse_cons];exact h1 _ _ ih
 have:=this l.reverse;rwa [List.reverse_reverse] at this
theorem EIy(xs:List Int):(∀x∈xs,0<=x/\x<=255)->be (num xs) xs.length=xs:=by refine NU (P:=fun xs=>(∀x∈xs,0<=x/\x<=255)->be (num xs) xs.length=xs) (fun _=>rfl) (fun l x ih h=> ?_) xs;have hx:=h x Ej;have hl:=ih (fun y hy=>h y (by simp[hy]));rw[I1,List.length_singleton,EIx,NE];have e1:(num l*256+x)/256=num l:=D;have e2:(num l*256+x)%256=x:=D;rw[e1,e2,hl]
theorem NX(k:Nat)(hk:k<=63)(n:Int)(h0:0<=n)(h1:n<=18446744073709551615): Iu .and .u64 n (IntKind.u64.wrap (IntKind.u64.wrap (2^k)-1))=n%2^k:=by
 obtain⟨m,rfl⟩:=ib h0;have hp:2^k<=2^63:=Nat.pow_le_pow_right D hk;have hp0:0<2^k:=Nat.two_pow_pos k;have c1:((2:Int)^k)=((2^k:Nat):Int):=Ej;have w1:IntKind.u64.wrap ((2^k:Nat):Int)=((2^k:Nat):Int):=IntWalk.u64_in _ ⟨D,D⟩;have w2:IntKind.u64.wrap (((2^k:Nat):Int)-1)=((2^k-1:Nat):Int):=by rw[IntWalk.u64_in _ ⟨D,D⟩];omega
 rw[c1,w1,w2,u64_and_nat _ _ D D,Nat.and_two_pow_sub_one_eq_mod];simp
theorem js(n:Int)(k:Nat)(w:M)(h0:0<=n)(h1:n<=18446744073709551615)(hk:k<=8)(hn:n/2^(8*k)=0): Eg Ea 111 #[E Il n,E I k] w fun e w'=>e=Eh (Es #[EJ (X ⟨w.heap.size,0,Z⟩) k k,E I 0])/\Row w' (X ⟨w.heap.size,0,Z⟩) (be n k)/\Ek w w':=
 (M_ n k w h0 h1 hk hn).mono fun _ _ ⟨he,hw⟩=>⟨he,by subst hw;exact Cp (heap_alloc_new w _) U (tc n k),NZ⟩
theorem EIz(n:Int)(w:M)(h0: -32768<=n)(h1:n<=32767): Eg Ea 252 #[E I n] w fun e w'=>e=Eh (Es #[EJ (X ⟨w.heap.size,0,Z⟩) 2 2,E I 0])/\Row w' (X ⟨w.heap.size,0,Z⟩) (be (n%65536) 2)/\Ek w w':=
 (EIt n w h0 h1).mono fun _ _ ⟨he,hw⟩=>⟨he,by subst hw;exact Cp (heap_alloc_new w _) U (tc _ 2),NZ⟩
theorem Dq{a:Option Ev}(n c:Nat)(hn:xs.length=n)(hr:Row w a xs)(hl:n<=8): Eg Ea 239 #[EJ a n c] w fun e w'=>e=Eh (Es #[E Il (num xs),E I 0])/\w=w':=by subst hn;exact NJ a xs c w hr hl
def EH(l:List Int):Array G:=((UM 12).map fun i=>if i=7 then EU (l.getD 7 0==1) else E I (l.getD i 0)).toArray
theorem JI(l:List Int):(EH l).size=12:=by simp[EH]
theorem Zd(l:List Int)(i:Nat)(h:i<12):(EH l)[i]?=X (if i=7 then EU (l.getD 7 0==1) else E I (l.getD i 0)):=by simp[EH,h]
theorem Zy(l:List Int):(EH l).all (·.oneCell')=EI:=by rw[Array.all_eq_true];intro i hi;simp only[EH,List.getElem_toArray,List.getElem_map];split<;>rfl
theorem EIA(l:List Int)(hl:l.length=12)(o:Nat)(ho:o<12)(n:Int):(EH l).setIfInBounds o (if o=7 then EU (n==1) else E I n)=EH (l.set o n):=by
 apply Array.ext_getElem?;intro j;rw[Array.getElem?_setIfInBounds];by_cases h:o=j
 ·subst h;rw[if_pos U,if_pos (by rw[JI];exact ho),Zd _ _ ho];by_cases h7:o=7;·subst h7;simp[hl]
  ·rw[if_neg h7,if_neg h7];simp[hl,ho]
 ·rw[if_neg h];by_cases hj:j<12
  ·rw[Zd _ _ hj,Zd _ _ hj];have e1: ∀k,k≠o->(l.set o n).getD k 0=l.getD k 0:=fun k hk=>by simp[Uj,List.getElem?_set_ne (X1 hk)]
   by_cases h7:j=7;·subst h7;rw[if_pos U,if_pos U,e1 7 (X1 h)]
   ·rw[if_neg h7,if_neg h7,e1 j (X1 h)]
  ·rw[fD (by rw[JI];omega),fD (by rw[JI];omega)]
structure FD where
 kd:Nat
 (size lo hi:Int)
 off:Nat
def FD.get(d:FD):Nat:=if d.kd=1 then 234 else
 if d.kd=2 then 250 else
 if d.kd=3 then 248 else
 236
def FD.set(d:FD):Nat:=if d.kd=1 then 235 else
 if d.kd=2 then 251 else
 if d.kd=3 then 249 else
 237
def FD.box(d:FD):Ez:=if d.kd=1 then 302 else
 if d.kd=2 then 333 else
 if d.kd=3 then 331 else
 300
def FD.ok(d:FD):Prop:=d.off<12/\d.kd<=1/\(d.kd=1↔d.off=7)
theorem FD.Na{d:FD}(h:d.kd=0):d.get=236:=Ds
theorem FD.Dt{d:FD}(h:d.kd=0):d.set=237:=xL
theorem FD.xM{d:FD}(h:d.kd=0):d.box=300:=xN
theorem FD.EIB{d:FD}(h:d.kd=1):d.set=235:=xL
theorem FD.EIC{d:FD}(h:d.kd=1):d.box=302:=xN
def ID(d:FD)(gb:Nat):Array G:= #[E I d.size,E I d.lo,E I d.hi,.func (.func d.get) #[] #[Y (X ⟨gb,0,Z⟩)],.func (.func d.set) #[] #[Y (X ⟨gb,0,Z⟩)]]
theorem fT(d:FD)(gb:Nat):(ID d gb).all (·.oneCell')=EI:=by simp[ID,Ov]
def X2(w:M)(d:FD)(gm gb:Nat):Prop:=H w gb #[Y (X ⟨gm,d.off,Z⟩)] d.box
theorem Xj:IF Ea 298 5:=⟨⟨_,Tryz.underlying298,U⟩,Ef⟩
theorem Oz:IF Ea 183 12:=⟨⟨_,Tryz.underlying183,U⟩,Ef⟩
def Ju:Array G:= #[E I 0,E I 0,E I 0,.nilFunc,.nilFunc]
theorem fE:Ow Ea 298 Ju:=by intro ev o w ho;unfold Ig;simp only[ho];simp[go_sem];exact congrArg (fun c=>w.alloc (Ec c 298)) Ef
theorem EID:Ow Ea 183 (EH (dg 12 0)):=by intro ev o w ho;unfold Ig;simp only[ho];simp[go_sem];exact congrArg (fun c=>w.alloc (Ec c 183)) Ef
theorem EIF(gb gm o:Nat)(n:Int)(w:M)(hb:H w gb #[Y (X ⟨gm,o,Z⟩)] 300)(hc:w.cell? ⟨gm,o,Z⟩=X (E I n)): Eg Ea 236 #[Y (X ⟨gb,0,Z⟩)] w fun e w'=>e=Eh (E I n)/\w=w':=by have c0:=hb.cell 0;simp only[J0,jt] at c0;clear hb;go_enter Tryz.func236,Tryz.ntmps236;exact Ej7
def lA(l:List Int):Prop:=l.length=12/\(l.getD 7 0=0\/l.getD 7 0=1)
theorem Nb(gb gm o:Nat)(n m:Int)(w:M)(hb:H w gb #[Y (X ⟨gm,o,Z⟩)] 300)(hc:w.cell? ⟨gm,o,Z⟩=X (E I m))(hf:w.frozen? ⟨gm,o,Z⟩=V): Eg Ea 237 #[E I n,Y (X ⟨gb,0,Z⟩)] w fun e w'=>e=Eh (Es #[])/\w.setCell ⟨gm,o,Z⟩ (E I n)=w':=by have c0:=hb.cell 0;simp only[J0,jt] at c0;clear hb;go_enter Tryz.func237,Tryz.ntmps237;exact Enk
theorem EIG(gb gm o:Nat)(n:Int)(b:Bool)(w:M)(hb:H w gb #[Y (X ⟨gm,o,Z⟩)] 302)(hc:w.cell? ⟨gm,o,Z⟩=X (EU b))(hf:w.frozen? ⟨gm,o,Z⟩=V): Eg Ea 235 #[E I n,Y (X ⟨gb,0,Z⟩)] w fun e w'=>e=Eh (Es #[])/\w.setCell ⟨gm,o,Z⟩ (EU (n==1))=w':=by have c0:=hb.cell 0;simp only[J0,jt] at c0;clear hb;go_enter Tryz.func235,Tryz.ntmps235;exact Enk
theorem EIH(d:FD)(gb gm:Nat)(l:List Int)(n:Int)(w:M)(hd:d.ok)(hl:lA l)(hb:X2 w d gm gb)(hm:H w gm (EH l) 183): Eg Ea d.set #[E I n,Y (X ⟨gb,0,Z⟩)] w fun e w'=>e=Eh (Es #[])/\H w' gm (EH (l.set d.off n)) 183/\(∀k,k≠gm->w'.heap[k]?=w.heap[k]?)/\w'.heap.size=w.heap.size/\Ir gm w w':=by
 have hc:=hm.cell d.off;have hf:=hm.I_ d.off;rw[Zd _ _ hd.1] at hc;have fin: ∀v,v=(if d.off=7 then EU (n==1) else E I n)->H (w.setCell ⟨gm,d.off,Z⟩ v) gm (EH (l.set d.off n)) 183/\(∀k,k≠gm->(w.setCell ⟨gm,d.off,Z⟩ v).heap[k]?=w.heap[k]?)/\(w.setCell ⟨gm,d.off,Z⟩ v).heap.size=w.heap.size/\Ir gm w (w.setCell ⟨gm,d.off,Z⟩ v):=by intro v hv;subst hv;refine⟨?_,fun k hk=>ax _ _ _ _ hk,CY,(E_ gm w).setCell (p:=⟨gm,d.off,Z⟩) (E9 _) _⟩;have h:=hm.set d.off (if d.off=7 then EU (n==1) else E I n);rw[EIA l hl.1 _ hd.1] at h;exact h
 unfold X2 at hb;by_cases hn:d.kd=1;·have h7:=hd.2.2.1 hn;rw[FD.EIC hn] at hb;rw[FD.EIB hn];have Nc:=fin (EU (n==1)) (by rw[if_pos h7]);rw[h7] at hc hb hf Nc⊢;rw[if_pos U] at hc;exact(EIG gb gm 7 n _ w hb hc hf).mono fun e w' ⟨he,hw⟩=>⟨he,by rw[<-hw];exact Nc⟩
 ·have h7:d.off≠7:=fun h=>hn (hd.2.2.2 h);have h0:d.kd=0:=by have:=hd.2.1;omega
  rw[FD.xM h0] at hb;rw[FD.Dt h0];rw[if_neg h7] at hc;have xP:=fin (E I n) (by rw[if_neg h7]);exact EnO
def FV(w:M)(base gm:Nat)(d:FD)(v:G):Prop:= ∃gb,v=EZ (ID d gb)/\base<=gb/\X2 w d gm gb
theorem FV.u{gm:Nat}{d:FD}{v:G}(h:FV w base gm d v)(hb:Ek w w'):FV w' base gm d v:=by obtain⟨gb,e,l,k⟩:=h;exact⟨gb,e,l,k.u hb⟩
theorem EIK(d:FD)(gb:Nat):Tryz.prog.built 298 [(0,E I d.size),(1,E I d.lo),(2,E I d.hi),(3,.func (.func d.get) #[] #[Y (X ⟨gb,0,Z⟩)]),(4,.func (.func d.set) #[] #[Y (X ⟨gb,0,Z⟩)])]=X (ID d gb):=Ef
theorem Du(d:FD)(gb:Nat)(h0:d.lo=0):Tryz.prog.built 298 [(0,E I d.size),(2,E I d.hi),(3,.func (.func d.get) #[] #[Y (X ⟨gb,0,Z⟩)]),(4,.func (.func d.set) #[] #[Y (X ⟨gb,0,Z⟩)])]=X (ID d gb):=by unfold ID;rw[h0];kernel_rfl
theorem nF(d:FD)(hd:d.kd=0)(gm:Nat)(w:M): Eg Ea 207 #[Y (X ⟨gm,d.off,Z⟩),E I d.size,E I d.lo,E I d.hi] w fun e w'=> ∃v,e=Eh v/\FV w' w.heap.size gm d v/\Ek w w':=by have hg:=FD.Na hd;have hs:=FD.Dt hd;have hx:=FD.xM hd;have BF:=EIK d w.heap.size;rw[hg,hs] at BF;have O1:=J<|fT d w.heap.size;have Ut:Ed ((ID d w.heap.size).size=5):=J U;have HV:Ed (ID d w.heap.size=ID d w.heap.size):=J U;generalize XP:ID d w.heap.size=fv at*;replace XP:=J XP;replace BF:=J BF;clear HV hg hs;have HX:=J hx;clear hx;have HB:Ed (∀W:M,H W w.heap.size #[Y (X ⟨gm,d.off,Z⟩)] 300->FV W w.heap.size gm d (EZ fv)):=J fun W h=>⟨w.heap.size,by rw[XP.out],E9 _,by unfold X2;rw[HX.out];exact h⟩;clear HX XP;generalize d.size=sz at*;generalize d.lo=lo at*;generalize d.hi=hi at*;generalize d.off=of at*;go_enter Tryz.func207,Tryz.ntmps207;go_wp2_with (with_reducible refine wA fE (Ey.mk ?_));apply Et;have K4:=J<|(H.new w #[Y (X ⟨gm,of,Z⟩)] 300).alloc (Ec Ju 298);have K8:=J<|H.new' (w.alloc (Ec #[Y (X ⟨gm,of,Z⟩)] 300)) Ju 298 (g:=w.heap.size+1) Ej;have B:=J<|J3 w (Ec #[Y (X ⟨gm,of,Z⟩)] 300) (Ec Ju 298);generalize (w.alloc (Ec #[Y (X ⟨gm,of,Z⟩)] 300)).alloc (Ec Ju 298)=w1 at*;go_wp2_with (first|((with_reducible refine It 14 ?_);refine JO rfl 298 _ rfl fv BF.out ?_)|(with_reducible refine wS (cs:=fv) Xj K8 ?_ (hn:=Ut.out) (h1:=O1.out)));refine EV (v:=EZ fv) (JB Xj U _ _ (w.heap.size+1) _ U (K8.out.setRow _) Ut.out) U ⟨_,U,HB.out _ (K4.out.setRow_other _ _ D),E6 B.out D _⟩
def ic(Y5:Nat):Prop:= ∀(args:Array G) (w:M),(Ji Y5 args).run Ea w= .ok (.enter Y5 args) w
def dj(w:M)(Y5:Nat)(gp:G)(n:Int):Prop:=ic Y5/\ ∀W,Ek w W->Eg Ea Y5 #[gp] W fun e w'=>e=Eh (E I n)/\W=w'
theorem dj.u{Y5:Nat}{n:Int}(h:dj w Y5 gp n)(hb:Ek w w'):dj w' Y5 gp n:=⟨h.1,fun W hW=>h.2 W (bt hb hW)⟩
theorem dj.call{Y5:Nat}{n:Int}(h:dj w Y5 gp n)(W:M)(hW:Ek w W):Eg Ea Y5 #[gp] W fun e w'=>e=Eh (E I n)/\W=w':=h.2 W hW
theorem EIL(d:FD):ic d.get:=by
 intro args w;unfold FD.get;repeat' split
 all_goals kernel_rfl
theorem Nd(d:FD):ic d.set:=by
 intro args w;unfold FD.set;repeat' split
 all_goals kernel_rfl
theorem EIM(sz lo hi n:Int)(Y5 S:Nat)(gp:G)(w:M)(HG:dj w Y5 gp n)(h:n<lo): Eg Ea 242 #[EZ #[E I sz,E I lo,E I hi,.func (.func Y5) #[] #[gp],.func (.func S) #[] #[gp]]] w fun e w'=>e=Eh (Es #[EJ Z 0 0,EU V])/\Ek w w':=by have C:=J HG;have HE: ∀(args:Array G) (w:M),(Ji Y5 args).run Ea w= .ok (.enter Y5 args) w:=HG.1;clear HG;go_enter Tryz.func242,Tryz.ntmps242;go_wp2_with fail;have B1:=Er w (Ec #[E I sz,E I lo,E I hi,.func (.func Y5) #[] #[gp],.func (.func S) #[] #[gp]] 298);refine(C.out.call _ B1).mono ?_;rintro e w1 ⟨rfl,rfl⟩;clear C HE;have hd:decide (n<lo)=EI:=IE h;go_wp2;go_ret2;exact⟨U,B1⟩
theorem EIN(sz lo hi n:Int)(Y5 S:Nat)(gp:G)(w:M)(HG:dj w Y5 gp n)(h0:lo<=n)(h:hi<n): Eg Ea 242 #[EZ #[E I sz,E I lo,E I hi,.func (.func Y5) #[] #[gp],.func (.func S) #[] #[gp]]] w fun e w'=>e=Eh (Es #[EJ Z 0 0,EU V])/\Ek w w':=by have C:=J HG;have HE: ∀(args:Array G) (w:M),(Ji Y5 args).run Ea w= .ok (.enter Y5 args) w:=HG.1;clear HG;go_enter Tryz.func242,Tryz.ntmps242;go_wp2_with fail;have B1:=Er w (Ec #[E I sz,E I lo,E I hi,.func (.func Y5) #[] #[gp],.func (.func S) #[] #[gp]] 298);refine(C.out.call _ B1).mono ?_;rintro e w1 ⟨rfl,rfl⟩;clear C HE;have hd:decide (n<lo)=V:=Ia D;have hd2:decide (hi<n)=EI:=IE h;go_wp2;go_ret2;exact⟨U,B1⟩
theorem EIP(sz lo hi n:Int)(Y5 S:Nat)(gp:G)(w:M)(HG:dj w Y5 gp n)(h0:lo<=n)(h:n<=hi)(hl:lo<0)(hl2: -32768<=lo)(hh:hi<=32767): Eg Ea 242 #[EZ #[E I sz,E I lo,E I hi,.func (.func Y5) #[] #[gp],.func (.func S) #[] #[gp]]] w fun e w'=> ∃g,e=Eh (Es #[EJ (X ⟨g,0,Z⟩) 2 2,EU EI])/\Row w' (X ⟨g,0,Z⟩) (be (n%65536) 2)/\Ek w w':=by have C:=J HG;have HE: ∀(args:Array G) (w:M),(Ji Y5 args).run Ea w= .ok (.enter Y5 args) w:=HG.1;clear HG;go_enter Tryz.func242,Tryz.ntmps242;go_wp2_with fail;have B1:=Er w (Ec #[E I sz,E I lo,E I hi,.func (.func Y5) #[] #[gp],.func (.func S) #[] #[gp]] 298);refine(C.out.call _ B1).mono ?_;rintro e w1 ⟨rfl,rfl⟩;clear C HE;have hd:decide (n<lo)=V:=Ia D;have hd2:decide (hi<n)=V:=Ia D;have hd3:decide (lo<0)=EI:=IE hl;have n1: -32768<=n:=D;have n2:n<=32767:=D;go_wp2_with fail;refine(EIz n _ n1 n2).mono ?_;exact EmS
theorem EIQ(lo hi n:Int)(Y5 S:Nat)(gp:G)(w:M)(HG:dj w Y5 gp n)(k:Nat)(hk8:k<=8)(h0:lo<=n)(h:n<=hi)(hl:0<=lo)(hn:n/2^(8*k)=0)(hh:hi<=9223372036854775807): Eg Ea 242 #[EZ #[E I (k:Int),E I lo,E I hi,.func (.func Y5) #[] #[gp],.func (.func S) #[] #[gp]]] w fun e w'=> ∃g,e=Eh (Es #[EJ (X ⟨g,0,Z⟩) k k,EU EI])/\Row w' (X ⟨g,0,Z⟩) (be n k)/\Ek w w':=by have C:=J HG;have HE: ∀(args:Array G) (w:M),(Ji Y5 args).run Ea w= .ok (.enter Y5 args) w:=HG.1;clear HG;go_enter Tryz.func242,Tryz.ntmps242;go_wp2_with fail;have B1:=Er w (Ec #[E I (k:Int),E I lo,E I hi,.func (.func Y5) #[] #[gp],.func (.func S) #[] #[gp]] 298);refine(C.out.call _ B1).mono ?_;rintro e w1 ⟨rfl,rfl⟩;clear C HE;have hd:decide (n<lo)=V:=Ia D;have hd2:decide (hi<n)=V:=Ia D;have hd3:decide (lo<0)=V:=Ia D;have n1:0<=n:=D;have n2:n<=18446744073709551615:=D;have n3:n<=9223372036854775807:=D;have CP:=J<|fun W=>js n k W n1 n2 hk8 hn;clear hn;go_wp2_with fail;refine(CP.out _).mono ?_;exact EmS
structure fI where
 code:Int
 Y5:Nat
 lb:Array G
 b:Bool
def fI.v(c:fI):List G:=[E I c.code,.func (.func c.Y5) #[] c.lb]
def EIS(w:M)(c:fI):Prop:=ic c.Y5/\ ∀W,Ek w W->Eg Ea c.Y5 c.lb W fun e w'=>e=Eh (EU c.b)/\Ek W w'
def ig:List fI->Int
 |[]=>0
 |c::r=>if c.b then c.code else ig r
theorem Nf(L:List fI)(i:Nat)(h:i<L.length):(L.flatMap fI.v)[i*2]?=X (E I L[i].code)/\(L.flatMap fI.v)[i*2+1]?=X (.func (.func L[i].Y5) #[] L[i].lb):=by
 induction L generalizing i with
 |nil=>simp at h
 |cons c r ih=>
  cases i with
  |zero=>simp[fI.v]
  |succ i=> have:=ih i UB;rw[nA,show(i+1)*2=i*2+2 from D,show i*2+2+1=i*2+1+2 from D];simpa[fI.v] using this
theorem EIT(L:List fI)(i:Nat)(h:i<L.length):ig (L.drop i)=if L[i].b then L[i].code else ig (L.drop (i+1)):=by rw[lO h];rfl
theorem EIV:IF Ea 317 2:=⟨⟨_,Tryz.underlying317,U⟩,Ef⟩
theorem Ng(L:List fI)(g n:Nat)(w:M)(hn:L.length=n)(hL:n<=10)(K:H w g (L.flatMap fI.v).toArray 317)(HT: ∀c∈L,EIS w c): Eg Ea 220 #[EJ (X ⟨g,0,Z⟩) n n] w fun e w'=>e=Eh (E I (ig L))/\Ek w w':=by
 have HT:=J HT;have K:=J K;have HN:=J hn;obtain⟨r,hr⟩:=Eo (ig L);rw[<-hr];have HR:=J<|show r=ig (L.drop 0) from hr;clear hr hn;go_enter Tryz.func220,Tryz.ntmps220;go_wp2_with fail;go_loopw[7] (fun y wr=> ∃i:Nat,i<=n/\y=E I i/\r=ig (L.drop i)/\Ek w wr) (fun y _=>n-(I5 y).toNat);case atStart=>exact⟨0,D,U,HR.out,E_ _ _⟩
 case round=>
  obtain⟨i,hi,rfl,xR,B⟩:=hrel;replace B:=J B;by_cases hlt:i<n
  ·have t1:decide ((i:Int)<(n:Int))=EI:=IE D;have hil:i<L.length:=lB;obtain⟨c,hc⟩:=Eo (L[i]);have KW:=K.out.u (B.out.mono (E9 _));have c0:wr.cell? ⟨g,i*2,Z⟩=X (E I c.code):=by rw[hc,KW.cell,J0];exact(Nf L i hil).1
   have c1:wr.cell? ⟨g,i*2+1,Z⟩=X (.func (.func c.Y5) #[] c.lb):=by rw[hc,KW.cell,J0];exact(Nf L i hil).2
   have TC:=HT.out c (by rw[hc];exact dW hil);have HE: ∀(args:Array G) (w:M),(Ji c.Y5 args).run Ea w= .ok (.enter c.Y5 args) w:=TC.1;have CC:=J<|TC.2;have Nh:Ed (r=if c.b then c.code else ig (L.drop (i+1))):=J (by rw[hc,xR];exact EIT L i hil);clear TC xR hc KW;obtain⟨code,Y5,lb,b⟩:=c;simp only at*;go_wp2_with (first|(with_reducible refine EEC 317 ?_));apply Et;clear c0 c1 t1;have lw:=B.out.size;have KC:=J<|H.new wr #[E I 0,.nilFunc] 317;have B1:=Er wr (Ec #[E I 0,.nilFunc] 317);replace B:=J<|B.out.trans (B1.mono B.out.size);clear B1;generalize wr.alloc (Ec #[E I 0,.nilFunc] 317)=w1 at*;generalize wr.heap.size=gc at*;go_wp2_with (with_reducible refine wS (cs:= #[E I code,.func (.func Y5) #[] lb]) EIV KC (Ey.mk ?_) (h1:=UP));apply Et;replace KC:=J<|KC.out.setRow #[E I code,.func (.func Y5) #[] lb];replace B:=J<|E6 (g:=gc) B.out lw #[E I code,.func (.func Y5) #[] lb];generalize w1.setRow gc #[E I code,.func (.func Y5) #[] lb]=w2 at*;have cc1:w2.cell? ⟨gc,1,Z⟩=X (.func (.func Y5) #[] lb):=(KC.out.cell 1).trans U;go_wp2_with fail;refine(CC.out _ B.out).mono ?_;rintro x w3 ⟨rfl,b3⟩;replace KC:=J<|KC.out.u b3;replace B:=J<|B.out.trans (b3.mono B.out.size);clear b3 cc1 CC HE;have cc0:w3.cell? ⟨gc,0,Z⟩=X (E I code):=(KC.out.cell 0).trans U;cases b with
   |true=> have er:r=code:=Nh.out;go_wp2;go_ret;exact⟨by rw[er];rfl,B.out⟩
   |false=> go_wp2_with fail;exact⟨⟨i+1,D,Ej,Nh.out,B.out⟩,J6⟩
  ·have t1:decide ((i:Int)<(n:Int))=V:=Ia D;have er:r=0:=by rw[xR,List.drop_of_length_le qu];rfl
   clear xR;go_wp2;go_ret;exact⟨by rw[er];rfl,B.out⟩
section
open Go.ChangeShapes Go.WideShapes
def EN(n:Nat)(f:Nat->G):Array G:=((UM n).map f).toArray
def ii(f:Nat->G)(j:Nat)(v:G):Nat->G:=fun x=>if x=j then v else f x
@[simp] theorem ij(n:Nat)(f:Nat->G):(EN n f).size=n:=ju
theorem Zz(n:Nat)(f:Nat->G)(i:Nat):(EN n f)[i]?=if i<n then X (f i) else Z:=by
 unfold EN;by_cases h:i<n;·simp[h]
 ·simp[h]
theorem xS(n:Nat)(f:Nat->G)(i:Nat)(h:i<(EN n f).size):(EN n f)[i]=f i:=ju
theorem Dv(n:Nat)(f:Nat->G)(j:Nat)(v:G):(EN n f).setIfInBounds j v=EN n (ii f j v):=by
 apply Array.ext;·simp[EN]
 ·intro i h1 h2;have hi:i<n:=by simpa[EN] using h2
  rw[Array.getElem_setIfInBounds (by simpa[EN] using hi),xS,xS];unfold ii;by_cases e:j=i;·subst e;simp
  ·rw[if_neg e,if_neg (fun h=>e h.symm)]
theorem EIY(cs:Array G)(n:Nat)(h:cs.size=n):cs=EN n (fun i=>cs.getD i Iv):=by
 apply Array.ext;·simp[EN,h]
 ·intro i h1 h2;rw[xS];simp[h1]
theorem Ni(f:Nat->G)(j:Nat)(v:G):ii f j v j=v:=by simp[ii]
theorem xT(f:Nat->G)(j:Nat)(v:G)(x:Nat)(h:x≠j):ii f j v x=f x:=by simp[ii,h]
attribute [go_sem] Zz xS ij
def ZA(v:G):Prop:=v=E I (I5 v)/\ -9223372036854775808<=I5 v/\I5 v<=9223372036854775807
structure Nj(w:M)(f:Nat->G):Prop where
 int: ∀i,i<56->i<5\/8<i->ZA (f i)
 key: ∀i,5<=i->i<=8->xX w (f i)
def Nk(w:M)(v:G):Prop:= ∃f,v=EZ (EN 56 f)/\Nj w f
def Dw:List Ez:=dg 5 3++dg 4 23++dg 47 3
theorem mk_pol{r:Reach}{Y9:Type}{enc:Ez×G->Y9}{v:G}{d:DataW Y9}{p:List MemPlace} (hv:Value.okWide Ea w r base 28 v) (hd:DataW.Trod enc Ea w 0 (fun _=>EI) EI 28 v d p):Nk w v:=by
 obtain⟨cs,rfl,hs,hc⟩:=flat (ts:=Dw) (.inl ⟨_,Tryz.underlying28⟩) Ef Ef hv;have hs:cs.size=56:=hs;have hget: ∀i,i<56->cs[i]?=X (cs.getD i Iv):=fun i hi=>by simp[show i<cs.size from D]
 refine⟨fun i=>cs.getD i Iv,by rw[<-EIY cs 56 hs],⟨fun i hi h=> ?_,fun i h1 h2=> ?_⟩⟩
 ·have ht:Dw[i]?=X 3:=by have: ∀i:Fin 56,(i.1<5\/8<i.1)->Dw[i.1]?=X 3:=Eb;exact this ⟨i,hi⟩ h
  obtain⟨n,hn,b1,b2⟩:=EEi Tryz.underlying3 (hc i _ _ ht (hget i hi));unfold ZA;rw[hn];exact⟨U,b1,b2⟩
 ·obtain⟨fuel,hf⟩:=hd;obtain⟨xs,n,_,_,_,hl,hg⟩:=DataW.trod_struct Tryz.underlying28 hf;have hcl:(Value.agg cs).cells.toList=cs.toList:=rfl;rw[hcl] at hg;have c3:Tryz.prog.cellsOf 24=3:=Ef;have c1:Tryz.prog.cellsOf 23=1:=Ef;have one: ∀j,j<56->(cs.toList.drop j).take 1=[cs.getD j Iv]:=by intro j hj;rw[lO Jm];simp[show j<cs.size from D]
  rcases JW i 8 with h8|h8
  ·have h:Zr enc Ea w 0 (fun _=>EI) EI n 24 ((cs.toList.drop 5).take (Tryz.prog.cellsOf 24))=xs[1]?:=hg 1 _ U;rw[c3] at h;have hx:1<xs.length:=by rw[hl];show 1<20;omega
   rw[JY hx] at h;obtain⟨ys,m,_,_,_,_,hj⟩:=DataW.trod_array Tryz.underlying24 h;have:=hj (i-5) D;rw[c1] at this;have e:((List.take 3 (List.drop 5 cs.toList)).drop ((i-5)*1)).take 1=[cs.getD i Iv]:=by rw[Nat.mul_one,List.drop_take,List.drop_drop,List.take_take,show 5+(i-5)=i from D,show min 1 (3-(i-5))=1 from D];exact one i D
   rw[e] at this;have hy:i-5<ys.length:=D;rw[JY hy] at this;exact MI ba Tryz.underlying5 Ef this
  ·obtain rfl:i=8:=D;have h:Zr enc Ea w 0 (fun _=>EI) EI n 23 ((cs.toList.drop 8).take (Tryz.prog.cellsOf 23))=xs[2]?:=hg 2 _ U;rw[c1] at h;have hx:2<xs.length:=by rw[hl];show 2<20;omega
   rw[JY hx,one 8 D] at h;exact MI ba Tryz.underlying5 Ef h
end
theorem EI0(W:M)(h e o oa om la lm:Int)(b:Bool)(g3:Nat)(KT:H W g3 #[E I h,E I e,E I o,E I oa,E I om,E I la,E I lm,EU b] 109)(g4:Nat)(s:Int)(K4:H W g4 #[E I s] 3): Eg Ea 226 #[Y (X ⟨g3,0,Z⟩),Y (X ⟨g4,0,Z⟩)] W fun x w'=>x=Eh (EU (decide (o<0\/o≠s)))/\Ek W w':=by
 have xV:g3<W.heap.size:=H.lt KT;have xW:W.cell? ⟨g3,0,Z⟩=X (E I h):=(H.cell KT 0).trans U;have c31:W.cell? ⟨g3,1,Z⟩=X (E I e):=(H.cell KT 1).trans U;have c32:W.cell? ⟨g3,2,Z⟩=X (E I o):=(H.cell KT 2).trans U;have xY:W.cell? ⟨g3,3,Z⟩=X (E I oa):=(H.cell KT 3).trans U;have c34:W.cell? ⟨g3,4,Z⟩=X (E I om):=(H.cell KT 4).trans U;have x_:W.cell? ⟨g3,5,Z⟩=X (E I la):=(H.cell KT 5).trans U;have yE:W.cell? ⟨g3,6,Z⟩=X (E I lm):=(H.cell KT 6).trans U;have c37:W.cell? ⟨g3,7,Z⟩=X (EU b):=(H.cell KT 7).trans U;have Eh9:g4<W.heap.size:=H.lt K4;have ci4:W.cell? ⟨g4,0,Z⟩=X (E I s):=(H.cell K4 0).trans U;by_cases h1:o<0;·rw[IE (.inl h1)];have d1:decide (0<=o)=V:=Ia D;clear KT K4 h1;exact Eoi
 have d1:decide (0<=o)=EI:=IE D;by_cases h2:o=s;·rw[Ia D];have d2:(o !=s)=V:=xF;clear KT K4 h1 h2;exact Eoi
 ·rw[IE (.inr h2)];have d2:(o !=s)=EI:=by simp[h2]
  clear KT K4 h1 h2;exact Eoi
theorem EI1(W:M)(h e o oa om la lm:Int)(b:Bool)(g3:Nat)(KT:H W g3 #[E I h,E I e,E I o,E I oa,E I om,E I la,E I lm,EU b] 109)(g5:Nat)(ep:Int)(K5:H W g5 #[E I ep] 3): Eg Ea 227 #[Y (X ⟨g5,0,Z⟩),Y (X ⟨g3,0,Z⟩)] W fun x w'=>x=Eh (EU (decide (ep≠e)))/\Ek W w':=by
 have xV:g3<W.heap.size:=H.lt KT;have xW:W.cell? ⟨g3,0,Z⟩=X (E I h):=(H.cell KT 0).trans U;have c31:W.cell? ⟨g3,1,Z⟩=X (E I e):=(H.cell KT 1).trans U;have c32:W.cell? ⟨g3,2,Z⟩=X (E I o):=(H.cell KT 2).trans U;have xY:W.cell? ⟨g3,3,Z⟩=X (E I oa):=(H.cell KT 3).trans U;have c34:W.cell? ⟨g3,4,Z⟩=X (E I om):=(H.cell KT 4).trans U;have x_:W.cell? ⟨g3,5,Z⟩=X (E I la):=(H.cell KT 5).trans U;have yE:W.cell? ⟨g3,6,Z⟩=X (E I lm):=(H.cell KT 6).trans U;have c37:W.cell? ⟨g3,7,Z⟩=X (EU b):=(H.cell KT 7).trans U;have EiE:g5<W.heap.size:=H.lt K5;have ci5:W.cell? ⟨g5,0,Z⟩=X (E I ep):=(H.cell K5 0).trans U;by_cases h2:ep=e;·rw[Ia D];have d2:(ep !=e)=V:=xF;clear KT K5 h2;go_enter Tryz.func227,Tryz.ntmps227;exact Ej3
 ·rw[IE h2];have d2:(ep !=e)=EI:=by simp[h2]
  clear KT K5 h2;go_enter Tryz.func227,Tryz.ntmps227;exact Ej3
theorem EI2(t:EM)(s ep:Int)(w:M)(he: -9223372036854775808<=t.e): Eg Ea 179 #[t.a,E I s,E I ep] w fun x w'=>x=Eh (Es #[(t.accept s ep).1.a,E I (t.accept s ep).2])/\Ek w w':=by
 have CG:=J<|fun W=>qt t s W he;obtain⟨r,hr⟩:=Eo (t.UZ s);have HE:Ed (t.accept s ep=if t.o<0\/t.o≠s then(t,28) else if ep≠t.e then(t,21) else r):=J tU;rw[<-hr] at CG;clear hr he;unfold EM.a at*;obtain⟨h,e,o,oa,om,la,lm,b⟩:=t;simp only at*;obtain⟨⟨h',e',o',oa',om',la',lm',b'⟩,k⟩:=r;simp only at CG;unfold O4 at CG⊢;go_enter Tryz.func179,Tryz.ntmps179;go_wp2_with fail;generalize hW:XX _ _=W at*;have K3:Ed (H W (w.heap.size) #[E I h,E I e,E I o,E I oa,E I om,E I la,E I lm,EU b] 109):=J (by subst hW;repeat (first|exact H.new _ _ _|exact H.new' _ _ _ Ej|refine H.alloc ?_ _));have K4:Ed (H W (w.heap.size+1) #[E I s] 3):=J (by subst hW;repeat (first|exact H.new _ _ _|exact H.new' _ _ _ Ej|refine H.alloc ?_ _));have K5:Ed (H W (w.heap.size+1+1) #[E I ep] 3):=J (by subst hW;repeat (first|exact H.new _ _ _|exact H.new' _ _ _ Ej|refine H.alloc ?_ _));have K6:Ed (H W (w.heap.size+1+1+1) #[E I 0,E I 0,E I 0,E I 0,E I 0,E I 0,E I 0,EU V] 109):=J (by subst hW;repeat (first|exact H.new _ _ _|exact H.new' _ _ _ Ej|refine H.alloc ?_ _));have KA:Ed (H W (w.heap.size+1+1+1+1) #[E I 28,.func (.func 226) #[] #[Y (X ⟨w.heap.size,0,Z⟩),Y (X ⟨w.heap.size+1,0,Z⟩)],E I 21,.func (.func 227) #[] #[Y (X ⟨w.heap.size+1+1,0,Z⟩),Y (X ⟨w.heap.size,0,Z⟩)]] 317):=J (by subst hW;repeat (first|exact H.new _ _ _|exact H.new' _ _ _ Ej|refine H.alloc ?_ _));have B:Ed (Ek w W):=J (by subst hW;(repeat (first|exact E_ _ _|(refine J1 ?_ IC _)|(refine J5 ?_ IC _))));clear hW
 have CF:=Ng [⟨28,226,#[Y (X ⟨w.heap.size,0,Z⟩),Y (X ⟨w.heap.size+1,0,Z⟩)],decide (o<0\/o≠s)⟩,⟨21,227,#[Y (X ⟨w.heap.size+1+1,0,Z⟩),Y (X ⟨w.heap.size,0,Z⟩)],decide (ep≠e)⟩] (w.heap.size+1+1+1+1) 2 W U D KA.out (by
  intro c hc;simp only[OY,Uu,or_false] at hc;rcases hc with rfl|rfl;·exact⟨fun _ _=>Ef,fun W2 hW2=>EI0 W2 h e o oa om la lm b _ (K3.out.u hW2) _ s (K4.out.u hW2)⟩
  ·exact⟨fun _ _=>Ef,fun W2 hW2=>EI1 W2 h e o oa om la lm b _ (K3.out.u hW2) _ ep (K5.out.u hW2)⟩)
 simp only[ig,decide_eq_true_eq] at CF;replace CF:=J CF;clear KA;by_cases h1:o<0\/o≠s;·rw[if_pos h1] at CF HE;exact Eks
 rw[if_neg h1] at CF HE;by_cases h2:ep≠e;·rw[if_pos h2] at CF HE;exact Eks
 rw[if_neg h2] at CF HE;refine CF.out.mono ?_;rintro x W2 ⟨rfl,b2⟩;replace K3:=J<|K3.out.u b2;replace K4:=J<|K4.out.u b2;replace K5:=J<|K5.out.u b2;replace K6:=J<|K6.out.u b2;replace B:=EW B b2;clear b2 CF h1 h2;have c4:W2.cell? ⟨w.heap.size+1,0,Z⟩=X (E I s):=(K4.out.cell 0).trans U;go_wp2_with (first|(with_reducible refine wL ER K3 ?_));refine(CG.out _).mono ?_;rintro x W3 ⟨rfl,b3⟩;replace K3:=J<|K3.out.u b3;replace K4:=J<|K4.out.u b3;replace K5:=J<|K5.out.u b3;replace K6:=J<|K6.out.u b3;replace B:=EW B b3;clear b3 CG c4;go_wp2_with (first|(with_reducible refine wS (cs:= #[E I h',E I e',E I o',E I oa',E I om',E I la',E I lm',EU b']) ER K6 ?_ (h1:=UP)));exact Ek3
theorem EI6{a:E2}(hw:I8 o (Ja ops a.tmps)=EI) {v:G}  (hr:(Ig a.eval o).run P w= .ok (.value v) w') (h:Ih P ops Q rest (a.put o.dst v) w'):Ih P ops Q (o::rest) a w:=by exact ElK
def pz:Nat->G:=fun i=>if i<5 then E I 0 else if i<=8 then .slice Z 0 0 else E I 0
theorem EI7:(Tryz.prog.info? 28).map (·.size)=X 56:=Ef
section
variable{ops:Array Oper}{rest:List Oper}{o:Oper}{a:Act}{w:World}{Q:Exit->Act->World->Prop}
theorem nG(hw:I8 o (Ja ops a.tmps)=EI)(x:JN)(ho:o.op= .load 28 x)(g:Nat)(q:Nat->G)(hg:Ed (w.heap[g]?=X (Ec (EN 56 q) 28 (0,0)))) (hx:a.eval x=Y (X ⟨g,0,Z⟩)) (h:Ih Ea ops Q rest (a.put o.dst (EZ (EN 56 q))) w):Ih Ea ops Q (o::rest) a w:=by refine EI6 hw ?_ h;unfold Ig;simp only[ho,hx,dZ,bI,Om,Oa,On,run_loadVar_row w g 28 28 (EN 56 q) (0,0) _ hg.out Tryz.underlying28 U (by rw[EI7,ij])]
theorem Oo{o:EG}{ops:Array EG}{tmps:Array G}{j d:Nat}{want:Bool}(h:o.guard=X (j,want))(hd:(ops[j]?).bind (·.dst)=X d)(hv:tmps[d]?=X (EU want)):I8 o (Ja ops tmps)=EI:=by unfold I8 Ja;simp[h,hd,hv]
end
def bz(i:Nat):Nat:=if i=9 then 1 else if i<13 then 14 else if i=13 then 0 else if i<34 then 15 else if i<39 then 31 else if i<42 then 4 else if i<48 then 1000 else if i<50 then 3 else if i=50 then 0 else if i<55 then 1000 else 65535
def qx(i:Nat):Nat:=if i=9 then 1 else if i<42 then 0 else if i<47 then 1 else if i=47 then 0 else if i<50 then 1 else if i=54 then 1 else 0
def Nl(i n:Nat):Prop:=qx i<=n/\n<=bz i/\(9<i->i<13->n%2=0)
theorem EI8(W:M)(h e o oa om la lm:Int)(b:Bool)(g3:Nat)(KT:H W g3 #[E I h,E I e,E I o,E I oa,E I om,E I la,E I lm,EU b] 109)(g7:Nat)(s:Int)(K7:H W g7 #[E I s] 3): Eg Ea 221 #[Y (X ⟨g7,0,Z⟩),Y (X ⟨g3,0,Z⟩)] W fun x w'=>x=Eh (EU (decide (s≠h)))/\Ek W w':=by
 have xV:g3<W.heap.size:=H.lt KT;have xW:W.cell? ⟨g3,0,Z⟩=X (E I h):=(H.cell KT 0).trans U;have c31:W.cell? ⟨g3,1,Z⟩=X (E I e):=(H.cell KT 1).trans U;have c32:W.cell? ⟨g3,2,Z⟩=X (E I o):=(H.cell KT 2).trans U;have xY:W.cell? ⟨g3,3,Z⟩=X (E I oa):=(H.cell KT 3).trans U;have c34:W.cell? ⟨g3,4,Z⟩=X (E I om):=(H.cell KT 4).trans U;have x_:W.cell? ⟨g3,5,Z⟩=X (E I la):=(H.cell KT 5).trans U;have yE:W.cell? ⟨g3,6,Z⟩=X (E I lm):=(H.cell KT 6).trans U;have c37:W.cell? ⟨g3,7,Z⟩=X (EU b):=(H.cell KT 7).trans U;have EI9:g7<W.heap.size:=H.lt K7;have ci7:W.cell? ⟨g7,0,Z⟩=X (E I s):=(H.cell K7 0).trans U;by_cases hx:s≠h;·rw[IE hx];have d1:(s !=h)=EI:=td;clear KT K7 hx;go_enter Tryz.func221,Tryz.ntmps221;exact Ej3
 ·rw[Ia hx];have d1:(s !=h)=V:=by simpa using hx
  clear KT K7 hx;go_enter Tryz.func221,Tryz.ntmps221;exact Ej3
theorem EJE(W:M)(h e o oa om la lm:Int)(b:Bool)(g3:Nat)(KT:H W g3 #[E I h,E I e,E I o,E I oa,E I om,E I la,E I lm,EU b] 109): Eg Ea 222 #[Y (X ⟨g3,0,Z⟩)] W fun x w'=>x=Eh (EU (decide (65535<=e)))/\Ek W w':=by
 have xV:g3<W.heap.size:=H.lt KT;have xW:W.cell? ⟨g3,0,Z⟩=X (E I h):=(H.cell KT 0).trans U;have c31:W.cell? ⟨g3,1,Z⟩=X (E I e):=(H.cell KT 1).trans U;have c32:W.cell? ⟨g3,2,Z⟩=X (E I o):=(H.cell KT 2).trans U;have xY:W.cell? ⟨g3,3,Z⟩=X (E I oa):=(H.cell KT 3).trans U;have c34:W.cell? ⟨g3,4,Z⟩=X (E I om):=(H.cell KT 4).trans U;have x_:W.cell? ⟨g3,5,Z⟩=X (E I la):=(H.cell KT 5).trans U;have yE:W.cell? ⟨g3,6,Z⟩=X (E I lm):=(H.cell KT 6).trans U;have c37:W.cell? ⟨g3,7,Z⟩=X (EU b):=(H.cell KT 7).trans U;by_cases hx:65535<=e;·rw[IE hx];have d1:decide (65535<=e)=EI:=IE hx;exact Eou
 ·rw[Ia hx];have d1:decide (65535<=e)=V:=Ia hx;exact Eou
theorem EJI(W:M)(g8:Nat)(IW:Int)(K8:H W g8 #[E I IW] 3)(g7:Nat)(s:Int)(K7:H W g7 #[E I s] 3): Eg Ea 223 #[Y (X ⟨g8,0,Z⟩),Y (X ⟨g7,0,Z⟩)] W fun x w'=>x=Eh (EU (decide (IW=s)))/\Ek W w':=by
 have EJJ:g8<W.heap.size:=H.lt K8;have ci8:W.cell? ⟨g8,0,Z⟩=X (E I IW):=(H.cell K8 0).trans U;have EI9:g7<W.heap.size:=H.lt K7;have ci7:W.cell? ⟨g7,0,Z⟩=X (E I s):=(H.cell K7 0).trans U;by_cases hx:IW=s;·rw[IE hx];have d1:(IW==s)=EI:=td;exact Eoq
 ·rw[Ia hx];have d1:(IW==s)=V:=beq_eq_false_iff_ne.2 hx;exact Eoq
theorem EJU(W:M)(g8:Nat)(IW:Int)(K8:H W g8 #[E I IW] 3)(g9:Nat)(th:Bool)(K9:H W g9 #[EU th] 4): Eg Ea 224 #[Y (X ⟨g8,0,Z⟩),Y (X ⟨g9,0,Z⟩)] W fun x w'=>x=Eh (EU (decide (IW<1\/3<IW\/th=V)))/\Ek W w':=by
 have EJJ:g8<W.heap.size:=H.lt K8;have ci8:W.cell? ⟨g8,0,Z⟩=X (E I IW):=(H.cell K8 0).trans U;have EiJ:g9<W.heap.size:=H.lt K9;have ci9:W.cell? ⟨g9,0,Z⟩=X (EU th):=(H.cell K9 0).trans U;by_cases h1:IW<1;·rw[IE (.inl h1)];have d1:decide (IW<1)=EI:=IE h1;clear K8 K9 h1;go_enter Tryz.func224,Tryz.ntmps224;exact Ej3
 have d1:decide (IW<1)=V:=Ia h1;by_cases h2:3<IW;·rw[IE (.inr (.inl h2))];have d2:decide (3<IW)=EI:=IE h2;clear K8 K9 h1 h2;go_enter Tryz.func224,Tryz.ntmps224;exact Ej3
 have d2:decide (3<IW)=V:=Ia h2;cases th with
 |false=> rw[IE (.inr (.inr U))];clear K8 K9 h1 h2;go_enter Tryz.func224,Tryz.ntmps224;go_wp2;go_ret;exact⟨U,by(repeat (first|exact E_ _ _|(refine J1 ?_ IC _)|(refine J5 ?_ IC _)))⟩
 |true=> rw[Ia Jm];clear K8 K9 h1 h2;go_enter Tryz.func224,Tryz.ntmps224;go_wp2;go_ret;exact⟨U,by(repeat (first|exact E_ _ _|(refine J1 ?_ IC _)|(refine J5 ?_ IC _)))⟩
theorem EJX(W:M)(h e o oa om la lm:Int)(b:Bool)(g3:Nat)(KT:H W g3 #[E I h,E I e,E I o,E I oa,E I om,E I la,E I lm,EU b] 109): Eg Ea 225 #[Y (X ⟨g3,0,Z⟩)] W fun x w'=>x=Eh (EU (decide (0<=o)))/\Ek W w':=by
 have xV:g3<W.heap.size:=H.lt KT;have xW:W.cell? ⟨g3,0,Z⟩=X (E I h):=(H.cell KT 0).trans U;have c31:W.cell? ⟨g3,1,Z⟩=X (E I e):=(H.cell KT 1).trans U;have c32:W.cell? ⟨g3,2,Z⟩=X (E I o):=(H.cell KT 2).trans U;have xY:W.cell? ⟨g3,3,Z⟩=X (E I oa):=(H.cell KT 3).trans U;have c34:W.cell? ⟨g3,4,Z⟩=X (E I om):=(H.cell KT 4).trans U;have x_:W.cell? ⟨g3,5,Z⟩=X (E I la):=(H.cell KT 5).trans U;have yE:W.cell? ⟨g3,6,Z⟩=X (E I lm):=(H.cell KT 6).trans U;have c37:W.cell? ⟨g3,7,Z⟩=X (EU b):=(H.cell KT 7).trans U;by_cases hx:0<=o;·rw[IE hx];have d1:decide (0<=o)=EI:=IE hx;exact Eot
 ·rw[Ia hx];have d1:decide (0<=o)=V:=Ia hx;exact Eot
theorem EJZ(f:Nat->G)(t:EM)(s IW po:Int)(th:Bool)(w:M)(hp:f 44=E I po): Eg Ea 178 #[EZ (EN 56 f),t.a,E I s,E I IW,EU th] w fun x w'=>x=Eh (Es #[(t.make po s IW th).1.a,E I (t.make po s IW th).2])/\Ek w w':=by
 have HE:Ed (t.make po s IW th=if s≠t.h then(t,20) else if 65535<=t.e then(t,24) else if IW=s then(t,25) else if IW<1\/3<IW\/th=V then(t,2) else if 0<=t.o then(t,28) else({t with o:=IW,oa:=0,om:=max po 0},0)):=J U;have CS:=J<|fun W=>xq po W;generalize max po 0=mp at*;have HP:=J hp;clear hp;unfold EM.a at*;obtain⟨h,e,o,oa,om,la,lm,b⟩:=t;simp only at*;unfold O4 at*;go_enter Tryz.func178,Tryz.ntmps178;go_wp2_with fail;generalize hW:XX _ _=W at*;have K0:Ed (H W (w.heap.size) (EN 56 f) 28):=J (by subst hW;repeat (first|exact H.new _ _ _|exact H.new' _ _ _ Ej|refine H.alloc ?_ _));have K1:Ed (H W (w.heap.size+1) #[E I h,E I e,E I o,E I oa,E I om,E I la,E I lm,EU b] 109):=J (by subst hW;repeat (first|exact H.new _ _ _|exact H.new' _ _ _ Ej|refine H.alloc ?_ _));have K2:Ed (H W (w.heap.size+1+1) #[E I s] 3):=J (by subst hW;repeat (first|exact H.new _ _ _|exact H.new' _ _ _ Ej|refine H.alloc ?_ _));have K3:Ed (H W (w.heap.size+1+1+1) #[E I IW] 3):=J (by subst hW;repeat (first|exact H.new _ _ _|exact H.new' _ _ _ Ej|refine H.alloc ?_ _));have K4:Ed (H W (w.heap.size+1+1+1+1) #[EU th] 4):=J (by subst hW;repeat (first|exact H.new _ _ _|exact H.new' _ _ _ Ej|refine H.alloc ?_ _));have K5:Ed (H W (w.heap.size+1+1+1+1+1) #[E I 0,E I 0,E I 0,E I 0,E I 0,E I 0,E I 0,EU V] 109):=J (by subst hW;repeat (first|exact H.new _ _ _|exact H.new' _ _ _ Ej|refine H.alloc ?_ _));have K6:Ed (H W (w.heap.size+1+1+1+1+1+1) #[E I 20,.func (.func 221) #[] #[Y (X ⟨w.heap.size+1+1,0,Z⟩),Y (X ⟨w.heap.size+1,0,Z⟩)],E I 24,.func (.func 222) #[] #[Y (X ⟨w.heap.size+1,0,Z⟩)],E I 25,.func (.func 223) #[] #[Y (X ⟨w.heap.size+1+1+1,0,Z⟩),Y (X ⟨w.heap.size+1+1,0,Z⟩)],E I 2,.func (.func 224) #[] #[Y (X ⟨w.heap.size+1+1+1,0,Z⟩),Y (X ⟨w.heap.size+1+1+1+1,0,Z⟩)],E I 28,.func (.func 225) #[] #[Y (X ⟨w.heap.size+1,0,Z⟩)]] 317):=J (by subst hW;repeat (first|exact H.new _ _ _|exact H.new' _ _ _ Ej|refine H.alloc ?_ _));have B:Ed (Ek w W):=J (by subst hW;(repeat (first|exact E_ _ _|(refine J1 ?_ IC _)|(refine J5 ?_ IC _))));clear hW
 have CF:=Ng [⟨20,221,#[Y (X ⟨w.heap.size+1+1,0,Z⟩),Y (X ⟨w.heap.size+1,0,Z⟩)],decide (s≠h)⟩,⟨24,222,#[Y (X ⟨w.heap.size+1,0,Z⟩)],decide (65535<=e)⟩,⟨25,223,#[Y (X ⟨w.heap.size+1+1+1,0,Z⟩),Y (X ⟨w.heap.size+1+1,0,Z⟩)],decide (IW=s)⟩,⟨2,224,#[Y (X ⟨w.heap.size+1+1+1,0,Z⟩),Y (X ⟨w.heap.size+1+1+1+1,0,Z⟩)],decide (IW<1\/3<IW\/th=V)⟩,⟨28,225,#[Y (X ⟨w.heap.size+1,0,Z⟩)],decide (0<=o)⟩] (w.heap.size+1+1+1+1+1+1) 5 W U D K6.out (by
  intro c hc;simp only[OY,Uu,or_false] at hc;rcases hc with rfl|rfl|rfl|rfl|rfl;·exact⟨fun _ _=>Ef,fun W2 hW2=>EI8 W2 h e o oa om la lm b _ (K1.out.u hW2) _ s (K2.out.u hW2)⟩
  ·exact⟨fun _ _=>Ef,fun W2 hW2=>EJE W2 h e o oa om la lm b _ (K1.out.u hW2)⟩
  ·exact⟨fun _ _=>Ef,fun W2 hW2=>EJI W2 _ IW (K3.out.u hW2) _ s (K2.out.u hW2)⟩
  ·exact⟨fun _ _=>Ef,fun W2 hW2=>EJU W2 _ IW (K3.out.u hW2) _ th (K4.out.u hW2)⟩
  ·exact⟨fun _ _=>Ef,fun W2 hW2=>EJX W2 h e o oa om la lm b _ (K1.out.u hW2)⟩)
 simp only[ig,decide_eq_true_eq] at CF;replace CF:=J CF;clear K6 K2 K4;by_cases h0:s≠h;·rw[if_pos h0] at CF HE;exact EjY
 rw[if_neg h0] at CF HE;by_cases h1:65535<=e;·rw[if_pos h1] at CF HE;exact EjY
 rw[if_neg h1] at CF HE;by_cases h2:IW=s;·rw[if_pos h2] at CF HE;exact EjY
 rw[if_neg h2] at CF HE;by_cases h3:IW<1\/3<IW\/th=V;·rw[if_pos h3] at CF HE;exact EjY
 rw[if_neg h3] at CF HE;by_cases h4:0<=o;·rw[if_pos h4] at CF HE;exact EjY
 rw[if_neg h4] at CF HE;refine CF.out.mono ?_;rintro x W2 ⟨rfl,b2⟩;replace K0:=J<|K0.out.u b2;replace K1:=J<|K1.out.u b2;replace K3:=J<|K3.out.u b2;replace K5:=J<|K5.out.u b2;replace B:=EW B b2;clear b2 CF h0 h1 h2 h3 h4;go_wp2_with fail;have c3: ∀y:Ext W2,(EA W2 y).cell? ⟨w.heap.size+1+1+1,0,Z⟩=X (E I IW):=fun y=>((K3.out.u (EL y)).cell 0).trans U;have c0: ∀y:Ext W2,(EA W2 y).cell? ⟨w.heap.size,44,Z⟩=X (E I po):=fun y=>((K0.out.u (EL y)).cell 44).trans (by rw[Zz,if_pos D,HP.out]);refine J_ 5 Ef Ef ?_;simp only[Is,Io,IS,IM];repeat (go_big_quiet_step (with_reducible refine IY (CS.out _)))
 refine I2 ?_;intro _ hw';obtain⟨y9,rfl⟩:=hw';have En:=EL y9;replace K1:=J<|K1.out.u En;replace K5:=J<|K5.out.u En;replace B:=EW B En;clear c3 c0 K0 K3 CS;generalize EA W2 y9=W3 at*;have a2:W3.cell? ⟨w.heap.size+1,2,Z⟩=X (E I o):=(K1.out.cell 2).trans U;have a3:W3.cell? ⟨w.heap.size+1,3,Z⟩=X (E I oa):=(K1.out.cell 3).trans U;have a4:W3.cell? ⟨w.heap.size+1,4,Z⟩=X (E I om):=(K1.out.cell 4).trans U;have f2:W3.frozen? ⟨w.heap.size+1,2,Z⟩=V:=K1.out.I_ _;have f3:W3.frozen? ⟨w.heap.size+1,3,Z⟩=V:=K1.out.I_ _;have f4:W3.frozen? ⟨w.heap.size+1,4,Z⟩=V:=K1.out.I_ _;obtain⟨W4,tf⟩: ∃W4,W4=((W3.setCell ⟨w.heap.size+1,2,Z⟩ (E I IW)).setCell ⟨w.heap.size+1,3,Z⟩ (E I 0)).setCell ⟨w.heap.size+1,4,Z⟩ (E I mp):=⟨_,U⟩;have Nm:Ed (H W4 (w.heap.size+1) #[E I h,E I e,E I IW,E I 0,E I mp,E I la,E I lm,EU b] 109):=J (by subst tf;have:=((K1.out.set 2 (E I IW)).set 3 (E I 0)).set 4 (E I mp);simpa using this);have jv:Ed (H W4 (w.heap.size+1+1+1+1+1) #[E I 0,E I 0,E I 0,E I 0,E I 0,E I 0,E I 0,EU V] 109):=J (by subst tf;exact((K5.out.other _ 2 _ D).other _ 3 _ D).other _ 4 _ D);have Nn:Ed (Ek w W4):=J (by subst tf;exact((B.out.setCell (p:=⟨w.heap.size+1,2,Z⟩) Ej _).setCell (p:=⟨w.heap.size+1,3,Z⟩) Ej _).setCell (p:=⟨w.heap.size+1,4,Z⟩) Ej _);rw[tf] at Nm jv Nn;clear K1 K5 B tf En;go_wp2_with (with_reducible first|refine wL ER Nm ?_|refine wS (cs:= #[E I h,E I e,E I IW,E I 0,E I mp,E I la,E I lm,EU b]) ER jv ?_ (h1:=UP));refine EV (Us ER U _ _ (w.heap.size+1+1+1+1+1) _ _ U U (jv.out.setRow _) U) U ⟨?_,E6 (g:=w.heap.size+1+1+1+1+1) Nn.out D _⟩;exact En4
theorem ti(K:Ip W g T)(h:T.ok)(i j:Nat)(hj:j<39):W.cell? ⟨g,so i+j,Z⟩=(T.E5 i).v[j]?:=by unfold Ip at K;rw[T.qm i] at K;exact bf K (ET.nu h i) j (by rw[JC.ZX (h.E5 i).len];exact hj)
theorem yI(K:Ip W g T)(h:T.ok):W.cell? ⟨g,120,Z⟩=X (E I T.Iq)/\W.cell? ⟨g,121,Z⟩=X (E I T.most):=by
 have e:T.v=(T.hd++T.s0.v++T.s1.v++T.s2.v)++(T.tl++[]):=by simp[ET.v]
 unfold Ip at K;rw[e] at K;have hl:(T.hd++T.s0.v++T.s1.v++T.s2.v).length=120:=by simp[ET.hd,JC.ZX h.s0.len,JC.ZX h.s1.len,JC.ZX h.s2.len]
 exact⟨bf K hl 0 (by simp[ET.tl]),bf K hl 1 (by simp[ET.tl])⟩
theorem EJa(K:Ip W g T):W.cell? ⟨g,0,Z⟩=X (EU T.Zv):=by unfold Ip at K;rw[K.cell 0,J0];rfl
theorem qy(_:Ip W g T)(h:T.ok):T.v.toArray.size=122:=by simp[ET.v,ET.hd,ET.tl,JC.ZX h.s0.len,JC.ZX h.s1.len,JC.ZX h.s2.len]
theorem Ip.u(K:Ip W g T)(hb:Ek W w'):Ip w' g T:=H.u K hb
def ET.of(T:ET)(g:Nat)(src:Int):G:=
 if src=1\/src=2\/src=3 then(if(T.E5 (src-1).toNat).on then Y (X ⟨g,so (src-1).toNat,Z⟩) else Y Z) else Y Z
theorem EJb(g:Nat)(src:Int)(w:M)(h:src<1\/3<src): Eg Ea 76 #[Y (X ⟨g,0,Z⟩),E I src] w fun e w'=>e=Eh (Y Z)/\w=w':=by
 by_cases h1:src<1;·have d1:decide (src<1)=EI:=IE h1;exact EoI
 ·have d1:decide (src<1)=V:=Ia h1;have d2:decide (3<src)=EI:=IE D;clear h;exact EoI
theorem EJc(g:Nat)(w:M)(c:w.cell? ⟨g,3,Z⟩=X (EU EI)): Eg Ea 76 #[Y (X ⟨g,0,Z⟩),E I 1] w fun e w'=>e=Eh (Y (X ⟨g,3,Z⟩))/\w=w':=by exact EoI
theorem EJd(g:Nat)(w:M)(c:w.cell? ⟨g,3,Z⟩=X (EU V)): Eg Ea 76 #[Y (X ⟨g,0,Z⟩),E I 1] w fun e w'=>e=Eh (Y Z)/\w=w':=by exact EoI
theorem EJf(g:Nat)(w:M)(c:w.cell? ⟨g,42,Z⟩=X (EU EI)): Eg Ea 76 #[Y (X ⟨g,0,Z⟩),E I 2] w fun e w'=>e=Eh (Y (X ⟨g,42,Z⟩))/\w=w':=by exact EoI
theorem EJg(g:Nat)(w:M)(c:w.cell? ⟨g,42,Z⟩=X (EU V)): Eg Ea 76 #[Y (X ⟨g,0,Z⟩),E I 2] w fun e w'=>e=Eh (Y Z)/\w=w':=by exact EoI
theorem EJh(g:Nat)(w:M)(c:w.cell? ⟨g,81,Z⟩=X (EU EI)): Eg Ea 76 #[Y (X ⟨g,0,Z⟩),E I 3] w fun e w'=>e=Eh (Y (X ⟨g,81,Z⟩))/\w=w':=by exact EoI
theorem EJi(g:Nat)(w:M)(c:w.cell? ⟨g,81,Z⟩=X (EU V)): Eg Ea 76 #[Y (X ⟨g,0,Z⟩),E I 3] w fun e w'=>e=Eh (Y Z)/\w=w':=by exact EoI
theorem tj(g:Nat)(T:ET)(src:Int)(w:M)(K:Ip w g T)(h:T.ok): Eg Ea 76 #[Y (X ⟨g,0,Z⟩),E I src] w fun e w'=>e=Eh (T.of g src)/\w=w':=by
 unfold ET.of;by_cases hs:src=1\/src=2\/src=3
 ·rw[if_pos hs];have c:=ti K h (src-1).toNat 0 D;rcases hs with rfl|rfl|rfl
  ·replace c:w.cell? ⟨g,3,Z⟩=X (EU (T.E5 0).on):=c;show Eg _ _ _ _ fun e w'=>e=Eh (if(T.E5 0).on then Y (X ⟨g,3,Z⟩) else Y Z)/\w=w'
   cases hb:(T.E5 0).on with
   |true=>rw[hb] at c;exact EJc g w c
   |false=>rw[hb] at c;exact EJd g w c
  ·replace c:w.cell? ⟨g,42,Z⟩=X (EU (T.E5 1).on):=c;show Eg _ _ _ _ fun e w'=>e=Eh (if(T.E5 1).on then Y (X ⟨g,42,Z⟩) else Y Z)/\w=w'
   cases hb:(T.E5 1).on with
   |true=>rw[hb] at c;exact EJf g w c
   |false=>rw[hb] at c;exact EJg g w c
  ·replace c:w.cell? ⟨g,81,Z⟩=X (EU (T.E5 2).on):=c;show Eg _ _ _ _ fun e w'=>e=Eh (if(T.E5 2).on then Y (X ⟨g,81,Z⟩) else Y Z)/\w=w'
   cases hb:(T.E5 2).on with
   |true=>rw[hb] at c;exact EJh g w c
   |false=>rw[hb] at c;exact EJi g w c
 ·rw[if_neg hs];exact EJb g src w D
def ET.Zf(T:ET)(src:Int):Bool:=if src=4 then EI else if src=0 then T.Zv else if src=1\/src=2\/src=3 then(T.E5 (src-1).toNat).on else V
def ET.fJ(T:ET)(src:Int):Int:=if src=1\/src=2\/src=3 then(if(T.E5 (src-1).toNat).on then(T.E5 (src-1).toNat).r else 0) else 0
def ET.Iz(T:ET):Int:=(if T.s0.on then 1 else 0)+(if T.s1.on then 1 else 0)+(if T.s2.on then 1 else 0)
theorem yJ(T:ET)(g:Nat)(src:Int):(T.of g src=Y Z/\(src≠4->src≠0->T.Zf src=V)/\T.fJ src=0)\/(∃i:Nat,i<3/\src=(i:Int)+1/\(T.E5 i).on=EI/\T.of g src=Y (X ⟨g,so i,Z⟩)/\T.Zf src=EI/\T.fJ src=(T.E5 i).r):=by
 unfold ET.of ET.Zf ET.fJ;by_cases hs:src=1\/src=2\/src=3
 ·obtain⟨i,hi,e⟩: ∃i:Nat,i<3/\src=(i:Int)+1:=⟨(src-1).toNat,D,D⟩;have e2:(src-1).toNat=i:=D;simp only[if_pos hs,e2];rw[if_neg (show src≠4 from D),if_neg (show src≠0 from D)];cases hb:(T.E5 i).on with
  |true=>exact .inr ⟨i,hi,e,hb,U,U,U⟩
  |false=>exact .inl ⟨U,fun _ _=>rfl,U⟩
 ·simp only[if_neg hs];exact .inl ⟨trivial,fun h4 h0=>by rw[if_neg h4,if_neg h0],trivial⟩
theorem lC(g:Nat)(T:ET)(src:Int)(w:M)(K:Ip w g T)(h:T.ok): Eg Ea 55 #[Y (X ⟨g,0,Z⟩),E I src] w fun e w'=>e=Eh (EU (T.Zf src))/\w=w':=by
 by_cases h4:src=4
 ·subst h4;show Eg _ _ _ _ fun e w'=>e=Eh (EU EI)/\w=w'
  clear K h;go_enter Tryz.func55,Tryz.ntmps55;exact Ej7
 by_cases h0:src=0
 ·subst h0;show Eg _ _ _ _ fun e w'=>e=Eh (EU T.Zv)/\w=w'
  have c:=EJa K;generalize T.Zv=b at*;clear K h h4;go_enter Tryz.func55,Tryz.ntmps55;exact Ej7
 ·have e4:(src==4)=V:=beq_eq_false_iff_ne.2 h4;have e0:(src==0)=V:=beq_eq_false_iff_ne.2 h0;have CO:=J<|tj g T src w K h;rcases yJ T g src with⟨e1,e2,-⟩|⟨i,hi,-,-,e1,e2,-⟩;·rw[e1] at CO;rw[e2 h4 h0];clear e1 e2 K h h4 h0;go_enter Tryz.func55,Tryz.ntmps55;go_wp2_with fail;refine(CO.out).mono ?_;rintro e w' ⟨rfl,rfl⟩;go_wp2;go_ret;exact⟨U,U⟩
  ·rw[e1] at CO;rw[e2];generalize so i=o at*;clear e1 e2 K h h4 h0;go_enter Tryz.func55,Tryz.ntmps55;exact EoZ
theorem qz(g:Nat)(T:ET)(src:Int)(w:M)(K:Ip w g T)(h:T.ok): Eg Ea 56 #[Y (X ⟨g,0,Z⟩),E I src] w fun e w'=>e=Eh (E I (T.fJ src))/\w=w':=by
 have CO:=J<|tj g T src w K h;rcases yJ T g src with⟨e1,-,e2⟩|⟨i,hi,-,-,e1,-,e2⟩;·rw[e1] at CO;rw[e2];exact Eow
 ·rw[e1] at CO;rw[e2];have c:w.cell? ⟨g,so i+3,Z⟩=X (E I (T.E5 i).r):=ti K h i 3 D;generalize so i=o at*;generalize (T.E5 i).r=r at*;exact Eow
theorem EJj(g:Nat)(w:M)(c0:w.cell? ⟨g,3,Z⟩=X (EU EI))(c1:w.cell? ⟨g,42,Z⟩=X (EU EI))(c2:w.cell? ⟨g,81,Z⟩=X (EU EI)): Eg Ea 170 #[Y (X ⟨g,0,Z⟩)] w fun e w'=>e=Eh (E I 3)/\w=w':=by exact Ej4
theorem EJk(g:Nat)(w:M)(c0:w.cell? ⟨g,3,Z⟩=X (EU EI))(c1:w.cell? ⟨g,42,Z⟩=X (EU EI))(c2:w.cell? ⟨g,81,Z⟩=X (EU V)): Eg Ea 170 #[Y (X ⟨g,0,Z⟩)] w fun e w'=>e=Eh (E I 2)/\w=w':=by exact Ej4
theorem EJl(g:Nat)(w:M)(c0:w.cell? ⟨g,3,Z⟩=X (EU EI))(c1:w.cell? ⟨g,42,Z⟩=X (EU V))(c2:w.cell? ⟨g,81,Z⟩=X (EU EI)): Eg Ea 170 #[Y (X ⟨g,0,Z⟩)] w fun e w'=>e=Eh (E I 2)/\w=w':=by exact Ej4
theorem EJm(g:Nat)(w:M)(c0:w.cell? ⟨g,3,Z⟩=X (EU EI))(c1:w.cell? ⟨g,42,Z⟩=X (EU V))(c2:w.cell? ⟨g,81,Z⟩=X (EU V)): Eg Ea 170 #[Y (X ⟨g,0,Z⟩)] w fun e w'=>e=Eh (E I 1)/\w=w':=by exact Ej4
theorem EJn(g:Nat)(w:M)(c0:w.cell? ⟨g,3,Z⟩=X (EU V))(c1:w.cell? ⟨g,42,Z⟩=X (EU EI))(c2:w.cell? ⟨g,81,Z⟩=X (EU EI)): Eg Ea 170 #[Y (X ⟨g,0,Z⟩)] w fun e w'=>e=Eh (E I 2)/\w=w':=by exact Ej4
theorem EJo(g:Nat)(w:M)(c0:w.cell? ⟨g,3,Z⟩=X (EU V))(c1:w.cell? ⟨g,42,Z⟩=X (EU EI))(c2:w.cell? ⟨g,81,Z⟩=X (EU V)): Eg Ea 170 #[Y (X ⟨g,0,Z⟩)] w fun e w'=>e=Eh (E I 1)/\w=w':=by exact Ej4
theorem EJp(g:Nat)(w:M)(c0:w.cell? ⟨g,3,Z⟩=X (EU V))(c1:w.cell? ⟨g,42,Z⟩=X (EU V))(c2:w.cell? ⟨g,81,Z⟩=X (EU EI)): Eg Ea 170 #[Y (X ⟨g,0,Z⟩)] w fun e w'=>e=Eh (E I 1)/\w=w':=by exact Ej4
theorem EJq(g:Nat)(w:M)(c0:w.cell? ⟨g,3,Z⟩=X (EU V))(c1:w.cell? ⟨g,42,Z⟩=X (EU V))(c2:w.cell? ⟨g,81,Z⟩=X (EU V)): Eg Ea 170 #[Y (X ⟨g,0,Z⟩)] w fun e w'=>e=Eh (E I 0)/\w=w':=by exact Ej4
theorem Np(g:Nat)(T:ET)(w:M)(K:Ip w g T)(h:T.ok):Eg Ea 170 #[Y (X ⟨g,0,Z⟩)] w fun e w'=>e=Eh (E I T.Iz)/\w=w':=by
 have c0:w.cell? ⟨g,3,Z⟩=X (EU T.s0.on):=ti K h 0 0 D;have c1:w.cell? ⟨g,42,Z⟩=X (EU T.s1.on):=ti K h 1 0 D;have c2:w.cell? ⟨g,81,Z⟩=X (EU T.s2.on):=ti K h 2 0 D;unfold ET.Iz;cases h0:T.s0.on<;>cases h1:T.s1.on<;>cases h2:T.s2.on<;>rw[h0] at c0<;>rw[h1] at c1<;>rw[h2] at c2;·exact EJq g w c0 c1 c2
 ·exact EJp g w c0 c1 c2
 ·exact EJo g w c0 c1 c2
 ·exact EJn g w c0 c1 c2
 ·exact EJm g w c0 c1 c2
 ·exact EJl g w c0 c1 c2
 ·exact EJk g w c0 c1 c2
 ·exact EJj g w c0 c1 c2
theorem tp:IF Ea 160 39:=⟨⟨_,Tryz.underlying160,U⟩,Ef⟩
theorem Nq:Tryz.prog.built 160 []=X UN.v.toArray:=Ef
theorem qB(s:JC):s.v.toArray.all (·.oneCell')=EI:=by
 refine all_oneCell_toArray fun v hv=> ?_;simp only[JC.v,Ox,Xt,OY,Uu,or_false,bc] at hv;rcases hv with(rfl|rfl|rfl)|rfl|⟨x,-,rfl⟩|hv;·rfl
 ·rfl
 ·rfl
 ·rfl
 ·rfl
 ·rcases hw:s.win with _|⟨h,q⟩<;>rw[hw] at hv<;>simp only[UX,OY,Uu,or_false] at hv<;>rcases hv with rfl|rfl|rfl<;>rfl
theorem yO(K:Ip W g T)(h:T.ok)(i:Nat)(s:JC)(hs:s.key.length=32):Ip (W.setCells g (so i) s.v) g (T.put i s):=by unfold Ip at*;rw[T.qm i] at K;rw[T.sY i s];exact ZZ s.v (T.E5 i).v (T.pre i) (so i) W K (by rw[JC.ZX hs,JC.ZX (h.E5 i).len]) (ET.nu h i)
theorem Dx(i:Nat):so i<=81:=by unfold so;split<;>omega
def tr(T:ET)(g:Nat)(src:Int)(w:M)(e:Uv)(w':M):Prop:=(if src=1\/src=2\/src=3 then(if(T.E5 (src-1).toNat).on then e=Eh (EU EI)/\Ip w' g (T.put (src-1).toNat UN) else e=Eh (EU V)/\Ip w' g T) else e=Eh (EU V)/\Ip w' g T)/\E3 g w w'
theorem EJr(g:Nat)(T:ET)(src:Int)(w:M)(K:Ip w g T)(h:T.ok):Eg Ea 176 #[Y (X ⟨g,0,Z⟩),E I src] w (tr T g src w):=by
 have CO:=J<|tj g T src w K h;rcases yJ T g src with⟨e1,e2,-⟩|⟨i,hi,es,hon,e1,-,-⟩
 ·have hf: ¬((src=1\/src=2\/src=3)/\(T.E5 (src-1).toNat).on=EI):=by rintro⟨hs,ho⟩;have:=e2 D D;unfold ET.Zf at this;rw[if_neg D,if_neg D,if_pos hs,ho] at this;cases this
  have hpost: ∀(e:Uv) (w':M),e=Eh (EU V)->w=w'->tr T g src w e w':=by
   intro e w' he hw;subst hw;refine⟨?_,E3.refl _ _⟩;by_cases hs:src=1\/src=2\/src=3;·rw[if_pos hs,if_neg (fun ho=>hf ⟨hs,ho⟩)];exact⟨he,K⟩
   ·rw[if_neg hs];exact⟨he,K⟩
  replace hpost:=J hpost;rw[e1] at CO;clear e1 e2 K h hf;go_enter Tryz.func176,Tryz.ntmps176;go_wp2_with fail;refine(CO.out).mono ?_;rintro e w' ⟨rfl,rfl⟩;go_wp2;go_ret;exact hpost.out _ _ U U
 ·have e2:(src-1).toNat=i:=D;have hs:src=1\/src=2\/src=3:=D;have hpost:Ed (∀(e:Uv) (w':M),e=Eh (EU EI)->Ip w' g (T.put i UN)->E3 g w w'->tr T g src w e w'):=J (by intro e w' he hk ho;refine⟨?_,ho⟩;rw[if_pos hs,e2,if_pos hon];exact⟨he,hk⟩);have K2:=J<|yO K h i UN U;have ON:=J<|JG (g:=g) UN.v (so i) w;have TH:Ed (w.there g (so i) 39):=J<|aA K (by rw[qy K h];have:=Dx i;omega);have BZ:=J Nq;have SZ:=J<|show UN.v.toArray.size=39 from JC.ZX U;have S1:=J<|qB UN;rw[e1] at CO;generalize so i=o at*;clear e1 e2 K h hs hon es;obtain⟨sv,hsv⟩:=Eo UN.v;rw[<-hsv] at K2 ON BZ SZ S1;clear hsv;go_enter Tryz.func176,Tryz.ntmps176;go_wp2_with fail;refine(CO.out).mono ?_;rintro e w' ⟨rfl,rfl⟩;go_wp2_with (first|((with_reducible refine It 12 ?_);refine JO rfl 160 _ rfl sv.toArray BZ.out ?_)|((with_reducible refine Jr 160 ?_);(with_reducible refine Um rfl 160 _ _ rfl g o sv.toArray ?_ ?_ ?_ ?_ ?_ ?_);(·rfl);(·rfl);(·rw[SZ.out];exact TH.out);(·rw[SZ.out];exact tp.2);(·exact S1.out)));go_ret;exact hpost.out _ _ U K2.out ON.out
theorem EJs(g:Nat)(T:ET)(w:M)(K:Ip w g T)(h:T.ok): Eg Ea 91 #[Y (X ⟨g,0,Z⟩)] w fun e w'=>e=Eh (Es #[])/\Ip w' g {T with Zv:=true,sa:=0,sm:=max T.Iq 0}/\E3 g w w':=by
 have c0: ∀y:Ext w,(EA w y).cell? ⟨g,120,Z⟩=X (E I T.Iq):=fun y=>(yI (K.u (EL y)) h).1;have KK:Ed (H w g ([]++([EU T.Zv,E I T.sa,E I T.sm]++(T.s0.v++(T.s1.v++(T.s2.v++T.tl))))).toArray 163):=J K;have CH:=J<|fun W (k:H W g ([]++([EU T.Zv,E I T.sa,E I T.sm]++(T.s0.v++(T.s1.v++(T.s2.v++T.tl))))).toArray 163)=>xu g 0 [] _ _ _ _ 163 T.Iq W k U;have HP:Ed (∀w',H w' g ([]++(Ox EI 0 (max T.Iq 0)++(T.s0.v++(T.s1.v++(T.s2.v++T.tl))))).toArray 163->Ip w' g {T with Zv:=true,sa:=0,sm:=max T.Iq 0}):=J fun w' k=>k;generalize T.Iq=Iq at*;clear K h;go_enter Tryz.func91,Tryz.ntmps91;refine J_ 7 Ef Ef ?_;simp only[Is,Io,IS,IM];repeat (go_big_quiet_step ((fail)))
 refine I2 ?_;intro _ hw';obtain⟨y9,rfl⟩:=hw';have En:=EL y9;replace KK:=J<|KK.out.u En;clear c0;generalize EA w y9=w1 at*;go_wp2_with fail;refine(CH.out _ KK.out).mono ?_;rintro e w2 ⟨rfl,k2,o2⟩;go_wp2;go_end0;exact⟨U,HP.out _ k2,(E3.EC En).trans o2⟩
def rr(x:Int)(n:Nat):Int:=Iu .or .u32 (IntKind.u32.wrap (x*2^(32-n))) (x/2^n)
def Nr(x:Int):Int:=Iu .xor .u32 (Iu .xor .u32 (rr x 7) (rr x 18)) (x/2^3)
def Ns(y:Int):Int:=Iu .xor .u32 (Iu .xor .u32 (rr y 17) (rr y 19)) (y/2^10)
def S1(y:Int):Int:=Iu .xor .u32 (Iu .xor .u32 (rr y 6) (rr y 11)) (rr y 25)
def S0(x:Int):Int:=Iu .xor .u32 (Iu .xor .u32 (rr x 2) (rr x 13)) (rr x 22)
def cho(y f g:Int):Int:=Iu .or .u32 (Iu .and .u32 y f) (Iu .and .u32 (Iu .xor .u32 4294967295 y) g)
def maj(x b c:Int):Int:=Iu .or .u32 (Iu .or .u32 (Iu .and .u32 x b) (Iu .and .u32 x c)) (Iu .and .u32 b c)
def Dy(a b c d:Int):Int:=Iu .or .u32 (Iu .or .u32 (Iu .or .u32 (IntKind.u32.wrap (a*2^24)) (IntKind.u32.wrap (b*2^16))) (IntKind.u32.wrap (c*2^8))) d
def qC(l:List Int)(i:Nat):Int:=Dy (l.getD (4*i) 0) (l.getD (4*i+1) 0) (l.getD (4*i+2) 0) (l.getD (4*i+3) 0)
def nxt(p q x y:Int):Int:=(p+q+Nr x+Ns y)%4294967296
def nH(l:List Int)(i:Nat):Int:=nxt (l.getD (i-16) 0) (l.getD (i-7) 0) (l.getD (i-15) 0) (l.getD (i-2) 0)
def sched(b:List Int):Nat->List Int
 |0=>[]
 |i+1=>sched b i++[if i<16 then qC b i else nH (sched b i) i]
structure St where
 (a b c d e f g h:Int)
def St.cells(s:St):Array G:= #[E Of s.a,E Of s.b,E Of s.c,E Of s.d,E Of s.e,E Of s.f,E Of s.g,E Of s.h]
def St.list(s:St):List Int:=[s.a,s.b,s.c,s.d,s.e,s.f,s.g,s.h]
def Nt(k w e f g h:Int):Int:=h+S1 e+cho e f g+k+w
def EJw(a b c:Int):Int:=S0 a+maj a b c
def Dz(k w:Int)(s:St):St:=
 ⟨(Nt k w s.e s.f s.g s.h+EJw s.a s.b s.c)%4294967296,s.a,s.b,s.c,(s.d+Nt k w s.e s.f s.g s.h)%4294967296,s.e,s.f,s.g⟩
def nK(ks ws:List Int)(s:St):Nat->St
 |0=>s
 |i+1=>Dz (ks.getD i 0) (ws.getD i 0) (nK ks ws s i)
def fO(n h:St):St:=
 ⟨(n.a+h.a)%4294967296,(n.b+h.b)%4294967296,(n.c+h.c)%4294967296,(n.d+h.d)%4294967296,(n.e+h.e)%4294967296,(n.f+h.f)%4294967296,(n.g+h.g)%4294967296,(n.h+h.h)%4294967296⟩
theorem EJx(n h:St)(i:Nat)(hi:i<8):(fO n h).list.getD i 0=(n.list.getD i 0+h.list.getD i 0)%4294967296:=by rcases(show i=0\/i=1\/i=2\/i=3\/i=4\/i=5\/i=6\/i=7 from D) with rfl|rfl|rfl|rfl|rfl|rfl|rfl|rfl<;>rfl
def jw:List Int:=[
 0x428a2f98,0x71374491,0xb5c0fbcf,0xe9b5dba5,0x3956c25b,0x59f111f1,0x923f82a4,0xab1c5ed5,
 0xd807aa98,0x12835b01,0x243185be,0x550c7dc3,0x72be5d74,0x80deb1fe,0x9bdc06a7,0xc19bf174,
 0xe49b69c1,0xefbe4786,0x0fc19dc6,0x240ca1cc,0x2de92c6f,0x4a7484aa,0x5cb0a9dc,0x76f988da,
 0x983e5152,0xa831c66d,0xb00327c8,0xbf597fc7,0xc6e00bf3,0xd5a79147,0x06ca6351,0x14292967,
 0x27b70a85,0x2e1b2138,0x4d2c6dfc,0x53380d13,0x650a7354,0x766a0abb,0x81c2c92e,0x92722c85,
 0xa2bfe8a1,0xa81a664b,0xc24b8b70,0xc76c51a3,0xd192e819,0xd6990624,0xf40e3585,0x106aa070,
 0x19a4c116,0x1e376c08,0x2748774c,0x34b0bcb5,0x391c0cb3,0x4ed8aa4a,0x5b9cca4f,0x682e6ff3,
 0x748f82ee,0x78a5636f,0x84c87814,0x8cc70208,0x90befffa,0xa4506ceb,0xbef9a3f7,0xc67178f2]
def jx:St:=⟨0x6a09e667,0xbb67ae85,0x3c6ef372,0xa54ff53a,0x510e527f,0x9b05688c,0x1f83d9ab,0x5be0cd19⟩
def jy(h:St)(b:List Int):St:=fO (nK jw (sched b 64) h 64) h
def lD(p:List Int):Nat->St
 |0=>jx
 |i+1=>jy (lD p i) ((p.drop (64*i)).take 64)
def Zg(s:St):List Int:=be s.a 4++be s.b 4++be s.c 4++be s.d 4++be s.e 4++be s.f 4++be s.g 4++be s.h 4
def U1(n:Nat):Nat:=(n+72)/64*64
def jz(xs:List Int):List Int:=xs++128::(dg (U1 xs.length-xs.length-9) 0++be ((xs.length:Int)*8) 8)
def Nu(xs:List Int):St:=lD (jz xs) (U1 xs.length/64)
def Zh(xs:List Int):List Int:=Zg (Nu xs)
theorem tu(n:Nat):n+9<=U1 n:=by unfold U1;omega
theorem Nv(n:Nat):64*(U1 n/64)=U1 n:=by unfold U1;omega
theorem EJy(xs:List Int):(jz xs).length=U1 xs.length:=by have:=tu xs.length;simp only[jz,I1,Zw,List.length_replicate,OD];omega
theorem EJz(xs:List Int)(h: ∀x∈xs,0<=x/\x<=255): ∀x∈jz xs,0<=x/\x<=255:=by
 intro x hx;simp only[jz,Xt,OY,List.mem_replicate] at hx;rcases hx with hx|rfl|⟨_,rfl⟩|hx;·exact h x hx
 ·omega
 ·omega
 ·exact tc _ _ x hx
theorem qD(s:St):(Zg s).length=32:=by simp[Zg,OD]
theorem EJA(s:St): ∀x∈Zg s,0<=x/\x<=255:=by intro x hx;simp only[Zg,Xt] at hx;rcases hx with((((((h|h)|h)|h)|h)|h)|h)|h<;>exact tc _ _ x h
theorem nL(xs:List Int):(Zh xs).length=32:=qD _
theorem tx(xs:List Int): ∀x∈Zh xs,0<=x/\x<=255:=EJA _
theorem yU(b:List Int)(i:Nat):(sched b i).length=i:=by
 induction i with
 |zero=>rfl
 |succ i ih=>simp[sched,ih]
theorem EJB(b:List Int)(i j:Nat)(h:i<=j):(sched b j).take i=sched b i:=by
 induction j with
 |zero=> obtain rfl:i=0:=D;rfl
 |succ j ih=>
  rcases JW j i with h1|h1;·obtain rfl:i=j+1:=D;rw[OV (by rw[yU];omega)]
  ·rw[sched,List.take_append_of_le_length (by rw[yU];omega),ih h1]
theorem tz(b:List Int)(i j k:Nat)(h:k<i)(hj:i<=j):(sched b j).getD k 0=(sched b i).getD k 0:=by rw[<-EJB b i j hj];simp only[Uj];rw[bU h]
theorem EJC(b:List Int)(i j:Nat)(h:i<j):(sched b j).getD i 0=if i<16 then qC b i else nH (sched b j) i:=by
 rw[tz b (i+1) j i D D,sched];have e:(sched b i++[if i<16 then qC b i else nH (sched b i) i]).getD i 0=if i<16 then qC b i else nH (sched b i) i:=by simp[Uj,yU]
 rw[e];split;·rfl
 ·unfold nH;rw[tz b i j _ D D,tz b i j _ D D,tz b i j _ D D,tz b i j _ D D]
theorem EJD(x:Int)(w:M):Eg Ea 156 #[E Of x,E I 2] w fun e w'=>e=Eh (E Of (rr x 2))/\w=w':=by have h:Iu jA Il (IntKind.u64.wrap (-2)) 31=30:=Eb;exact EoX
theorem EJF(x:Int)(w:M):Eg Ea 156 #[E Of x,E I 6] w fun e w'=>e=Eh (E Of (rr x 6))/\w=w':=by have h:Iu jA Il (IntKind.u64.wrap (-6)) 31=26:=Eb;exact EoX
theorem Nw(x:Int)(w:M):Eg Ea 156 #[E Of x,E I 7] w fun e w'=>e=Eh (E Of (rr x 7))/\w=w':=by have h:Iu jA Il (IntKind.u64.wrap (-7)) 31=25:=Eb;exact EoX
theorem EJG(x:Int)(w:M):Eg Ea 156 #[E Of x,E I 11] w fun e w'=>e=Eh (E Of (rr x 11))/\w=w':=by have h:Iu jA Il (IntKind.u64.wrap (-11)) 31=21:=Eb;exact EoX
theorem EJH(x:Int)(w:M):Eg Ea 156 #[E Of x,E I 13] w fun e w'=>e=Eh (E Of (rr x 13))/\w=w':=by have h:Iu jA Il (IntKind.u64.wrap (-13)) 31=19:=Eb;exact EoX
theorem Nx(x:Int)(w:M):Eg Ea 156 #[E Of x,E I 17] w fun e w'=>e=Eh (E Of (rr x 17))/\w=w':=by have h:Iu jA Il (IntKind.u64.wrap (-17)) 31=15:=Eb;exact EoX
theorem Ny(x:Int)(w:M):Eg Ea 156 #[E Of x,E I 18] w fun e w'=>e=Eh (E Of (rr x 18))/\w=w':=by have h:Iu jA Il (IntKind.u64.wrap (-18)) 31=14:=Eb;exact EoX
theorem Nz(x:Int)(w:M):Eg Ea 156 #[E Of x,E I 19] w fun e w'=>e=Eh (E Of (rr x 19))/\w=w':=by have h:Iu jA Il (IntKind.u64.wrap (-19)) 31=13:=Eb;exact EoX
theorem EJK(x:Int)(w:M):Eg Ea 156 #[E Of x,E I 22] w fun e w'=>e=Eh (E Of (rr x 22))/\w=w':=by have h:Iu jA Il (IntKind.u64.wrap (-22)) 31=10:=Eb;exact EoX
theorem EJL(x:Int)(w:M):Eg Ea 156 #[E Of x,E I 25] w fun e w'=>e=Eh (E Of (rr x 25))/\w=w':=by have h:Iu jA Il (IntKind.u64.wrap (-25)) 31=7:=Eb;exact EoX
theorem ND(x n:Int)(w:M)(hn:n=2\/n=6\/n=7\/n=11\/n=13\/n=17\/n=18\/n=19\/n=22\/n=25): Eg Ea 156 #[E Of x,E I n] w fun e w'=>e=Eh (E Of (rr x n.toNat))/\w=w':=by
 rcases hn with rfl|rfl|rfl|rfl|rfl|rfl|rfl|rfl|rfl|rfl;·exact EJD x w
 ·exact EJF x w
 ·exact Nw x w
 ·exact EJG x w
 ·exact EJH x w
 ·exact Nx x w
 ·exact Ny x w
 ·exact Nz x w
 ·exact EJK x w
 ·exact EJL x w
theorem nM(n:Int)(h0:0<=n)(h1:n<=4294967295):IntKind.u32.wrap n=n:=by rw[IntKind.wrap_u32'];omega
theorem EJM(h: ∀x∈l,0<=x/\x<=255)(k:Nat):0<=l.getD k 0/\l.getD k 0<=255:=by
 rcases JW k l.length with hk|hk
 ·have e:l.getD k 0=l[k]:=by simp[hk]
  rw[e];exact h _ (dW _)
 ·have e:l.getD k 0=0:=by simp[hk]
  rw[e];omega
theorem EJN{a b c d:Int}(a0:0<=a)(a1:a<=255)(b0:0<=b)(b1:b<=255)(c0:0<=c)(c1:c<=255): Dy a b c d=Iu .or .u32 (Iu .or .u32 (Iu .or .u32 (a*16777216) (b*65536)) (c*256)) d:=by unfold Dy;rw[show(2:Int)^24=16777216 from Eb,show(2:Int)^16=65536 from Eb,show(2:Int)^8=256 from Eb,nM (a*16777216) D D,nM (b*65536) D D,nM (c*256) D D]
theorem yX:Ow Ea 211 (Js (Eu 8)):=by intro ev o w ho;unfold Ig;simp only[ho];simp[go_sem];exact congrArg (fun c=>w.alloc (Ec c 211)) Ef
theorem NF:Ow Ea 250 (Js (Eu 64)):=by intro ev o w ho;unfold Ig;simp only[ho];simp[go_sem];exact congrArg (fun c=>w.alloc (Ec c 250)) Ef
theorem fU:IF Ea 211 8:=⟨⟨_,Tryz.underlying211,U⟩,Ef⟩
theorem yZ:IF Ea 250 64:=⟨⟨_,Tryz.underlying250,U⟩,Ef⟩
theorem tA:IF Ea 214 64:=⟨⟨_,Tryz.underlying214,U⟩,Ef⟩
def DA(b sl:List Int):Prop:=sl.length=64/\ ∀i,i<64->sl.getD i 0=if i<16 then qC b i else nH sl i
theorem EJP(b sl:List Int)(hl:b.length=64)(hb: ∀x∈b,0<=x/\x<=255)(hs:DA b sl)(w:M): Eg Ea 155 #[EZ (Em b)] w fun e w'=>e=Eh (EZ (Js sl))/\Ek w w':=by
 have HL:=J hl;have HB:=J hb;have HS:=J hs;clear hl hb hs;go_enter Tryz.func155,Tryz.ntmps155;go_wp2_with (with_reducible refine wA NF ?_);go_loopw[10] (fun y wr=> ∃i:Nat,i<=16/\y=E I i/\H wr w.heap.size (Em b) 214/\H wr (w.heap.size+1) (Js (Eu 64)) 250/\H wr (w.heap.size+1+1) (Js (part sl i)) 250/\Ek w wr) (fun y _=>16-(I5 y).toNat)
 case atStart=>
  refine⟨0,D,U,((H.new w _ _).alloc _).alloc _,?_,?_,aq w _ _ _⟩;·exact(H.new' _ _ _ (by simp[Mi])).alloc _
  ·rw[Mk,HS.out.1];exact H.new' _ _ _ (by simp[Mi])
 case round=>
  obtain⟨i,hi,rfl,K1,K2,K3,hB⟩:=hrel;by_cases hlt:i<16
  ·have c0:=K1.cell (4*i);have c1:=K1.cell (4*i+1);have c2:=K1.cell (4*i+2);have c3:=K1.cell (4*i+3);rw[jk _ _ DB] at c0 c1 c2 c3;have tB: ∀k,0<=b.getD k 0/\b.getD k 0<=255:=fun k=>EJM HB.out k;have WD:=HS.out.2 i D;rw[if_pos hlt] at WD;unfold qC at WD;have b0:=tB (4*i);have b1:=tB (4*i+1);have b2:=tB (4*i+2);have b3:=tB (4*i+3);clear tB;generalize b.getD (4*i) 0=x0 at*;generalize b.getD (4*i+1) 0=x1 at*;generalize b.getD (4*i+2) 0=x2 at*;generalize b.getD (4*i+3) 0=x3 at*;have v0:IntKind.u32.wrap x0=x0:=nM _ D D;have v1:IntKind.u32.wrap x1=x1:=nM _ D D;have v2:IntKind.u32.wrap x2=x2:=nM _ D D;have v3:IntKind.u32.wrap x3=x3:=nM _ D D;have cw:=K3.cell i;have fw:=K3.I_ i;rw[sS _ _ (by rw[xp _ _ DC,HS.out.1];omega)] at cw;replace WD:=J WD;replace K1:=J K1;replace K2:=J K2;replace K3:=J K3;replace hB:=J hB;go_wp2_with fail;refine sR 31 Ef Ef ?_;simp only[Is,Io,IS,IM];repeat (go_big_quiet_step (fail))
   refine I2 ?_;intro _ hw';obtain⟨nq,rfl⟩:=hw';go_wp2_with fail;have e:Iu .or .u32 (Iu .or .u32 (Iu .or .u32 (x0*16777216) (x1*65536)) (x2*256)) x3=sl.getD i 0:=by rw[WD.out];exact(EJN b0.1 b0.2 b1.1 b1.2 b2.1 b2.2).symm
   rw[e];have hl2:=HS.out.1;refine⟨⟨i+1,D,Ej,(K1.out.drewN nq).other _ _ _ D,(K2.out.drewN nq).other _ _ _ D,?_,(iO hB.out nq).setCell Jm _⟩,J6⟩;have h:=(K3.out.drewN nq).set i (E Of (sl.getD i 0));rw[Cw,Cx _ _ D] at h;exact h
  ·obtain rfl:i=16:=D;rw[show((16:Nat):Int)=16 from rfl];replace K1:=J K1;replace K2:=J K2;replace K3:=J K3;replace hB:=J hB;go_wp2_with fail;go_loopw[5] (fun y wx=> ∃i:Nat,16<=i/\i<=64/\y=E I i/\H wx (w.heap.size+1) (Js (Eu 64)) 250/\H wx (w.heap.size+1+1) (Js (part sl i)) 250/\Ek w wx) (fun y _=>64-(I5 y).toNat);case atStart=>exact⟨16,D,D,U,K2.out,K3.out,hB.out⟩
   case round=>
    obtain⟨i,hi0,hi,rfl,K2,K3,hB⟩:=hrel;by_cases hlt:i<64
    ·have hl2:=HS.out.1;have lp:(part sl i).length=64:=by rw[xp _ _ D,hl2]
     have c0:=K3.cell (i-16);have c1:=K3.cell (i-7);have c2:=K3.cell (i-15);have c3:=K3.cell (i-2);have cw:=K3.cell i;have fw:=K3.I_ i;rw[sS _ _ D] at c0 c1 c2 c3 cw;rw[EED _ _ _ D D] at c0 c1 c2 c3;have WD:=HS.out.2 i hlt;rw[if_neg D] at WD;unfold nH at WD;generalize sl.getD (i-16) 0=x0 at*;generalize sl.getD (i-7) 0=x1 at*;generalize sl.getD (i-15) 0=x2 at*;generalize sl.getD (i-2) 0=x3 at*;replace WD:=J WD;replace K2:=J K2;replace K3:=J K3;replace hB:=J hB;replace hl2:=J hl2;clear lp;go_wp2_with fail;go_quiet (fail);go_wp2_with fail;(with_reducible refine(Nw _ _).mono ?_);rintro e w' ⟨rfl,rfl⟩;go_wp2_with fail;(with_reducible refine(Ny _ _).mono ?_);rintro e w' ⟨rfl,rfl⟩;go_wp2_with fail;(with_reducible refine(Nx _ _).mono ?_);rintro e w' ⟨rfl,rfl⟩;go_wp2_with fail;(with_reducible refine(Nz _ _).mono ?_);rintro e w' ⟨rfl,rfl⟩;go_wp2_with fail;refine sR 15 Ef Ef ?_;simp only[Is,Io,IS,IM];repeat (go_big_quiet_step (fail))
     refine I2 ?_;intro _ hw';obtain⟨nq2,rfl⟩:=hw';go_wp2_with fail;have hl2:=hl2.out;have e:(x0+x1+Nr x2+Ns x3)%4294967296=sl.getD i 0:=by rw[WD.out];rfl
     refine⟨⟨i+1,D,D,Ej,(K2.out.drewN _).other _ _ _ D,?_,(iO hB.out _).setCell Jm _⟩,J6⟩;have h:=(K3.out.drewN (nq+nq2)).set i (E Of (sl.getD i 0));rw[Cw,Cx _ _ D,<-e] at h;exact h
    ·obtain rfl:i=64:=D;rw[Ml _ _ DC] at K3;replace K2:=J K2;replace K3:=J K3;replace hB:=J hB
     go_wp2_with (first
      |(with_reducible refine wL yZ K3 ?_ (hn:=DD))
      |(with_reducible refine wS (cs:=Js sl) yZ K2 ?_ (ho:=qF) (hn:=DD) (h1:=Mj _)))
     refine EV (v:=EZ (Js sl)) (JB yZ U _ _ (w.heap.size+1) _ U (K2.out.setRow _) (by rw[Cv,HS.out.1])) U ⟨U,E6 hB.out D _⟩
def JH(w:M):Prop:= ∀i:Nat,i<64->w.cell? ⟨0,i,Z⟩=X (E Of (jw.getD i 0))
theorem JH.u(h:JH w)(hb:Ek w w'):JH w':=fun i hi=>by rw[hb.cell (UV _ _ (h i hi))];exact h i hi
theorem JH.drewN(h:JH w)(n:Nat):JH (w.drewN n):=h
theorem JH.lt(h:JH w):0<w.heap.size:=UV _ _ (h 0 D)
theorem JH.setRow(h:JH w)(g:Nat)(cs:Array G)(hg:0≠g):JH (w.setRow g cs):=fun i hi=>by rw[cell_setRow_other _ _ _ _ hg];exact h i hi
theorem St.dk(s:St):s.cells.size=8:=rfl
theorem St.qG(s:St):s.cells.all (·.oneCell')=EI:=by simp[St.cells,Ov]
theorem EJR(h0 r:St)(b sl:List Int)(hl:b.length=64)(hb: ∀x∈b,0<=x/\x<=255)(hs:DA b sl)(hr:nK jw sl h0 64=r)(w:M)(hR:JH w): Eg Ea 114 #[EZ h0.cells,EZ (Em b)] w fun e w'=>e=Eh (EZ (fO r h0).cells)/\Ek w w':=by
 have HL:=J hl;have HB:=J hb;have HS:=J hs;have HR:=J hr;have RT:=J hR;have rl:=hR.lt;clear hl hb hs hr hR;go_enter Tryz.func114,Tryz.ntmps114;go_wp2_with (with_reducible refine wA yX (Ey.mk ?_));apply Et;have KH:=J<|((H.new w h0.cells 211).alloc (Ec (Em b) 214)).alloc (Ec (Js (Eu 8)) 211);have KB:=J<|(H.new' (w.alloc (Ec h0.cells 211)) (Em b) 214 (g:=w.heap.size+1) Ej).alloc (Ec (Js (Eu 8)) 211);have KR:=J<|H.new' ((w.alloc (Ec h0.cells 211)).alloc (Ec (Em b) 214)) (Js (Eu 8)) 211 (g:=w.heap.size+1+1) Ej;have B:=J<|aq w (Ec h0.cells 211) (Ec (Em b) 214) (Ec (Js (Eu 8)) 211);generalize ((w.alloc (Ec h0.cells 211)).alloc (Ec (Em b) 214)).alloc (Ec (Js (Eu 8)) 211)=w3 at*;replace RT:=J<|RT.out.u B.out;go_wp2_with (with_reducible refine wL tA KB ?_ (hn:=NG));refine(EJP b sl HL.out HB.out HS.out _).mono ?_;rintro e w4 ⟨rfl,b4⟩;replace KH:=J<|KH.out.u b4;replace KR:=J<|KR.out.u b4;replace RT:=J<|RT.out.u b4;replace B:=EW B b4;clear b4 KB;have l4:=KR.out.lt;go_wp2_with (with_reducible refine wA NF (Ey.mk ?_));apply Et;have bel:=Er w4 (Ec (Js (Eu 64)) 250);replace KH:=J<|KH.out.u bel;replace KR:=J<|KR.out.u bel;replace RT:=J<|RT.out.u bel;replace B:=EW B bel;have KW:=J<|H.new w4 (Js (Eu 64)) 250;clear bel;generalize w4.alloc (Ec (Js (Eu 64)) 250)=w5 at*;go_wp2_with (with_reducible refine wS (cs:=Js sl) yZ KW (Ey.mk ?_) (ho:=qF) (hn:=DD) (h1:=Mj _));apply Et;replace KH:=J<|KH.out.setRow_other w4.heap.size (Js sl) D;replace KR:=J<|KR.out.setRow_other w4.heap.size (Js sl) D;replace RT:=J<|RT.out.setRow w4.heap.size (Js sl) D;replace KW:=J<|KW.out.setRow (Js sl);replace B:=J<|E6 (g:=w4.heap.size) B.out D (Js sl);generalize w5.setRow w4.heap.size (Js sl)=w6 at*;go_wp2_with (with_reducible first|refine wL fU KH ?_ (hn:=St.dk _)|refine wA yX (Ey.mk ?_));apply Et;have l6:=KW.out.lt;have bel:=Er w6 (Ec (Js (Eu 8)) 211);replace KH:=J<|KH.out.u bel;replace KR:=J<|KR.out.u bel;replace KW:=J<|KW.out.u bel;replace RT:=J<|RT.out.u bel;replace B:=EW B bel;have KN:=J<|H.new w6 (Js (Eu 8)) 211;clear bel;generalize w6.alloc (Ec (Js (Eu 8)) 211)=w7 at*;go_wp2_with (with_reducible refine wS (cs:=h0.cells) fU KN (Ey.mk ?_) (ho:=qF) (hn:=St.dk _) (h1:=St.qG _));apply Et;replace KH:=J<|KH.out.setRow_other w6.heap.size h0.cells D;replace KR:=J<|KR.out.setRow_other w6.heap.size h0.cells D;replace KW:=J<|KW.out.setRow_other w6.heap.size h0.cells D;replace RT:=J<|RT.out.setRow w6.heap.size h0.cells D;replace KN:=J<|KN.out.setRow h0.cells;replace B:=J<|E6 (g:=w6.heap.size) B.out D h0.cells;generalize w7.setRow w6.heap.size h0.cells=w8 at*;go_wp2_with fail;go_loopw[17] (fun y wr=> ∃i:Nat,i<=64/\y=E I i/\H wr w6.heap.size (nK jw sl h0 i).cells 211/\H wr w4.heap.size (Js sl) 250/\H wr w.heap.size h0.cells 211/\H wr (w.heap.size+1+1) (Js (Eu 8)) 211/\JH wr/\Ek w wr) (fun y _=>64-(I5 y).toNat);case atStart=>exact⟨0,D,U,KN.out,KW.out,KH.out,KR.out,RT.out,B.out⟩
 case round=>
  clear KN KW KH KR RT B;obtain⟨i,hi,rfl,KN,KW,KH,KR,RT,B⟩:=hrel;by_cases hlt:i<64;·have STEP:nK jw sl h0 (i+1)=Dz (jw.getD i 0) (sl.getD i 0) (nK jw sl h0 i):=rfl;have cr:=RT i hlt;have cw:=KW.cell i;rw[sS _ _ DC] at cw;generalize hq:nK jw sl h0 i=q at*;generalize jw.getD i 0=k at*;generalize sl.getD i 0=x at*;replace STEP:=J STEP;obtain⟨qa,qb,qc,qd,qe,qf,qg,qh⟩:=q;clear hq;have cn:=fun j=>KN.cell j;simp only[St.cells] at cn;replace KN:=J KN;replace KW:=J KW;replace KH:=J KH;replace KR:=J KR;replace RT:=J RT;replace B:=J B;go_wp2_with fail;go_quiet (fail);revert nq;intro n1;go_wp2_with fail;go_quiet (((with_reducible refine(ND _ _ _ ?_).mono ?_);(·decide);(rintro e w2 ⟨rfl,rfl⟩;exact⟨U,_,U⟩)));revert nq;intro n2;go_wp2_with fail;go_quiet (((with_reducible refine(ND _ _ _ ?_).mono ?_);(·decide);(rintro e w2 ⟨rfl,rfl⟩;exact⟨U,_,U⟩)));revert nq;intro n3;have NH:=J<|KN.out.drewN (n1+n2+n3);go_wp2_with (with_reducible refine wS (cs:=(Dz k x ⟨qa,qb,qc,qd,qe,qf,qg,qh⟩).cells) fU NH (Ey.mk ?_) (ho:=St.dk _) (hn:=St.dk _) (h1:=St.qG _));apply Et;go_wp2_with fail;rename_i hsg;refine⟨⟨i+1,D,Ej,?_,(KW.out.drewN _).setRow_other _ _ D,(KH.out.drewN _).setRow_other _ _ D,(KR.out.drewN _).setRow_other _ _ D,(RT.out.drewN _).setRow _ _ D,E6 (iO B.out _) D _⟩,J6⟩;rw[STEP.out];exact NH.out.setRow _
  ·obtain rfl:i=64:=D;rw[show((64:Nat):Int)=64 from rfl];rw[HR.out] at KN;replace KN:=J KN;replace KW:=J KW;replace KH:=J KH;replace KR:=J KR;replace RT:=J RT;replace B:=J B;go_wp2_with fail;go_loopw[100] (fun y wx=> ∃i:Nat,i<=8/\y=E I i/\H wx w6.heap.size (Js (cJ (fO r h0).list r.list i)) 211/\H wx w.heap.size h0.cells 211/\H wx (w.heap.size+1+1) (Js (Eu 8)) 211/\Ek w wx) (fun y _=>8-(I5 y).toNat);case atStart=>exact⟨0,D,rfl,by rw[Mm];exact KN.out,KH.out,KR.out,B.out⟩
   case round=>
    clear KN KW KH KR RT B;obtain⟨i,hi,rfl,KN,KH,KR,B⟩:=hrel;by_cases hlt:i<8
    ·have c0:=KN.cell i;have c1:=KH.cell i;have f0:=KN.I_ i;rw[sS _ _ (by rw[Cy (fO r h0).list r.list i rfl hi];exact hlt),EEF (fO r h0).list r.list i i rfl (E9 _) hlt] at c0;rw[show h0.cells=Js h0.list from rfl,sS _ _ (by exact hlt)] at c1;have AD:=EJx r h0 i hlt;generalize r.list.getD i 0=x0 at*;generalize h0.list.getD i 0=x1 at*;replace AD:=J AD;replace KN:=J KN;replace KH:=J KH;replace KR:=J KR;replace B:=J B;go_wp2_with fail;refine sR 8 Ef Ef ?_;simp only[Is,Io,IS,IM];repeat (go_big_quiet_step (fail))
     refine I2 ?_;intro _ hw';obtain⟨nq,rfl⟩:=hw';go_wp2_with fail;refine⟨⟨i+1,D,Ej,?_,(KH.out.drewN _).other _ _ _ D,(KR.out.drewN _).other _ _ _ D,(iO B.out _).setCell Jm _⟩,J6⟩;have hh:=(KN.out.drewN nq).set i (E Of ((fO r h0).list.getD i 0));rw[Cw,sT (fO r h0).list r.list i rfl hlt,AD.out] at hh;exact hh
    ·obtain rfl:i=8:=D;rw[show((8:Nat):Int)=8 from rfl];rw[Mn (fO r h0).list r.list 8 (E9 8) (E9 8)] at KN;replace KN:=J<|show H wr w6.heap.size (fO r h0).cells 211 from KN;replace KR:=J KR;replace B:=J B;go_wp2_with (with_reducible first|refine wL fU KN ?_ (hn:=St.dk _)|refine wS (cs:=(fO r h0).cells) fU KR ?_ (ho:=qF) (hn:=St.dk _) (h1:=St.qG _));refine EV (v:=EZ (fO r h0).cells) (JB fU rfl _ _ (w.heap.size+1+1) _ rfl (KR.out.setRow _) (St.dk _)) rfl ⟨rfl,E6 B.out D _⟩
theorem EJS(w:M):Eg Ea 112 #[] w fun e w'=>e=Eh (EZ jx.cells)/\Ek w w':=by go_enter Tryz.func112,Tryz.ntmps112;go_wp2_with (with_reducible refine wA yX (Ey.mk ?_));apply Et;have KR:=J<|H.new w (Js (Eu 8)) 211;have B:=J<|Er w (Ec (Js (Eu 8)) 211);generalize w.alloc (Ec (Js (Eu 8)) 211)=w3 at*;go_wp2_with (with_reducible refine wS (cs:=jx.cells) fU KR ?_ (ho:=qF) (h1:=St.qG _));refine EV (v:=EZ jx.cells) (JB fU U _ _ (w.heap.size) _ U (KR.out.setRow _) (St.dk _)) U ⟨U,E6 B.out D _⟩
def fV(xs:List Int)(i:Nat):List Int:=xs++128::(dg (U1 xs.length-xs.length-1-i) 0++be ((xs.length:Int)*8) i)
theorem EJT(xs:List Int):fV xs 8=jz xs:=by unfold fV jz;rw[show U1 xs.length-xs.length-1-8=U1 xs.length-xs.length-9 from D]
theorem EJV(xs:List Int)(i:Nat)(h:i<=8):(fV xs i).length=U1 xs.length:=by have:=tu xs.length;simp only[fV,I1,Zw,List.length_replicate,OD];omega
theorem EJW(A Y4:List Int)(c v:Int)(k j:Nat)(hj:j=A.length+1+k):(A++c::(dg (k+1) 0++Y4)).set j v=A++c::(dg k 0++v::Y4):=by subst hj;rw[List.set_append_right _ _ D,show A.length+1+k-A.length=k+1 from D,IJ,List.replicate_succ',UY,List.set_append_right _ _ Ej];simp
theorem EJY(xs:List Int)(i:Nat)(h:i<8):(fV xs i).set (U1 xs.length-1-i) ((xs.length:Int)*8/2^(8*i)%256)=fV xs (i+1):=by have:=tu xs.length;unfold fV;obtain⟨k,hk⟩: ∃k,U1 xs.length-xs.length-1-i=k+1:=⟨U1 xs.length-xs.length-2-i,D⟩;rw[hk,EJW _ _ _ _ k _ D,Dp,show U1 xs.length-xs.length-1-(i+1)=k from D]
theorem EJ0(xs:List Int)(W:Nat)(hW:U1 xs.length=W):(putAt (Eu W) 0 xs).set xs.length 128=fV xs 0:=by have:=tu xs.length;subst hW;unfold putAt fV Eu;obtain⟨k,hk⟩: ∃k,U1 xs.length=xs.length+(k+1):=⟨U1 xs.length-xs.length-1,D⟩;rw[hk];simp only[Io,cX,J9,List.drop_replicate,EIv,fX];rw[show xs.length+(k+1)-xs.length=k+1 from D,show k+1-1-0=k from D,List.set_append_right _ _ (E9 _),Nat.sub_self,List.replicate_succ,IU]
theorem EJ1(A:Option Ev)(xs:List Int)(n c:Nat)(w:M)(hn:xs.length=n)(hr:Row w A xs)(hl:n<=1000000000): Eg Ea 113 #[EJ A n c] w fun e w'=>e=Eh (EJ (X ⟨w.heap.size,0,Z⟩) (U1 n) (U1 n))/\H w' w.heap.size (Em (jz xs)) 5/\Ek w w':=by
 obtain⟨W,hW⟩:=OQ (U1 n);have hW1:((n:Int)+9+64-1)/64*64=(W:Int):=NK;have hW2:n+9<=W:=by rw[<-hW];exact tu n
 have hW3:W<=2000000000:=NK;have hmk:=Mq W D;rw[hW];have HN:=J hn;have HR:=J hr;have HW:=J hW;clear hn hr hW;go_enter Tryz.func113,Tryz.ntmps113;go_wp2_with ((with_reducible show Ih _ _ _ (⟨X 18,_,_,_,_,Z⟩::_) _ _);refine Ey.mk ?_);apply Et;have KP:=J<|H.new w (Em (Eu W)) 5;have bl:=Er w (Ec (Em (Eu W)) 5);have HR:=J<|IH HR.out bl;have B:=J bl;clear hmk hW1 bl;generalize w.alloc (Ec (Em (Eu W)) 5)=w1 at*;(with_reducible refine jn ?_ w.heap.size 0 W W (Eu W) 5 A n c xs n (X ⟨w.heap.size,0,Z⟩) ?_ KP HN.out HR ?_ ?_ ?_ ?_);·exact Ei U
 ·exact Ema
 ·exact Nat.min_eq_left D
 ·rw[dS];omega
 ·exact Ent
 intro w2 K2 b2 o2 s2;have hN:=HN.out;have hlp:(putAt (Eu W) 0 (xs.take n)).length=W:=by rw[EEL,dS];simp[dS];omega
 rw[OV D] at K2 hlp;replace B:=J<|B.out.trans b2;have c0:=K2.cell n;have f0:=K2.I_ n;rw[jk _ _ D] at c0;have KP:=J<|K2.set n (E IT 128);have HZ:=J<|EJ0 xs W (by rw[hN];exact HW.out);clear K2 b2 o2 s2 hlp hN;go_wp2_with fail;go_loopw[27] (fun y wr=> ∃i:Nat,i<=8/\y=E I i/\H wr w.heap.size (Em (fV xs i)) 5/\Ek w wr) (fun y _=>8-(I5 y).toNat);case atStart=> have h:=KP.out;have z:=HZ.out;rw[HN.out] at z;rw[nt,z] at h;exact⟨0,D,U,h,B.out.setCell Ej _⟩
 case round=>
  clear KP B;obtain⟨i,hi,rfl,KP,B⟩:=hrel;have hN:=HN.out;have ya:=HW.out;have hlp:(fV xs i).length=W:=by rw[EJV xs i hi,hN,ya]
  by_cases hlt:i<8;·have c0:=KP.cell (W-1-i);have f0:=KP.I_ (W-1-i);rw[jk _ _ D] at c0;have ST:=EJY xs i hlt;rw[hN,ya] at ST;replace KP:=J<|KP.set (W-1-i) (E IT ((n:Int)*8/2^(8*i)%256));replace ST:=J ST;replace B:=J B;clear hN ya hlp;go_wp2_with fail;have h:=KP.out;rw[nt,ST.out] at h;exact⟨⟨i+1,D,Ej,h,B.out.setCell Ej _⟩,J6⟩
  ·obtain rfl:i=8:=D;rw[show((8:Nat):Int)=8 from rfl];rw[EJT] at KP;replace KP:=J KP;replace B:=J B;clear hN ya hlp;go_wp2;go_ret;exact⟨U,KP.out,B.out⟩
theorem Og{a:E2}{T:Ez}(hT:IF P T n)(x:JN)(ho:o.op= .load T x)(hx:a.eval x=Y (X ⟨g,0,Z⟩))(hg:Ed (H W g cs T))(hn:cs.size=n) (hk:K (a.put o.dst (EZ cs))):o.quiet P a (fun w'=> ∃x,w'=EA W x) K:=by
 obtain⟨⟨d,hu,hd⟩,hi⟩:=hT;refine⟨_,fun w hw=> ?_,hk⟩;obtain⟨y,rfl⟩:=hw;have hrun:(loadVar T ⟨g,0,Z⟩).run P (EA W y)= .ok (EZ cs) (EA W y):=by cases d<;>first|(cases hd;done)|exact run_loadVar_row _ g T T cs (0,0) _ (hg.out.u (EL y)) hu rfl fF
 unfold ik Ig;exact ElW
theorem EJ2{a:E2}{T T0:Ez}{off:Nat}(hT:IF P T n)(x:JN)(ho:o.op= .load T x)(hx:a.eval x=Y (X ⟨g,off,Z⟩))(hg:Ed (H W g (Em l) T0))(hn:off+n<=l.length) (hk:K (a.put o.dst (EZ (Em ((l.drop off).take n))))):o.quiet P a (fun w'=> ∃x,w'=EA W x) K:=by
 obtain⟨⟨d,hu,hd⟩,hi⟩:=hT;refine⟨_,fun w hw=> ?_,hk⟩;obtain⟨y,rfl⟩:=hw;have hb:=hg.out.u (EL y);have hlen:(((l.drop off).take n).map (E .u8)).length=n:=Jm
 have hrun:(loadVar T ⟨g,off,Z⟩).run P (EA W y)= .ok (EZ (((l.drop off).take n).map (E .u8)).toArray) (EA W y):=by
  refine run_loadVar_mid _ g off T _ d (fun j v hv=> ?_) hu jm (by rw[hi,hlen])
  have hj:j<n:=by
   rcases JW j n with h|h;·exact h
   ·rw[am D] at hv;cases hv
  rw[show(EA W y).cell? ⟨g,off+j,Z⟩=_ from hb.cell (off+j),jk _ _ D];rw[ls,bU hj,List.getElem?_drop] at hv;simp[show off+j<l.length from D] at hv;simp[show off+j<l.length from D,<-hv]
 unfold ik Ig;exact ElW
theorem EJ3(b:List Int):DA b (sched b 64):=⟨yU b 64,fun i hi=>EJC b i 64 hi⟩
theorem EJ4(q:St)(b:List Int)(hl:b.length=64)(hb: ∀x∈b,0<=x/\x<=255)(w:M)(hR:JH w): Eg Ea 114 #[EZ q.cells,EZ (Em b)] w fun e w'=>e=Eh (EZ (jy q b).cells)/\Ek w w':=
 EJR q _ b _ hl hb (EJ3 b) U w hR
theorem dl:Ow Ea 41 (Em (Eu 32)):=by intro ev o w ho;unfold Ig;simp only[ho];simp[go_sem];exact congrArg (fun c=>w.alloc (Ec c 41)) Ef
theorem OF:IF Ea 41 32:=⟨⟨_,Tryz.underlying41,U⟩,Ef⟩
theorem EJ5(q:St)(i:Nat)(hi:i<8):(Zg q).getD (4*i) 0=q.list.getD i 0/16777216%256/\(Zg q).getD (4*i+1) 0=q.list.getD i 0/65536%256/\(Zg q).getD (4*i+2) 0=q.list.getD i 0/256%256/\(Zg q).getD (4*i+3) 0=q.list.getD i 0%256:=by
 have one: ∀x:Int,x/1=x:=Int.ediv_one;rcases(show i=0\/i=1\/i=2\/i=3\/i=4\/i=5\/i=6\/i=7 from D) with rfl|rfl|rfl|rfl|rfl|rfl|rfl|rfl
 all_goals
  refine⟨U,U,U,?_⟩
  conv=>rhs;rw[<-one (List.getD _ _ _)]
  rfl
theorem EJ6(q:St)(i:Nat)(hi:i<8)(W:M):(Ua 211 (EZ q.cells) (E I (i:Int))).run Ea W= .ok (E Of (q.list.getD i 0)) W:=by rcases(show i=0\/i=1\/i=2\/i=3\/i=4\/i=5\/i=6\/i=7 from D) with rfl|rfl|rfl|rfl|rfl|rfl|rfl|rfl<;>kernel_rfl
theorem EJ7(a:Option Ev)(c:Nat)(W:M):(Instr.arrayAt 214 (EJ a 64 c)).run Ea W= .ok (Y a) W:=by simp[Instr.arrayAt,run_underlying Tryz.underlying214]
theorem yd(A:Option Ev)(xs:List Int)(n c:Nat)(w:M)(hn:xs.length=n)(hr:Row w A xs)(hl:n<=1000000000)(hR:JH w): Eg Ea 82 #[EJ A n c] w fun e w'=>e=Eh (EZ (Em (Zh xs)))/\Ek w w':=by
 obtain⟨m,hm⟩:=OQ (U1 n/64);obtain⟨P,hP⟩:=OQ (jz xs);have NM:P.length=64*m:=by rw[<-hP,EJy,hn,<-hm,Nv]
 have NP: ∀x∈P,0<=x/\x<=255:=by rw[<-hP];exact EJz xs hr.2
 have hm2:m<=100000000:=by rw[<-hm];unfold U1;omega
 have NT:Zh xs=Zg (lD P m):=by unfold Zh Nu;rw[hn,hm,hP]
 rw[NT];have hW:U1 n=64*m:=by rw[<-hm,Nv]
 have HW:=J hW;have HN:=J hn;have HR:=J hr;have HP:=J hP;have jD:=J NM;have Z_:=J NP;have RT:=J hR;have rl:=hR.lt;clear hn hr hP NM NP NT hm hW hR;go_enter Tryz.func82,Tryz.ntmps82;go_wp2_with (with_reducible refine wA dl (Ey.mk ?_));apply Et;have B:=J<|E_ w.heap.size w;have bel:=Er w (Ec (Em (Eu 32)) 41);replace B:=EW B bel;have KR:=J<|H.new w (Em (Eu 32)) 41;clear bel;generalize w.alloc (Ec (Em (Eu 32)) 41)=w1 at*;go_wp2_with fail;refine(EJS _).mono ?_;rintro e w2 ⟨rfl,b2⟩;replace KR:=J<|KR.out.u b2;replace B:=EW B b2;clear b2;have l2:=KR.out.lt;go_wp2_with (with_reducible refine wA yX (Ey.mk ?_));apply Et;have bel:=Er w2 (Ec (Js (Eu 8)) 211);replace KR:=J<|KR.out.u bel;replace B:=EW B bel;have KH:=J<|H.new w2 (Js (Eu 8)) 211;clear bel;generalize w2.alloc (Ec (Js (Eu 8)) 211)=w3 at*;go_wp2_with (with_reducible refine wS (cs:=jx.cells) fU KH (Ey.mk ?_) (ho:=qF) (hn:=St.dk _) (h1:=St.qG _));apply Et;replace KR:=J<|KR.out.setRow_other w2.heap.size jx.cells D;replace KH:=J<|KH.out.setRow jx.cells;replace B:=J<|E6 (g:=w2.heap.size) B.out D jx.cells;generalize w3.setRow w2.heap.size jx.cells=w4 at*;go_wp2_with fail;refine(EJ1 A xs n c _ HN.out (IH HR.out B.out) hl).mono ?_;rintro e w5 ⟨rfl,KP,b5⟩;rw[HP.out] at KP;have l5:=KH.out.lt;replace KR:=J<|KR.out.u b5;replace KH:=J<|KH.out.u b5;replace B:=EW B b5;replace KP:=J KP;clear b5;rw[HW.out];go_wp2_with fail;go_loopw[4] (fun y wr=> ∃(i:Nat) (a:Option Ev) (L:Nat),i<=m/\y=EJ a L L/\L=64*(m-i)/\(i<m->a=X ⟨w4.heap.size,64*i,Z⟩)/\H wr w.heap.size (Em (Eu 32)) 41/\H wr w2.heap.size (lD P i).cells 211/\H wr w4.heap.size (Em P) 5/\Ek w wr) (fun y _=>match y with|EJ _ L _=>L|_=>0);case atStart=>exact⟨0,_,64*m,D,U,D,fun _=>rfl,KR.out,KH.out,KP.out,B.out⟩
 case round=>
  clear KR KH KP B;obtain⟨i,a,L,hi,rfl,hL,ha,KR,KH,KP,B⟩:=hrel;by_cases hlt:i<m
  ·obtain rfl:=ha hlt;have hL1:64<=L:=D;have hL2:(64:Int)<=(L:Int):=D;have hL3:L<=6400000000:=D;have hPL:=jD.out;obtain⟨bl,hbl⟩:=OQ ((P.drop (64*i)).take 64);have NW:bl.length=64:=by rw[<-hbl];simp;omega
   have NY: ∀x∈bl,0<=x/\x<=255:=by rw[<-hbl];intro x hx;exact Z_.out x (List.mem_of_mem_drop (fC hx))
   have STEP:lD P (i+1)=jy (lD P i) bl:=by rw[<-hbl];rfl
   generalize lD P i=q at*;replace STEP:=J STEP;have HL:=J hL;have tC:=J hbl;have HB1:=J NW;have HB2:=J NY;replace KR:=J KR;replace KH:=J KH;replace KP:=J KP;replace B:=J B;have qH:=J<|RT.out.u B.out;have harr:=EJ7;clear hL hbl NW NY ha hPL;go_wp2_with fail;refine J_ 6 Ef Ef ?_;simp only[Is,Io,IS,IM];repeat (first
   |go_big_quiet_skip
   |(go_big_quiet_want
     first
      |(refine Og (T:=211) (g:=w2.heap.size) fU _ rfl rfl KH ?_ ?_;(·exact St.dk _);go_simp;go_big_quiet_on)
      |(refine EJ2 (T:=214) (g:=w4.heap.size) (off:=64*i) (l:=P) tA _ rfl rfl KP ?_ ?_;(·rw[jD.out];omega);rw[tC.out];go_simp;go_big_quiet_on)
      |(go_big_quiet_op
        first
         |go_big_quiet_on
         |go_big_quiet_call ((((with_reducible refine IY (EJ4 q bl HB1.out HB2.out _ ?_));exact qH.out.u (EL _)))))))
   refine I2 ?_;intro _ hw';obtain⟨y,rfl⟩:=hw';have En:=EL y;replace KR:=J<|KR.out.u En;replace KH:=J<|KH.out.u En;replace KP:=J<|KP.out.u En;replace B:=EW B En;clear En harr qH;generalize EA wr y=w6 at*;go_wp2_with (with_reducible refine wS (cs:=(jy q bl).cells) fU KH (Ey.mk ?_) (ho:=St.dk _) (hn:=St.dk _) (h1:=St.qG _));apply Et;replace KR:=J<|KR.out.setRow_other w2.heap.size (jy q bl).cells D;replace KP:=J<|KP.out.setRow_other w2.heap.size (jy q bl).cells D;replace KH:=J<|KH.out.setRow (jy q bl).cells;replace B:=J<|E6 (g:=w2.heap.size) B.out D (jy q bl).cells;generalize w6.setRow w2.heap.size (jy q bl).cells=w7 at*;by_cases hlast:L=64;·subst hlast;go_wp2_with fail;have hL:=HL.out;exact⟨⟨i+1,_,0,D,U,D,fun h=>D,KR.out,by rw[STEP.out];exact KH.out,KP.out,B.out⟩,by show 0<64;omega⟩
   ·have hL4:64<L:=D;go_wp2_with fail;have hL:=HL.out;exact⟨⟨i+1,_,L-64,D,U,D,fun _=>by rw[show 64*(i+1)=64*i+64 from D],KR.out,by rw[STEP.out];exact KH.out,KP.out,B.out⟩,ZB⟩
  ·obtain rfl:i=m:=D;obtain rfl:L=0:=D;generalize hq:lD P i=q at*;have HQ:=J hq;clear hq;replace KR:=J KR;replace KH:=J KH;replace B:=J B;clear ha KP hL;have l9:=KH.out.lt;go_wp2_with (with_reducible refine wA dl (Ey.mk ?_));apply Et;have bel:=Er wr (Ec (Em (Eu 32)) 41);replace KR:=J<|KR.out.u bel;replace KH:=J<|KH.out.u bel;replace B:=EW B bel;have KS:=J<|H.new wr (Em (Eu 32)) 41;clear bel;generalize wr.alloc (Ec (Em (Eu 32)) 41)=w6 at*;generalize wr.heap.size=g9 at*;go_wp2_with (with_reducible refine wL fU KH ?_ (hn:=St.dk _));go_loopw[23] (fun y wx=> ∃k:Nat,k<=8/\y=E I k/\H wx w.heap.size (Em (Eu 32)) 41/\H wx g9 (Em (cJ (Zg q) (Eu 32) (4*k))) 41/\Ek w wx) (fun y _=>8-(I5 y).toNat);case atStart=>exact⟨0,D,U,KR.out,by rw[Nat.mul_zero,Mm];exact KS.out,B.out⟩
   case round=>
    clear KR KH KS B;obtain⟨k,hk,rfl,KR,KS,B⟩:=hrel;by_cases hlt:k<8
    ·have hix:=EJ6 q k hlt;have DG:=EJ5 q k hlt;have le:(Zg q).length=(Eu 32).length:=by rw[qD,dS]
     have lz:=qD q;have lo:=Cy (Zg q) (Eu 32) (4*k) le D;have c0:=KS.cell (4*k);have c1:=KS.cell (4*k+1);have c2:=KS.cell (4*k+2);have c3:=KS.cell (4*k+3);have f0:=KS.I_ (4*k);have f1:=KS.I_ (4*k+1);have f2:=KS.I_ (4*k+2);have f3:=KS.I_ (4*k+3);rw[jk _ _ D] at c0 c1 c2 c3;generalize q.list.getD k 0=x at*;have S1:=sT (Zg q) (Eu 32) (4*k) le D;have S2:=sT (Zg q) (Eu 32) (4*k+1) le D;have S3:=sT (Zg q) (Eu 32) (4*k+2) le D;have S4:=sT (Zg q) (Eu 32) (4*k+3) le D;rw[DG.1] at S1;rw[DG.2.1] at S2;rw[DG.2.2.1] at S3;rw[DG.2.2.2] at S4;replace S1:=J S1;replace S2:=J S2;replace S3:=J S3;replace S4:=J S4;replace KR:=J KR;replace KS:=J KS;replace B:=J B;clear DG le lz lo;go_wp2_with fail;have h:=(((KS.out.set (4*k) (E IT (x/16777216%256))).set (4*k+1) (E IT (x/65536%256))).set (4*k+2) (E IT (x/256%256))).set (4*k+3) (E IT (x%256));rw[nt,S1.out,nt,S2.out,nt,S3.out,nt,S4.out] at h;exact⟨⟨k+1,D,Ej,(((KR.out.other _ _ _ D).other _ _ _ D).other _ _ _ D).other _ _ _ D,h,(((B.out.setCell Jm _).setCell Jm _).setCell Jm _).setCell Jm _⟩,J6⟩
    ·obtain rfl:k=8:=D;rw[show((8:Nat):Int)=8 from rfl];rw[Mn (Zg q) (Eu 32) (4*8) (by rw[qD];omega) (by rw[dS];omega)] at KS;replace KR:=J KR;replace KS:=J KS;replace B:=J B;go_wp2_with (with_reducible first|refine wL OF KS ?_ (hn:=N0)|refine wS (cs:=Em (Zg q)) OF KR ?_ (ho:=Xu) (hn:=N0) (h1:=XK _));refine EV (v:=EZ (Em (Zg q))) (JB OF U _ _ (w.heap.size) _ U (KR.out.setRow _) (by rw[Oc,qD])) U ⟨by rw[HQ.out],E6 B.out D _⟩
def keyed(k:List Int):List Int:=if 64<k.length then Zh k else k
def fZ(k:List Int):List Int:=keyed k++Eu (64-(keyed k).length)
def ZM(l:List Int)(b:Int):List Int:=l.map fun c=>Iu .xor .u8 c b
def Oq(k b:List Int):List Int:=Zh (ZM (fZ k) 92++Zh (ZM (fZ k) 54++b))
theorem EJ9(k:List Int):(keyed k).length<=64:=by
 unfold keyed;split;·rw[nL];omega
 ·omega
theorem EJ_(h: ∀x∈k,0<=x/\x<=255): ∀x∈keyed k,0<=x/\x<=255:=by
 unfold keyed;split;·exact tx k
 ·exact h
theorem EOE(k:List Int):(fZ k).length=64:=by have:=EJ9 k;simp[fZ,dS];omega
theorem EOI(h: ∀x∈k,0<=x/\x<=255): ∀x∈fZ k,0<=x/\x<=255:=by
 intro x hx;rcases Xt.1 hx with hx|hx;·exact EJ_ h x hx
 ·exact Mp _ x hx
theorem yf(l:List Int)(b:Int):(ZM l b).length=l.length:=by simp[ZM]
theorem N4(a b:Int):0<=Iu .xor .u8 a b/\Iu .xor .u8 a b<=255:=by unfold Iu;simp only;rw[IntKind.wrap_u8'];omega
theorem N5(l:List Int)(b:Int): ∀x∈ZM l b,0<=x/\x<=255:=by intro x hx;simp only[ZM,bc] at hx;obtain⟨c,_,rfl⟩:=hx;exact N4 c b
theorem EOJ(l:List Int)(b:Int)(i:Nat)(h:i<l.length):(ZM l b).getD i 0=Iu .xor .u8 (l.getD i 0) b:=by simp[ZM,h]
theorem nN(k b:List Int):(Oq k b).length=32:=nL _
theorem yg(k b:List Int): ∀x∈Oq k b,0<=x/\x<=255:=tx _
end Go.Proofs.YtclmichaaiohjaaGreatDoor
