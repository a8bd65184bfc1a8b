import Derived.Test.YtclmichaaiohjaaGreatDoorS02
import Derived.ChangeKeysEq
import Derived.Laws.StructEq
set_option maxRecDepth 100000
set_option linter.unusedVariables false
set_option linter.unusedSimpArgs false
set_option maxHeartbeats 6400000
namespace Go.Proofs.YtclmichaaiohjaaGreatDoor
open RowKit
open _root_.Array renaming getElem?_eq_getElem->kA
open Bool renaming true->EJ,false->EI,and_eq_true->Oj,false_eq_true->kL
open Go renaming bits->Ir,World->M,Calls->Eg,TypeId->EB,Value->Y,Addr->Ep,heap_alloc_new->gI,bodyPost_ret->ET,binOp->X5,results->UA,Act->E_,Oper->EP,execOp->Ig,wpList->Ib,undef->I6,Operand->J5,info_parts->au,below_setRow->EY,wpQuiet_nil->I5,callFunc->Jm,wp_loop_rounds->Uk,rounds_succ->Il,run_underlying->go,Ending->Ud,wpList_store_mid->Ux
open Act renaming put->Ih
open Builtin renaming append_->ZX
open Ending renaming returned->Ei
open IntKind renaming wrap->pE,i64->I,u8->Ix,u64->Im
open Lib renaming hid->J
open Obj renaming cells->Eb
open Go.Proofs.Tryz renaming prog->EZ,func160->iz,ntmps160->iA
open Result renaming andThen_ok->OM
open RowKit renaming Below->Ij,Hid->Ed,intOf->In
open RowKit.Below renaming refl->IU,size->XE
open Sem renaming run_bind->OH,run_pure->Oi
open Value renaming bool->Ec,int->E,agg->Ea,slice->G,tuple->Eu,pointer->V,oneCell'->Oc
open World renaming block_lt_of_cell?->Xv
open Int renaming toNat_natCast->kn
open List renaming getElem?_eq_none->bJ,mem_of_mem_take->iI,eq_nil_of_length_eq_zero->ZP,getElem?_eq_getElem->JV,range->U4,mem_cons_of_mem->XU,mem_cons_self->dq,nodup_cons->nI,getElem?_eq_some_iff->Xx,cons_append->ku,take_append_drop->iU,take_succ_cons->Is,drop_eq_getElem_cons->nO,length_take->ar,take_of_length_le->OP,getD_eq_getElem?_getD->OE,getElem?_append_left->Z_,getElem?_append_right->aE,map_cons->UB,take_zero->Iq,getElem?_toArray->J2,setIfInBounds_toArray->Ik,length_append->IY,length_cons->Zn,mem_cons->UJ,getElem_mem->gh,append_assoc->U7,set_cons_succ->Ic,set_cons_zero->If,mem_append->Xp,length_drop->il,not_mem_nil->Um,drop_succ_cons->IT,drop_zero->IM,append_nil->dy,take_add_one->nG,all_nil->bv,all_cons->aC,mem_of_getElem?->aD,drop_eq_nil_of_le->pT,foldl_cons->jy,foldl_nil->jz,length_nil->jP
open List.cons renaming injEq->dJ
open Nat renaming lt_or_ge->JW,le_trans->Ew,le_refl->E3,zero_add->Ox,lt_of_lt_of_le->gX,add_assoc->jx,reduceAdd->Z3
open Option renaming some->D,none->Z,map_some->kj
open Option.some renaming inj->fb,injEq->nF
variable{g b c m d cap base gm gl:Nat}{W w w':M}{A Y4 C:Option Ep}{x y z l xs p bs:List Int}{k:Int}{T:EB}{fs:List (FD×Nat)}{ds:List FD}
theorem EZk:Od EZ 160 U6.v.toArray:=by intro ev o w ho;unfold Ig;simp only[ho];simp[go_sem];exact congrArg (fun c=>w.alloc (Eb c 160)) Ef
def XD(b:Bool)(m r:Int)(key:List Int):JF:=⟨b,0,m,r,key,Z⟩
theorem EZl(r k0 k1 k2 k3 k4 k5 k6 k7 k8 k9 k10 k11 k12 k13 k14 k15 k16 k17 k18 k19 k20 k21 k22 k23 k24 k25 k26 k27 k28 Bb Bc Bd:Int):Tryz.prog.built 160 [(1,E I r),(2,Ea (Em [k0,k1,k2,k3,k4,k5,k6,k7,k8,k9,k10,k11,k12,k13,k14,k15,k16,k17,k18,k19,k20,k21,k22,k23,k24,k25,k26,k27,k28,Bb,Bc,Bd]))]=D (XD EI 0 r [k0,k1,k2,k3,k4,k5,k6,k7,k8,k9,k10,k11,k12,k13,k14,k15,k16,k17,k18,k19,k20,k21,k22,k23,k24,k25,k26,k27,k28,Bb,Bc,Bd]).v.toArray:=Ef
theorem Sa(r:Int)(key:List Int)(h:key.length=32):Tryz.prog.built 160 [(1,E I r),(2,Ea (Em key))]=D (XD EI 0 r key).v.toArray:=by
 match key,h with
 |[k0,k1,k2,k3,k4,k5,k6,k7,k8,k9,k10,k11,k12,k13,k14,k15,k16,k17,k18,k19,k20,k21,k22,k23,k24,k25,k26,k27,k28,Bb,Bc,Bd],_=>exact EZl r k0 k1 k2 k3 k4 k5 k6 k7 k8 k9 k10 k11 k12 k13 k14 k15 k16 k17 k18 k19 k20 k21 k22 k23 k24 k25 k26 k27 k28 Bb Bc Bd
theorem EZm(b:Bool)(m r:Int)(key:List Int)(hl:key.length=32)(hb: ∀x∈key,0<=x/\x<=255):(XD b m r key).ok:=⟨hl,hb,trivial⟩
def sQ(T:EK)(g:Nat)(src role:Int)(key:List Int)(w:M)(e:Ud)(w':M):Prop:=
 (if(src=1\/src=2\/src=3)/\0<=role/\role<=3 then
  (if(T.E4 (src-1).toNat).on=EI/\T.most<=T.IC then e=Ei (E I 19)/\Iv w' g T
   else e=Ei (E I 0)/\Iv w' g (T.put (src-1).toNat (XD EJ (max T.Iu 0) role key)))
  else e=Ei (E I 1)/\Iv w' g T)/\E7 g w w'
theorem EZn(g:Nat)(src role:Int)(key:List Int)(w:M)(h:src<1): Eg EZ 124 #[V (D ⟨g,0,Z⟩),E I src,E I role,Ea (Em key)] w fun e w'=>e=Ei (E I 1)/\El w w':=by have d1:decide (src<1)=EJ:=IJ h;exact Eoh
theorem EZo(g:Nat)(src role:Int)(key:List Int)(w:M)(h:3<src): Eg EZ 124 #[V (D ⟨g,0,Z⟩),E I src,E I role,Ea (Em key)] w fun e w'=>e=Ei (E I 1)/\El w w':=by have d1:decide (src<1)=EI:=IZ U;have d2:decide (3<src)=EJ:=IJ h;exact Eoh
theorem EZp(g:Nat)(src role:Int)(key:List Int)(w:M)(h1:1<=src)(h2:src<=3)(h:role<0): Eg EZ 124 #[V (D ⟨g,0,Z⟩),E I src,E I role,Ea (Em key)] w fun e w'=>e=Ei (E I 1)/\El w w':=by have d1:decide (src<1)=EI:=IZ U;have d2:decide (3<src)=EI:=IZ U;have d3:decide (role<0)=EJ:=IJ h;exact Eoh
theorem EZq(g:Nat)(src role:Int)(key:List Int)(w:M)(h1:1<=src)(h2:src<=3)(h:3<role): Eg EZ 124 #[V (D ⟨g,0,Z⟩),E I src,E I role,Ea (Em key)] w fun e w'=>e=Ei (E I 1)/\El w w':=by have d1:decide (src<1)=EI:=IZ U;have d2:decide (3<src)=EI:=IZ U;have d3:decide (role<0)=EI:=IZ U;have d4:decide (4<=role)=EJ:=IJ U;exact Eoh
theorem E7.gF{g2:Nat}{a b c:M}(h:E7 g a b)(hg:a.heap.size<=g2)(k:E7 g2 b c)(hb:a.heap.size<=b.heap.size):E7 g a c:=
 ⟨Ew h.size k.size,fun i hi hl=>(k.keep i U (gX hl h.size)).trans (h.keep i hi hl),fun i hi hl=>(h.bel i hi hl).trans (k.bel i U U)⟩
theorem iu(cs:Array Y):E7 g W (W.setRow g cs):=
 ⟨Ej,fun k hk _=>setRow_other W g k _ U,fun b hb hW=>EY (g:=g) (IU b W) hb cs⟩
theorem Sb(b:Bool)(g i:Nat)(hi:i<3)(T:EK)(role:Int)(key:List Int)(w:M)(K:Iv w g T)(h:T.ok)(hr0:0<=role)(hr1:role<=3)(hk:key.length=32)(hon:(T.E4 i).on=b)(hm:b=EI->T.IC<T.most): Eg EZ 124 #[V (D ⟨g,0,Z⟩),E I ((i:Int)+1),E I role,Ea (Em key)] w fun e w'=>e=Ei (E I 0)/\Iv w' g (T.put i (XD EJ (max T.Iu 0) role key))/\E7 g w w':=by
 have d1:decide ((i:Int)+1<1)=EI:=IZ U;have d2:decide (3<(i:Int)+1)=EI:=IZ U;obtain⟨o,ho⟩:=Eo (so i);have hso:3+i*39=o:=by subst ho;have:i=0\/i=1\/i=2:=U;exact EqJ
 have d3:decide (role<0)=EI:=IZ U;have d4:decide (4<=role)=EI:=IZ U;have hof:T.of g ((i:Int)+1)=bif b then V (D ⟨g,o,Z⟩) else V Z:=by unfold EK.of;rw[if_pos U];rw[show((i:Int)+1-1).toNat=i from U,hon,<-ho];cases b<;>rfl
 have CO:Ed (∀W,Iv W g T->Eg EZ 76 #[V (D ⟨g,0,Z⟩),E I ((i:Int)+1)] W fun e w'=>e=Ei (bif b then V (D ⟨g,o,Z⟩) else V Z)/\W=w'):=J fun W hW=>Sc;have CM:Ed (∀W,Iv W g T->Eg EZ 170 #[V (D ⟨g,0,Z⟩)] W fun e w'=>e=Ei (E I T.IC)/\W=w'):=J fun W hW=>Rb g T W hW h;have TP:=J<|fun W (k:Iv W g T)=>AQ k h i (XD EJ (max T.Iu 0) role key) hk;rw[<-ho] at TP;have TH:=J<|fun W (k:Iv W g T)=>(bf k (o:=o) (n:=39) (by rw[sD k h];omega));have CB:=J<|fun W (k:Iv W g T)=>AM k h;have BS:=J<|Sa role key hk;have CH:=J<|fun W (g9:Nat) (k:H W g9 (XD false 0 role key).v.toArray 160)=>zR g9 0 [] ([E .i64 role]++(key.map (E .u8)++Ui Z)) (Ec EI) (E I 0) (E I 0) 160 T.Iu W k O;have HK:=J hk;have hks:Ed ((Em key).size=32):=J (by rw[Ob,hk]);have SZ:=J<|show(XD EJ (max T.Iu 0) role key).v.toArray.size=39 from JF.Zl hk;have Bf:=J<|show(XD EI 0 role key).v.toArray.size=39 from JF.Zl hk;have S1:=J<|sG (XD EJ (max T.Iu 0) role key);have S0:=J<|sG (XD EI 0 role key);have Sd:=J<|show U6.v.toArray.size=39 from JF.Zl O;have KT:=J K;have lg:=H.lt K;clear ho hof hk hon K h;cases b;case' false=>have dm:decide (T.most<=T.IC)=EI:=IZ (by have:=hm O;omega)
 all_goals
  clear hm
  simp only[cond_true,cond_false] at CO
  obtain⟨kv,hkv⟩:=Eo (Em key)
  rw[<-hkv] at BS hks⊢
  obtain⟨si,hsi⟩:=Eo ((XD EI 0 role key).v.toArray)
  rw[<-hsi] at BS Bf S0
  obtain⟨sv,hsv⟩:=Eo ((XD EJ (max T.Iu 0) role key).v)
  obtain⟨T2,pM⟩:=Eo (T.put i (XD EJ (max T.Iu 0) role key))
  rw[<-hsv,<-pM] at TP
  rw[<-pM]
  rw[<-hsv] at SZ S1
  have sR:=J hsv
  have Hr:=J hsi
  clear hkv hsi hsv pM
  go_enter Tryz.func124,Tryz.ntmps124
  go_wp2_with fail
  have K7:=J<|H.new w kv 41
  have b1:=Er w (Eb kv 41)
  replace KT:=J<|KT.out.B b1
  have ON:Ed (E7 g w (w.alloc (Eb kv 41))):=J<|E7.ED b1
  have l7:=K7.out.lt
  generalize w.alloc (Eb kv 41)=w1 at*
  clear b1
  have KX:Ed (∀y:Ext w1,Iv (EC w1 y) g T):=J fun y=>KT.out.B (EQ y)
  have c1: ∀y:Ext w1,(EC w1 y).cell? ⟨g,121,Z⟩=D (E I T.most):=fun y=>(CB.out _ (KX.out y)).2
  refine ZQ Ef Ef ?_
  repeat (go_big_quiet_step ((with_reducible first|refine mW (CO.out _ (KX.out _))|refine mW (CM.out _ (KX.out _)))))
  refine I5 ?_
  intro _ hw'
  obtain⟨y9,rfl⟩:=hw'
  have En:=EQ y9
  replace KT:=J<|KT.out.B En
  replace K7:=J<|K7.out.B En
  replace ON:=J<|ON.out.trans (E7.ED En)
  clear c1 KX CO CM En
  generalize EC w1 y9=w2 at*
  go_wp2_with (first|(with_reducible refine wL UX K7 ?_ (hn:=hks.out))|((with_reducible refine Io 39 ?_);refine I4 rfl 160 _ rfl si BS.out ?_)|(with_reducible refine wA EZk (Ex.mk ?_)))
  apply Es
  have l2:=K7.out.lt
  have lt2:=H.lt KT.out
  have b3:=Er w2 (Eb U6.v.toArray 160)
  replace KT:=J<|KT.out.B b3
  replace ON:=J<|ON.out.trans (E7.ED b3)
  have K9:=J<|H.new w2 U6.v.toArray 160
  clear b3
  generalize w2.alloc (Eb U6.v.toArray 160)=w3 at*
  generalize w2.heap.size=g9 at*
  go_wp2_with (with_reducible refine wS (cs:=si) u_ K9 (Ex.mk ?_) (ho:=Sd.out) (hn:=Bf.out) (h1:=S0.out))
  apply Es
  replace KT:=J<|show Iv (w3.setRow g9 si) g T from H.setRow_other KT.out g9 si U
  replace ON:=J<|ON.out.gF (g2:=g9) U (iu (g:=g9) (W:=w3) si) (by have:=ON.out.size;omega)
  replace K9:=J<|K9.out.setRow si
  generalize w3.setRow g9 si=w4 at*
  have c2:w4.cell? ⟨g,120,Z⟩=D (E I T.Iu):=(CB.out _ KT.out).1
  go_wp2_with fail
  rw[Hr.out] at K9
  refine(CH.out _ g9 K9.out).mono ?_
  rintro e w5 ⟨rfl,k9,o9⟩
  replace KT:=J<|show Iv w5 g T from o9.Ek KT.out U
  replace ON:=J<|ON.out.gF (g2:=g9) U o9 (by have:=ON.out.size;omega)
  have UZ:Ed (H w5 g9 sv.toArray 160):=J (by rw[sR.out];exact k9)
  clear k9 o9 K9 c2 CH Hr
  have ltT:=H.lt KT.out
  go_wp2_with fail
  refine Oa 7 Ef Ef ?_
  simp only[Is,Iq,IT,IM]
  repeat (first
   |go_big_quiet_skip
   |(go_big_quiet_want
     first
      |(refine UV (T:=160) (g:=g9) u_ _ rfl rfl UZ ?_ ?_;(·exact SZ.out);go_simp;go_big_quiet_on)
      |(go_big_quiet_op
        first
         |go_big_quiet_on
         |go_big_quiet_call ((fail)))))
  refine I5 ?_
  intro _ hw'
  obtain⟨y8,rfl⟩:=hw'
  have En:=EQ y8
  replace KT:=J<|KT.out.B En
  replace ON:=J<|ON.out.trans (E7.ED En)
  clear En
  generalize EC w5 y8=w6 at*
  have KF:=J<|TP.out w6 KT.out
  replace ON:=J<|ON.out.trans (JP (g:=g) sv o w6)
  replace TH:=J<|TH.out w6 KT.out
  go_wp2_with ((with_reducible refine I3 160 ?_);(with_reducible refine Ux O 160 _ _ O g o sv.toArray ?_ ?_ ?_ ?_ ?_ ?_);(·rfl);(·rfl);(·rw[SZ.out];exact TH.out);(·rw[SZ.out];exact u_.2);(·exact S1.out))
  go_ret
  exact⟨O,KF.out,ON.out⟩
theorem EZr(g i:Nat)(hi:i<3)(T:EK)(role:Int)(key:List Int)(w:M)(K:Iv w g T)(h:T.ok)(hr0:0<=role)(hr1:role<=3)(hk:key.length=32)(hon:(T.E4 i).on=EI)(hm:T.most<=T.IC): Eg EZ 124 #[V (D ⟨g,0,Z⟩),E I ((i:Int)+1),E I role,Ea (Em key)] w fun e w'=>e=Ei (E I 19)/\Iv w' g T/\E7 g w w':=by
 have d1:decide ((i:Int)+1<1)=EI:=IZ U;have d2:decide (3<(i:Int)+1)=EI:=IZ U;obtain⟨o,ho⟩:=Eo (so i);have hso:3+i*39=o:=by subst ho;have:i=0\/i=1\/i=2:=U;exact EqJ
 have d3:decide (role<0)=EI:=IZ U;have d4:decide (4<=role)=EI:=IZ U;have hof:T.of g ((i:Int)+1)=V Z:=by unfold EK.of;rw[if_pos U];rw[show((i:Int)+1-1).toNat=i from U,hon,<-ho];rfl
 have CO:Ed (∀W,Iv W g T->Eg EZ 76 #[V (D ⟨g,0,Z⟩),E I ((i:Int)+1)] W fun e w'=>e=Ei (V Z)/\W=w'):=J fun W hW=>Sc;have CM:Ed (∀W,Iv W g T->Eg EZ 170 #[V (D ⟨g,0,Z⟩)] W fun e w'=>e=Ei (E I T.IC)/\W=w'):=J fun W hW=>Rb g T W hW h;have dm:decide (T.most<=T.IC)=EJ:=IJ hm;have TP:=J<|fun W (k:Iv W g T)=>AQ k h i (XD EJ (max T.Iu 0) role key) hk;rw[<-ho] at TP;have TH:=J<|fun W (k:Iv W g T)=>(bf k (o:=o) (n:=39) (by rw[sD k h];omega));have CB:=J<|fun W (k:Iv W g T)=>AM k h;have BS:=J<|Sa role key hk;have CH:=J<|fun W (g9:Nat) (k:H W g9 (XD false 0 role key).v.toArray 160)=>zR g9 0 [] ([E .i64 role]++(key.map (E .u8)++Ui Z)) (Ec EI) (E I 0) (E I 0) 160 T.Iu W k O;have HK:=J hk;have hks:Ed ((Em key).size=32):=J (by rw[Ob,hk]);have SZ:=J<|show(XD EJ (max T.Iu 0) role key).v.toArray.size=39 from JF.Zl hk;have Bf:=J<|show(XD EI 0 role key).v.toArray.size=39 from JF.Zl hk;have S1:=J<|sG (XD EJ (max T.Iu 0) role key);have S0:=J<|sG (XD EI 0 role key);have Sd:=J<|show U6.v.toArray.size=39 from JF.Zl O;have KT:=J K;have lg:=H.lt K;clear ho hof hk hon hm K h;obtain⟨kv,hkv⟩:=Eo (Em key);rw[<-hkv] at BS hks⊢;obtain⟨si,hsi⟩:=Eo ((XD EI 0 role key).v.toArray);rw[<-hsi] at BS Bf S0;obtain⟨sv,hsv⟩:=Eo ((XD EJ (max T.Iu 0) role key).v);obtain⟨T2,pM⟩:=Eo (T.put i (XD EJ (max T.Iu 0) role key));rw[<-hsv] at SZ S1;have sR:=J hsv;have Hr:=J hsi;clear hkv hsi hsv pM TP TH;go_enter Tryz.func124,Tryz.ntmps124;go_wp2_with fail;have K7:=J<|H.new w kv 41;have b1:=Er w (Eb kv 41);replace KT:=J<|KT.out.B b1;have ON:Ed (E7 g w (w.alloc (Eb kv 41))):=J<|E7.ED b1;have l7:=K7.out.lt;generalize w.alloc (Eb kv 41)=w1 at*;clear b1;have KX:Ed (∀y:Ext w1,Iv (EC w1 y) g T):=J fun y=>KT.out.B (EQ y);have c1: ∀y:Ext w1,(EC w1 y).cell? ⟨g,121,Z⟩=D (E I T.most):=fun y=>(CB.out _ (KX.out y)).2;refine ZQ Ef Ef ?_;repeat (go_big_quiet_step ((with_reducible first|refine mW (CO.out _ (KX.out _))|refine mW (CM.out _ (KX.out _)))))
 refine I5 ?_;intro _ hw';obtain⟨y9,rfl⟩:=hw';have En:=EQ y9;replace KT:=J<|KT.out.B En;replace K7:=J<|K7.out.B En;replace ON:=J<|ON.out.trans (E7.ED En);clear c1 KX CO CM En;generalize EC w1 y9=w2 at*;go_wp2;go_ret;exact⟨O,KT.out,ON.out⟩
theorem EZs(g:Nat)(T:EK)(src role:Int)(key:List Int)(w:M)(K:Iv w g T)(h:T.ok)(hk:key.length=32): Eg EZ 124 #[V (D ⟨g,0,Z⟩),E I src,E I role,Ea (Em key)] w (sQ T g src role key w):=by
 have hbad: ∀(e:Ud) (w':M),¬((src=1\/src=2\/src=3)/\0<=role/\role<=3)->e=Ei (E I 1)/\El w w'->sQ T g src role key w e w':=by intro e w' hn ⟨he,hb⟩;unfold sQ;rw[if_neg hn];exact⟨⟨he,K.B hb⟩,E7.ED hb⟩
 by_cases h1:src<1;·exact(EZn g src role key w h1).mono fun e w' hp=>hbad e w' U hp
 by_cases h2:3<src;·exact(EZo g src role key w h2).mono fun e w' hp=>hbad e w' U hp
 by_cases h3:role<0;·exact(EZp g src role key w U U h3).mono fun e w' hp=>hbad e w' U hp
 by_cases h4:3<role;·exact(EZq g src role key w U U h4).mono fun e w' hp=>hbad e w' U hp
 have hs:src=1\/src=2\/src=3:=U;have hg:(src=1\/src=2\/src=3)/\0<=role/\role<=3:=⟨hs,U,U⟩;unfold sQ;simp only[if_pos hg];obtain⟨i,hi,rfl⟩: ∃i:Nat,i<3/\src=(i:Int)+1:=⟨(src-1).toNat,U,U⟩;simp only[show((i:Int)+1-1).toNat=i from U];cases hon:(T.E4 i).on with
 |true=>exact(Sb EJ g i hi T role key w K h U U hk hon (fun h=>UL)).mono fun e w' ⟨a,b,c⟩=>⟨by rw[if_neg (fun h=>by cases h.1)];exact⟨a,b⟩,c⟩
 |false=>
  by_cases hm:T.most<=T.IC;·exact(EZr g i hi T role key w K h U U hk hon hm).mono fun e w' ⟨a,b,c⟩=>⟨by rw[if_pos ⟨O,hm⟩];exact⟨a,b⟩,c⟩
  ·exact(Sb EI g i hi T role key w K h U U hk hon (fun _=>U)).mono fun e w' ⟨a,b,c⟩=>⟨by rw[if_neg (fun h=>hm h.2)];exact⟨a,b⟩,c⟩
theorem Sf(a:Option Ep)(c:Nat)(W:M):(Instr.arrayAt 115 (G a 8 c)).run EZ W= .ok (V a) W:=by simp[Instr.arrayAt,go Tryz.underlying115]
theorem EZt(l:List Int)(k:Nat):(Em l).extract 0 (0+k)=Em (l.take k):=by simp[Em]
theorem Hs(A Y4:Option Ep)(k b:List Int)(n m c d:Nat)(w:M)(hn:k.length=n)(hm:b.length=m)(hk:Row w A k)(hb:Row w Y4 b)(hl:n<=10000000)(hl2:m<=10000000)(hR:Ju w): Eg EZ 210 #[G A n c,G Y4 m d] w fun e w'=>e=Ei (Ea (Em ((Oz k b).take 8)))/\El w w':=by have C:=fun(W:M) (hb':El w W)=>SJ A Y4 k b n m c d W hn hm (It hk hb') (It hb hb') hl hl2 (hR.B hb');have AL:=pK k b;generalize Oz k b=ans at*;have jt:=J AL;have C2:=J C;have T8:Ed ((ans.take 8).length=8):=J (by rw[ar,jt.out];rfl);have Sg:=Sf;clear C AL hk hb hR hn hm;go_enter Tryz.func210,Tryz.ntmps210;go_wp2_with (with_reducible refine wA sP (Ex.mk ?_));apply Es;have u:=J<|IU w.heap.size w;have bel:=Er w (Eb (Em (Ev 8)) 115);replace u:=EV u bel;have K4:=J<|H.new w (Em (Ev 8)) 115;clear bel;generalize w.alloc (Eb (Em (Ev 8)) 115)=w1 at*;go_wp2_with fail;refine(C2.out _ u.out).mono ?_;rintro e w2 ⟨rfl,b2⟩;replace K4:=J<|K4.out.B b2;replace u:=EV u b2;have l2:=K4.out.lt;clear b2 C2;go_wp2_with (with_reducible refine wA fy (Ex.mk ?_));apply Es;have bel:=Er w2 (Eb (Em (Ev 32)) 41);replace K4:=J<|K4.out.B bel;replace u:=EV u bel;have K5:=J<|H.new w2 (Em (Ev 32)) 41;clear bel;generalize w2.alloc (Eb (Em (Ev 32)) 41)=w3 at*;generalize w2.heap.size=g5 at*;go_wp2_with (with_reducible refine wS (cs:=Em ans) UX K5 (Ex.mk ?_) (ho:=XP) (hn:=by with_unfolding_all (rw[Ob,jt.out])) (h1:=X6 _));apply Es;replace K4:=J<|K4.out.setRow_other g5 (Em ans) U;replace K5:=J<|K5.out.setRow (Em ans);replace u:=J<|EY (g:=g5) u.out U (Em ans);generalize w3.setRow g5 (Em ans)=w4 at*;go_wp2_with (with_reducible first|refine wM (off:=0) (cs:=Em (ans.take 8)) bu K5 ?_ (hn:=Ht) (he:=EZt _ _)|refine wS (cs:=Em (ans.take 8)) bu K4 ?_ (ho:=XP) (hn:=Ht) (h1:=X6 _));refine ET (v:=Ea (Em (ans.take 8))) (Jd bu O _ _ (w.heap.size) _ O (K4.out.setRow _) (by rw[Ob,T8.out])) O ⟨O,EY u.out U _⟩
theorem Sh(n:Int)(k:Nat)(m:Int)(hk:k<=63)(hm:IntKind.u64.wrap (IntKind.u64.wrap (2^k)-1)=m)(hd:(2:Int)^k∣18446744073709551616):Ir .and .u64 (IntKind.u64.wrap n) m=n%2^k:=by
 have e:IntKind.u64.wrap n=n%18446744073709551616:=by unfold pE;rfl
 rw[e,<-hm,QS k hk _ U U];exact Int.emod_emod_of_dvd n hd
theorem EZu(n:Int):Ir .and .u64 (IntKind.u64.wrap n) 255=n%256:=Sh n 8 255 U EU EU
theorem EZv(n:Int):Ir .and .u64 (IntKind.u64.wrap n) 4294967295=n%4294967296:=Sh n 32 4294967295 U EU EU
theorem vd(g m c:Nat)(cs:Array Y)(ps:List (List Int))(w:M)(hm:ps.length=m)(hk:H w g cs 23)(hp:fz w cs ps)(hs:ps.flatten.length<=100000000)(hm2:m<=1000): Eg EZ 172 #[G (D ⟨g,0,Z⟩) m c] w fun e w'=>(∃A d,e=Ei (G A ps.flatten.length d)/\Own w' w.heap.size A d ps.flatten)/\El w w':=by
 have HM:=J hm;have HK:=J hk;have HP:=J hp;have HS:=J hs;clear hm hk hp hs;go_enter Tryz.func172,Tryz.ntmps172;go_wp2_with fail;go_loopw[3,8] (fun x y wr=> ∃(i:Nat) (A:Option Ep) (d n:Nat),i<=m/\y=E I i/\x=G A n d/\(ps.take i).flatten.length=n/\Own wr w.heap.size A d (ps.take i).flatten/\El w wr) (fun _ y _=>m-(In y).toNat);case atStart=>exact⟨0,Z,0,0,U,O,O,O,XL _ _,IU _ _⟩
 case round=>
  obtain⟨i,A,d,n,hi,rfl,rfl,hn,ho,u⟩:=hrel;by_cases hlt:i<m
  ·have hil:i<ps.length:=Hi;obtain⟨Y4,c2,e2,r2⟩:=HP.out.2 i hil;have ck:=(HK.out.B u).cell i;rw[e2] at ck;have hst:(ps.take (i+1)).flatten=(ps.take i).flatten++ps[i]:=RM;have hle:(ps.take (i+1)).flatten.length<=100000000:=by have h1:=HS.out;have h2:ps.flatten=(ps.take (i+1)).flatten++(ps.drop (i+1)).flatten:=RV;rw[h2,IY] at h1;omega
   rw[hst,IY] at hle;exact EnW
  ·exact Epc
theorem EZw{n:Nat}(hn:x.length=n)(hx:Row w A x):fz w #[G A n c] [x]:=by
 subst hn;refine⟨O,fun i hi=> ?_⟩;match i,hi with
 |0,_=>exact⟨A,c,O,hx⟩
theorem Si{n k e:Nat}(hn:x.length=n)(hm:y.length=m)(hk:z.length=k)(hx:Row w A x)(hy:Row w Y4 y)(hz:Row w C z):fz w #[G A n c,G Y4 m d,G C k e] [x,y,z]:=by
 subst hn hm hk;refine⟨O,fun i hi=> ?_⟩;match i,hi with
 |0,_=>exact⟨A,c,O,hx⟩
 |1,_=>exact⟨Y4,d,O,hy⟩
 |2,_=>exact⟨C,e,O,hz⟩
theorem EZx{Y_:Option Ep}{n k l e f:Nat}{Y3:List Int}(hn:x.length=n)(hm:y.length=m)(hk:z.length=k)(hl:Y3.length=l)(hx:Row w A x)(hy:Row w Y4 y)(hz:Row w C z)(hu:Row w Y_ Y3):fz w #[G A n c,G Y4 m d,G C k e,G Y_ l f] [x,y,z,Y3]:=by
 subst hn hm hk hl;refine⟨O,fun i hi=> ?_⟩;match i,hi with
 |0,_=>exact⟨A,c,O,hx⟩
 |1,_=>exact⟨Y4,d,O,hy⟩
 |2,_=>exact⟨C,e,O,hz⟩
 |3,_=>exact⟨Y_,f,O,hu⟩
theorem Bg(n:Int)(w:M): Eg EZ 211 #[E I n,E I 1] w fun e w'=>(∃g,e=Ei (G (D ⟨g,0,Z⟩) 1 1)/\Row w' (D ⟨g,0,Z⟩) (be (n%256) 1))/\El w w':=by have h1:=EZu n;have hp:Eg EZ 111 #[E Im (n%256),E I 1] w fun e w'=>e=Ei (Eu #[G (D ⟨w.heap.size,0,Z⟩) 1 1,E I 0])/\Row w' (D ⟨w.heap.size,0,Z⟩) (be (n%256) 1)/\El w w':=kR (n%256) 1 w U U U (by show n%256/256=0;omega);generalize be (n%256) 1=b at*;generalize n%256=m at*;exact Eot
theorem EZy(n:Int)(w:M): Eg EZ 211 #[E I n,E I 4] w fun e w'=>(∃g,e=Ei (G (D ⟨g,0,Z⟩) 4 4)/\Row w' (D ⟨g,0,Z⟩) (be (n%4294967296) 4))/\El w w':=by have h1:=EZv n;have hp:Eg EZ 111 #[E Im (n%4294967296),E I 4] w fun e w'=>e=Ei (Eu #[G (D ⟨w.heap.size,0,Z⟩) 4 4,E I 0])/\Row w' (D ⟨w.heap.size,0,Z⟩) (be (n%4294967296) 4)/\El w w':=kR (n%4294967296) 4 w U U U (by show n%4294967296/4294967296=0;omega);generalize be (n%4294967296) 4=b at*;generalize n%4294967296=m at*;exact Eot
theorem Row.B(h:Row w A xs)(hb:El w w'):Row w' A xs:=It h hb
def Uo(y s r:Int)(nc:List Int):List Int:=[[y],be (s%256) 1,be (r%256) 1,nc].flatten
def dA(s q:Int):List Int:=[[78],be (s%256) 1,be (q%4294967296) 4].flatten
def nB(s:Int)(b:List Int):List Int:=[[77],be (s%256) 1,b].flatten
theorem Hu(y s r:Int)(nc:List Int)(h:nc.length=8):(Uo y s r nc).length=11:=by simp[Uo,UU,h]
theorem EZz(s q:Int):(dA s q).length=6:=by simp[dA,UU]
theorem Sj(s:Int)(b:List Int):(nB s b).length=2+b.length:=by simp[nB,UU];omega
theorem Hv{y:Int}(h:H w g #[E Ix y] T)(hy:0<=y/\y<=255):Row w (D ⟨g,0,Z⟩) [y]:=EZf h O (by intro x hx;simp at hx;subst hx;exact hy)
def Bh(y s r:Int)(nc:List Int)(g7:Nat)(i:Nat)(v:Y)(w:M):Prop:=match i with
 |0=>v=E Ix y
 |1=> ∃g,v=G (D ⟨g,0,Z⟩) 1 1/\Row w (D ⟨g,0,Z⟩) [y]
 |2=>v=E I s
 |3=> ∃g,v=G (D ⟨g,0,Z⟩) 1 1/\Row w (D ⟨g,0,Z⟩) (be (s%256) 1)
 |4=>v=E I r
 |5=> ∃g,v=G (D ⟨g,0,Z⟩) 1 1/\Row w (D ⟨g,0,Z⟩) (be (r%256) 1)
 |6=>v=G (D ⟨g7,0,Z⟩) 8 8
 |7=> ∃g cs,v=G (D ⟨g,0,Z⟩) 4 4/\H w g cs 23/\fz w cs [[y],be (s%256) 1,be (r%256) 1,nc]
 |_=> ∃A d,v=G A 11 d/\Row w A (Uo y s r nc)
theorem EZA(y s r:Int)(nc:List Int)(g7:Nat): ∀i v w w',i<10->Bh y s r nc g7 i v w->J0 w w'->Bh y s r nc g7 i v w':=by
 intro i v w w' hi h hb;unfold Bh at*;split at h;case h_2|h_4|h_6=>obtain⟨g,e,k⟩:=h;exact⟨g,e,k.B hb⟩
 case h_8=> exact Eq5
 case h_9=>obtain⟨g,d,e,k⟩:=h;exact⟨g,d,e,k.B hb⟩
 all_goals exact h
theorem Sk(y s r:Int)(nc:List Int)(hl:nc.length=8)(hb: ∀x∈nc,0<=x/\x<=255)(hy:0<=y/\y<=255)(w:M): Eg EZ 214 #[E Ix y,E I s,E I r,Ea (Em nc)] w fun e w'=>(∃A d,e=Ei (G A 11 d)/\Row w' A (Uo y s r nc))/\El w w':=by
 have HL:=J hl;have HB:=J hb;have HY:=J hy;clear hl hb hy;go_enter Tryz.func214,Tryz.ntmps214;go_wp2_with fail;have K7:=J<|H.new w (Em nc) 115;have u:=J<|Er w (Eb (Em nc) 115);generalize w.alloc (Eb (Em nc) 115)=w1 at*;refine ZV ER Ef 10 Ef Ej EU (Bh y s r nc w.heap.size) (EZA y s r nc w.heap.size) ?_ ?_
 ·simp only[Xl,Is,Iq,EM,Ih,Ik,Ic,If,and_true];refine⟨?_,?_,?_,?_,?_,?_,?_,?_,?_,?_⟩;all_goals intro v w' hb hd
  ·exact EnB
  ·have d0:v 0=E Ix y:=hd.at 0 rfl;exact Z9 (v:=G (D ⟨w'.heap.size,0,Z⟩) 1 1) (w':=w'.alloc (Eb #[E Ix y] 5)) (Eh O) UW (Er w' _) ⟨_,O,Hv (H.new w' _ _) HY.out⟩
  ·exact EnB
  ·exact EoP
  ·exact EnB
  ·have d4:v 4=E I r:=hd.at 4 rfl;refine J4 (f:=211) (args:= #[v 4,E I 1]) (Eh O) Ez ?_;rw[d4];exact(Bg r w').mono fun e w'' ⟨⟨g,he,r⟩,hb'⟩=>⟨_,he,hb',g,O,r⟩
  ·exact EnB
  ·obtain⟨g1,d1,r1⟩: ∃g,v 1=G (D ⟨g,0,Z⟩) 1 1/\Row w' (D ⟨g,0,Z⟩) [y]:=hd.at 1 rfl;obtain⟨g3,d3,r3⟩: ∃g,v 3=G (D ⟨g,0,Z⟩) 1 1/\Row w' (D ⟨g,0,Z⟩) (be (s%256) 1):=hd.at 3 rfl;obtain⟨g5,d5,r5⟩: ∃g,v 5=G (D ⟨g,0,Z⟩) 1 1/\Row w' (D ⟨g,0,Z⟩) (be (r%256) 1):=hd.at 5 rfl;have d6:v 6=G (D ⟨w.heap.size,0,Z⟩) 8 8:=hd.at 6 rfl;have b1:=Er w' (Eb #[G (D ⟨g1,0,Z⟩) 1 1,G (D ⟨g3,0,Z⟩) 1 1,G (D ⟨g5,0,Z⟩) 1 1,G (D ⟨w.heap.size,0,Z⟩) 8 8] 23);exact Z9 (v:=G (D ⟨w'.heap.size,0,Z⟩) 4 4) (w':=w'.alloc (Eb #[G (D ⟨g1,0,Z⟩) 1 1,G (D ⟨g3,0,Z⟩) 1 1,G (D ⟨g5,0,Z⟩) 1 1,G (D ⟨w.heap.size,0,Z⟩) 8 8] 23)) (Eh O) (by simp[go_sem,d1,d3,d5,d6]) b1 ⟨_,_,O,H.new _ _ _,EZx O (UU _ _) (UU _ _) HL.out (r1.B b1) (r3.B b1) (r5.B b1) ((iZ (K7.out.B hb) HB.out).B b1)⟩
  ·obtain⟨g,cs,d7,k7,p7⟩: ∃g cs,v 7=G (D ⟨g,0,Z⟩) 4 4/\H w' g cs 23/\fz w' cs [[y],be (s%256) 1,be (r%256) 1,nc]:=hd.at 7 rfl;refine J4 (f:=172) (args:= #[v 7]) (Eh O) Ez ?_;rw[d7];have hln:[[y],be (s%256) 1,be (r%256) 1,nc].flatten.length=11:=Hu y s r nc HL.out;refine(vd g 4 4 cs _ w' O k7 p7 (by rw[hln];omega) U).mono fun e w'' ⟨⟨A,d,he,o⟩,hb'⟩=>⟨_,he,hb',A,d,by rw[hln],o.row⟩
  ·obtain⟨A,d,d8,r8⟩: ∃A d,v 8=G A 11 d/\Row w' A (Uo y s r nc):=hd.at 8 rfl;exact IE ER (Eh O) gG ⟨A,d,O,r8⟩
 ·intro v w' hb hr;obtain⟨A,d,d9,r9⟩: ∃A d,v 9=G A 11 d/\Row w' A (Uo y s r nc):=hr 9 U;simp only[Is,Iq,IT,IM,EM,Ih,Ik,Ic,If];rw[d9];have b2:=bt u.out hb;clear hr hb d9;go_wp2;go_ret;exact⟨⟨_,_,O,r9⟩,b2⟩
theorem EZB(A:Option Ep)(k:List Int)(n c:Nat)(s q:Int)(w:M)(hn:k.length=n)(hk:Row w A k)(hl:n<=10000000)(hR:Ju w): Eg EZ 164 #[G A n c,E I s,E I q] w fun e w'=>e=Ei (Ea (Em ((Oz k (dA s q)).take 8)))/\El w w':=by have HN:=J hn;have HK:=J hk;have RT:=J hR;have u:=J<|IU w.heap.size w;have NL:=EZz s q;have CT:=fun(Y4:Option Ep) (d:Nat) (W:M) (hb:Row W Y4 (dA s q)) (hw:El w W)=>Hs A Y4 k (dA s q) n 6 c d W hn NL (hk.B hw) hb hl U (hR.B hw);have T8:((Oz k (dA s q)).take 8).length=8:=Bi;have CJ:=fun(g c:Nat) (Y4 C Y_:Option Ep) (e f h:Nat) (W:M) (hk:H W g #[G Y4 1 e,G C 1 f,G Y_ 4 h] 23) (r1:Row W Y4 [78]) (r2:Row W C (be (s%256) 1)) (r3:Row W Y_ (be (q%4294967296) 4))=> vd g 3 c _ _ W O hk (Si O (UU _ _) (UU _ _) r1 r2 r3) (by show(dA s q).length<=_;omega) U;have e1:[[78],be (s%256) 1,be (q%4294967296) 4].flatten=dA s q:=rfl;simp only[e1,NL] at CJ;have CA:=fun W=>Bg s W;have CB:=fun W=>EZy q W;generalize (Oz k (dA s q)).take 8=ans at*;generalize dA s q=nb at*;generalize be (s%256) 1=bs at*;generalize be (q%4294967296) 4=bq at*;replace CT:=J CT;replace CJ:=J CJ;replace CA:=J CA;replace CB:=J CB;replace T8:=J T8;clear hn hk hR NL e1;go_enter Tryz.func164,Tryz.ntmps164;go_wp2_with (with_reducible refine wA sP (Ex.mk ?_));apply Es;have bel:=Er w (Eb (Em (Ev 8)) 115);replace u:=EV u bel;have K6:=J<|H.new w (Em (Ev 8)) 115;clear bel;generalize w.alloc (Eb (Em (Ev 8)) 115)=w1 at*;go_wp2_with (go_at_call 211;refine Ex.mk ?_);apply Es;have l6:=K6.out.lt;have bel:=Er w1 (Eb #[E Ix 78] 5);replace K6:=J<|K6.out.B bel;replace u:=EV u bel;have K8:=J<|H.new w1 #[E Ix 78] 5;clear bel;generalize w1.alloc (Eb #[E Ix 78] 5)=w2 at*;generalize w1.heap.size=g8 at*;refine(CA.out _).mono ?_;rintro e w3 ⟨⟨g3,rfl,r3⟩,b3⟩;replace K6:=J<|K6.out.B b3;replace K8:=J<|K8.out.B b3;replace u:=EV u b3;replace r3:=J r3;clear b3;go_wp2_with fail;refine(CB.out _).mono ?_;rintro e w4 ⟨⟨g4,rfl,r4⟩,b4⟩;replace K6:=J<|K6.out.B b4;replace K8:=J<|K8.out.B b4;replace r3:=J<|r3.out.B b4;replace u:=EV u b4;replace r4:=J r4;clear b4;go_wp2_with (go_at_call 172;refine Ex.mk ?_);apply Es;have bel:=Er w4 (Eb #[G (D ⟨g8,0,Z⟩) 1 1,G (D ⟨g3,0,Z⟩) 1 1,G (D ⟨g4,0,Z⟩) 4 4] 23);replace K6:=J<|K6.out.B bel;replace K8:=J<|K8.out.B bel;replace r3:=J<|r3.out.B bel;replace r4:=J<|r4.out.B bel;replace u:=EV u bel;have Zv:=J<|H.new w4 #[G (D ⟨g8,0,Z⟩) 1 1,G (D ⟨g3,0,Z⟩) 1 1,G (D ⟨g4,0,Z⟩) 4 4] 23;clear bel;generalize w4.alloc (Eb #[G (D ⟨g8,0,Z⟩) 1 1,G (D ⟨g3,0,Z⟩) 1 1,G (D ⟨g4,0,Z⟩) 4 4] 23)=w5 at*;generalize w4.heap.size=g13 at*;refine(CJ.out g13 _ _ _ _ _ _ _ _ Zv.out (Hv K8.out U) r3.out r4.out).mono ?_;rintro e w6 ⟨⟨A6,d6,rfl,o6⟩,b6⟩;replace K6:=J<|K6.out.B b6;replace u:=EV u b6;have r6:=J o6.row;clear b6 o6 r3 r4 Zv K8 CJ CA CB;go_wp2_with fail;refine(CT.out _ _ _ r6.out u.out).mono ?_;rintro e w7 ⟨rfl,b7⟩;replace K6:=J<|K6.out.B b7;replace u:=EV u b7;clear b7 r6 CT;go_wp2_with (with_reducible refine wS (cs:=Em ans) bu K6 ?_ (ho:=XP) (hn:=Ht) (h1:=X6 _));refine ET (v:=Ea (Em ans)) (Jd bu O _ _ (w.heap.size) _ O (K6.out.setRow _) (by rw[Ob,T8.out])) O ⟨O,EY u.out U _⟩
theorem EZC(A:Option Ep)(k nc:List Int)(n c:Nat)(s r:Int)(w:M)(hn:k.length=n)(hk:Row w A k)(hl:n<=10000000)(hc:nc.length=8)(hb: ∀x∈nc,0<=x/\x<=255)(hR:Ju w): Eg EZ 167 #[G A n c,E I s,E I r,Ea (Em nc)] w fun e w'=>e=Ei (Ea (Em ((Oz k (Uo 80 s r nc)).take 8)))/\El w w':=by have HC:=J hc;have u:=J<|IU w.heap.size w;have NL:=Hu 80 s r nc hc;have CT:=fun(Y4:Option Ep) (d:Nat) (W:M) (hb:Row W Y4 (Uo 80 s r nc)) (hw:El w W)=>Hs A Y4 k (Uo 80 s r nc) n 11 c d W hn NL (hk.B hw) hb hl U (hR.B hw);have TL:((Oz k (Uo 80 s r nc)).take 8).length=8:=Bi;have CL:=fun W=>Sk 80 s r nc hc hb U W;generalize (Oz k (Uo 80 s r nc)).take 8=ans at*;generalize Uo 80 s r nc=nb at*;replace CT:=J CT;replace CL:=J CL;replace TL:=J TL;clear hn hk hR NL hc hb;go_enter Tryz.func167,Tryz.ntmps167;go_wp2_with (with_reducible refine wA sP (Ex.mk ?_));apply Es;have K7:=J<|(H.new w (Em nc) 115).alloc (Eb (Em (Ev 8)) 115);have K8:=J<|H.new' (w.alloc (Eb (Em nc) 115)) (Em (Ev 8)) 115 (g:=w.heap.size+1) Ej;replace u:=J<|JY w (Eb (Em nc) 115) (Eb (Em (Ev 8)) 115);generalize (w.alloc (Eb (Em nc) 115)).alloc (Eb (Em (Ev 8)) 115)=w1 at*;go_wp2_with (with_reducible refine wL bu K7 ?_ (hn:=Hw));refine(CL.out _).mono ?_;rintro e w2 ⟨⟨A2,d2,rfl,r2⟩,b2⟩;replace K8:=J<|K8.out.B b2;replace u:=EV u b2;replace r2:=J r2;clear b2 CL K7;go_wp2_with fail;refine(CT.out _ _ _ r2.out u.out).mono ?_;rintro e w3 ⟨rfl,b3⟩;replace K8:=J<|K8.out.B b3;replace u:=EV u b3;clear b3 r2 CT;go_wp2_with (with_reducible refine wS (cs:=Em ans) bu K8 ?_ (ho:=XP) (hn:=Hx) (h1:=X6 _));refine ET (v:=Ea (Em ans)) (Jd bu O _ _ (w.heap.size+1) _ O (K8.out.setRow _) (by rw[Ob,TL.out])) O ⟨O,EY u.out U _⟩
theorem EZD(A:Option Ep)(k nc:List Int)(n c:Nat)(s r:Int)(w:M)(hn:k.length=n)(hk:Row w A k)(hl:n<=10000000)(hc:nc.length=8)(hb: ∀x∈nc,0<=x/\x<=255)(hR:Ju w): Eg EZ 169 #[G A n c,E I s,E I r,Ea (Em nc)] w fun e w'=>e=Ei (Ea (Em (Oz k (Uo 75 s r nc))))/\El w w':=by
 have HC:=J hc;have u:=J<|IU w.heap.size w;have NL:=Hu 75 s r nc hc;have CT:=fun(Y4:Option Ep) (d:Nat) (W:M) (hb:Row W Y4 (Uo 75 s r nc)) (hw:El w W)=>SJ A Y4 k (Uo 75 s r nc) n 11 c d W hn NL (hk.B hw) hb hl U (hR.B hw);have TL:(Oz k (Uo 75 s r nc)).length=32:=by exact pK _ _
 have CL:=fun W=>Sk 75 s r nc hc hb U W;generalize Oz k (Uo 75 s r nc)=ans at*;generalize Uo 75 s r nc=nb at*;replace CT:=J CT;replace CL:=J CL;replace TL:=J TL;clear hn hk hR NL hc hb;go_enter Tryz.func169,Tryz.ntmps169;go_wp2_with (with_reducible refine wA fy (Ex.mk ?_));apply Es;have K7:=J<|(H.new w (Em nc) 115).alloc (Eb (Em (Ev 32)) 41);have K8:=J<|H.new' (w.alloc (Eb (Em nc) 115)) (Em (Ev 32)) 41 (g:=w.heap.size+1) Ej;replace u:=J<|JY w (Eb (Em nc) 115) (Eb (Em (Ev 32)) 41);generalize (w.alloc (Eb (Em nc) 115)).alloc (Eb (Em (Ev 32)) 41)=w1 at*;go_wp2_with (with_reducible refine wL bu K7 ?_ (hn:=Hw));refine(CL.out _).mono ?_;rintro e w2 ⟨⟨A2,d2,rfl,r2⟩,b2⟩;replace K8:=J<|K8.out.B b2;replace u:=EV u b2;replace r2:=J r2;clear b2 CL K7;go_wp2_with fail;refine(CT.out _ _ _ r2.out u.out).mono ?_;rintro e w3 ⟨rfl,b3⟩;replace K8:=J<|K8.out.B b3;replace u:=EV u b3;clear b3 r2 CT;go_wp2_with (with_reducible refine wS (cs:=Em ans) UX K8 ?_ (ho:=XP) (hn:=Hx) (h1:=X6 _));refine ET (v:=Ea (Em ans)) (Jd UX O _ _ (w.heap.size+1) _ O (K8.out.setRow _) (by rw[Ob,TL.out])) O ⟨O,EY u.out U _⟩
def fD(key:List Int)(s:Int)(b:List Int):List Int:=(Oz key (nB s b)).take 8
theorem EZF(A:Option Ep)(n c m:Nat)(hm:m<=c)(W:M):(Instr.sliceAt 23 (G A n c) Z (D (E I (m:Int))) Z).run EZ W= .ok (G A m c) W:=by have h2:(m:Int)<=(c:Int):=U;have h0:(0:Int)<=(m:Int):=U;simp[go_sem,h2,h0]
theorem Sl(o:EP){a:E_}(x y:J5)(ho:o.op= .slice 23 x Z (D y) Z)(A:Option Ep)(n c m:Nat)(hx:a.eval x=G A n c)(hy:a.eval y=E I (m:Int))(hm:m<=c): (Ig a.eval o).run EZ w= .ok (.value (G A m c)) w:=by have h:=EZF A n c m hm w;unfold Ig;simp only[ho,kj,Option.map_none,hx,hy,OH,h,Oi,OM]
theorem Sm(key:List Int)(s:Int)(b:List Int):(fD key s b).length=8:=by unfold fD;rw[ar,pK];rfl
theorem EZG(key:List Int)(s:Int)(b:List Int): ∀x∈fD key s b,0<=x/\x<=255:=fun x hx=>BJ _ _ x (iI hx)
theorem X8(h:Own w c A cap xs)(hb:b<=c):Own w b A cap xs:=by
 obtain⟨⟨h1,h2⟩,h3⟩:=h;refine⟨⟨h1,?_⟩,h3⟩;rcases h2 with h2|⟨g,cap',cur,hv,hg,hh⟩;·exact .inl h2
 ·exact .inr ⟨g,cap',cur,hv,Ew hb hg,hh⟩
def Bj(s:Int)(b tg:List Int)(Y4:Option Ep)(m d g3 Y5:Nat)(i:Nat)(v:Y)(w:M):Prop:=match i with
 |0=>v=G (D ⟨g3,0,Z⟩) 32 32
 |1=> ∃g,v=G (D ⟨g,0,Z⟩) 1 1/\Row w (D ⟨g,0,Z⟩) [77]
 |2=>v=E I s
 |3=> ∃g,v=G (D ⟨g,0,Z⟩) 1 1/\Row w (D ⟨g,0,Z⟩) (be (s%256) 1)
 |4=>v=G Y4 m d
 |5=> ∃g cs,v=G (D ⟨g,0,Z⟩) 3 3/\H w g cs 23/\fz w cs [[77],be (s%256) 1,b]
 |6=> ∃A d',v=G A (2+m) d'/\Row w A (nB s b)
 |7=>v=Ea (Em tg)
 |_=> ∃g,v=V (D ⟨g,0,Z⟩)/\Y5<=g/\H w g (Em (Ev 8)) 115
theorem EZH(s:Int)(b tg:List Int)(Y4:Option Ep)(m d g3 Y5:Nat): ∀i v w w',i<9->Bj s b tg Y4 m d g3 Y5 i v w->J0 w w'->Bj s b tg Y4 m d g3 Y5 i v w':=by
 intro i v w w' hi h hb;unfold Bj at*;split at h;case h_2|h_4=>obtain⟨g,e,k⟩:=h;exact⟨g,e,k.B hb⟩
 case h_6=> exact Eq5
 case h_7=>obtain⟨g,d,e,k⟩:=h;exact⟨g,d,e,k.B hb⟩
 case h_9=>obtain⟨g,e,l,k⟩:=h;exact⟨g,e,l,k.B hb⟩
 all_goals exact h
theorem EZK(key b:List Int)(Y4:Option Ep)(m d:Nat)(s:Int)(w:M)(hl:key.length=32)(hkb: ∀x∈key,0<=x/\x<=255)(hm:b.length=m)(hr:Row w Y4 b)(hm2:m<=1000000)(hR:Ju w): Eg EZ 171 #[Ea (Em key),E I s,G Y4 m d] w fun e w'=>(∃A d',e=Ei (G A (m+8) d')/\Own w' w.heap.size A d' (b++fD key s b))/\El w w':=by
 have HL:=J hl;have pN:=J hkb;have HM:=J hm;have HR:=J hr;have RT:=J hR;have CT:=fun(g:Nat) (Y_:Option Ep) (e:Nat) (W:M) (hk:Row W (D ⟨g,0,Z⟩) key) (hb:Row W Y_ (nB s b)) (hW:Ju W)=>Hs (D ⟨g,0,Z⟩) Y_ key (nB s b) 32 (2+m) 32 e W hl (by rw[Sj,hm]) hk hb U U hW;have TL:=Sm key s b;have TB:=EZG key s b;have e0:(Oz key (nB s b)).take 8=fD key s b:=rfl;simp only[e0] at CT;generalize fD key s b=tg at*;replace CT:=J CT;replace TL:=J TL;replace TB:=J TB;clear hl hkb hm hr hR e0;go_enter Tryz.func171,Tryz.ntmps171;go_wp2_with fail;have K3:=J<|H.new w (Em key) 41;have u:=J<|Er w (Eb (Em key) 41);generalize w.alloc (Eb (Em key) 41)=w1 at*;have W1:=u.out.size;refine ZV ER Ef 9 Ef Ej EU (Bj s b tg Y4 m d w.heap.size w1.heap.size) (EZH _ _ _ _ _ _ _ _) ?_ ?_
 ·simp only[Xl,Is,Iq,EM,Ih,Ik,Ic,If,and_true];refine⟨?_,?_,?_,?_,?_,?_,?_,?_,?_⟩;all_goals intro v w' hb hd
  ·exact EnB
  ·exact Z9 (v:=G (D ⟨w'.heap.size,0,Z⟩) 1 1) (w':=w'.alloc (Eb #[E Ix 77] 5)) (Eh O) Ez (Er w' _) ⟨_,O,Hv (H.new w' _ _) U⟩
  ·exact EnB
  ·exact EoP
  ·exact EnB
  ·obtain⟨g1,d1,r1⟩: ∃g,v 1=G (D ⟨g,0,Z⟩) 1 1/\Row w' (D ⟨g,0,Z⟩) [77]:=hd.at 1 rfl;obtain⟨g3,d3,r3⟩: ∃g,v 3=G (D ⟨g,0,Z⟩) 1 1/\Row w' (D ⟨g,0,Z⟩) (be (s%256) 1):=hd.at 3 rfl;have d4:v 4=G Y4 m d:=hd.at 4 rfl;have b1:=Er w' (Eb #[G (D ⟨g1,0,Z⟩) 1 1,G (D ⟨g3,0,Z⟩) 1 1,G Y4 m d] 23);exact Z9 (v:=G (D ⟨w'.heap.size,0,Z⟩) 3 3) (w':=w'.alloc (Eb #[G (D ⟨g1,0,Z⟩) 1 1,G (D ⟨g3,0,Z⟩) 1 1,G Y4 m d] 23)) (Eh O) (by simp[go_sem,d1,d3,d4]) b1 ⟨_,_,O,H.new _ _ _,Si O (UU _ _) HM.out (r1.B b1) (r3.B b1) ((HR.out.B (bt u.out hb)).B b1)⟩
  ·obtain⟨g,cs,d5,k5,p5⟩: ∃g cs,v 5=G (D ⟨g,0,Z⟩) 3 3/\H w' g cs 23/\fz w' cs [[77],be (s%256) 1,b]:=hd.at 5 rfl;refine J4 (f:=172) (args:= #[v 5]) (Eh O) Ez ?_;rw[d5];have hln:[[77],be (s%256) 1,b].flatten.length=2+m:=by rw[<-HM.out];exact Sj s b
   refine(vd g 3 3 cs _ w' O k5 p5 (by rw[hln];omega) U).mono fun e w'' ⟨⟨A,d,he,o⟩,hb'⟩=>⟨_,he,hb',A,d,by rw[hln],o.row⟩
  ·have d0:v 0=G (D ⟨w.heap.size,0,Z⟩) 32 32:=hd.at 0 rfl;obtain⟨A,d',d6,r6⟩: ∃A d',v 6=G A (2+m) d'/\Row w' A (nB s b):=hd.at 6 rfl;refine J4 (f:=210) (args:= #[v 0,v 6]) (Eh O) Ez ?_;rw[d0,d6];exact(CT.out w.heap.size A d' w' (iZ (K3.out.B hb) pN.out) r6 (RT.out.B (bt u.out hb))).mono fun e w'' ⟨he,hb'⟩=>⟨_,he,hb',O⟩
  ·exact Z9 (Eh O) (sP _ _ _ O) (Er w' _) ⟨_,O,XE hb,H.new _ _ _⟩
 ·intro v w' hb hr;obtain⟨g7,d8,hg7,K7⟩: ∃g,v 8=V (D ⟨g,0,Z⟩)/\w1.heap.size<=g/\H w' g (Em (Ev 8)) 115:=hr 8 U;have d7:v 7=Ea (Em tg):=hr 7 U;simp only[Is,Iq,IT,IM,EM,Ih,Ik,Ic,If];rw[d8,d7];replace u:=EV u hb;replace K7:=J K7;clear hr hb d8 d7 K3 CT;go_wp2_with (with_reducible refine wS (cs:=Em tg) bu K7 (Ex.mk ?_) (ho:=XP) (hn:=Hx) (h1:=X6 _));apply Es;replace K7:=J<|K7.out.setRow (Em tg);replace u:=J<|EY (g:=g7) u.out U (Em tg);generalize w'.setRow g7 (Em tg)=w2 at*;go_wp2_with (go_at_call 172;refine Ex.mk ?_);apply Es;have rb:=HR.out.B u.out;have rt:=iZ K7.out TB.out;have b1:=Er w2 (Eb #[G Y4 m d,G (D ⟨g7,0,Z⟩) 8 8] 23);have hln:[b,tg].flatten=b++tg:=Ej;have Hy:(b++tg).length=m+8:=by rw[IY,HM.out,TL.out]
  have CJ:=vd w2.heap.size 2 2 #[G Y4 m d,G (D ⟨g7,0,Z⟩) 8 8] [b,tg] (w2.alloc (Eb #[G Y4 m d,G (D ⟨g7,0,Z⟩) 8 8] 23)) O (H.new _ _ _) (RH HM.out TL.out (rb.B b1) (rt.B b1)) (by rw[hln,Hy];omega) U;rw[hln,Hy] at CJ;replace u:=EV u b1;replace CJ:=J CJ;clear rb rt b1 hln Hy K7;have l2:=u.out.size;refine CJ.out.mono ?_;rintro e w3 ⟨⟨A3,d3,rfl,o3⟩,b3⟩;replace u:=EV u b3;replace o3:=J<|X8 o3 (show w.heap.size<=_ from U);clear b3 CJ;go_wp2;go_ret;exact⟨⟨_,_,O,o3.out⟩,u.out⟩
theorem EZL(key:List Int)(A:Option Ep)(n c:Nat)(s:Int)(w:M)(hn:n<8): Eg EZ 125 #[Ea (Em key),E I s,G A n c] w fun e w'=>e=Ei (Eu #[G Z 0 0,E I 14])/\El w w':=by have t1:decide ((n:Int)-8<0)=EJ:=IJ U;go_enter Tryz.func125,Tryz.ntmps125;go_wp2_with fail;have u:=J<|Er w (Eb (Em key) 41);generalize w.alloc (Eb (Em key) 41)=w1 at*;go_quiet (fail);go_wp2;go_ret2;exact⟨O,jk u.out _⟩
def Bk(key:List Int)(s:Int)(tg:List Int)(same:Bool)(A:Option Ep)(m c:Nat)(bd:List Int)(i:Nat)(v:Y)(w:M):Prop:=match i with
 |0=>v=E I (m:Int)
 |1=>v=Ec EI
 |2=>v=Ec EI
 |3=>v=G A (m+8) c
 |4=>v=Ea (Em key)
 |5=>v=E I s
 |6=>v=G A (m+8) c
 |7=>v=E I (m:Int)
 |8=>v=G A m c
 |9=> ∃A' d',v=G A' (m+8) d'/\Row w A' (bd++tg)
 |10=>v=Ec same
 |_=>v=Ec (!same)
theorem EZM(key:List Int)(s:Int)(tg:List Int)(same:Bool)(A:Option Ep)(m c:Nat)(bd:List Int): ∀i v w w',i<13->Bk key s tg same A m c bd i v w->J0 w w'->Bk key s tg same A m c bd i v w':=by
 intro i v w w' hi h hb;unfold Bk at*;split at h;case h_10=>obtain⟨g,d,e,k⟩:=h;exact⟨g,d,e,k.B hb⟩
 all_goals exact h
def EZN(b:Bool)(p q:Prop):Prop:=match b with
 |true=>p
 |false=>q
theorem Sn(tb:Bool)(key xs:List Int)(A:Option Ep)(m c:Nat)(s:Int)(w:M)(hl:key.length=32)(hkb: ∀x∈key,0<=x/\x<=255)(hm:xs.length=m+8)(hr:Row w A xs)(hm2:m<=1000000)(hc:m+8<=c)(hR:Ju w)(hx:tb=EJ↔xs=xs.take m++fD key s (xs.take m)): Eg EZ 125 #[Ea (Em key),E I s,G A (m+8) c] w fun e w'=>EZN tb ((∃A' d',e=Ei (Eu #[G A' m d',E I 0])/\Own w' w.heap.size A' d' (xs.take m))/\El w w') (e=Ei (Eu #[G Z 0 0,E I 14])/\El w w'):=by
 have HL:=J hl;have pN:=J hkb;have HM:=J hm;have HR:=J hr;have RT:=J hR;have BL:(xs.take m).length=m:=mR;have RB:=fun(W:M) (hb:El w W)=>r_ (hr.B hb) m;have TL:=Sm key s (xs.take m);have CC:=fun(W:M) (hb:El w W)=>EZK key (xs.take m) A m c s W hl hkb BL (RB W hb) hm2 (hR.B hb)
 have SM:decide (xs=xs.take m++fD key s (xs.take m))=tb:=by
  cases tb with
  |true=>exact IJ (hx.1 rfl)
  |false=>exact IZ (fun h=>by cases hx.2 h)
 clear hx;generalize fD key s (xs.take m)=tg at*;generalize xs.take m=bd at*;have Hz:(bd++tg).length=m+8:=by rw[IY,BL,TL]
 replace CC:=J CC;replace BL:=J BL;replace TL:=J TL;replace Hz:=J Hz;replace RB:=J RB;replace SM:=J SM;clear hl hkb hm hr hR;have i0:IntKind.i64.wrap (m:Int)=m:=IntWalk.i64_in _ U;have t0:decide ((m:Int)<0)=EI:=IZ U;go_enter Tryz.func125,Tryz.ntmps125;go_wp2_with fail;have K3:=J<|H.new w (Em key) 41;have u:=J<|Er w (Eb (Em key) 41);generalize w.alloc (Eb (Em key) 41)=w1 at*;refine ZV ER Ef 13 Ef Ej EU (Bk key s tg tb A m c bd) (EZM _ _ _ _ _ _ _ _) ?_ ?_
 ·simp only[Xl,Is,Iq,EM,Ih,Ik,Ic,If,and_true];refine⟨?_,?_,?_,?_,?_,?_,?_,?_,?_,?_,?_,?_,?_⟩;all_goals intro v w' hb hd
  ·exact EnB
  ·have d0:v 0=E I (m:Int):=hd.at 0 rfl;exact IE ER (Eh O) (by simp[go_sem,d0,t0]) O
  ·have d1:v 1=Ec EI:=hd.at 1 rfl;exact IE ER (Eh O) XZ O
  ·exact Eoz
  ·have g2:v 2=Ec EI:=hd.at 2 rfl;exact zM ER (g:=w.heap.size) UX (fc O O (congrArg D g2)) ⟨O,Ez⟩ (K3.out.B hb) (by rw[Ob,HL.out]) O
  ·exact Eoz
  ·exact Eoz
  ·exact Eoz
  ·have g2:v 2=Ec EI:=hd.at 2 rfl;have d6:v 6=G A (m+8) c:=hd.at 6 rfl;have d7:v 7=E I (m:Int):=hd.at 7 rfl;exact IE ER (fc O O (congrArg D g2)) (Sl _ (.tmp 18) (.tmp 19) O A (m+8) c m pP iw U) O
  ·have g2:v 2=Ec EI:=hd.at 2 rfl;have d4:v 4=Ea (Em key):=hd.at 4 rfl;have d5:v 5=E I s:=hd.at 5 rfl;have d8:v 8=G A m c:=hd.at 8 rfl;refine J4 (f:=171) (args:= #[v 4,v 5,v 8]) (fc O O (congrArg D g2)) Ez ?_;rw[d4,d5,d8];exact(CC.out w' (bt u.out hb)).mono fun e w'' ⟨⟨A',d',he,o⟩,hb'⟩=>⟨_,he,hb',A',d',O,o.row⟩
  ·have g2:v 2=Ec EI:=hd.at 2 rfl;have d3:v 3=G A (m+8) c:=hd.at 3 rfl;obtain⟨A',d',d9,r9⟩: ∃A' d',v 9=G A' (m+8) d'/\Row w' A' (bd++tg):=hd.at 9 rfl;refine J4 (f:=168) (args:= #[v 3,v 9]) (fc O O (congrArg D g2)) Ez ?_;rw[d3,d9];refine(R_ A A' xs (bd++tg) (m+8) (m+8) c d' w' HM.out Hz.out (HR.out.B (bt u.out hb)) r9 U U).mono fun e w'' ⟨he,hw⟩=>⟨_,he,by subst hw;exact IU _ _,?_⟩;rw[SM.out];rfl
  ·have g2:v 2=Ec EI:=hd.at 2 rfl;have d10:v 10=Ec tb:=hd.at 10 rfl;exact IE ER (fc O O (congrArg D g2)) fF O
  ·have d2:v 2=Ec EI:=hd.at 2 rfl;have d11:v 11=Ec (!tb):=hd.at 11 rfl;exact IE ER (Eh O) (by simp[go_sem,d2,d11]) O
 ·intro v w' hb hr;have d12:v 12=Ec (!tb):=hr 12 U;simp only[Is,Iq,IT,IM,EM,Ih,Ik,Ic,If];rw[d12];replace u:=EV u hb;clear hr hb d12 K3 CC;cases tb;·skip;go_wp2;go_ret2;exact⟨O,u.out⟩
  ·skip;go_wp2_with (first|((with_reducible refine Io 27 ?_);(with_reducible refine Jo (Eh rfl) (Sl _ (.tmp 25) (.tmp 26) rfl A (m+8) c m rfl rfl U) ?_))|(go_at_call 172;refine Ex.mk ?_));apply Es;have b1:=Er w' (Eb #[G A m c] 23);have hln:[bd].flatten=bd:=Ej;have CJ:=vd w'.heap.size 1 1 #[G A m c] [bd] (w'.alloc (Eb #[G A m c] 23)) O (H.new _ _ _) (EZw BL.out ((RB.out w' u.out).B b1)) (by rw[hln,BL.out];omega) U;rw[hln,BL.out] at CJ;have l1:=u.out.size;have l2:=b1.size;replace u:=EV u b1;replace CJ:=J CJ;clear b1 hln;refine CJ.out.mono ?_;rintro e w3 ⟨⟨A3,d3,rfl,o3⟩,b3⟩;replace u:=EV u b3;replace o3:=J<|X8 o3 (show w.heap.size<=_ from U);clear b3 CJ;go_wp2;go_ret2;exact⟨⟨_,_,O,o3.out⟩,u.out⟩
theorem EZP(key xs:List Int)(A:Option Ep)(m c:Nat)(s:Int)(w:M)(hl:key.length=32)(hkb: ∀x∈key,0<=x/\x<=255)(hm:xs.length=m+8)(hr:Row w A xs)(hm2:m<=1000000)(hc:m+8<=c)(hR:Ju w)(hx:xs≠xs.take m++fD key s (xs.take m)): Eg EZ 125 #[Ea (Em key),E I s,G A (m+8) c] w fun e w'=>e=Ei (Eu #[G Z 0 0,E I 14])/\El w w':=
 Sn EI key xs A m c s w hl hkb hm hr hm2 hc hR ⟨fun h=>UL,fun h=>absurd h hx⟩
theorem EZQ(key xs:List Int)(A:Option Ep)(m c:Nat)(s:Int)(w:M)(hl:key.length=32)(hkb: ∀x∈key,0<=x/\x<=255)(hm:xs.length=m+8)(hr:Row w A xs)(hm2:m<=1000000)(hc:m+8<=c)(hR:Ju w)(hx:xs=xs.take m++fD key s (xs.take m)): Eg EZ 125 #[Ea (Em key),E I s,G A (m+8) c] w fun e w'=>(∃A' d',e=Ei (Eu #[G A' m d',E I 0])/\Own w' w.heap.size A' d' (xs.take m))/\El w w':=
 Sn EJ key xs A m c s w hl hkb hm hr hm2 hc hR ⟨fun _=>hx,fun _=>rfl⟩
def Sets(w:M)(S:Nat)(gp:Y)(n:Int)(Q:M->M->Prop):Prop:=jp S/\ ∀W,El w W->Eg EZ S #[E I n,gp] W fun e w'=>e=Ei (Eu #[])/\Q W w'
theorem Sets.call{S:Nat}{gp:Y}{n:Int}{Q:M->M->Prop}(h:Sets w S gp n Q)(W:M)(hW:El w W):Eg EZ S #[E I n,gp] W fun e w'=>e=Ei (Eu #[])/\Q W w':=h.2 W hW
theorem EZR(sz lo hi:Int)(Y5 S:Nat)(gp:Y)(xs:List Int)(Y4:Option Ep)(c:Nat)(v:Int)(Q:M->M->Prop)(w:M)(hr:Row w Y4 xs)(hl:xs.length=2)(hv:sig xs=v)(hn:lo<0)(h1:lo<=v)(h2:v<=hi)(hs:Sets w S gp v Q): Eg EZ 209 #[Ea #[E I sz,E I lo,E I hi,.func (.func Y5) #[] #[gp],.func (.func S) #[] #[gp]],G Y4 2 c] w fun e w'=>e=Ei (Ec EJ)/\ ∃W,El w W/\Q W w':=by have HS:=J hs;have HE: ∀(args:Array Y) (w:M),(Jm S args).run EZ w= .ok (.enter S args) w:=hs.1;clear hs;have HL:=J hl;have HV:=J hv;have hd0:decide (lo<0)=EJ:=IJ hn;have hd1:decide (v<lo)=EI:=IZ U;have hd2:decide (hi<v)=EI:=IZ U;have CT:=J<|fun W (h:Row W Y4 xs)=>EUc Y4 xs c W h hl;rw[hv] at CT;clear hl hv;exact EnC
theorem EZS(sz lo hi:Int)(Y5 S:Nat)(gp:Y)(xs:List Int)(Y4:Option Ep)(k c:Nat)(v:Int)(Q:M->M->Prop)(w:M)(hr:Row w Y4 xs)(hl:xs.length=k)(hk:k<=8)(hv:num xs=v)(hn:0<=lo)(h1:lo<=v)(h2:v<=hi)(h63:hi<=9223372036854775807)(hs:Sets w S gp v Q): Eg EZ 209 #[Ea #[E I sz,E I lo,E I hi,.func (.func Y5) #[] #[gp],.func (.func S) #[] #[gp]],G Y4 k c] w fun e w'=>e=Ei (Ec EJ)/\ ∃W,El w W/\Q W w':=by have HS:=J hs;have HE: ∀(args:Array Y) (w:M),(Jm S args).run EZ w= .ok (.enter S args) w:=hs.1;clear hs;have HL:=J hl;have hd0:decide (lo<0)=EI:=IZ U;have CT:=J<|fun W (h:Row W Y4 xs)=>G4 (w:=W) k c hl h hk;rw[hv] at CT;clear hl hv;have hd1:decide (v<lo)=EI:=IZ U;have hd2:decide (hi<v)=EI:=IZ U;have v0:0<=v:=U;have v9:v<=9223372036854775807:=U;exact EnC
theorem EZT(sz lo hi:Int)(Y5 S:Nat)(gp:Y)(xs:List Int)(Y4:Option Ep)(k c:Nat)(v:Int)(w:M)(hr:Row w Y4 xs)(hl:xs.length=k)(hk:k<=8)(hv:num xs=v)(hn:0<=lo)(v0:0<=v)(v9:v<=9223372036854775807)(h1:v<lo): Eg EZ 209 #[Ea #[E I sz,E I lo,E I hi,.func (.func Y5) #[] #[gp],.func (.func S) #[] #[gp]],G Y4 k c] w fun e w'=>e=Ei (Ec EI)/\El w w':=by have HL:=J hl;have hd0:decide (lo<0)=EI:=IZ U;have CT:=J<|fun W (h:Row W Y4 xs)=>G4 (w:=W) k c hl h hk;rw[hv] at CT;clear hl hv;have hd1:decide (v<lo)=EJ:=IJ h1;exact EnV
theorem EZV(sz lo hi:Int)(Y5 S:Nat)(gp:Y)(xs:List Int)(Y4:Option Ep)(k c:Nat)(v:Int)(w:M)(hr:Row w Y4 xs)(hl:xs.length=k)(hk:k<=8)(hv:num xs=v)(hn:0<=lo)(v0:0<=v)(v9:v<=9223372036854775807)(h1:lo<=v)(h2:hi<v): Eg EZ 209 #[Ea #[E I sz,E I lo,E I hi,.func (.func Y5) #[] #[gp],.func (.func S) #[] #[gp]],G Y4 k c] w fun e w'=>e=Ei (Ec EI)/\El w w':=by have HL:=J hl;have hd0:decide (lo<0)=EI:=IZ U;have CT:=J<|fun W (h:Row W Y4 xs)=>G4 (w:=W) k c hl h hk;rw[hv] at CT;clear hl hv;have hd1:decide (v<lo)=EI:=IZ U;have hd2:decide (hi<v)=EJ:=IJ h2;exact EnV
theorem EZW(gm o:Nat)(w:M): Eg EZ 204 #[V (D ⟨gm,o,Z⟩)] w fun e w'=> ∃v,e=Ei v/\FV w' w.heap.size gm ⟨1,1,0,1,o⟩ v/\El w w':=by have BF:Tryz.prog.built 298 [(0,E I 1),(2,E I 1),(3,.func (.func 234) #[] #[V (D ⟨w.heap.size,0,Z⟩)]),(4,.func (.func 235) #[] #[V (D ⟨w.heap.size,0,Z⟩)])]=D (IG ⟨1,1,0,1,o⟩ w.heap.size):=G7 ⟨1,1,0,1,o⟩ w.heap.size O;have O1:=J<|im ⟨1,1,0,1,o⟩ w.heap.size;have O0:Ed ((IG ⟨1,1,0,1,o⟩ w.heap.size).size=5):=J O;generalize Ul:IG ⟨1,1,0,1,o⟩ w.heap.size=fv at*;replace BF:=J BF;have HB:Ed (∀W:M,H W w.heap.size #[V (D ⟨gm,o,Z⟩)] 302->FV W w.heap.size gm ⟨1,1,0,1,o⟩ (Ea fv)):=J fun W h=>⟨w.heap.size,by rw[Ul],E3 _,h⟩;clear Ul;go_enter Tryz.func204,Tryz.ntmps204;go_wp2_with (with_reducible refine wA gu (Ex.mk ?_));apply Es;have K4:=J<|(H.new w #[V (D ⟨gm,o,Z⟩)] 302).alloc (Eb JA 298);have K8:=J<|H.new' (w.alloc (Eb #[V (D ⟨gm,o,Z⟩)] 302)) JA 298 (g:=w.heap.size+1) Ej;have u:=J<|JY w (Eb #[V (D ⟨gm,o,Z⟩)] 302) (Eb JA 298);generalize (w.alloc (Eb #[V (D ⟨gm,o,Z⟩)] 302)).alloc (Eb JA 298)=w1 at*;exact EnF
theorem H_(gm o:Nat)(w:M): Eg EZ 202 #[V (D ⟨gm,o,Z⟩)] w fun e w'=> ∃v,e=Ei v/\FV w' w.heap.size gm ⟨0,1,0,3,o⟩ v/\El w w':=by have CN: ∀W:M,Eg EZ 207 #[V (D ⟨gm,o,Z⟩),E I 1,E I 0,E I 3] W fun e w'=> ∃v,e=Ei v/\FV w' W.heap.size gm ⟨0,1,0,3,o⟩ v/\El W w':=fun W=>pu ⟨0,1,0,3,o⟩ O gm W;generalize hd:(⟨0,1,0,3,o⟩:FD)=d at*;replace CN:=J CN;clear hd;go_enter Tryz.func202,Tryz.ntmps202;exact Enj
theorem iy(gm o:Nat)(w:M): Eg EZ 203 #[V (D ⟨gm,o,Z⟩)] w fun e w'=> ∃v,e=Ei v/\FV w' w.heap.size gm ⟨0,4,0,4294967295,o⟩ v/\El w w':=by have CN: ∀W:M,Eg EZ 207 #[V (D ⟨gm,o,Z⟩),E I 4,E I 0,E I 4294967295] W fun e w'=> ∃v,e=Ei v/\FV w' W.heap.size gm ⟨0,4,0,4294967295,o⟩ v/\El W w':=fun W=>pu ⟨0,4,0,4294967295,o⟩ O gm W;generalize hd:(⟨0,4,0,4294967295,o⟩:FD)=d at*;replace CN:=J CN;clear hd;go_enter Tryz.func203,Tryz.ntmps203;exact Enj
theorem vf(gm o:Nat)(w:M): Eg EZ 205 #[V (D ⟨gm,o,Z⟩)] w fun e w'=> ∃v,e=Ei v/\FV w' w.heap.size gm ⟨0,1,0,4,o⟩ v/\El w w':=by have CN: ∀W:M,Eg EZ 207 #[V (D ⟨gm,o,Z⟩),E I 1,E I 0,E I 4] W fun e w'=> ∃v,e=Ei v/\FV w' W.heap.size gm ⟨0,1,0,4,o⟩ v/\El W w':=fun W=>pu ⟨0,1,0,4,o⟩ O gm W;generalize hd:(⟨0,1,0,4,o⟩:FD)=d at*;replace CN:=J CN;clear hd;go_enter Tryz.func205,Tryz.ntmps205;exact Enj
theorem pQ(gm o:Nat)(w:M): Eg EZ 206 #[V (D ⟨gm,o,Z⟩)] w fun e w'=> ∃v,e=Ei v/\FV w' w.heap.size gm ⟨0,2,0,65535,o⟩ v/\El w w':=by have CN: ∀W:M,Eg EZ 207 #[V (D ⟨gm,o,Z⟩),E I 2,E I 0,E I 65535] W fun e w'=> ∃v,e=Ei v/\FV w' W.heap.size gm ⟨0,2,0,65535,o⟩ v/\El W w':=fun W=>pu ⟨0,2,0,65535,o⟩ O gm W;generalize hd:(⟨0,2,0,65535,o⟩:FD)=d at*;replace CN:=J CN;clear hd;go_enter Tryz.func206,Tryz.ntmps206;exact Enj
theorem Bl(gm o:Nat)(w:M): Eg EZ 208 #[V (D ⟨gm,o,Z⟩)] w fun e w'=> ∃v,e=Ei v/\FV w' w.heap.size gm ⟨0,2,(-32768),32767,o⟩ v/\El w w':=by have CN: ∀W:M,Eg EZ 207 #[V (D ⟨gm,o,Z⟩),E I 2,E I (-32768),E I 32767] W fun e w'=> ∃v,e=Ei v/\FV w' W.heap.size gm ⟨0,2,(-32768),32767,o⟩ v/\El W w':=fun W=>pu ⟨0,2,(-32768),32767,o⟩ O gm W;generalize hd:(⟨0,2,(-32768),32767,o⟩:FD)=d at*;replace CN:=J CN;clear hd;go_enter Tryz.func208,Tryz.ntmps208;exact Enj
def E5:List (FD×Nat)->List Y
 |[]=>[]
 |p::ps=>(IG p.1 p.2).toList++E5 ps
theorem vg(fs:List (FD×Nat)):(E5 fs).length=fs.length*5:=by
 induction fs with
 |nil=>rfl
 |cons r rs ih=>rw[E5,IY,ih,Zn];show 5+_=_;omega
theorem So(xs ys:List (FD×Nat)):E5 (xs++ys)=E5 xs++E5 ys:=by
 induction xs with
 |nil=>rfl
 |cons r rs ih=>rw[ku,E5,ih,E5,U7]
theorem Sp: ∀(rs:List (FD×Nat)) (i:Nat) (hi:i<rs.length) (k:Nat),k<5->(E5 rs)[i*5+k]?=(IG rs[i].1 rs[i].2)[k]?
 |r::rs,0,_,k,hk=>by rw[E5,Nat.zero_mul,Ox,Z_ (by show _<5;exact hk),Array.getElem?_toList];rfl
 |r::rs,i+1,hi,k,hk=>by rw[E5,aE (by show 5<=_;omega),show(IG r.1 r.2).toList.length=5 from rfl,show(i+1)*5+k-5=i*5+k from U,Sp rs i U5 k hk];rfl
theorem Sq(fs:List (FD×Nat)): ∀Y3∈E5 fs,Y3.oneCell'=EJ:=by
 induction fs with
 |nil=>intro Y3 hu;cases hu
 |cons r rs ih=>
  intro Y3 hu;rcases Xp.1 hu with h|h;·simp only[IG,UJ,Um,or_false] at h;rcases h with rfl|rfl|rfl|rfl|rfl<;>rfl
  ·exact ih Y3 h
def JB(w:M)(base gm:Nat)(fs:List (FD×Nat)):Prop:= ∀i (h:i<fs.length),base<=fs[i].2/\Za w fs[i].1 gm fs[i].2
theorem JB.B(h:JB w base gm fs)(hb:El w w'):JB w' base gm fs:=fun i hi=>⟨(h i hi).1,(h i hi).2.B hb⟩
def Xr(w:M)(base gl gm:Nat)(fs:List (FD×Nat)):Prop:=base<=gl/\(∀j Y3,(E5 fs)[j]?=D Y3->w.cell? ⟨gl,j,Z⟩=D Y3)/\JB w base gm fs
theorem Xr.B(h:Xr w base gl gm fs)(hb:El w w'):Xr w' base gl gm fs:=
 ⟨h.1,fun j Y3 hu=>by rw[hb.cell (Xv _ _ (h.2.1 j Y3 hu))];exact h.2.1 j Y3 hu,h.2.2.B hb⟩
theorem Xr.keep(h:Xr w base gl gm fs)(hg:gm<base)(hk: ∀k,k≠gm->w'.heap[k]?=w.heap[k]?):Xr w' base gl gm fs:=
 ⟨h.1,fun j Y3 hu=>by rw[World.cell?_of_block (w:=w) (hk gl (by have:=h.1;omega))];exact h.2.1 j Y3 hu,fun i hi=>⟨(h.2.2 i hi).1,(hk _ (by have:=(h.2.2 i hi).1;omega)).trans (h.2.2 i hi).2⟩⟩
theorem Xr.cells(h:Xr w base gl gm fs)(i:Nat)(hi:i<fs.length)(j:Nat)(hj:j<5):w.cell? ⟨gl,i*5+j,Z⟩=(IG fs[i].1 fs[i].2)[j]?:=by have h1:=Sp fs i hi j hj;have h2:(IG fs[i].1 fs[i].2)[j]?=D ((IG fs[i].1 fs[i].2)[j]'(by show _<5;exact hj)):=kA _;rw[h2];exact h.2.1 _ _ (h1.trans h2)
theorem aA(hk:H w gl (E5 fs).toArray T)(hb:JB w base gm fs)(hg:base<=gl):Xr w base gl gm fs:=
 ⟨hg,fun j Y3 hu=>by rw[hk.cell j,J2];exact hu,hb⟩
def Xa:FD:=⟨0,1,0,3,2⟩
def Ii:FD:=⟨0,4,0,4294967295,1⟩
def dB:FD:=⟨1,1,0,1,7⟩
def Jj:FD:=⟨0,1,0,4,3⟩
def IS:FD:=⟨0,2,0,65535,4⟩
def cM:FD:=⟨0,1,0,4,5⟩
def dC:FD:=⟨0,1,1,3,6⟩
def JG(i:Nat):FD:=⟨0,2,-32768,32767,8+i⟩
def aB(k:Int):Option (List FD):=
 if k=1\/k=2 then D [Xa] else if k=3\/k=4\/k=8\/k=9 then D [Ii] else if k=5 then D [Ii,dB] else if k=6 then D [Ii,Jj]
 else if k=7 then D [Ii,IS] else if k=10 then D [Ii,IS,cM] else if k=11 then D [Ii,IS,dC,JG 0,JG 1,JG 2,JG 3] else Z
def Zc(w:M)(gm:Nat)(ds:List FD)(e:Ud)(w':M):Prop:=
 ∃(gl cp:Nat) (fs:List (FD×Nat)),e=Ei (Eu #[G (D ⟨gl,0,Z⟩) ds.length cp,Ec EJ])/\fs.map (·.1)=ds/\Xr w' w.heap.size gl gm fs/\El w w'
theorem EZY(gm:Nat)(l:List Int)(w:M)(hm:H w gm (EF l) 183)(hk:l.getD 0 0=1): Eg EZ 160 #[V (D ⟨gm,0,Z⟩)] w (Zc w gm [Xa]):=by exact EnK
theorem EZ0(gm:Nat)(l:List Int)(w:M)(hm:H w gm (EF l) 183)(hk:l.getD 0 0=2): Eg EZ 160 #[V (D ⟨gm,0,Z⟩)] w (Zc w gm [Xa]):=by exact EnK
theorem EZ1(gm:Nat)(l:List Int)(w:M)(hm:H w gm (EF l) 183)(hk:l.getD 0 0=3): Eg EZ 160 #[V (D ⟨gm,0,Z⟩)] w (Zc w gm [Ii]):=by exact Erm
theorem EZ2(gm:Nat)(l:List Int)(w:M)(hm:H w gm (EF l) 183)(hk:l.getD 0 0=4): Eg EZ 160 #[V (D ⟨gm,0,Z⟩)] w (Zc w gm [Ii]):=by exact Erm
theorem EZ3(gm:Nat)(l:List Int)(w:M)(hm:H w gm (EF l) 183)(hk:l.getD 0 0=8): Eg EZ 160 #[V (D ⟨gm,0,Z⟩)] w (Zc w gm [Ii]):=by exact Erm
theorem EZ4(gm:Nat)(l:List Int)(w:M)(hm:H w gm (EF l) 183)(hk:l.getD 0 0=9): Eg EZ 160 #[V (D ⟨gm,0,Z⟩)] w (Zc w gm [Ii]):=by exact Erm
theorem Bm(d:FD):d.box≠298:=by
 unfold FD.box;repeat' split
 all_goals decide
theorem Sr:(Tryz.prog.info? 298).map (fun i=>(i.zero,i.size,i.bytes))=D (D (Ea JA),5,40):=Ef
theorem Ka(g j:Nat):(⟨g,0,Z⟩:Ep).add j=⟨g,j,Z⟩:=U3
def nC(w:M)(base gl gm cap:Nat)(fs:List (FD×Nat)):Prop:=base<=gl/\w.ownsRow base 298 5 (G (D ⟨gl,0,Z⟩) fs.length cap) fs.length (E5 fs)/\JB w base gm fs
theorem nC.Kb(h:nC w base gl gm cap fs):Xr w base gl gm fs:=
 ⟨h.1,fun j Y3 hu=>by have:=h.2.1.cells (g:=gl) O j Y3 hu;rwa [Ka] at this,h.2.2⟩
theorem nC.B(h:nC w base gl gm cap fs)(hb:El w w'):nC w' base gl gm cap fs:=
 ⟨h.1,kP (uW (b0:=0) (T:=298) (N:=0) (ys:=[]) hb) h.2.1 fun j _ hj hlt=>absurd hj Ss,h.2.2.B hb⟩
theorem EZ5{n:Nat}(hk:H w gl (E5 fs).toArray 298)(hb:JB w base gm fs)(hg:base<=gl)(hn:n=fs.length)(hs:n<=1000):nC w base gl gm n fs:=
 ⟨hg,⟨vg fs,.inr ⟨gl,n,_,O,hg,hk,U,J8,by rw[List.size_toArray,vg,hn],by rw[List.toList_toArray,OP (by rw[vg];omega)]⟩⟩,hb⟩
theorem Bn(w:M)(base gl gm cap:Nat)(fs:List (FD×Nat))(n:Nat)(hn:fs.length=n)(h:nC w base gl gm cap fs)(d:FD)(gb g1 c1:Nat)(hgb:base<=gb)(hbx:Za w d gm gb)(hk:H w g1 (E5 [(d,gb)]).toArray 298)(hs:n<=1000)(hbase:base<=w.heap.size)(ty:EB): ∃Su cap' w',(ZX #[254,254] ty #[G (D ⟨gl,0,Z⟩) n cap,G (D ⟨g1,0,Z⟩) 1 c1]).run EZ w= .ok (G (D ⟨Su,0,Z⟩) (n+1) cap') w'/\nC w' base Su gm cap' (fs++[(d,gb)])/\Ij base w w':=by
 subst hn;obtain⟨i0,hi,hz0,hz1,hz2⟩:=au Sr
 obtain⟨A',cap',w',hrun,h2,h3,h4,-⟩:=aw (P:=EZ) w base base 254 ty 298 i0 _ 5 40 Tryz.underlying254 hi hz0 hz1 hz2 O (D ⟨gl,0,Z⟩) cap fs.length _ h.2.1 ⟨g1,0,Z⟩ 1 c1 (E5 [(d,gb)]) (vg _)
  (fun j Y3 hu=>Sv) (Sq _) (fun h=>UL) J8 U hbase (E3 _)
 rw[<-So] at h2;rcases h2.2 with⟨hv,h1⟩|⟨g,cp,cur,hv,hbg,-⟩;·omega
 ·injection hv with e1 e2 e3;subst e1;refine⟨g,cap',w',hrun,⟨hbg,Sw,fun i hi=> ?_⟩,h3.2.1 hbase⟩;rcases JW i fs.length with hlt|hge;·rw[List.getElem_append_left hlt];exact⟨(h.2.2 i hlt).1,Uw h3 (h.2.2 i hlt).2 (Bm _)⟩
  ·exact Eo6
def Bo(base gm:Nat)(i:Nat)(v:Y)(w:M):Prop:=match i with
 |0=>v=V (D ⟨gm,0,Z⟩)
 |1=>v=V (D ⟨gm,0,Z⟩)
 |2=>v=V (D ⟨gm,1,Z⟩)
 |3=>FV w base gm Ii v
 |4=>v=V (D ⟨gm,0,Z⟩)
 |5=>v=V (D ⟨gm,0,Z⟩)
 |6=>v=V (D ⟨gm,7,Z⟩)
 |7=>FV w base gm dB v
 |8=> ∃(gl:Nat) (fs:List (FD×Nat)),v=G (D ⟨gl,0,Z⟩) 2 2/\fs.map (·.1)=[Ii,dB]/\base<=gl/\JB w base gm fs/\H w gl (E5 fs).toArray 298
 |9=> ∃(gl:Nat) (fs:List (FD×Nat)),v=G (D ⟨gl,0,Z⟩) 2 2/\fs.map (·.1)=[Ii,dB]/\base<=gl/\JB w base gm fs/\H w gl (E5 fs).toArray 298
 |_=>v=Ec EJ
theorem EZ6(base gm:Nat): ∀i v w w',i<11->Bo base gm i v w->J0 w w'->Bo base gm i v w':=by
 intro i v w w' hi h hb;unfold Bo at*;split at h;case h_4|h_8=>exact h.B hb
 case h_9|h_10=> exact EnH
 all_goals exact h
theorem EZ7(gm:Nat)(l:List Int)(w:M)(hm:H w gm (EF l) 183)(hk:l.getD 0 0=5): Eg EZ 160 #[V (D ⟨gm,0,Z⟩)] w (Zc w gm [Ii,dB]):=by
 have c0:=hm.cell 0;rw[Zq _ _ U,if_neg U,hk] at c0;have u:=J<|IU w.heap.size w;clear hm hk;go_enter iz,iA;go_wp2_with fail;clear c0;refine ZV ER Ef 11 Ef Ej EU (Bo w.heap.size gm) (EZ6 _ _) ?_ ?_
 ·simp only[Xl,Is,Iq,EM,Ih,Ik,Ic,If,and_true];refine⟨?_,?_,?_,?_,?_,?_,?_,?_,?_,?_,?_⟩;all_goals intro v w' hb hd
  ·exact EnB
  ·exact EnT
  ·exact EnS
  ·exact Ent
  ·exact EnB
  ·exact EnR
  ·exact EnQ
  ·have d6:v 6=V (D ⟨gm,7,Z⟩):=hd.at 6 rfl;refine J4 (f:=204) (args:= #[v 6]) (Eh O) Ez ?_;rw[d6];exact(EZW gm 7 w').mono fun e w'' ⟨v,he,⟨gb,e2,lb,kb⟩,hb'⟩=>⟨v,he,hb',gb,e2,Ew (Ew u.out.size hb.size) lb,kb⟩
  ·obtain⟨g0,d3,l0,k0⟩:FV w' w.heap.size gm Ii (v 3):=hd.at 3 rfl;obtain⟨g1,d7,l1,k1⟩:FV w' w.heap.size gm dB (v 7):=hd.at 7 rfl;refine Z9 (w':=w'.alloc (Eb (E5 [(Ii,g0),(dB,g1)]).toArray 298)) (v:=G (D ⟨w'.heap.size,0,Z⟩) 2 2) (Eh O) pR (Er w' _) ⟨w'.heap.size,[(Ii,g0),(dB,g1)],O,O,Ew u.out.size hb.size,fun i hi=> ?_,H.new _ _ _⟩;match i,hi with
   |0,_=>exact⟨l0,H.alloc k0 _⟩
   |1,_=>exact⟨l1,H.alloc k1 _⟩
  ·obtain⟨gl,fs,e,m,lg,bx,kk⟩: ∃(gl:Nat) (fs:List (FD×Nat)),v 8=G (D ⟨gl,0,Z⟩) 2 2/\fs.map (·.1)=[Ii,dB]/\w.heap.size<=gl/\JB w' w.heap.size gm fs/\H w' gl (E5 fs).toArray 298:=hd.at 8 rfl;exact En_
  ·exact EnB
 ·intro v w' hb hr;obtain⟨gl,fs,e,m,lg,bx,kk⟩: ∃(gl:Nat) (fs:List (FD×Nat)),v 9=G (D ⟨gl,0,Z⟩) 2 2/\fs.map (·.1)=[Ii,dB]/\w.heap.size<=gl/\JB w' w.heap.size gm fs/\H w' gl (E5 fs).toArray 298:=hr 9 U;exact Ers
def Bp(base gm:Nat)(i:Nat)(v:Y)(w:M):Prop:=match i with
 |0=>v=V (D ⟨gm,0,Z⟩)
 |1=>v=V (D ⟨gm,0,Z⟩)
 |2=>v=V (D ⟨gm,1,Z⟩)
 |3=>FV w base gm Ii v
 |4=>v=V (D ⟨gm,0,Z⟩)
 |5=>v=V (D ⟨gm,0,Z⟩)
 |6=>v=V (D ⟨gm,3,Z⟩)
 |7=>FV w base gm Jj v
 |8=> ∃(gl:Nat) (fs:List (FD×Nat)),v=G (D ⟨gl,0,Z⟩) 2 2/\fs.map (·.1)=[Ii,Jj]/\base<=gl/\JB w base gm fs/\H w gl (E5 fs).toArray 298
 |9=> ∃(gl:Nat) (fs:List (FD×Nat)),v=G (D ⟨gl,0,Z⟩) 2 2/\fs.map (·.1)=[Ii,Jj]/\base<=gl/\JB w base gm fs/\H w gl (E5 fs).toArray 298
 |_=>v=Ec EJ
theorem EZ8(base gm:Nat): ∀i v w w',i<11->Bp base gm i v w->J0 w w'->Bp base gm i v w':=by
 intro i v w w' hi h hb;unfold Bp at*;split at h;case h_4|h_8=>exact h.B hb
 case h_9|h_10=> exact EnH
 all_goals exact h
theorem EZ9(gm:Nat)(l:List Int)(w:M)(hm:H w gm (EF l) 183)(hk:l.getD 0 0=6): Eg EZ 160 #[V (D ⟨gm,0,Z⟩)] w (Zc w gm [Ii,Jj]):=by
 have c0:=hm.cell 0;rw[Zq _ _ U,if_neg U,hk] at c0;have u:=J<|IU w.heap.size w;clear hm hk;go_enter iz,iA;go_wp2_with fail;clear c0;refine ZV ER Ef 11 Ef Ej EU (Bp w.heap.size gm) (EZ8 _ _) ?_ ?_
 ·simp only[Xl,Is,Iq,EM,Ih,Ik,Ic,If,and_true];refine⟨?_,?_,?_,?_,?_,?_,?_,?_,?_,?_,?_⟩;all_goals intro v w' hb hd
  ·exact EnB
  ·exact EnT
  ·exact EnS
  ·exact Ent
  ·exact EnB
  ·exact EnR
  ·exact EnQ
  ·exact Ery
  ·obtain⟨g0,d3,l0,k0⟩:FV w' w.heap.size gm Ii (v 3):=hd.at 3 rfl;obtain⟨g1,d7,l1,k1⟩:FV w' w.heap.size gm Jj (v 7):=hd.at 7 rfl;refine Z9 (w':=w'.alloc (Eb (E5 [(Ii,g0),(Jj,g1)]).toArray 298)) (v:=G (D ⟨w'.heap.size,0,Z⟩) 2 2) (Eh O) pR (Er w' _) ⟨w'.heap.size,[(Ii,g0),(Jj,g1)],O,O,Ew u.out.size hb.size,fun i hi=> ?_,H.new _ _ _⟩;match i,hi with
   |0,_=>exact⟨l0,H.alloc k0 _⟩
   |1,_=>exact⟨l1,H.alloc k1 _⟩
  ·obtain⟨gl,fs,e,m,lg,bx,kk⟩: ∃(gl:Nat) (fs:List (FD×Nat)),v 8=G (D ⟨gl,0,Z⟩) 2 2/\fs.map (·.1)=[Ii,Jj]/\w.heap.size<=gl/\JB w' w.heap.size gm fs/\H w' gl (E5 fs).toArray 298:=hd.at 8 rfl;exact En_
  ·exact EnB
 ·intro v w' hb hr;obtain⟨gl,fs,e,m,lg,bx,kk⟩: ∃(gl:Nat) (fs:List (FD×Nat)),v 9=G (D ⟨gl,0,Z⟩) 2 2/\fs.map (·.1)=[Ii,Jj]/\w.heap.size<=gl/\JB w' w.heap.size gm fs/\H w' gl (E5 fs).toArray 298:=hr 9 U;exact Ers
def Bq(base gm:Nat)(i:Nat)(v:Y)(w:M):Prop:=match i with
 |0=>v=V (D ⟨gm,0,Z⟩)
 |1=>v=V (D ⟨gm,0,Z⟩)
 |2=>v=V (D ⟨gm,1,Z⟩)
 |3=>FV w base gm Ii v
 |4=>v=V (D ⟨gm,0,Z⟩)
 |5=>v=V (D ⟨gm,0,Z⟩)
 |6=>v=V (D ⟨gm,4,Z⟩)
 |7=>FV w base gm IS v
 |8=> ∃(gl:Nat) (fs:List (FD×Nat)),v=G (D ⟨gl,0,Z⟩) 2 2/\fs.map (·.1)=[Ii,IS]/\base<=gl/\JB w base gm fs/\H w gl (E5 fs).toArray 298
 |9=> ∃(gl:Nat) (fs:List (FD×Nat)),v=G (D ⟨gl,0,Z⟩) 2 2/\fs.map (·.1)=[Ii,IS]/\base<=gl/\JB w base gm fs/\H w gl (E5 fs).toArray 298
 |_=>v=Ec EJ
theorem EZ_(base gm:Nat): ∀i v w w',i<11->Bq base gm i v w->J0 w w'->Bq base gm i v w':=by
 intro i v w w' hi h hb;unfold Bq at*;split at h;case h_4|h_8=>exact h.B hb
 case h_9|h_10=> exact EnH
 all_goals exact h
theorem EaE(gm:Nat)(l:List Int)(w:M)(hm:H w gm (EF l) 183)(hk:l.getD 0 0=7): Eg EZ 160 #[V (D ⟨gm,0,Z⟩)] w (Zc w gm [Ii,IS]):=by
 have c0:=hm.cell 0;rw[Zq _ _ U,if_neg U,hk] at c0;have u:=J<|IU w.heap.size w;clear hm hk;go_enter iz,iA;go_wp2_with fail;clear c0;refine ZV ER Ef 11 Ef Ej EU (Bq w.heap.size gm) (EZ_ _ _) ?_ ?_
 ·simp only[Xl,Is,Iq,EM,Ih,Ik,Ic,If,and_true];refine⟨?_,?_,?_,?_,?_,?_,?_,?_,?_,?_,?_⟩;all_goals intro v w' hb hd
  ·exact EnB
  ·exact EnT
  ·exact EnS
  ·exact Ent
  ·exact EnB
  ·exact EnR
  ·exact EnQ
  ·exact Enw
  ·obtain⟨g0,d3,l0,k0⟩:FV w' w.heap.size gm Ii (v 3):=hd.at 3 rfl;obtain⟨g1,d7,l1,k1⟩:FV w' w.heap.size gm IS (v 7):=hd.at 7 rfl;refine Z9 (w':=w'.alloc (Eb (E5 [(Ii,g0),(IS,g1)]).toArray 298)) (v:=G (D ⟨w'.heap.size,0,Z⟩) 2 2) (Eh O) pR (Er w' _) ⟨w'.heap.size,[(Ii,g0),(IS,g1)],O,O,Ew u.out.size hb.size,fun i hi=> ?_,H.new _ _ _⟩;match i,hi with
   |0,_=>exact⟨l0,H.alloc k0 _⟩
   |1,_=>exact⟨l1,H.alloc k1 _⟩
  ·obtain⟨gl,fs,e,m,lg,bx,kk⟩: ∃(gl:Nat) (fs:List (FD×Nat)),v 8=G (D ⟨gl,0,Z⟩) 2 2/\fs.map (·.1)=[Ii,IS]/\w.heap.size<=gl/\JB w' w.heap.size gm fs/\H w' gl (E5 fs).toArray 298:=hd.at 8 rfl;exact En_
  ·exact EnB
 ·intro v w' hb hr;obtain⟨gl,fs,e,m,lg,bx,kk⟩: ∃(gl:Nat) (fs:List (FD×Nat)),v 9=G (D ⟨gl,0,Z⟩) 2 2/\fs.map (·.1)=[Ii,IS]/\w.heap.size<=gl/\JB w' w.heap.size gm fs/\H w' gl (E5 fs).toArray 298:=hr 9 U;exact Ers
def Br(base gm:Nat)(i:Nat)(v:Y)(w:M):Prop:=match i with
 |0=>v=V (D ⟨gm,0,Z⟩)
 |1=>v=V (D ⟨gm,0,Z⟩)
 |2=>v=V (D ⟨gm,1,Z⟩)
 |3=>FV w base gm Ii v
 |4=>v=V (D ⟨gm,0,Z⟩)
 |5=>v=V (D ⟨gm,0,Z⟩)
 |6=>v=V (D ⟨gm,4,Z⟩)
 |7=>FV w base gm IS v
 |8=>v=V (D ⟨gm,0,Z⟩)
 |9=>v=V (D ⟨gm,0,Z⟩)
 |10=>v=V (D ⟨gm,5,Z⟩)
 |11=>FV w base gm cM v
 |12=> ∃(gl:Nat) (fs:List (FD×Nat)),v=G (D ⟨gl,0,Z⟩) 3 3/\fs.map (·.1)=[Ii,IS,cM]/\base<=gl/\JB w base gm fs/\H w gl (E5 fs).toArray 298
 |13=> ∃(gl:Nat) (fs:List (FD×Nat)),v=G (D ⟨gl,0,Z⟩) 3 3/\fs.map (·.1)=[Ii,IS,cM]/\base<=gl/\JB w base gm fs/\H w gl (E5 fs).toArray 298
 |_=>v=Ec EJ
theorem EaI(base gm:Nat): ∀i v w w',i<15->Br base gm i v w->J0 w w'->Br base gm i v w':=by
 intro i v w w' hi h hb;unfold Br at*;split at h;case h_4|h_8|h_12=>exact h.B hb
 case h_13|h_14=> exact EnH
 all_goals exact h
theorem EaJ(gm:Nat)(l:List Int)(w:M)(hm:H w gm (EF l) 183)(hk:l.getD 0 0=10): Eg EZ 160 #[V (D ⟨gm,0,Z⟩)] w (Zc w gm [Ii,IS,cM]):=by
 have c0:=hm.cell 0;rw[Zq _ _ U,if_neg U,hk] at c0;have u:=J<|IU w.heap.size w;clear hm hk;go_enter iz,iA;go_wp2_with fail;clear c0;refine ZV ER Ef 15 Ef Ej EU (Br w.heap.size gm) (EaI _ _) ?_ ?_
 ·simp only[Xl,Is,Iq,EM,Ih,Ik,Ic,If,and_true];refine⟨?_,?_,?_,?_,?_,?_,?_,?_,?_,?_,?_,?_,?_,?_,?_⟩;all_goals intro v w' hb hd
  ·exact EnB
  ·exact EnT
  ·exact EnS
  ·exact Ent
  ·exact EnB
  ·exact EnR
  ·exact EnQ
  ·exact Enw
  ·exact EnB
  ·exact Epk
  ·exact Epj
  ·have d10:v 10=V (D ⟨gm,5,Z⟩):=hd.at 10 rfl;refine J4 (f:=207) (args:= #[v 10,E I 1,E I 0,E I 4]) (Eh O) Ez ?_;rw[d10];exact(pu cM O gm w').mono fun e w'' ⟨v,he,⟨gb,e2,lb,kb⟩,hb'⟩=>⟨v,he,hb',gb,e2,Ew (Ew u.out.size hb.size) lb,kb⟩
  ·obtain⟨g0,d3,l0,k0⟩:FV w' w.heap.size gm Ii (v 3):=hd.at 3 rfl;obtain⟨g1,d7,l1,k1⟩:FV w' w.heap.size gm IS (v 7):=hd.at 7 rfl;obtain⟨g2,d11,l2,k2⟩:FV w' w.heap.size gm cM (v 11):=hd.at 11 rfl;refine Z9 (w':=w'.alloc (Eb (E5 [(Ii,g0),(IS,g1),(cM,g2)]).toArray 298)) (v:=G (D ⟨w'.heap.size,0,Z⟩) 3 3) (Eh O) Kc (Er w' _) ⟨w'.heap.size,[(Ii,g0),(IS,g1),(cM,g2)],O,O,Ew u.out.size hb.size,fun i hi=> ?_,H.new _ _ _⟩;match i,hi with
   |0,_=>exact⟨l0,H.alloc k0 _⟩
   |1,_=>exact⟨l1,H.alloc k1 _⟩
   |2,_=>exact⟨l2,H.alloc k2 _⟩
  ·obtain⟨gl,fs,e,m,lg,bx,kk⟩: ∃(gl:Nat) (fs:List (FD×Nat)),v 12=G (D ⟨gl,0,Z⟩) 3 3/\fs.map (·.1)=[Ii,IS,cM]/\w.heap.size<=gl/\JB w' w.heap.size gm fs/\H w' gl (E5 fs).toArray 298:=hd.at 12 rfl;exact En_
  ·exact EnB
 ·intro v w' hb hr;obtain⟨gl,fs,e,m,lg,bx,kk⟩: ∃(gl:Nat) (fs:List (FD×Nat)),v 13=G (D ⟨gl,0,Z⟩) 3 3/\fs.map (·.1)=[Ii,IS,cM]/\w.heap.size<=gl/\JB w' w.heap.size gm fs/\H w' gl (E5 fs).toArray 298:=hr 13 U;have dt:v 14=Ec EJ:=hr 14 U;exact Eno
def Bs(base gm:Nat)(i:Nat)(v:Y)(w:M):Prop:=match i with
 |0=>v=V (D ⟨gm,0,Z⟩)
 |1=>v=V (D ⟨gm,0,Z⟩)
 |2=>v=V (D ⟨gm,1,Z⟩)
 |3=>FV w base gm Ii v
 |4=>v=V (D ⟨gm,0,Z⟩)
 |5=>v=V (D ⟨gm,0,Z⟩)
 |6=>v=V (D ⟨gm,4,Z⟩)
 |7=>FV w base gm IS v
 |8=>v=V (D ⟨gm,0,Z⟩)
 |9=>v=V (D ⟨gm,0,Z⟩)
 |10=>v=V (D ⟨gm,6,Z⟩)
 |11=>FV w base gm dC v
 |_=> ∃(gl:Nat) (fs:List (FD×Nat)),v=G (D ⟨gl,0,Z⟩) 3 3/\fs.map (·.1)=[Ii,IS,dC]/\base<=gl/\JB w base gm fs/\H w gl (E5 fs).toArray 298
theorem EaO(base gm:Nat): ∀i v w w',i<14->Bs base gm i v w->J0 w w'->Bs base gm i v w':=by
 intro i v w w' hi h hb;unfold Bs at*;split at h;case h_4|h_8|h_12=>exact h.B hb
 case h_13=> exact EnH
 all_goals exact h
theorem EaU(gm:Nat)(l:List Int)(w:M)(hm:H w gm (EF l) 183)(hk:l.getD 0 0=11): Eg EZ 160 #[V (D ⟨gm,0,Z⟩)] w (Zc w gm [Ii,IS,dC,JG 0,JG 1,JG 2,JG 3]):=by
 have c0:=hm.cell 0;rw[Zq _ _ U,if_neg U,hk] at c0;have u:=J<|IU w.heap.size w;clear hm hk;go_enter iz,iA;go_wp2_with fail;clear c0;refine ZV ER Ef 14 Ef Ej EU (Bs w.heap.size gm) (EaO _ _) ?_ ?_
 ·simp only[Xl,Is,Iq,EM,Ih,Ik,Ic,If,and_true];refine⟨?_,?_,?_,?_,?_,?_,?_,?_,?_,?_,?_,?_,?_,?_⟩;all_goals intro v w' hb hd
  ·exact EnB
  ·exact EnT
  ·exact EnS
  ·exact Ent
  ·exact EnB
  ·exact EnR
  ·exact EnQ
  ·exact Enw
  ·exact EnB
  ·exact Epk
  ·exact Epj
  ·have d10:v 10=V (D ⟨gm,6,Z⟩):=hd.at 10 rfl;refine J4 (f:=207) (args:= #[v 10,E I 1,E I 1,E I 3]) (Eh O) Ez ?_;rw[d10];exact(pu dC O gm w').mono fun e w'' ⟨v,he,⟨gb,e2,lb,kb⟩,hb'⟩=>⟨v,he,hb',gb,e2,Ew (Ew u.out.size hb.size) lb,kb⟩
  ·obtain⟨g0,d3,l0,k0⟩:FV w' w.heap.size gm Ii (v 3):=hd.at 3 rfl;obtain⟨g1,d7,l1,k1⟩:FV w' w.heap.size gm IS (v 7):=hd.at 7 rfl;obtain⟨g2,d11,l2,k2⟩:FV w' w.heap.size gm dC (v 11):=hd.at 11 rfl;refine Z9 (w':=w'.alloc (Eb (E5 [(Ii,g0),(IS,g1),(dC,g2)]).toArray 298)) (v:=G (D ⟨w'.heap.size,0,Z⟩) 3 3) (Eh O) Kc (Er w' _) ⟨w'.heap.size,[(Ii,g0),(IS,g1),(dC,g2)],O,O,Ew u.out.size hb.size,fun i hi=> ?_,H.new _ _ _⟩;match i,hi with
   |0,_=>exact⟨l0,H.alloc k0 _⟩
   |1,_=>exact⟨l1,H.alloc k1 _⟩
   |2,_=>exact⟨l2,H.alloc k2 _⟩
  ·obtain⟨gl,fs,e,m,lg,bx,kk⟩: ∃(gl:Nat) (fs:List (FD×Nat)),v 12=G (D ⟨gl,0,Z⟩) 3 3/\fs.map (·.1)=[Ii,IS,dC]/\w.heap.size<=gl/\JB w' w.heap.size gm fs/\H w' gl (E5 fs).toArray 298:=hd.at 12 rfl;exact En_
 ·intro v w' hb hr;obtain⟨gl,fs,e,m,lg,bx,kk⟩: ∃(gl:Nat) (fs:List (FD×Nat)),v 13=G (D ⟨gl,0,Z⟩) 3 3/\fs.map (·.1)=[Ii,IS,dC]/\w.heap.size<=gl/\JB w' w.heap.size gm fs/\H w' gl (E5 fs).toArray 298:=hr 13 U;simp only[Is,Iq,IT,IM,EM,Ih,Ik,Ic,If];rw[e];have ln:fs.length=3:=by have:=congrArg List.length m;simpa using this
  have K0:=J<|EZ5 kk bx lg ln.symm U;have FB:=EV u hb;replace m:=J m;clear hr hb e kk bx;go_wp2_with fail;refine Uk 5 ?_;rw[Il];go_wp2_with fail;refine(Bl gm 8 _).mono ?_;rintro e x0 ⟨v0,rfl,⟨cR,rfl,lb0,vh⟩,b0⟩;have Kd:=FB.out.size;replace K0:=J<|(K0.out.B b0).B (Er x0 (Eb (E5 [(JG 0,cR)]).toArray 298));have HA:=J<|H.new x0 (E5 [(JG 0,cR)]).toArray 298;have HB0:=J<|H.alloc vh (Eb (E5 [(JG 0,cR)]).toArray 298);replace FB:=J<|bt (bt FB.out b0) (Er x0 (Eb (E5 [(JG 0,cR)]).toArray 298));clear b0 vh;unfold IG;go_wp2_with (with_reducible refine JE 102 ?_);apply Es;change Ib _ _ _ _ _ (x0.alloc (Eb (E5 [(JG 0,cR)]).toArray 298));have hz0:w.heap.size<=(x0.alloc (Eb (E5 [(JG 0,cR)]).toArray 298)).heap.size:=FB.out.size;obtain⟨gl0,cp0,y0,hrun,k,b⟩:=Bn _ w.heap.size _ gm _ _ 3 (by simp[ln]) K0.out (JG 0) cR x0.heap.size 1 U HB0.out HA.out U hz0 254;(with_reducible refine Jo ?_ (Ol (s:= .tmp 94) (y:= .tmp 101) ?_ ?_ ?_ hrun) ?_);·exact Eh O
  ·rfl
  ·rfl
  ·rfl
  have K1:=J k;replace FB:=J<|FB.out.trans b;clear k b hrun HA HB0 K0 hz0 Kd;go_wp2_with fail;rw[Il];go_wp2_with fail;refine(Bl gm 9 _).mono ?_;rintro e x1 ⟨v1,rfl,⟨cV,rfl,lb1,vj⟩,b1⟩;have Kf:=FB.out.size;replace K1:=J<|(K1.out.B b1).B (Er x1 (Eb (E5 [(JG 1,cV)]).toArray 298));have HA:=J<|H.new x1 (E5 [(JG 1,cV)]).toArray 298;have HB1:=J<|H.alloc vj (Eb (E5 [(JG 1,cV)]).toArray 298);replace FB:=J<|bt (bt FB.out b1) (Er x1 (Eb (E5 [(JG 1,cV)]).toArray 298));clear b1 vj;unfold IG;go_wp2_with (with_reducible refine JE 102 ?_);apply Es;change Ib _ _ _ _ _ (x1.alloc (Eb (E5 [(JG 1,cV)]).toArray 298));have hz1:w.heap.size<=(x1.alloc (Eb (E5 [(JG 1,cV)]).toArray 298)).heap.size:=FB.out.size;obtain⟨gl1,cp1,y1,hrun,k,b⟩:=Bn _ w.heap.size _ gm _ _ 4 (by simp[ln]) K1.out (JG 1) cV x1.heap.size 1 U HB1.out HA.out U hz1 254;(with_reducible refine Jo ?_ (Ol (s:= .tmp 94) (y:= .tmp 101) ?_ ?_ ?_ hrun) ?_);·exact Eh O
  ·rfl
  ·rfl
  ·rfl
  have K2:=J k;replace FB:=J<|FB.out.trans b;clear k b hrun HA HB1 K1 hz1 Kf;go_wp2_with fail;rw[Il];go_wp2_with fail;refine(Bl gm 10 _).mono ?_;rintro e x2 ⟨v2,rfl,⟨cW,rfl,lb2,nD⟩,b2⟩;have Kg:=FB.out.size;replace K2:=J<|(K2.out.B b2).B (Er x2 (Eb (E5 [(JG 2,cW)]).toArray 298));have HA:=J<|H.new x2 (E5 [(JG 2,cW)]).toArray 298;have HB2:=J<|H.alloc nD (Eb (E5 [(JG 2,cW)]).toArray 298);replace FB:=J<|bt (bt FB.out b2) (Er x2 (Eb (E5 [(JG 2,cW)]).toArray 298));clear b2 nD;unfold IG;go_wp2_with (with_reducible refine JE 102 ?_);apply Es;change Ib _ _ _ _ _ (x2.alloc (Eb (E5 [(JG 2,cW)]).toArray 298));have hz2:w.heap.size<=(x2.alloc (Eb (E5 [(JG 2,cW)]).toArray 298)).heap.size:=FB.out.size;obtain⟨gl2,cp2,y2,hrun,k,b⟩:=Bn _ w.heap.size _ gm _ _ 5 (by simp[ln]) K2.out (JG 2) cW x2.heap.size 1 U HB2.out HA.out U hz2 254;(with_reducible refine Jo ?_ (Ol (s:= .tmp 94) (y:= .tmp 101) ?_ ?_ ?_ hrun) ?_);·exact Eh O
  ·rfl
  ·rfl
  ·rfl
  have K3:=J k;replace FB:=J<|FB.out.trans b;clear k b hrun HA HB2 K2 hz2 Kg;go_wp2_with fail;rw[Il];go_wp2_with fail;refine(Bl gm 11 _).mono ?_;rintro e x3 ⟨v3,rfl,⟨cY,rfl,lb3,vl⟩,b3⟩;have Kh:=FB.out.size;replace K3:=J<|(K3.out.B b3).B (Er x3 (Eb (E5 [(JG 3,cY)]).toArray 298));have HA:=J<|H.new x3 (E5 [(JG 3,cY)]).toArray 298;have HB3:=J<|H.alloc vl (Eb (E5 [(JG 3,cY)]).toArray 298);replace FB:=J<|bt (bt FB.out b3) (Er x3 (Eb (E5 [(JG 3,cY)]).toArray 298));clear b3 vl;unfold IG;go_wp2_with (with_reducible refine JE 102 ?_);apply Es;change Ib _ _ _ _ _ (x3.alloc (Eb (E5 [(JG 3,cY)]).toArray 298));have hz3:w.heap.size<=(x3.alloc (Eb (E5 [(JG 3,cY)]).toArray 298)).heap.size:=FB.out.size;obtain⟨gl3,cp3,y3,hrun,k,b⟩:=Bn _ w.heap.size _ gm _ _ 6 (by simp[ln]) K3.out (JG 3) cY x3.heap.size 1 U HB3.out HA.out U hz3 254;(with_reducible refine Jo ?_ (Ol (s:= .tmp 94) (y:= .tmp 101) ?_ ?_ ?_ hrun) ?_);·exact Eh O
  ·rfl
  ·rfl
  ·rfl
  have K4:=J k;replace FB:=J<|FB.out.trans b;clear k b hrun HA HB3 K3 hz3 Kh;go_wp2_with fail;rw[Il];go_wp2;go_ret2;exact⟨_,_,_,O,by simp[m.out],K4.out.Kb,FB.out⟩
structure AF where
 (sz lo hi:Int)
 (Y5 S:Nat)
 gp:Y
 n:Int
def AF.cells(a:AF):Array Y:= #[E I a.sz,E I a.lo,E I a.hi,.func (.func a.Y5) #[] #[a.gp],.func (.func a.S) #[] #[a.gp]]
theorem AF.one(a:AF):a.cells.all (·.oneCell')=EJ:=by simp[AF.cells,Oc]
structure AF.ok(a:AF):Prop where
 neg:a.lo<0-> -32768<=a.lo/\a.hi<=32767
 pos:0<=a.lo->1<=a.sz/\a.sz<=7/\a.hi<256^a.sz.toNat
def jv(a:AF):Option (List Int):=if a.n<a.lo then Z else if a.hi<a.n then Z else if a.lo<0 then D (be (a.n%65536) 2) else D (be a.n a.sz.toNat)
def dF:List AF->Option (List Int)
 |[]=>D []
 |a::l=>match jv a,dF l with
  |some x,D y=>D (x++y)
  |_,_=>Z
theorem Eaf(l:List AF)(a:AF)(x y:List Int)(h:dF l=D x)(ha:jv a=D y):dF (l++[a])=D (x++y):=by
 induction l generalizing x with
 |nil=> simp only[dF,nF] at h;subst h;simp[dF,ha]
 |cons b l ih=>
  simp only[dF,ku] at h⊢;cases hb:jv b with
  |none=>rw[hb] at h;cases h
  |some Y3=>
   rw[hb] at h;cases hl:dF l with
   |none=>rw[hl] at h;cases h
   |some v=> rw[hl] at h;simp only[nF] at h;subst h;rw[ih v hl];simp
theorem Eag(l:List AF)(a:AF)(hm:a∈l)(ha:jv a=Z):dF l=Z:=by
 induction l with
 |nil=>cases hm
 |cons b l ih=>
  rcases UJ.1 hm with h|h;·subst h;simp[dF,ha]
  ·simp only[dF];rw[ih h];cases jv b<;>rfl
theorem Eah(a:AF)(ok:a.ok)(bs:List Int)(h:jv a=D bs):1<=bs.length/\bs.length<=7:=by
 unfold jv at h;split at h;·cases h
 split at h;·cases h
 split at h;·injection h with h;subst h;rw[UU];omega
 ·injection h with h;subst h;rw[UU];have:=ok.pos U;omega
def Sx(a:AF)(w:M)(e:Ud)(w':M):Prop:=
 (match jv a with
  |none=>e=Ei (Eu #[G Z 0 0,Ec EI])
  |some bs=> ∃g,e=Ei (Eu #[G (D ⟨g,0,Z⟩) bs.length bs.length,Ec EJ])/\Row w' (D ⟨g,0,Z⟩) bs)/\El w w'
theorem Eai(a:AF)(ok:a.ok)(w:M)(HG:fo w a.Y5 a.gp a.n):Eg EZ 242 #[Ea a.cells] w (Sx a w):=by
 unfold Sx jv AF.cells;by_cases h1:a.n<a.lo;·simp only[if_pos h1];exact EUs _ _ _ _ _ _ _ w HG h1
 by_cases h2:a.hi<a.n;·simp only[if_neg h1,if_pos h2];exact EUt _ _ _ _ _ _ _ w HG U h2
 by_cases h3:a.lo<0;·simp only[if_neg h1,if_neg h2,if_pos h3,UU];have:=ok.neg h3;exact(EUu _ _ _ _ _ _ _ w HG U U h3 this.1 this.2).mono fun e w' ⟨g,he,hr,hb⟩=>⟨⟨g,he,hr⟩,hb⟩
 ·simp only[if_neg h1,if_neg h2,if_neg h3,UU];have hp:=ok.pos U;obtain⟨k,hk⟩: ∃k:Nat,a.sz=k:=⟨a.sz.toNat,U⟩;have hk7:k<=7:=U;have hn:a.n<256^k:=by have:=hp.2.2;rw[hk,kn] at this;omega
  rw[hk,kn];have hpw:(2:Int)^(8*k)=256^k:=by rw[Int.pow_mul];rfl
  have hh:a.hi<=9223372036854775807:=by
   have h4:=hp.2.2;rw[hk,kn] at h4;have h5:(256:Int)^k<=72057594037927936:=by exact Epv
   omega
  exact(EUv _ _ _ _ _ _ w HG k U U U U (by rw[hpw];exact Int.ediv_eq_zero_of_lt U hn) hh).mono fun e w' ⟨g,he,hr,hb⟩=>⟨⟨g,he,hr⟩,hb⟩
theorem Eak(w:M)(k:Int)(h0:0<=k)(h1:k<=255):Own (w.alloc (Eb #[E Ix k] 5)) w.heap.size (D ⟨w.heap.size,0,Z⟩) 1 [k]:=
 ⟨⟨O,.inr ⟨w.heap.size,1,_,O,E3 _,gI w _,Ej,J8,O,O⟩⟩,fun x hx=>by simp at hx;omega⟩
def Sy(w:M)(gl:Nat)(fs:List AF):Prop:= ∀i (h:i<fs.length) j,j<5->w.cell? ⟨gl,i*5+j,Z⟩=fs[i].cells[j]?
def Ki(k:Int)(fs:List AF)(w:M)(e:Ud)(w':M):Prop:=
 (match dF fs with
  |none=>e=Ei (Eu #[G Z 0 0,Ec EI])
  |some ps=> ∃A c,e=Ei (Eu #[G A (1+ps.length) c,Ec EJ])/\Own w' w.heap.size A c (k::ps))/\El w w'
theorem Eal(k:Int)(fs:List AF)(n gl cp:Nat)(hn:fs.length=n)(ElW:n<=100)(k0:0<=k)(k9:k<=255)(w:M)(hc: ∀W,El w W->Sy W gl fs)(hg: ∀a∈fs,a.ok/\fo w a.Y5 a.gp a.n): Eg EZ 213 #[E I k,G (D ⟨gl,0,Z⟩) n cp] w (Ki k fs w):=by
 have HC:=J hc;have HG:=J hg;have HN:=J hn;clear hc hg hn;go_enter Tryz.func213,Tryz.ntmps213;go_wp2_with fail;have HO:=J<|Eak w k k0 k9;have u:=J<|Er w (Eb #[E Ix k] 5);generalize w.alloc (Eb #[E Ix k] 5)=w1 at*;go_loopw[6,16] (fun x y wr=> ∃(i:Nat) (A:Option Ep) (c m:Nat) (ps:List Int),i<=n/\y=E I i/\x=G A m c/\m=1+ps.length/\m<=1+7*i/\dF (fs.take i)=D ps/\Own wr w.heap.size A c (k::ps)/\El w wr) (fun _ y _=>n-(In y).toNat);case atStart=>exact⟨0,_,1,1,[],U,O,O,O,U,O,HO.out,u.out⟩
 case round=>
  obtain⟨i,A,c,m,ps,hi,rfl,rfl,hm,XR,hps,ho,hbb⟩:=hrel;have l5:=hbb.size;have dz:=J ho;have u:=J hbb;have Bt:=J hps;have HM:=J hm;clear ho hbb hps hm;by_cases hin:i<n
  ·have hil:i<fs.length:=Bu;have hcell:=HC.out wr u.out i hil;have hmem:=HG.out _ (gh hil);have htk:fs.take (i+1)=fs.take i++[fs[i]'hil]:=by rw[nG,JV hil];rfl
   have hin2:=gh hil;generalize fs[i]'hil=a at*;obtain⟨Kj,Sz⟩:=hmem;have CB:=J<|fun W hW=>Eai a Kj W (fo.B Sz hW);have OL:=J<|Eah a Kj;have HT:=J htk;have HI2:=J hin2;have hone:=J a.one;have hsz:Ed (a.cells.size=5):=J O;have hsp:Ed (a.cells= #[E I a.sz,E I a.lo,E I a.hi,.func (.func a.Y5) #[] #[a.gp],.func (.func a.S) #[] #[a.gp]]):=J O;have c0:=hcell 0 U;have c1:=hcell 1 U;have c2:=hcell 2 U;have c3:=hcell 3 U;have c4:=hcell 4 U;simp only[AF.cells,Nat.add_zero] at c0 c1 c2 c3 c4;clear hcell Kj Sz htk hin2;have t1:decide ((i:Int)<(n:Int))=EJ:=IJ U;go_wp2_with (with_reducible refine wA gu (Ex.mk ?_));apply Es;clear c0 c1 c2 c3 c4 t1;have K5:=J<|H.new wr JA 298;have b5:=J<|Er wr (Eb JA 298);generalize wr.alloc (Eb JA 298)=w4 at*;go_wp2_with (with_reducible refine wS (cs:=a.cells) XB K5 (Ex.mk ?_) (hn:=hsz.out) (h1:=hone.out));apply Es;replace K5:=J<|K5.out.setRow a.cells;replace b5:=J<|EY (g:=wr.heap.size) b5.out U a.cells;generalize w4.setRow wr.heap.size a.cells=w5 at*;replace dz:=J<|XM dz.out b5.out;replace u:=EV u b5.out;have l6:=u.out.size;clear b5;go_wp2_with (with_reducible refine wL XB K5 ?_ (hn:=hsz.out));refine(CB.out _ u.out).mono ?_;rintro e w6 ⟨hpost,b6⟩;clear K5;replace dz:=J<|XM dz.out b6;replace u:=EV u b6;have l7:=u.out.size;clear b6;cases hout:jv a with
   |none=> have hnone:=Eag fs a HI2.out hout;rw[hout] at hpost;obtain rfl:=hpost;clear hout;go_wp2;go_ret2;unfold Ki;rw[hnone];exact⟨O,u.out⟩
   |some bs=>
    rw[hout] at hpost;obtain⟨g6,rfl,r6⟩:=hpost;have hsn:=Eaf _ _ _ _ Bt.out hout;rw[<-HT.out] at hsn;have hbl:=OL.out bs hout;have HSN:=J hsn;have R6:=J r6;clear hsn hout r6;generalize hbn:bs.length=bn at*;replace hbn:=J hbn;have Kk:(k::ps).length=m:=by have:=HM.out;rw[Zn];omega
    replace Kk:=J Kk;go_wp2_with ((with_reducible refine Io 29 ?_);(with_reducible refine uV _ ?_ (.tmp 27) (.tmp 28) ?_ w.heap.size A c m (k::ps) Kk.out ?_ dz.out (D ⟨g6,0,Z⟩) bn bn bs hbn.out ?_ R6.out ?_ ?_ ?_);(·rfl);(·rfl);(·rfl);(·rfl);(·omega);(·omega);rintro A2 c2 w7 o7 b7;refine Ex.mk ?_);apply Es;have O7:=J o7;replace u:=J<|u.out.trans b7;clear o7 b7;go_wp2_with fail;refine⟨⟨i+1,A2,c2,m+bn,ps++bs,U,Ej,O,?_,U,HSN.out,O7.out,u.out⟩,Jb⟩;have:=HM.out;rw[IY,hbn.out];omega
  ·obtain rfl:i=n:=U;have hps:=Bt.out;rw[OP sy] at hps;replace hps:=J hps;have t1:decide ((i:Int)<(i:Int))=EI:=IZ U;go_wp2;go_ret2;unfold Ki;rw[hps.out];exact⟨⟨A,c,by rw[HM.out];rfl,dz.out⟩,u.out⟩
section
variable{P:Program}
def nH(k:IntKind)(n:Nat)(f:Nat->Int):Array Y:=EL n fun i=> .int k (f i)
theorem Kl(k:IntKind)(n:Nat)(f:Nat->Int)(i:Nat):(nH k n f)[i]?=if i<n then D (.int k (f i)) else Z:=fp _ _ _
theorem Bv{e:EB}{k:IntKind}(he:P.underlying e=D (.int k))(cs:Array Y)(i:Nat)(v:Y)(hv:cs[i]?=D v)(W:M):(Go.part e cs i).run P W= .ok v W:=by unfold Go.part;simp[isAgg,go he,hv]
theorem SA{e:EB}{k:IntKind}(he:P.underlying e=D (.int k))(d n:Nat)(f g:Nat->Int)(W:M): ∀(m j:Nat),j+m<=n-> (Op.eqItems (d+1) e 1 (nH k n f) (nH k n g) (List.range' j m)).run P W= .ok ((List.range' j m).all fun i=>f i==g i) W
 |0,j,_=>by simp only[List.range'_zero,Op.eqItems,Oi,bv]
 |m+1,j,h=>by
  have p1:=Bv he (nH k n f) j _ (by rw[Kl,if_pos U]) W;have p2:=Bv he (nH k n g) j _ (by rw[Kl,if_pos U]) W;rw[List.range'_succ,aC];simp only[Op.eqItems,OH,Nat.mul_one,p1,p2,OM,run_equalIn_int W d e k k _ _ he];cases hb:(f j==g j);·exact Erc
  ·simp only[Bool.not_true,kL,if_false,Bool.true_and];exact SA he d n f g W m (j+1) U
def Bw(n:Nat)(f g:Nat->Int):Bool:=(U4 n).all fun i=>f i==g i
theorem Ean{n:Nat}{f g:Nat->Int}:Bw n f g=EJ↔ ∀i,i<n->f i=g i:=by unfold Bw;simp
theorem Eao{t e:EB}{k:IntKind}{n:Nat}{i:TypeInfo}(hu:P.underlying t=D (.array n e))(he:P.underlying e=D (.int k))(hc:P.cellsOf e=1)(hi:P.info? e=D i)(d:Nat)(f g:Nat->Int)(W:M): (Op.equalIn (d+1+1) t (Ea (nH k n f)) (Ea (nH k n g))).run P W= .ok (Bw n f g) W:=by rw[run_equalIn_array W (d+1) _ _ hu hi,hc,List.range_eq_range',SA he d n f g W n 0 U,Bw,List.range_eq_range']
end
theorem SD(x0 x1 x2 x3:Int):(#[E I x0,E I x1,E I x2,E I x3]:Array Y)=nH .i64 4 (fun i=>if i=0 then x0 else if i=1 then x1 else if i=2 then x2 else x3):=rfl
theorem Eap: ∃i,Tryz.prog.info? 3=D i:=⟨_,O⟩
theorem By(x0 x1 x2 x3 y0 y1 y2 y3:Int)(d:Nat)(W:M): (Op.equalIn (d+1+1) 25 (Ea #[E I x0,E I x1,E I x2,E I x3]) (Ea #[E I y0,E I y1,E I y2,E I y3])).run EZ W= .ok (decide (x0=y0/\x1=y1/\x2=y2/\x3=y3)) W:=by
 obtain⟨i,hi⟩:=Eap;rw[SD,SD,Eao Tryz.underlying25 Tryz.underlying3 Ef hi];congr 1;rw[Bool.eq_iff_iff,decide_eq_true_iff,Ean];constructor;·intro h;exact⟨h 0 U,h 1 U,h 2 U,h 3 U⟩
 ·rintro⟨rfl,rfl,rfl,rfl⟩ i _;rfl
theorem Eaq(x0 x1 x2 x3 y0 y1 y2 y3:Int)(W:M): (X5 .neq 25 (Ea #[E I x0,E I x1,E I x2,E I x3]) (Ea #[E I y0,E I y1,E I y2,E I y3])).run EZ W= .ok (Ec (!decide (x0=y0/\x1=y1/\x2=y2/\x3=y3))) W:=by have:=By x0 x1 x2 x3 y0 y1 y2 y3 9998 W;simp[go_sem,this];done
theorem Ear(gm:Nat)(l:List Int)(w:M)(k:Int)(hm:H w gm (EF l) 183)(hk:l.getD 0 0=k)(hn:aB k=Z): Eg EZ 160 #[V (D ⟨gm,0,Z⟩)] w fun e w'=>e=Ei (Eu #[G Z 0 0,Ec EI])/\w=w':=by
 have c0:=hm.cell 0;rw[Zq _ _ U,if_neg U,hk] at c0
 have hne:k≠1/\k≠2/\k≠3/\k≠4/\k≠5/\k≠6/\k≠7/\k≠8/\k≠9/\k≠10/\k≠11:=by
  unfold aB at hn;repeat' split at hn
  all_goals first|(cases hn;done)|omega
 obtain⟨n1,n2,n3,n4,n5,n6,n7,n8,n9,n10,n11⟩:=hne;have q1:(k==1)=EI:=by simp[n1]
 have q2:(k==2)=EI:=by simp[n2]
 have q3:(k==3)=EI:=by simp[n3]
 have q4:(k==4)=EI:=by simp[n4]
 have q5:(k==5)=EI:=by simp[n5]
 have q6:(k==6)=EI:=by simp[n6]
 have q7:(k==7)=EI:=by simp[n7]
 have q8:(k==8)=EI:=by simp[n8]
 have q9:(k==9)=EI:=by simp[n9]
 have SG:(k==10)=EI:=by simp[n10]
 have SK:(k==11)=EI:=by simp[n11]
 clear hm hk hn;go_enter iz,iA;go_wp2;exact EqP
def Km(w:M)(gm:Nat)(k:Int)(e:Ud)(w':M):Prop:=
 match aB k with
 |some ds=>Zc w gm ds e w'
 |none=>e=Ei (Eu #[G Z 0 0,Ec EI])/\w=w'
theorem Eas(gm:Nat)(l:List Int)(w:M)(hm:H w gm (EF l) 183):Eg EZ 160 #[V (D ⟨gm,0,Z⟩)] w (Km w gm (l.getD 0 0)):=by
 generalize hk:l.getD 0 0=k at*;by_cases h1:k=1;·subst h1;exact EZY gm l w hm hk
 by_cases h2:k=2;·subst h2;exact EZ0 gm l w hm hk
 by_cases h3:k=3;·subst h3;exact EZ1 gm l w hm hk
 by_cases h4:k=4;·subst h4;exact EZ2 gm l w hm hk
 by_cases h5:k=5;·subst h5;exact EZ7 gm l w hm hk
 by_cases h6:k=6;·subst h6;exact EZ9 gm l w hm hk
 by_cases h7:k=7;·subst h7;exact EaE gm l w hm hk
 by_cases h8:k=8;·subst h8;exact EZ3 gm l w hm hk
 by_cases h9:k=9;·subst h9;exact EZ4 gm l w hm hk
 by_cases h10:k=10;·subst h10;exact EaJ gm l w hm hk
 by_cases h11:k=11;·subst h11;exact EaU gm l w hm hk
 have hn:aB k=Z:=by unfold aB;exact EqC
 unfold Km;rw[hn];exact Ear gm l w k hm hk hn
def Ia(k:Int):List Int:=[k,0,0,0,0,0,0,0,0,0,0,0]
def sT(d:FD)(n:Int):Option (List Int):=if n<d.lo then Z else if d.hi<n then Z else if d.lo<0 then D (be (n%65536) 2) else D (be n d.size.toNat)
def c_:List FD->List Int->Option (List Int)
 |[],_=>D []
 |d::ds,l=>match sT d (l.getD d.off 0),c_ ds l with
  |some x,D y=>D (x++y)
  |_,_=>Z
def J1(ds:List FD)(l:List Int):List Int:=ds.foldl (fun l d=>l.set d.off 0) l
def sV(l:List Int):Option (List Int):=
 match aB (l.getD 0 0) with
 |none=>Z
 |some ds=>match c_ ds l with
  |none=>Z
  |some ps=>if J1 ds l=Ia (l.getD 0 0) then D (l.getD 0 0::ps) else Z
structure FD.good(d:FD):Prop where
 ok:d.ok
 off1:1<=d.off
 neg:d.lo<0-> -32768<=d.lo/\d.hi<=32767
 pos:0<=d.lo->1<=d.size/\d.size<=7/\d.hi<256^d.size.toNat
theorem Eat:Xa.good:=⟨⟨EU,EU,EU⟩,EU,EU,EU⟩
theorem sW:Ii.good:=⟨⟨EU,EU,EU⟩,EU,EU,EU⟩
theorem Eau:dB.good:=⟨⟨EU,EU,EU⟩,EU,EU,EU⟩
theorem Eav:Jj.good:=⟨⟨EU,EU,EU⟩,EU,EU,EU⟩
theorem Ko:IS.good:=⟨⟨EU,EU,EU⟩,EU,EU,EU⟩
theorem Eaw:cM.good:=⟨⟨EU,EU,EU⟩,EU,EU,EU⟩
theorem Eax:dC.good:=⟨⟨EU,EU,EU⟩,EU,EU,EU⟩
theorem Bz(i:Nat)(h:i<4):(JG i).good:=by have h4:i=0\/i=1\/i=2\/i=3:=U;rcases h4 with rfl|rfl|rfl|rfl<;>exact⟨⟨EU,EU,EU⟩,EU,EU,EU⟩
theorem BH(h:aB k=D ds):1<=k/\k<=11/\ds.length<=7/\ ∀d∈ds,d.good:=by
 have one: ∀(P:Prop),(P->1<=k/\k<=11/\ds.length<=7/\ ∀d∈ds,d.good)->P->1<=k/\k<=11/\ds.length<=7/\ ∀d∈ds,d.good:=fun _ f p=>f p;unfold aB at h;repeat' split at h
 all_goals first
  |(cases h;done)
  |(injection h with h
    subst h
    refine⟨U,U,EU,fun d hd=> ?_⟩
    simp only[UJ,Um,or_false] at hd)
 ·subst hd;exact Eat
 ·subst hd;exact sW
 ·rcases hd with rfl|rfl;·exact sW
  ·exact Eau
 ·rcases hd with rfl|rfl;·exact sW
  ·exact Eav
 ·rcases hd with rfl|rfl;·exact sW
  ·exact Ko
 ·rcases hd with rfl|rfl|rfl;·exact sW
  ·exact Ko
  ·exact Eaw
 ·rcases hd with rfl|rfl|rfl|rfl|rfl|rfl|rfl;·exact sW
  ·exact Ko
  ·exact Eax
  ·exact Bz 0 U
  ·exact Bz 1 U
  ·exact Bz 2 U
  ·exact Bz 3 U
def BK(l:List Int)(p:FD×Nat):AF:=⟨p.1.size,p.1.lo,p.1.hi,p.1.get,p.1.set,V (D ⟨p.2,0,Z⟩),l.getD p.1.off 0⟩
theorem Eay(l:List Int)(fs:List (FD×Nat)):dF (fs.map (BK l))=c_ (fs.map (·.1)) l:=by
 induction fs with
 |nil=>rfl
 |cons p ps ih=> simp only[UB,dF,c_];rw[ih];rfl
theorem Eaz(l:List Int)(h:Xr w base gl gm fs):Sy w gl (fs.map (BK l)):=by intro i hi j hj;rw[List.getElem_map];exact h.cells i U5 j hj
theorem EaA(h:Own w base A cap xs)(hg:gm<base)(hk: ∀k,k≠gm->w'.heap[k]?=w.heap[k]?):Own w' base A cap xs:=by
 obtain⟨⟨h1,h2⟩,h3⟩:=h;refine⟨⟨h1,?_⟩,h3⟩;rcases h2 with h2|⟨g,cap',cur,e,hb,hh,r⟩;·exact .inl h2
 ·exact .inr ⟨g,cap',cur,e,hb,(hk g U).trans hh,r⟩
theorem BW(ds:List FD)(l:List Int):(J1 ds l).length=l.length:=by
 induction ds generalizing l with
 |nil=>rfl
 |cons d ds ih=>show(J1 ds (l.set d.off 0)).length=_;rw[ih];simp
theorem sY(ds:List FD)(l:List Int)(o:Nat)(ho: ∀d∈ds,d.off≠o):(J1 ds l).getD o 0=l.getD o 0:=by
 induction ds generalizing l with
 |nil=>rfl
 |cons d ds ih=> show(J1 ds (l.set d.off 0)).getD o 0=_;rw[ih _ fun e he=>ho e (XU _ he)];simp[OE,List.getElem?_set_ne (ho d dq)]
theorem EaB(ds:List FD)(l:List Int)(o:Nat):(J1 ds l).getD o 0=0\/(J1 ds l).getD o 0=l.getD o 0:=by
 induction ds generalizing l with
 |nil=>exact .inr O
 |cons d ds ih=>
  show(J1 ds (l.set d.off 0)).getD o 0=0\/(J1 ds (l.set d.off 0)).getD o 0=_;rcases ih (l.set d.off 0) with h|h;·exact .inl h
  ·by_cases e:d.off=o
   ·left;rw[h,OE,e];by_cases hl:o<l.length;·simp[hl]
    ·rw[bJ I8];rfl
   ·right;rw[h];simp[OE,List.getElem?_set_ne e]
theorem EaC(ds:List FD)(d:FD)(l:List Int):J1 (ds++[d]) l=(J1 ds l).set d.off 0:=by unfold J1;rw[List.foldl_append];rfl
theorem EaD(k:Int):Tryz.prog.built 183 [(0,E I k)]=D (EF (Ia k)):=Ef
theorem jw:Tryz.prog.built 183 []=D (EF (Ia 0)):=Ef
def wd(d:FD):Nat:=if d.lo<0 then 2 else d.size.toNat
theorem EaF{d:FD}(h:c_ (d::ds) l=D p): ∃x y,sT d (l.getD d.off 0)=D x/\c_ ds l=D y/\p=x++y:=by
 simp only[c_] at h;cases h1:sT d (l.getD d.off 0) with
 |none=>rw[h1] at h;cases h
 |some x=>
  cases h2:c_ ds l with
  |none=>rw[h1,h2] at h;cases h
  |some y=> rw[h1,h2] at h;injection h with h;exact⟨x,y,O,O,h.symm⟩
theorem SN(h:sV l=D bs): ∃ds ps,aB (l.getD 0 0)=D ds/\c_ ds l=D ps/\J1 ds l=Ia (l.getD 0 0)/\bs=l.getD 0 0::ps:=by
 unfold sV at h;cases h1:aB (l.getD 0 0) with
 |none=>rw[h1] at h;cases h
 |some ds=>
  rw[h1] at h;simp only at h;cases h2:c_ ds l with
  |none=>rw[h2] at h;cases h
  |some ps=>
   rw[h2] at h;simp only at h;split at h;·rename_i hz;injection h with h;exact⟨ds,ps,rfl,h2,hz,h.symm⟩
   ·cases h
theorem SP(hx:x.length=12)(hy:y.length=12)(h: ∀o,o<12->x.getD o 0=y.getD o 0):x=y:=by apply List.ext_getElem U;intro i h1 h2;have:=h i U;simpa[OE,h1,h2] using this
theorem EaG(h:sV l=D bs):bs.take 1=[l.getD 0 0]/\1<=l.getD 0 0/\l.getD 0 0<=11:=by obtain⟨ds,ps,f1,o1,z1,rfl⟩:=SN h;obtain⟨h1,h2,-,-⟩:=BH f1;exact⟨O,h1,h2⟩
theorem EaH(h:Own w base A c xs):xs.length<=c/\c<=9223372036854775807:=by obtain⟨A',ys,cap,e,h1,h2,-⟩:=h.EO6;injection e with e1 e2 e3;omega
section
open Go.ChangeShapes Go.WideShapes
theorem iB:Od EZ 183 (EF (Ia 0)):=EUm
theorem EaK(h:Row w A xs)(m:Nat):Row w A (xs.take m):=by
 obtain⟨h1,h2⟩:=h;refine⟨?_,fun z hz=>h2 z (iI hz)⟩;rcases h1 with h1|⟨b,off,e,hc⟩;·subst h1;exact .inl Ej
 ·refine .inr ⟨b,off,e,fun i hi=> ?_⟩;have hi2:i<xs.length:=sE;rw[hc i hi2];simp
end
def Zd(d:FD)(xs:List Int):Int:=if d.lo<0 then sig xs else num xs
def gH:List FD->List Int->List Int->Option (List Int)
 |[],l,xs=>if xs.length=0 then D l else Z
 |d::ds,l,xs=>if xs.length<wd d then Z else if Zd d (xs.take (wd d))<d.lo then Z else if d.hi<Zd d (xs.take (wd d)) then Z else gH ds (l.set d.off (Zd d (xs.take (wd d)))) (xs.drop (wd d))
structure FD.vm(d:FD):Prop where
 good:d.good
 neg:d.lo<0->d.lo= -32768/\d.hi=32767
 size:d.size=(wd d:Int)
 one:1<=wd d/\wd d<=7
 now:d.off=7->d.lo=0/\d.hi=1
theorem SY(h:aB k=D ds): ∀d∈ds,d.vm:=by
 intro d hd;have hg:=(BH h).2.2.2 d hd
 have:(d.lo<0->d.lo= -32768/\d.hi=32767)/\d.size=(wd d:Int)/\(1<=wd d/\wd d<=7)/\(d.off=7->d.lo=0/\d.hi=1):=by
  unfold aB at h;repeat' split at h
  all_goals first
   |(cases h;done)
   |(injection h with h
     subst h
     simp only[UJ,Um,or_false] at hd
     first
      |(subst hd;decide)
      |(rcases hd with rfl|rfl<;>decide)
      |(rcases hd with rfl|rfl|rfl<;>decide)
      |(rcases hd with rfl|rfl|rfl|rfl|rfl|rfl|rfl<;>decide))
 exact⟨hg,this.1,this.2.1,this.2.2.1,this.2.2.2⟩
theorem EaL(h: ∀x∈xs,0<=x/\x<=255)(hl:xs.length=2): -32768<=sig xs/\sig xs<=32767:=by have hb:=uY xs h 2 U;rw[OP U] at hb;have h2:num xs<65536:=hb.2;unfold sig;split<;>omega
def S6(gm:Nat)(l:List Int)(W w':M):Prop:=H w' gm (EF l) 183/\(∀k,k≠gm->w'.heap[k]?=W.heap[k]?)/\w'.heap.size=W.heap.size/\Ij gm W w'
def Kp(d:FD)(gm:Nat)(l xs:List Int)(w:M)(e:Ud)(w':M):Prop:=
 if Zd d xs<d.lo then e=Ei (Ec EI)/\El w w'
 else if d.hi<Zd d xs then e=Ei (Ec EI)/\El w w'
 else e=Ei (Ec EJ)/\ ∃W,El w W/\S6 gm (l.set d.off (Zd d xs)) W w'
theorem EaM(d:FD)(hd:d.vm)(gb gm:Nat)(l xs:List Int)(hl:nt l)(Y4:Option Ep)(c k:Nat)(hk:wd d=k)(w:M)(hr:Row w Y4 xs)(hx:xs.length=k)(hb:Za w d gm gb)(hm:H w gm (EF l) 183): Eg EZ 209 #[Ea (IG d gb),G Y4 k c] w (Kp d gm l xs w):=by
 have hs: ∀v,Sets w d.set (V (D ⟨gb,0,Z⟩)) v (S6 gm (l.set d.off v)):=fun v=>⟨Q2 d,fun W hW=>(EUp d gb gm l v W hd.good.ok hl (H.B hb hW) (hm.B hW)).mono fun e w' ⟨he,h1,h2,h3,h4⟩=>⟨he,h1,h2,h3,h4⟩⟩;have hk7:=hd.one;unfold Kp IG;by_cases h0:d.lo<0
 ·have e2:k=2:=by rw[<-hk];unfold wd;rw[if_pos h0]
  subst e2;have hv:Zd d xs=sig xs:=by unfold Zd;rw[if_pos h0]
  have hr2:=EaL hr.2 hx;have hn:=hd.neg h0;have g1: ¬sig xs<d.lo:=U;have g2: ¬d.hi<sig xs:=U;rw[hv];simp only[if_neg g1,if_neg g2];exact EZR _ _ _ _ _ _ xs Y4 c (sig xs) _ w hr hx O h0 U U (hs _)
 ·have hv:Zd d xs=num xs:=by unfold Zd;rw[if_neg h0]
  have hb2:=uY xs hr.2 k U;rw[OP U] at hb2;have ElY:(256:Int)^k<=72057594037927936:=by exact Epv
  have hhi:d.hi<256^k:=by have:=(hd.good.pos U).2.2;rw[hd.size,hk,kn] at this;exact this
  rw[hv];by_cases h1:num xs<d.lo;·simp only[if_pos h1];exact EZT _ _ _ _ _ _ xs Y4 k c (num xs) w hr hx U O U U U h1
  by_cases h2:d.hi<num xs;·simp only[if_neg h1,if_pos h2];exact EZV _ _ _ _ _ _ xs Y4 k c (num xs) w hr hx U O U U U U h2
  ·simp only[if_neg h1,if_neg h2];exact EZS _ _ _ _ _ _ xs Y4 k c (num xs) _ w hr hx U O U U U U (hs _)
theorem S7(h:Row w Y4 xs)(hB: ∀a,Y4=D a->a.block<gm)(hb:Ij gm w w'):Row w' Y4 xs:=by
 obtain⟨h1,h2⟩:=h;refine⟨?_,h2⟩;rcases h1 with h1|⟨b,off,e,hc⟩;·exact .inl h1
 ·refine .inr ⟨b,off,e,fun i hi=> ?_⟩;have h3:=hb.cell (p:=⟨b,off+i,Z⟩) (show b<gm from hB ⟨b,off,Z⟩ e);rw[h3];exact hc i hi
theorem lf{off:Nat}(h:Row w (D ⟨b,off,Z⟩) xs)(m:Nat):Row w (D ⟨b,off+m,Z⟩) (xs.drop m):=by
 obtain⟨h1,h2⟩:=h;refine⟨?_,fun z hz=>h2 z (List.mem_of_mem_drop hz)⟩;rcases h1 with h1|⟨b',off',e,hc⟩;·subst h1;exact .inl Ej
 ·injection e with e;injection e with e1 e2;subst e1 e2;refine .inr ⟨b,off+m,O,fun i hi=> ?_⟩;have hi2:m+i<xs.length:=sE;have:=hc (m+i) hi2;rw[<-jx] at this;rw[this];simp
theorem EaN(h:nt l)(o:Nat)(v:Int)(hv:o=7->v=0\/v=1):nt (l.set o v):=by
 refine⟨by rw[List.length_set];exact h.1,?_⟩;by_cases e:o=7
 ·subst e;have hl:=h.1;have:(l.set 7 v).getD 7 0=v:=by simp[OE,hl]
  rw[this];exact hv O
 ·have e2:(l.set o v).getD 7 0=l.getD 7 0:=by simp[OE,List.getElem?_set_ne e]
  rw[e2];exact h.2
def EaP(R:Option (List Int))(gm:Nat)(w:M)(e:Ud)(w':M):Prop:=
 Ij gm w w'/\match R with
  |none=>e=Ei (Ec EI)
  |some l'=>e=Ei (Ec EJ)/\H w' gm (EF l') 183
theorem EaQ(fs:List (FD×Nat))(ds:List FD)(hds:fs.map (·.1)=ds)(hf: ∀d∈ds,d.vm)(n:Nat)(hn:fs.length=n)(hn9:n<=100)(gl cp gm base:Nat)(l:List Int)(hl:nt l)(xs:List Int)(Y4:Option Ep)(m c:Nat)(hm:xs.length=m)(hmc:m<=c)(hc:c<=9223372036854775807) (w:M) (hr:Row w Y4 xs) (hB: ∀a,Y4=D a->a.block<gm) (hfl:Xr w base gl gm fs) (hgb:gm<base) (hgw:base<=w.heap.size) (hk:H w gm (EF l) 183): Eg EZ 161 #[G Y4 m c,G (D ⟨gl,0,Z⟩) n cp] w (EaP (gH ds l xs) gm w):=by
 have BY:=J hds;have HF:=J hf;have HN:=J hn;obtain⟨R,hR⟩:=Eo (gH ds l xs);rw[<-hR];have lj:=J hR;have HM:=J hm;have HRW:=J hr;have B_:=J hB;have iq:=J hfl;have HK:=J hk;have HL:=J hl;clear hds hf hn hR hm hr hB hfl hk hl;go_enter Tryz.func161,Tryz.ntmps161;go_wp2_with fail;go_loopw[0,9] (fun x y wr=> ∃(i:Nat) (A:Option Ep) (k e:Nat) (li rs:List Int),i<=n/\y=E I i/\x=G A k e/\rs.length=k/\k<=e/\e<=9223372036854775807/\Row wr A rs/\(∀a,A=D a->a.block<gm)/\nt li/\H wr gm (EF li) 183/\Xr wr base gl gm fs/\base<=wr.heap.size/\gH (ds.drop i) li rs=R/\Ij gm w wr) (fun _ y _=>n-(In y).toNat);case atStart=>exact⟨0,Y4,m,c,l,xs,U,O,O,HM.out,hmc,hc,HRW.out,B_.out,HL.out,HK.out,iq.out,hgw,by rw[lj.out];rfl,IU _ _⟩
 case round=>
  obtain⟨i,A,k,e,li,rs,hi,rfl,rfl,hrs,hke,he,hrw,hA,nK,hkm,hfl,hbw,hR,hbb⟩:=hrel;have dE:=J hrs;have RW:=J hrw;have HA:=J hA;have dI:=J nK;have KM:=J hkm;have FL:=J hfl;have HR:=J hR;have u:=J hbb;have lm:=hkm.lt;clear hrs hrw hA nK hkm hfl hR hbb HRW iq HK HL lj B_;by_cases hin:i<n
  ·have hil:i<fs.length:=Bu;have hcell:=fun j hj=>FL.out.cells i hil j hj;have pS:=(FL.out.2.2 i hil).2;have e1:ds[i]?=D (fs[i]'hil).1:=S_;have hmem:(fs[i]'hil).1∈ds:=aD e1;have hdf:=HF.out _ hmem;have hdr:ds.drop i=(fs[i]'hil).1::ds.drop (i+1):=by obtain⟨h1,h2⟩:=Xx.1 e1;rw[<-h2];exact nO h1
   generalize fs[i]'hil=p at*;obtain⟨d,gb⟩:=p;simp only at hcell pS hdf hdr;have hRR:=HR.out;rw[hdr] at hRR;simp only[gH] at hRR;replace hRR:=J hRR;have vn:=J pS;have HD:=J hdf;have c0:=hcell 0 U;have c1:=hcell 1 U;have c2:=hcell 2 U;have c3:=hcell 3 U;have c4:=hcell 4 U;simp only[IG,Nat.add_zero] at c0 c1 c2 c3 c4;clear hcell pS e1 hmem hdf hdr;have Kq:=J<|im d gb;have hsz2:Ed ((IG d gb).size=5):=J O;have t1:decide ((i:Int)<(n:Int))=EJ:=IJ U;go_wp2_with (with_reducible refine wA gu (Ex.mk ?_));apply Es;clear c0 c1 c2 c3 c4 t1;have K5:=J<|H.new wr JA 298;have b5:=J<|Er wr (Eb JA 298);generalize wr.alloc (Eb JA 298)=w4 at*;go_wp2_with (with_reducible refine wS (cs:=(IG d gb)) XB K5 (Ex.mk ?_) (hn:=hsz2.out) (h1:=Kq.out));apply Es;replace K5:=J<|K5.out.setRow (IG d gb);replace b5:=J<|EY (g:=wr.heap.size) b5.out U (IG d gb);generalize w4.setRow wr.heap.size (IG d gb)=w5 at*;replace KM:=J<|KM.out.B b5.out;replace FL:=J<|FL.out.B b5.out;replace RW:=J<|It RW.out b5.out;replace u:=J<|u.out.trans (b5.out.mono U);have vo:Ed (Za w5 d gm gb):=EH vn b5.out;have l5:=b5.out.size;clear b5 vn;obtain⟨z,hz⟩:=Eo (wd d);have hzs:d.size=(z:Int):=by rw[hz];exact HD.out.size
   have hz1:1<=z:=by rw[hz];exact HD.out.one.1
   have Kr:z<=7:=by rw[hz];exact HD.out.one.2
   have HZ:=J hz;have ZS:=J hzs;have c0: ∀y:Ext w5,(EC w5 y).cell? ⟨wr.heap.size,0,Z⟩=D (E I z):=fun y=>by rw[(K5.out.B (EQ y)).cell 0,<-ZS.out];rfl
   clear hz hzs;go_wp2_with fail;by_cases hkz:k<z
   ·have t2:decide ((k:Int)<(z:Int))=EJ:=IJ U;refine ZQ Ef Ef ?_
    repeat (first
     |go_big_quiet_skip
     |(go_big_quiet_want
       first
        |(refine UV (T:=298) (g:=wr.heap.size) XB _ rfl rfl K5 ?_ ?_;(·exact hsz2.out);go_simp;go_big_quiet_on)
        |(go_big_quiet_op
          first
           |go_big_quiet_on
           |go_big_quiet_call ((fail)))))
    refine I5 ?_;intro _ hw';obtain⟨y9,rfl⟩:=hw';replace u:=J<|u.out.trans ((EQ y9).mono U);generalize EC w5 y9=w6 at*;go_wp2;go_ret;refine⟨u.out,?_⟩;rw[<-hRR.out,if_pos (by rw[dE.out,<-HZ.out];exact hkz)];rfl
   ·have t2:decide ((k:Int)<(z:Int))=EI:=IZ U;have q1:z<=k:=U;have q2:z<=e:=U
    obtain⟨b0,off,hAe⟩: ∃b off,A=D ⟨b,off,Z⟩:=by
     obtain⟨h|⟨b,off,h,-⟩,-⟩:=RW.out;·have:=dE.out;rw[h] at this;simp at this;omega
     ·exact⟨b,off,h⟩
    subst hAe;refine Oa 11 Ef Ef ?_;simp only[Is,Iq,IT,IM]
    repeat (first
     |go_big_quiet_skip
     |(go_big_quiet_want
       first
        |(refine UV (T:=298) (g:=wr.heap.size) XB _ rfl rfl K5 ?_ ?_;(·exact hsz2.out);go_simp;go_big_quiet_on)
        |(go_big_quiet_op
          first
           |go_big_quiet_on
           |go_big_quiet_call ((fail)))))
    refine I5 ?_;intro _ hw';obtain⟨y9,rfl⟩:=hw';have En:=EQ y9;replace K5:=J<|K5.out.B En;replace KM:=J<|KM.out.B En;replace FL:=J<|FL.out.B En;replace RW:=J<|It RW.out En;have TE:Ed (Za (EC w5 y9) d gm gb):=EH vo En;replace u:=J<|u.out.trans (En.mono U);have l6:=En.size;clear En c0 vo;generalize EC w5 y9=w6 at*;have hlt:(rs.take z).length=z:=by rw[ar,dE.out];omega
    have CT:=J<|EaM d HD.out gb gm li (rs.take z) dI.out (D ⟨b0,off,Z⟩) e z HZ.out.symm w6 (EaK RW.out z) hlt TE.out KM.out;clear hlt TE;go_wp2_with fail;refine(CT.out).mono ?_;rintro e' w7 ht;unfold Kp at ht;have hif: ¬rs.length<wd d:=by rw[dE.out,<-HZ.out];omega
    have ls:=hRR.out;rw[if_neg hif,<-HZ.out] at ls;replace ls:=J ls;clear hif CT hRR;by_cases hlow:Zd d (rs.take z)<d.lo;·rw[if_pos hlow] at ht;obtain⟨rfl,b7⟩:=ht;have dG:=ls.out;rw[if_pos hlow] at dG;replace dG:=J dG;replace u:=J<|u.out.trans (b7.mono U);clear hlow b7 ls;exact ErZ
    by_cases hhigh:d.hi<Zd d (rs.take z);·rw[if_neg hlow,if_pos hhigh] at ht;obtain⟨rfl,b7⟩:=ht;have dG:=ls.out;rw[if_neg hlow,if_pos hhigh] at dG;replace dG:=J dG;replace u:=J<|u.out.trans (b7.mono U);clear hlow hhigh b7 ls;exact ErZ
    ·rw[if_neg hlow,if_neg hhigh] at ht;obtain⟨rfl,W,bW,hq1,hq2,hq3,hq4⟩:=ht;have dG:=ls.out;rw[if_neg hlow,if_neg hhigh] at dG;have TI:nt (li.set d.off (Zd d (rs.take z))):=EaN dI.out _ _ (fun h7=>by have:=HD.out.now h7;omega);have EaS:=J TI;replace dG:=J dG;have lW:=bW.size;have Kt:b0<gm:=HA.out _ O;have c0:w7.cell? ⟨wr.heap.size,0,Z⟩=D (E I z):=by rw[World.cell?_of_block (w:=W) (hq2 wr.heap.size U),(K5.out.B bW).cell 0,<-ZS.out];rfl
     replace u:=J<|(u.out.trans (bW.mono U)).trans hq4;replace FL:=J<|(FL.out.B bW).keep hgb hq2;have RW7:=J<|S7 (lf (It RW.out bW) z) (fun a ha=>by injection ha with ha;subst ha;exact Kt) hq4;have KM7:=J hq1;have l7:base<=w7.heap.size:=U;generalize Zd d (rs.take z)=vv at*;clear hlow hhigh TI bW hq1 hq2 hq4 ls KM RW K5;go_wp2_with fail;refine⟨⟨i+1,_,k-z,e-z,li.set d.off vv,rs.drop z,U,Ej,O,by rw[il,dE.out],U,U,?_,?_,EaS.out,KM7.out,FL.out,l7,dG.out,u.out⟩,Jb⟩
     ·split;·have h0:rs.drop z=[]:=pT (by rw[dE.out];omega);rw[h0];exact⟨.inl O,fun x hx=>by cases hx⟩
      ·exact RW7.out
     ·intro a ha;split at ha;·injection ha with ha;subst ha;exact Kt
      ·injection ha with ha;subst ha;exact Kt
  ·obtain rfl:i=n:=U;have hdrop:ds.drop i=[]:=pT (by rw[<-BY.out,List.length_map,HN.out];omega);have hR:=HR.out;rw[hdrop] at hR;simp only[gH] at hR;replace hR:=J hR;have t1:decide ((i:Int)<(i:Int))=EI:=IZ U;clear hdrop;by_cases hk0:k=0;·subst hk0;go_wp2;go_ret;refine⟨u.out,?_⟩;rw[<-hR.out,if_pos dE.out];exact⟨O,KM.out⟩
   ·have t2:((k:Int)==0)=EI:=I8;go_wp2;go_ret;refine⟨u.out,?_⟩;rw[<-hR.out,if_neg (by rw[dE.out];exact hk0)];rfl
section
variable{P:Program}
theorem vp{n:Nat}{cs:Array Y}(hA:IL P T n)(hg:H w g cs T)(hn:cs.size=n):(loadVar T ⟨g,0,Z⟩).run P w= .ok (Ea cs) w:=by obtain⟨⟨d,hu,hd⟩,hi⟩:=hA;cases d<;>first|(cases hd;done)|exact run_loadVar_row w g T T cs (0,0) _ hg hu rfl iO
theorem dH{fn:Func}{p q:Tmp}{n:Nat}(hT:IL P T n)(h:fn.results= #[.cell p T,.tmp q])(tmps:Array Y)(w:M)(g:Nat)(cs:Array Y)(v:Y) (hp:tmps.getD p I6=V (D ⟨g,0,Z⟩)) (hq:tmps.getD q I6=v) (hg:H w g cs T) (hn:cs.size=n):(UA fn tmps).run P w= .ok (Eu #[Ea cs,v]) w:=by exact Epr
end
def fG(bs:List Int):Option (List Int):=match bs with
 |[]=>Z
 |k::xs=>match aB k with
  |none=>Z
  |some ds=>gH ds (Ia k) xs
def EaW(bs:List Int)(w:M)(e:Ud)(w':M):Prop:=
 (match fG bs with
  |none=>e=Ei (Eu #[Ea (EF (Ia 0)),E I 13])
  |some l=>e=Ei (Eu #[Ea (EF l),E I 0]))/\El w w'
theorem Ku(bs:List Int)(Y4:Option Ep)(m c:Nat)(hm:bs.length=m)(hmc:m<=c)(hc:c<=9223372036854775807)(w:M)(hr:Row w Y4 bs):Eg EZ 118 #[G Y4 m c] w (EaW bs w):=by
 cases bs with
 |nil=>
  obtain rfl:m=0:=by rw[<-hm];rfl
  clear hr;go_enter Tryz.func118,Tryz.ntmps118;go_wp2_with (with_reducible refine wA iB (Ex.mk ?_));apply Es;have K2:=J<|H.new w (EF (Ia 0)) 183;have u:=J<|Er w (Eb (EF (Ia 0)) 183);generalize w.alloc (Eb (EF (Ia 0)) 183)=w1 at*;go_wp2_with (first|((with_reducible refine Io 10 ?_);refine I4 rfl 183 _ rfl (EF (Ia 0)) jw ?_)|(with_reducible refine wS (cs:=(EF (Ia 0))) OY K2 ?_ (ho:=Ja _) (hn:=Ja _) (h1:=ZY _)));refine ET (v:=Eu #[Ea (EF (Ia 0)),E I 13]) (dH OY O _ _ w.heap.size _ _ O O (K2.out.setRow _) (Ja _)) O ⟨?_,EY u.out U _⟩;rfl
 |cons k xs=>
  obtain⟨b0,off,rfl,hc0⟩: ∃b off,Y4=D ⟨b,off,Z⟩/\w.cell? ⟨b,off,Z⟩=D (E Ix k):=by
   obtain⟨h|⟨b,off,h,hcc⟩,-⟩:=hr;·cases h
   ·exact⟨b,off,h,hcc 0 Ej⟩
  have hb0:b0<w.heap.size:=Xv _ _ hc0;have hkb:=hr.2 k dq;obtain⟨k0,k9⟩:=hkb;have HR:=J hr;have m1:1<=m:=by rw[<-hm];simp
  have HM:=J hm;have t1:((m:Int)==0)=EI:=I8;clear hr hm;go_enter Tryz.func118,Tryz.ntmps118;go_wp2_with (with_reducible refine wA iB (Ex.mk ?_));apply Es;have K2:=J<|H.new w (EF (Ia 0)) 183;have u:=J<|Er w (Eb (EF (Ia 0)) 183);replace HR:=J<|It HR.out u.out;have c1:(w.alloc (Eb (EF (Ia 0)) 183)).cell? ⟨b0,off,Z⟩=D (E Ix k):=by rw[u.out.cell hb0];exact hc0
  generalize w.alloc (Eb (EF (Ia 0)) 183)=w1 at*;clear hc0;go_wp2_with (first|((with_reducible refine Io 15 ?_);refine I4 rfl 183 _ rfl (EF (Ia k)) (EaD k) ?_)|(with_reducible refine wA iB (Ex.mk ?_)));apply Es;have l1:=K2.out.lt;have bel:=Er w1 (Eb (EF (Ia 0)) 183);have K4:=J<|H.new w1 (EF (Ia 0)) 183;replace K2:=J<|K2.out.B bel;replace HR:=J<|It HR.out bel;replace u:=EV u bel;clear bel c1;generalize w1.alloc (Eb (EF (Ia 0)) 183)=w2 at*;have lw:=u.out.size;generalize hg4:w1.heap.size=g4 at*;clear hg4;go_wp2_with (with_reducible refine wS (cs:=(EF (Ia k))) OY K4 (Ex.mk ?_) (ho:=Ja _) (hn:=Ja _) (h1:=ZY _));apply Es;have TJ:=EY (g:=g4) (IU g4 w2) (E3 _) (EF (Ia k));replace K2:=J<|K2.out.setRow_other g4 (EF (Ia k)) U;replace K4:=J<|K4.out.setRow (EF (Ia k));replace u:=J<|EY (g:=g4) u.out U (EF (Ia k));replace HR:=J<|S7 HR.out (fun a ha=>by injection ha with ha;subst ha;show b0<g4;omega) TJ;clear TJ;generalize w2.setRow g4 (EF (Ia k))=w3 at*;have l3:=K4.out.lt;go_wp2_with fail;refine(Eas g4 (Ia k) w3 K4.out).mono ?_;rintro e w4 hf;unfold Km at hf;have hkk:(Ia k).getD 0 0=k:=rfl;rw[hkk] at hf;cases hfo:aB k with
  |none=>
   rw[hfo] at hf;obtain⟨rfl,rfl⟩:=hf;have hp:fG (k::xs)=Z:=by unfold fG;simp only[hfo]
   replace hp:=J hp;clear hfo hkk;go_wp2_with (first|((with_reducible refine Io 29 ?_);refine I4 rfl 183 _ rfl (EF (Ia 0)) jw ?_)|(with_reducible refine wS (cs:=(EF (Ia 0))) OY K2 ?_ (ho:=Ja _) (hn:=Ja _) (h1:=ZY _)));refine ET (v:=Eu #[Ea (EF (Ia 0)),E I 13]) (dH OY O _ _ w.heap.size _ _ O O (K2.out.setRow _) (Ja _)) O ⟨?_,EY u.out U _⟩;rw[hp.out]
  |some ds=>
   rw[hfo] at hf;obtain⟨gl,cp,fs,rfl,hds,hfl,b4⟩:=hf;have TU:=SY hfo;have hd7:=(BH hfo).2.2.1;have hp:fG (k::xs)=gH ds (Ia k) xs:=by unfold fG;simp only[hfo]
   have HP:=J hp;have l4:=b4.size;replace K2:=J<|K2.out.B b4;replace K4:=J<|K4.out.B b4;replace HR:=J<|It HR.out b4;replace u:=EV u b4;obtain⟨A2,hA2⟩: ∃A:Option Ep,A=if c=1 then D ⟨b0,off,Z⟩ else D ⟨b0,off+1,Z⟩:=⟨_,O⟩
   have hx:xs.length=m-1:=by have:=HM.out;rw[Zn] at this;omega
   have hrow:Row w4 A2 xs:=by
    rw[hA2];split;·have h0:xs=[]:=ZP U;rw[h0];exact⟨.inl O,fun x hx=>by cases hx⟩
    ·exact lf HR.out 1
   have hA3: ∀a,A2=D a->a.block<g4:=by
    intro a ha;rw[hA2] at ha;split at ha;·injection ha with ha;subst ha;show b0<g4;omega
    ·injection ha with ha;subst ha;show b0<g4;omega
   have CT:=J<|EaQ fs ds hds TU ds.length (by rw[<-hds,List.length_map]) U gl cp g4 w3.heap.size (Ia k) ⟨O,.inl O⟩ xs A2 (m-1) (c-1) hx U U w4 hrow hA3 hfl l3 l4 K4.out;generalize ds.length=n at*;clear hds hfl TU hfo hkk b4 hx hrow hA3 hp;have El1:=hA2.symm;replace hA2:=J hA2;go_wp2_with fail;refine(CT.out).mono ?_;rintro e' w5 ⟨b5,hpost⟩;have k2:H w5 w.heap.size (EF (Ia 0)) 183:=(b5.block _ U).trans K2.out;replace K2:=J k2;replace u:=J<|u.out.trans (b5.mono U);clear k2 b5 K4 CT;cases hR:gH ds (Ia k) xs with
   |none=> rw[hR] at hpost;obtain rfl:=hpost;have HRR:=J hR;clear hR;go_wp2_with (first|((with_reducible refine Io 29 ?_);refine I4 rfl 183 _ rfl (EF (Ia 0)) jw ?_)|(with_reducible refine wS (cs:=(EF (Ia 0))) OY K2 ?_ (ho:=Ja _) (hn:=Ja _) (h1:=ZY _)));refine ET (v:=Eu #[Ea (EF (Ia 0)),E I 13]) (dH OY O _ _ w.heap.size _ _ O O (K2.out.setRow _) (Ja _)) O ⟨?_,EY u.out U _⟩;rw[HP.out,HRR.out]
   |some l'=> rw[hR] at hpost;obtain⟨rfl,hk4⟩:=hpost;have HRR:=J hR;have K4:=J hk4;clear hR hk4;go_wp2_with (with_reducible first|refine wL OY K4 ?_ (hn:=Ja _)|refine wS (cs:=(EF l')) OY K2 ?_ (ho:=Ja _) (hn:=Ja _) (h1:=ZY _));refine ET (v:=Eu #[Ea (EF l'),E I 0]) (dH OY O _ _ w.heap.size _ _ O O (K2.out.setRow _) (Ja _)) O ⟨?_,EY u.out U _⟩;rw[HP.out,HRR.out]
theorem EaY{d:FD}(hd:d.vm)(hb: ∀x∈bs,0<=x/\x<=255)(hl:bs.length=wd d)(h1: ¬Zd d bs<d.lo)(h2: ¬d.hi<Zd d bs):sT d (Zd d bs)=D bs:=by
 unfold sT;rw[if_neg h1,if_neg h2];have e:=EUh bs hb;have hn:=uY bs hb bs.length U;rw[List.take_length] at hn;by_cases h3:d.lo<0
 ·rw[if_pos h3];have h2':bs.length=2:=by rw[hl];unfold wd;rw[if_pos h3]
  unfold Zd;rw[if_pos h3];rw[h2'] at e hn;have h65:num bs<65536:=hn.2;have:sig bs%65536=num bs:=by unfold sig;split<;>omega
  rw[this,e]
 ·rw[if_neg h3];have hk:d.size.toNat=bs.length:=by rw[hl,hd.size];simp
  unfold Zd;rw[if_neg h3,hk,e]
theorem TX(ds:List FD)(l:List Int)(hl:l.length=12)(hd: ∀d∈ds,d.off<12)(o:Nat)(h: ∃d∈ds,d.off=o):(J1 ds l).getD o 0=0:=by
 induction ds generalizing l with
 |nil=>obtain⟨d,hd,_⟩:=h;cases hd
 |cons d ds ih=>
  show(J1 ds (l.set d.off 0)).getD o 0=0;by_cases hex: ∃e∈ds,e.off=o;·exact ih _ (by rw[List.length_set];exact hl) (fun d h=>hd d (XU _ h)) hex
  ·rw[sY ds _ o (fun e he hh=>hex ⟨e,he,hh⟩)];obtain⟨e,he,vq⟩:=h;rcases UJ.1 he with rfl|he;·subst vq;have h12:=hd e dq;simp[OE,hl,h12]
   ·exact absurd ⟨e,he,vq⟩ hex
theorem TZ(h:c_ ds l=D p): ∀d∈ds,d.lo<=l.getD d.off 0/\l.getD d.off 0<=d.hi:=by
 induction ds generalizing p with
 |nil=>intro d hd;cases hd
 |cons e ds ih=>
  obtain⟨a,b,h1,h2,rfl⟩:=EaF h;intro d hd;rcases UJ.1 hd with rfl|hd
  ·unfold sT at h1;split at h1;·cases h1
   split at h1;·cases h1
   omega
  ·exact ih h2 d hd
theorem Ea0(hf: ∀d∈ds,d.vm)(hnd:(ds.map (·.off)).Nodup)(hl:l.length=12)(hb: ∀x∈xs,0<=x/\x<=255)(h:gH ds l xs=D z): c_ ds z=D xs/\J1 ds z=J1 ds l/\z.length=12/\(∀o,(∀d∈ds,d.off≠o)->z.getD o 0=l.getD o 0):=by
 induction ds generalizing l xs with
 |nil=>
  simp only[gH] at h;split at h;·rename_i h0;injection h with h;subst h;refine⟨?_,rfl,hl,fun _ _=>rfl⟩;rw[ZP h0];rfl
  ·cases h
 |cons d ds ih=>
  simp only[gH] at h;split at h;·cases h
  split at h;·cases h
  split at h;·cases h
  rename_i g1 g2 g3;rw[UB,nI] at hnd;have hd:=hf d dq;have h12:=hd.good.ok.1;obtain⟨r1,r2,r3,r4⟩:=ih (fun d h=>hf d (XU _ h)) hnd.2 (by rw[List.length_set];exact hl) (fun x hx=>hb x (List.mem_of_mem_drop hx)) h;have hno: ∀e∈ds,e.off≠d.off:=fun e he hh=>hnd.1 (by rw[<-hh];exact List.mem_map_of_mem he);have hz:=r4 d.off hno;have hset:(l.set d.off (Zd d (xs.take (wd d)))).getD d.off 0=Zd d (xs.take (wd d)):=by simp[OE,hl,h12]
  rw[hset] at hz;have ho:=EaY hd (fun x hx=>hb x (iI hx)) mR g2 g3;refine⟨?_,?_,r3,fun o ho'=> ?_⟩;·simp only[c_];rw[hz,ho,r1];simp only[iU]
  ·apply SP (by rw[BW];exact r3) (by rw[BW];exact hl);intro o El3;by_cases hh: ∃e∈d::ds,e.off=o
   ·have zz: ∀l':List Int,l'.length=12->(J1 (d::ds) l').getD o 0=0:=by
     intro l' hl';show(J1 ds (l'.set d.off 0)).getD o 0=0;obtain⟨e,he,vq⟩:=hh;by_cases hex: ∃e∈ds,e.off=o;·have:=TX ds (l'.set d.off 0) (by rw[List.length_set];exact hl') (fun d h=>(hf d (XU _ h)).good.ok.1) o hex;exact this
     ·rw[sY ds _ o (fun e he hh=>hex ⟨e,he,hh⟩)];rcases UJ.1 he with rfl|he;·subst vq;simp[OE,hl',h12]
      ·exact absurd ⟨e,he,vq⟩ hex
    rw[zz z r3,zz l hl]
   ·have hn: ∀e∈d::ds,e.off≠o:=fun e he hh'=>hh ⟨e,he,hh'⟩;rw[sY _ _ o hn,sY _ _ o hn,r4 o fun e he=>hn e (XU _ he)];simp[OE,List.getElem?_set_ne (hn d dq)]
  ·rw[r4 o fun e he=>ho' e (XU _ he)];simp[OE,List.getElem?_set_ne (ho' d dq)]
theorem Ea1(h:aB k=D ds):(ds.map (·.off)).Nodup:=by
 unfold aB at h;repeat' split at h
 all_goals first
  |(cases h;done)
  |(injection h with h
    subst h
    decide)
theorem Kv(hb: ∀x∈bs,0<=x/\x<=255)(h:fG bs=D z):sV z=D bs/\nt z:=by
 unfold fG at h;cases bs with
 |nil=>cases h
 |cons k xs=>
  simp only at h;cases hf:aB k with
  |none=>rw[hf] at h;cases h
  |some ds=>
   rw[hf] at h;simp only at h;have vr:=SY hf;obtain⟨r1,r2,r3,r4⟩:=Ea0 vr (Ea1 hf) (show(Ia k).length=12 from rfl) (fun x hx=>hb x (XU _ hx)) h;have h0:z.getD 0 0=k:=(r4 0 fun d hd=>by have:=(vr d hd).good.off1;omega).trans O
   have hzz:J1 ds (Ia k)=Ia k:=by
    apply SP (by rw[BW];rfl) O;intro o ho;by_cases hh: ∃e∈ds,e.off=o;·rw[TX ds (Ia k) O (fun d h=>(vr d h).good.ok.1) o hh];obtain⟨e,he,rfl⟩:=hh;have h1:=(vr e he).good.off1;have ho':e.off=1\/e.off=2\/e.off=3\/e.off=4\/e.off=5\/e.off=6\/e.off=7\/e.off=8\/e.off=9\/e.off=10\/e.off=11:=U;rcases ho' with h|h|h|h|h|h|h|h|h|h|h<;>rw[h]<;>rfl
    ·exact sY ds _ o fun e he hh'=>hh ⟨e,he,hh'⟩
   refine⟨?_,r3,?_⟩;·unfold sV;rw[h0,hf];simp only[r1];rw[if_pos (r2.trans hzz)]
   ·by_cases hh: ∃d∈ds,d.off=7;·obtain⟨d,hd,h7⟩:=hh;have hfd:=vr d hd;have hin:=TZ r1 d hd;have:=hfd.now h7;rw[h7] at hin;omega
    ·left;rw[r4 7 fun d hd e=>hh ⟨d,hd,e⟩];rfl
def gK(n lo hi:Int):Bool:=decide (lo<=n)&&decide (n<=hi)
def Ea3(k s r t e m c n x0 x1 x2 x3:Int):List Int:=
 if k=1\/k=2 then [k,0,r,0,0,0,0,0,0,0,0,0] else if k=5 then [k,s,0,0,0,0,0,n,0,0,0,0] else if k=6 then [k,s,0,t,0,0,0,0,0,0,0,0] else if k=7 then [k,s,0,0,e,0,0,0,0,0,0,0]
 else if k=10 then [k,s,0,0,e,m,0,0,0,0,0,0] else if k=11 then [k,s,0,0,e,0,c,0,x0,x1,x2,x3] else [k,s,0,0,0,0,0,0,0,0,0,0]
def Kw(a0 a1 a2 a3 a4 a5 a6 a8 a9 Uf OU:Int):Bool:=gK a8 (-32768) 32767&&gK a9 (-32768) 32767&&gK Uf (-32768) 32767&&gK OU (-32768) 32767&&gK a0 1 11&&gK a1 0 4294967295&&gK a4 0 65535&&gK a2 0 3&&gK a3 0 4&&gK a5 0 4&&gK a6 (if a0=11 then 1 else 0) 3
theorem Kx(a0 a1 a2 a3 a4 a5 a6 a8 a9 Uf OU:Int):Kw a0 a1 a2 a3 a4 a5 a6 a8 a9 Uf OU=EJ↔(-32768<=a8/\a8<=32767)/\(-32768<=a9/\a9<=32767)/\(-32768<=Uf/\Uf<=32767)/\(-32768<=OU/\OU<=32767)/\(1<=a0/\a0<=11)/\(0<=a1/\a1<=4294967295)/\(0<=a4/\a4<=65535)/\(0<=a2/\a2<=3)/\(0<=a3/\a3<=4)/\(0<=a5/\a5<=4)/\((if a0=11 then 1 else 0)<=a6/\a6<=3):=by
 unfold Kw gK;simp only[Oj,decide_eq_true_iff];constructor;·rintro⟨⟨⟨⟨⟨⟨⟨⟨⟨⟨h1,h2⟩,h3⟩,h4⟩,h5⟩,h6⟩,h7⟩,h8⟩,h9⟩,h10⟩,h11⟩;exact⟨h1,h2,h3,h4,h5,h6,h7,h8,h9,h10,h11⟩
 ·rintro⟨h1,h2,h3,h4,h5,h6,h7,h8,h9,h10,h11⟩;exact⟨⟨⟨⟨⟨⟨⟨⟨⟨⟨h1,h2⟩,h3⟩,h4⟩,h5⟩,h6⟩,h7⟩,h8⟩,h9⟩,h10⟩,h11⟩
theorem Ta(a0 a1 a2 a3 a4 a5 a6 a7 a8 a9 Uf OU:Int)(bs:List Int)(h:sV [a0,a1,a2,a3,a4,a5,a6,a7,a8,a9,Uf,OU]=D bs):Kw a0 a1 a2 a3 a4 a5 a6 a8 a9 Uf OU=EJ/\Ea3 a0 a1 a2 a3 a4 a5 a6 a7 a8 a9 Uf OU=[a0,a1,a2,a3,a4,a5,a6,a7,a8,a9,Uf,OU]:=by
 obtain⟨ds,ps,f1,o1,z1,-⟩:=SN h;have hin:=TZ o1;rw[show([a0,a1,a2,a3,a4,a5,a6,a7,a8,a9,Uf,OU]:List Int).getD 0 0=a0 from rfl] at f1 z1;obtain⟨k1,k11,-,-⟩:=BH f1;have hk:a0=1\/a0=2\/a0=3\/a0=4\/a0=5\/a0=6\/a0=7\/a0=8\/a0=9\/a0=10\/a0=11:=U;rw[Kx];rcases hk with rfl|rfl|rfl|rfl|rfl|rfl|rfl|rfl|rfl|rfl|rfl;·obtain rfl:[Xa]=ds:=fb f1;simp only[J1,Ia,jy,jz,Xa,Ic,If,Z3,dJ,true_and,and_true] at z1;obtain⟨rfl,rfl,rfl,rfl,rfl,rfl,rfl,rfl,rfl,rfl⟩:=z1;have gr:=hin (Xa) Ej;replace gr:(0:Int)<=a2/\a2<=3:=gr;refine⟨?_,O⟩;simp only[if_true,show¬(1:Int)=11 from EU,if_false];omega
 ·obtain rfl:[Xa]=ds:=fb f1;simp only[J1,Ia,jy,jz,Xa,Ic,If,Z3,dJ,true_and,and_true] at z1;obtain⟨rfl,rfl,rfl,rfl,rfl,rfl,rfl,rfl,rfl,rfl⟩:=z1;have gr:=hin (Xa) Ej;replace gr:(0:Int)<=a2/\a2<=3:=gr;refine⟨?_,O⟩;simp only[if_true,show¬(2:Int)=11 from EU,if_false];omega
 ·obtain rfl:[Ii]=ds:=fb f1;simp only[J1,Ia,jy,jz,Ii,Ic,If,Z3,dJ,true_and,and_true] at z1;obtain⟨rfl,rfl,rfl,rfl,rfl,rfl,rfl,rfl,rfl,rfl⟩:=z1;have gs:=hin (Ii) Ej;replace gs:(0:Int)<=a1/\a1<=4294967295:=gs;refine⟨?_,O⟩;simp only[if_true,show¬(3:Int)=11 from EU,if_false];omega
 ·obtain rfl:[Ii]=ds:=fb f1;simp only[J1,Ia,jy,jz,Ii,Ic,If,Z3,dJ,true_and,and_true] at z1;obtain⟨rfl,rfl,rfl,rfl,rfl,rfl,rfl,rfl,rfl,rfl⟩:=z1;have gs:=hin (Ii) Ej;replace gs:(0:Int)<=a1/\a1<=4294967295:=gs;refine⟨?_,O⟩;simp only[if_true,show¬(4:Int)=11 from EU,if_false];omega
 ·obtain rfl:[Ii,dB]=ds:=fb f1;simp only[J1,Ia,jy,jz,dB,Ii,Ic,If,Z3,dJ,true_and,and_true] at z1;obtain⟨rfl,rfl,rfl,rfl,rfl,rfl,rfl,rfl,rfl⟩:=z1;have gs:=hin (Ii) Ej;replace gs:(0:Int)<=a1/\a1<=4294967295:=gs;have gn:=hin (dB) Ej;replace gn:(0:Int)<=a7/\a7<=1:=gn;refine⟨?_,O⟩;simp only[if_true,show¬(5:Int)=11 from EU,if_false];omega
 ·obtain rfl:[Ii,Jj]=ds:=fb f1;simp only[J1,Ia,jy,jz,Ii,Jj,Ic,If,Z3,dJ,true_and,and_true] at z1;obtain⟨rfl,rfl,rfl,rfl,rfl,rfl,rfl,rfl,rfl⟩:=z1;have gs:=hin (Ii) Ej;replace gs:(0:Int)<=a1/\a1<=4294967295:=gs;have gt:=hin (Jj) Ej;replace gt:(0:Int)<=a3/\a3<=4:=gt;refine⟨?_,O⟩;simp only[if_true,show¬(6:Int)=11 from EU,if_false];omega
 ·obtain rfl:[Ii,IS]=ds:=fb f1;simp only[J1,Ia,jy,jz,IS,Ii,Ic,If,Z3,dJ,true_and,and_true] at z1;obtain⟨rfl,rfl,rfl,rfl,rfl,rfl,rfl,rfl,rfl⟩:=z1;have gs:=hin (Ii) Ej;replace gs:(0:Int)<=a1/\a1<=4294967295:=gs;have ge:=hin (IS) Ej;replace ge:(0:Int)<=a4/\a4<=65535:=ge;refine⟨?_,O⟩;simp only[if_true,show¬(7:Int)=11 from EU,if_false];omega
 ·obtain rfl:[Ii]=ds:=fb f1;simp only[J1,Ia,jy,jz,Ii,Ic,If,Z3,dJ,true_and,and_true] at z1;obtain⟨rfl,rfl,rfl,rfl,rfl,rfl,rfl,rfl,rfl,rfl⟩:=z1;have gs:=hin (Ii) Ej;replace gs:(0:Int)<=a1/\a1<=4294967295:=gs;refine⟨?_,O⟩;simp only[if_true,show¬(8:Int)=11 from EU,if_false];omega
 ·obtain rfl:[Ii]=ds:=fb f1;simp only[J1,Ia,jy,jz,Ii,Ic,If,Z3,dJ,true_and,and_true] at z1;obtain⟨rfl,rfl,rfl,rfl,rfl,rfl,rfl,rfl,rfl,rfl⟩:=z1;have gs:=hin (Ii) Ej;replace gs:(0:Int)<=a1/\a1<=4294967295:=gs;refine⟨?_,O⟩;simp only[if_true,show¬(9:Int)=11 from EU,if_false];omega
 ·obtain rfl:[Ii,IS,cM]=ds:=fb f1;simp only[J1,Ia,jy,jz,IS,cM,Ii,Ic,If,Z3,dJ,true_and,and_true] at z1;obtain⟨rfl,rfl,rfl,rfl,rfl,rfl,rfl,rfl⟩:=z1;have gs:=hin (Ii) Ej;replace gs:(0:Int)<=a1/\a1<=4294967295:=gs;have ge:=hin (IS) Ej;replace ge:(0:Int)<=a4/\a4<=65535:=ge;have gm:=hin (cM) Ej;replace gm:(0:Int)<=a5/\a5<=4:=gm;refine⟨?_,O⟩;simp only[if_true,show¬(10:Int)=11 from EU,if_false];omega
 ·obtain rfl:[Ii,IS,dC,JG 0,JG 1,JG 2,JG 3]=ds:=fb f1;simp only[J1,Ia,jy,jz,JG,dC,IS,Ii,Ic,If,Z3,dJ,true_and,and_true] at z1;obtain⟨rfl,rfl,rfl,rfl⟩:=z1;have gs:=hin (Ii) Ej;replace gs:(0:Int)<=a1/\a1<=4294967295:=gs;have ge:=hin (IS) Ej;replace ge:(0:Int)<=a4/\a4<=65535:=ge;have gc:=hin (dC) Ej;replace gc:(1:Int)<=a6/\a6<=3:=gc;have Tb:=hin (JG 0) Ej;replace Tb:(-32768:Int)<=a8/\a8<=32767:=Tb;have Tc:=hin (JG 1) Ej;replace Tc:(-32768:Int)<=a9/\a9<=32767:=Tc;have Td:=hin (JG 2) Ej;replace Td:(-32768:Int)<=Uf/\Uf<=32767:=Td;have Tf:=hin (JG 3) Ej;replace Tf:(-32768:Int)<=OU/\OU<=32767:=Tf;refine⟨?_,O⟩;simp only[if_true];omega
structure Ky where
 tab:EK
 msg:List Int
 code:Int
def Zw(T:EK)(i:Nat)(bs:List Int):Ky:=match fG bs with
 |none=>⟨T,Ia 0,13⟩
 |some l=>if l.getD 0 0=1\/l.getD 0 0=2 then⟨T,Ia 0,13⟩
  else if(O_ (T.E4 i).win (l.getD 1 0).toNat).2 then⟨T.put i ⟨EJ,0,max T.Iu 0,(T.E4 i).r,(T.E4 i).key,(O_ (T.E4 i).win (l.getD 1 0).toNat).1⟩,l,0⟩
  else⟨T,Ia 0,15⟩
def s_(key:List Int)(src:Int)(xs:List Int):Prop:=8<=xs.length/\xs=xs.take (xs.length-8)++fD key src (xs.take (xs.length-8))
instance(key:List Int)(src:Int)(xs:List Int):Decidable (s_ key src xs):=by unfold s_;exact inferInstance
def EK.take(T:EK)(src:Int)(xs:List Int):Ky:=
 if(src=1\/src=2\/src=3)/\(T.E4 (src-1).toNat).on=EJ then
  (if s_ (T.E4 (src-1).toNat).key src xs then Zw T (src-1).toNat (xs.take (xs.length-8)) else⟨T,Ia 0,14⟩)
 else⟨T,Ia 0,16⟩
def Tg(o:Ky)(g:Nat)(w:M)(e:Ud)(w':M):Prop:=e=Ei (Eu #[Ea (EF o.msg),E I o.code])/\Iv w' g o.tab/\E7 g w w'
theorem Th(hb: ∀x∈bs,0<=x/\x<=255)(h:fG bs=D l):0<=l.getD 1 0/\l.getD 1 0<=4294967295:=by
 obtain⟨hp,hl,-⟩:=Kv hb h;match l,hl with
 |[a0,a1,a2,a3,a4,a5,a6,a7,a8,a9,Uf,OU],_=> obtain⟨hf,-⟩:=Ta a0 a1 a2 a3 a4 a5 a6 a7 a8 a9 Uf OU bs hp;exact((Kx _ _ _ _ _ _ _ _ _ _ _).1 hf).2.2.2.2.2.1
theorem Kz(pre old post:List Y)(o n:Nat)(ho:pre.length=o)(hn:old.length=n):(pre++(old++post)).toArray.extract o (o+n)=old.toArray:=by subst ho hn;simp
theorem Ea4(T:EK)(h:T.ok)(i:Nat):T.v.toArray.extract (so i+4) (so i+4+32)=Em (T.E4 i).key:=by rw[T.sg i];have e:T.pre i++((T.E4 i).v++T.post i)=(T.pre i++(OV (T.E4 i).on (T.E4 i).a (T.E4 i).m++[E I (T.E4 i).r]))++((T.E4 i).key.map (E .u8)++(Ui (T.E4 i).win++T.post i)):=CU;rw[e];exact Kz _ _ _ _ _ (by simp[EK.pi h i,OV]) (by simp[(h.E4 i).len])
theorem Ea5(T:EK)(h:T.ok)(i:Nat):T.v.toArray.extract (so i+36) (so i+36+3)=(Ui (T.E4 i).win).toArray:=by rw[T.sg i];have e:T.pre i++((T.E4 i).v++T.post i)=(T.pre i++(OV (T.E4 i).on (T.E4 i).a (T.E4 i).m++([E I (T.E4 i).r]++(T.E4 i).key.map (E .u8))))++(Ui (T.E4 i).win++T.post i):=CU;rw[e];exact Kz _ _ _ _ _ Ti (sf _)
theorem Ea6{T:EK}(K:Iv W g T)(h:T.ok)(i:Nat)(v:Option (Nat×Nat)): Iv (W.setCells g (so i+36) (Ui v)) g (T.put i {T.E4 i with win:=v}):=by unfold Iv at*;rw[T.sg i] at K;rw[T.uL i];have e1:T.pre i++((T.E4 i).v++T.post i)=(T.pre i++(OV (T.E4 i).on (T.E4 i).a (T.E4 i).m++([E I (T.E4 i).r]++(T.E4 i).key.map (E .u8))))++(Ui (T.E4 i).win++T.post i):=CU;have e2:T.pre i++(({T.E4 i with win:=v}:JF).v++T.post i)=(T.pre i++(OV (T.E4 i).on (T.E4 i).a (T.E4 i).m++([E I (T.E4 i).r]++(T.E4 i).key.map (E .u8))))++(Ui v++T.post i):=CU;rw[e1] at K;rw[e2];exact Zm _ _ _ _ W K (by rw[sf,sf]) Ti
theorem EK.Ea7(T:EK)(i:Nat)(a:JF):(T.put i a).Iu=T.Iu/\(T.put i a).most=T.most:=by
 match i with
 |0=>exact⟨O,O⟩
 |1=>exact⟨O,O⟩
 |_+2=>exact⟨O,O⟩
theorem Cc:IL EZ 158 3:=⟨⟨_,Tryz.underlying158,O⟩,Ef⟩
theorem Ea8:Od EZ 158 (Ui Z).toArray:=by intro ev o w ho;unfold Ig;simp only[ho];simp[go_sem];exact congrArg (fun c=>w.alloc (Eb c 158)) Ef
theorem Ea9(v:Option (Nat×Nat))(q:Int)(h0:0<=q)(h1:q<=4294967295)(hv:sI v)(W:M): Eg EZ 126 #[Ea (Ui v).toArray,E I q] W fun e w'=>e=Ei (Eu #[Ea (Ui (O_ v q.toNat).1).toArray,Ec (O_ v q.toNat).2])/\El W w':=by have h:=EOc v q.toNat W hv U;rw[Qc,Qc,Int.toNat_of_nonneg h0] at h;exact h
def Cd(b0 g o g11:Nat)(wc Uy:Array Y)(q:Int)(f:Bool)(i:Nat)(v:Y)(w:M):Prop:=match i with
 |0=>v=V (D ⟨g,o,Z⟩)
 |1=>v=V (D ⟨g,o,Z⟩)
 |2=>v=V (D ⟨g,o+36,Z⟩)
 |3=>v=Ea wc
 |4=>v=V (D ⟨g11,1,Z⟩)
 |5=>v=E I q
 |6=>v=Eu #[Ea Uy,Ec f]
 |7=>v=Eu #[Ea Uy,Ec f]
 |8=>v=Ea Uy
 |9=>v=Ec f
 |10=> ∃(g12:Nat) (c:Array Y),v=V (D ⟨g12,0,Z⟩)/\b0<=g12/\c.size=Uy.size/\H w g12 c 158
 |_=>v=Ec f
theorem Ea_(b0 g o g11:Nat)(wc Uy:Array Y)(q:Int)(f:Bool): ∀i v w w',i<13->Cd b0 g o g11 wc Uy q f i v w->na b0 158 Uy w w'->Cd b0 g o g11 wc Uy q f i v w':=by
 intro i v w w' hi h hb;unfold Cd at*;split at h;case h_11=> obtain⟨g12,c,e,l1,hs,k⟩:=h;obtain⟨c',hs',k'⟩:=EOA hb k hs;exact⟨g12,c',e,l1,hs',k'⟩
 all_goals exact h
def KD(b0:Nat)(Uy:Array Y)(v:Y)(w:M):Prop:= ∃g12:Nat,v=V (D ⟨g12,0,Z⟩)/\b0<=g12/\H w g12 Uy 158
theorem EbE(b0:Nat)(Uy:Array Y): ∀v w w',KD b0 Uy v w->na b0 158 Uy w w'->KD b0 Uy v w':=by rintro v w w' ⟨g12,e,l,k⟩ hb;exact⟨g12,e,l,EOB hb k⟩
theorem Tj(v:Option (Nat×Nat)):(Ui v).toArray.all (·.oneCell')=EJ:=by rcases v with _|⟨h,q⟩<;>simp[Ui,Oc]
theorem Tk{v:Option (Nat×Nat)}{q:Nat}(hv:sI v)(hq:q<=4294967295):sI (O_ v q).1:=by
 rcases v with _|⟨h,s⟩;·exact⟨hq,EU⟩
 ·obtain⟨h1,h2⟩:=hv;by_cases c1:h<q
  ·have e:O_ (D (h,s)) q=(D (q,(s*2^(q-h))%2^64|||1),EJ):=by simp only[O_,if_pos c1]
   rw[e];exact⟨hq,Nat.or_lt_two_pow (Nat.mod_lt _ EU) EU⟩
  ·by_cases c2:h-q<64
   ·have e:O_ (D (h,s)) q=(D (h,s|||2^(h-q)),!s.testBit (h-q)):=by simp only[O_,if_neg c1,if_pos c2]
    rw[e];exact⟨h1,Nat.or_lt_two_pow h2 (Nat.pow_lt_pow_right EU c2)⟩
   ·have e:O_ (D (h,s)) q=(D (h,s),EI):=by simp only[O_,if_neg c1,if_neg c2]
    rw[e];exact⟨h1,h2⟩
theorem EbI(g:Nat)(T:EK)(src:Int)(xs:List Int)(Y4:Option Ep)(n c:Nat)(w:M)(K:Iv w g T)(h:T.ok)(hn:xs.length=n)(hnc:n<=c)(hc:c<=9223372036854775807)(hs:n<=1000)(hr:Row w Y4 xs)(hR:Ju w): Eg EZ 88 #[V (D ⟨g,0,Z⟩),E I src,G Y4 n c] w (Tg (T.take src xs) g w):=by
 have lg0:=H.lt K;have CO:=J<|fun W (k:H W g T.v.toArray 163)=>u9 g T src W k h;have KT:Ed (H w g T.v.toArray 163):=J K;have RT:=J hR;have HR:=J hr;have HH:=J h;obtain⟨R,hRR⟩:=Eo (T.take src xs);rw[<-hRR];have PO:Ed (∀(e:Ud) (w':M) (l:List Int) (k:Int) (T2:EK),R=⟨T2,l,k⟩->e=Ei (Eu #[Ea (EF l),E I k])->Iv w' g T2->E7 g w w'->Tg R g w e w'):=J (by intro e w' l k T2 hR he hk ho;subst hR;exact⟨he,hk,ho⟩);rcases AN T g src with⟨e1,e2,-⟩|⟨i,hi,es,hon,e1,-,-⟩
 ·have hR0:R=⟨T,Ia 0,16⟩:=by rw[hRR];unfold EK.take;rw[if_neg];rintro⟨hs,ho⟩;have:=e2 U U;unfold EK.XN at this;rw[if_neg U,if_neg U,if_pos hs,ho] at this;cases this
  rw[e1] at CO;have PF:=J<|fun e w' he hk ho=>PO.out e w' _ _ _ hR0 he hk ho;clear hR0 hRR e1 e2 K h hr hR PO;go_enter Tryz.func88,Tryz.ntmps88;go_wp2_with (with_reducible refine wA iB (Ex.mk ?_));apply Es;have K2:=J<|H.new w (EF (Ia 0)) 183;have b1:=Er w (Eb (EF (Ia 0)) 183);replace KT:=J<|KT.out.B b1;replace RT:=J<|RT.out.B b1;replace HR:=J<|It HR.out b1;have ON:Ed (E7 g w (w.alloc (Eb (EF (Ia 0)) 183))):=J<|E7.ED b1;generalize w.alloc (Eb (EF (Ia 0)) 183)=w1 at*;clear b1;go_wp2_with fail;refine(CO.out _ KT.out).mono ?_;rintro e w' ⟨rfl,rfl⟩;clear CO;go_wp2_with (first|((with_reducible refine Io 19 ?_);refine I4 rfl 183 _ rfl (EF (Ia 0)) jw ?_)|(with_reducible refine wS (cs:=(EF (Ia 0))) OY K2 ?_ (ho:=Ja _) (hn:=Ja _) (h1:=ZY _)));refine ET (v:=Eu #[Ea (EF (Ia 0)),E I 16]) (dH OY O _ _ w.heap.size _ _ O O (K2.out.setRow _) (Ja _)) O ?_;exact EnA
 ·have e2:(src-1).toNat=i:=U;have hs3:src=1\/src=2\/src=3:=U;have hR0:R=if s_ (T.E4 i).key src xs then Zw T i (xs.take (xs.length-8)) else⟨T,Ia 0,14⟩:=by rw[hRR];unfold EK.take;rw[e2,if_pos ⟨hs3,hon⟩]
  rw[e1] at CO;have hso:=h.E4 i;obtain⟨key,hkey⟩:=Eo ((T.E4 i).key);have TK:=Ea4 T h i;rw[<-hkey] at hR0 TK;have hkl:key.length=32:=by rw[hkey];exact hso.len
  have hkb: ∀x∈key,0<=x/\x<=255:=by rw[hkey];exact hso.bytes
  replace TK:=J TK;have lj:=J hR0;have fB:=J hkl;have pN:=J hkb;have HKEY:=J hkey;have HN:=J hn;have hks:Ed ((Em key).size=32):=J (by rw[Ob,hkl]);obtain⟨o,ho⟩:=Eo (so i);rw[<-ho] at CO TK;have HO:=J ho;have HON:=J hon;clear hRR e1 e2 hs3 K h hr hR hkl hkb hkey hn hR0 ho hon hso es;go_enter Tryz.func88,Tryz.ntmps88;go_wp2_with (with_reducible refine wA iB (Ex.mk ?_));apply Es;have K2:=J<|H.new w (EF (Ia 0)) 183;have b1:=Er w (Eb (EF (Ia 0)) 183);replace KT:=J<|KT.out.B b1;replace RT:=J<|RT.out.B b1;replace HR:=J<|It HR.out b1;have ON:Ed (E7 g w (w.alloc (Eb (EF (Ia 0)) 183))):=J<|E7.ED b1;generalize w.alloc (Eb (EF (Ia 0)) 183)=w1 at*;clear b1;go_wp2_with fail;refine(CO.out _ KT.out).mono ?_;rintro e w' ⟨rfl,rfl⟩;clear CO;obtain⟨kv,hkv⟩:=Eo (Em key);rw[<-hkv] at hks TK;replace hkv:=J hkv;by_cases hn8:n<8
  ·have nL:R=⟨T,Ia 0,14⟩:=by rw[lj.out,if_neg];rintro⟨h8,-⟩;rw[HN.out] at h8;omega
   have PF:=J<|fun e w' he hk ho=>PO.out e w' _ _ _ nL he hk ho;clear nL;go_wp2_with (with_reducible refine wM (off:=(o+4)) (cs:=kv) UX KT ?_ (hn:=hks.out) (he:=TK.out));rw[hkv.out];refine(EZL key Y4 n c src _ hn8).mono ?_;exact Erl
  obtain⟨m,rfl⟩: ∃m,n=m+8:=⟨n-8,U⟩;have em:xs.length-8=m:=sy;by_cases hx:xs=xs.take m++fD key src (xs.take m)
  ·have nL:R=Zw T i (xs.take m):=by rw[lj.out,if_pos,em];unfold s_;rw[em,HN.out];exact⟨U,hx⟩
   have HR1:=J nL;clear nL;go_wp2_with (with_reducible refine wM (off:=(o+4)) (cs:=kv) UX KT ?_ (hn:=hks.out) (he:=TK.out));rw[hkv.out];refine(EZQ key xs Y4 m c src _ fB.out pN.out HN.out HR.out U U RT.out hx).mono ?_;rintro e w2 ⟨⟨A3,d3,rfl,o3⟩,b2⟩;have O3:=J o3;have KV:Ed ((xs.take m).length=m):=J (by rw[ar,HN.out];omega);clear hx o3;replace K2:=J<|K2.out.B b2;replace KT:=J<|KT.out.B b2;replace ON:=J<|ON.out.trans (E7.ED b2);replace RT:=J<|RT.out.B b2;clear b2;obtain⟨bs,hbs⟩:=Eo (xs.take m);rw[<-hbs] at O3 KV HR1;clear hbs;have hcap:=EaH O3.out;rw[KV.out] at hcap;have CT:=J<|Ku bs A3 m d3 KV.out hcap.1 hcap.2 _ O3.out.row;have B_:=J O3.out.2;clear hcap;go_wp2_with fail;refine(CT.out).mono ?_;rintro e w3 ⟨hpost,b3⟩;clear CT O3;replace K2:=J<|K2.out.B b3;replace KT:=J<|KT.out.B b3;replace ON:=J<|ON.out.trans (E7.ED b3);replace RT:=J<|RT.out.B b3;clear b3;cases htk:fG bs with
   |none=>
    rw[htk] at hpost;obtain rfl:=hpost;have hR2:R=⟨T,Ia 0,13⟩:=by rw[HR1.out];unfold Zw;rw[htk]
    have PF:=J<|fun e w' he hk ho=>PO.out e w' _ _ _ hR2 he hk ho;clear htk hR2;go_wp2_with (with_reducible refine wA iB (Ex.mk ?_));apply Es;have l2:=K2.out.lt;have lt:=KT.out.lt;have lr:=RT.out.lt;have b4:=Er w3 (Eb (EF (Ia 0)) 183);replace K2:=J<|K2.out.B b4;replace KT:=J<|KT.out.B b4;replace ON:=J<|ON.out.trans (E7.ED b4);replace RT:=J<|RT.out.B b4;have Jp:=J<|H.new w3 (EF (Ia 0)) 183;clear b4;generalize w3.alloc (Eb (EF (Ia 0)) 183)=w4 at*;generalize w3.heap.size=g11 at*;have vt:=ON.out.size;have K_:w.heap.size<=g11:=U;go_wp2_with (with_reducible refine wS (cs:=(EF (Ia 0))) OY Jp (Ex.mk ?_) (ho:=Ja _) (hn:=Ja _) (h1:=ZY _));apply Es;replace K2:=J<|K2.out.setRow_other g11 (EF (Ia 0)) U;replace KT:=J<|KT.out.setRow_other g11 (EF (Ia 0)) U;replace Jp:=J<|Jp.out.setRow (EF (Ia 0));replace RT:=J<|RT.out.setRow g11 (EF (Ia 0)) U;replace ON:=J<|ON.out.gF (g2:=g11) K_ (iu (EF (Ia 0))) vt;generalize w4.setRow g11 (EF (Ia 0))=w5 at*;clear vt;exact Eny
   |some l=>
    rw[htk] at hpost;obtain rfl:=hpost;have Cf:=Th B_.out htk;have gL:=J htk;clear htk;go_wp2_with (with_reducible refine wA iB (Ex.mk ?_));apply Es;have l2:=K2.out.lt;have lt:=KT.out.lt;have lr:=RT.out.lt;have b4:=Er w3 (Eb (EF (Ia 0)) 183);replace K2:=J<|K2.out.B b4;replace KT:=J<|KT.out.B b4;replace ON:=J<|ON.out.trans (E7.ED b4);replace RT:=J<|RT.out.B b4;have Jp:=J<|H.new w3 (EF (Ia 0)) 183;clear b4;generalize w3.alloc (Eb (EF (Ia 0)) 183)=w4 at*;generalize w3.heap.size=g11 at*;have vt:=ON.out.size;have K_:w.heap.size<=g11:=U;go_wp2_with (with_reducible refine wS (cs:=(EF l)) OY Jp (Ex.mk ?_) (ho:=Ja _) (hn:=Ja _) (h1:=ZY _));apply Es;replace K2:=J<|K2.out.setRow_other g11 (EF l) U;replace KT:=J<|KT.out.setRow_other g11 (EF l) U;replace Jp:=J<|Jp.out.setRow (EF l);replace RT:=J<|RT.out.setRow g11 (EF l) U;replace ON:=J<|ON.out.gF (g2:=g11) K_ (iu (EF l)) vt;generalize w4.setRow g11 (EF l)=w5 at*;clear vt;have c0:w5.cell? ⟨g11,0,Z⟩=D (E I (l.getD 0 0)):=(Jp.out.cell 0).trans (Zq l 0 U);obtain⟨kd,hkd⟩:=Eo (l.getD 0 0);rw[<-hkd] at c0;by_cases h12:kd=1\/kd=2
    ·have hR2:R=⟨T,Ia 0,13⟩:=by rw[HR1.out];unfold Zw;rw[gL.out];simp only;rw[<-hkd,if_pos h12]
     have PF:=J<|fun e w' he hk ho=>PO.out e w' _ _ _ hR2 he hk ho;clear hR2 hkd;rcases h12 with rfl|rfl;·exact Eny
     ·exact Eny
    have n1:(kd==1)=EI:=beq_eq_false_iff_ne.2 (fun h=>h12 (.inl h));have n2:(kd==2)=EI:=beq_eq_false_iff_ne.2 (fun h=>h12 (.inr h));have hR2:R=if(O_ (T.E4 i).win (l.getD 1 0).toNat).2 then⟨T.put i ⟨EJ,0,max T.Iu 0,(T.E4 i).r,(T.E4 i).key,(O_ (T.E4 i).win (l.getD 1 0).toNat).1⟩,l,0⟩ else⟨T,Ia 0,15⟩:=by rw[HR1.out];unfold Zw;rw[gL.out];simp only;rw[<-hkd,if_neg h12]
    obtain⟨q,hq⟩:=Eo (l.getD 1 0);rw[<-hq] at hR2 Cf;have c1:Ed ((EF l)[1]?=D (E I q)):=J (by rw[hq];exact Zq l 1 U);have CW:=J<|fun W=>Ea9 (T.E4 i).win q Cf.1 Cf.2 (HH.out.E4 i).win W;have TW:=J<|Ea5 T HH.out i;rw[<-HO.out] at TW;obtain⟨v2,hv2⟩:=Eo (O_ (T.E4 i).win q.toNat);rw[<-hv2] at hR2 CW;have Tl:sI v2.1:=by rw[hv2];exact Tk (HH.out.E4 i).win U
    obtain⟨nw,fr⟩:=v2;have EbO:=J Tl;clear Tl;obtain⟨wc,hwc⟩:=Eo ((Ui (T.E4 i).win).toArray);obtain⟨Uy,Cg⟩:=Eo ((Ui nw).toArray);simp only at hR2 CW;rw[<-hwc,<-Cg] at CW;rw[<-hwc] at TW;have SW:Ed (wc.size=3):=J (by rw[hwc];exact sf _);have tE:Ed (Uy.size=3):=J (by rw[Cg];exact sf _);have LO:=J Cg;have HR2:=J hR2;clear hkd Cf hq hv2 hwc Cg hR2 h12;go_wp2_with fail;clear c0 n1 n2;have EbU:=Jp.out.lt;have ltg:=KT.out.lt;have W1:=J<|Tj nw;rw[<-LO.out] at W1;refine EOK (ia (b0:=w5.heap.size) (T:=158) (cs:=Uy)) Ef 13 Ef Ej EU (RX (Cd w5.heap.size g o g11 wc Uy q fr) 11 10 (KD w5.heap.size Uy)) (RX.keep (Ea_ _ _ _ _ _ _ _ _) (EbE _ _)) (RX.dep (uP Ef)) ?_ ?_
    ·simp only[zT,Is,Iq,EM,Ih,Ik,Ic,If,and_true];refine⟨?_,?_,?_,?_,?_,?_,?_,?_,?_,?_,?_,?_,?_⟩;all_goals intro v w' hb hd
     ·exact IQ ia (Eh O) Ez O
     ·have d0:v 0=V (D ⟨g,o,Z⟩):=hd.at 0 rfl;exact IQ ia (Eh O) UW O
     ·have d1:v 1=V (D ⟨g,o,Z⟩):=hd.at 1 rfl;exact IQ ia (Eh O) XZ O
     ·have d2:v 2=V (D ⟨g,o+36,Z⟩):=hd.at 2 rfl;exact bi ia Cc (Eh O) ⟨O,d2⟩ (Ql hb KT.out (.inl ltg)) SW.out TW.out O
     ·exact IQ ia (Eh O) Ez O
     ·have d4:v 4=V (D ⟨g11,1,Z⟩):=hd.at 4 rfl;have cc:w'.cell? ⟨g11,1,Z⟩=D (E I q):=(H.cell (Ql hb Jp.out (.inl EbU)) 1).trans c1.out;exact IQ ia (Eh O) LU O
     ·have d3:v 3=Ea wc:=hd.at 3 rfl;have d5:v 5=E I q:=hd.at 5 rfl;refine JL (f:=126) (args:= #[v 3,v 5]) (Eh O) Ez ?_;rw[d3,d5];exact(CW.out w').mono fun e w'' ⟨he,hb'⟩=>⟨_,he,Qk hb',O⟩
     ·have d6:v 6=Eu #[Ea Uy,Ec fr]:=hd.at 6 rfl;exact IQ ia (Eh O) pP O
     ·exact EqD
     ·exact EqD
     ·exact Zp (Eh O) (Ea8 _ _ _ O) (Qk (Er w' _)) ⟨_,_,O,hb.1,(show(Ui Z).toArray.size=Uy.size by rw[tE.out];rfl),H.new _ _ _⟩
     ·obtain⟨g12,c,d10,LZ,hs,k12⟩: ∃(g12:Nat) (c:Array Y),v 10=V (D ⟨g12,0,Z⟩)/\w5.heap.size<=g12/\c.size=Uy.size/\H w' g12 c 158:=hd.at 10 rfl;have d8:v 8=Ea Uy:=hd.at 8 rfl;exact cX Cc (Eh O) ⟨O,d10,d8⟩ k12 (hs.trans tE.out) tE.out W1.out (EOz k12 LZ hs) ⟨g12,d10,LZ,k12.setRow Uy⟩
     ·have d9:v 9=Ec fr:=hd.at 9 rfl;exact IQ ia (Eh O) sS O
    ·intro v w7 hb hr;obtain⟨g12,d10,LZ,jA⟩: ∃g12:Nat,v 10=V (D ⟨g12,0,Z⟩)/\w5.heap.size<=g12/\H w7 g12 Uy 158:=hr 11 U;have d8:v 8=Ea Uy:=hr 8 U;have d12:v 12=Ec fr:=hr 12 U;simp only[Is,Iq,IT,IM,EM,Ih,Ik,Ic,If];rw[d10,d12];replace jA:=J jA;have hb5:=hb.2.1 (E3 _);replace K2:=J<|K2.out.B hb5;replace KT:=J<|KT.out.B hb5;replace ON:=J<|ON.out.trans (E7.ED hb5);replace RT:=J<|RT.out.B hb5;replace Jp:=J<|Jp.out.B hb5;clear hr hb hb5 d8 d10 d12 CW c1 TW RT W1;cases fr with
     |false=>
      have vu:R=⟨T,Ia 0,15⟩:=by rw[HR2.out];rfl
      have PF:=J<|fun e w' he hk ho=>PO.out e w' _ _ _ vu he hk ho;clear vu;go_wp2_with (first|((with_reducible refine Io 63 ?_);refine I4 rfl 183 _ rfl (EF (Ia 0)) jw ?_)|(with_reducible refine wS (cs:=(EF (Ia 0))) OY K2 ?_ (ho:=Ja _) (hn:=Ja _) (h1:=ZY _)));refine ET (v:=Eu #[Ea (EF (Ia 0)),E I 15]) (dH OY O _ _ w.heap.size _ _ O O (K2.out.setRow _) (Ja _)) O ?_;exact EnA
     |true=>
      have vu:R=⟨T.put i ⟨EJ,0,max T.Iu 0,(T.E4 i).r,(T.E4 i).key,nw⟩,l,0⟩:=by rw[HR2.out];rfl
      have PF:=J<|fun e w' he hk ho=>PO.out e w' _ _ _ vu he hk ho;clear vu;have TH:Ed (w7.there g (o+36) 3):=J<|bf KT.out (by rw[sD KT.out HH.out,HO.out];have:=HU i;omega);have K8:=J<|Ea6 KT.out HH.out i nw;have vw:=J<|ON.out.trans (JP (g:=g) (Ui nw) (so i+36) w7);have vx:Ed (H (w7.setCells g (so i+36) (Ui nw)) w.heap.size (EF (Ia 0)) 183):=J<|(JP (g:=g) (Ui nw) (so i+36) w7).Ek K2.out U;have vy:Ed (H (w7.setCells g (so i+36) (Ui nw)) g11 (EF l) 183):=J<|(JP (g:=g) (Ui nw) (so i+36) w7).Ek Jp.out U;rw[<-HO.out] at K8 vw vx vy;have ew:Uy.toList=Ui nw:=by rw[LO.out]
      replace ew:=J ew;go_wp2_with (first|(with_reducible refine wL Cc jA ?_ (hn:=tE.out))|((with_reducible refine I3 158 ?_);(with_reducible refine Ux rfl 158 _ _ rfl g (o+36) Uy ?_ ?_ ?_ ?_ ?_ ?_);(·rfl);(·rfl);(·rw[tE.out];exact TH.out);(·rw[tE.out];exact Cc.2);(·rw[LO.out];exact Tj nw);refine Ex.mk ?_));apply Es;rw[ew.out];generalize w7.setCells g (o+36) (Ui nw)=w8 at*;clear jA TH KT K2 Jp ON;have hok2:=(HH.out).put i (s:={T.E4 i with win:=nw}) ⟨(HH.out.E4 i).len,(HH.out.E4 i).bytes,EbO.out⟩;have cb: ∀y:Ext w8,(EC w8 y).cell? ⟨g,120,Z⟩=D (E I T.Iu):=fun y=>by have:=(AM (Iv.B K8.out (EQ y)) hok2).1;rwa [(EK.Ea7 _ _ _).1] at this
      have KH:Ed (H w8 g (T.pre i++([Ec (T.E4 i).on,E I (T.E4 i).a,E I (T.E4 i).m]++(([E .i64 (T.E4 i).r]++((T.E4 i).key.map (E .u8)++Ui nw))++T.post i))).toArray 163):=J (by have:=K8.out;unfold Iv at this;rw[T.uL i] at this;simpa[JF.v,OV] using this);have CH:=J<|fun W (k:H W g (T.pre i++([Ec (T.E4 i).on,E I (T.E4 i).a,E I (T.E4 i).m]++(([E .i64 (T.E4 i).r]++((T.E4 i).key.map (E .u8)++Ui nw))++T.post i))).toArray 163)=>zR g o (T.pre i) _ _ _ _ 163 T.Iu W k (by rw[HO.out];exact EK.pi HH.out i);have HP:Ed (∀w',H w' g (T.pre i++(OV EJ 0 (max T.Iu 0)++(([E .i64 (T.E4 i).r]++((T.E4 i).key.map (E .u8)++Ui nw))++T.post i))).toArray 163->Iv w' g (T.put i ⟨EJ,0,max T.Iu 0,(T.E4 i).r,(T.E4 i).key,nw⟩)):=J (fun w' k=>by unfold Iv;rw[T.uL i];simpa[JF.v] using k);generalize T.Iu=Iu at*;go_wp2_with fail;refine Oa 7 Ef Ef ?_;simp only[Is,Iq,IT,IM];repeat (go_big_quiet_step ((fail)))
      refine I5 ?_;intro _ hw';obtain⟨y9,rfl⟩:=hw';have En:=EQ y9;replace KH:=J<|KH.out.B En;replace vx:=J<|vx.out.B En;replace vy:=J<|vy.out.B En;replace vw:=J<|vw.out.trans (E7.ED En);clear cb En K8;generalize EC w8 y9=w9 at*;go_wp2_with fail;refine(CH.out _ KH.out).mono ?_;rintro e U8 ⟨rfl,k10,pq⟩;have KT:=J<|HP.out _ k10;have K2:=J<|pq.Ek vx.out U;have Jp:=J<|pq.Ek vy.out U;have ON:=J<|vw.out.trans pq;clear CH KH vx vy vw pq k10 HP;go_wp2_with (with_reducible first|refine wL OY Jp ?_ (hn:=Ja _)|refine wS (cs:=(EF l)) OY K2 ?_ (ho:=Ja _) (hn:=Ja _) (h1:=ZY _));refine ET (v:=Eu #[Ea (EF l),E I 0]) (dH OY O _ _ w.heap.size _ _ O O (K2.out.setRow _) (Ja _)) O ?_;exact EnA
  ·have nL:R=⟨T,Ia 0,14⟩:=by rw[lj.out,if_neg];rintro⟨-,h8⟩;rw[em] at h8;exact hx h8
   have PF:=J<|fun e w' he hk ho=>PO.out e w' _ _ _ nL he hk ho;clear nL;go_wp2_with (with_reducible refine wM (off:=(o+4)) (cs:=kv) UX KT ?_ (hn:=hks.out) (he:=TK.out));rw[hkv.out];refine(EZP key xs Y4 m c src _ fB.out pN.out HN.out HR.out U U RT.out hx).mono ?_;exact Erl
def iC(Iu most:Int):EK:=⟨EI,0,0,U6,U6,U6,Iu,most⟩
theorem EbZ(Iu most:Int):(iC Iu most).ok:=⟨uK,uK,uK⟩
theorem Eba(Iu most:Int):Tryz.prog.built 163 [(2,E I Iu),(3,E I most)]=D (iC Iu most).v.toArray:=Ef
theorem Ebb(pv:Array Y)(Iu most:Int)(w:M)(hs:pv.size=56)(hb:pv[42]?=D (E I Iu))(hm:pv[49]?=D (E I most)): Eg EZ 43 #[Ea pv] w fun e w'=> ∃g,w.heap.size<=g/\e=Ei (V (D ⟨g,0,Z⟩))/\Iv w' g (iC Iu most)/\El w w':=by
 have BT:=J<|Eba Iu most;have K0:=J<|H.new w pv 28;have c1:(w.alloc (Eb pv 28)).cell? ⟨w.heap.size,42,Z⟩=D (E I Iu):=by rw[K0.out.cell,hb]
 have c2:(w.alloc (Eb pv 28)).cell? ⟨w.heap.size,49,Z⟩=D (E I most):=by rw[K0.out.cell,hm]
 have HE:Ed (∀x,x=(iC Iu most).v.toArray-> ∀W g,H W g x 163->Iv W g (iC Iu most)):=J fun x hx W g k=>by rw[hx] at k;exact k
 obtain⟨tv,E2⟩:=Eo ((iC Iu most).v.toArray);rw[<-E2] at BT;replace HE:=J<|HE.out tv E2;clear E2 hb hm;go_enter Tryz.func43,Tryz.ntmps43;go_wp2_with (first|((with_reducible refine Io 7 ?_);refine I4 rfl 163 _ rfl tv BT.out ?_));go_ret;exact⟨w.heap.size+1,U,O,HE.out _ _ (H.new' _ _ _ Ej),JY w _ _⟩
end Go.Proofs.YtclmichaaiohjaaGreatDoor
