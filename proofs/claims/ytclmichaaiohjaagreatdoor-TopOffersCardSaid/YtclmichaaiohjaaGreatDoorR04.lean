import Derived.Test.YtclmichaaiohjaaGreatDoorR03
import Derived.ChangeKeysEq
import Derived.Laws.StructEq
set_option maxRecDepth 100000
set_option linter.unusedVariables false
set_option linter.unusedSimpArgs false
set_option maxHeartbeats 6400000
namespace Go.Proofs.YtclmichaaiohjaaGreatDoor
open RowKit
open _root_.Array renaming getElem?_eq_getElem->dY
open Bool renaming true->u,false->B,false_eq_true->kn
open Go renaming bits->Ix,World->M,Calls->Ef,TypeId->EC,Value->V,Addr->Eu,heap_alloc_new->fL,bodyPost_ret->ET,Act->E6,Oper->EN,execOp->Iw,wpList->IZ,Operand->UH,info_parts->bQ,below_setRow->E3,wpQuiet_nil->IM,callFunc->Jj,wp_loop_rounds->O9,rounds_succ->Ic,Ending->Ut,wpList_store_mid->OH
open Act renaming put->In
open Builtin renaming append_->bP
open Ending renaming returned->Eg
open IntKind renaming wrap->oD,i64->I,u8->IP,u64->Il
open Lib renaming hid->O
open Obj renaming cells->EJ
open Go.Proofs.Tryz renaming prog->EU,func124->gU,ntmps124->gX,func160->ii,ntmps160->ij
open Result renaming andThen_ok->Uf
open RowKit renaming Below->Io,Hid->Ea,intOf->Iv
open RowKit.Below renaming refl->IE,size->XJ
open Sem renaming run_bind->Ud,run_pure->UU
open Value renaming bool->Ec,int->E,agg->EZ,slice->EI,tuple->Et,pointer->Y,oneCell'->OC
open World renaming block_lt_of_cell?->XA
open Int renaming toNat_natCast->mo
open List renaming getElem?_eq_none->aM,mem_of_mem_take->fK,getElem?_eq_getElem->Ok,range->UA,mem_cons_of_mem->ai,mem_cons_self->hO,take_append_drop->hU,take_succ_cons->Ir,length_take->aj,take_of_length_le->UZ,getD_eq_getElem?_getD->UK,getElem?_append_left->bM,getElem?_append_right->ak,map_cons->UL,take_zero->Im,getElem?_toArray->Og,setIfInBounds_toArray->Ip,length_append->I2,length_cons->ZV,mem_cons->Ui,getElem_mem->hH,append_assoc->U9,set_cons_succ->Ig,set_cons_zero->Ih,mem_append->XP,not_mem_nil->UP,drop_succ_cons->IL,drop_zero->IG,append_nil->fc,take_add_one->nm,all_nil->bO,all_cons->ar
open Nat renaming lt_or_ge->JG,le_trans->EA,le_refl->E7,zero_add->JV
open Option renaming some->D,none->Z,map_some->j_
open Option.some renaming injEq->nk
variable{g c m k d cap base gm gl:Nat}{w w':M}{A Y4 C:Option Eu}{x y z xs:List Int}{T:EC}{fs:List (FD×Nat)}
theorem sd:Od EU 160 Jp.v.toArray:=by intro ev o w ho;unfold Iw;simp only[ho];simp[go_sem];exact congrArg (fun c=>w.alloc (EJ c 160)) Ed
def It(b:Bool)(m r:Int)(key:List Int):I4:=⟨b,0,m,r,key,Z⟩
theorem EU5(r k0 k1 k2 k3 k4 k5 k6 k7 k8 k9 k10 k11 k12 k13 k14 k15 k16 k17 k18 k19 k20 k21 k22 k23 k24 k25 k26 k27 k28 AU AX AZ:Int):Tryz.prog.built 160 [(1,E I r),(2,EZ (Ej [k0,k1,k2,k3,k4,k5,k6,k7,k8,k9,k10,k11,k12,k13,k14,k15,k16,k17,k18,k19,k20,k21,k22,k23,k24,k25,k26,k27,k28,AU,AX,AZ]))]=D (It B 0 r [k0,k1,k2,k3,k4,k5,k6,k7,k8,k9,k10,k11,k12,k13,k14,k15,k16,k17,k18,k19,k20,k21,k22,k23,k24,k25,k26,k27,k28,AU,AX,AZ]).v.toArray:=Ed
theorem kV(r:Int)(key:List Int)(h:key.length=32):Tryz.prog.built 160 [(1,E I r),(2,EZ (Ej key))]=D (It B 0 r key).v.toArray:=by
 match key,h with
 |[k0,k1,k2,k3,k4,k5,k6,k7,k8,k9,k10,k11,k12,k13,k14,k15,k16,k17,k18,k19,k20,k21,k22,k23,k24,k25,k26,k27,k28,AU,AX,AZ],_=>exact EU5 r k0 k1 k2 k3 k4 k5 k6 k7 k8 k9 k10 k11 k12 k13 k14 k15 k16 k17 k18 k19 k20 k21 k22 k23 k24 k25 k26 k27 k28 AU AX AZ
theorem EU6(b:Bool)(m r:Int)(key:List Int)(hl:key.length=32)(hb: ∀x∈key,0<=x/\x<=255):(It b m r key).ok:=⟨hl,hb,trivial⟩
def sf(T:EP)(g:Nat)(src role:Int)(key:List Int)(w:M)(e:Ut)(w':M):Prop:=
 (if(src=1\/src=2\/src=3)/\0<=role/\role<=3 then
  (if(T.EY (src-1).toNat).on=B/\T.most<=T.Ik then e=Eg (E I 19)/\E2 w' g T
   else e=Eg (E I 0)/\E2 w' g (T.put (src-1).toNat (It u (max T.E9 0) role key)))
  else e=Eg (E I 1)/\E2 w' g T)/\EH g w w'
theorem EU7(g:Nat)(src role:Int)(key:List Int)(w:M)(h:src<1): Ef EU 124 #[Y (D ⟨g,0,Z⟩),E I src,E I role,EZ (Ej key)] w fun e w'=>e=Eg (E I 1)/\El w w':=by have d1:decide (src<1)=u:=Ib h;exact EmB
theorem EU8(g:Nat)(src role:Int)(key:List Int)(w:M)(h:3<src): Ef EU 124 #[Y (D ⟨g,0,Z⟩),E I src,E I role,EZ (Ej key)] w fun e w'=>e=Eg (E I 1)/\El w w':=by have d1:decide (src<1)=B:=IJ X;have d2:decide (3<src)=u:=Ib h;exact EmB
theorem EU9(g:Nat)(src role:Int)(key:List Int)(w:M)(h1:1<=src)(h2:src<=3)(h:role<0): Ef EU 124 #[Y (D ⟨g,0,Z⟩),E I src,E I role,EZ (Ej key)] w fun e w'=>e=Eg (E I 1)/\El w w':=by have d1:decide (src<1)=B:=IJ X;have d2:decide (3<src)=B:=IJ X;have d3:decide (role<0)=u:=Ib h;exact EmB
theorem EU_(g:Nat)(src role:Int)(key:List Int)(w:M)(h1:1<=src)(h2:src<=3)(h:3<role): Ef EU 124 #[Y (D ⟨g,0,Z⟩),E I src,E I role,EZ (Ej key)] w fun e w'=>e=Eg (E I 1)/\El w w':=by have d1:decide (src<1)=B:=IJ X;have d2:decide (3<src)=B:=IJ X;have d3:decide (role<0)=B:=IJ X;have d4:decide (4<=role)=u:=Ib X;exact EmB
theorem EH.ZE{g2:Nat}{a b c:M}(h:EH g a b)(hg:a.heap.size<=g2)(k:EH g2 b c)(hb:a.heap.size<=b.heap.size):EH g a c:=
 ⟨EA h.size k.size,fun i hi hl=>(k.keep i X (Nat.lt_of_lt_of_le hl h.size)).trans (h.keep i hi hl),fun i hi hl=>(h.bel i hi hl).trans (k.bel i X X)⟩
theorem bI{W:M}(cs:Array V):EH g W (W.setRow g cs):=
 ⟨Eh,fun k hk _=>setRow_other W g k _ X,fun b hb hW=>E3 (g:=g) (IE b W) hb cs⟩
theorem EXE(g:Nat)(T:EP)(role:Int)(key:List Int)(w:M)(K:E2 w g T)(h:T.ok)(hr0:0<=role)(hr1:role<=3)(hk:key.length=32)(hon:(T.EY 0).on=u): Ef EU 124 #[Y (D ⟨g,0,Z⟩),E I 1,E I role,EZ (Ej key)] w fun e w'=>e=Eg (E I 0)/\E2 w' g (T.put 0 (It u (max T.E9 0) role key))/\EH g w w':=by
 have d3:decide (role<0)=B:=IJ X;have d4:decide (4<=role)=B:=IJ X;have hof:T.of g 1=Y (D ⟨g,3,Z⟩):=by exact Em3
 have CO:Ea (∀W,E2 W g T->Ef EU 76 #[Y (D ⟨g,0,Z⟩),E I 1] W fun e w'=>e=Eg (Y (D ⟨g,3,Z⟩))/\W=w'):=O fun W hW=>Gt;have CM:Ea (∀W,E2 W g T->Ef EU 170 #[Y (D ⟨g,0,Z⟩)] W fun e w'=>e=Eg (E I T.Ik)/\W=w'):=O fun W hW=>kB g T W hW h;have TP:=O<|fun W (k:E2 W g T)=>ia k h 0 (It u (max T.E9 0) role key) hk;have TH:=O<|fun W (k:E2 W g T)=>(XN k (o:=3) (n:=39) kW);have CB:=O<|fun W (k:E2 W g T)=>iZ k h;have BS:=O<|kV role key hk;have CH:=O<|fun W (g9:Nat) (k:H W g9 (It false 0 role key).v.toArray 160)=>hZ g9 0 [] ([E .i64 role]++(key.map (E .u8)++Of Z)) (Ec B) (E I 0) (E I 0) 160 T.E9 W k U;have HK:=O hk;have hks:Ea ((Ej key).size=32):=O kY;have SZ:=O<|show(It u (max T.E9 0) role key).v.toArray.size=39 from I4.J_ hk;have XQ:=O<|show(It B 0 role key).v.toArray.size=39 from I4.J_ hk;have S1:=O<|Zw (It u (max T.E9 0) role key);have S0:=O<|Zw (It B 0 role key);have di:=O<|show Jp.v.toArray.size=39 from I4.J_ U;have KT:=O K;have lg:=H.lt K;clear hof hk hon K h;obtain⟨kv,hkv⟩:=En (Ej key);rw[<-hkv] at BS hks⊢;obtain⟨si,hsi⟩:=En ((It B 0 role key).v.toArray);rw[<-hsi] at BS XQ S0;obtain⟨sv,hsv⟩:=En ((It u (max T.E9 0) role key).v);obtain⟨T2,Uu⟩:=En (T.put 0 (It u (max T.E9 0) role key));rw[<-hsv,<-Uu] at TP;rw[<-Uu];rw[<-hsv] at SZ S1;have fg:=O hsv;have Zy:=O hsi;clear hkv hsi hsv Uu;go_enter gU,gX;go_wp2_with fail;have K7:=O<|H.new w kv 41;have b1:=Ep w (EJ kv 41);replace KT:=O<|KT.out.G b1;have ON:Ea (EH g w (w.alloc (EJ kv 41))):=O<|EH.Ew b1;have l7:=K7.out.lt;generalize w.alloc (EJ kv 41)=w1 at*;clear b1;have KX:Ea (∀y:Ext w1,E2 (Ey w1 y) g T):=O fun y=>KT.out.G (ED y);have c1: ∀y:Ext w1,(Ey w1 y).cell? ⟨g,121,Z⟩=D (E I T.most):=fun y=>(CB.out _ (KX.out y)).2;refine Xs Ed Ed ?_
 repeat (first
  |go_big_quiet_skip
  |(go_big_quiet_want
    first
     |(go_big_quiet_op
       first
        |go_big_quiet_on
        |go_big_quiet_call ((with_reducible first|refine X5 (CO.out _ (KX.out _))|refine X5 (CM.out _ (KX.out _)))))))
 refine IM ?_;intro _ hw';obtain⟨y9,rfl⟩:=hw';have Em:=ED y9;replace KT:=O<|KT.out.G Em;replace K7:=O<|K7.out.G Em;replace ON:=O<|ON.out.trans (EH.Ew Em);clear c1 KX CO CM Em;generalize Ey w1 y9=w2 at*;go_wp2_with (first|(with_reducible refine wL J7 K7 ?_ (hn:=hks.out))|((with_reducible refine Is 39 ?_);refine I3 rfl 160 _ rfl si BS.out ?_)|(with_reducible refine wA sd (Ev.mk ?_)));apply Eo;have l2:=K7.out.lt;have lt2:=H.lt KT.out;have b3:=Ep w2 (EJ Jp.v.toArray 160);replace KT:=O<|KT.out.G b3;replace ON:=O<|ON.out.trans (EH.Ew b3);have K9:=O<|H.new w2 Jp.v.toArray 160;clear b3;generalize w2.alloc (EJ Jp.v.toArray 160)=w3 at*;generalize w2.heap.size=g9 at*;go_wp2_with (with_reducible refine wS (cs:=si) Zv K9 (Ev.mk ?_) (ho:=di.out) (hn:=XQ.out) (h1:=S0.out));apply Eo;replace KT:=O<|show E2 (w3.setRow g9 si) g T from H.setRow_other KT.out g9 si X;replace ON:=O<|ON.out.ZE (g2:=g9) X (bI (g:=g9) (W:=w3) si) gZ;replace K9:=O<|K9.out.setRow si;generalize w3.setRow g9 si=w4 at*;have c2:w4.cell? ⟨g,120,Z⟩=D (E I T.E9):=(CB.out _ KT.out).1;go_wp2_with fail;rw[Zy.out] at K9;refine(CH.out _ g9 K9.out).mono ?_;rintro e w5 ⟨rfl,k9,o9⟩;replace KT:=O<|show E2 w5 g T from o9.Ek KT.out X;replace ON:=O<|ON.out.ZE (g2:=g9) X o9 gZ;have I8:Ea (H w5 g9 sv.toArray 160):=O sg;clear k9 o9 K9 c2 CH Zy;have uQ:=H.lt KT.out;go_wp2_with fail;refine J5 7 Ed Ed ?_;simp only[Ir,Im,IL,IG]
 repeat (first
  |go_big_quiet_skip
  |(go_big_quiet_want
    first
     |(refine Ub (T:=160) (g:=g9) Zv _ rfl rfl I8 ?_ ?_;(·exact SZ.out);go_simp;go_big_quiet_on)
     |(go_big_quiet_op
       first
        |go_big_quiet_on
        |go_big_quiet_call ((fail)))))
 refine IM ?_;exact El1
theorem EXI(g:Nat)(T:EP)(role:Int)(key:List Int)(w:M)(K:E2 w g T)(h:T.ok)(hr0:0<=role)(hr1:role<=3)(hk:key.length=32)(hon:(T.EY 0).on=B)(hm:T.Ik<T.most): Ef EU 124 #[Y (D ⟨g,0,Z⟩),E I 1,E I role,EZ (Ej key)] w fun e w'=>e=Eg (E I 0)/\E2 w' g (T.put 0 (It u (max T.E9 0) role key))/\EH g w w':=by
 have d3:decide (role<0)=B:=IJ X;have d4:decide (4<=role)=B:=IJ X;have hof:T.of g 1=Y Z:=by exact Em3
 have CO:Ea (∀W,E2 W g T->Ef EU 76 #[Y (D ⟨g,0,Z⟩),E I 1] W fun e w'=>e=Eg (Y Z)/\W=w'):=O fun W hW=>Gt;have CM:Ea (∀W,E2 W g T->Ef EU 170 #[Y (D ⟨g,0,Z⟩)] W fun e w'=>e=Eg (E I T.Ik)/\W=w'):=O fun W hW=>kB g T W hW h;have dm:decide (T.most<=T.Ik)=B:=IJ X;have TP:=O<|fun W (k:E2 W g T)=>ia k h 0 (It u (max T.E9 0) role key) hk;have TH:=O<|fun W (k:E2 W g T)=>(XN k (o:=3) (n:=39) kW);have CB:=O<|fun W (k:E2 W g T)=>iZ k h;have BS:=O<|kV role key hk;have CH:=O<|fun W (g9:Nat) (k:H W g9 (It false 0 role key).v.toArray 160)=>hZ g9 0 [] ([E .i64 role]++(key.map (E .u8)++Of Z)) (Ec B) (E I 0) (E I 0) 160 T.E9 W k U;have HK:=O hk;have hks:Ea ((Ej key).size=32):=O kY;have SZ:=O<|show(It u (max T.E9 0) role key).v.toArray.size=39 from I4.J_ hk;have XQ:=O<|show(It B 0 role key).v.toArray.size=39 from I4.J_ hk;have S1:=O<|Zw (It u (max T.E9 0) role key);have S0:=O<|Zw (It B 0 role key);have di:=O<|show Jp.v.toArray.size=39 from I4.J_ U;have KT:=O K;have lg:=H.lt K;clear hof hk hon hm K h;obtain⟨kv,hkv⟩:=En (Ej key);rw[<-hkv] at BS hks⊢;obtain⟨si,hsi⟩:=En ((It B 0 role key).v.toArray);rw[<-hsi] at BS XQ S0;obtain⟨sv,hsv⟩:=En ((It u (max T.E9 0) role key).v);obtain⟨T2,Uu⟩:=En (T.put 0 (It u (max T.E9 0) role key));rw[<-hsv,<-Uu] at TP;rw[<-Uu];rw[<-hsv] at SZ S1;have fg:=O hsv;have Zy:=O hsi;clear hkv hsi hsv Uu;go_enter gU,gX;go_wp2_with fail;have K7:=O<|H.new w kv 41;have b1:=Ep w (EJ kv 41);replace KT:=O<|KT.out.G b1;have ON:Ea (EH g w (w.alloc (EJ kv 41))):=O<|EH.Ew b1;have l7:=K7.out.lt;generalize w.alloc (EJ kv 41)=w1 at*;clear b1;have KX:Ea (∀y:Ext w1,E2 (Ey w1 y) g T):=O fun y=>KT.out.G (ED y);have c1: ∀y:Ext w1,(Ey w1 y).cell? ⟨g,121,Z⟩=D (E I T.most):=fun y=>(CB.out _ (KX.out y)).2;refine Xs Ed Ed ?_
 repeat (first
  |go_big_quiet_skip
  |(go_big_quiet_want
    first
     |(go_big_quiet_op
       first
        |go_big_quiet_on
        |go_big_quiet_call ((with_reducible first|refine X5 (CO.out _ (KX.out _))|refine X5 (CM.out _ (KX.out _)))))))
 refine IM ?_;intro _ hw';obtain⟨y9,rfl⟩:=hw';have Em:=ED y9;replace KT:=O<|KT.out.G Em;replace K7:=O<|K7.out.G Em;replace ON:=O<|ON.out.trans (EH.Ew Em);clear c1 KX CO CM Em;generalize Ey w1 y9=w2 at*;go_wp2_with (first|(with_reducible refine wL J7 K7 ?_ (hn:=hks.out))|((with_reducible refine Is 39 ?_);refine I3 rfl 160 _ rfl si BS.out ?_)|(with_reducible refine wA sd (Ev.mk ?_)));apply Eo;have l2:=K7.out.lt;have lt2:=H.lt KT.out;have b3:=Ep w2 (EJ Jp.v.toArray 160);replace KT:=O<|KT.out.G b3;replace ON:=O<|ON.out.trans (EH.Ew b3);have K9:=O<|H.new w2 Jp.v.toArray 160;clear b3;generalize w2.alloc (EJ Jp.v.toArray 160)=w3 at*;generalize w2.heap.size=g9 at*;go_wp2_with (with_reducible refine wS (cs:=si) Zv K9 (Ev.mk ?_) (ho:=di.out) (hn:=XQ.out) (h1:=S0.out));apply Eo;replace KT:=O<|show E2 (w3.setRow g9 si) g T from H.setRow_other KT.out g9 si X;replace ON:=O<|ON.out.ZE (g2:=g9) X (bI (g:=g9) (W:=w3) si) gZ;replace K9:=O<|K9.out.setRow si;generalize w3.setRow g9 si=w4 at*;have c2:w4.cell? ⟨g,120,Z⟩=D (E I T.E9):=(CB.out _ KT.out).1;go_wp2_with fail;rw[Zy.out] at K9;refine(CH.out _ g9 K9.out).mono ?_;rintro e w5 ⟨rfl,k9,o9⟩;replace KT:=O<|show E2 w5 g T from o9.Ek KT.out X;replace ON:=O<|ON.out.ZE (g2:=g9) X o9 gZ;have I8:Ea (H w5 g9 sv.toArray 160):=O sg;clear k9 o9 K9 c2 CH Zy;have uQ:=H.lt KT.out;go_wp2_with fail;refine J5 7 Ed Ed ?_;simp only[Ir,Im,IL,IG]
 repeat (first
  |go_big_quiet_skip
  |(go_big_quiet_want
    first
     |(refine Ub (T:=160) (g:=g9) Zv _ rfl rfl I8 ?_ ?_;(·exact SZ.out);go_simp;go_big_quiet_on)
     |(go_big_quiet_op
       first
        |go_big_quiet_on
        |go_big_quiet_call ((fail)))))
 refine IM ?_;exact El1
theorem EXJ(g:Nat)(T:EP)(role:Int)(key:List Int)(w:M)(K:E2 w g T)(h:T.ok)(hr0:0<=role)(hr1:role<=3)(hk:key.length=32)(hon:(T.EY 0).on=B)(hm:T.most<=T.Ik): Ef EU 124 #[Y (D ⟨g,0,Z⟩),E I 1,E I role,EZ (Ej key)] w fun e w'=>e=Eg (E I 19)/\E2 w' g T/\EH g w w':=by
 have d3:decide (role<0)=B:=IJ X;have d4:decide (4<=role)=B:=IJ X;have hof:T.of g 1=Y Z:=by exact Em3
 have CO:Ea (∀W,E2 W g T->Ef EU 76 #[Y (D ⟨g,0,Z⟩),E I 1] W fun e w'=>e=Eg (Y Z)/\W=w'):=O fun W hW=>Gt;have CM:Ea (∀W,E2 W g T->Ef EU 170 #[Y (D ⟨g,0,Z⟩)] W fun e w'=>e=Eg (E I T.Ik)/\W=w'):=O fun W hW=>kB g T W hW h;have dm:decide (T.most<=T.Ik)=u:=Ib hm;have TP:=O<|fun W (k:E2 W g T)=>ia k h 0 (It u (max T.E9 0) role key) hk;have TH:=O<|fun W (k:E2 W g T)=>(XN k (o:=3) (n:=39) kW);have CB:=O<|fun W (k:E2 W g T)=>iZ k h;have BS:=O<|kV role key hk;have CH:=O<|fun W (g9:Nat) (k:H W g9 (It false 0 role key).v.toArray 160)=>hZ g9 0 [] ([E .i64 role]++(key.map (E .u8)++Of Z)) (Ec B) (E I 0) (E I 0) 160 T.E9 W k U;have HK:=O hk;have hks:Ea ((Ej key).size=32):=O kY;have SZ:=O<|show(It u (max T.E9 0) role key).v.toArray.size=39 from I4.J_ hk;have XQ:=O<|show(It B 0 role key).v.toArray.size=39 from I4.J_ hk;have S1:=O<|Zw (It u (max T.E9 0) role key);have S0:=O<|Zw (It B 0 role key);have di:=O<|show Jp.v.toArray.size=39 from I4.J_ U;have KT:=O K;have lg:=H.lt K;clear hof hk hon hm K h;obtain⟨kv,hkv⟩:=En (Ej key);rw[<-hkv] at BS hks⊢;obtain⟨si,hsi⟩:=En ((It B 0 role key).v.toArray);rw[<-hsi] at BS XQ S0;obtain⟨sv,hsv⟩:=En ((It u (max T.E9 0) role key).v);obtain⟨T2,Uu⟩:=En (T.put 0 (It u (max T.E9 0) role key));rw[<-hsv] at SZ S1;have fg:=O hsv;have Zy:=O hsi;clear hkv hsi hsv Uu TP TH;go_enter gU,gX;go_wp2_with fail;have K7:=O<|H.new w kv 41;have b1:=Ep w (EJ kv 41);replace KT:=O<|KT.out.G b1;have ON:Ea (EH g w (w.alloc (EJ kv 41))):=O<|EH.Ew b1;have l7:=K7.out.lt;generalize w.alloc (EJ kv 41)=w1 at*;clear b1;have KX:Ea (∀y:Ext w1,E2 (Ey w1 y) g T):=O fun y=>KT.out.G (ED y);have c1: ∀y:Ext w1,(Ey w1 y).cell? ⟨g,121,Z⟩=D (E I T.most):=fun y=>(CB.out _ (KX.out y)).2;refine Xs Ed Ed ?_
 repeat (first
  |go_big_quiet_skip
  |(go_big_quiet_want
    first
     |(go_big_quiet_op
       first
        |go_big_quiet_on
        |go_big_quiet_call ((with_reducible first|refine X5 (CO.out _ (KX.out _))|refine X5 (CM.out _ (KX.out _)))))))
 refine IM ?_;exact El3
theorem EXO(g:Nat)(T:EP)(role:Int)(key:List Int)(w:M)(K:E2 w g T)(h:T.ok)(hr0:0<=role)(hr1:role<=3)(hk:key.length=32)(hon:(T.EY 1).on=u): Ef EU 124 #[Y (D ⟨g,0,Z⟩),E I 2,E I role,EZ (Ej key)] w fun e w'=>e=Eg (E I 0)/\E2 w' g (T.put 1 (It u (max T.E9 0) role key))/\EH g w w':=by
 have d3:decide (role<0)=B:=IJ X;have d4:decide (4<=role)=B:=IJ X;have hof:T.of g 2=Y (D ⟨g,42,Z⟩):=by exact Em2
 have CO:Ea (∀W,E2 W g T->Ef EU 76 #[Y (D ⟨g,0,Z⟩),E I 2] W fun e w'=>e=Eg (Y (D ⟨g,42,Z⟩))/\W=w'):=O fun W hW=>Gu;have CM:Ea (∀W,E2 W g T->Ef EU 170 #[Y (D ⟨g,0,Z⟩)] W fun e w'=>e=Eg (E I T.Ik)/\W=w'):=O fun W hW=>kB g T W hW h;have TP:=O<|fun W (k:E2 W g T)=>ia k h 1 (It u (max T.E9 0) role key) hk;have TH:=O<|fun W (k:E2 W g T)=>(XN k (o:=42) (n:=39) kW);have CB:=O<|fun W (k:E2 W g T)=>iZ k h;have BS:=O<|kV role key hk;have CH:=O<|fun W (g9:Nat) (k:H W g9 (It false 0 role key).v.toArray 160)=>hZ g9 0 [] ([E .i64 role]++(key.map (E .u8)++Of Z)) (Ec B) (E I 0) (E I 0) 160 T.E9 W k U;have HK:=O hk;have hks:Ea ((Ej key).size=32):=O kY;have SZ:=O<|show(It u (max T.E9 0) role key).v.toArray.size=39 from I4.J_ hk;have XQ:=O<|show(It B 0 role key).v.toArray.size=39 from I4.J_ hk;have S1:=O<|Zw (It u (max T.E9 0) role key);have S0:=O<|Zw (It B 0 role key);have di:=O<|show Jp.v.toArray.size=39 from I4.J_ U;have KT:=O K;have lg:=H.lt K;clear hof hk hon K h;obtain⟨kv,hkv⟩:=En (Ej key);rw[<-hkv] at BS hks⊢;obtain⟨si,hsi⟩:=En ((It B 0 role key).v.toArray);rw[<-hsi] at BS XQ S0;obtain⟨sv,hsv⟩:=En ((It u (max T.E9 0) role key).v);obtain⟨T2,Uu⟩:=En (T.put 1 (It u (max T.E9 0) role key));rw[<-hsv,<-Uu] at TP;rw[<-Uu];rw[<-hsv] at SZ S1;have fg:=O hsv;have Zy:=O hsi;clear hkv hsi hsv Uu;go_enter gU,gX;go_wp2_with fail;have K7:=O<|H.new w kv 41;have b1:=Ep w (EJ kv 41);replace KT:=O<|KT.out.G b1;have ON:Ea (EH g w (w.alloc (EJ kv 41))):=O<|EH.Ew b1;have l7:=K7.out.lt;generalize w.alloc (EJ kv 41)=w1 at*;clear b1;have KX:Ea (∀y:Ext w1,E2 (Ey w1 y) g T):=O fun y=>KT.out.G (ED y);have c1: ∀y:Ext w1,(Ey w1 y).cell? ⟨g,121,Z⟩=D (E I T.most):=fun y=>(CB.out _ (KX.out y)).2;refine Xs Ed Ed ?_
 repeat (first
  |go_big_quiet_skip
  |(go_big_quiet_want
    first
     |(go_big_quiet_op
       first
        |go_big_quiet_on
        |go_big_quiet_call ((with_reducible first|refine X5 (CO.out _ (KX.out _))|refine X5 (CM.out _ (KX.out _)))))))
 refine IM ?_;intro _ hw';obtain⟨y9,rfl⟩:=hw';have Em:=ED y9;replace KT:=O<|KT.out.G Em;replace K7:=O<|K7.out.G Em;replace ON:=O<|ON.out.trans (EH.Ew Em);clear c1 KX CO CM Em;generalize Ey w1 y9=w2 at*;go_wp2_with (first|(with_reducible refine wL J7 K7 ?_ (hn:=hks.out))|((with_reducible refine Is 39 ?_);refine I3 rfl 160 _ rfl si BS.out ?_)|(with_reducible refine wA sd (Ev.mk ?_)));apply Eo;have l2:=K7.out.lt;have lt2:=H.lt KT.out;have b3:=Ep w2 (EJ Jp.v.toArray 160);replace KT:=O<|KT.out.G b3;replace ON:=O<|ON.out.trans (EH.Ew b3);have K9:=O<|H.new w2 Jp.v.toArray 160;clear b3;generalize w2.alloc (EJ Jp.v.toArray 160)=w3 at*;generalize w2.heap.size=g9 at*;go_wp2_with (with_reducible refine wS (cs:=si) Zv K9 (Ev.mk ?_) (ho:=di.out) (hn:=XQ.out) (h1:=S0.out));apply Eo;replace KT:=O<|show E2 (w3.setRow g9 si) g T from H.setRow_other KT.out g9 si X;replace ON:=O<|ON.out.ZE (g2:=g9) X (bI (g:=g9) (W:=w3) si) gZ;replace K9:=O<|K9.out.setRow si;generalize w3.setRow g9 si=w4 at*;have c2:w4.cell? ⟨g,120,Z⟩=D (E I T.E9):=(CB.out _ KT.out).1;go_wp2_with fail;rw[Zy.out] at K9;refine(CH.out _ g9 K9.out).mono ?_;rintro e w5 ⟨rfl,k9,o9⟩;replace KT:=O<|show E2 w5 g T from o9.Ek KT.out X;replace ON:=O<|ON.out.ZE (g2:=g9) X o9 gZ;have I8:Ea (H w5 g9 sv.toArray 160):=O sg;clear k9 o9 K9 c2 CH Zy;have uQ:=H.lt KT.out;go_wp2_with fail;refine J5 7 Ed Ed ?_;simp only[Ir,Im,IL,IG]
 repeat (first
  |go_big_quiet_skip
  |(go_big_quiet_want
    first
     |(refine Ub (T:=160) (g:=g9) Zv _ rfl rfl I8 ?_ ?_;(·exact SZ.out);go_simp;go_big_quiet_on)
     |(go_big_quiet_op
       first
        |go_big_quiet_on
        |go_big_quiet_call ((fail)))))
 refine IM ?_;exact El0
theorem EXU(g:Nat)(T:EP)(role:Int)(key:List Int)(w:M)(K:E2 w g T)(h:T.ok)(hr0:0<=role)(hr1:role<=3)(hk:key.length=32)(hon:(T.EY 1).on=B)(hm:T.Ik<T.most): Ef EU 124 #[Y (D ⟨g,0,Z⟩),E I 2,E I role,EZ (Ej key)] w fun e w'=>e=Eg (E I 0)/\E2 w' g (T.put 1 (It u (max T.E9 0) role key))/\EH g w w':=by
 have d3:decide (role<0)=B:=IJ X;have d4:decide (4<=role)=B:=IJ X;have hof:T.of g 2=Y Z:=by exact Em2
 have CO:Ea (∀W,E2 W g T->Ef EU 76 #[Y (D ⟨g,0,Z⟩),E I 2] W fun e w'=>e=Eg (Y Z)/\W=w'):=O fun W hW=>Gu;have CM:Ea (∀W,E2 W g T->Ef EU 170 #[Y (D ⟨g,0,Z⟩)] W fun e w'=>e=Eg (E I T.Ik)/\W=w'):=O fun W hW=>kB g T W hW h;have dm:decide (T.most<=T.Ik)=B:=IJ X;have TP:=O<|fun W (k:E2 W g T)=>ia k h 1 (It u (max T.E9 0) role key) hk;have TH:=O<|fun W (k:E2 W g T)=>(XN k (o:=42) (n:=39) kW);have CB:=O<|fun W (k:E2 W g T)=>iZ k h;have BS:=O<|kV role key hk;have CH:=O<|fun W (g9:Nat) (k:H W g9 (It false 0 role key).v.toArray 160)=>hZ g9 0 [] ([E .i64 role]++(key.map (E .u8)++Of Z)) (Ec B) (E I 0) (E I 0) 160 T.E9 W k U;have HK:=O hk;have hks:Ea ((Ej key).size=32):=O kY;have SZ:=O<|show(It u (max T.E9 0) role key).v.toArray.size=39 from I4.J_ hk;have XQ:=O<|show(It B 0 role key).v.toArray.size=39 from I4.J_ hk;have S1:=O<|Zw (It u (max T.E9 0) role key);have S0:=O<|Zw (It B 0 role key);have di:=O<|show Jp.v.toArray.size=39 from I4.J_ U;have KT:=O K;have lg:=H.lt K;clear hof hk hon hm K h;obtain⟨kv,hkv⟩:=En (Ej key);rw[<-hkv] at BS hks⊢;obtain⟨si,hsi⟩:=En ((It B 0 role key).v.toArray);rw[<-hsi] at BS XQ S0;obtain⟨sv,hsv⟩:=En ((It u (max T.E9 0) role key).v);obtain⟨T2,Uu⟩:=En (T.put 1 (It u (max T.E9 0) role key));rw[<-hsv,<-Uu] at TP;rw[<-Uu];rw[<-hsv] at SZ S1;have fg:=O hsv;have Zy:=O hsi;clear hkv hsi hsv Uu;go_enter gU,gX;go_wp2_with fail;have K7:=O<|H.new w kv 41;have b1:=Ep w (EJ kv 41);replace KT:=O<|KT.out.G b1;have ON:Ea (EH g w (w.alloc (EJ kv 41))):=O<|EH.Ew b1;have l7:=K7.out.lt;generalize w.alloc (EJ kv 41)=w1 at*;clear b1;have KX:Ea (∀y:Ext w1,E2 (Ey w1 y) g T):=O fun y=>KT.out.G (ED y);have c1: ∀y:Ext w1,(Ey w1 y).cell? ⟨g,121,Z⟩=D (E I T.most):=fun y=>(CB.out _ (KX.out y)).2;refine Xs Ed Ed ?_
 repeat (first
  |go_big_quiet_skip
  |(go_big_quiet_want
    first
     |(go_big_quiet_op
       first
        |go_big_quiet_on
        |go_big_quiet_call ((with_reducible first|refine X5 (CO.out _ (KX.out _))|refine X5 (CM.out _ (KX.out _)))))))
 refine IM ?_;intro _ hw';obtain⟨y9,rfl⟩:=hw';have Em:=ED y9;replace KT:=O<|KT.out.G Em;replace K7:=O<|K7.out.G Em;replace ON:=O<|ON.out.trans (EH.Ew Em);clear c1 KX CO CM Em;generalize Ey w1 y9=w2 at*;go_wp2_with (first|(with_reducible refine wL J7 K7 ?_ (hn:=hks.out))|((with_reducible refine Is 39 ?_);refine I3 rfl 160 _ rfl si BS.out ?_)|(with_reducible refine wA sd (Ev.mk ?_)));apply Eo;have l2:=K7.out.lt;have lt2:=H.lt KT.out;have b3:=Ep w2 (EJ Jp.v.toArray 160);replace KT:=O<|KT.out.G b3;replace ON:=O<|ON.out.trans (EH.Ew b3);have K9:=O<|H.new w2 Jp.v.toArray 160;clear b3;generalize w2.alloc (EJ Jp.v.toArray 160)=w3 at*;generalize w2.heap.size=g9 at*;go_wp2_with (with_reducible refine wS (cs:=si) Zv K9 (Ev.mk ?_) (ho:=di.out) (hn:=XQ.out) (h1:=S0.out));apply Eo;replace KT:=O<|show E2 (w3.setRow g9 si) g T from H.setRow_other KT.out g9 si X;replace ON:=O<|ON.out.ZE (g2:=g9) X (bI (g:=g9) (W:=w3) si) gZ;replace K9:=O<|K9.out.setRow si;generalize w3.setRow g9 si=w4 at*;have c2:w4.cell? ⟨g,120,Z⟩=D (E I T.E9):=(CB.out _ KT.out).1;go_wp2_with fail;rw[Zy.out] at K9;refine(CH.out _ g9 K9.out).mono ?_;rintro e w5 ⟨rfl,k9,o9⟩;replace KT:=O<|show E2 w5 g T from o9.Ek KT.out X;replace ON:=O<|ON.out.ZE (g2:=g9) X o9 gZ;have I8:Ea (H w5 g9 sv.toArray 160):=O sg;clear k9 o9 K9 c2 CH Zy;have uQ:=H.lt KT.out;go_wp2_with fail;refine J5 7 Ed Ed ?_;simp only[Ir,Im,IL,IG]
 repeat (first
  |go_big_quiet_skip
  |(go_big_quiet_want
    first
     |(refine Ub (T:=160) (g:=g9) Zv _ rfl rfl I8 ?_ ?_;(·exact SZ.out);go_simp;go_big_quiet_on)
     |(go_big_quiet_op
       first
        |go_big_quiet_on
        |go_big_quiet_call ((fail)))))
 refine IM ?_;exact El0
theorem EXX(g:Nat)(T:EP)(role:Int)(key:List Int)(w:M)(K:E2 w g T)(h:T.ok)(hr0:0<=role)(hr1:role<=3)(hk:key.length=32)(hon:(T.EY 1).on=B)(hm:T.most<=T.Ik): Ef EU 124 #[Y (D ⟨g,0,Z⟩),E I 2,E I role,EZ (Ej key)] w fun e w'=>e=Eg (E I 19)/\E2 w' g T/\EH g w w':=by
 have d3:decide (role<0)=B:=IJ X;have d4:decide (4<=role)=B:=IJ X;have hof:T.of g 2=Y Z:=by exact Em2
 have CO:Ea (∀W,E2 W g T->Ef EU 76 #[Y (D ⟨g,0,Z⟩),E I 2] W fun e w'=>e=Eg (Y Z)/\W=w'):=O fun W hW=>Gu;have CM:Ea (∀W,E2 W g T->Ef EU 170 #[Y (D ⟨g,0,Z⟩)] W fun e w'=>e=Eg (E I T.Ik)/\W=w'):=O fun W hW=>kB g T W hW h;have dm:decide (T.most<=T.Ik)=u:=Ib hm;have TP:=O<|fun W (k:E2 W g T)=>ia k h 1 (It u (max T.E9 0) role key) hk;have TH:=O<|fun W (k:E2 W g T)=>(XN k (o:=42) (n:=39) kW);have CB:=O<|fun W (k:E2 W g T)=>iZ k h;have BS:=O<|kV role key hk;have CH:=O<|fun W (g9:Nat) (k:H W g9 (It false 0 role key).v.toArray 160)=>hZ g9 0 [] ([E .i64 role]++(key.map (E .u8)++Of Z)) (Ec B) (E I 0) (E I 0) 160 T.E9 W k U;have HK:=O hk;have hks:Ea ((Ej key).size=32):=O kY;have SZ:=O<|show(It u (max T.E9 0) role key).v.toArray.size=39 from I4.J_ hk;have XQ:=O<|show(It B 0 role key).v.toArray.size=39 from I4.J_ hk;have S1:=O<|Zw (It u (max T.E9 0) role key);have S0:=O<|Zw (It B 0 role key);have di:=O<|show Jp.v.toArray.size=39 from I4.J_ U;have KT:=O K;have lg:=H.lt K;clear hof hk hon hm K h;obtain⟨kv,hkv⟩:=En (Ej key);rw[<-hkv] at BS hks⊢;obtain⟨si,hsi⟩:=En ((It B 0 role key).v.toArray);rw[<-hsi] at BS XQ S0;obtain⟨sv,hsv⟩:=En ((It u (max T.E9 0) role key).v);obtain⟨T2,Uu⟩:=En (T.put 1 (It u (max T.E9 0) role key));rw[<-hsv] at SZ S1;have fg:=O hsv;have Zy:=O hsi;clear hkv hsi hsv Uu TP TH;go_enter gU,gX;go_wp2_with fail;have K7:=O<|H.new w kv 41;have b1:=Ep w (EJ kv 41);replace KT:=O<|KT.out.G b1;have ON:Ea (EH g w (w.alloc (EJ kv 41))):=O<|EH.Ew b1;have l7:=K7.out.lt;generalize w.alloc (EJ kv 41)=w1 at*;clear b1;have KX:Ea (∀y:Ext w1,E2 (Ey w1 y) g T):=O fun y=>KT.out.G (ED y);have c1: ∀y:Ext w1,(Ey w1 y).cell? ⟨g,121,Z⟩=D (E I T.most):=fun y=>(CB.out _ (KX.out y)).2;refine Xs Ed Ed ?_
 repeat (first
  |go_big_quiet_skip
  |(go_big_quiet_want
    first
     |(go_big_quiet_op
       first
        |go_big_quiet_on
        |go_big_quiet_call ((with_reducible first|refine X5 (CO.out _ (KX.out _))|refine X5 (CM.out _ (KX.out _)))))))
 refine IM ?_;exact El3
theorem EXZ(g:Nat)(T:EP)(role:Int)(key:List Int)(w:M)(K:E2 w g T)(h:T.ok)(hr0:0<=role)(hr1:role<=3)(hk:key.length=32)(hon:(T.EY 2).on=u): Ef EU 124 #[Y (D ⟨g,0,Z⟩),E I 3,E I role,EZ (Ej key)] w fun e w'=>e=Eg (E I 0)/\E2 w' g (T.put 2 (It u (max T.E9 0) role key))/\EH g w w':=by
 have d3:decide (role<0)=B:=IJ X;have d4:decide (4<=role)=B:=IJ X;have hof:T.of g 3=Y (D ⟨g,81,Z⟩):=by exact Em1
 have CO:Ea (∀W,E2 W g T->Ef EU 76 #[Y (D ⟨g,0,Z⟩),E I 3] W fun e w'=>e=Eg (Y (D ⟨g,81,Z⟩))/\W=w'):=O fun W hW=>Gv;have CM:Ea (∀W,E2 W g T->Ef EU 170 #[Y (D ⟨g,0,Z⟩)] W fun e w'=>e=Eg (E I T.Ik)/\W=w'):=O fun W hW=>kB g T W hW h;have TP:=O<|fun W (k:E2 W g T)=>ia k h 2 (It u (max T.E9 0) role key) hk;have TH:=O<|fun W (k:E2 W g T)=>(XN k (o:=81) (n:=39) kW);have CB:=O<|fun W (k:E2 W g T)=>iZ k h;have BS:=O<|kV role key hk;have CH:=O<|fun W (g9:Nat) (k:H W g9 (It false 0 role key).v.toArray 160)=>hZ g9 0 [] ([E .i64 role]++(key.map (E .u8)++Of Z)) (Ec B) (E I 0) (E I 0) 160 T.E9 W k U;have HK:=O hk;have hks:Ea ((Ej key).size=32):=O kY;have SZ:=O<|show(It u (max T.E9 0) role key).v.toArray.size=39 from I4.J_ hk;have XQ:=O<|show(It B 0 role key).v.toArray.size=39 from I4.J_ hk;have S1:=O<|Zw (It u (max T.E9 0) role key);have S0:=O<|Zw (It B 0 role key);have di:=O<|show Jp.v.toArray.size=39 from I4.J_ U;have KT:=O K;have lg:=H.lt K;clear hof hk hon K h;obtain⟨kv,hkv⟩:=En (Ej key);rw[<-hkv] at BS hks⊢;obtain⟨si,hsi⟩:=En ((It B 0 role key).v.toArray);rw[<-hsi] at BS XQ S0;obtain⟨sv,hsv⟩:=En ((It u (max T.E9 0) role key).v);obtain⟨T2,Uu⟩:=En (T.put 2 (It u (max T.E9 0) role key));rw[<-hsv,<-Uu] at TP;rw[<-Uu];rw[<-hsv] at SZ S1;have fg:=O hsv;have Zy:=O hsi;clear hkv hsi hsv Uu;go_enter gU,gX;go_wp2_with fail;have K7:=O<|H.new w kv 41;have b1:=Ep w (EJ kv 41);replace KT:=O<|KT.out.G b1;have ON:Ea (EH g w (w.alloc (EJ kv 41))):=O<|EH.Ew b1;have l7:=K7.out.lt;generalize w.alloc (EJ kv 41)=w1 at*;clear b1;have KX:Ea (∀y:Ext w1,E2 (Ey w1 y) g T):=O fun y=>KT.out.G (ED y);have c1: ∀y:Ext w1,(Ey w1 y).cell? ⟨g,121,Z⟩=D (E I T.most):=fun y=>(CB.out _ (KX.out y)).2;refine Xs Ed Ed ?_
 repeat (first
  |go_big_quiet_skip
  |(go_big_quiet_want
    first
     |(go_big_quiet_op
       first
        |go_big_quiet_on
        |go_big_quiet_call ((with_reducible first|refine X5 (CO.out _ (KX.out _))|refine X5 (CM.out _ (KX.out _)))))))
 refine IM ?_;intro _ hw';obtain⟨y9,rfl⟩:=hw';have Em:=ED y9;replace KT:=O<|KT.out.G Em;replace K7:=O<|K7.out.G Em;replace ON:=O<|ON.out.trans (EH.Ew Em);clear c1 KX CO CM Em;generalize Ey w1 y9=w2 at*;go_wp2_with (first|(with_reducible refine wL J7 K7 ?_ (hn:=hks.out))|((with_reducible refine Is 39 ?_);refine I3 rfl 160 _ rfl si BS.out ?_)|(with_reducible refine wA sd (Ev.mk ?_)));apply Eo;have l2:=K7.out.lt;have lt2:=H.lt KT.out;have b3:=Ep w2 (EJ Jp.v.toArray 160);replace KT:=O<|KT.out.G b3;replace ON:=O<|ON.out.trans (EH.Ew b3);have K9:=O<|H.new w2 Jp.v.toArray 160;clear b3;generalize w2.alloc (EJ Jp.v.toArray 160)=w3 at*;generalize w2.heap.size=g9 at*;go_wp2_with (with_reducible refine wS (cs:=si) Zv K9 (Ev.mk ?_) (ho:=di.out) (hn:=XQ.out) (h1:=S0.out));apply Eo;replace KT:=O<|show E2 (w3.setRow g9 si) g T from H.setRow_other KT.out g9 si X;replace ON:=O<|ON.out.ZE (g2:=g9) X (bI (g:=g9) (W:=w3) si) gZ;replace K9:=O<|K9.out.setRow si;generalize w3.setRow g9 si=w4 at*;have c2:w4.cell? ⟨g,120,Z⟩=D (E I T.E9):=(CB.out _ KT.out).1;go_wp2_with fail;rw[Zy.out] at K9;refine(CH.out _ g9 K9.out).mono ?_;rintro e w5 ⟨rfl,k9,o9⟩;replace KT:=O<|show E2 w5 g T from o9.Ek KT.out X;replace ON:=O<|ON.out.ZE (g2:=g9) X o9 gZ;have I8:Ea (H w5 g9 sv.toArray 160):=O sg;clear k9 o9 K9 c2 CH Zy;have uQ:=H.lt KT.out;go_wp2_with fail;refine J5 7 Ed Ed ?_;simp only[Ir,Im,IL,IG]
 repeat (first
  |go_big_quiet_skip
  |(go_big_quiet_want
    first
     |(refine Ub (T:=160) (g:=g9) Zv _ rfl rfl I8 ?_ ?_;(·exact SZ.out);go_simp;go_big_quiet_on)
     |(go_big_quiet_op
       first
        |go_big_quiet_on
        |go_big_quiet_call ((fail)))))
 refine IM ?_;exact ElY
theorem EXa(g:Nat)(T:EP)(role:Int)(key:List Int)(w:M)(K:E2 w g T)(h:T.ok)(hr0:0<=role)(hr1:role<=3)(hk:key.length=32)(hon:(T.EY 2).on=B)(hm:T.Ik<T.most): Ef EU 124 #[Y (D ⟨g,0,Z⟩),E I 3,E I role,EZ (Ej key)] w fun e w'=>e=Eg (E I 0)/\E2 w' g (T.put 2 (It u (max T.E9 0) role key))/\EH g w w':=by
 have d3:decide (role<0)=B:=IJ X;have d4:decide (4<=role)=B:=IJ X;have hof:T.of g 3=Y Z:=by exact Em1
 have CO:Ea (∀W,E2 W g T->Ef EU 76 #[Y (D ⟨g,0,Z⟩),E I 3] W fun e w'=>e=Eg (Y Z)/\W=w'):=O fun W hW=>Gv;have CM:Ea (∀W,E2 W g T->Ef EU 170 #[Y (D ⟨g,0,Z⟩)] W fun e w'=>e=Eg (E I T.Ik)/\W=w'):=O fun W hW=>kB g T W hW h;have dm:decide (T.most<=T.Ik)=B:=IJ X;have TP:=O<|fun W (k:E2 W g T)=>ia k h 2 (It u (max T.E9 0) role key) hk;have TH:=O<|fun W (k:E2 W g T)=>(XN k (o:=81) (n:=39) kW);have CB:=O<|fun W (k:E2 W g T)=>iZ k h;have BS:=O<|kV role key hk;have CH:=O<|fun W (g9:Nat) (k:H W g9 (It false 0 role key).v.toArray 160)=>hZ g9 0 [] ([E .i64 role]++(key.map (E .u8)++Of Z)) (Ec B) (E I 0) (E I 0) 160 T.E9 W k U;have HK:=O hk;have hks:Ea ((Ej key).size=32):=O kY;have SZ:=O<|show(It u (max T.E9 0) role key).v.toArray.size=39 from I4.J_ hk;have XQ:=O<|show(It B 0 role key).v.toArray.size=39 from I4.J_ hk;have S1:=O<|Zw (It u (max T.E9 0) role key);have S0:=O<|Zw (It B 0 role key);have di:=O<|show Jp.v.toArray.size=39 from I4.J_ U;have KT:=O K;have lg:=H.lt K;clear hof hk hon hm K h;obtain⟨kv,hkv⟩:=En (Ej key);rw[<-hkv] at BS hks⊢;obtain⟨si,hsi⟩:=En ((It B 0 role key).v.toArray);rw[<-hsi] at BS XQ S0;obtain⟨sv,hsv⟩:=En ((It u (max T.E9 0) role key).v);obtain⟨T2,Uu⟩:=En (T.put 2 (It u (max T.E9 0) role key));rw[<-hsv,<-Uu] at TP;rw[<-Uu];rw[<-hsv] at SZ S1;have fg:=O hsv;have Zy:=O hsi;clear hkv hsi hsv Uu;go_enter gU,gX;go_wp2_with fail;have K7:=O<|H.new w kv 41;have b1:=Ep w (EJ kv 41);replace KT:=O<|KT.out.G b1;have ON:Ea (EH g w (w.alloc (EJ kv 41))):=O<|EH.Ew b1;have l7:=K7.out.lt;generalize w.alloc (EJ kv 41)=w1 at*;clear b1;have KX:Ea (∀y:Ext w1,E2 (Ey w1 y) g T):=O fun y=>KT.out.G (ED y);have c1: ∀y:Ext w1,(Ey w1 y).cell? ⟨g,121,Z⟩=D (E I T.most):=fun y=>(CB.out _ (KX.out y)).2;refine Xs Ed Ed ?_
 repeat (first
  |go_big_quiet_skip
  |(go_big_quiet_want
    first
     |(go_big_quiet_op
       first
        |go_big_quiet_on
        |go_big_quiet_call ((with_reducible first|refine X5 (CO.out _ (KX.out _))|refine X5 (CM.out _ (KX.out _)))))))
 refine IM ?_;intro _ hw';obtain⟨y9,rfl⟩:=hw';have Em:=ED y9;replace KT:=O<|KT.out.G Em;replace K7:=O<|K7.out.G Em;replace ON:=O<|ON.out.trans (EH.Ew Em);clear c1 KX CO CM Em;generalize Ey w1 y9=w2 at*;go_wp2_with (first|(with_reducible refine wL J7 K7 ?_ (hn:=hks.out))|((with_reducible refine Is 39 ?_);refine I3 rfl 160 _ rfl si BS.out ?_)|(with_reducible refine wA sd (Ev.mk ?_)));apply Eo;have l2:=K7.out.lt;have lt2:=H.lt KT.out;have b3:=Ep w2 (EJ Jp.v.toArray 160);replace KT:=O<|KT.out.G b3;replace ON:=O<|ON.out.trans (EH.Ew b3);have K9:=O<|H.new w2 Jp.v.toArray 160;clear b3;generalize w2.alloc (EJ Jp.v.toArray 160)=w3 at*;generalize w2.heap.size=g9 at*;go_wp2_with (with_reducible refine wS (cs:=si) Zv K9 (Ev.mk ?_) (ho:=di.out) (hn:=XQ.out) (h1:=S0.out));apply Eo;replace KT:=O<|show E2 (w3.setRow g9 si) g T from H.setRow_other KT.out g9 si X;replace ON:=O<|ON.out.ZE (g2:=g9) X (bI (g:=g9) (W:=w3) si) gZ;replace K9:=O<|K9.out.setRow si;generalize w3.setRow g9 si=w4 at*;have c2:w4.cell? ⟨g,120,Z⟩=D (E I T.E9):=(CB.out _ KT.out).1;go_wp2_with fail;rw[Zy.out] at K9;refine(CH.out _ g9 K9.out).mono ?_;rintro e w5 ⟨rfl,k9,o9⟩;replace KT:=O<|show E2 w5 g T from o9.Ek KT.out X;replace ON:=O<|ON.out.ZE (g2:=g9) X o9 gZ;have I8:Ea (H w5 g9 sv.toArray 160):=O sg;clear k9 o9 K9 c2 CH Zy;have uQ:=H.lt KT.out;go_wp2_with fail;refine J5 7 Ed Ed ?_;simp only[Ir,Im,IL,IG]
 repeat (first
  |go_big_quiet_skip
  |(go_big_quiet_want
    first
     |(refine Ub (T:=160) (g:=g9) Zv _ rfl rfl I8 ?_ ?_;(·exact SZ.out);go_simp;go_big_quiet_on)
     |(go_big_quiet_op
       first
        |go_big_quiet_on
        |go_big_quiet_call ((fail)))))
 refine IM ?_;exact ElY
theorem EXb(g:Nat)(T:EP)(role:Int)(key:List Int)(w:M)(K:E2 w g T)(h:T.ok)(hr0:0<=role)(hr1:role<=3)(hk:key.length=32)(hon:(T.EY 2).on=B)(hm:T.most<=T.Ik): Ef EU 124 #[Y (D ⟨g,0,Z⟩),E I 3,E I role,EZ (Ej key)] w fun e w'=>e=Eg (E I 19)/\E2 w' g T/\EH g w w':=by
 have d3:decide (role<0)=B:=IJ X;have d4:decide (4<=role)=B:=IJ X;have hof:T.of g 3=Y Z:=by exact Em1
 have CO:Ea (∀W,E2 W g T->Ef EU 76 #[Y (D ⟨g,0,Z⟩),E I 3] W fun e w'=>e=Eg (Y Z)/\W=w'):=O fun W hW=>Gv;have CM:Ea (∀W,E2 W g T->Ef EU 170 #[Y (D ⟨g,0,Z⟩)] W fun e w'=>e=Eg (E I T.Ik)/\W=w'):=O fun W hW=>kB g T W hW h;have dm:decide (T.most<=T.Ik)=u:=Ib hm;have TP:=O<|fun W (k:E2 W g T)=>ia k h 2 (It u (max T.E9 0) role key) hk;have TH:=O<|fun W (k:E2 W g T)=>(XN k (o:=81) (n:=39) kW);have CB:=O<|fun W (k:E2 W g T)=>iZ k h;have BS:=O<|kV role key hk;have CH:=O<|fun W (g9:Nat) (k:H W g9 (It false 0 role key).v.toArray 160)=>hZ g9 0 [] ([E .i64 role]++(key.map (E .u8)++Of Z)) (Ec B) (E I 0) (E I 0) 160 T.E9 W k U;have HK:=O hk;have hks:Ea ((Ej key).size=32):=O kY;have SZ:=O<|show(It u (max T.E9 0) role key).v.toArray.size=39 from I4.J_ hk;have XQ:=O<|show(It B 0 role key).v.toArray.size=39 from I4.J_ hk;have S1:=O<|Zw (It u (max T.E9 0) role key);have S0:=O<|Zw (It B 0 role key);have di:=O<|show Jp.v.toArray.size=39 from I4.J_ U;have KT:=O K;have lg:=H.lt K;clear hof hk hon hm K h;obtain⟨kv,hkv⟩:=En (Ej key);rw[<-hkv] at BS hks⊢;obtain⟨si,hsi⟩:=En ((It B 0 role key).v.toArray);rw[<-hsi] at BS XQ S0;obtain⟨sv,hsv⟩:=En ((It u (max T.E9 0) role key).v);obtain⟨T2,Uu⟩:=En (T.put 2 (It u (max T.E9 0) role key));rw[<-hsv] at SZ S1;have fg:=O hsv;have Zy:=O hsi;clear hkv hsi hsv Uu TP TH;go_enter gU,gX;go_wp2_with fail;have K7:=O<|H.new w kv 41;have b1:=Ep w (EJ kv 41);replace KT:=O<|KT.out.G b1;have ON:Ea (EH g w (w.alloc (EJ kv 41))):=O<|EH.Ew b1;have l7:=K7.out.lt;generalize w.alloc (EJ kv 41)=w1 at*;clear b1;have KX:Ea (∀y:Ext w1,E2 (Ey w1 y) g T):=O fun y=>KT.out.G (ED y);have c1: ∀y:Ext w1,(Ey w1 y).cell? ⟨g,121,Z⟩=D (E I T.most):=fun y=>(CB.out _ (KX.out y)).2;refine Xs Ed Ed ?_
 repeat (first
  |go_big_quiet_skip
  |(go_big_quiet_want
    first
     |(go_big_quiet_op
       first
        |go_big_quiet_on
        |go_big_quiet_call ((with_reducible first|refine X5 (CO.out _ (KX.out _))|refine X5 (CM.out _ (KX.out _)))))))
 refine IM ?_;exact El3
theorem EXc(g:Nat)(T:EP)(src role:Int)(key:List Int)(w:M)(K:E2 w g T)(h:T.ok)(hk:key.length=32): Ef EU 124 #[Y (D ⟨g,0,Z⟩),E I src,E I role,EZ (Ej key)] w (sf T g src role key w):=by
 have hbad: ∀(e:Ut) (w':M),¬((src=1\/src=2\/src=3)/\0<=role/\role<=3)->e=Eg (E I 1)/\El w w'->sf T g src role key w e w':=by intro e w' hn ⟨he,hb⟩;unfold sf;rw[if_neg hn];exact⟨⟨he,K.G hb⟩,EH.Ew hb⟩
 by_cases h1:src<1;·exact(EU7 g src role key w h1).mono fun e w' hp=>hbad e w' X hp
 by_cases h2:3<src;·exact(EU8 g src role key w h2).mono fun e w' hp=>hbad e w' X hp
 by_cases h3:role<0;·exact(EU9 g src role key w X X h3).mono fun e w' hp=>hbad e w' X hp
 by_cases h4:3<role;·exact(EU_ g src role key w X X h4).mono fun e w' hp=>hbad e w' X hp
 have hs:src=1\/src=2\/src=3:=X;have hg:(src=1\/src=2\/src=3)/\0<=role/\role<=3:=⟨hs,X,X⟩;unfold sf;simp only[if_pos hg];rcases hs with rfl|rfl|rfl
 ·show Ef _ _ _ _ fun e w'=>(if(T.EY 0).on=B/\T.most<=T.Ik then e=Eg (E I 19)/\E2 w' g T else e=Eg (E I 0)/\E2 w' g (T.put 0 (It u (max T.E9 0) role key)))/\EH g w w'
  cases hon:(T.EY 0).on with
  |true=>exact(EXE g T role key w K h X X hk hon).mono fun e w' ⟨a,b,c⟩=>⟨Gw,c⟩
  |false=>
   by_cases hm:T.most<=T.Ik;·exact(EXJ g T role key w K h X X hk hon hm).mono fun e w' ⟨a,b,c⟩=>⟨Gx,c⟩
   ·exact(EXI g T role key w K h X X hk hon X).mono fun e w' ⟨a,b,c⟩=>⟨Gy,c⟩
 ·show Ef _ _ _ _ fun e w'=>(if(T.EY 1).on=B/\T.most<=T.Ik then e=Eg (E I 19)/\E2 w' g T else e=Eg (E I 0)/\E2 w' g (T.put 1 (It u (max T.E9 0) role key)))/\EH g w w'
  cases hon:(T.EY 1).on with
  |true=>exact(EXO g T role key w K h X X hk hon).mono fun e w' ⟨a,b,c⟩=>⟨Gw,c⟩
  |false=>
   by_cases hm:T.most<=T.Ik;·exact(EXX g T role key w K h X X hk hon hm).mono fun e w' ⟨a,b,c⟩=>⟨Gx,c⟩
   ·exact(EXU g T role key w K h X X hk hon X).mono fun e w' ⟨a,b,c⟩=>⟨Gy,c⟩
 ·show Ef _ _ _ _ fun e w'=>(if(T.EY 2).on=B/\T.most<=T.Ik then e=Eg (E I 19)/\E2 w' g T else e=Eg (E I 0)/\E2 w' g (T.put 2 (It u (max T.E9 0) role key)))/\EH g w w'
  cases hon:(T.EY 2).on with
  |true=>exact(EXZ g T role key w K h X X hk hon).mono fun e w' ⟨a,b,c⟩=>⟨Gw,c⟩
  |false=>
   by_cases hm:T.most<=T.Ik;·exact(EXb g T role key w K h X X hk hon hm).mono fun e w' ⟨a,b,c⟩=>⟨Gx,c⟩
   ·exact(EXa g T role key w K h X X hk hon X).mono fun e w' ⟨a,b,c⟩=>⟨Gy,c⟩
theorem Ra(a:Option Eu)(c:Nat)(W:M):(Instr.arrayAt 115 (EI a 8 c)).run EU W= .ok (Y a) W:=by simp[Instr.arrayAt,run_underlying Tryz.underlying115]
theorem EXd(l:List Int)(k:Nat):(Ej l).extract 0 (0+k)=Ej (l.take k):=by simp[Ej]
theorem Gz(A Y4:Option Eu)(k b:List Int)(n m c d:Nat)(w:M)(hn:k.length=n)(hm:b.length=m)(hk:Row w A k)(hb:Row w Y4 b)(hl:n<=10000000)(hl2:m<=10000000)(hR:JP w): Ef EU 210 #[EI A n c,EI Y4 m d] w fun e w'=>e=Eg (EZ (Ej ((J1 k b).take 8)))/\El w w':=by have C:=fun(W:M) (hb':El w W)=>RZ A Y4 k b n m c d W hn hm (Iy hk hb') (Iy hb hb') hl hl2 (hR.G hb');have AL:=nO k b;generalize J1 k b=ans at*;have Rb:=O AL;have C2:=O C;have T8:Ea ((ans.take 8).length=8):=O (by rw[aj,Rb.out];rfl);have Rc:=Ra;clear C AL hk hb hR hn hm;go_enter Tryz.func210,Tryz.ntmps210;go_wp2_with (with_reducible refine wA pi (Ev.mk ?_));apply Eo;have BB:=O<|IE w.heap.size w;have bel:=Ep w (EJ (Ej (Er 8)) 115);replace BB:=EW BB bel;have K4:=O<|H.new w (Ej (Er 8)) 115;clear bel;generalize w.alloc (EJ (Ej (Er 8)) 115)=w1 at*;go_wp2_with fail;refine(C2.out _ BB.out).mono ?_;rintro e w2 ⟨rfl,b2⟩;replace K4:=O<|K4.out.G b2;replace BB:=EW BB b2;have l2:=K4.out.lt;clear b2 C2;go_wp2_with (with_reducible refine wA aY (Ev.mk ?_));apply Eo;have bel:=Ep w2 (EJ (Ej (Er 32)) 41);replace K4:=O<|K4.out.G bel;replace BB:=EW BB bel;have K5:=O<|H.new w2 (Ej (Er 32)) 41;clear bel;generalize w2.alloc (EJ (Ej (Er 32)) 41)=w3 at*;generalize w2.heap.size=g5 at*;go_wp2_with (with_reducible refine wS (cs:=Ej ans) J7 K5 (Ev.mk ?_) (ho:=Xd) (hn:=by with_unfolding_all (rw[Om,Rb.out])) (h1:=Xt _));apply Eo;replace K4:=O<|K4.out.setRow_other g5 (Ej ans) X;replace K5:=O<|K5.out.setRow (Ej ans);replace BB:=O<|E3 (g:=g5) BB.out X (Ej ans);generalize w3.setRow g5 (Ej ans)=w4 at*;go_wp2_with (with_reducible first|refine wM (off:=0) (cs:=Ej (ans.take 8)) Z_ K5 ?_ (hn:=GA) (he:=EXd _ _)|refine wS (cs:=Ej (ans.take 8)) Z_ K4 ?_ (ho:=Xd) (hn:=GA) (h1:=Xt _));refine ET (v:=EZ (Ej (ans.take 8))) (Jl Z_ U _ _ (w.heap.size) _ U (K4.out.setRow _) (by rw[Om,T8.out])) U ⟨U,E3 BB.out X _⟩
theorem Rd(n:Int)(k:Nat)(m:Int)(hk:k<=63)(hm:IntKind.u64.wrap (IntKind.u64.wrap (2^k)-1)=m)(hd:(2:Int)^k∣18446744073709551616):Ix .and .u64 (IntKind.u64.wrap n) m=n%2^k:=by
 have e:IntKind.u64.wrap n=n%18446744073709551616:=by unfold oD;rfl
 rw[e,<-hm,QU k hk _ X X];exact Int.emod_emod_of_dvd n hd
theorem EXf(n:Int):Ix .and .u64 (IntKind.u64.wrap n) 255=n%256:=Rd n 8 255 X Eb Eb
theorem EXg(n:Int):Ix .and .u64 (IntKind.u64.wrap n) 4294967295=n%4294967296:=Rd n 32 4294967295 X Eb Eb
theorem uR(g m c:Nat)(cs:Array V)(ps:List (List Int))(w:M)(hm:ps.length=m)(hk:H w g cs 23)(hp:fd w cs ps)(hs:ps.flatten.length<=100000000)(hm2:m<=1000): Ef EU 172 #[EI (D ⟨g,0,Z⟩) m c] w fun e w'=>(∃A d,e=Eg (EI A ps.flatten.length d)/\Own w' w.heap.size A d ps.flatten)/\El w w':=by
 have HM:=O hm;have HK:=O hk;have HP:=O hp;have HS:=O hs;clear hm hk hp hs;go_enter Tryz.func172,Tryz.ntmps172;go_wp2_with fail;go_loopw[3,8] (fun x y wr=> ∃(i:Nat) (A:Option Eu) (d n:Nat),i<=m/\y=E I i/\x=EI A n d/\(ps.take i).flatten.length=n/\Own wr w.heap.size A d (ps.take i).flatten/\El w wr) (fun _ y _=>m-(Iv y).toNat);case atStart=>exact⟨0,Z,0,0,X,U,U,U,X9 _ _,IE _ _⟩
 case round=>
  obtain⟨i,A,d,n,hi,rfl,rfl,hn,ho,BB⟩:=hrel;by_cases hlt:i<m
  ·have hil:i<ps.length:=Gm;obtain⟨Y4,c2,e2,r2⟩:=HP.out.2 i hil;have ck:=(HK.out.G BB).cell i;rw[e2] at ck;have hst:(ps.take (i+1)).flatten=(ps.take i).flatten++ps[i]:=QY;have hle:(ps.take (i+1)).flatten.length<=100000000:=by have h1:=HS.out;have h2:ps.flatten=(ps.take (i+1)).flatten++(ps.drop (i+1)).flatten:=Q2;rw[h2,I2] at h1;omega
   rw[hst,I2] at hle;exact ElW
  ·exact Enl
theorem EXh{n:Nat}(hn:x.length=n)(hx:Row w A x):fd w #[EI A n c] [x]:=by
 subst hn;refine⟨U,fun i hi=> ?_⟩;match i,hi with
 |0,_=>exact⟨A,c,U,hx⟩
theorem Rf{n e:Nat}(hn:x.length=n)(hm:y.length=m)(hk:z.length=k)(hx:Row w A x)(hy:Row w Y4 y)(hz:Row w C z):fd w #[EI A n c,EI Y4 m d,EI C k e] [x,y,z]:=by
 subst hn hm hk;refine⟨U,fun i hi=> ?_⟩;match i,hi with
 |0,_=>exact⟨A,c,U,hx⟩
 |1,_=>exact⟨Y4,d,U,hy⟩
 |2,_=>exact⟨C,e,U,hz⟩
theorem EXi{Y_:Option Eu}{n l e f:Nat}{Y3:List Int}(hn:x.length=n)(hm:y.length=m)(hk:z.length=k)(hl:Y3.length=l)(hx:Row w A x)(hy:Row w Y4 y)(hz:Row w C z)(hu:Row w Y_ Y3):fd w #[EI A n c,EI Y4 m d,EI C k e,EI Y_ l f] [x,y,z,Y3]:=by
 subst hn hm hk hl;refine⟨U,fun i hi=> ?_⟩;match i,hi with
 |0,_=>exact⟨A,c,U,hx⟩
 |1,_=>exact⟨Y4,d,U,hy⟩
 |2,_=>exact⟨C,e,U,hz⟩
 |3,_=>exact⟨Y_,f,U,hu⟩
theorem Aa(n:Int)(w:M): Ef EU 211 #[E I n,E I 1] w fun e w'=>(∃g,e=Eg (EI (D ⟨g,0,Z⟩) 1 1)/\Row w' (D ⟨g,0,Z⟩) (be (n%256) 1))/\El w w':=by have h1:=EXf n;have hp:Ef EU 111 #[E Il (n%256),E I 1] w fun e w'=>e=Eg (Et #[EI (D ⟨w.heap.size,0,Z⟩) 1 1,E I 0])/\Row w' (D ⟨w.heap.size,0,Z⟩) (be (n%256) 1)/\El w w':=kw (n%256) 1 w X X X (by show n%256/256=0;omega);generalize be (n%256) 1=b at*;generalize n%256=m at*;exact EmC
theorem EXj(n:Int)(w:M): Ef EU 211 #[E I n,E I 4] w fun e w'=>(∃g,e=Eg (EI (D ⟨g,0,Z⟩) 4 4)/\Row w' (D ⟨g,0,Z⟩) (be (n%4294967296) 4))/\El w w':=by have h1:=EXg n;have hp:Ef EU 111 #[E Il (n%4294967296),E I 4] w fun e w'=>e=Eg (Et #[EI (D ⟨w.heap.size,0,Z⟩) 4 4,E I 0])/\Row w' (D ⟨w.heap.size,0,Z⟩) (be (n%4294967296) 4)/\El w w':=kw (n%4294967296) 4 w X X X (by show n%4294967296/4294967296=0;omega);generalize be (n%4294967296) 4=b at*;generalize n%4294967296=m at*;exact EmC
theorem Row.G(h:Row w A xs)(hb:El w w'):Row w' A xs:=Iy h hb
def OP(y s r:Int)(nc:List Int):List Int:=[[y],be (s%256) 1,be (r%256) 1,nc].flatten
def dj(s q:Int):List Int:=[[78],be (s%256) 1,be (q%4294967296) 4].flatten
def nZ(s:Int)(b:List Int):List Int:=[[77],be (s%256) 1,b].flatten
theorem GB(y s r:Int)(nc:List Int)(h:nc.length=8):(OP y s r nc).length=11:=by simp[OP,Ua,h]
theorem EXk(s q:Int):(dj s q).length=6:=by simp[dj,Ua]
theorem Rg(s:Int)(b:List Int):(nZ s b).length=2+b.length:=by simp[nZ,Ua];omega
theorem GC{y:Int}(h:H w g #[E IP y] T)(hy:0<=y/\y<=255):Row w (D ⟨g,0,Z⟩) [y]:=EU0 h U (by intro x hx;simp at hx;subst hx;exact hy)
def Ac(y s r:Int)(nc:List Int)(g7:Nat)(i:Nat)(v:V)(w:M):Prop:=match i with
 |0=>v=E IP y
 |1=> ∃g,v=EI (D ⟨g,0,Z⟩) 1 1/\Row w (D ⟨g,0,Z⟩) [y]
 |2=>v=E I s
 |3=> ∃g,v=EI (D ⟨g,0,Z⟩) 1 1/\Row w (D ⟨g,0,Z⟩) (be (s%256) 1)
 |4=>v=E I r
 |5=> ∃g,v=EI (D ⟨g,0,Z⟩) 1 1/\Row w (D ⟨g,0,Z⟩) (be (r%256) 1)
 |6=>v=EI (D ⟨g7,0,Z⟩) 8 8
 |7=> ∃g cs,v=EI (D ⟨g,0,Z⟩) 4 4/\H w g cs 23/\fd w cs [[y],be (s%256) 1,be (r%256) 1,nc]
 |_=> ∃A d,v=EI A 11 d/\Row w A (OP y s r nc)
theorem EXl(y s r:Int)(nc:List Int)(g7:Nat): ∀i v w w',i<10->Ac y s r nc g7 i v w->Oa w w'->Ac y s r nc g7 i v w':=by
 intro i v w w' hi h hb;unfold Ac at*;split at h;case h_2|h_4|h_6=>obtain⟨g,e,k⟩:=h;exact⟨g,e,k.G hb⟩
 case h_8=> exact Epo
 case h_9=>obtain⟨g,d,e,k⟩:=h;exact⟨g,d,e,k.G hb⟩
 all_goals exact h
theorem Rh(y s r:Int)(nc:List Int)(hl:nc.length=8)(hb: ∀x∈nc,0<=x/\x<=255)(hy:0<=y/\y<=255)(w:M): Ef EU 214 #[E IP y,E I s,E I r,EZ (Ej nc)] w fun e w'=>(∃A d,e=Eg (EI A 11 d)/\Row w' A (OP y s r nc))/\El w w':=by
 have HL:=O hl;have HB:=O hb;have HY:=O hy;clear hl hb hy;go_enter Tryz.func214,Tryz.ntmps214;go_wp2_with fail;have K7:=O<|H.new w (Ej nc) 115;have BB:=O<|Ep w (EJ (Ej nc) 115);generalize w.alloc (EJ (Ej nc) 115)=w1 at*;refine aQ EM Ed 10 Ed Eh Eb (Ac y s r nc w.heap.size) (EXl y s r nc w.heap.size) ?_ ?_
 ·simp only[X6,Ir,Im,EL,In,Ip,Ig,Ih,and_true];refine⟨?_,?_,?_,?_,?_,?_,?_,?_,?_,?_⟩;all_goals intro v w' hb hd
  ·exact Elz
  ·have d0:v 0=E IP y:=hd.at 0 rfl;exact bL (v:=EI (D ⟨w'.heap.size,0,Z⟩) 1 1) (w':=w'.alloc (EJ #[E IP y] 5)) (Ei U) U4 (Ep w' _) ⟨_,U,GC (H.new w' _ _) HY.out⟩
  ·exact Elz
  ·exact Em_
  ·exact Elz
  ·have d4:v 4=E I r:=hd.at 4 rfl;refine Ot (f:=211) (args:= #[v 4,E I 1]) (Ei U) Ez ?_;rw[d4];exact(Aa r w').mono fun e w'' ⟨⟨g,he,r⟩,hb'⟩=>⟨_,he,hb',g,U,r⟩
  ·exact Elz
  ·obtain⟨g1,d1,r1⟩: ∃g,v 1=EI (D ⟨g,0,Z⟩) 1 1/\Row w' (D ⟨g,0,Z⟩) [y]:=hd.at 1 rfl;obtain⟨g3,d3,r3⟩: ∃g,v 3=EI (D ⟨g,0,Z⟩) 1 1/\Row w' (D ⟨g,0,Z⟩) (be (s%256) 1):=hd.at 3 rfl;obtain⟨g5,d5,r5⟩: ∃g,v 5=EI (D ⟨g,0,Z⟩) 1 1/\Row w' (D ⟨g,0,Z⟩) (be (r%256) 1):=hd.at 5 rfl;have d6:v 6=EI (D ⟨w.heap.size,0,Z⟩) 8 8:=hd.at 6 rfl;have b1:=Ep w' (EJ #[EI (D ⟨g1,0,Z⟩) 1 1,EI (D ⟨g3,0,Z⟩) 1 1,EI (D ⟨g5,0,Z⟩) 1 1,EI (D ⟨w.heap.size,0,Z⟩) 8 8] 23);exact bL (v:=EI (D ⟨w'.heap.size,0,Z⟩) 4 4) (w':=w'.alloc (EJ #[EI (D ⟨g1,0,Z⟩) 1 1,EI (D ⟨g3,0,Z⟩) 1 1,EI (D ⟨g5,0,Z⟩) 1 1,EI (D ⟨w.heap.size,0,Z⟩) 8 8] 23)) (Ei U) (by simp[go_sem,d1,d3,d5,d6]) b1 ⟨_,_,U,H.new _ _ _,EXi U (Ua _ _) (Ua _ _) HL.out (r1.G b1) (r3.G b1) (r5.G b1) ((aR (K7.out.G hb) HB.out).G b1)⟩
  ·obtain⟨g,cs,d7,k7,p7⟩: ∃g cs,v 7=EI (D ⟨g,0,Z⟩) 4 4/\H w' g cs 23/\fd w' cs [[y],be (s%256) 1,be (r%256) 1,nc]:=hd.at 7 rfl;refine Ot (f:=172) (args:= #[v 7]) (Ei U) Ez ?_;rw[d7];have hln:[[y],be (s%256) 1,be (r%256) 1,nc].flatten.length=11:=GB y s r nc HL.out;refine(uR g 4 4 cs _ w' U k7 p7 (by rw[hln];omega) X).mono fun e w'' ⟨⟨A,d,he,o⟩,hb'⟩=>⟨_,he,hb',A,d,by rw[hln],o.row⟩
  ·obtain⟨A,d,d8,r8⟩: ∃A d,v 8=EI A 11 d/\Row w' A (OP y s r nc):=hd.at 8 rfl;exact IU EM (Ei U) gd ⟨A,d,U,r8⟩
 ·intro v w' hb hr;obtain⟨A,d,d9,r9⟩: ∃A d,v 9=EI A 11 d/\Row w' A (OP y s r nc):=hr 9 X;simp only[Ir,Im,IL,IG,EL,In,Ip,Ig,Ih];rw[d9];have b2:=bt BB.out hb;clear hr hb d9;go_wp2_with fail;go_ret;exact⟨⟨_,_,U,r9⟩,b2⟩
theorem EXm(A:Option Eu)(k:List Int)(n c:Nat)(s q:Int)(w:M)(hn:k.length=n)(hk:Row w A k)(hl:n<=10000000)(hR:JP w): Ef EU 164 #[EI A n c,E I s,E I q] w fun e w'=>e=Eg (EZ (Ej ((J1 k (dj s q)).take 8)))/\El w w':=by have HN:=O hn;have HK:=O hk;have RT:=O hR;have BB:=O<|IE w.heap.size w;have NL:=EXk s q;have CT:=fun(Y4:Option Eu) (d:Nat) (W:M) (hb:Row W Y4 (dj s q)) (hw:El w W)=>Gz A Y4 k (dj s q) n 6 c d W hn NL (hk.G hw) hb hl X (hR.G hw);have T8:((J1 k (dj s q)).take 8).length=8:=uS;have CJ:=fun(g c:Nat) (Y4 C Y_:Option Eu) (e f h:Nat) (W:M) (hk:H W g #[EI Y4 1 e,EI C 1 f,EI Y_ 4 h] 23) (r1:Row W Y4 [78]) (r2:Row W C (be (s%256) 1)) (r3:Row W Y_ (be (q%4294967296) 4))=> uR g 3 c _ _ W U hk (Rf U (Ua _ _) (Ua _ _) r1 r2 r3) (by show(dj s q).length<=_;omega) X;have e1:[[78],be (s%256) 1,be (q%4294967296) 4].flatten=dj s q:=rfl;simp only[e1,NL] at CJ;have CA:=fun W=>Aa s W;have CB:=fun W=>EXj q W;generalize (J1 k (dj s q)).take 8=ans at*;generalize dj s q=nb at*;generalize be (s%256) 1=bs at*;generalize be (q%4294967296) 4=bq at*;replace CT:=O CT;replace CJ:=O CJ;replace CA:=O CA;replace CB:=O CB;replace T8:=O T8;clear hn hk hR NL e1;go_enter Tryz.func164,Tryz.ntmps164;go_wp2_with (with_reducible refine wA pi (Ev.mk ?_));apply Eo;have bel:=Ep w (EJ (Ej (Er 8)) 115);replace BB:=EW BB bel;have K6:=O<|H.new w (Ej (Er 8)) 115;clear bel;generalize w.alloc (EJ (Ej (Er 8)) 115)=w1 at*;go_wp2_with (go_at_call 211;refine Ev.mk ?_);apply Eo;have l6:=K6.out.lt;have bel:=Ep w1 (EJ #[E IP 78] 5);replace K6:=O<|K6.out.G bel;replace BB:=EW BB bel;have K8:=O<|H.new w1 #[E IP 78] 5;clear bel;generalize w1.alloc (EJ #[E IP 78] 5)=w2 at*;generalize w1.heap.size=g8 at*;refine(CA.out _).mono ?_;rintro e w3 ⟨⟨g3,rfl,r3⟩,b3⟩;replace K6:=O<|K6.out.G b3;replace K8:=O<|K8.out.G b3;replace BB:=EW BB b3;replace r3:=O r3;clear b3;go_wp2_with fail;refine(CB.out _).mono ?_;rintro e w4 ⟨⟨g4,rfl,r4⟩,b4⟩;replace K6:=O<|K6.out.G b4;replace K8:=O<|K8.out.G b4;replace r3:=O<|r3.out.G b4;replace BB:=EW BB b4;replace r4:=O r4;clear b4;go_wp2_with (go_at_call 172;refine Ev.mk ?_);apply Eo;have bel:=Ep w4 (EJ #[EI (D ⟨g8,0,Z⟩) 1 1,EI (D ⟨g3,0,Z⟩) 1 1,EI (D ⟨g4,0,Z⟩) 4 4] 23);replace K6:=O<|K6.out.G bel;replace K8:=O<|K8.out.G bel;replace r3:=O<|r3.out.G bel;replace r4:=O<|r4.out.G bel;replace BB:=EW BB bel;have Uc:=O<|H.new w4 #[EI (D ⟨g8,0,Z⟩) 1 1,EI (D ⟨g3,0,Z⟩) 1 1,EI (D ⟨g4,0,Z⟩) 4 4] 23;clear bel;generalize w4.alloc (EJ #[EI (D ⟨g8,0,Z⟩) 1 1,EI (D ⟨g3,0,Z⟩) 1 1,EI (D ⟨g4,0,Z⟩) 4 4] 23)=w5 at*;generalize w4.heap.size=g13 at*;refine(CJ.out g13 _ _ _ _ _ _ _ _ Uc.out (GC K8.out X) r3.out r4.out).mono ?_;rintro e w6 ⟨⟨A6,d6,rfl,o6⟩,b6⟩;replace K6:=O<|K6.out.G b6;replace BB:=EW BB b6;have r6:=O o6.row;clear b6 o6 r3 r4 Uc K8 CJ CA CB;go_wp2_with fail;refine(CT.out _ _ _ r6.out BB.out).mono ?_;rintro e w7 ⟨rfl,b7⟩;replace K6:=O<|K6.out.G b7;replace BB:=EW BB b7;clear b7 r6 CT;go_wp2_with (with_reducible refine wS (cs:=Ej ans) Z_ K6 ?_ (ho:=Xd) (hn:=GA) (h1:=Xt _));refine ET (v:=EZ (Ej ans)) (Jl Z_ U _ _ (w.heap.size) _ U (K6.out.setRow _) (by rw[Om,T8.out])) U ⟨U,E3 BB.out X _⟩
theorem Ri(A:Option Eu)(k nc:List Int)(n c:Nat)(s r:Int)(w:M)(hn:k.length=n)(hk:Row w A k)(hl:n<=10000000)(hc:nc.length=8)(hb: ∀x∈nc,0<=x/\x<=255)(hR:JP w): Ef EU 167 #[EI A n c,E I s,E I r,EZ (Ej nc)] w fun e w'=>e=Eg (EZ (Ej ((J1 k (OP 80 s r nc)).take 8)))/\El w w':=by have HC:=O hc;have BB:=O<|IE w.heap.size w;have NL:=GB 80 s r nc hc;have CT:=fun(Y4:Option Eu) (d:Nat) (W:M) (hb:Row W Y4 (OP 80 s r nc)) (hw:El w W)=>Gz A Y4 k (OP 80 s r nc) n 11 c d W hn NL (hk.G hw) hb hl X (hR.G hw);have TL:((J1 k (OP 80 s r nc)).take 8).length=8:=uS;have CL:=fun W=>Rh 80 s r nc hc hb X W;generalize (J1 k (OP 80 s r nc)).take 8=ans at*;generalize OP 80 s r nc=nb at*;replace CT:=O CT;replace CL:=O CL;replace TL:=O TL;clear hn hk hR NL hc hb;go_enter Tryz.func167,Tryz.ntmps167;go_wp2_with (with_reducible refine wA pi (Ev.mk ?_));apply Eo;have K7:=O<|(H.new w (Ej nc) 115).alloc (EJ (Ej (Er 8)) 115);have K8:=O<|H.new' (w.alloc (EJ (Ej nc) 115)) (Ej (Er 8)) 115 (g:=w.heap.size+1) Eh;replace BB:=O<|J9 w (EJ (Ej nc) 115) (EJ (Ej (Er 8)) 115);generalize (w.alloc (EJ (Ej nc) 115)).alloc (EJ (Ej (Er 8)) 115)=w1 at*;go_wp2_with (with_reducible refine wL Z_ K7 ?_ (hn:=Ad));refine(CL.out _).mono ?_;rintro e w2 ⟨⟨A2,d2,rfl,r2⟩,b2⟩;replace K8:=O<|K8.out.G b2;replace BB:=EW BB b2;replace r2:=O r2;clear b2 CL K7;go_wp2_with fail;refine(CT.out _ _ _ r2.out BB.out).mono ?_;rintro e w3 ⟨rfl,b3⟩;replace K8:=O<|K8.out.G b3;replace BB:=EW BB b3;clear b3 r2 CT;go_wp2_with (with_reducible refine wS (cs:=Ej ans) Z_ K8 ?_ (ho:=Xd) (hn:=GD) (h1:=Xt _));refine ET (v:=EZ (Ej ans)) (Jl Z_ U _ _ (w.heap.size+1) _ U (K8.out.setRow _) (by rw[Om,TL.out])) U ⟨U,E3 BB.out X _⟩
theorem Rj(A:Option Eu)(k nc:List Int)(n c:Nat)(s r:Int)(w:M)(hn:k.length=n)(hk:Row w A k)(hl:n<=10000000)(hc:nc.length=8)(hb: ∀x∈nc,0<=x/\x<=255)(hR:JP w): Ef EU 169 #[EI A n c,E I s,E I r,EZ (Ej nc)] w fun e w'=>e=Eg (EZ (Ej (J1 k (OP 75 s r nc))))/\El w w':=by
 have HC:=O hc;have BB:=O<|IE w.heap.size w;have NL:=GB 75 s r nc hc;have CT:=fun(Y4:Option Eu) (d:Nat) (W:M) (hb:Row W Y4 (OP 75 s r nc)) (hw:El w W)=>RZ A Y4 k (OP 75 s r nc) n 11 c d W hn NL (hk.G hw) hb hl X (hR.G hw);have TL:(J1 k (OP 75 s r nc)).length=32:=by exact nO _ _
 have CL:=fun W=>Rh 75 s r nc hc hb X W;generalize J1 k (OP 75 s r nc)=ans at*;generalize OP 75 s r nc=nb at*;replace CT:=O CT;replace CL:=O CL;replace TL:=O TL;clear hn hk hR NL hc hb;go_enter Tryz.func169,Tryz.ntmps169;go_wp2_with (with_reducible refine wA aY (Ev.mk ?_));apply Eo;have K7:=O<|(H.new w (Ej nc) 115).alloc (EJ (Ej (Er 32)) 41);have K8:=O<|H.new' (w.alloc (EJ (Ej nc) 115)) (Ej (Er 32)) 41 (g:=w.heap.size+1) Eh;replace BB:=O<|J9 w (EJ (Ej nc) 115) (EJ (Ej (Er 32)) 41);generalize (w.alloc (EJ (Ej nc) 115)).alloc (EJ (Ej (Er 32)) 41)=w1 at*;go_wp2_with (with_reducible refine wL Z_ K7 ?_ (hn:=Ad));refine(CL.out _).mono ?_;rintro e w2 ⟨⟨A2,d2,rfl,r2⟩,b2⟩;replace K8:=O<|K8.out.G b2;replace BB:=EW BB b2;replace r2:=O r2;clear b2 CL K7;go_wp2_with fail;refine(CT.out _ _ _ r2.out BB.out).mono ?_;rintro e w3 ⟨rfl,b3⟩;replace K8:=O<|K8.out.G b3;replace BB:=EW BB b3;clear b3 r2 CT;go_wp2_with (with_reducible refine wS (cs:=Ej ans) J7 K8 ?_ (ho:=Xd) (hn:=GD) (h1:=Xt _));refine ET (v:=EZ (Ej ans)) (Jl J7 U _ _ (w.heap.size+1) _ U (K8.out.setRow _) (by rw[Om,TL.out])) U ⟨U,E3 BB.out X _⟩
def dk(key:List Int)(s:Int)(b:List Int):List Int:=(J1 key (nZ s b)).take 8
theorem EXn(A:Option Eu)(n c m:Nat)(hm:m<=c)(W:M):(Instr.sliceAt 23 (EI A n c) Z (D (E I (m:Int))) Z).run EU W= .ok (EI A m c) W:=by have h2:(m:Int)<=(c:Int):=X;have h0:(0:Int)<=(m:Int):=X;simp[go_sem,h2,h0]
theorem GF(o:EN){a:E6}(x y:UH)(ho:o.op= .slice 23 x Z (D y) Z)(A:Option Eu)(n c m:Nat)(hx:a.eval x=EI A n c)(hy:a.eval y=E I (m:Int))(hm:m<=c): (Iw a.eval o).run EU w= .ok (.value (EI A m c)) w:=by have h:=EXn A n c m hm w;unfold Iw;simp only[ho,j_,Option.map_none,hx,hy,Ud,h,UU,Uf]
theorem GG(key:List Int)(s:Int)(b:List Int):(dk key s b).length=8:=by unfold dk;rw[aj,nO];rfl
theorem EXo(key:List Int)(s:Int)(b:List Int): ∀x∈dk key s b,0<=x/\x<=255:=fun x hx=>uM _ _ x (fK hx)
theorem bJ{b:Nat}(h:Own w c A cap xs)(hb:b<=c):Own w b A cap xs:=by
 obtain⟨⟨h1,h2⟩,h3⟩:=h;refine⟨⟨h1,?_⟩,h3⟩;rcases h2 with h2|⟨g,cap',cur,hv,hg,hh⟩;·exact .inl h2
 ·exact .inr ⟨g,cap',cur,hv,EA hb hg,hh⟩
def Af(s:Int)(b tg:List Int)(Y4:Option Eu)(m d g3 Y5:Nat)(i:Nat)(v:V)(w:M):Prop:=match i with
 |0=>v=EI (D ⟨g3,0,Z⟩) 32 32
 |1=> ∃g,v=EI (D ⟨g,0,Z⟩) 1 1/\Row w (D ⟨g,0,Z⟩) [77]
 |2=>v=E I s
 |3=> ∃g,v=EI (D ⟨g,0,Z⟩) 1 1/\Row w (D ⟨g,0,Z⟩) (be (s%256) 1)
 |4=>v=EI Y4 m d
 |5=> ∃g cs,v=EI (D ⟨g,0,Z⟩) 3 3/\H w g cs 23/\fd w cs [[77],be (s%256) 1,b]
 |6=> ∃A d',v=EI A (2+m) d'/\Row w A (nZ s b)
 |7=>v=EZ (Ej tg)
 |_=> ∃g,v=Y (D ⟨g,0,Z⟩)/\Y5<=g/\H w g (Ej (Er 8)) 115
theorem EXp(s:Int)(b tg:List Int)(Y4:Option Eu)(m d g3 Y5:Nat): ∀i v w w',i<9->Af s b tg Y4 m d g3 Y5 i v w->Oa w w'->Af s b tg Y4 m d g3 Y5 i v w':=by
 intro i v w w' hi h hb;unfold Af at*;split at h;case h_2|h_4=>obtain⟨g,e,k⟩:=h;exact⟨g,e,k.G hb⟩
 case h_6=> exact Epo
 case h_7=>obtain⟨g,d,e,k⟩:=h;exact⟨g,d,e,k.G hb⟩
 case h_9=>obtain⟨g,e,l,k⟩:=h;exact⟨g,e,l,k.G hb⟩
 all_goals exact h
theorem Rk(key b:List Int)(Y4:Option Eu)(m d:Nat)(s:Int)(w:M)(hl:key.length=32)(hkb: ∀x∈key,0<=x/\x<=255)(hm:b.length=m)(hr:Row w Y4 b)(hm2:m<=1000000)(hR:JP w): Ef EU 171 #[EZ (Ej key),E I s,EI Y4 m d] w fun e w'=>(∃A d',e=Eg (EI A (m+8) d')/\Own w' w.heap.size A d' (b++dk key s b))/\El w w':=by
 have HL:=O hl;have na:=O hkb;have HM:=O hm;have HR:=O hr;have RT:=O hR;have CT:=fun(g:Nat) (Y_:Option Eu) (e:Nat) (W:M) (hk:Row W (D ⟨g,0,Z⟩) key) (hb:Row W Y_ (nZ s b)) (hW:JP W)=>Gz (D ⟨g,0,Z⟩) Y_ key (nZ s b) 32 (2+m) 32 e W hl (by rw[Rg,hm]) hk hb X X hW;have TL:=GG key s b;have TB:=EXo key s b;have e0:(J1 key (nZ s b)).take 8=dk key s b:=rfl;simp only[e0] at CT;generalize dk key s b=tg at*;replace CT:=O CT;replace TL:=O TL;replace TB:=O TB;clear hl hkb hm hr hR e0;go_enter Tryz.func171,Tryz.ntmps171;go_wp2_with fail;have K3:=O<|H.new w (Ej key) 41;have BB:=O<|Ep w (EJ (Ej key) 41);generalize w.alloc (EJ (Ej key) 41)=w1 at*;have W1:=BB.out.size;refine aQ EM Ed 9 Ed Eh Eb (Af s b tg Y4 m d w.heap.size w1.heap.size) (EXp _ _ _ _ _ _ _ _) ?_ ?_
 ·simp only[X6,Ir,Im,EL,In,Ip,Ig,Ih,and_true];refine⟨?_,?_,?_,?_,?_,?_,?_,?_,?_⟩;all_goals intro v w' hb hd
  ·exact Elz
  ·exact bL (v:=EI (D ⟨w'.heap.size,0,Z⟩) 1 1) (w':=w'.alloc (EJ #[E IP 77] 5)) (Ei U) Ez (Ep w' _) ⟨_,U,GC (H.new w' _ _) X⟩
  ·exact Elz
  ·exact Em_
  ·exact Elz
  ·obtain⟨g1,d1,r1⟩: ∃g,v 1=EI (D ⟨g,0,Z⟩) 1 1/\Row w' (D ⟨g,0,Z⟩) [77]:=hd.at 1 rfl;obtain⟨g3,d3,r3⟩: ∃g,v 3=EI (D ⟨g,0,Z⟩) 1 1/\Row w' (D ⟨g,0,Z⟩) (be (s%256) 1):=hd.at 3 rfl;have d4:v 4=EI Y4 m d:=hd.at 4 rfl;have b1:=Ep w' (EJ #[EI (D ⟨g1,0,Z⟩) 1 1,EI (D ⟨g3,0,Z⟩) 1 1,EI Y4 m d] 23);exact bL (v:=EI (D ⟨w'.heap.size,0,Z⟩) 3 3) (w':=w'.alloc (EJ #[EI (D ⟨g1,0,Z⟩) 1 1,EI (D ⟨g3,0,Z⟩) 1 1,EI Y4 m d] 23)) (Ei U) (by simp[go_sem,d1,d3,d4]) b1 ⟨_,_,U,H.new _ _ _,Rf U (Ua _ _) HM.out (r1.G b1) (r3.G b1) ((HR.out.G (bt BB.out hb)).G b1)⟩
  ·obtain⟨g,cs,d5,k5,p5⟩: ∃g cs,v 5=EI (D ⟨g,0,Z⟩) 3 3/\H w' g cs 23/\fd w' cs [[77],be (s%256) 1,b]:=hd.at 5 rfl;refine Ot (f:=172) (args:= #[v 5]) (Ei U) Ez ?_;rw[d5];have hln:[[77],be (s%256) 1,b].flatten.length=2+m:=by rw[<-HM.out];exact Rg s b
   refine(uR g 3 3 cs _ w' U k5 p5 (by rw[hln];omega) X).mono fun e w'' ⟨⟨A,d,he,o⟩,hb'⟩=>⟨_,he,hb',A,d,by rw[hln],o.row⟩
  ·have d0:v 0=EI (D ⟨w.heap.size,0,Z⟩) 32 32:=hd.at 0 rfl;obtain⟨A,d',d6,r6⟩: ∃A d',v 6=EI A (2+m) d'/\Row w' A (nZ s b):=hd.at 6 rfl;refine Ot (f:=210) (args:= #[v 0,v 6]) (Ei U) Ez ?_;rw[d0,d6];exact(CT.out w.heap.size A d' w' (aR (K3.out.G hb) na.out) r6 (RT.out.G (bt BB.out hb))).mono fun e w'' ⟨he,hb'⟩=>⟨_,he,hb',U⟩
  ·exact bL (Ei U) (pi _ _ _ U) (Ep w' _) ⟨_,U,XJ hb,H.new _ _ _⟩
 ·intro v w' hb hr;obtain⟨g7,d8,hg7,K7⟩: ∃g,v 8=Y (D ⟨g,0,Z⟩)/\w1.heap.size<=g/\H w' g (Ej (Er 8)) 115:=hr 8 X;have d7:v 7=EZ (Ej tg):=hr 7 X;simp only[Ir,Im,IL,IG,EL,In,Ip,Ig,Ih];rw[d8,d7];replace BB:=EW BB hb;replace K7:=O K7;clear hr hb d8 d7 K3 CT;go_wp2_with (with_reducible refine wS (cs:=Ej tg) Z_ K7 (Ev.mk ?_) (ho:=Xd) (hn:=GD) (h1:=Xt _));apply Eo;replace K7:=O<|K7.out.setRow (Ej tg);replace BB:=O<|E3 (g:=g7) BB.out X (Ej tg);generalize w'.setRow g7 (Ej tg)=w2 at*;go_wp2_with (go_at_call 172;refine Ev.mk ?_);apply Eo;have rb:=HR.out.G BB.out;have rt:=aR K7.out TB.out;have b1:=Ep w2 (EJ #[EI Y4 m d,EI (D ⟨g7,0,Z⟩) 8 8] 23);have hln:[b,tg].flatten=b++tg:=Eh;have GH:(b++tg).length=m+8:=by rw[I2,HM.out,TL.out]
  have CJ:=uR w2.heap.size 2 2 #[EI Y4 m d,EI (D ⟨g7,0,Z⟩) 8 8] [b,tg] (w2.alloc (EJ #[EI Y4 m d,EI (D ⟨g7,0,Z⟩) 8 8] 23)) U (H.new _ _ _) (QW HM.out TL.out (rb.G b1) (rt.G b1)) (by rw[hln,GH];omega) X;rw[hln,GH] at CJ;replace BB:=EW BB b1;replace CJ:=O CJ;clear rb rt b1 hln GH K7;have l2:=BB.out.size;refine CJ.out.mono ?_;rintro e w3 ⟨⟨A3,d3,rfl,o3⟩,b3⟩;replace BB:=EW BB b3;replace o3:=O<|bJ o3 (show w.heap.size<=_ from X);clear b3 CJ;go_wp2_with fail;go_ret;exact⟨⟨_,_,U,o3.out⟩,BB.out⟩
theorem EXq(key:List Int)(A:Option Eu)(n c:Nat)(s:Int)(w:M)(hn:n<8): Ef EU 125 #[EZ (Ej key),E I s,EI A n c] w fun e w'=>e=Eg (Et #[EI Z 0 0,E I 14])/\El w w':=by have t1:decide ((n:Int)-8<0)=u:=Ib X;go_enter Tryz.func125,Tryz.ntmps125;go_wp2_with fail;have BB:=O<|Ep w (EJ (Ej key) 41);generalize w.alloc (EJ (Ej key) 41)=w1 at*;go_quiet (fail);go_wp2_with fail;go_ret2;exact⟨U,j9 BB.out _⟩
def uT(key:List Int)(s:Int)(tg:List Int)(same:Bool)(A:Option Eu)(m c:Nat)(bd:List Int)(i:Nat)(v:V)(w:M):Prop:=match i with
 |0=>v=E I (m:Int)
 |1=>v=Ec B
 |2=>v=Ec B
 |3=>v=EI A (m+8) c
 |4=>v=EZ (Ej key)
 |5=>v=E I s
 |6=>v=EI A (m+8) c
 |7=>v=E I (m:Int)
 |8=>v=EI A m c
 |9=> ∃A' d',v=EI A' (m+8) d'/\Row w A' (bd++tg)
 |10=>v=Ec same
 |_=>v=Ec (!same)
theorem Rl(key:List Int)(s:Int)(tg:List Int)(same:Bool)(A:Option Eu)(m c:Nat)(bd:List Int): ∀i v w w',i<13->uT key s tg same A m c bd i v w->Oa w w'->uT key s tg same A m c bd i v w':=by
 intro i v w w' hi h hb;unfold uT at*;split at h;case h_10=>obtain⟨g,d,e,k⟩:=h;exact⟨g,d,e,k.G hb⟩
 all_goals exact h
theorem EXr(key xs:List Int)(A:Option Eu)(m c:Nat)(s:Int)(w:M)(hl:key.length=32)(hkb: ∀x∈key,0<=x/\x<=255)(hm:xs.length=m+8)(hr:Row w A xs)(hm2:m<=1000000)(hc:m+8<=c)(hR:JP w)(hx:xs≠xs.take m++dk key s (xs.take m)): Ef EU 125 #[EZ (Ej key),E I s,EI A (m+8) c] w fun e w'=>e=Eg (Et #[EI Z 0 0,E I 14])/\El w w':=by
 have HL:=O hl;have na:=O hkb;have HM:=O hm;have HR:=O hr;have RT:=O hR;have BL:(xs.take m).length=m:=mg;have RB:=fun(W:M) (hb:El w W)=>oG (hr.G hb) m;have TL:=GG key s (xs.take m);have CC:=fun(W:M) (hb:El w W)=>Rk key (xs.take m) A m c s W hl hkb BL (RB W hb) hm2 (hR.G hb);have SM:decide (xs=xs.take m++dk key s (xs.take m))=B:=IJ hx;generalize dk key s (xs.take m)=tg at*;generalize xs.take m=bd at*;have pw:(bd++tg).length=m+8:=by rw[I2,BL,TL]
 replace CC:=O CC;replace BL:=O BL;replace TL:=O TL;replace pw:=O pw;replace RB:=O RB;replace SM:=O SM;clear hl hkb hm hr hR hx;have i0:IntKind.i64.wrap (m:Int)=m:=IntWalk.i64_in _ X;have t0:decide ((m:Int)<0)=B:=IJ X;go_enter Tryz.func125,Tryz.ntmps125;go_wp2_with fail;have K3:=O<|H.new w (Ej key) 41;have BB:=O<|Ep w (EJ (Ej key) 41);generalize w.alloc (EJ (Ej key) 41)=w1 at*;refine aQ EM Ed 13 Ed Eh Eb (uT key s tg B A m c bd) (Rl _ _ _ _ _ _ _ _) ?_ ?_
 ·simp only[X6,Ir,Im,EL,In,Ip,Ig,Ih,and_true];refine⟨?_,?_,?_,?_,?_,?_,?_,?_,?_,?_,?_,?_,?_⟩;all_goals intro v w' hb hd
  ·exact Elz
  ·exact Eow
  ·exact Epw
  ·exact El6
  ·exact EnC
  ·exact El6
  ·exact El6
  ·exact El6
  ·exact EmT
  ·exact EmZ
  ·exact El9
  ·have g2:v 2=Ec B:=hd.at 2 rfl;have d10:v 10=Ec B:=hd.at 10 rfl;exact IU EM (Z7 U U (congrArg D g2)) dl U
  ·have d2:v 2=Ec B:=hd.at 2 rfl;have d11:v 11=Ec (!B):=hd.at 11 rfl;exact IU EM (Ei U) (by simp[go_sem,d2,d11]) U
 ·intro v w' hb hr;have d12:v 12=Ec (!B):=hr 12 X;simp only[Ir,Im,IL,IG,EL,In,Ip,Ig,Ih];rw[d12];replace BB:=EW BB hb;clear hr hb d12 K3 CC;go_wp2_with fail;go_ret2;exact Eoq
theorem EXs(key xs:List Int)(A:Option Eu)(m c:Nat)(s:Int)(w:M)(hl:key.length=32)(hkb: ∀x∈key,0<=x/\x<=255)(hm:xs.length=m+8)(hr:Row w A xs)(hm2:m<=1000000)(hc:m+8<=c)(hR:JP w)(hx:xs=xs.take m++dk key s (xs.take m)): Ef EU 125 #[EZ (Ej key),E I s,EI A (m+8) c] w fun e w'=>(∃A' d',e=Eg (Et #[EI A' m d',E I 0])/\Own w' w.heap.size A' d' (xs.take m))/\El w w':=by
 have HL:=O hl;have na:=O hkb;have HM:=O hm;have HR:=O hr;have RT:=O hR;have BL:(xs.take m).length=m:=mg;have RB:=fun(W:M) (hb:El w W)=>oG (hr.G hb) m;have TL:=GG key s (xs.take m);have CC:=fun(W:M) (hb:El w W)=>Rk key (xs.take m) A m c s W hl hkb BL (RB W hb) hm2 (hR.G hb);have SM:decide (xs=xs.take m++dk key s (xs.take m))=u:=Ib hx;generalize dk key s (xs.take m)=tg at*;generalize xs.take m=bd at*;have pw:(bd++tg).length=m+8:=by rw[I2,BL,TL]
 replace CC:=O CC;replace BL:=O BL;replace TL:=O TL;replace pw:=O pw;replace RB:=O RB;replace SM:=O SM;clear hl hkb hm hr hR hx;have i0:IntKind.i64.wrap (m:Int)=m:=IntWalk.i64_in _ X;have t0:decide ((m:Int)<0)=B:=IJ X;go_enter Tryz.func125,Tryz.ntmps125;go_wp2_with fail;have K3:=O<|H.new w (Ej key) 41;have BB:=O<|Ep w (EJ (Ej key) 41);generalize w.alloc (EJ (Ej key) 41)=w1 at*;refine aQ EM Ed 13 Ed Eh Eb (uT key s tg u A m c bd) (Rl _ _ _ _ _ _ _ _) ?_ ?_
 ·simp only[X6,Ir,Im,EL,In,Ip,Ig,Ih,and_true];refine⟨?_,?_,?_,?_,?_,?_,?_,?_,?_,?_,?_,?_,?_⟩;all_goals intro v w' hb hd
  ·exact Elz
  ·exact Eow
  ·exact Epw
  ·exact El6
  ·exact EnC
  ·exact El6
  ·exact El6
  ·exact El6
  ·exact EmT
  ·exact EmZ
  ·exact El9
  ·have g2:v 2=Ec B:=hd.at 2 rfl;have d10:v 10=Ec u:=hd.at 10 rfl;exact IU EM (Z7 U U (congrArg D g2)) dl U
  ·have d2:v 2=Ec B:=hd.at 2 rfl;have d11:v 11=Ec (!u):=hd.at 11 rfl;exact IU EM (Ei U) (by simp[go_sem,d2,d11]) U
 ·intro v w' hb hr;have d12:v 12=Ec (!u):=hr 12 X;simp only[Ir,Im,IL,IG,EL,In,Ip,Ig,Ih];rw[d12];replace BB:=EW BB hb;clear hr hb d12 K3 CC;go_wp2_with (first|((with_reducible refine Is 27 ?_);(with_reducible refine Ol (Ei rfl) (GF _ (.tmp 25) (.tmp 26) rfl A (m+8) c m rfl rfl X) ?_))|(go_at_call 172;refine Ev.mk ?_));apply Eo;have b1:=Ep w' (EJ #[EI A m c] 23);have hln:[bd].flatten=bd:=Eh;have CJ:=uR w'.heap.size 1 1 #[EI A m c] [bd] (w'.alloc (EJ #[EI A m c] 23)) U (H.new _ _ _) (EXh BL.out ((RB.out w' BB.out).G b1)) (by rw[hln,BL.out];omega) X;rw[hln,BL.out] at CJ;have l1:=BB.out.size;have l2:=b1.size;replace BB:=EW BB b1;replace CJ:=O CJ;clear b1 hln;refine CJ.out.mono ?_;rintro e w3 ⟨⟨A3,d3,rfl,o3⟩,b3⟩;replace BB:=EW BB b3;replace o3:=O<|bJ o3 (show w.heap.size<=_ from X);clear b3 CJ;go_wp2_with fail;go_ret2;exact⟨⟨_,_,U,o3.out⟩,BB.out⟩
def Sets(w:M)(S:Nat)(gp:V)(n:Int)(Q:M->M->Prop):Prop:=jj S/\ ∀W,El w W->Ef EU S #[E I n,gp] W fun e w'=>e=Eg (Et #[])/\Q W w'
theorem Sets.call{S:Nat}{gp:V}{n:Int}{Q:M->M->Prop}(h:Sets w S gp n Q)(W:M)(hW:El w W):Ef EU S #[E I n,gp] W fun e w'=>e=Eg (Et #[])/\Q W w':=h.2 W hW
theorem EXt(sz lo hi:Int)(Y5 S:Nat)(gp:V)(xs:List Int)(Y4:Option Eu)(c:Nat)(v:Int)(Q:M->M->Prop)(w:M)(hr:Row w Y4 xs)(hl:xs.length=2)(hv:sig xs=v)(hn:lo<0)(h1:lo<=v)(h2:v<=hi)(hs:Sets w S gp v Q): Ef EU 209 #[EZ #[E I sz,E I lo,E I hi,.func (.func Y5) #[] #[gp],.func (.func S) #[] #[gp]],EI Y4 2 c] w fun e w'=>e=Eg (Ec u)/\ ∃W,El w W/\Q W w':=by have HS:=O hs;have HE: ∀(args:Array V) (w:M),(Jj S args).run EU w= .ok (.enter S args) w:=hs.1;clear hs;have HL:=O hl;have HV:=O hv;have hd0:decide (lo<0)=u:=Ib hn;have hd1:decide (v<lo)=B:=IJ X;have hd2:decide (hi<v)=B:=IJ X;have CT:=O<|fun W (h:Row W Y4 xs)=>EJ4 Y4 xs c W h hl;rw[hv] at CT;clear hl hv;exact ElA
theorem EXu(sz lo hi:Int)(Y5 S:Nat)(gp:V)(xs:List Int)(Y4:Option Eu)(k c:Nat)(v:Int)(Q:M->M->Prop)(w:M)(hr:Row w Y4 xs)(hl:xs.length=k)(hk:k<=8)(hv:num xs=v)(hn:0<=lo)(h1:lo<=v)(h2:v<=hi)(h63:hi<=9223372036854775807)(hs:Sets w S gp v Q): Ef EU 209 #[EZ #[E I sz,E I lo,E I hi,.func (.func Y5) #[] #[gp],.func (.func S) #[] #[gp]],EI Y4 k c] w fun e w'=>e=Eg (Ec u)/\ ∃W,El w W/\Q W w':=by have HS:=O hs;have HE: ∀(args:Array V) (w:M),(Jj S args).run EU w= .ok (.enter S args) w:=hs.1;clear hs;have HL:=O hl;have hd0:decide (lo<0)=B:=IJ X;have CT:=O<|fun W (h:Row W Y4 xs)=>GJ (w:=W) k c hl h hk;rw[hv] at CT;clear hl hv;have hd1:decide (v<lo)=B:=IJ X;have hd2:decide (hi<v)=B:=IJ X;have v0:0<=v:=X;have v9:v<=9223372036854775807:=X;exact ElA
theorem EXv(sz lo hi:Int)(Y5 S:Nat)(gp:V)(xs:List Int)(Y4:Option Eu)(k c:Nat)(v:Int)(w:M)(hr:Row w Y4 xs)(hl:xs.length=k)(hk:k<=8)(hv:num xs=v)(hn:0<=lo)(v0:0<=v)(v9:v<=9223372036854775807)(h1:v<lo): Ef EU 209 #[EZ #[E I sz,E I lo,E I hi,.func (.func Y5) #[] #[gp],.func (.func S) #[] #[gp]],EI Y4 k c] w fun e w'=>e=Eg (Ec B)/\El w w':=by have HL:=O hl;have hd0:decide (lo<0)=B:=IJ X;have CT:=O<|fun W (h:Row W Y4 xs)=>GJ (w:=W) k c hl h hk;rw[hv] at CT;clear hl hv;have hd1:decide (v<lo)=u:=Ib h1;exact ElP
theorem EXw(sz lo hi:Int)(Y5 S:Nat)(gp:V)(xs:List Int)(Y4:Option Eu)(k c:Nat)(v:Int)(w:M)(hr:Row w Y4 xs)(hl:xs.length=k)(hk:k<=8)(hv:num xs=v)(hn:0<=lo)(v0:0<=v)(v9:v<=9223372036854775807)(h1:lo<=v)(h2:hi<v): Ef EU 209 #[EZ #[E I sz,E I lo,E I hi,.func (.func Y5) #[] #[gp],.func (.func S) #[] #[gp]],EI Y4 k c] w fun e w'=>e=Eg (Ec B)/\El w w':=by have HL:=O hl;have hd0:decide (lo<0)=B:=IJ X;have CT:=O<|fun W (h:Row W Y4 xs)=>GJ (w:=W) k c hl h hk;rw[hv] at CT;clear hl hv;have hd1:decide (v<lo)=B:=IJ X;have hd2:decide (hi<v)=u:=Ib h2;exact ElP
theorem EXx(gm o:Nat)(w:M): Ef EU 204 #[Y (D ⟨gm,o,Z⟩)] w fun e w'=> ∃v,e=Eg v/\FV w' w.heap.size gm ⟨1,1,0,1,o⟩ v/\El w w':=by have BF:Tryz.prog.built 298 [(0,E I 1),(2,E I 1),(3,.func (.func 234) #[] #[Y (D ⟨w.heap.size,0,Z⟩)]),(4,.func (.func 235) #[] #[Y (D ⟨w.heap.size,0,Z⟩)])]=D (IF ⟨1,1,0,1,o⟩ w.heap.size):=GZ ⟨1,1,0,1,o⟩ w.heap.size U;have O1:=O<|iO ⟨1,1,0,1,o⟩ w.heap.size;have Ur:Ea ((IF ⟨1,1,0,1,o⟩ w.heap.size).size=5):=O U;generalize XE:IF ⟨1,1,0,1,o⟩ w.heap.size=fv at*;replace BF:=O BF;have HB:Ea (∀W:M,H W w.heap.size #[Y (D ⟨gm,o,Z⟩)] 302->FV W w.heap.size gm ⟨1,1,0,1,o⟩ (EZ fv)):=O fun W h=>⟨w.heap.size,by rw[XE],E7 _,h⟩;clear XE;go_enter Tryz.func204,Tryz.ntmps204;go_wp2_with (with_reducible refine wA f_ (Ev.mk ?_));apply Eo;have K4:=O<|(H.new w #[Y (D ⟨gm,o,Z⟩)] 302).alloc (EJ JB 298);have K8:=O<|H.new' (w.alloc (EJ #[Y (D ⟨gm,o,Z⟩)] 302)) JB 298 (g:=w.heap.size+1) Eh;have BB:=O<|J9 w (EJ #[Y (D ⟨gm,o,Z⟩)] 302) (EJ JB 298);generalize (w.alloc (EJ #[Y (D ⟨gm,o,Z⟩)] 302)).alloc (EJ JB 298)=w1 at*;exact ElC
theorem GK(gm o:Nat)(w:M): Ef EU 202 #[Y (D ⟨gm,o,Z⟩)] w fun e w'=> ∃v,e=Eg v/\FV w' w.heap.size gm ⟨0,1,0,3,o⟩ v/\El w w':=by have CN: ∀W:M,Ef EU 207 #[Y (D ⟨gm,o,Z⟩),E I 1,E I 0,E I 3] W fun e w'=> ∃v,e=Eg v/\FV w' W.heap.size gm ⟨0,1,0,3,o⟩ v/\El W w':=fun W=>pJ ⟨0,1,0,3,o⟩ U gm W;generalize hd:(⟨0,1,0,3,o⟩:FD)=d at*;replace CN:=O CN;clear hd;go_enter Tryz.func202,Tryz.ntmps202;exact Elg
theorem ig(gm o:Nat)(w:M): Ef EU 203 #[Y (D ⟨gm,o,Z⟩)] w fun e w'=> ∃v,e=Eg v/\FV w' w.heap.size gm ⟨0,4,0,4294967295,o⟩ v/\El w w':=by have CN: ∀W:M,Ef EU 207 #[Y (D ⟨gm,o,Z⟩),E I 4,E I 0,E I 4294967295] W fun e w'=> ∃v,e=Eg v/\FV w' W.heap.size gm ⟨0,4,0,4294967295,o⟩ v/\El W w':=fun W=>pJ ⟨0,4,0,4294967295,o⟩ U gm W;generalize hd:(⟨0,4,0,4294967295,o⟩:FD)=d at*;replace CN:=O CN;clear hd;go_enter Tryz.func203,Tryz.ntmps203;exact Elg
theorem uV(gm o:Nat)(w:M): Ef EU 205 #[Y (D ⟨gm,o,Z⟩)] w fun e w'=> ∃v,e=Eg v/\FV w' w.heap.size gm ⟨0,1,0,4,o⟩ v/\El w w':=by have CN: ∀W:M,Ef EU 207 #[Y (D ⟨gm,o,Z⟩),E I 1,E I 0,E I 4] W fun e w'=> ∃v,e=Eg v/\FV w' W.heap.size gm ⟨0,1,0,4,o⟩ v/\El W w':=fun W=>pJ ⟨0,1,0,4,o⟩ U gm W;generalize hd:(⟨0,1,0,4,o⟩:FD)=d at*;replace CN:=O CN;clear hd;go_enter Tryz.func205,Tryz.ntmps205;exact Elg
theorem px(gm o:Nat)(w:M): Ef EU 206 #[Y (D ⟨gm,o,Z⟩)] w fun e w'=> ∃v,e=Eg v/\FV w' w.heap.size gm ⟨0,2,0,65535,o⟩ v/\El w w':=by have CN: ∀W:M,Ef EU 207 #[Y (D ⟨gm,o,Z⟩),E I 2,E I 0,E I 65535] W fun e w'=> ∃v,e=Eg v/\FV w' W.heap.size gm ⟨0,2,0,65535,o⟩ v/\El W w':=fun W=>pJ ⟨0,2,0,65535,o⟩ U gm W;generalize hd:(⟨0,2,0,65535,o⟩:FD)=d at*;replace CN:=O CN;clear hd;go_enter Tryz.func206,Tryz.ntmps206;exact Elg
theorem Ag(gm o:Nat)(w:M): Ef EU 208 #[Y (D ⟨gm,o,Z⟩)] w fun e w'=> ∃v,e=Eg v/\FV w' w.heap.size gm ⟨0,2,(-32768),32767,o⟩ v/\El w w':=by have CN: ∀W:M,Ef EU 207 #[Y (D ⟨gm,o,Z⟩),E I 2,E I (-32768),E I 32767] W fun e w'=> ∃v,e=Eg v/\FV w' W.heap.size gm ⟨0,2,(-32768),32767,o⟩ v/\El W w':=fun W=>pJ ⟨0,2,(-32768),32767,o⟩ U gm W;generalize hd:(⟨0,2,(-32768),32767,o⟩:FD)=d at*;replace CN:=O CN;clear hd;go_enter Tryz.func208,Tryz.ntmps208;exact Elg
def E4:List (FD×Nat)->List V
 |[]=>[]
 |p::ps=>(IF p.1 p.2).toList++E4 ps
theorem uW(fs:List (FD×Nat)):(E4 fs).length=fs.length*5:=by
 induction fs with
 |nil=>rfl
 |cons r rs ih=>rw[E4,I2,ih,ZV];show 5+_=_;omega
theorem Rm(xs ys:List (FD×Nat)):E4 (xs++ys)=E4 xs++E4 ys:=by
 induction xs with
 |nil=>rfl
 |cons r rs ih=>rw[List.cons_append,E4,ih,E4,U9]
theorem Rn: ∀(rs:List (FD×Nat)) (i:Nat) (hi:i<rs.length) (k:Nat),k<5->(E4 rs)[i*5+k]?=(IF rs[i].1 rs[i].2)[k]?
 |r::rs,0,_,k,hk=>by rw[E4,Nat.zero_mul,JV,bM (by show _<5;exact hk),Array.getElem?_toList];rfl
 |r::rs,i+1,hi,k,hk=>by rw[E4,ak (by show 5<=_;omega),show(IF r.1 r.2).toList.length=5 from rfl,show(i+1)*5+k-5=i*5+k from X,Rn rs i Ug k hk];rfl
theorem Ro(fs:List (FD×Nat)): ∀Y3∈E4 fs,Y3.oneCell'=u:=by
 induction fs with
 |nil=>intro Y3 hu;cases hu
 |cons r rs ih=>
  intro Y3 hu;rcases XP.1 hu with h|h;·simp only[IF,Ui,UP,or_false] at h;rcases h with rfl|rfl|rfl|rfl|rfl<;>rfl
  ·exact ih Y3 h
def JC(w:M)(base gm:Nat)(fs:List (FD×Nat)):Prop:= ∀i (h:i<fs.length),base<=fs[i].2/\Zd w fs[i].1 gm fs[i].2
theorem JC.G(h:JC w base gm fs)(hb:El w w'):JC w' base gm fs:=fun i hi=>⟨(h i hi).1,(h i hi).2.G hb⟩
def Xx(w:M)(base gl gm:Nat)(fs:List (FD×Nat)):Prop:=base<=gl/\(∀j Y3,(E4 fs)[j]?=D Y3->w.cell? ⟨gl,j,Z⟩=D Y3)/\JC w base gm fs
theorem Xx.G(h:Xx w base gl gm fs)(hb:El w w'):Xx w' base gl gm fs:=
 ⟨h.1,fun j Y3 hu=>by rw[hb.cell (XA _ _ (h.2.1 j Y3 hu))];exact h.2.1 j Y3 hu,h.2.2.G hb⟩
theorem Xx.keep(h:Xx w base gl gm fs)(hg:gm<base)(hk: ∀k,k≠gm->w'.heap[k]?=w.heap[k]?):Xx w' base gl gm fs:=
 ⟨h.1,fun j Y3 hu=>by rw[World.cell?_of_block (w:=w) (hk gl (by have:=h.1;omega))];exact h.2.1 j Y3 hu,fun i hi=>⟨(h.2.2 i hi).1,(hk _ (by have:=(h.2.2 i hi).1;omega)).trans (h.2.2 i hi).2⟩⟩
theorem Xx.cells(h:Xx w base gl gm fs)(i:Nat)(hi:i<fs.length)(j:Nat)(hj:j<5):w.cell? ⟨gl,i*5+j,Z⟩=(IF fs[i].1 fs[i].2)[j]?:=by have h1:=Rn fs i hi j hj;have h2:(IF fs[i].1 fs[i].2)[j]?=D ((IF fs[i].1 fs[i].2)[j]'(by show _<5;exact hj)):=dY _;rw[h2];exact h.2.1 _ _ (h1.trans h2)
theorem ao(hk:H w gl (E4 fs).toArray T)(hb:JC w base gm fs)(hg:base<=gl):Xx w base gl gm fs:=
 ⟨hg,fun j Y3 hu=>by rw[hk.cell j,Og];exact hu,hb⟩
def Xf:FD:=⟨0,1,0,3,2⟩
def Ii:FD:=⟨0,4,0,4294967295,1⟩
def dn:FD:=⟨1,1,0,1,7⟩
def Jf:FD:=⟨0,1,0,4,3⟩
def IS:FD:=⟨0,2,0,65535,4⟩
def ct:FD:=⟨0,1,0,4,5⟩
def dp:FD:=⟨0,1,1,3,6⟩
def JL(i:Nat):FD:=⟨0,2,-32768,32767,8+i⟩
def aq(k:Int):Option (List FD):=
 if k=1\/k=2 then D [Xf] else if k=3\/k=4\/k=8\/k=9 then D [Ii] else if k=5 then D [Ii,dn] else if k=6 then D [Ii,Jf]
 else if k=7 then D [Ii,IS] else if k=10 then D [Ii,IS,ct] else if k=11 then D [Ii,IS,dp,JL 0,JL 1,JL 2,JL 3] else Z
def Zh(w:M)(gm:Nat)(ds:List FD)(e:Ut)(w':M):Prop:=
 ∃(gl cp:Nat) (fs:List (FD×Nat)),e=Eg (Et #[EI (D ⟨gl,0,Z⟩) ds.length cp,Ec u])/\fs.map (·.1)=ds/\Xx w' w.heap.size gl gm fs/\El w w'
theorem EXy(gm:Nat)(l:List Int)(w:M)(hm:H w gm (EF l) 183)(hk:l.getD 0 0=1): Ef EU 160 #[Y (D ⟨gm,0,Z⟩)] w (Zh w gm [Xf]):=by exact ElF
theorem EXz(gm:Nat)(l:List Int)(w:M)(hm:H w gm (EF l) 183)(hk:l.getD 0 0=2): Ef EU 160 #[Y (D ⟨gm,0,Z⟩)] w (Zh w gm [Xf]):=by exact ElF
theorem EXC(gm:Nat)(l:List Int)(w:M)(hm:H w gm (EF l) 183)(hk:l.getD 0 0=3): Ef EU 160 #[Y (D ⟨gm,0,Z⟩)] w (Zh w gm [Ii]):=by exact EpL
theorem EXD(gm:Nat)(l:List Int)(w:M)(hm:H w gm (EF l) 183)(hk:l.getD 0 0=4): Ef EU 160 #[Y (D ⟨gm,0,Z⟩)] w (Zh w gm [Ii]):=by exact EpL
theorem EXF(gm:Nat)(l:List Int)(w:M)(hm:H w gm (EF l) 183)(hk:l.getD 0 0=8): Ef EU 160 #[Y (D ⟨gm,0,Z⟩)] w (Zh w gm [Ii]):=by exact EpL
theorem EXG(gm:Nat)(l:List Int)(w:M)(hm:H w gm (EF l) 183)(hk:l.getD 0 0=9): Ef EU 160 #[Y (D ⟨gm,0,Z⟩)] w (Zh w gm [Ii]):=by exact EpL
theorem Ah(d:FD):d.box≠298:=by
 unfold FD.box;repeat' split
 all_goals decide
theorem Rp:(Tryz.prog.info? 298).map (fun i=>(i.zero,i.size,i.bytes))=D (D (EZ JB),5,40):=Ed
theorem GL(g j:Nat):(⟨g,0,Z⟩:Eu).add j=⟨g,j,Z⟩:=XB
def ng(w:M)(base gl gm cap:Nat)(fs:List (FD×Nat)):Prop:=base<=gl/\w.ownsRow base 298 5 (EI (D ⟨gl,0,Z⟩) fs.length cap) fs.length (E4 fs)/\JC w base gm fs
theorem ng.GM(h:ng w base gl gm cap fs):Xx w base gl gm fs:=
 ⟨h.1,fun j Y3 hu=>by have:=h.2.1.cells (g:=gl) U j Y3 hu;rwa [GL] at this,h.2.2⟩
theorem ng.G(h:ng w base gl gm cap fs)(hb:El w w'):ng w' base gl gm cap fs:=
 ⟨h.1,mT (ut (b0:=0) (T:=298) (N:=0) (ys:=[]) hb) h.2.1 fun j _ hj hlt=>absurd hj Rq,h.2.2.G hb⟩
theorem EXH{n:Nat}(hk:H w gl (E4 fs).toArray 298)(hb:JC w base gm fs)(hg:base<=gl)(hn:n=fs.length)(hs:n<=1000):ng w base gl gm n fs:=
 ⟨hg,⟨uW fs,.inr ⟨gl,n,_,U,hg,hk,X,OD,by rw[List.size_toArray,uW,hn],by rw[List.toList_toArray,UZ (by rw[uW];omega)]⟩⟩,hb⟩
theorem Ai(w:M)(base gl gm cap:Nat)(fs:List (FD×Nat))(n:Nat)(hn:fs.length=n)(h:ng w base gl gm cap fs)(d:FD)(gb g1 c1:Nat)(hgb:base<=gb)(hbx:Zd w d gm gb)(hk:H w g1 (E4 [(d,gb)]).toArray 298)(hs:n<=1000)(hbase:base<=w.heap.size)(ty:EC): ∃Rr cap' w',(bP #[254,254] ty #[EI (D ⟨gl,0,Z⟩) n cap,EI (D ⟨g1,0,Z⟩) 1 c1]).run EU w= .ok (EI (D ⟨Rr,0,Z⟩) (n+1) cap') w'/\ng w' base Rr gm cap' (fs++[(d,gb)])/\Io base w w':=by
 subst hn;obtain⟨i0,hi,hz0,hz1,hz2⟩:=bQ Rp
 obtain⟨A',cap',w',hrun,h2,h3,h4,-⟩:=dc (P:=EU) w base base 254 ty 298 i0 _ 5 40 Tryz.underlying254 hi hz0 hz1 hz2 U (D ⟨gl,0,Z⟩) cap fs.length _ h.2.1 ⟨g1,0,Z⟩ 1 c1 (E4 [(d,gb)]) (uW _)
  (fun j Y3 hu=>Rs) (Ro _) (fun h=>XZ) OD X hbase (E7 _)
 rw[<-Rm] at h2;rcases h2.2 with⟨hv,h1⟩|⟨g,cp,cur,hv,hbg,-⟩;·omega
 ·injection hv with e1 e2 e3;subst e1;refine⟨g,cap',w',hrun,⟨hbg,Rt,fun i hi=> ?_⟩,h3.2.1 hbase⟩;rcases JG i fs.length with hlt|hge;·rw[List.getElem_append_left hlt];exact⟨(h.2.2 i hlt).1,X_ h3 (h.2.2 i hlt).2 (Ah _)⟩
  ·exact Enk
def Aj(base gm:Nat)(i:Nat)(v:V)(w:M):Prop:=match i with
 |0=>v=Y (D ⟨gm,0,Z⟩)
 |1=>v=Y (D ⟨gm,0,Z⟩)
 |2=>v=Y (D ⟨gm,1,Z⟩)
 |3=>FV w base gm Ii v
 |4=>v=Y (D ⟨gm,0,Z⟩)
 |5=>v=Y (D ⟨gm,0,Z⟩)
 |6=>v=Y (D ⟨gm,7,Z⟩)
 |7=>FV w base gm dn v
 |8=> ∃(gl:Nat) (fs:List (FD×Nat)),v=EI (D ⟨gl,0,Z⟩) 2 2/\fs.map (·.1)=[Ii,dn]/\base<=gl/\JC w base gm fs/\H w gl (E4 fs).toArray 298
 |9=> ∃(gl:Nat) (fs:List (FD×Nat)),v=EI (D ⟨gl,0,Z⟩) 2 2/\fs.map (·.1)=[Ii,dn]/\base<=gl/\JC w base gm fs/\H w gl (E4 fs).toArray 298
 |_=>v=Ec u
theorem EXK(base gm:Nat): ∀i v w w',i<11->Aj base gm i v w->Oa w w'->Aj base gm i v w':=by
 intro i v w w' hi h hb;unfold Aj at*;split at h;case h_4|h_8=>exact h.G hb
 case h_9|h_10=> exact ElH
 all_goals exact h
theorem EXL(gm:Nat)(l:List Int)(w:M)(hm:H w gm (EF l) 183)(hk:l.getD 0 0=5): Ef EU 160 #[Y (D ⟨gm,0,Z⟩)] w (Zh w gm [Ii,dn]):=by
 have c0:=hm.cell 0;rw[Zs _ _ X,if_neg X,hk] at c0;have BB:=O<|IE w.heap.size w;clear hm hk;go_enter ii,ij;go_wp2_with fail;clear c0;refine aQ EM Ed 11 Ed Eh Eb (Aj w.heap.size gm) (EXK _ _) ?_ ?_
 ·simp only[X6,Ir,Im,EL,In,Ip,Ig,Ih,and_true];refine⟨?_,?_,?_,?_,?_,?_,?_,?_,?_,?_,?_⟩;all_goals intro v w' hb hd
  ·exact Elz
  ·exact ElT
  ·exact ElS
  ·exact Elq
  ·exact Elz
  ·exact ElR
  ·exact ElQ
  ·have d6:v 6=Y (D ⟨gm,7,Z⟩):=hd.at 6 rfl;refine Ot (f:=204) (args:= #[v 6]) (Ei U) Ez ?_;rw[d6];exact(EXx gm 7 w').mono fun e w'' ⟨v,he,⟨gb,e2,lb,kb⟩,hb'⟩=>⟨v,he,hb',gb,e2,EA (EA BB.out.size hb.size) lb,kb⟩
  ·obtain⟨g0,d3,l0,k0⟩:FV w' w.heap.size gm Ii (v 3):=hd.at 3 rfl;obtain⟨g1,d7,l1,k1⟩:FV w' w.heap.size gm dn (v 7):=hd.at 7 rfl;refine bL (w':=w'.alloc (EJ (E4 [(Ii,g0),(dn,g1)]).toArray 298)) (v:=EI (D ⟨w'.heap.size,0,Z⟩) 2 2) (Ei U) pA (Ep w' _) ⟨w'.heap.size,[(Ii,g0),(dn,g1)],U,U,EA BB.out.size hb.size,fun i hi=> ?_,H.new _ _ _⟩;match i,hi with
   |0,_=>exact⟨l0,H.alloc k0 _⟩
   |1,_=>exact⟨l1,H.alloc k1 _⟩
  ·obtain⟨gl,fs,e,m,lg,bx,kk⟩: ∃(gl:Nat) (fs:List (FD×Nat)),v 8=EI (D ⟨gl,0,Z⟩) 2 2/\fs.map (·.1)=[Ii,dn]/\w.heap.size<=gl/\JC w' w.heap.size gm fs/\H w' gl (E4 fs).toArray 298:=hd.at 8 rfl;exact EmX
  ·exact Elz
 ·intro v w' hb hr;obtain⟨gl,fs,e,m,lg,bx,kk⟩: ∃(gl:Nat) (fs:List (FD×Nat)),v 9=EI (D ⟨gl,0,Z⟩) 2 2/\fs.map (·.1)=[Ii,dn]/\w.heap.size<=gl/\JC w' w.heap.size gm fs/\H w' gl (E4 fs).toArray 298:=hr 9 X;exact EpT
def Ak(base gm:Nat)(i:Nat)(v:V)(w:M):Prop:=match i with
 |0=>v=Y (D ⟨gm,0,Z⟩)
 |1=>v=Y (D ⟨gm,0,Z⟩)
 |2=>v=Y (D ⟨gm,1,Z⟩)
 |3=>FV w base gm Ii v
 |4=>v=Y (D ⟨gm,0,Z⟩)
 |5=>v=Y (D ⟨gm,0,Z⟩)
 |6=>v=Y (D ⟨gm,3,Z⟩)
 |7=>FV w base gm Jf v
 |8=> ∃(gl:Nat) (fs:List (FD×Nat)),v=EI (D ⟨gl,0,Z⟩) 2 2/\fs.map (·.1)=[Ii,Jf]/\base<=gl/\JC w base gm fs/\H w gl (E4 fs).toArray 298
 |9=> ∃(gl:Nat) (fs:List (FD×Nat)),v=EI (D ⟨gl,0,Z⟩) 2 2/\fs.map (·.1)=[Ii,Jf]/\base<=gl/\JC w base gm fs/\H w gl (E4 fs).toArray 298
 |_=>v=Ec u
theorem EXM(base gm:Nat): ∀i v w w',i<11->Ak base gm i v w->Oa w w'->Ak base gm i v w':=by
 intro i v w w' hi h hb;unfold Ak at*;split at h;case h_4|h_8=>exact h.G hb
 case h_9|h_10=> exact ElH
 all_goals exact h
theorem EXN(gm:Nat)(l:List Int)(w:M)(hm:H w gm (EF l) 183)(hk:l.getD 0 0=6): Ef EU 160 #[Y (D ⟨gm,0,Z⟩)] w (Zh w gm [Ii,Jf]):=by
 have c0:=hm.cell 0;rw[Zs _ _ X,if_neg X,hk] at c0;have BB:=O<|IE w.heap.size w;clear hm hk;go_enter ii,ij;go_wp2_with fail;clear c0;refine aQ EM Ed 11 Ed Eh Eb (Ak w.heap.size gm) (EXM _ _) ?_ ?_
 ·simp only[X6,Ir,Im,EL,In,Ip,Ig,Ih,and_true];refine⟨?_,?_,?_,?_,?_,?_,?_,?_,?_,?_,?_⟩;all_goals intro v w' hb hd
  ·exact Elz
  ·exact ElT
  ·exact ElS
  ·exact Elq
  ·exact Elz
  ·exact ElR
  ·exact ElQ
  ·exact Ep0
  ·obtain⟨g0,d3,l0,k0⟩:FV w' w.heap.size gm Ii (v 3):=hd.at 3 rfl;obtain⟨g1,d7,l1,k1⟩:FV w' w.heap.size gm Jf (v 7):=hd.at 7 rfl;refine bL (w':=w'.alloc (EJ (E4 [(Ii,g0),(Jf,g1)]).toArray 298)) (v:=EI (D ⟨w'.heap.size,0,Z⟩) 2 2) (Ei U) pA (Ep w' _) ⟨w'.heap.size,[(Ii,g0),(Jf,g1)],U,U,EA BB.out.size hb.size,fun i hi=> ?_,H.new _ _ _⟩;match i,hi with
   |0,_=>exact⟨l0,H.alloc k0 _⟩
   |1,_=>exact⟨l1,H.alloc k1 _⟩
  ·obtain⟨gl,fs,e,m,lg,bx,kk⟩: ∃(gl:Nat) (fs:List (FD×Nat)),v 8=EI (D ⟨gl,0,Z⟩) 2 2/\fs.map (·.1)=[Ii,Jf]/\w.heap.size<=gl/\JC w' w.heap.size gm fs/\H w' gl (E4 fs).toArray 298:=hd.at 8 rfl;exact EmX
  ·exact Elz
 ·intro v w' hb hr;obtain⟨gl,fs,e,m,lg,bx,kk⟩: ∃(gl:Nat) (fs:List (FD×Nat)),v 9=EI (D ⟨gl,0,Z⟩) 2 2/\fs.map (·.1)=[Ii,Jf]/\w.heap.size<=gl/\JC w' w.heap.size gm fs/\H w' gl (E4 fs).toArray 298:=hr 9 X;exact EpT
def Al(base gm:Nat)(i:Nat)(v:V)(w:M):Prop:=match i with
 |0=>v=Y (D ⟨gm,0,Z⟩)
 |1=>v=Y (D ⟨gm,0,Z⟩)
 |2=>v=Y (D ⟨gm,1,Z⟩)
 |3=>FV w base gm Ii v
 |4=>v=Y (D ⟨gm,0,Z⟩)
 |5=>v=Y (D ⟨gm,0,Z⟩)
 |6=>v=Y (D ⟨gm,4,Z⟩)
 |7=>FV w base gm IS v
 |8=> ∃(gl:Nat) (fs:List (FD×Nat)),v=EI (D ⟨gl,0,Z⟩) 2 2/\fs.map (·.1)=[Ii,IS]/\base<=gl/\JC w base gm fs/\H w gl (E4 fs).toArray 298
 |9=> ∃(gl:Nat) (fs:List (FD×Nat)),v=EI (D ⟨gl,0,Z⟩) 2 2/\fs.map (·.1)=[Ii,IS]/\base<=gl/\JC w base gm fs/\H w gl (E4 fs).toArray 298
 |_=>v=Ec u
theorem EXP(base gm:Nat): ∀i v w w',i<11->Al base gm i v w->Oa w w'->Al base gm i v w':=by
 intro i v w w' hi h hb;unfold Al at*;split at h;case h_4|h_8=>exact h.G hb
 case h_9|h_10=> exact ElH
 all_goals exact h
theorem EXQ(gm:Nat)(l:List Int)(w:M)(hm:H w gm (EF l) 183)(hk:l.getD 0 0=7): Ef EU 160 #[Y (D ⟨gm,0,Z⟩)] w (Zh w gm [Ii,IS]):=by
 have c0:=hm.cell 0;rw[Zs _ _ X,if_neg X,hk] at c0;have BB:=O<|IE w.heap.size w;clear hm hk;go_enter ii,ij;go_wp2_with fail;clear c0;refine aQ EM Ed 11 Ed Eh Eb (Al w.heap.size gm) (EXP _ _) ?_ ?_
 ·simp only[X6,Ir,Im,EL,In,Ip,Ig,Ih,and_true];refine⟨?_,?_,?_,?_,?_,?_,?_,?_,?_,?_,?_⟩;all_goals intro v w' hb hd
  ·exact Elz
  ·exact ElT
  ·exact ElS
  ·exact Elq
  ·exact Elz
  ·exact ElR
  ·exact ElQ
  ·exact Elt
  ·obtain⟨g0,d3,l0,k0⟩:FV w' w.heap.size gm Ii (v 3):=hd.at 3 rfl;obtain⟨g1,d7,l1,k1⟩:FV w' w.heap.size gm IS (v 7):=hd.at 7 rfl;refine bL (w':=w'.alloc (EJ (E4 [(Ii,g0),(IS,g1)]).toArray 298)) (v:=EI (D ⟨w'.heap.size,0,Z⟩) 2 2) (Ei U) pA (Ep w' _) ⟨w'.heap.size,[(Ii,g0),(IS,g1)],U,U,EA BB.out.size hb.size,fun i hi=> ?_,H.new _ _ _⟩;match i,hi with
   |0,_=>exact⟨l0,H.alloc k0 _⟩
   |1,_=>exact⟨l1,H.alloc k1 _⟩
  ·obtain⟨gl,fs,e,m,lg,bx,kk⟩: ∃(gl:Nat) (fs:List (FD×Nat)),v 8=EI (D ⟨gl,0,Z⟩) 2 2/\fs.map (·.1)=[Ii,IS]/\w.heap.size<=gl/\JC w' w.heap.size gm fs/\H w' gl (E4 fs).toArray 298:=hd.at 8 rfl;exact EmX
  ·exact Elz
 ·intro v w' hb hr;obtain⟨gl,fs,e,m,lg,bx,kk⟩: ∃(gl:Nat) (fs:List (FD×Nat)),v 9=EI (D ⟨gl,0,Z⟩) 2 2/\fs.map (·.1)=[Ii,IS]/\w.heap.size<=gl/\JC w' w.heap.size gm fs/\H w' gl (E4 fs).toArray 298:=hr 9 X;exact EpT
def Am(base gm:Nat)(i:Nat)(v:V)(w:M):Prop:=match i with
 |0=>v=Y (D ⟨gm,0,Z⟩)
 |1=>v=Y (D ⟨gm,0,Z⟩)
 |2=>v=Y (D ⟨gm,1,Z⟩)
 |3=>FV w base gm Ii v
 |4=>v=Y (D ⟨gm,0,Z⟩)
 |5=>v=Y (D ⟨gm,0,Z⟩)
 |6=>v=Y (D ⟨gm,4,Z⟩)
 |7=>FV w base gm IS v
 |8=>v=Y (D ⟨gm,0,Z⟩)
 |9=>v=Y (D ⟨gm,0,Z⟩)
 |10=>v=Y (D ⟨gm,5,Z⟩)
 |11=>FV w base gm ct v
 |12=> ∃(gl:Nat) (fs:List (FD×Nat)),v=EI (D ⟨gl,0,Z⟩) 3 3/\fs.map (·.1)=[Ii,IS,ct]/\base<=gl/\JC w base gm fs/\H w gl (E4 fs).toArray 298
 |13=> ∃(gl:Nat) (fs:List (FD×Nat)),v=EI (D ⟨gl,0,Z⟩) 3 3/\fs.map (·.1)=[Ii,IS,ct]/\base<=gl/\JC w base gm fs/\H w gl (E4 fs).toArray 298
 |_=>v=Ec u
theorem EXR(base gm:Nat): ∀i v w w',i<15->Am base gm i v w->Oa w w'->Am base gm i v w':=by
 intro i v w w' hi h hb;unfold Am at*;split at h;case h_4|h_8|h_12=>exact h.G hb
 case h_13|h_14=> exact ElH
 all_goals exact h
theorem EXS(gm:Nat)(l:List Int)(w:M)(hm:H w gm (EF l) 183)(hk:l.getD 0 0=10): Ef EU 160 #[Y (D ⟨gm,0,Z⟩)] w (Zh w gm [Ii,IS,ct]):=by
 have c0:=hm.cell 0;rw[Zs _ _ X,if_neg X,hk] at c0;have BB:=O<|IE w.heap.size w;clear hm hk;go_enter ii,ij;go_wp2_with fail;clear c0;refine aQ EM Ed 15 Ed Eh Eb (Am w.heap.size gm) (EXR _ _) ?_ ?_
 ·simp only[X6,Ir,Im,EL,In,Ip,Ig,Ih,and_true];refine⟨?_,?_,?_,?_,?_,?_,?_,?_,?_,?_,?_,?_,?_,?_,?_⟩;all_goals intro v w' hb hd
  ·exact Elz
  ·exact ElT
  ·exact ElS
  ·exact Elq
  ·exact Elz
  ·exact ElR
  ·exact ElQ
  ·exact Elt
  ·exact Elz
  ·exact EnP
  ·exact EnN
  ·have d10:v 10=Y (D ⟨gm,5,Z⟩):=hd.at 10 rfl;refine Ot (f:=207) (args:= #[v 10,E I 1,E I 0,E I 4]) (Ei U) Ez ?_;rw[d10];exact(pJ ct U gm w').mono fun e w'' ⟨v,he,⟨gb,e2,lb,kb⟩,hb'⟩=>⟨v,he,hb',gb,e2,EA (EA BB.out.size hb.size) lb,kb⟩
  ·obtain⟨g0,d3,l0,k0⟩:FV w' w.heap.size gm Ii (v 3):=hd.at 3 rfl;obtain⟨g1,d7,l1,k1⟩:FV w' w.heap.size gm IS (v 7):=hd.at 7 rfl;obtain⟨g2,d11,l2,k2⟩:FV w' w.heap.size gm ct (v 11):=hd.at 11 rfl;refine bL (w':=w'.alloc (EJ (E4 [(Ii,g0),(IS,g1),(ct,g2)]).toArray 298)) (v:=EI (D ⟨w'.heap.size,0,Z⟩) 3 3) (Ei U) GP (Ep w' _) ⟨w'.heap.size,[(Ii,g0),(IS,g1),(ct,g2)],U,U,EA BB.out.size hb.size,fun i hi=> ?_,H.new _ _ _⟩;match i,hi with
   |0,_=>exact⟨l0,H.alloc k0 _⟩
   |1,_=>exact⟨l1,H.alloc k1 _⟩
   |2,_=>exact⟨l2,H.alloc k2 _⟩
  ·obtain⟨gl,fs,e,m,lg,bx,kk⟩: ∃(gl:Nat) (fs:List (FD×Nat)),v 12=EI (D ⟨gl,0,Z⟩) 3 3/\fs.map (·.1)=[Ii,IS,ct]/\w.heap.size<=gl/\JC w' w.heap.size gm fs/\H w' gl (E4 fs).toArray 298:=hd.at 12 rfl;exact EmX
  ·exact Elz
 ·intro v w' hb hr;obtain⟨gl,fs,e,m,lg,bx,kk⟩: ∃(gl:Nat) (fs:List (FD×Nat)),v 13=EI (D ⟨gl,0,Z⟩) 3 3/\fs.map (·.1)=[Ii,IS,ct]/\w.heap.size<=gl/\JC w' w.heap.size gm fs/\H w' gl (E4 fs).toArray 298:=hr 13 X;have dt:v 14=Ec u:=hr 14 X;exact Ell
def An(base gm:Nat)(i:Nat)(v:V)(w:M):Prop:=match i with
 |0=>v=Y (D ⟨gm,0,Z⟩)
 |1=>v=Y (D ⟨gm,0,Z⟩)
 |2=>v=Y (D ⟨gm,1,Z⟩)
 |3=>FV w base gm Ii v
 |4=>v=Y (D ⟨gm,0,Z⟩)
 |5=>v=Y (D ⟨gm,0,Z⟩)
 |6=>v=Y (D ⟨gm,4,Z⟩)
 |7=>FV w base gm IS v
 |8=>v=Y (D ⟨gm,0,Z⟩)
 |9=>v=Y (D ⟨gm,0,Z⟩)
 |10=>v=Y (D ⟨gm,6,Z⟩)
 |11=>FV w base gm dp v
 |_=> ∃(gl:Nat) (fs:List (FD×Nat)),v=EI (D ⟨gl,0,Z⟩) 3 3/\fs.map (·.1)=[Ii,IS,dp]/\base<=gl/\JC w base gm fs/\H w gl (E4 fs).toArray 298
theorem EXT(base gm:Nat): ∀i v w w',i<14->An base gm i v w->Oa w w'->An base gm i v w':=by
 intro i v w w' hi h hb;unfold An at*;split at h;case h_4|h_8|h_12=>exact h.G hb
 case h_13=> exact ElH
 all_goals exact h
theorem EXV(gm:Nat)(l:List Int)(w:M)(hm:H w gm (EF l) 183)(hk:l.getD 0 0=11): Ef EU 160 #[Y (D ⟨gm,0,Z⟩)] w (Zh w gm [Ii,IS,dp,JL 0,JL 1,JL 2,JL 3]):=by
 have c0:=hm.cell 0;rw[Zs _ _ X,if_neg X,hk] at c0;have BB:=O<|IE w.heap.size w;clear hm hk;go_enter ii,ij;go_wp2_with fail;clear c0;refine aQ EM Ed 14 Ed Eh Eb (An w.heap.size gm) (EXT _ _) ?_ ?_
 ·simp only[X6,Ir,Im,EL,In,Ip,Ig,Ih,and_true];refine⟨?_,?_,?_,?_,?_,?_,?_,?_,?_,?_,?_,?_,?_,?_⟩;all_goals intro v w' hb hd
  ·exact Elz
  ·exact ElT
  ·exact ElS
  ·exact Elq
  ·exact Elz
  ·exact ElR
  ·exact ElQ
  ·exact Elt
  ·exact Elz
  ·exact EnP
  ·exact EnN
  ·have d10:v 10=Y (D ⟨gm,6,Z⟩):=hd.at 10 rfl;refine Ot (f:=207) (args:= #[v 10,E I 1,E I 1,E I 3]) (Ei U) Ez ?_;rw[d10];exact(pJ dp U gm w').mono fun e w'' ⟨v,he,⟨gb,e2,lb,kb⟩,hb'⟩=>⟨v,he,hb',gb,e2,EA (EA BB.out.size hb.size) lb,kb⟩
  ·obtain⟨g0,d3,l0,k0⟩:FV w' w.heap.size gm Ii (v 3):=hd.at 3 rfl;obtain⟨g1,d7,l1,k1⟩:FV w' w.heap.size gm IS (v 7):=hd.at 7 rfl;obtain⟨g2,d11,l2,k2⟩:FV w' w.heap.size gm dp (v 11):=hd.at 11 rfl;refine bL (w':=w'.alloc (EJ (E4 [(Ii,g0),(IS,g1),(dp,g2)]).toArray 298)) (v:=EI (D ⟨w'.heap.size,0,Z⟩) 3 3) (Ei U) GP (Ep w' _) ⟨w'.heap.size,[(Ii,g0),(IS,g1),(dp,g2)],U,U,EA BB.out.size hb.size,fun i hi=> ?_,H.new _ _ _⟩;match i,hi with
   |0,_=>exact⟨l0,H.alloc k0 _⟩
   |1,_=>exact⟨l1,H.alloc k1 _⟩
   |2,_=>exact⟨l2,H.alloc k2 _⟩
  ·obtain⟨gl,fs,e,m,lg,bx,kk⟩: ∃(gl:Nat) (fs:List (FD×Nat)),v 12=EI (D ⟨gl,0,Z⟩) 3 3/\fs.map (·.1)=[Ii,IS,dp]/\w.heap.size<=gl/\JC w' w.heap.size gm fs/\H w' gl (E4 fs).toArray 298:=hd.at 12 rfl;exact EmX
 ·intro v w' hb hr;obtain⟨gl,fs,e,m,lg,bx,kk⟩: ∃(gl:Nat) (fs:List (FD×Nat)),v 13=EI (D ⟨gl,0,Z⟩) 3 3/\fs.map (·.1)=[Ii,IS,dp]/\w.heap.size<=gl/\JC w' w.heap.size gm fs/\H w' gl (E4 fs).toArray 298:=hr 13 X;simp only[Ir,Im,IL,IG,EL,In,Ip,Ig,Ih];rw[e];have ln:fs.length=3:=by have:=congrArg List.length m;simpa using this
  have K0:=O<|EXH kk bx lg ln.symm X;have FB:=EW BB hb;replace m:=O m;clear hr hb e kk bx;go_wp2_with fail;refine O9 5 ?_;rw[Ic];go_wp2_with fail;refine(Ag gm 8 _).mono ?_;rintro e x0 ⟨v0,rfl,⟨cu,rfl,lb0,uY⟩,b0⟩;have GT:=FB.out.size;replace K0:=O<|(K0.out.G b0).G (Ep x0 (EJ (E4 [(JL 0,cu)]).toArray 298));have HA:=O<|H.new x0 (E4 [(JL 0,cu)]).toArray 298;have HB0:=O<|H.alloc uY (EJ (E4 [(JL 0,cu)]).toArray 298);replace FB:=O<|bt (bt FB.out b0) (Ep x0 (EJ (E4 [(JL 0,cu)]).toArray 298));clear b0 uY;unfold IF;go_wp2_with (with_reducible refine I7 102 ?_);apply Eo;change IZ _ _ _ _ _ (x0.alloc (EJ (E4 [(JL 0,cu)]).toArray 298));have hz0:w.heap.size<=(x0.alloc (EJ (E4 [(JL 0,cu)]).toArray 298)).heap.size:=FB.out.size;obtain⟨gl0,cp0,y0,hrun,k,b⟩:=Ai _ w.heap.size _ gm _ _ 3 (by simp[ln]) K0.out (JL 0) cu x0.heap.size 1 X HB0.out HA.out X hz0 254;(with_reducible refine Ol ?_ (Up (s:= .tmp 94) (y:= .tmp 101) ?_ ?_ ?_ hrun) ?_);·exact Ei U
  ·rfl
  ·rfl
  ·rfl
  have K1:=O k;replace FB:=O<|FB.out.trans b;clear k b hrun HA HB0 K0 hz0 GT;go_wp2_with fail;rw[Ic];go_wp2_with fail;refine(Ag gm 9 _).mono ?_;rintro e x1 ⟨v1,rfl,⟨cy,rfl,lb1,u0⟩,b1⟩;have GV:=FB.out.size;replace K1:=O<|(K1.out.G b1).G (Ep x1 (EJ (E4 [(JL 1,cy)]).toArray 298));have HA:=O<|H.new x1 (E4 [(JL 1,cy)]).toArray 298;have HB1:=O<|H.alloc u0 (EJ (E4 [(JL 1,cy)]).toArray 298);replace FB:=O<|bt (bt FB.out b1) (Ep x1 (EJ (E4 [(JL 1,cy)]).toArray 298));clear b1 u0;unfold IF;go_wp2_with (with_reducible refine I7 102 ?_);apply Eo;change IZ _ _ _ _ _ (x1.alloc (EJ (E4 [(JL 1,cy)]).toArray 298));have hz1:w.heap.size<=(x1.alloc (EJ (E4 [(JL 1,cy)]).toArray 298)).heap.size:=FB.out.size;obtain⟨gl1,cp1,y1,hrun,k,b⟩:=Ai _ w.heap.size _ gm _ _ 4 (by simp[ln]) K1.out (JL 1) cy x1.heap.size 1 X HB1.out HA.out X hz1 254;(with_reducible refine Ol ?_ (Up (s:= .tmp 94) (y:= .tmp 101) ?_ ?_ ?_ hrun) ?_);·exact Ei U
  ·rfl
  ·rfl
  ·rfl
  have K2:=O k;replace FB:=O<|FB.out.trans b;clear k b hrun HA HB1 K1 hz1 GV;go_wp2_with fail;rw[Ic];go_wp2_with fail;refine(Ag gm 10 _).mono ?_;rintro e x2 ⟨v2,rfl,⟨cB,rfl,lb2,nj⟩,b2⟩;have GW:=FB.out.size;replace K2:=O<|(K2.out.G b2).G (Ep x2 (EJ (E4 [(JL 2,cB)]).toArray 298));have HA:=O<|H.new x2 (E4 [(JL 2,cB)]).toArray 298;have HB2:=O<|H.alloc nj (EJ (E4 [(JL 2,cB)]).toArray 298);replace FB:=O<|bt (bt FB.out b2) (Ep x2 (EJ (E4 [(JL 2,cB)]).toArray 298));clear b2 nj;unfold IF;go_wp2_with (with_reducible refine I7 102 ?_);apply Eo;change IZ _ _ _ _ _ (x2.alloc (EJ (E4 [(JL 2,cB)]).toArray 298));have hz2:w.heap.size<=(x2.alloc (EJ (E4 [(JL 2,cB)]).toArray 298)).heap.size:=FB.out.size;obtain⟨gl2,cp2,y2,hrun,k,b⟩:=Ai _ w.heap.size _ gm _ _ 5 (by simp[ln]) K2.out (JL 2) cB x2.heap.size 1 X HB2.out HA.out X hz2 254;(with_reducible refine Ol ?_ (Up (s:= .tmp 94) (y:= .tmp 101) ?_ ?_ ?_ hrun) ?_);·exact Ei U
  ·rfl
  ·rfl
  ·rfl
  have K3:=O k;replace FB:=O<|FB.out.trans b;clear k b hrun HA HB2 K2 hz2 GW;go_wp2_with fail;rw[Ic];go_wp2_with fail;refine(Ag gm 11 _).mono ?_;rintro e x3 ⟨v3,rfl,⟨cC,rfl,lb3,u1⟩,b3⟩;have GY:=FB.out.size;replace K3:=O<|(K3.out.G b3).G (Ep x3 (EJ (E4 [(JL 3,cC)]).toArray 298));have HA:=O<|H.new x3 (E4 [(JL 3,cC)]).toArray 298;have HB3:=O<|H.alloc u1 (EJ (E4 [(JL 3,cC)]).toArray 298);replace FB:=O<|bt (bt FB.out b3) (Ep x3 (EJ (E4 [(JL 3,cC)]).toArray 298));clear b3 u1;unfold IF;go_wp2_with (with_reducible refine I7 102 ?_);apply Eo;change IZ _ _ _ _ _ (x3.alloc (EJ (E4 [(JL 3,cC)]).toArray 298));have hz3:w.heap.size<=(x3.alloc (EJ (E4 [(JL 3,cC)]).toArray 298)).heap.size:=FB.out.size;obtain⟨gl3,cp3,y3,hrun,k,b⟩:=Ai _ w.heap.size _ gm _ _ 6 (by simp[ln]) K3.out (JL 3) cC x3.heap.size 1 X HB3.out HA.out X hz3 254;(with_reducible refine Ol ?_ (Up (s:= .tmp 94) (y:= .tmp 101) ?_ ?_ ?_ hrun) ?_);·exact Ei U
  ·rfl
  ·rfl
  ·rfl
  have K4:=O k;replace FB:=O<|FB.out.trans b;clear k b hrun HA HB3 K3 hz3 GY;go_wp2_with fail;rw[Ic];go_wp2_with fail;go_ret2;exact⟨_,_,_,U,by simp[m.out],K4.out.GM,FB.out⟩
structure AF where
 (sz lo hi:Int)
 (Y5 S:Nat)
 gp:V
 n:Int
def AF.cells(a:AF):Array V:= #[E I a.sz,E I a.lo,E I a.hi,.func (.func a.Y5) #[] #[a.gp],.func (.func a.S) #[] #[a.gp]]
theorem AF.one(a:AF):a.cells.all (·.oneCell')=u:=by simp[AF.cells,OC]
structure AF.ok(a:AF):Prop where
 neg:a.lo<0-> -32768<=a.lo/\a.hi<=32767
 pos:0<=a.lo->1<=a.sz/\a.sz<=7/\a.hi<256^a.sz.toNat
def jq(a:AF):Option (List Int):=if a.n<a.lo then Z else if a.hi<a.n then Z else if a.lo<0 then D (be (a.n%65536) 2) else D (be a.n a.sz.toNat)
def du:List AF->Option (List Int)
 |[]=>D []
 |a::l=>match jq a,du l with
  |some x,D y=>D (x++y)
  |_,_=>Z
theorem EX6(l:List AF)(a:AF)(x y:List Int)(h:du l=D x)(ha:jq a=D y):du (l++[a])=D (x++y):=by
 induction l generalizing x with
 |nil=> simp only[du,nk] at h;subst h;simp[du,ha]
 |cons b l ih=>
  simp only[du,List.cons_append] at h⊢;cases hb:jq b with
  |none=>rw[hb] at h;cases h
  |some Y3=>
   rw[hb] at h;cases hl:du l with
   |none=>rw[hl] at h;cases h
   |some v=> rw[hl] at h;simp only[nk] at h;subst h;rw[ih v hl];simp
theorem EX7(l:List AF)(a:AF)(hm:a∈l)(ha:jq a=Z):du l=Z:=by
 induction l with
 |nil=>cases hm
 |cons b l ih=>
  rcases Ui.1 hm with h|h;·subst h;simp[du,ha]
  ·simp only[du];rw[ih h];cases jq b<;>rfl
theorem EX8(a:AF)(ok:a.ok)(bs:List Int)(h:jq a=D bs):1<=bs.length/\bs.length<=7:=by
 unfold jq at h;split at h;·cases h
 split at h;·cases h
 split at h;·injection h with h;subst h;rw[Ua];omega
 ·injection h with h;subst h;rw[Ua];have:=ok.pos X;omega
def Ru(a:AF)(w:M)(e:Ut)(w':M):Prop:=
 (match jq a with
  |none=>e=Eg (Et #[EI Z 0 0,Ec B])
  |some bs=> ∃g,e=Eg (Et #[EI (D ⟨g,0,Z⟩) bs.length bs.length,Ec u])/\Row w' (D ⟨g,0,Z⟩) bs)/\El w w'
theorem EX9(a:AF)(ok:a.ok)(w:M)(HG:fa w a.Y5 a.gp a.n):Ef EU 242 #[EZ a.cells] w (Ru a w):=by
 unfold Ru jq AF.cells;by_cases h1:a.n<a.lo;·simp only[if_pos h1];exact EOb _ _ _ _ _ _ _ w HG h1
 by_cases h2:a.hi<a.n;·simp only[if_neg h1,if_pos h2];exact EOc _ _ _ _ _ _ _ w HG X h2
 by_cases h3:a.lo<0;·simp only[if_neg h1,if_neg h2,if_pos h3,Ua];have:=ok.neg h3;exact(EOd _ _ _ _ _ _ _ w HG X X h3 this.1 this.2).mono fun e w' ⟨g,he,hr,hb⟩=>⟨⟨g,he,hr⟩,hb⟩
 ·simp only[if_neg h1,if_neg h2,if_neg h3,Ua];have hp:=ok.pos X;obtain⟨k,hk⟩: ∃k:Nat,a.sz=k:=⟨a.sz.toNat,X⟩;have hk7:k<=7:=X;have hn:a.n<256^k:=by have:=hp.2.2;rw[hk,mo] at this;omega
  rw[hk,mo];have hpw:(2:Int)^(8*k)=256^k:=by rw[Int.pow_mul];rfl
  have hh:a.hi<=9223372036854775807:=by
   have h4:=hp.2.2;rw[hk,mo] at h4;have h5:(256:Int)^k<=72057594037927936:=by exact En0
   omega
  exact(EOf _ _ _ _ _ _ w HG k X X X X (by rw[hpw];exact Int.ediv_eq_zero_of_lt X hn) hh).mono fun e w' ⟨g,he,hr,hb⟩=>⟨⟨g,he,hr⟩,hb⟩
theorem EZE(w:M)(k:Int)(h0:0<=k)(h1:k<=255):Own (w.alloc (EJ #[E IP k] 5)) w.heap.size (D ⟨w.heap.size,0,Z⟩) 1 [k]:=
 ⟨⟨U,.inr ⟨w.heap.size,1,_,U,E7 _,fL w _,Eh,OD,U,U⟩⟩,fun x hx=>by simp at hx;omega⟩
def Rv(w:M)(gl:Nat)(fs:List AF):Prop:= ∀i (h:i<fs.length) j,j<5->w.cell? ⟨gl,i*5+j,Z⟩=fs[i].cells[j]?
def G0(k:Int)(fs:List AF)(w:M)(e:Ut)(w':M):Prop:=
 (match du fs with
  |none=>e=Eg (Et #[EI Z 0 0,Ec B])
  |some ps=> ∃A c,e=Eg (Et #[EI A (1+ps.length) c,Ec u])/\Own w' w.heap.size A c (k::ps))/\El w w'
theorem EZI(k:Int)(fs:List AF)(n gl cp:Nat)(hn:fs.length=n)(EjR:n<=100)(k0:0<=k)(k9:k<=255)(w:M)(hc: ∀W,El w W->Rv W gl fs)(hg: ∀a∈fs,a.ok/\fa w a.Y5 a.gp a.n): Ef EU 213 #[E I k,EI (D ⟨gl,0,Z⟩) n cp] w (G0 k fs w):=by
 have HC:=O hc;have HG:=O hg;have HN:=O hn;clear hc hg hn;go_enter Tryz.func213,Tryz.ntmps213;go_wp2_with fail;have HO:=O<|EZE w k k0 k9;have BB:=O<|Ep w (EJ #[E IP k] 5);generalize w.alloc (EJ #[E IP k] 5)=w1 at*;go_loopw[6,16] (fun x y wr=> ∃(i:Nat) (A:Option Eu) (c m:Nat) (ps:List Int),i<=n/\y=E I i/\x=EI A m c/\m=1+ps.length/\m<=1+7*i/\du (fs.take i)=D ps/\Own wr w.heap.size A c (k::ps)/\El w wr) (fun _ y _=>n-(Iv y).toNat);case atStart=>exact⟨0,_,1,1,[],X,U,U,U,X,U,HO.out,BB.out⟩
 case round=>
  obtain⟨i,A,c,m,ps,hi,rfl,rfl,hm,XS,hps,ho,hbb⟩:=hrel;have l5:=hbb.size;have a_:=O ho;have BB:=O hbb;have Ap:=O hps;have HM:=O hm;clear ho hbb hps hm;by_cases hin:i<n
  ·have hil:i<fs.length:=G1;have hcell:=HC.out wr BB.out i hil;have hmem:=HG.out _ (hH hil);have htk:fs.take (i+1)=fs.take i++[fs[i]'hil]:=by rw[nm,Ok hil];rfl
   have hin2:=hH hil;generalize fs[i]'hil=a at*;obtain⟨G2,Rw⟩:=hmem;have CB:=O<|fun W hW=>EX9 a G2 W (fa.G Rw hW);have OL:=O<|EX8 a G2;have HT:=O htk;have HI2:=O hin2;have hone:=O a.one;have hsz:Ea (a.cells.size=5):=O U;have hsp:Ea (a.cells= #[E I a.sz,E I a.lo,E I a.hi,.func (.func a.Y5) #[] #[a.gp],.func (.func a.S) #[] #[a.gp]]):=O U;have c0:=hcell 0 X;have c1:=hcell 1 X;have c2:=hcell 2 X;have c3:=hcell 3 X;have c4:=hcell 4 X;simp only[AF.cells,Nat.add_zero] at c0 c1 c2 c3 c4;clear hcell G2 Rw htk hin2;have t1:decide ((i:Int)<(n:Int))=u:=Ib X;go_wp2_with (with_reducible refine wA f_ (Ev.mk ?_));apply Eo;clear c0 c1 c2 c3 c4 t1;have K5:=O<|H.new wr JB 298;have b5:=O<|Ep wr (EJ JB 298);generalize wr.alloc (EJ JB 298)=w4 at*;go_wp2_with (with_reducible refine wS (cs:=a.cells) XF K5 (Ev.mk ?_) (hn:=hsz.out) (h1:=hone.out));apply Eo;replace K5:=O<|K5.out.setRow a.cells;replace b5:=O<|E3 (g:=wr.heap.size) b5.out X a.cells;generalize w4.setRow wr.heap.size a.cells=w5 at*;replace a_:=O<|ZW a_.out b5.out;replace BB:=EW BB b5.out;have l6:=BB.out.size;clear b5;go_wp2_with (with_reducible refine wL XF K5 ?_ (hn:=hsz.out));refine(CB.out _ BB.out).mono ?_;rintro e w6 ⟨hpost,b6⟩;clear K5;replace a_:=O<|ZW a_.out b6;replace BB:=EW BB b6;have l7:=BB.out.size;clear b6;cases hout:jq a with
   |none=> have hnone:=EX7 fs a HI2.out hout;rw[hout] at hpost;obtain rfl:=hpost;clear hout;go_wp2_with fail;go_ret2;unfold G0;rw[hnone];exact⟨U,BB.out⟩
   |some bs=>
    rw[hout] at hpost;obtain⟨g6,rfl,r6⟩:=hpost;have hsn:=EX6 _ _ _ _ Ap.out hout;rw[<-HT.out] at hsn;have hbl:=OL.out bs hout;have HSN:=O hsn;have R6:=O r6;clear hsn hout r6;generalize hbn:bs.length=bn at*;replace hbn:=O hbn;have G4:(k::ps).length=m:=by have:=HM.out;rw[ZV];omega
    replace G4:=O G4;go_wp2_with ((with_reducible refine Is 29 ?_);(with_reducible refine us _ ?_ (.tmp 27) (.tmp 28) ?_ w.heap.size A c m (k::ps) G4.out ?_ a_.out (D ⟨g6,0,Z⟩) bn bn bs hbn.out ?_ R6.out ?_ ?_ ?_);(·rfl);(·rfl);(·rfl);(·rfl);(·omega);(·omega);rintro A2 c2 w7 o7 b7;refine Ev.mk ?_);apply Eo;have O7:=O o7;replace BB:=O<|BB.out.trans b7;clear o7 b7;go_wp2_with fail;refine⟨⟨i+1,A2,c2,m+bn,ps++bs,X,Eh,U,?_,X,HSN.out,O7.out,BB.out⟩,Jv⟩;have:=HM.out;rw[I2,hbn.out];omega
  ·obtain rfl:i=n:=X;have hps:=Ap.out;rw[UZ rY] at hps;replace hps:=O hps;have t1:decide ((i:Int)<(i:Int))=B:=IJ X;go_wp2_with fail;go_ret2;unfold G0;rw[hps.out];exact⟨⟨A,c,by rw[HM.out];rfl,a_.out⟩,BB.out⟩
section
variable{P:Program}
def no(k:IntKind)(n:Nat)(f:Nat->Int):Array V:=EK n fun i=> .int k (f i)
theorem G5(k:IntKind)(n:Nat)(f:Nat->Int)(i:Nat):(no k n f)[i]?=if i<n then D (.int k (f i)) else Z:=cU _ _ _
theorem Aq{e:EC}{k:IntKind}(he:P.underlying e=D (.int k))(cs:Array V)(i:Nat)(v:V)(hv:cs[i]?=D v)(W:M):(Go.part e cs i).run P W= .ok v W:=by unfold Go.part;simp[isAgg,run_underlying he,hv]
theorem Rx{e:EC}{k:IntKind}(he:P.underlying e=D (.int k))(d n:Nat)(f g:Nat->Int)(W:M): ∀(m j:Nat),j+m<=n-> (Op.eqItems (d+1) e 1 (no k n f) (no k n g) (List.range' j m)).run P W= .ok ((List.range' j m).all fun i=>f i==g i) W
 |0,j,_=>by simp only[List.range'_zero,Op.eqItems,UU,bO]
 |m+1,j,h=>by
  have p1:=Aq he (no k n f) j _ (by rw[G5,if_pos X]) W;have p2:=Aq he (no k n g) j _ (by rw[G5,if_pos X]) W;rw[List.range'_succ,ar];simp only[Op.eqItems,Ud,Nat.mul_one,p1,p2,Uf,run_equalIn_int W d e k k _ _ he];cases hb:(f j==g j);·exact EpA
  ·simp only[Bool.not_true,kn,if_false,Bool.true_and];exact Rx he d n f g W m (j+1) X
def Ar(n:Nat)(f g:Nat->Int):Bool:=(UA n).all fun i=>f i==g i
theorem EZO{n:Nat}{f g:Nat->Int}:Ar n f g=u↔ ∀i,i<n->f i=g i:=by unfold Ar;simp
theorem EZU{t e:EC}{k:IntKind}{n:Nat}{i:TypeInfo}(hu:P.underlying t=D (.array n e))(he:P.underlying e=D (.int k))(hc:P.cellsOf e=1)(hi:P.info? e=D i)(d:Nat)(f g:Nat->Int)(W:M): (Op.equalIn (d+1+1) t (EZ (no k n f)) (EZ (no k n g))).run P W= .ok (Ar n f g) W:=by rw[run_equalIn_array W (d+1) _ _ hu hi,hc,List.range_eq_range',Rx he d n f g W n 0 X,Ar,List.range_eq_range']
end
theorem Ry(x0 x1 x2 x3:Int):(#[E I x0,E I x1,E I x2,E I x3]:Array V)=no .i64 4 (fun i=>if i=0 then x0 else if i=1 then x1 else if i=2 then x2 else x3):=rfl
theorem EZX: ∃i,Tryz.prog.info? 3=D i:=⟨_,U⟩
theorem Rz(x0 x1 x2 x3 y0 y1 y2 y3:Int)(d:Nat)(W:M): (Op.equalIn (d+1+1) 25 (EZ #[E I x0,E I x1,E I x2,E I x3]) (EZ #[E I y0,E I y1,E I y2,E I y3])).run EU W= .ok (decide (x0=y0/\x1=y1/\x2=y2/\x3=y3)) W:=by
 obtain⟨i,hi⟩:=EZX;rw[Ry,Ry,EZU Tryz.underlying25 Tryz.underlying3 Ed hi];congr 1;rw[Bool.eq_iff_iff,decide_eq_true_iff,EZO];constructor;·intro h;exact⟨h 0 X,h 1 X,h 2 X,h 3 X⟩
 ·rintro⟨rfl,rfl,rfl,rfl⟩ i _;rfl
theorem EZZ(x0 x1 x2 x3 y0 y1 y2 y3:Int)(W:M): (binOp .neq 25 (EZ #[E I x0,E I x1,E I x2,E I x3]) (EZ #[E I y0,E I y1,E I y2,E I y3])).run EU W= .ok (Ec (!decide (x0=y0/\x1=y1/\x2=y2/\x3=y3))) W:=by have:=Rz x0 x1 x2 x3 y0 y1 y2 y3 9998 W;simp[go_sem,this];done
theorem EZa(gm:Nat)(l:List Int)(w:M)(k:Int)(hm:H w gm (EF l) 183)(hk:l.getD 0 0=k)(hn:aq k=Z): Ef EU 160 #[Y (D ⟨gm,0,Z⟩)] w fun e w'=>e=Eg (Et #[EI Z 0 0,Ec B])/\w=w':=by
 have c0:=hm.cell 0;rw[Zs _ _ X,if_neg X,hk] at c0
 have hne:k≠1/\k≠2/\k≠3/\k≠4/\k≠5/\k≠6/\k≠7/\k≠8/\k≠9/\k≠10/\k≠11:=by
  unfold aq at hn;repeat' split at hn
  all_goals first|(cases hn;done)|omega
 obtain⟨n1,n2,n3,n4,n5,n6,n7,n8,n9,n10,n11⟩:=hne;have q1:(k==1)=B:=by simp[n1]
 have q2:(k==2)=B:=by simp[n2]
 have q3:(k==3)=B:=by simp[n3]
 have q4:(k==4)=B:=by simp[n4]
 have q5:(k==5)=B:=by simp[n5]
 have q6:(k==6)=B:=by simp[n6]
 have q7:(k==7)=B:=by simp[n7]
 have q8:(k==8)=B:=by simp[n8]
 have q9:(k==9)=B:=by simp[n9]
 have RF:(k==10)=B:=by simp[n10]
 have RH:(k==11)=B:=by simp[n11]
 clear hm hk hn;go_enter ii,ij;go_wp2_with fail;exact EpZ
def G6(w:M)(gm:Nat)(k:Int)(e:Ut)(w':M):Prop:=
 match aq k with
 |some ds=>Zh w gm ds e w'
 |none=>e=Eg (Et #[EI Z 0 0,Ec B])/\w=w'
theorem EZb(gm:Nat)(l:List Int)(w:M)(hm:H w gm (EF l) 183):Ef EU 160 #[Y (D ⟨gm,0,Z⟩)] w (G6 w gm (l.getD 0 0)):=by
 generalize hk:l.getD 0 0=k at*;by_cases h1:k=1;·subst h1;exact EXy gm l w hm hk
 by_cases h2:k=2;·subst h2;exact EXz gm l w hm hk
 by_cases h3:k=3;·subst h3;exact EXC gm l w hm hk
 by_cases h4:k=4;·subst h4;exact EXD gm l w hm hk
 by_cases h5:k=5;·subst h5;exact EXL gm l w hm hk
 by_cases h6:k=6;·subst h6;exact EXN gm l w hm hk
 by_cases h7:k=7;·subst h7;exact EXQ gm l w hm hk
 by_cases h8:k=8;·subst h8;exact EXF gm l w hm hk
 by_cases h9:k=9;·subst h9;exact EXG gm l w hm hk
 by_cases h10:k=10;·subst h10;exact EXS gm l w hm hk
 by_cases h11:k=11;·subst h11;exact EXV gm l w hm hk
 have hn:aq k=Z:=by unfold aq;exact Eo6
 unfold G6;rw[hn];exact EZa gm l w k hm hk hn
def If(k:Int):List Int:=[k,0,0,0,0,0,0,0,0,0,0,0]
def sj(d:FD)(n:Int):Option (List Int):=if n<d.lo then Z else if d.hi<n then Z else if d.lo<0 then D (be (n%65536) 2) else D (be n d.size.toNat)
def cD:List FD->List Int->Option (List Int)
 |[],_=>D []
 |d::ds,l=>match sj d (l.getD d.off 0),cD ds l with
  |some x,D y=>D (x++y)
  |_,_=>Z
def OE(ds:List FD)(l:List Int):List Int:=ds.foldl (fun l d=>l.set d.off 0) l
def su(l:List Int):Option (List Int):=
 match aq (l.getD 0 0) with
 |none=>Z
 |some ds=>match cD ds l with
  |none=>Z
  |some ps=>if OE ds l=If (l.getD 0 0) then D (l.getD 0 0::ps) else Z
structure FD.good(d:FD):Prop where
 ok:d.ok
 off1:1<=d.off
 neg:d.lo<0-> -32768<=d.lo/\d.hi<=32767
 pos:0<=d.lo->1<=d.size/\d.size<=7/\d.hi<256^d.size.toNat
theorem EZc:Xf.good:=⟨⟨Eb,Eb,Eb⟩,Eb,Eb,Eb⟩
theorem sw:Ii.good:=⟨⟨Eb,Eb,Eb⟩,Eb,Eb,Eb⟩
theorem EZd:dn.good:=⟨⟨Eb,Eb,Eb⟩,Eb,Eb,Eb⟩
theorem EZf:Jf.good:=⟨⟨Eb,Eb,Eb⟩,Eb,Eb,Eb⟩
theorem G7:IS.good:=⟨⟨Eb,Eb,Eb⟩,Eb,Eb,Eb⟩
theorem EZg:ct.good:=⟨⟨Eb,Eb,Eb⟩,Eb,Eb,Eb⟩
theorem EZh:dp.good:=⟨⟨Eb,Eb,Eb⟩,Eb,Eb,Eb⟩
theorem As(i:Nat)(h:i<4):(JL i).good:=by have h4:i=0\/i=1\/i=2\/i=3:=X;rcases h4 with rfl|rfl|rfl|rfl<;>exact⟨⟨Eb,Eb,Eb⟩,Eb,Eb,Eb⟩
theorem Au{k:Int}{ds:List FD}(h:aq k=D ds):1<=k/\k<=11/\ds.length<=7/\ ∀d∈ds,d.good:=by
 have one: ∀(P:Prop),(P->1<=k/\k<=11/\ds.length<=7/\ ∀d∈ds,d.good)->P->1<=k/\k<=11/\ds.length<=7/\ ∀d∈ds,d.good:=fun _ f p=>f p;unfold aq at h;repeat' split at h
 all_goals first
  |(cases h;done)
  |(injection h with h
    subst h
    refine⟨X,X,Eb,fun d hd=> ?_⟩
    simp only[Ui,UP,or_false] at hd)
 ·subst hd;exact EZc
 ·subst hd;exact sw
 ·rcases hd with rfl|rfl;·exact sw
  ·exact EZd
 ·rcases hd with rfl|rfl;·exact sw
  ·exact EZf
 ·rcases hd with rfl|rfl;·exact sw
  ·exact G7
 ·rcases hd with rfl|rfl|rfl;·exact sw
  ·exact G7
  ·exact EZg
 ·rcases hd with rfl|rfl|rfl|rfl|rfl|rfl|rfl;·exact sw
  ·exact G7
  ·exact EZh
  ·exact As 0 X
  ·exact As 1 X
  ·exact As 2 X
  ·exact As 3 X
def Av(l:List Int)(p:FD×Nat):AF:=⟨p.1.size,p.1.lo,p.1.hi,p.1.get,p.1.set,Y (D ⟨p.2,0,Z⟩),l.getD p.1.off 0⟩
theorem EZi(l:List Int)(fs:List (FD×Nat)):du (fs.map (Av l))=cD (fs.map (·.1)) l:=by
 induction fs with
 |nil=>rfl
 |cons p ps ih=> simp only[UL,du,cD];rw[ih];rfl
theorem EZj(l:List Int)(h:Xx w base gl gm fs):Rv w gl (fs.map (Av l)):=by intro i hi j hj;rw[List.getElem_map];exact h.cells i Ug j hj
theorem EZk(h:Own w base A cap xs)(hg:gm<base)(hk: ∀k,k≠gm->w'.heap[k]?=w.heap[k]?):Own w' base A cap xs:=by
 obtain⟨⟨h1,h2⟩,h3⟩:=h;refine⟨⟨h1,?_⟩,h3⟩;rcases h2 with h2|⟨g,cap',cur,e,hb,hh,r⟩;·exact .inl h2
 ·exact .inr ⟨g,cap',cur,e,hb,(hk g X).trans hh,r⟩
theorem Aw(ds:List FD)(l:List Int):(OE ds l).length=l.length:=by
 induction ds generalizing l with
 |nil=>rfl
 |cons d ds ih=>show(OE ds (l.set d.off 0)).length=_;rw[ih];simp
theorem sx(ds:List FD)(l:List Int)(o:Nat)(ho: ∀d∈ds,d.off≠o):(OE ds l).getD o 0=l.getD o 0:=by
 induction ds generalizing l with
 |nil=>rfl
 |cons d ds ih=> show(OE ds (l.set d.off 0)).getD o 0=_;rw[ih _ fun e he=>ho e (ai _ he)];simp[UK,List.getElem?_set_ne (ho d hO)]
theorem EZl(ds:List FD)(l:List Int)(o:Nat):(OE ds l).getD o 0=0\/(OE ds l).getD o 0=l.getD o 0:=by
 induction ds generalizing l with
 |nil=>exact .inr U
 |cons d ds ih=>
  show(OE ds (l.set d.off 0)).getD o 0=0\/(OE ds (l.set d.off 0)).getD o 0=_;rcases ih (l.set d.off 0) with h|h;·exact .inl h
  ·by_cases e:d.off=o
   ·left;rw[h,UK,e];by_cases hl:o<l.length;·simp[hl]
    ·rw[aM Jn];rfl
   ·right;rw[h];simp[UK,List.getElem?_set_ne e]
theorem EZm(ds:List FD)(d:FD)(l:List Int):OE (ds++[d]) l=(OE ds l).set d.off 0:=by unfold OE;rw[List.foldl_append];rfl
theorem EZn(k:Int):Tryz.prog.built 183 [(0,E I k)]=D (EF (If k)):=Ed
theorem jr:Tryz.prog.built 183 []=D (EF (If 0)):=Ed
end Go.Proofs.YtclmichaaiohjaaGreatDoor
