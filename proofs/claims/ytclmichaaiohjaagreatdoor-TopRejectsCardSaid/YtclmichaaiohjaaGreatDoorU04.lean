import Derived.Test.YtclmichaaiohjaaGreatDoorU03
import Derived.ChangeKeysEq
import Derived.Laws.StructEq
set_option maxRecDepth 100000
set_option linter.unusedVariables false
set_option linter.unusedSimpArgs false
set_option maxHeartbeats 6400000
namespace Go.Proofs.YtclmichaaiohjaaGreatDoor
open RowKit
open _root_.Array renaming getElem?_eq_getElem->j7
open Bool renaming true->EI,false->B,false_eq_true->kO
open Go renaming bits->Iu,World->H,Calls->Ef,TypeId->EB,Value->Y,Addr->Eu,heap_alloc_new->fz,bodyPost_ret->EV,binOp->XW,results->UL,Act->E6,Oper->EL,execOp->If,wpList->Ic,undef->I2,Operand->J7,info_parts->bz,below_setRow->E2,wpQuiet_nil->I1,callFunc->Jd,wp_loop_rounds->Ud,rounds_succ->Ij,Ending->Uh,wpList_store_mid->Ui
open Act renaming put->Ig
open Builtin renaming append_->bv
open Ending renaming returned->Eg
open IntKind renaming wrap->oI,i64->I,u8->IL,u64->Im
open Lib renaming hid->J
open Obj renaming cells->EJ
open Go.Proofs.Tryz renaming prog->Eb,func160->iO,ntmps160->iU
open Result renaming andThen_ok->OC
open RowKit renaming Below->Ik,Hid->Ec,intOf->Ir
open RowKit.Below renaming refl->E9,size->U8
open Sem renaming run_bind->Oz,run_pure->Og
open Value renaming bool->EU,int->E,agg->EZ,slice->G,tuple->Et,pointer->M,oneCell'->OF
open World renaming block_lt_of_cell?->Xv
open Int renaming toNat_natCast->mO
open List renaming getElem?_eq_none->bf,mem_of_mem_take->fy,eq_nil_of_length_eq_zero->aF,getElem?_eq_getElem->J5,range->U4,mem_cons_of_mem->aJ,mem_cons_self->gS,getElem?_eq_some_iff->Xx,take_append_drop->gT,take_succ_cons->Iq,drop_eq_getElem_cons->mg,length_take->aO,take_of_length_le->OY,getD_eq_getElem?_getD->Uq,getElem?_append_left->bi,getElem?_append_right->aX,map_cons->Uv,take_zero->Io,getElem?_toArray->OE,setIfInBounds_toArray->Ii,length_append->IY,length_cons->ZC,mem_cons->UJ,getElem_mem->gY,append_assoc->XI,set_cons_succ->Ia,set_cons_zero->Ib,mem_append->XM,length_drop->mB,not_mem_nil->UA,drop_succ_cons->IP,drop_zero->IH,append_nil->fS,take_add_one->nE,all_nil->ah,all_cons->Z0,mem_of_getElem?->dn
open Nat renaming lt_or_ge->JY,le_trans->Ez,le_refl->E7,zero_add->OD,add_assoc->jj
open Option renaming some->Z,none->X,map_some->jY
open Option.some renaming injEq->m_
variable{g b c m k d cap base gm gl:Nat}{w w':H}{A Y4 C:Option Eu}{x y z l xs bs:List Int}{T:EB}{fs:List (FD×Nat)}{ds:List FD}
theorem QW:Oq Eb 160 Ub.v.toArray:=by intro ev o w ho;unfold If;simp only[ho];simp[go_sem];exact congrArg (fun c=>w.alloc (EJ c 160)) Ed
def OQ(b:Bool)(m r:Int)(key:List Int):Jm:=⟨b,0,m,r,key,X⟩
theorem EUT(r k0 k1 k2 k3 k4 k5 k6 k7 k8 k9 k10 k11 k12 k13 k14 k15 k16 k17 k18 k19 k20 k21 k22 k23 k24 k25 k26 k27 k28 zR zS zT:Int):Tryz.prog.built 160 [(1,E I r),(2,EZ (Ej [k0,k1,k2,k3,k4,k5,k6,k7,k8,k9,k10,k11,k12,k13,k14,k15,k16,k17,k18,k19,k20,k21,k22,k23,k24,k25,k26,k27,k28,zR,zS,zT]))]=Z (OQ B 0 r [k0,k1,k2,k3,k4,k5,k6,k7,k8,k9,k10,k11,k12,k13,k14,k15,k16,k17,k18,k19,k20,k21,k22,k23,k24,k25,k26,k27,k28,zR,zS,zT]).v.toArray:=Ed
theorem Gl(r:Int)(key:List Int)(h:key.length=32):Tryz.prog.built 160 [(1,E I r),(2,EZ (Ej key))]=Z (OQ B 0 r key).v.toArray:=by
 match key,h with
 |[k0,k1,k2,k3,k4,k5,k6,k7,k8,k9,k10,k11,k12,k13,k14,k15,k16,k17,k18,k19,k20,k21,k22,k23,k24,k25,k26,k27,k28,zR,zS,zT],_=>exact EUT r k0 k1 k2 k3 k4 k5 k6 k7 k8 k9 k10 k11 k12 k13 k14 k15 k16 k17 k18 k19 k20 k21 k22 k23 k24 k25 k26 k27 k28 zR zS zT
theorem EUV(b:Bool)(m r:Int)(key:List Int)(hl:key.length=32)(hb: ∀x∈key,0<=x/\x<=255):(OQ b m r key).ok:=⟨hl,hb,trivial⟩
def rM(T:EQ)(g:Nat)(src role:Int)(key:List Int)(w:H)(e:Uh)(w':H):Prop:=
 (if(src=1\/src=2\/src=3)/\0<=role/\role<=3 then
  (if(T.E4 (src-1).toNat).on=B/\T.most<=T.Iw then e=Eg (E I 19)/\Il w' g T
   else e=Eg (E I 0)/\Il w' g (T.put (src-1).toNat (OQ EI (max T.In 0) role key)))
  else e=Eg (E I 1)/\Il w' g T)/\E3 g w w'
theorem EUW(g:Nat)(src role:Int)(key:List Int)(w:H)(h:src<1): Ef Eb 124 #[M (Z ⟨g,0,X⟩),E I src,E I role,EZ (Ej key)] w fun e w'=>e=Eg (E I 1)/\El w w':=by have d1:decide (src<1)=EI:=IU h;exact El8
theorem EUY(g:Nat)(src role:Int)(key:List Int)(w:H)(h:3<src): Ef Eb 124 #[M (Z ⟨g,0,X⟩),E I src,E I role,EZ (Ej key)] w fun e w'=>e=Eg (E I 1)/\El w w':=by have d1:decide (src<1)=B:=IJ U;have d2:decide (3<src)=EI:=IU h;exact El8
theorem EU0(g:Nat)(src role:Int)(key:List Int)(w:H)(h1:1<=src)(h2:src<=3)(h:role<0): Ef Eb 124 #[M (Z ⟨g,0,X⟩),E I src,E I role,EZ (Ej key)] w fun e w'=>e=Eg (E I 1)/\El w w':=by have d1:decide (src<1)=B:=IJ U;have d2:decide (3<src)=B:=IJ U;have d3:decide (role<0)=EI:=IU h;exact El8
theorem EU1(g:Nat)(src role:Int)(key:List Int)(w:H)(h1:1<=src)(h2:src<=3)(h:3<role): Ef Eb 124 #[M (Z ⟨g,0,X⟩),E I src,E I role,EZ (Ej key)] w fun e w'=>e=Eg (E I 1)/\El w w':=by have d1:decide (src<1)=B:=IJ U;have d2:decide (3<src)=B:=IJ U;have d3:decide (role<0)=B:=IJ U;have d4:decide (4<=role)=EI:=IU U;exact El8
theorem E3.db{g2:Nat}{a b c:H}(h:E3 g a b)(hg:a.heap.size<=g2)(k:E3 g2 b c)(hb:a.heap.size<=b.heap.size):E3 g a c:=
 ⟨Ez h.size k.size,fun i hi hl=>(k.keep i U (Nat.lt_of_lt_of_le hl h.size)).trans (h.keep i hi hl),fun i hi hl=>(h.bel i hi hl).trans (k.bel i U U)⟩
theorem fT{W:H}(cs:Array Y):E3 g W (W.setRow g cs):=
 ⟨Eh,fun k hk _=>setRow_other W g k _ U,fun b hb hW=>E2 (g:=g) (E9 b W) hb cs⟩
theorem EU2(g i:Nat)(hi:i<3)(T:EQ)(role:Int)(key:List Int)(w:H)(K:Il w g T)(h:T.ok)(hr0:0<=role)(hr1:role<=3)(hk:key.length=32)(hon:(T.E4 i).on=EI): Ef Eb 124 #[M (Z ⟨g,0,X⟩),E I ((i:Int)+1),E I role,EZ (Ej key)] w fun e w'=>e=Eg (E I 0)/\Il w' g (T.put i (OQ EI (max T.In 0) role key))/\E3 g w w':=by
 have d1:decide ((i:Int)+1<1)=B:=IJ U;have d2:decide (3<(i:Int)+1)=B:=IJ U;obtain⟨o,ho⟩:=En (so i);have hso:3+i*39=o:=by exact Eng
 have d3:decide (role<0)=B:=IJ U;have d4:decide (4<=role)=B:=IJ U;have hof:T.of g ((i:Int)+1)=M (Z ⟨g,o,X⟩):=by exact Em2
 have CO:Ec (∀W,Il W g T->Ef Eb 76 #[M (Z ⟨g,0,X⟩),E I ((i:Int)+1)] W fun e w'=>e=Eg (M (Z ⟨g,o,X⟩))/\W=w'):=J fun W hW=>Gm;have CM:Ec (∀W,Il W g T->Ef Eb 170 #[M (Z ⟨g,0,X⟩)] W fun e w'=>e=Eg (E I T.Iw)/\W=w'):=J fun W hW=>GI g T W hW h;have TP:=J<|fun W (k:Il W g T)=>uk k h i (OQ EI (max T.In 0) role key) hk;rw[<-ho] at TP;have TH:=J<|fun W (k:Il W g T)=>(aZ k (o:=o) (n:=39) Gn);have CB:=J<|fun W (k:Il W g T)=>uh k h;have BS:=J<|Gl role key hk;have CH:=J<|fun W (g9:Nat) (k:D W g9 (OQ false 0 role key).v.toArray 160)=>tW g9 0 [] ([E .i64 role]++(key.map (E .u8)++O_ X)) (EU B) (E I 0) (E I 0) 160 T.In W k O;have HK:=J hk;have hks:Ec ((Ej key).size=32):=J Gp;have SZ:=J<|show(OQ EI (max T.In 0) role key).v.toArray.size=39 from Jm.XL hk;have pE:=J<|show(OQ B 0 role key).v.toArray.size=39 from Jm.XL hk;have S1:=J<|mK (OQ EI (max T.In 0) role key);have S0:=J<|mK (OQ B 0 role key);have zV:=J<|show Ub.v.toArray.size=39 from Jm.XL O;have KT:=J K;have lg:=D.lt K;clear ho hof hk hon K h;obtain⟨kv,hkv⟩:=En (Ej key);rw[<-hkv] at BS hks⊢;obtain⟨si,hsi⟩:=En ((OQ B 0 role key).v.toArray);rw[<-hsi] at BS pE S0;obtain⟨sv,hsv⟩:=En ((OQ EI (max T.In 0) role key).v);obtain⟨T2,iI⟩:=En (T.put i (OQ EI (max T.In 0) role key));rw[<-hsv,<-iI] at TP;rw[<-iI];rw[<-hsv] at SZ S1;have mR:=J hsv;have rN:=J hsi;clear hkv hsi hsv iI;go_enter Tryz.func124,Tryz.ntmps124;go_wp2_with fail;have K7:=J<|D.new w kv 41;have b1:=Er w (EJ kv 41);replace KT:=J<|KT.out.V b1;have ON:Ec (E3 g w (w.alloc (EJ kv 41))):=J<|E3.EA b1;have l7:=K7.out.lt;generalize w.alloc (EJ kv 41)=w1 at*;clear b1;have KX:Ec (∀y:Ext w1,Il (EC w1 y) g T):=J fun y=>KT.out.V (EN y);have c1: ∀y:Ext w1,(EC w1 y).cell? ⟨g,121,X⟩=Z (E I T.most):=fun y=>(CB.out _ (KX.out y)).2;refine Zy Ed Ed ?_
 repeat (first
  |go_big_quiet_skip
  |(go_big_quiet_want
    first
     |(go_big_quiet_op
       first
        |go_big_quiet_on
        |go_big_quiet_call ((with_reducible first|refine i_ (CO.out _ (KX.out _))|refine i_ (CM.out _ (KX.out _)))))))
 refine I1 ?_;intro _ hw';obtain⟨y9,rfl⟩:=hw';have Em:=EN y9;replace KT:=J<|KT.out.V Em;replace K7:=J<|K7.out.V Em;replace ON:=J<|ON.out.trans (E3.EA Em);clear c1 KX CO CM Em;generalize EC w1 y9=w2 at*;go_wp2_with (first|(with_reducible refine wL OZ K7 ?_ (hn:=hks.out))|((with_reducible refine It 39 ?_);refine I3 rfl 160 _ rfl si BS.out ?_)|(with_reducible refine wA QW (Ev.mk ?_)));apply Eo;have l2:=K7.out.lt;have lt2:=D.lt KT.out;have b3:=Er w2 (EJ Ub.v.toArray 160);replace KT:=J<|KT.out.V b3;replace ON:=J<|ON.out.trans (E3.EA b3);have K9:=J<|D.new w2 Ub.v.toArray 160;clear b3;generalize w2.alloc (EJ Ub.v.toArray 160)=w3 at*;generalize w2.heap.size=g9 at*;go_wp2_with (with_reducible refine wS (cs:=si) mH K9 (Ev.mk ?_) (ho:=zV.out) (hn:=pE.out) (h1:=S0.out));apply Eo;replace KT:=J<|show Il (w3.setRow g9 si) g T from D.setRow_other KT.out g9 si U;replace ON:=J<|ON.out.db (g2:=g9) U (fT (g:=g9) (W:=w3) si) zW;replace K9:=J<|K9.out.setRow si;generalize w3.setRow g9 si=w4 at*;have c2:w4.cell? ⟨g,120,X⟩=Z (E I T.In):=(CB.out _ KT.out).1;go_wp2_with fail;rw[rN.out] at K9;refine(CH.out _ g9 K9.out).mono ?_;rintro e w5 ⟨rfl,k9,o9⟩;replace KT:=J<|show Il w5 g T from o9.Ek KT.out U;replace ON:=J<|ON.out.db (g2:=g9) U o9 zW;have Jk:Ec (D w5 g9 sv.toArray 160):=J (by rw[mR.out];exact k9);clear k9 o9 K9 c2 CH rN;have ltT:=D.lt KT.out;go_wp2_with fail;refine J_ 7 Ed Ed ?_;simp only[Iq,Io,IP,IH]
 repeat (first
  |go_big_quiet_skip
  |(go_big_quiet_want
    first
     |(refine UB (T:=160) (g:=g9) mH _ rfl rfl Jk ?_ ?_;(·exact SZ.out);go_simp;go_big_quiet_on)
     |(go_big_quiet_op
       first
        |go_big_quiet_on
        |go_big_quiet_call ((fail)))))
 refine I1 ?_;exact ElL
theorem EU5(g i:Nat)(hi:i<3)(T:EQ)(role:Int)(key:List Int)(w:H)(K:Il w g T)(h:T.ok)(hr0:0<=role)(hr1:role<=3)(hk:key.length=32)(hon:(T.E4 i).on=B)(hm:T.Iw<T.most): Ef Eb 124 #[M (Z ⟨g,0,X⟩),E I ((i:Int)+1),E I role,EZ (Ej key)] w fun e w'=>e=Eg (E I 0)/\Il w' g (T.put i (OQ EI (max T.In 0) role key))/\E3 g w w':=by
 have d1:decide ((i:Int)+1<1)=B:=IJ U;have d2:decide (3<(i:Int)+1)=B:=IJ U;obtain⟨o,ho⟩:=En (so i);have hso:3+i*39=o:=by exact Eng
 have d3:decide (role<0)=B:=IJ U;have d4:decide (4<=role)=B:=IJ U;have hof:T.of g ((i:Int)+1)=M X:=by exact Em2
 have CO:Ec (∀W,Il W g T->Ef Eb 76 #[M (Z ⟨g,0,X⟩),E I ((i:Int)+1)] W fun e w'=>e=Eg (M X)/\W=w'):=J fun W hW=>Gm;have CM:Ec (∀W,Il W g T->Ef Eb 170 #[M (Z ⟨g,0,X⟩)] W fun e w'=>e=Eg (E I T.Iw)/\W=w'):=J fun W hW=>GI g T W hW h;have dm:decide (T.most<=T.Iw)=B:=IJ U;have TP:=J<|fun W (k:Il W g T)=>uk k h i (OQ EI (max T.In 0) role key) hk;rw[<-ho] at TP;have TH:=J<|fun W (k:Il W g T)=>(aZ k (o:=o) (n:=39) Gn);have CB:=J<|fun W (k:Il W g T)=>uh k h;have BS:=J<|Gl role key hk;have CH:=J<|fun W (g9:Nat) (k:D W g9 (OQ false 0 role key).v.toArray 160)=>tW g9 0 [] ([E .i64 role]++(key.map (E .u8)++O_ X)) (EU B) (E I 0) (E I 0) 160 T.In W k O;have HK:=J hk;have hks:Ec ((Ej key).size=32):=J Gp;have SZ:=J<|show(OQ EI (max T.In 0) role key).v.toArray.size=39 from Jm.XL hk;have pE:=J<|show(OQ B 0 role key).v.toArray.size=39 from Jm.XL hk;have S1:=J<|mK (OQ EI (max T.In 0) role key);have S0:=J<|mK (OQ B 0 role key);have zV:=J<|show Ub.v.toArray.size=39 from Jm.XL O;have KT:=J K;have lg:=D.lt K;clear ho hof hk hon hm K h;obtain⟨kv,hkv⟩:=En (Ej key);rw[<-hkv] at BS hks⊢;obtain⟨si,hsi⟩:=En ((OQ B 0 role key).v.toArray);rw[<-hsi] at BS pE S0;obtain⟨sv,hsv⟩:=En ((OQ EI (max T.In 0) role key).v);obtain⟨T2,iI⟩:=En (T.put i (OQ EI (max T.In 0) role key));rw[<-hsv,<-iI] at TP;rw[<-iI];rw[<-hsv] at SZ S1;have mR:=J hsv;have rN:=J hsi;clear hkv hsi hsv iI;go_enter Tryz.func124,Tryz.ntmps124;go_wp2_with fail;have K7:=J<|D.new w kv 41;have b1:=Er w (EJ kv 41);replace KT:=J<|KT.out.V b1;have ON:Ec (E3 g w (w.alloc (EJ kv 41))):=J<|E3.EA b1;have l7:=K7.out.lt;generalize w.alloc (EJ kv 41)=w1 at*;clear b1;have KX:Ec (∀y:Ext w1,Il (EC w1 y) g T):=J fun y=>KT.out.V (EN y);have c1: ∀y:Ext w1,(EC w1 y).cell? ⟨g,121,X⟩=Z (E I T.most):=fun y=>(CB.out _ (KX.out y)).2;refine Zy Ed Ed ?_
 repeat (first
  |go_big_quiet_skip
  |(go_big_quiet_want
    first
     |(go_big_quiet_op
       first
        |go_big_quiet_on
        |go_big_quiet_call ((with_reducible first|refine i_ (CO.out _ (KX.out _))|refine i_ (CM.out _ (KX.out _)))))))
 refine I1 ?_;intro _ hw';obtain⟨y9,rfl⟩:=hw';have Em:=EN y9;replace KT:=J<|KT.out.V Em;replace K7:=J<|K7.out.V Em;replace ON:=J<|ON.out.trans (E3.EA Em);clear c1 KX CO CM Em;generalize EC w1 y9=w2 at*;go_wp2_with (first|(with_reducible refine wL OZ K7 ?_ (hn:=hks.out))|((with_reducible refine It 39 ?_);refine I3 rfl 160 _ rfl si BS.out ?_)|(with_reducible refine wA QW (Ev.mk ?_)));apply Eo;have l2:=K7.out.lt;have lt2:=D.lt KT.out;have b3:=Er w2 (EJ Ub.v.toArray 160);replace KT:=J<|KT.out.V b3;replace ON:=J<|ON.out.trans (E3.EA b3);have K9:=J<|D.new w2 Ub.v.toArray 160;clear b3;generalize w2.alloc (EJ Ub.v.toArray 160)=w3 at*;generalize w2.heap.size=g9 at*;go_wp2_with (with_reducible refine wS (cs:=si) mH K9 (Ev.mk ?_) (ho:=zV.out) (hn:=pE.out) (h1:=S0.out));apply Eo;replace KT:=J<|show Il (w3.setRow g9 si) g T from D.setRow_other KT.out g9 si U;replace ON:=J<|ON.out.db (g2:=g9) U (fT (g:=g9) (W:=w3) si) zW;replace K9:=J<|K9.out.setRow si;generalize w3.setRow g9 si=w4 at*;have c2:w4.cell? ⟨g,120,X⟩=Z (E I T.In):=(CB.out _ KT.out).1;go_wp2_with fail;rw[rN.out] at K9;refine(CH.out _ g9 K9.out).mono ?_;rintro e w5 ⟨rfl,k9,o9⟩;replace KT:=J<|show Il w5 g T from o9.Ek KT.out U;replace ON:=J<|ON.out.db (g2:=g9) U o9 zW;have Jk:Ec (D w5 g9 sv.toArray 160):=J (by rw[mR.out];exact k9);clear k9 o9 K9 c2 CH rN;have ltT:=D.lt KT.out;go_wp2_with fail;refine J_ 7 Ed Ed ?_;simp only[Iq,Io,IP,IH]
 repeat (first
  |go_big_quiet_skip
  |(go_big_quiet_want
    first
     |(refine UB (T:=160) (g:=g9) mH _ rfl rfl Jk ?_ ?_;(·exact SZ.out);go_simp;go_big_quiet_on)
     |(go_big_quiet_op
       first
        |go_big_quiet_on
        |go_big_quiet_call ((fail)))))
 refine I1 ?_;exact ElL
theorem EU6(g i:Nat)(hi:i<3)(T:EQ)(role:Int)(key:List Int)(w:H)(K:Il w g T)(h:T.ok)(hr0:0<=role)(hr1:role<=3)(hk:key.length=32)(hon:(T.E4 i).on=B)(hm:T.most<=T.Iw): Ef Eb 124 #[M (Z ⟨g,0,X⟩),E I ((i:Int)+1),E I role,EZ (Ej key)] w fun e w'=>e=Eg (E I 19)/\Il w' g T/\E3 g w w':=by
 have d1:decide ((i:Int)+1<1)=B:=IJ U;have d2:decide (3<(i:Int)+1)=B:=IJ U;obtain⟨o,ho⟩:=En (so i);have hso:3+i*39=o:=by exact Eng
 have d3:decide (role<0)=B:=IJ U;have d4:decide (4<=role)=B:=IJ U;have hof:T.of g ((i:Int)+1)=M X:=by exact Em2
 have CO:Ec (∀W,Il W g T->Ef Eb 76 #[M (Z ⟨g,0,X⟩),E I ((i:Int)+1)] W fun e w'=>e=Eg (M X)/\W=w'):=J fun W hW=>Gm;have CM:Ec (∀W,Il W g T->Ef Eb 170 #[M (Z ⟨g,0,X⟩)] W fun e w'=>e=Eg (E I T.Iw)/\W=w'):=J fun W hW=>GI g T W hW h;have dm:decide (T.most<=T.Iw)=EI:=IU hm;have TP:=J<|fun W (k:Il W g T)=>uk k h i (OQ EI (max T.In 0) role key) hk;rw[<-ho] at TP;have TH:=J<|fun W (k:Il W g T)=>(aZ k (o:=o) (n:=39) Gn);have CB:=J<|fun W (k:Il W g T)=>uh k h;have BS:=J<|Gl role key hk;have CH:=J<|fun W (g9:Nat) (k:D W g9 (OQ false 0 role key).v.toArray 160)=>tW g9 0 [] ([E .i64 role]++(key.map (E .u8)++O_ X)) (EU B) (E I 0) (E I 0) 160 T.In W k O;have HK:=J hk;have hks:Ec ((Ej key).size=32):=J Gp;have SZ:=J<|show(OQ EI (max T.In 0) role key).v.toArray.size=39 from Jm.XL hk;have pE:=J<|show(OQ B 0 role key).v.toArray.size=39 from Jm.XL hk;have S1:=J<|mK (OQ EI (max T.In 0) role key);have S0:=J<|mK (OQ B 0 role key);have zV:=J<|show Ub.v.toArray.size=39 from Jm.XL O;have KT:=J K;have lg:=D.lt K;clear ho hof hk hon hm K h;obtain⟨kv,hkv⟩:=En (Ej key);rw[<-hkv] at BS hks⊢;obtain⟨si,hsi⟩:=En ((OQ B 0 role key).v.toArray);rw[<-hsi] at BS pE S0;obtain⟨sv,hsv⟩:=En ((OQ EI (max T.In 0) role key).v);obtain⟨T2,iI⟩:=En (T.put i (OQ EI (max T.In 0) role key));rw[<-hsv] at SZ S1;have mR:=J hsv;have rN:=J hsi;clear hkv hsi hsv iI TP TH;go_enter Tryz.func124,Tryz.ntmps124;go_wp2_with fail;have K7:=J<|D.new w kv 41;have b1:=Er w (EJ kv 41);replace KT:=J<|KT.out.V b1;have ON:Ec (E3 g w (w.alloc (EJ kv 41))):=J<|E3.EA b1;have l7:=K7.out.lt;generalize w.alloc (EJ kv 41)=w1 at*;clear b1;have KX:Ec (∀y:Ext w1,Il (EC w1 y) g T):=J fun y=>KT.out.V (EN y);have c1: ∀y:Ext w1,(EC w1 y).cell? ⟨g,121,X⟩=Z (E I T.most):=fun y=>(CB.out _ (KX.out y)).2;refine Zy Ed Ed ?_
 repeat (first
  |go_big_quiet_skip
  |(go_big_quiet_want
    first
     |(go_big_quiet_op
       first
        |go_big_quiet_on
        |go_big_quiet_call ((with_reducible first|refine i_ (CO.out _ (KX.out _))|refine i_ (CM.out _ (KX.out _)))))))
 refine I1 ?_;intro _ hw';obtain⟨y9,rfl⟩:=hw';have Em:=EN y9;replace KT:=J<|KT.out.V Em;replace K7:=J<|K7.out.V Em;replace ON:=J<|ON.out.trans (E3.EA Em);clear c1 KX CO CM Em;generalize EC w1 y9=w2 at*;go_wp2_with fail;go_ret;exact⟨O,KT.out,ON.out⟩
theorem EU7(g:Nat)(T:EQ)(src role:Int)(key:List Int)(w:H)(K:Il w g T)(h:T.ok)(hk:key.length=32): Ef Eb 124 #[M (Z ⟨g,0,X⟩),E I src,E I role,EZ (Ej key)] w (rM T g src role key w):=by
 have hbad: ∀(e:Uh) (w':H),¬((src=1\/src=2\/src=3)/\0<=role/\role<=3)->e=Eg (E I 1)/\El w w'->rM T g src role key w e w':=by intro e w' hn ⟨he,hb⟩;unfold rM;rw[if_neg hn];exact⟨⟨he,K.V hb⟩,E3.EA hb⟩
 by_cases h1:src<1;·exact(EUW g src role key w h1).mono fun e w' hp=>hbad e w' U hp
 by_cases h2:3<src;·exact(EUY g src role key w h2).mono fun e w' hp=>hbad e w' U hp
 by_cases h3:role<0;·exact(EU0 g src role key w U U h3).mono fun e w' hp=>hbad e w' U hp
 by_cases h4:3<role;·exact(EU1 g src role key w U U h4).mono fun e w' hp=>hbad e w' U hp
 have hs:src=1\/src=2\/src=3:=U;have hg:(src=1\/src=2\/src=3)/\0<=role/\role<=3:=⟨hs,U,U⟩;unfold rM;simp only[if_pos hg];obtain⟨i,hi,rfl⟩: ∃i:Nat,i<3/\src=(i:Int)+1:=⟨(src-1).toNat,U,U⟩;simp only[show((i:Int)+1-1).toNat=i from U];cases hon:(T.E4 i).on with
 |true=>exact(EU2 g i hi T role key w K h U U hk hon).mono fun e w' ⟨a,b,c⟩=>⟨by rw[if_neg (fun h=>by cases h.1)];exact⟨a,b⟩,c⟩
 |false=>
  by_cases hm:T.most<=T.Iw;·exact(EU6 g i hi T role key w K h U U hk hon hm).mono fun e w' ⟨a,b,c⟩=>⟨by rw[if_pos ⟨O,hm⟩];exact⟨a,b⟩,c⟩
  ·exact(EU5 g i hi T role key w K h U U hk hon U).mono fun e w' ⟨a,b,c⟩=>⟨by rw[if_neg (fun h=>hm h.2)];exact⟨a,b⟩,c⟩
theorem QY(a:Option Eu)(c:Nat)(W:H):(Instr.arrayAt 115 (G a 8 c)).run Eb W= .ok (M a) W:=by simp[Instr.arrayAt,run_underlying Tryz.underlying115]
theorem EU8(l:List Int)(k:Nat):(Ej l).extract 0 (0+k)=Ej (l.take k):=by simp[Ej]
theorem Gq(A Y4:Option Eu)(k b:List Int)(n m c d:Nat)(w:H)(hn:k.length=n)(hm:b.length=m)(hk:Row w A k)(hb:Row w Y4 b)(hl:n<=10000000)(hl2:m<=10000000)(hR:Jt w): Ef Eb 210 #[G A n c,G Y4 m d] w fun e w'=>e=Eg (EZ (Ej ((JS k b).take 8)))/\El w w':=by have C:=fun(W:H) (hb':El w W)=>QV A Y4 k b n m c d W hn hm (Ix hk hb') (Ix hb hb') hl hl2 (hR.V hb');have AL:=mN k b;generalize JS k b=ans at*;have Q2:=J AL;have C2:=J C;have T8:Ec ((ans.take 8).length=8):=J (by rw[aO,Q2.out];rfl);have Q3:=QY;clear C AL hk hb hR hn hm;go_enter Tryz.func210,Tryz.ntmps210;go_wp2_with (with_reducible refine wA oS (Ev.mk ?_));apply Eo;have u:=J<|E9 w.heap.size w;have bel:=Er w (EJ (Ej (Ep 8)) 115);replace u:=ET u bel;have K4:=J<|D.new w (Ej (Ep 8)) 115;clear bel;generalize w.alloc (EJ (Ej (Ep 8)) 115)=w1 at*;go_wp2_with fail;refine(C2.out _ u.out).mono ?_;rintro e w2 ⟨rfl,b2⟩;replace K4:=J<|K4.out.V b2;replace u:=ET u b2;have l2:=K4.out.lt;clear b2 C2;go_wp2_with (with_reducible refine wA aP (Ev.mk ?_));apply Eo;have bel:=Er w2 (EJ (Ej (Ep 32)) 41);replace K4:=J<|K4.out.V bel;replace u:=ET u bel;have K5:=J<|D.new w2 (Ej (Ep 32)) 41;clear bel;generalize w2.alloc (EJ (Ej (Ep 32)) 41)=w3 at*;generalize w2.heap.size=g5 at*;go_wp2_with (with_reducible refine wS (cs:=Ej ans) OZ K5 (Ev.mk ?_) (ho:=XO) (hn:=by with_unfolding_all (rw[Od,Q2.out])) (h1:=Xm _));apply Eo;replace K4:=J<|K4.out.setRow_other g5 (Ej ans) U;replace K5:=J<|K5.out.setRow (Ej ans);replace u:=J<|E2 (g:=g5) u.out U (Ej ans);generalize w3.setRow g5 (Ej ans)=w4 at*;go_wp2_with (with_reducible first|refine wM (off:=0) (cs:=Ej (ans.take 8)) ZY K5 ?_ (hn:=Gr) (he:=EU8 _ _)|refine wS (cs:=Ej (ans.take 8)) ZY K4 ?_ (ho:=XO) (hn:=Gr) (h1:=Xm _));refine EV (v:=EZ (Ej (ans.take 8))) (Jj ZY O _ _ (w.heap.size) _ O (K4.out.setRow _) (by rw[Od,T8.out])) O ⟨O,E2 u.out U _⟩
theorem Q5(n:Int)(k:Nat)(m:Int)(hk:k<=63)(hm:IntKind.u64.wrap (IntKind.u64.wrap (2^k)-1)=m)(hd:(2:Int)^k∣18446744073709551616):Iu .and .u64 (IntKind.u64.wrap n) m=n%2^k:=by
 have e:IntKind.u64.wrap n=n%18446744073709551616:=by unfold oI;rfl
 rw[e,<-hm,PY k hk _ U U];exact Int.emod_emod_of_dvd n hd
theorem EU9(n:Int):Iu .and .u64 (IntKind.u64.wrap n) 255=n%256:=Q5 n 8 255 U Ea Ea
theorem EU_(n:Int):Iu .and .u64 (IntKind.u64.wrap n) 4294967295=n%4294967296:=Q5 n 32 4294967295 U Ea Ea
theorem ut(g m c:Nat)(cs:Array Y)(ps:List (List Int))(w:H)(hm:ps.length=m)(hk:D w g cs 23)(hp:fI w cs ps)(hs:ps.flatten.length<=100000000)(hm2:m<=1000): Ef Eb 172 #[G (Z ⟨g,0,X⟩) m c] w fun e w'=>(∃A d,e=Eg (G A ps.flatten.length d)/\Own w' w.heap.size A d ps.flatten)/\El w w':=by
 have HM:=J hm;have HK:=J hk;have HP:=J hp;have HS:=J hs;clear hm hk hp hs;go_enter Tryz.func172,Tryz.ntmps172;go_wp2_with fail;go_loopw[3,8] (fun x y wr=> ∃(i:Nat) (A:Option Eu) (d n:Nat),i<=m/\y=E I i/\x=G A n d/\(ps.take i).flatten.length=n/\Own wr w.heap.size A d (ps.take i).flatten/\El w wr) (fun _ y _=>m-(Ir y).toNat);case atStart=>exact⟨0,X,0,0,U,O,O,O,X0 _ _,E9 _ _⟩
 case round=>
  obtain⟨i,A,d,n,hi,rfl,rfl,hn,ho,u⟩:=hrel;by_cases hlt:i<m
  ·have hil:i<ps.length:=Gg;obtain⟨Y4,c2,e2,r2⟩:=HP.out.2 i hil;have ck:=(HK.out.V u).cell i;rw[e2] at ck;have hst:(ps.take (i+1)).flatten=(ps.take i).flatten++ps[i]:=QC;have hle:(ps.take (i+1)).flatten.length<=100000000:=by have h1:=HS.out;have h2:ps.flatten=(ps.take (i+1)).flatten++(ps.drop (i+1)).flatten:=QD;rw[h2,IY] at h1;omega
   rw[hst,IY] at hle;exact ElK
  ·exact Em1
theorem EXE{n:Nat}(hn:x.length=n)(hx:Row w A x):fI w #[G A n c] [x]:=by
 subst hn;refine⟨O,fun i hi=> ?_⟩;match i,hi with
 |0,_=>exact⟨A,c,O,hx⟩
theorem Q6{n e:Nat}(hn:x.length=n)(hm:y.length=m)(hk:z.length=k)(hx:Row w A x)(hy:Row w Y4 y)(hz:Row w C z):fI w #[G A n c,G Y4 m d,G C k e] [x,y,z]:=by
 subst hn hm hk;refine⟨O,fun i hi=> ?_⟩;match i,hi with
 |0,_=>exact⟨A,c,O,hx⟩
 |1,_=>exact⟨Y4,d,O,hy⟩
 |2,_=>exact⟨C,e,O,hz⟩
theorem EXI{Y_:Option Eu}{n l e f:Nat}{Y3:List Int}(hn:x.length=n)(hm:y.length=m)(hk:z.length=k)(hl:Y3.length=l)(hx:Row w A x)(hy:Row w Y4 y)(hz:Row w C z)(hu:Row w Y_ Y3):fI w #[G A n c,G Y4 m d,G C k e,G Y_ l f] [x,y,z,Y3]:=by
 subst hn hm hk hl;refine⟨O,fun i hi=> ?_⟩;match i,hi with
 |0,_=>exact⟨A,c,O,hx⟩
 |1,_=>exact⟨Y4,d,O,hy⟩
 |2,_=>exact⟨C,e,O,hz⟩
 |3,_=>exact⟨Y_,f,O,hu⟩
theorem zY(n:Int)(w:H): Ef Eb 211 #[E I n,E I 1] w fun e w'=>(∃g,e=Eg (G (Z ⟨g,0,X⟩) 1 1)/\Row w' (Z ⟨g,0,X⟩) (be (n%256) 1))/\El w w':=by have h1:=EU9 n;have hp:Ef Eb 111 #[E Im (n%256),E I 1] w fun e w'=>e=Eg (Et #[G (Z ⟨w.heap.size,0,X⟩) 1 1,E I 0])/\Row w' (Z ⟨w.heap.size,0,X⟩) (be (n%256) 1)/\El w w':=kX (n%256) 1 w U U U (by show n%256/256=0;omega);generalize be (n%256) 1=b at*;generalize n%256=m at*;exact Emj
theorem EXJ(n:Int)(w:H): Ef Eb 211 #[E I n,E I 4] w fun e w'=>(∃g,e=Eg (G (Z ⟨g,0,X⟩) 4 4)/\Row w' (Z ⟨g,0,X⟩) (be (n%4294967296) 4))/\El w w':=by have h1:=EU_ n;have hp:Ef Eb 111 #[E Im (n%4294967296),E I 4] w fun e w'=>e=Eg (Et #[G (Z ⟨w.heap.size,0,X⟩) 4 4,E I 0])/\Row w' (Z ⟨w.heap.size,0,X⟩) (be (n%4294967296) 4)/\El w w':=kX (n%4294967296) 4 w U U U (by show n%4294967296/4294967296=0;omega);generalize be (n%4294967296) 4=b at*;generalize n%4294967296=m at*;exact Emj
theorem Row.V(h:Row w A xs)(hb:El w w'):Row w' A xs:=Ix h hb
def Ov(y s r:Int)(nc:List Int):List Int:=[[y],be (s%256) 1,be (r%256) 1,nc].flatten
def dc(s q:Int):List Int:=[[78],be (s%256) 1,be (q%4294967296) 4].flatten
def mT(s:Int)(b:List Int):List Int:=[[77],be (s%256) 1,b].flatten
theorem Gt(y s r:Int)(nc:List Int)(h:nc.length=8):(Ov y s r nc).length=11:=by simp[Ov,O0,h]
theorem EXO(s q:Int):(dc s q).length=6:=by simp[dc,O0]
theorem Q7(s:Int)(b:List Int):(mT s b).length=2+b.length:=by simp[mT,O0];omega
theorem Gu{y:Int}(h:D w g #[E IL y] T)(hy:0<=y/\y<=255):Row w (Z ⟨g,0,X⟩) [y]:=EUN h O (by intro x hx;simp at hx;subst hx;exact hy)
def z4(y s r:Int)(nc:List Int)(g7:Nat)(i:Nat)(v:Y)(w:H):Prop:=match i with
 |0=>v=E IL y
 |1=> ∃g,v=G (Z ⟨g,0,X⟩) 1 1/\Row w (Z ⟨g,0,X⟩) [y]
 |2=>v=E I s
 |3=> ∃g,v=G (Z ⟨g,0,X⟩) 1 1/\Row w (Z ⟨g,0,X⟩) (be (s%256) 1)
 |4=>v=E I r
 |5=> ∃g,v=G (Z ⟨g,0,X⟩) 1 1/\Row w (Z ⟨g,0,X⟩) (be (r%256) 1)
 |6=>v=G (Z ⟨g7,0,X⟩) 8 8
 |7=> ∃g cs,v=G (Z ⟨g,0,X⟩) 4 4/\D w g cs 23/\fI w cs [[y],be (s%256) 1,be (r%256) 1,nc]
 |_=> ∃A d,v=G A 11 d/\Row w A (Ov y s r nc)
theorem EXU(y s r:Int)(nc:List Int)(g7:Nat): ∀i v w w',i<10->z4 y s r nc g7 i v w->J0 w w'->z4 y s r nc g7 i v w':=by
 intro i v w w' hi h hb;unfold z4 at*;split at h;case h_2|h_4|h_6=>obtain⟨g,e,k⟩:=h;exact⟨g,e,k.V hb⟩
 case h_8=> exact Eo0
 case h_9=>obtain⟨g,d,e,k⟩:=h;exact⟨g,d,e,k.V hb⟩
 all_goals exact h
theorem Q8(y s r:Int)(nc:List Int)(hl:nc.length=8)(hb: ∀x∈nc,0<=x/\x<=255)(hy:0<=y/\y<=255)(w:H): Ef Eb 214 #[E IL y,E I s,E I r,EZ (Ej nc)] w fun e w'=>(∃A d,e=Eg (G A 11 d)/\Row w' A (Ov y s r nc))/\El w w':=by
 have HL:=J hl;have HB:=J hb;have HY:=J hy;clear hl hb hy;go_enter Tryz.func214,Tryz.ntmps214;go_wp2_with fail;have K7:=J<|D.new w (Ej nc) 115;have u:=J<|Er w (EJ (Ej nc) 115);generalize w.alloc (EJ (Ej nc) 115)=w1 at*;refine ZB EF Ed 10 Ed Eh Ea (z4 y s r nc w.heap.size) (EXU y s r nc w.heap.size) ?_ ?_
 ·simp only[Xl,Iq,Io,EH,Ig,Ii,Ia,Ib,and_true];refine⟨?_,?_,?_,?_,?_,?_,?_,?_,?_,?_⟩;all_goals intro v w' hb hd
  ·exact Elo
  ·have d0:v 0=E IL y:=hd.at 0 rfl;exact aU (v:=G (Z ⟨w'.heap.size,0,X⟩) 1 1) (w':=w'.alloc (EJ #[E IL y] 5)) (Ei O) UW (Er w' _) ⟨_,O,Gu (D.new w' _ _) HY.out⟩
  ·exact Elo
  ·exact EmG
  ·exact Elo
  ·have d4:v 4=E I r:=hd.at 4 rfl;refine JL (f:=211) (args:= #[v 4,E I 1]) (Ei O) Ex ?_;rw[d4];exact(zY r w').mono fun e w'' ⟨⟨g,he,r⟩,hb'⟩=>⟨_,he,hb',g,O,r⟩
  ·exact Elo
  ·obtain⟨g1,d1,r1⟩: ∃g,v 1=G (Z ⟨g,0,X⟩) 1 1/\Row w' (Z ⟨g,0,X⟩) [y]:=hd.at 1 rfl;obtain⟨g3,d3,r3⟩: ∃g,v 3=G (Z ⟨g,0,X⟩) 1 1/\Row w' (Z ⟨g,0,X⟩) (be (s%256) 1):=hd.at 3 rfl;obtain⟨g5,d5,r5⟩: ∃g,v 5=G (Z ⟨g,0,X⟩) 1 1/\Row w' (Z ⟨g,0,X⟩) (be (r%256) 1):=hd.at 5 rfl;have d6:v 6=G (Z ⟨w.heap.size,0,X⟩) 8 8:=hd.at 6 rfl;have b1:=Er w' (EJ #[G (Z ⟨g1,0,X⟩) 1 1,G (Z ⟨g3,0,X⟩) 1 1,G (Z ⟨g5,0,X⟩) 1 1,G (Z ⟨w.heap.size,0,X⟩) 8 8] 23);exact aU (v:=G (Z ⟨w'.heap.size,0,X⟩) 4 4) (w':=w'.alloc (EJ #[G (Z ⟨g1,0,X⟩) 1 1,G (Z ⟨g3,0,X⟩) 1 1,G (Z ⟨g5,0,X⟩) 1 1,G (Z ⟨w.heap.size,0,X⟩) 8 8] 23)) (Ei O) (by simp[go_sem,d1,d3,d5,d6]) b1 ⟨_,_,O,D.new _ _ _,EXI O (O0 _ _) (O0 _ _) HL.out (r1.V b1) (r3.V b1) (r5.V b1) ((aK (K7.out.V hb) HB.out).V b1)⟩
  ·obtain⟨g,cs,d7,k7,p7⟩: ∃g cs,v 7=G (Z ⟨g,0,X⟩) 4 4/\D w' g cs 23/\fI w' cs [[y],be (s%256) 1,be (r%256) 1,nc]:=hd.at 7 rfl;refine JL (f:=172) (args:= #[v 7]) (Ei O) Ex ?_;rw[d7];have hln:[[y],be (s%256) 1,be (r%256) 1,nc].flatten.length=11:=Gt y s r nc HL.out;refine(ut g 4 4 cs _ w' O k7 p7 (by rw[hln];omega) U).mono fun e w'' ⟨⟨A,d,he,o⟩,hb'⟩=>⟨_,he,hb',A,d,by rw[hln],o.row⟩
  ·obtain⟨A,d,d8,r8⟩: ∃A d,v 8=G A 11 d/\Row w' A (Ov y s r nc):=hd.at 8 rfl;exact E_ EF (Ei O) fV ⟨A,d,O,r8⟩
 ·intro v w' hb hr;obtain⟨A,d,d9,r9⟩: ∃A d,v 9=G A 11 d/\Row w' A (Ov y s r nc):=hr 9 U;simp only[Iq,Io,IP,IH,EH,Ig,Ii,Ia,Ib];rw[d9];have b2:=bt u.out hb;clear hr hb d9;go_wp2_with fail;go_ret;exact⟨⟨_,_,O,r9⟩,b2⟩
theorem EXX(A:Option Eu)(k:List Int)(n c:Nat)(s q:Int)(w:H)(hn:k.length=n)(hk:Row w A k)(hl:n<=10000000)(hR:Jt w): Ef Eb 164 #[G A n c,E I s,E I q] w fun e w'=>e=Eg (EZ (Ej ((JS k (dc s q)).take 8)))/\El w w':=by have HN:=J hn;have HK:=J hk;have RT:=J hR;have u:=J<|E9 w.heap.size w;have NL:=EXO s q;have CT:=fun(Y4:Option Eu) (d:Nat) (W:H) (hb:Row W Y4 (dc s q)) (hw:El w W)=>Gq A Y4 k (dc s q) n 6 c d W hn NL (hk.V hw) hb hl U (hR.V hw);have T8:((JS k (dc s q)).take 8).length=8:=uu;have CJ:=fun(g c:Nat) (Y4 C Y_:Option Eu) (e f h:Nat) (W:H) (hk:D W g #[G Y4 1 e,G C 1 f,G Y_ 4 h] 23) (r1:Row W Y4 [78]) (r2:Row W C (be (s%256) 1)) (r3:Row W Y_ (be (q%4294967296) 4))=> ut g 3 c _ _ W O hk (Q6 O (O0 _ _) (O0 _ _) r1 r2 r3) (by show(dc s q).length<=_;omega) U;have e1:[[78],be (s%256) 1,be (q%4294967296) 4].flatten=dc s q:=rfl;simp only[e1,NL] at CJ;have CA:=fun W=>zY s W;have CB:=fun W=>EXJ q W;generalize (JS k (dc s q)).take 8=ans at*;generalize dc s q=nb at*;generalize be (s%256) 1=bs at*;generalize be (q%4294967296) 4=bq at*;replace CT:=J CT;replace CJ:=J CJ;replace CA:=J CA;replace CB:=J CB;replace T8:=J T8;clear hn hk hR NL e1;go_enter Tryz.func164,Tryz.ntmps164;go_wp2_with (with_reducible refine wA oS (Ev.mk ?_));apply Eo;have bel:=Er w (EJ (Ej (Ep 8)) 115);replace u:=ET u bel;have K6:=J<|D.new w (Ej (Ep 8)) 115;clear bel;generalize w.alloc (EJ (Ej (Ep 8)) 115)=w1 at*;go_wp2_with (go_at_call 211;refine Ev.mk ?_);apply Eo;have l6:=K6.out.lt;have bel:=Er w1 (EJ #[E IL 78] 5);replace K6:=J<|K6.out.V bel;replace u:=ET u bel;have K8:=J<|D.new w1 #[E IL 78] 5;clear bel;generalize w1.alloc (EJ #[E IL 78] 5)=w2 at*;generalize w1.heap.size=g8 at*;refine(CA.out _).mono ?_;rintro e w3 ⟨⟨g3,rfl,r3⟩,b3⟩;replace K6:=J<|K6.out.V b3;replace K8:=J<|K8.out.V b3;replace u:=ET u b3;replace r3:=J r3;clear b3;go_wp2_with fail;refine(CB.out _).mono ?_;rintro e w4 ⟨⟨g4,rfl,r4⟩,b4⟩;replace K6:=J<|K6.out.V b4;replace K8:=J<|K8.out.V b4;replace r3:=J<|r3.out.V b4;replace u:=ET u b4;replace r4:=J r4;clear b4;go_wp2_with (go_at_call 172;refine Ev.mk ?_);apply Eo;have bel:=Er w4 (EJ #[G (Z ⟨g8,0,X⟩) 1 1,G (Z ⟨g3,0,X⟩) 1 1,G (Z ⟨g4,0,X⟩) 4 4] 23);replace K6:=J<|K6.out.V bel;replace K8:=J<|K8.out.V bel;replace r3:=J<|r3.out.V bel;replace r4:=J<|r4.out.V bel;replace u:=ET u bel;have O4:=J<|D.new w4 #[G (Z ⟨g8,0,X⟩) 1 1,G (Z ⟨g3,0,X⟩) 1 1,G (Z ⟨g4,0,X⟩) 4 4] 23;clear bel;generalize w4.alloc (EJ #[G (Z ⟨g8,0,X⟩) 1 1,G (Z ⟨g3,0,X⟩) 1 1,G (Z ⟨g4,0,X⟩) 4 4] 23)=w5 at*;generalize w4.heap.size=g13 at*;refine(CJ.out g13 _ _ _ _ _ _ _ _ O4.out (Gu K8.out U) r3.out r4.out).mono ?_;rintro e w6 ⟨⟨A6,d6,rfl,o6⟩,b6⟩;replace K6:=J<|K6.out.V b6;replace u:=ET u b6;have r6:=J o6.row;clear b6 o6 r3 r4 O4 K8 CJ CA CB;go_wp2_with fail;refine(CT.out _ _ _ r6.out u.out).mono ?_;rintro e w7 ⟨rfl,b7⟩;replace K6:=J<|K6.out.V b7;replace u:=ET u b7;clear b7 r6 CT;go_wp2_with (with_reducible refine wS (cs:=Ej ans) ZY K6 ?_ (ho:=XO) (hn:=Gr) (h1:=Xm _));refine EV (v:=EZ (Ej ans)) (Jj ZY O _ _ (w.heap.size) _ O (K6.out.setRow _) (by rw[Od,T8.out])) O ⟨O,E2 u.out U _⟩
theorem Q9(A:Option Eu)(k nc:List Int)(n c:Nat)(s r:Int)(w:H)(hn:k.length=n)(hk:Row w A k)(hl:n<=10000000)(hc:nc.length=8)(hb: ∀x∈nc,0<=x/\x<=255)(hR:Jt w): Ef Eb 167 #[G A n c,E I s,E I r,EZ (Ej nc)] w fun e w'=>e=Eg (EZ (Ej ((JS k (Ov 80 s r nc)).take 8)))/\El w w':=by have HC:=J hc;have u:=J<|E9 w.heap.size w;have NL:=Gt 80 s r nc hc;have CT:=fun(Y4:Option Eu) (d:Nat) (W:H) (hb:Row W Y4 (Ov 80 s r nc)) (hw:El w W)=>Gq A Y4 k (Ov 80 s r nc) n 11 c d W hn NL (hk.V hw) hb hl U (hR.V hw);have TL:((JS k (Ov 80 s r nc)).take 8).length=8:=uu;have CL:=fun W=>Q8 80 s r nc hc hb U W;generalize (JS k (Ov 80 s r nc)).take 8=ans at*;generalize Ov 80 s r nc=nb at*;replace CT:=J CT;replace CL:=J CL;replace TL:=J TL;clear hn hk hR NL hc hb;go_enter Tryz.func167,Tryz.ntmps167;go_wp2_with (with_reducible refine wA oS (Ev.mk ?_));apply Eo;have K7:=J<|(D.new w (Ej nc) 115).alloc (EJ (Ej (Ep 8)) 115);have K8:=J<|D.new' (w.alloc (EJ (Ej nc) 115)) (Ej (Ep 8)) 115 (g:=w.heap.size+1) Eh;replace u:=J<|JV w (EJ (Ej nc) 115) (EJ (Ej (Ep 8)) 115);generalize (w.alloc (EJ (Ej nc) 115)).alloc (EJ (Ej (Ep 8)) 115)=w1 at*;go_wp2_with (with_reducible refine wL ZY K7 ?_ (hn:=z5));refine(CL.out _).mono ?_;rintro e w2 ⟨⟨A2,d2,rfl,r2⟩,b2⟩;replace K8:=J<|K8.out.V b2;replace u:=ET u b2;replace r2:=J r2;clear b2 CL K7;go_wp2_with fail;refine(CT.out _ _ _ r2.out u.out).mono ?_;rintro e w3 ⟨rfl,b3⟩;replace K8:=J<|K8.out.V b3;replace u:=ET u b3;clear b3 r2 CT;go_wp2_with (with_reducible refine wS (cs:=Ej ans) ZY K8 ?_ (ho:=XO) (hn:=Gv) (h1:=Xm _));refine EV (v:=EZ (Ej ans)) (Jj ZY O _ _ (w.heap.size+1) _ O (K8.out.setRow _) (by rw[Od,TL.out])) O ⟨O,E2 u.out U _⟩
theorem Q_(A:Option Eu)(k nc:List Int)(n c:Nat)(s r:Int)(w:H)(hn:k.length=n)(hk:Row w A k)(hl:n<=10000000)(hc:nc.length=8)(hb: ∀x∈nc,0<=x/\x<=255)(hR:Jt w): Ef Eb 169 #[G A n c,E I s,E I r,EZ (Ej nc)] w fun e w'=>e=Eg (EZ (Ej (JS k (Ov 75 s r nc))))/\El w w':=by
 have HC:=J hc;have u:=J<|E9 w.heap.size w;have NL:=Gt 75 s r nc hc;have CT:=fun(Y4:Option Eu) (d:Nat) (W:H) (hb:Row W Y4 (Ov 75 s r nc)) (hw:El w W)=>QV A Y4 k (Ov 75 s r nc) n 11 c d W hn NL (hk.V hw) hb hl U (hR.V hw);have TL:(JS k (Ov 75 s r nc)).length=32:=by exact mN _ _
 have CL:=fun W=>Q8 75 s r nc hc hb U W;generalize JS k (Ov 75 s r nc)=ans at*;generalize Ov 75 s r nc=nb at*;replace CT:=J CT;replace CL:=J CL;replace TL:=J TL;clear hn hk hR NL hc hb;go_enter Tryz.func169,Tryz.ntmps169;go_wp2_with (with_reducible refine wA aP (Ev.mk ?_));apply Eo;have K7:=J<|(D.new w (Ej nc) 115).alloc (EJ (Ej (Ep 32)) 41);have K8:=J<|D.new' (w.alloc (EJ (Ej nc) 115)) (Ej (Ep 32)) 41 (g:=w.heap.size+1) Eh;replace u:=J<|JV w (EJ (Ej nc) 115) (EJ (Ej (Ep 32)) 41);generalize (w.alloc (EJ (Ej nc) 115)).alloc (EJ (Ej (Ep 32)) 41)=w1 at*;go_wp2_with (with_reducible refine wL ZY K7 ?_ (hn:=z5));refine(CL.out _).mono ?_;rintro e w2 ⟨⟨A2,d2,rfl,r2⟩,b2⟩;replace K8:=J<|K8.out.V b2;replace u:=ET u b2;replace r2:=J r2;clear b2 CL K7;go_wp2_with fail;refine(CT.out _ _ _ r2.out u.out).mono ?_;rintro e w3 ⟨rfl,b3⟩;replace K8:=J<|K8.out.V b3;replace u:=ET u b3;clear b3 r2 CT;go_wp2_with (with_reducible refine wS (cs:=Ej ans) OZ K8 ?_ (ho:=XO) (hn:=Gv) (h1:=Xm _));refine EV (v:=EZ (Ej ans)) (Jj OZ O _ _ (w.heap.size+1) _ O (K8.out.setRow _) (by rw[Od,TL.out])) O ⟨O,E2 u.out U _⟩
def dg(key:List Int)(s:Int)(b:List Int):List Int:=(JS key (mT s b)).take 8
theorem EXZ(A:Option Eu)(n c m:Nat)(hm:m<=c)(W:H):(Instr.sliceAt 23 (G A n c) X (Z (E I (m:Int))) X).run Eb W= .ok (G A m c) W:=by have h2:(m:Int)<=(c:Int):=U;have h0:(0:Int)<=(m:Int):=U;simp[go_sem,h2,h0]
theorem Gw(o:EL){a:E6}(x y:J7)(ho:o.op= .slice 23 x X (Z y) X)(A:Option Eu)(n c m:Nat)(hx:a.eval x=G A n c)(hy:a.eval y=E I (m:Int))(hm:m<=c): (If a.eval o).run Eb w= .ok (.value (G A m c)) w:=by have h:=EXZ A n c m hm w;unfold If;simp only[ho,jY,Option.map_none,hx,hy,Oz,h,Og,OC]
theorem Gx(key:List Int)(s:Int)(b:List Int):(dg key s b).length=8:=by unfold dg;rw[aO,mN];rfl
theorem EXa(key:List Int)(s:Int)(b:List Int): ∀x∈dg key s b,0<=x/\x<=255:=fun x hx=>uq _ _ x (fy hx)
theorem b_(h:Own w c A cap xs)(hb:b<=c):Own w b A cap xs:=by
 obtain⟨⟨h1,h2⟩,h3⟩:=h;refine⟨⟨h1,?_⟩,h3⟩;rcases h2 with h2|⟨g,cap',cur,hv,hg,hh⟩;·exact .inl h2
 ·exact .inr ⟨g,cap',cur,hv,Ez hb hg,hh⟩
def z_(s:Int)(b tg:List Int)(Y4:Option Eu)(m d g3 Y5:Nat)(i:Nat)(v:Y)(w:H):Prop:=match i with
 |0=>v=G (Z ⟨g3,0,X⟩) 32 32
 |1=> ∃g,v=G (Z ⟨g,0,X⟩) 1 1/\Row w (Z ⟨g,0,X⟩) [77]
 |2=>v=E I s
 |3=> ∃g,v=G (Z ⟨g,0,X⟩) 1 1/\Row w (Z ⟨g,0,X⟩) (be (s%256) 1)
 |4=>v=G Y4 m d
 |5=> ∃g cs,v=G (Z ⟨g,0,X⟩) 3 3/\D w g cs 23/\fI w cs [[77],be (s%256) 1,b]
 |6=> ∃A d',v=G A (2+m) d'/\Row w A (mT s b)
 |7=>v=EZ (Ej tg)
 |_=> ∃g,v=M (Z ⟨g,0,X⟩)/\Y5<=g/\D w g (Ej (Ep 8)) 115
theorem EXb(s:Int)(b tg:List Int)(Y4:Option Eu)(m d g3 Y5:Nat): ∀i v w w',i<9->z_ s b tg Y4 m d g3 Y5 i v w->J0 w w'->z_ s b tg Y4 m d g3 Y5 i v w':=by
 intro i v w w' hi h hb;unfold z_ at*;split at h;case h_2|h_4=>obtain⟨g,e,k⟩:=h;exact⟨g,e,k.V hb⟩
 case h_6=> exact Eo0
 case h_7=>obtain⟨g,d,e,k⟩:=h;exact⟨g,d,e,k.V hb⟩
 case h_9=>obtain⟨g,e,l,k⟩:=h;exact⟨g,e,l,k.V hb⟩
 all_goals exact h
theorem RE(key b:List Int)(Y4:Option Eu)(m d:Nat)(s:Int)(w:H)(hl:key.length=32)(hkb: ∀x∈key,0<=x/\x<=255)(hm:b.length=m)(hr:Row w Y4 b)(hm2:m<=1000000)(hR:Jt w): Ef Eb 171 #[EZ (Ej key),E I s,G Y4 m d] w fun e w'=>(∃A d',e=Eg (G A (m+8) d')/\Own w' w.heap.size A d' (b++dg key s b))/\El w w':=by
 have HL:=J hl;have mV:=J hkb;have HM:=J hm;have HR:=J hr;have RT:=J hR;have CT:=fun(g:Nat) (Y_:Option Eu) (e:Nat) (W:H) (hk:Row W (Z ⟨g,0,X⟩) key) (hb:Row W Y_ (mT s b)) (hW:Jt W)=>Gq (Z ⟨g,0,X⟩) Y_ key (mT s b) 32 (2+m) 32 e W hl (by rw[Q7,hm]) hk hb U U hW;have TL:=Gx key s b;have TB:=EXa key s b;have e0:(JS key (mT s b)).take 8=dg key s b:=rfl;simp only[e0] at CT;generalize dg key s b=tg at*;replace CT:=J CT;replace TL:=J TL;replace TB:=J TB;clear hl hkb hm hr hR e0;go_enter Tryz.func171,Tryz.ntmps171;go_wp2_with fail;have K3:=J<|D.new w (Ej key) 41;have u:=J<|Er w (EJ (Ej key) 41);generalize w.alloc (EJ (Ej key) 41)=w1 at*;have W1:=u.out.size;refine ZB EF Ed 9 Ed Eh Ea (z_ s b tg Y4 m d w.heap.size w1.heap.size) (EXb _ _ _ _ _ _ _ _) ?_ ?_
 ·simp only[Xl,Iq,Io,EH,Ig,Ii,Ia,Ib,and_true];refine⟨?_,?_,?_,?_,?_,?_,?_,?_,?_⟩;all_goals intro v w' hb hd
  ·exact Elo
  ·exact aU (v:=G (Z ⟨w'.heap.size,0,X⟩) 1 1) (w':=w'.alloc (EJ #[E IL 77] 5)) (Ei O) Ex (Er w' _) ⟨_,O,Gu (D.new w' _ _) U⟩
  ·exact Elo
  ·exact EmG
  ·exact Elo
  ·obtain⟨g1,d1,r1⟩: ∃g,v 1=G (Z ⟨g,0,X⟩) 1 1/\Row w' (Z ⟨g,0,X⟩) [77]:=hd.at 1 rfl;obtain⟨g3,d3,r3⟩: ∃g,v 3=G (Z ⟨g,0,X⟩) 1 1/\Row w' (Z ⟨g,0,X⟩) (be (s%256) 1):=hd.at 3 rfl;have d4:v 4=G Y4 m d:=hd.at 4 rfl;have b1:=Er w' (EJ #[G (Z ⟨g1,0,X⟩) 1 1,G (Z ⟨g3,0,X⟩) 1 1,G Y4 m d] 23);exact aU (v:=G (Z ⟨w'.heap.size,0,X⟩) 3 3) (w':=w'.alloc (EJ #[G (Z ⟨g1,0,X⟩) 1 1,G (Z ⟨g3,0,X⟩) 1 1,G Y4 m d] 23)) (Ei O) (by simp[go_sem,d1,d3,d4]) b1 ⟨_,_,O,D.new _ _ _,Q6 O (O0 _ _) HM.out (r1.V b1) (r3.V b1) ((HR.out.V (bt u.out hb)).V b1)⟩
  ·obtain⟨g,cs,d5,k5,p5⟩: ∃g cs,v 5=G (Z ⟨g,0,X⟩) 3 3/\D w' g cs 23/\fI w' cs [[77],be (s%256) 1,b]:=hd.at 5 rfl;refine JL (f:=172) (args:= #[v 5]) (Ei O) Ex ?_;rw[d5];have hln:[[77],be (s%256) 1,b].flatten.length=2+m:=by rw[<-HM.out];exact Q7 s b
   refine(ut g 3 3 cs _ w' O k5 p5 (by rw[hln];omega) U).mono fun e w'' ⟨⟨A,d,he,o⟩,hb'⟩=>⟨_,he,hb',A,d,by rw[hln],o.row⟩
  ·have d0:v 0=G (Z ⟨w.heap.size,0,X⟩) 32 32:=hd.at 0 rfl;obtain⟨A,d',d6,r6⟩: ∃A d',v 6=G A (2+m) d'/\Row w' A (mT s b):=hd.at 6 rfl;refine JL (f:=210) (args:= #[v 0,v 6]) (Ei O) Ex ?_;rw[d0,d6];exact(CT.out w.heap.size A d' w' (aK (K3.out.V hb) mV.out) r6 (RT.out.V (bt u.out hb))).mono fun e w'' ⟨he,hb'⟩=>⟨_,he,hb',O⟩
  ·exact aU (Ei O) (oS _ _ _ O) (Er w' _) ⟨_,O,U8 hb,D.new _ _ _⟩
 ·intro v w' hb hr;obtain⟨g7,d8,hg7,K7⟩: ∃g,v 8=M (Z ⟨g,0,X⟩)/\w1.heap.size<=g/\D w' g (Ej (Ep 8)) 115:=hr 8 U;have d7:v 7=EZ (Ej tg):=hr 7 U;simp only[Iq,Io,IP,IH,EH,Ig,Ii,Ia,Ib];rw[d8,d7];replace u:=ET u hb;replace K7:=J K7;clear hr hb d8 d7 K3 CT;go_wp2_with (with_reducible refine wS (cs:=Ej tg) ZY K7 (Ev.mk ?_) (ho:=XO) (hn:=Gv) (h1:=Xm _));apply Eo;replace K7:=J<|K7.out.setRow (Ej tg);replace u:=J<|E2 (g:=g7) u.out U (Ej tg);generalize w'.setRow g7 (Ej tg)=w2 at*;go_wp2_with (go_at_call 172;refine Ev.mk ?_);apply Eo;have rb:=HR.out.V u.out;have rt:=aK K7.out TB.out;have b1:=Er w2 (EJ #[G Y4 m d,G (Z ⟨g7,0,X⟩) 8 8] 23);have hln:[b,tg].flatten=b++tg:=Eh;have Gy:(b++tg).length=m+8:=by rw[IY,HM.out,TL.out]
  have CJ:=ut w2.heap.size 2 2 #[G Y4 m d,G (Z ⟨g7,0,X⟩) 8 8] [b,tg] (w2.alloc (EJ #[G Y4 m d,G (Z ⟨g7,0,X⟩) 8 8] 23)) O (D.new _ _ _) (QA HM.out TL.out (rb.V b1) (rt.V b1)) (by rw[hln,Gy];omega) U;rw[hln,Gy] at CJ;replace u:=ET u b1;replace CJ:=J CJ;clear rb rt b1 hln Gy K7;have l2:=u.out.size;refine CJ.out.mono ?_;rintro e w3 ⟨⟨A3,d3,rfl,o3⟩,b3⟩;replace u:=ET u b3;replace o3:=J<|b_ o3 (show w.heap.size<=_ from U);clear b3 CJ;go_wp2_with fail;go_ret;exact⟨⟨_,_,O,o3.out⟩,u.out⟩
theorem EXc(key:List Int)(A:Option Eu)(n c:Nat)(s:Int)(w:H)(hn:n<8): Ef Eb 125 #[EZ (Ej key),E I s,G A n c] w fun e w'=>e=Eg (Et #[G X 0 0,E I 14])/\El w w':=by have t1:decide ((n:Int)-8<0)=EI:=IU U;go_enter Tryz.func125,Tryz.ntmps125;go_wp2_with fail;have u:=J<|Er w (EJ (Ej key) 41);generalize w.alloc (EJ (Ej key) 41)=w1 at*;go_quiet (fail);go_wp2_with fail;go_ret2;exact⟨O,gP u.out _⟩
def uw(key:List Int)(s:Int)(tg:List Int)(same:Bool)(A:Option Eu)(m c:Nat)(bd:List Int)(i:Nat)(v:Y)(w:H):Prop:=match i with
 |0=>v=E I (m:Int)
 |1=>v=EU B
 |2=>v=EU B
 |3=>v=G A (m+8) c
 |4=>v=EZ (Ej key)
 |5=>v=E I s
 |6=>v=G A (m+8) c
 |7=>v=E I (m:Int)
 |8=>v=G A m c
 |9=> ∃A' d',v=G A' (m+8) d'/\Row w A' (bd++tg)
 |10=>v=EU same
 |_=>v=EU (!same)
theorem RI(key:List Int)(s:Int)(tg:List Int)(same:Bool)(A:Option Eu)(m c:Nat)(bd:List Int): ∀i v w w',i<13->uw key s tg same A m c bd i v w->J0 w w'->uw key s tg same A m c bd i v w':=by
 intro i v w w' hi h hb;unfold uw at*;split at h;case h_10=>obtain⟨g,d,e,k⟩:=h;exact⟨g,d,e,k.V hb⟩
 all_goals exact h
theorem EXd(key xs:List Int)(A:Option Eu)(m c:Nat)(s:Int)(w:H)(hl:key.length=32)(hkb: ∀x∈key,0<=x/\x<=255)(hm:xs.length=m+8)(hr:Row w A xs)(hm2:m<=1000000)(hc:m+8<=c)(hR:Jt w)(hx:xs≠xs.take m++dg key s (xs.take m)): Ef Eb 125 #[EZ (Ej key),E I s,G A (m+8) c] w fun e w'=>e=Eg (Et #[G X 0 0,E I 14])/\El w w':=by
 have HL:=J hl;have mV:=J hkb;have HM:=J hm;have HR:=J hr;have RT:=J hR;have BL:(xs.take m).length=m:=l_;have RB:=fun(W:H) (hb:El w W)=>oO (hr.V hb) m;have TL:=Gx key s (xs.take m);have CC:=fun(W:H) (hb:El w W)=>RE key (xs.take m) A m c s W hl hkb BL (RB W hb) hm2 (hR.V hb);have SM:decide (xs=xs.take m++dg key s (xs.take m))=B:=IJ hx;generalize dg key s (xs.take m)=tg at*;generalize xs.take m=bd at*;have pI:(bd++tg).length=m+8:=by rw[IY,BL,TL]
 replace CC:=J CC;replace BL:=J BL;replace TL:=J TL;replace pI:=J pI;replace RB:=J RB;replace SM:=J SM;clear hl hkb hm hr hR hx;have i0:IntKind.i64.wrap (m:Int)=m:=IntWalk.i64_in _ U;have t0:decide ((m:Int)<0)=B:=IJ U;go_enter Tryz.func125,Tryz.ntmps125;go_wp2_with fail;have K3:=J<|D.new w (Ej key) 41;have u:=J<|Er w (EJ (Ej key) 41);generalize w.alloc (EJ (Ej key) 41)=w1 at*;refine ZB EF Ed 13 Ed Eh Ea (uw key s tg B A m c bd) (RI _ _ _ _ _ _ _ _) ?_ ?_
 ·simp only[Xl,Iq,Io,EH,Ig,Ii,Ia,Ib,and_true];refine⟨?_,?_,?_,?_,?_,?_,?_,?_,?_,?_,?_,?_,?_⟩;all_goals intro v w' hb hd
  ·exact Elo
  ·exact EoU
  ·exact Eo9
  ·exact ElQ
  ·exact EnZ
  ·exact ElQ
  ·exact ElQ
  ·exact ElQ
  ·exact Emx
  ·exact El3
  ·exact ElT
  ·have g2:v 2=EU B:=hd.at 2 rfl;have d10:v 10=EU B:=hd.at 10 rfl;exact E_ EF (XG O O (congrArg Z g2)) dh O
  ·have d2:v 2=EU B:=hd.at 2 rfl;have d11:v 11=EU (!B):=hd.at 11 rfl;exact E_ EF (Ei O) (by simp[go_sem,d2,d11]) O
 ·intro v w' hb hr;have d12:v 12=EU (!B):=hr 12 U;simp only[Iq,Io,IP,IH,EH,Ig,Ii,Ia,Ib];rw[d12];replace u:=ET u hb;clear hr hb d12 K3 CC;go_wp2_with fail;go_ret2;exact EoJ
theorem EXf(key xs:List Int)(A:Option Eu)(m c:Nat)(s:Int)(w:H)(hl:key.length=32)(hkb: ∀x∈key,0<=x/\x<=255)(hm:xs.length=m+8)(hr:Row w A xs)(hm2:m<=1000000)(hc:m+8<=c)(hR:Jt w)(hx:xs=xs.take m++dg key s (xs.take m)): Ef Eb 125 #[EZ (Ej key),E I s,G A (m+8) c] w fun e w'=>(∃A' d',e=Eg (Et #[G A' m d',E I 0])/\Own w' w.heap.size A' d' (xs.take m))/\El w w':=by
 have HL:=J hl;have mV:=J hkb;have HM:=J hm;have HR:=J hr;have RT:=J hR;have BL:(xs.take m).length=m:=l_;have RB:=fun(W:H) (hb:El w W)=>oO (hr.V hb) m;have TL:=Gx key s (xs.take m);have CC:=fun(W:H) (hb:El w W)=>RE key (xs.take m) A m c s W hl hkb BL (RB W hb) hm2 (hR.V hb);have SM:decide (xs=xs.take m++dg key s (xs.take m))=EI:=IU hx;generalize dg key s (xs.take m)=tg at*;generalize xs.take m=bd at*;have pI:(bd++tg).length=m+8:=by rw[IY,BL,TL]
 replace CC:=J CC;replace BL:=J BL;replace TL:=J TL;replace pI:=J pI;replace RB:=J RB;replace SM:=J SM;clear hl hkb hm hr hR hx;have i0:IntKind.i64.wrap (m:Int)=m:=IntWalk.i64_in _ U;have t0:decide ((m:Int)<0)=B:=IJ U;go_enter Tryz.func125,Tryz.ntmps125;go_wp2_with fail;have K3:=J<|D.new w (Ej key) 41;have u:=J<|Er w (EJ (Ej key) 41);generalize w.alloc (EJ (Ej key) 41)=w1 at*;refine ZB EF Ed 13 Ed Eh Ea (uw key s tg EI A m c bd) (RI _ _ _ _ _ _ _ _) ?_ ?_
 ·simp only[Xl,Iq,Io,EH,Ig,Ii,Ia,Ib,and_true];refine⟨?_,?_,?_,?_,?_,?_,?_,?_,?_,?_,?_,?_,?_⟩;all_goals intro v w' hb hd
  ·exact Elo
  ·exact EoU
  ·exact Eo9
  ·exact ElQ
  ·exact EnZ
  ·exact ElQ
  ·exact ElQ
  ·exact ElQ
  ·exact Emx
  ·exact El3
  ·exact ElT
  ·have g2:v 2=EU B:=hd.at 2 rfl;have d10:v 10=EU EI:=hd.at 10 rfl;exact E_ EF (XG O O (congrArg Z g2)) dh O
  ·have d2:v 2=EU B:=hd.at 2 rfl;have d11:v 11=EU (!EI):=hd.at 11 rfl;exact E_ EF (Ei O) (by simp[go_sem,d2,d11]) O
 ·intro v w' hb hr;have d12:v 12=EU (!EI):=hr 12 U;simp only[Iq,Io,IP,IH,EH,Ig,Ii,Ia,Ib];rw[d12];replace u:=ET u hb;clear hr hb d12 K3 CC;go_wp2_with (first|((with_reducible refine It 27 ?_);(with_reducible refine Jr (Ei rfl) (Gw _ (.tmp 25) (.tmp 26) rfl A (m+8) c m rfl rfl U) ?_))|(go_at_call 172;refine Ev.mk ?_));apply Eo;have b1:=Er w' (EJ #[G A m c] 23);have hln:[bd].flatten=bd:=Eh;have CJ:=ut w'.heap.size 1 1 #[G A m c] [bd] (w'.alloc (EJ #[G A m c] 23)) O (D.new _ _ _) (EXE BL.out ((RB.out w' u.out).V b1)) (by rw[hln,BL.out];omega) U;rw[hln,BL.out] at CJ;have l1:=u.out.size;have l2:=b1.size;replace u:=ET u b1;replace CJ:=J CJ;clear b1 hln;refine CJ.out.mono ?_;rintro e w3 ⟨⟨A3,d3,rfl,o3⟩,b3⟩;replace u:=ET u b3;replace o3:=J<|b_ o3 (show w.heap.size<=_ from U);clear b3 CJ;go_wp2_with fail;go_ret2;exact⟨⟨_,_,O,o3.out⟩,u.out⟩
def Sets(w:H)(S:Nat)(gp:Y)(n:Int)(Q:H->H->Prop):Prop:=jX S/\ ∀W,El w W->Ef Eb S #[E I n,gp] W fun e w'=>e=Eg (Et #[])/\Q W w'
theorem Sets.call{S:Nat}{gp:Y}{n:Int}{Q:H->H->Prop}(h:Sets w S gp n Q)(W:H)(hW:El w W):Ef Eb S #[E I n,gp] W fun e w'=>e=Eg (Et #[])/\Q W w':=h.2 W hW
theorem EXg(sz lo hi:Int)(Y5 S:Nat)(gp:Y)(xs:List Int)(Y4:Option Eu)(c:Nat)(v:Int)(Q:H->H->Prop)(w:H)(hr:Row w Y4 xs)(hl:xs.length=2)(hv:sig xs=v)(hn:lo<0)(h1:lo<=v)(h2:v<=hi)(hs:Sets w S gp v Q): Ef Eb 209 #[EZ #[E I sz,E I lo,E I hi,.func (.func Y5) #[] #[gp],.func (.func S) #[] #[gp]],G Y4 2 c] w fun e w'=>e=Eg (EU EI)/\ ∃W,El w W/\Q W w':=by have HS:=J hs;have HE: ∀(args:Array Y) (w:H),(Jd S args).run Eb w= .ok (.enter S args) w:=hs.1;clear hs;have HL:=J hl;have HV:=J hv;have hd0:decide (lo<0)=EI:=IU hn;have hd1:decide (v<lo)=B:=IJ U;have hd2:decide (hi<v)=B:=IJ U;have CT:=J<|fun W (h:Row W Y4 xs)=>EJS Y4 xs c W h hl;rw[hv] at CT;clear hl hv;exact Elp
theorem EXh(sz lo hi:Int)(Y5 S:Nat)(gp:Y)(xs:List Int)(Y4:Option Eu)(k c:Nat)(v:Int)(Q:H->H->Prop)(w:H)(hr:Row w Y4 xs)(hl:xs.length=k)(hk:k<=8)(hv:num xs=v)(hn:0<=lo)(h1:lo<=v)(h2:v<=hi)(h63:hi<=9223372036854775807)(hs:Sets w S gp v Q): Ef Eb 209 #[EZ #[E I sz,E I lo,E I hi,.func (.func Y5) #[] #[gp],.func (.func S) #[] #[gp]],G Y4 k c] w fun e w'=>e=Eg (EU EI)/\ ∃W,El w W/\Q W w':=by have HS:=J hs;have HE: ∀(args:Array Y) (w:H),(Jd S args).run Eb w= .ok (.enter S args) w:=hs.1;clear hs;have HL:=J hl;have hd0:decide (lo<0)=B:=IJ U;have CT:=J<|fun W (h:Row W Y4 xs)=>F5 (w:=W) k c hl h hk;rw[hv] at CT;clear hl hv;have hd1:decide (v<lo)=B:=IJ U;have hd2:decide (hi<v)=B:=IJ U;have v0:0<=v:=U;have v9:v<=9223372036854775807:=U;exact Elp
theorem EXi(sz lo hi:Int)(Y5 S:Nat)(gp:Y)(xs:List Int)(Y4:Option Eu)(k c:Nat)(v:Int)(w:H)(hr:Row w Y4 xs)(hl:xs.length=k)(hk:k<=8)(hv:num xs=v)(hn:0<=lo)(v0:0<=v)(v9:v<=9223372036854775807)(h1:v<lo): Ef Eb 209 #[EZ #[E I sz,E I lo,E I hi,.func (.func Y5) #[] #[gp],.func (.func S) #[] #[gp]],G Y4 k c] w fun e w'=>e=Eg (EU B)/\El w w':=by have HL:=J hl;have hd0:decide (lo<0)=B:=IJ U;have CT:=J<|fun W (h:Row W Y4 xs)=>F5 (w:=W) k c hl h hk;rw[hv] at CT;clear hl hv;have hd1:decide (v<lo)=EI:=IU h1;exact ElB
theorem EXj(sz lo hi:Int)(Y5 S:Nat)(gp:Y)(xs:List Int)(Y4:Option Eu)(k c:Nat)(v:Int)(w:H)(hr:Row w Y4 xs)(hl:xs.length=k)(hk:k<=8)(hv:num xs=v)(hn:0<=lo)(v0:0<=v)(v9:v<=9223372036854775807)(h1:lo<=v)(h2:hi<v): Ef Eb 209 #[EZ #[E I sz,E I lo,E I hi,.func (.func Y5) #[] #[gp],.func (.func S) #[] #[gp]],G Y4 k c] w fun e w'=>e=Eg (EU B)/\El w w':=by have HL:=J hl;have hd0:decide (lo<0)=B:=IJ U;have CT:=J<|fun W (h:Row W Y4 xs)=>F5 (w:=W) k c hl h hk;rw[hv] at CT;clear hl hv;have hd1:decide (v<lo)=B:=IJ U;have hd2:decide (hi<v)=EI:=IU h2;exact ElB
theorem EXk(gm o:Nat)(w:H): Ef Eb 204 #[M (Z ⟨gm,o,X⟩)] w fun e w'=> ∃v,e=Eg v/\FV w' w.heap.size gm ⟨1,1,0,1,o⟩ v/\El w w':=by have BF:Tryz.prog.built 298 [(0,E I 1),(2,E I 1),(3,.func (.func 234) #[] #[M (Z ⟨w.heap.size,0,X⟩)]),(4,.func (.func 235) #[] #[M (Z ⟨w.heap.size,0,X⟩)])]=Z (ID ⟨1,1,0,1,o⟩ w.heap.size):=F8 ⟨1,1,0,1,o⟩ w.heap.size O;have O1:=J<|hZ ⟨1,1,0,1,o⟩ w.heap.size;have OP:Ec ((ID ⟨1,1,0,1,o⟩ w.heap.size).size=5):=J O;generalize Uf:ID ⟨1,1,0,1,o⟩ w.heap.size=fv at*;replace BF:=J BF;have HB:Ec (∀W:H,D W w.heap.size #[M (Z ⟨gm,o,X⟩)] 302->FV W w.heap.size gm ⟨1,1,0,1,o⟩ (EZ fv)):=J fun W h=>⟨w.heap.size,by rw[Uf],E7 _,h⟩;clear Uf;go_enter Tryz.func204,Tryz.ntmps204;go_wp2_with (with_reducible refine wA fL (Ev.mk ?_));apply Eo;have K4:=J<|(D.new w #[M (Z ⟨gm,o,X⟩)] 302).alloc (EJ Jx 298);have K8:=J<|D.new' (w.alloc (EJ #[M (Z ⟨gm,o,X⟩)] 302)) Jx 298 (g:=w.heap.size+1) Eh;have u:=J<|JV w (EJ #[M (Z ⟨gm,o,X⟩)] 302) (EJ Jx 298);generalize (w.alloc (EJ #[M (Z ⟨gm,o,X⟩)] 302)).alloc (EJ Jx 298)=w1 at*;exact Els
theorem Gz(gm o:Nat)(w:H): Ef Eb 202 #[M (Z ⟨gm,o,X⟩)] w fun e w'=> ∃v,e=Eg v/\FV w' w.heap.size gm ⟨0,1,0,3,o⟩ v/\El w w':=by have CN: ∀W:H,Ef Eb 207 #[M (Z ⟨gm,o,X⟩),E I 1,E I 0,E I 3] W fun e w'=> ∃v,e=Eg v/\FV w' W.heap.size gm ⟨0,1,0,3,o⟩ v/\El W w':=fun W=>oF ⟨0,1,0,3,o⟩ O gm W;generalize hd:(⟨0,1,0,3,o⟩:FD)=d at*;replace CN:=J CN;clear hd;go_enter Tryz.func202,Tryz.ntmps202;exact ElJ
theorem iJ(gm o:Nat)(w:H): Ef Eb 203 #[M (Z ⟨gm,o,X⟩)] w fun e w'=> ∃v,e=Eg v/\FV w' w.heap.size gm ⟨0,4,0,4294967295,o⟩ v/\El w w':=by have CN: ∀W:H,Ef Eb 207 #[M (Z ⟨gm,o,X⟩),E I 4,E I 0,E I 4294967295] W fun e w'=> ∃v,e=Eg v/\FV w' W.heap.size gm ⟨0,4,0,4294967295,o⟩ v/\El W w':=fun W=>oF ⟨0,4,0,4294967295,o⟩ O gm W;generalize hd:(⟨0,4,0,4294967295,o⟩:FD)=d at*;replace CN:=J CN;clear hd;go_enter Tryz.func203,Tryz.ntmps203;exact ElJ
theorem ux(gm o:Nat)(w:H): Ef Eb 205 #[M (Z ⟨gm,o,X⟩)] w fun e w'=> ∃v,e=Eg v/\FV w' w.heap.size gm ⟨0,1,0,4,o⟩ v/\El w w':=by have CN: ∀W:H,Ef Eb 207 #[M (Z ⟨gm,o,X⟩),E I 1,E I 0,E I 4] W fun e w'=> ∃v,e=Eg v/\FV w' W.heap.size gm ⟨0,1,0,4,o⟩ v/\El W w':=fun W=>oF ⟨0,1,0,4,o⟩ O gm W;generalize hd:(⟨0,1,0,4,o⟩:FD)=d at*;replace CN:=J CN;clear hd;go_enter Tryz.func205,Tryz.ntmps205;exact ElJ
theorem pJ(gm o:Nat)(w:H): Ef Eb 206 #[M (Z ⟨gm,o,X⟩)] w fun e w'=> ∃v,e=Eg v/\FV w' w.heap.size gm ⟨0,2,0,65535,o⟩ v/\El w w':=by have CN: ∀W:H,Ef Eb 207 #[M (Z ⟨gm,o,X⟩),E I 2,E I 0,E I 65535] W fun e w'=> ∃v,e=Eg v/\FV w' W.heap.size gm ⟨0,2,0,65535,o⟩ v/\El W w':=fun W=>oF ⟨0,2,0,65535,o⟩ O gm W;generalize hd:(⟨0,2,0,65535,o⟩:FD)=d at*;replace CN:=J CN;clear hd;go_enter Tryz.func206,Tryz.ntmps206;exact ElJ
theorem AJ(gm o:Nat)(w:H): Ef Eb 208 #[M (Z ⟨gm,o,X⟩)] w fun e w'=> ∃v,e=Eg v/\FV w' w.heap.size gm ⟨0,2,(-32768),32767,o⟩ v/\El w w':=by have CN: ∀W:H,Ef Eb 207 #[M (Z ⟨gm,o,X⟩),E I 2,E I (-32768),E I 32767] W fun e w'=> ∃v,e=Eg v/\FV w' W.heap.size gm ⟨0,2,(-32768),32767,o⟩ v/\El W w':=fun W=>oF ⟨0,2,(-32768),32767,o⟩ O gm W;generalize hd:(⟨0,2,(-32768),32767,o⟩:FD)=d at*;replace CN:=J CN;clear hd;go_enter Tryz.func208,Tryz.ntmps208;exact ElJ
def EY:List (FD×Nat)->List Y
 |[]=>[]
 |p::ps=>(ID p.1 p.2).toList++EY ps
theorem uy(fs:List (FD×Nat)):(EY fs).length=fs.length*5:=by
 induction fs with
 |nil=>rfl
 |cons r rs ih=>rw[EY,IY,ih,ZC];show 5+_=_;omega
theorem RU(xs ys:List (FD×Nat)):EY (xs++ys)=EY xs++EY ys:=by
 induction xs with
 |nil=>rfl
 |cons r rs ih=>rw[List.cons_append,EY,ih,EY,XI]
theorem RZ: ∀(rs:List (FD×Nat)) (i:Nat) (hi:i<rs.length) (k:Nat),k<5->(EY rs)[i*5+k]?=(ID rs[i].1 rs[i].2)[k]?
 |r::rs,0,_,k,hk=>by rw[EY,Nat.zero_mul,OD,bi (by show _<5;exact hk),Array.getElem?_toList];rfl
 |r::rs,i+1,hi,k,hk=>by rw[EY,aX (by show 5<=_;omega),show(ID r.1 r.2).toList.length=5 from rfl,show(i+1)*5+k-5=i*5+k from U,RZ rs i U5 k hk];rfl
theorem Ra(fs:List (FD×Nat)): ∀Y3∈EY fs,Y3.oneCell'=EI:=by
 induction fs with
 |nil=>intro Y3 hu;cases hu
 |cons r rs ih=>
  intro Y3 hu;rcases XM.1 hu with h|h;·simp only[ID,UJ,UA,or_false] at h;rcases h with rfl|rfl|rfl|rfl|rfl<;>rfl
  ·exact ih Y3 h
def Jy(w:H)(base gm:Nat)(fs:List (FD×Nat)):Prop:= ∀i (h:i<fs.length),base<=fs[i].2/\ZI w fs[i].1 gm fs[i].2
theorem Jy.V(h:Jy w base gm fs)(hb:El w w'):Jy w' base gm fs:=fun i hi=>⟨(h i hi).1,(h i hi).2.V hb⟩
def Xq(w:H)(base gl gm:Nat)(fs:List (FD×Nat)):Prop:=base<=gl/\(∀j Y3,(EY fs)[j]?=Z Y3->w.cell? ⟨gl,j,X⟩=Z Y3)/\Jy w base gm fs
theorem Xq.V(h:Xq w base gl gm fs)(hb:El w w'):Xq w' base gl gm fs:=
 ⟨h.1,fun j Y3 hu=>by rw[hb.cell (Xv _ _ (h.2.1 j Y3 hu))];exact h.2.1 j Y3 hu,h.2.2.V hb⟩
theorem Xq.keep(h:Xq w base gl gm fs)(hg:gm<base)(hk: ∀k,k≠gm->w'.heap[k]?=w.heap[k]?):Xq w' base gl gm fs:=
 ⟨h.1,fun j Y3 hu=>by rw[World.cell?_of_block (w:=w) (hk gl (by have:=h.1;omega))];exact h.2.1 j Y3 hu,fun i hi=>⟨(h.2.2 i hi).1,(hk _ (by have:=(h.2.2 i hi).1;omega)).trans (h.2.2 i hi).2⟩⟩
theorem Xq.cells(h:Xq w base gl gm fs)(i:Nat)(hi:i<fs.length)(j:Nat)(hj:j<5):w.cell? ⟨gl,i*5+j,X⟩=(ID fs[i].1 fs[i].2)[j]?:=by have h1:=RZ fs i hi j hj;have h2:(ID fs[i].1 fs[i].2)[j]?=Z ((ID fs[i].1 fs[i].2)[j]'(by show _<5;exact hj)):=j7 _;rw[h2];exact h.2.1 _ _ (h1.trans h2)
theorem af(hk:D w gl (EY fs).toArray T)(hb:Jy w base gm fs)(hg:base<=gl):Xq w base gl gm fs:=
 ⟨hg,fun j Y3 hu=>by rw[hk.cell j,OE];exact hu,hb⟩
def XU:FD:=⟨0,1,0,3,2⟩
def Ih:FD:=⟨0,4,0,4294967295,1⟩
def di:FD:=⟨1,1,0,1,7⟩
def Ja:FD:=⟨0,1,0,4,3⟩
def IQ:FD:=⟨0,2,0,65535,4⟩
def cE:FD:=⟨0,1,0,4,5⟩
def dj:FD:=⟨0,1,1,3,6⟩
def JC(i:Nat):FD:=⟨0,2,-32768,32767,8+i⟩
def ag(k:Int):Option (List FD):=
 if k=1\/k=2 then Z [XU] else if k=3\/k=4\/k=8\/k=9 then Z [Ih] else if k=5 then Z [Ih,di] else if k=6 then Z [Ih,Ja]
 else if k=7 then Z [Ih,IQ] else if k=10 then Z [Ih,IQ,cE] else if k=11 then Z [Ih,IQ,dj,JC 0,JC 1,JC 2,JC 3] else X
def ZU(w:H)(gm:Nat)(ds:List FD)(e:Uh)(w':H):Prop:=
 ∃(gl cp:Nat) (fs:List (FD×Nat)),e=Eg (Et #[G (Z ⟨gl,0,X⟩) ds.length cp,EU EI])/\fs.map (·.1)=ds/\Xq w' w.heap.size gl gm fs/\El w w'
theorem EXl(gm:Nat)(l:List Int)(w:H)(hm:D w gm (ED l) 183)(hk:l.getD 0 0=1): Ef Eb 160 #[M (Z ⟨gm,0,X⟩)] w (ZU w gm [XU]):=by exact Elt
theorem EXm(gm:Nat)(l:List Int)(w:H)(hm:D w gm (ED l) 183)(hk:l.getD 0 0=2): Ef Eb 160 #[M (Z ⟨gm,0,X⟩)] w (ZU w gm [XU]):=by exact Elt
theorem EXn(gm:Nat)(l:List Int)(w:H)(hm:D w gm (ED l) 183)(hk:l.getD 0 0=3): Ef Eb 160 #[M (Z ⟨gm,0,X⟩)] w (ZU w gm [Ih]):=by exact Epb
theorem EXo(gm:Nat)(l:List Int)(w:H)(hm:D w gm (ED l) 183)(hk:l.getD 0 0=4): Ef Eb 160 #[M (Z ⟨gm,0,X⟩)] w (ZU w gm [Ih]):=by exact Epb
theorem EXp(gm:Nat)(l:List Int)(w:H)(hm:D w gm (ED l) 183)(hk:l.getD 0 0=8): Ef Eb 160 #[M (Z ⟨gm,0,X⟩)] w (ZU w gm [Ih]):=by exact Epb
theorem EXq(gm:Nat)(l:List Int)(w:H)(hm:D w gm (ED l) 183)(hk:l.getD 0 0=9): Ef Eb 160 #[M (Z ⟨gm,0,X⟩)] w (ZU w gm [Ih]):=by exact Epb
theorem AU(d:FD):d.box≠298:=by
 unfold FD.box;repeat' split
 all_goals decide
theorem Rb:(Tryz.prog.info? 298).map (fun i=>(i.zero,i.size,i.bytes))=Z (Z (EZ Jx),5,40):=Ed
theorem GA(g j:Nat):(⟨g,0,X⟩:Eu).add j=⟨g,j,X⟩:=Xw
def mY(w:H)(base gl gm cap:Nat)(fs:List (FD×Nat)):Prop:=base<=gl/\w.ownsRow base 298 5 (G (Z ⟨gl,0,X⟩) fs.length cap) fs.length (EY fs)/\Jy w base gm fs
theorem mY.GB(h:mY w base gl gm cap fs):Xq w base gl gm fs:=
 ⟨h.1,fun j Y3 hu=>by have:=h.2.1.cells (g:=gl) O j Y3 hu;rwa [GA] at this,h.2.2⟩
theorem mY.V(h:mY w base gl gm cap fs)(hb:El w w'):mY w' base gl gm cap fs:=
 ⟨h.1,mA (uZ (b0:=0) (T:=298) (N:=0) (ys:=[]) hb) h.2.1 fun j _ hj hlt=>absurd hj Rc,h.2.2.V hb⟩
theorem EXr{n:Nat}(hk:D w gl (EY fs).toArray 298)(hb:Jy w base gm fs)(hg:base<=gl)(hn:n=fs.length)(hs:n<=1000):mY w base gl gm n fs:=
 ⟨hg,⟨uy fs,.inr ⟨gl,n,_,O,hg,hk,U,Ot,by rw[List.size_toArray,uy,hn],by rw[List.toList_toArray,OY (by rw[uy];omega)]⟩⟩,hb⟩
theorem AX(w:H)(base gl gm cap:Nat)(fs:List (FD×Nat))(n:Nat)(hn:fs.length=n)(h:mY w base gl gm cap fs)(d:FD)(gb g1 c1:Nat)(hgb:base<=gb)(hbx:ZI w d gm gb)(hk:D w g1 (EY [(d,gb)]).toArray 298)(hs:n<=1000)(hbase:base<=w.heap.size)(ty:EB): ∃Rd cap' w',(bv #[254,254] ty #[G (Z ⟨gl,0,X⟩) n cap,G (Z ⟨g1,0,X⟩) 1 c1]).run Eb w= .ok (G (Z ⟨Rd,0,X⟩) (n+1) cap') w'/\mY w' base Rd gm cap' (fs++[(d,gb)])/\Ik base w w':=by
 subst hn;obtain⟨i0,hi,hz0,hz1,hz2⟩:=bz Rb
 obtain⟨A',cap',w',hrun,h2,h3,h4,-⟩:=dX (P:=Eb) w base base 254 ty 298 i0 _ 5 40 Tryz.underlying254 hi hz0 hz1 hz2 O (Z ⟨gl,0,X⟩) cap fs.length _ h.2.1 ⟨g1,0,X⟩ 1 c1 (EY [(d,gb)]) (uy _)
  (fun j Y3 hu=>Rf) (Ra _) (fun h=>XE) Ot U hbase (E7 _)
 rw[<-RU] at h2;rcases h2.2 with⟨hv,h1⟩|⟨g,cp,cur,hv,hbg,-⟩;·omega
 ·injection hv with e1 e2 e3;subst e1;refine⟨g,cap',w',hrun,⟨hbg,Rg,fun i hi=> ?_⟩,h3.2.1 hbase⟩;rcases JY i fs.length with hlt|hge;·rw[List.getElem_append_left hlt];exact⟨(h.2.2 i hlt).1,X1 h3 (h.2.2 i hlt).2 (AU _)⟩
  ·exact Em0
def AZ(base gm:Nat)(i:Nat)(v:Y)(w:H):Prop:=match i with
 |0=>v=M (Z ⟨gm,0,X⟩)
 |1=>v=M (Z ⟨gm,0,X⟩)
 |2=>v=M (Z ⟨gm,1,X⟩)
 |3=>FV w base gm Ih v
 |4=>v=M (Z ⟨gm,0,X⟩)
 |5=>v=M (Z ⟨gm,0,X⟩)
 |6=>v=M (Z ⟨gm,7,X⟩)
 |7=>FV w base gm di v
 |8=> ∃(gl:Nat) (fs:List (FD×Nat)),v=G (Z ⟨gl,0,X⟩) 2 2/\fs.map (·.1)=[Ih,di]/\base<=gl/\Jy w base gm fs/\D w gl (EY fs).toArray 298
 |9=> ∃(gl:Nat) (fs:List (FD×Nat)),v=G (Z ⟨gl,0,X⟩) 2 2/\fs.map (·.1)=[Ih,di]/\base<=gl/\Jy w base gm fs/\D w gl (EY fs).toArray 298
 |_=>v=EU EI
theorem EXs(base gm:Nat): ∀i v w w',i<11->AZ base gm i v w->J0 w w'->AZ base gm i v w':=by
 intro i v w w' hi h hb;unfold AZ at*;split at h;case h_4|h_8=>exact h.V hb
 case h_9|h_10=> exact Elv
 all_goals exact h
theorem EXt(gm:Nat)(l:List Int)(w:H)(hm:D w gm (ED l) 183)(hk:l.getD 0 0=5): Ef Eb 160 #[M (Z ⟨gm,0,X⟩)] w (ZU w gm [Ih,di]):=by
 have c0:=hm.cell 0;rw[Zh _ _ U,if_neg U,hk] at c0;have u:=J<|E9 w.heap.size w;clear hm hk;go_enter iO,iU;go_wp2_with fail;clear c0;refine ZB EF Ed 11 Ed Eh Ea (AZ w.heap.size gm) (EXs _ _) ?_ ?_
 ·simp only[Xl,Iq,Io,EH,Ig,Ii,Ia,Ib,and_true];refine⟨?_,?_,?_,?_,?_,?_,?_,?_,?_,?_,?_⟩;all_goals intro v w' hb hd
  ·exact Elo
  ·exact ElG
  ·exact ElF
  ·exact Elg
  ·exact Elo
  ·exact ElD
  ·exact ElC
  ·have d6:v 6=M (Z ⟨gm,7,X⟩):=hd.at 6 rfl;refine JL (f:=204) (args:= #[v 6]) (Ei O) Ex ?_;rw[d6];exact(EXk gm 7 w').mono fun e w'' ⟨v,he,⟨gb,e2,lb,kb⟩,hb'⟩=>⟨v,he,hb',gb,e2,Ez (Ez u.out.size hb.size) lb,kb⟩
  ·obtain⟨g0,d3,l0,k0⟩:FV w' w.heap.size gm Ih (v 3):=hd.at 3 rfl;obtain⟨g1,d7,l1,k1⟩:FV w' w.heap.size gm di (v 7):=hd.at 7 rfl;refine aU (w':=w'.alloc (EJ (EY [(Ih,g0),(di,g1)]).toArray 298)) (v:=G (Z ⟨w'.heap.size,0,X⟩) 2 2) (Ei O) pO (Er w' _) ⟨w'.heap.size,[(Ih,g0),(di,g1)],O,O,Ez u.out.size hb.size,fun i hi=> ?_,D.new _ _ _⟩;match i,hi with
   |0,_=>exact⟨l0,D.alloc k0 _⟩
   |1,_=>exact⟨l1,D.alloc k1 _⟩
  ·obtain⟨gl,fs,e,m,lg,bx,kk⟩: ∃(gl:Nat) (fs:List (FD×Nat)),v 8=G (Z ⟨gl,0,X⟩) 2 2/\fs.map (·.1)=[Ih,di]/\w.heap.size<=gl/\Jy w' w.heap.size gm fs/\D w' gl (EY fs).toArray 298:=hd.at 8 rfl;exact El2
  ·exact Elo
 ·intro v w' hb hr;obtain⟨gl,fs,e,m,lg,bx,kk⟩: ∃(gl:Nat) (fs:List (FD×Nat)),v 9=G (Z ⟨gl,0,X⟩) 2 2/\fs.map (·.1)=[Ih,di]/\w.heap.size<=gl/\Jy w' w.heap.size gm fs/\D w' gl (EY fs).toArray 298:=hr 9 U;exact Epj
def Aa(base gm:Nat)(i:Nat)(v:Y)(w:H):Prop:=match i with
 |0=>v=M (Z ⟨gm,0,X⟩)
 |1=>v=M (Z ⟨gm,0,X⟩)
 |2=>v=M (Z ⟨gm,1,X⟩)
 |3=>FV w base gm Ih v
 |4=>v=M (Z ⟨gm,0,X⟩)
 |5=>v=M (Z ⟨gm,0,X⟩)
 |6=>v=M (Z ⟨gm,3,X⟩)
 |7=>FV w base gm Ja v
 |8=> ∃(gl:Nat) (fs:List (FD×Nat)),v=G (Z ⟨gl,0,X⟩) 2 2/\fs.map (·.1)=[Ih,Ja]/\base<=gl/\Jy w base gm fs/\D w gl (EY fs).toArray 298
 |9=> ∃(gl:Nat) (fs:List (FD×Nat)),v=G (Z ⟨gl,0,X⟩) 2 2/\fs.map (·.1)=[Ih,Ja]/\base<=gl/\Jy w base gm fs/\D w gl (EY fs).toArray 298
 |_=>v=EU EI
theorem EXu(base gm:Nat): ∀i v w w',i<11->Aa base gm i v w->J0 w w'->Aa base gm i v w':=by
 intro i v w w' hi h hb;unfold Aa at*;split at h;case h_4|h_8=>exact h.V hb
 case h_9|h_10=> exact Elv
 all_goals exact h
theorem EXv(gm:Nat)(l:List Int)(w:H)(hm:D w gm (ED l) 183)(hk:l.getD 0 0=6): Ef Eb 160 #[M (Z ⟨gm,0,X⟩)] w (ZU w gm [Ih,Ja]):=by
 have c0:=hm.cell 0;rw[Zh _ _ U,if_neg U,hk] at c0;have u:=J<|E9 w.heap.size w;clear hm hk;go_enter iO,iU;go_wp2_with fail;clear c0;refine ZB EF Ed 11 Ed Eh Ea (Aa w.heap.size gm) (EXu _ _) ?_ ?_
 ·simp only[Xl,Iq,Io,EH,Ig,Ii,Ia,Ib,and_true];refine⟨?_,?_,?_,?_,?_,?_,?_,?_,?_,?_,?_⟩;all_goals intro v w' hb hd
  ·exact Elo
  ·exact ElG
  ·exact ElF
  ·exact Elg
  ·exact Elo
  ·exact ElD
  ·exact ElC
  ·exact Epn
  ·obtain⟨g0,d3,l0,k0⟩:FV w' w.heap.size gm Ih (v 3):=hd.at 3 rfl;obtain⟨g1,d7,l1,k1⟩:FV w' w.heap.size gm Ja (v 7):=hd.at 7 rfl;refine aU (w':=w'.alloc (EJ (EY [(Ih,g0),(Ja,g1)]).toArray 298)) (v:=G (Z ⟨w'.heap.size,0,X⟩) 2 2) (Ei O) pO (Er w' _) ⟨w'.heap.size,[(Ih,g0),(Ja,g1)],O,O,Ez u.out.size hb.size,fun i hi=> ?_,D.new _ _ _⟩;match i,hi with
   |0,_=>exact⟨l0,D.alloc k0 _⟩
   |1,_=>exact⟨l1,D.alloc k1 _⟩
  ·obtain⟨gl,fs,e,m,lg,bx,kk⟩: ∃(gl:Nat) (fs:List (FD×Nat)),v 8=G (Z ⟨gl,0,X⟩) 2 2/\fs.map (·.1)=[Ih,Ja]/\w.heap.size<=gl/\Jy w' w.heap.size gm fs/\D w' gl (EY fs).toArray 298:=hd.at 8 rfl;exact El2
  ·exact Elo
 ·intro v w' hb hr;obtain⟨gl,fs,e,m,lg,bx,kk⟩: ∃(gl:Nat) (fs:List (FD×Nat)),v 9=G (Z ⟨gl,0,X⟩) 2 2/\fs.map (·.1)=[Ih,Ja]/\w.heap.size<=gl/\Jy w' w.heap.size gm fs/\D w' gl (EY fs).toArray 298:=hr 9 U;exact Epj
def Ac(base gm:Nat)(i:Nat)(v:Y)(w:H):Prop:=match i with
 |0=>v=M (Z ⟨gm,0,X⟩)
 |1=>v=M (Z ⟨gm,0,X⟩)
 |2=>v=M (Z ⟨gm,1,X⟩)
 |3=>FV w base gm Ih v
 |4=>v=M (Z ⟨gm,0,X⟩)
 |5=>v=M (Z ⟨gm,0,X⟩)
 |6=>v=M (Z ⟨gm,4,X⟩)
 |7=>FV w base gm IQ v
 |8=> ∃(gl:Nat) (fs:List (FD×Nat)),v=G (Z ⟨gl,0,X⟩) 2 2/\fs.map (·.1)=[Ih,IQ]/\base<=gl/\Jy w base gm fs/\D w gl (EY fs).toArray 298
 |9=> ∃(gl:Nat) (fs:List (FD×Nat)),v=G (Z ⟨gl,0,X⟩) 2 2/\fs.map (·.1)=[Ih,IQ]/\base<=gl/\Jy w base gm fs/\D w gl (EY fs).toArray 298
 |_=>v=EU EI
theorem EXw(base gm:Nat): ∀i v w w',i<11->Ac base gm i v w->J0 w w'->Ac base gm i v w':=by
 intro i v w w' hi h hb;unfold Ac at*;split at h;case h_4|h_8=>exact h.V hb
 case h_9|h_10=> exact Elv
 all_goals exact h
theorem EXx(gm:Nat)(l:List Int)(w:H)(hm:D w gm (ED l) 183)(hk:l.getD 0 0=7): Ef Eb 160 #[M (Z ⟨gm,0,X⟩)] w (ZU w gm [Ih,IQ]):=by
 have c0:=hm.cell 0;rw[Zh _ _ U,if_neg U,hk] at c0;have u:=J<|E9 w.heap.size w;clear hm hk;go_enter iO,iU;go_wp2_with fail;clear c0;refine ZB EF Ed 11 Ed Eh Ea (Ac w.heap.size gm) (EXw _ _) ?_ ?_
 ·simp only[Xl,Iq,Io,EH,Ig,Ii,Ia,Ib,and_true];refine⟨?_,?_,?_,?_,?_,?_,?_,?_,?_,?_,?_⟩;all_goals intro v w' hb hd
  ·exact Elo
  ·exact ElG
  ·exact ElF
  ·exact Elg
  ·exact Elo
  ·exact ElD
  ·exact ElC
  ·exact Elj
  ·obtain⟨g0,d3,l0,k0⟩:FV w' w.heap.size gm Ih (v 3):=hd.at 3 rfl;obtain⟨g1,d7,l1,k1⟩:FV w' w.heap.size gm IQ (v 7):=hd.at 7 rfl;refine aU (w':=w'.alloc (EJ (EY [(Ih,g0),(IQ,g1)]).toArray 298)) (v:=G (Z ⟨w'.heap.size,0,X⟩) 2 2) (Ei O) pO (Er w' _) ⟨w'.heap.size,[(Ih,g0),(IQ,g1)],O,O,Ez u.out.size hb.size,fun i hi=> ?_,D.new _ _ _⟩;match i,hi with
   |0,_=>exact⟨l0,D.alloc k0 _⟩
   |1,_=>exact⟨l1,D.alloc k1 _⟩
  ·obtain⟨gl,fs,e,m,lg,bx,kk⟩: ∃(gl:Nat) (fs:List (FD×Nat)),v 8=G (Z ⟨gl,0,X⟩) 2 2/\fs.map (·.1)=[Ih,IQ]/\w.heap.size<=gl/\Jy w' w.heap.size gm fs/\D w' gl (EY fs).toArray 298:=hd.at 8 rfl;exact El2
  ·exact Elo
 ·intro v w' hb hr;obtain⟨gl,fs,e,m,lg,bx,kk⟩: ∃(gl:Nat) (fs:List (FD×Nat)),v 9=G (Z ⟨gl,0,X⟩) 2 2/\fs.map (·.1)=[Ih,IQ]/\w.heap.size<=gl/\Jy w' w.heap.size gm fs/\D w' gl (EY fs).toArray 298:=hr 9 U;exact Epj
def Ad(base gm:Nat)(i:Nat)(v:Y)(w:H):Prop:=match i with
 |0=>v=M (Z ⟨gm,0,X⟩)
 |1=>v=M (Z ⟨gm,0,X⟩)
 |2=>v=M (Z ⟨gm,1,X⟩)
 |3=>FV w base gm Ih v
 |4=>v=M (Z ⟨gm,0,X⟩)
 |5=>v=M (Z ⟨gm,0,X⟩)
 |6=>v=M (Z ⟨gm,4,X⟩)
 |7=>FV w base gm IQ v
 |8=>v=M (Z ⟨gm,0,X⟩)
 |9=>v=M (Z ⟨gm,0,X⟩)
 |10=>v=M (Z ⟨gm,5,X⟩)
 |11=>FV w base gm cE v
 |12=> ∃(gl:Nat) (fs:List (FD×Nat)),v=G (Z ⟨gl,0,X⟩) 3 3/\fs.map (·.1)=[Ih,IQ,cE]/\base<=gl/\Jy w base gm fs/\D w gl (EY fs).toArray 298
 |13=> ∃(gl:Nat) (fs:List (FD×Nat)),v=G (Z ⟨gl,0,X⟩) 3 3/\fs.map (·.1)=[Ih,IQ,cE]/\base<=gl/\Jy w base gm fs/\D w gl (EY fs).toArray 298
 |_=>v=EU EI
theorem EXy(base gm:Nat): ∀i v w w',i<15->Ad base gm i v w->J0 w w'->Ad base gm i v w':=by
 intro i v w w' hi h hb;unfold Ad at*;split at h;case h_4|h_8|h_12=>exact h.V hb
 case h_13|h_14=> exact Elv
 all_goals exact h
theorem EXz(gm:Nat)(l:List Int)(w:H)(hm:D w gm (ED l) 183)(hk:l.getD 0 0=10): Ef Eb 160 #[M (Z ⟨gm,0,X⟩)] w (ZU w gm [Ih,IQ,cE]):=by
 have c0:=hm.cell 0;rw[Zh _ _ U,if_neg U,hk] at c0;have u:=J<|E9 w.heap.size w;clear hm hk;go_enter iO,iU;go_wp2_with fail;clear c0;refine ZB EF Ed 15 Ed Eh Ea (Ad w.heap.size gm) (EXy _ _) ?_ ?_
 ·simp only[Xl,Iq,Io,EH,Ig,Ii,Ia,Ib,and_true];refine⟨?_,?_,?_,?_,?_,?_,?_,?_,?_,?_,?_,?_,?_,?_,?_⟩;all_goals intro v w' hb hd
  ·exact Elo
  ·exact ElG
  ·exact ElF
  ·exact Elg
  ·exact Elo
  ·exact ElD
  ·exact ElC
  ·exact Elj
  ·exact Elo
  ·exact Eni
  ·exact Enh
  ·have d10:v 10=M (Z ⟨gm,5,X⟩):=hd.at 10 rfl;refine JL (f:=207) (args:= #[v 10,E I 1,E I 0,E I 4]) (Ei O) Ex ?_;rw[d10];exact(oF cE O gm w').mono fun e w'' ⟨v,he,⟨gb,e2,lb,kb⟩,hb'⟩=>⟨v,he,hb',gb,e2,Ez (Ez u.out.size hb.size) lb,kb⟩
  ·obtain⟨g0,d3,l0,k0⟩:FV w' w.heap.size gm Ih (v 3):=hd.at 3 rfl;obtain⟨g1,d7,l1,k1⟩:FV w' w.heap.size gm IQ (v 7):=hd.at 7 rfl;obtain⟨g2,d11,l2,k2⟩:FV w' w.heap.size gm cE (v 11):=hd.at 11 rfl;refine aU (w':=w'.alloc (EJ (EY [(Ih,g0),(IQ,g1),(cE,g2)]).toArray 298)) (v:=G (Z ⟨w'.heap.size,0,X⟩) 3 3) (Ei O) GC (Er w' _) ⟨w'.heap.size,[(Ih,g0),(IQ,g1),(cE,g2)],O,O,Ez u.out.size hb.size,fun i hi=> ?_,D.new _ _ _⟩;match i,hi with
   |0,_=>exact⟨l0,D.alloc k0 _⟩
   |1,_=>exact⟨l1,D.alloc k1 _⟩
   |2,_=>exact⟨l2,D.alloc k2 _⟩
  ·obtain⟨gl,fs,e,m,lg,bx,kk⟩: ∃(gl:Nat) (fs:List (FD×Nat)),v 12=G (Z ⟨gl,0,X⟩) 3 3/\fs.map (·.1)=[Ih,IQ,cE]/\w.heap.size<=gl/\Jy w' w.heap.size gm fs/\D w' gl (EY fs).toArray 298:=hd.at 12 rfl;exact El2
  ·exact Elo
 ·intro v w' hb hr;obtain⟨gl,fs,e,m,lg,bx,kk⟩: ∃(gl:Nat) (fs:List (FD×Nat)),v 13=G (Z ⟨gl,0,X⟩) 3 3/\fs.map (·.1)=[Ih,IQ,cE]/\w.heap.size<=gl/\Jy w' w.heap.size gm fs/\D w' gl (EY fs).toArray 298:=hr 13 U;have dt:v 14=EU EI:=hr 14 U;exact Ela
def Af(base gm:Nat)(i:Nat)(v:Y)(w:H):Prop:=match i with
 |0=>v=M (Z ⟨gm,0,X⟩)
 |1=>v=M (Z ⟨gm,0,X⟩)
 |2=>v=M (Z ⟨gm,1,X⟩)
 |3=>FV w base gm Ih v
 |4=>v=M (Z ⟨gm,0,X⟩)
 |5=>v=M (Z ⟨gm,0,X⟩)
 |6=>v=M (Z ⟨gm,4,X⟩)
 |7=>FV w base gm IQ v
 |8=>v=M (Z ⟨gm,0,X⟩)
 |9=>v=M (Z ⟨gm,0,X⟩)
 |10=>v=M (Z ⟨gm,6,X⟩)
 |11=>FV w base gm dj v
 |_=> ∃(gl:Nat) (fs:List (FD×Nat)),v=G (Z ⟨gl,0,X⟩) 3 3/\fs.map (·.1)=[Ih,IQ,dj]/\base<=gl/\Jy w base gm fs/\D w gl (EY fs).toArray 298
theorem EXC(base gm:Nat): ∀i v w w',i<14->Af base gm i v w->J0 w w'->Af base gm i v w':=by
 intro i v w w' hi h hb;unfold Af at*;split at h;case h_4|h_8|h_12=>exact h.V hb
 case h_13=> exact Elv
 all_goals exact h
theorem EXD(gm:Nat)(l:List Int)(w:H)(hm:D w gm (ED l) 183)(hk:l.getD 0 0=11): Ef Eb 160 #[M (Z ⟨gm,0,X⟩)] w (ZU w gm [Ih,IQ,dj,JC 0,JC 1,JC 2,JC 3]):=by
 have c0:=hm.cell 0;rw[Zh _ _ U,if_neg U,hk] at c0;have u:=J<|E9 w.heap.size w;clear hm hk;go_enter iO,iU;go_wp2_with fail;clear c0;refine ZB EF Ed 14 Ed Eh Ea (Af w.heap.size gm) (EXC _ _) ?_ ?_
 ·simp only[Xl,Iq,Io,EH,Ig,Ii,Ia,Ib,and_true];refine⟨?_,?_,?_,?_,?_,?_,?_,?_,?_,?_,?_,?_,?_,?_⟩;all_goals intro v w' hb hd
  ·exact Elo
  ·exact ElG
  ·exact ElF
  ·exact Elg
  ·exact Elo
  ·exact ElD
  ·exact ElC
  ·exact Elj
  ·exact Elo
  ·exact Eni
  ·exact Enh
  ·have d10:v 10=M (Z ⟨gm,6,X⟩):=hd.at 10 rfl;refine JL (f:=207) (args:= #[v 10,E I 1,E I 1,E I 3]) (Ei O) Ex ?_;rw[d10];exact(oF dj O gm w').mono fun e w'' ⟨v,he,⟨gb,e2,lb,kb⟩,hb'⟩=>⟨v,he,hb',gb,e2,Ez (Ez u.out.size hb.size) lb,kb⟩
  ·obtain⟨g0,d3,l0,k0⟩:FV w' w.heap.size gm Ih (v 3):=hd.at 3 rfl;obtain⟨g1,d7,l1,k1⟩:FV w' w.heap.size gm IQ (v 7):=hd.at 7 rfl;obtain⟨g2,d11,l2,k2⟩:FV w' w.heap.size gm dj (v 11):=hd.at 11 rfl;refine aU (w':=w'.alloc (EJ (EY [(Ih,g0),(IQ,g1),(dj,g2)]).toArray 298)) (v:=G (Z ⟨w'.heap.size,0,X⟩) 3 3) (Ei O) GC (Er w' _) ⟨w'.heap.size,[(Ih,g0),(IQ,g1),(dj,g2)],O,O,Ez u.out.size hb.size,fun i hi=> ?_,D.new _ _ _⟩;match i,hi with
   |0,_=>exact⟨l0,D.alloc k0 _⟩
   |1,_=>exact⟨l1,D.alloc k1 _⟩
   |2,_=>exact⟨l2,D.alloc k2 _⟩
  ·obtain⟨gl,fs,e,m,lg,bx,kk⟩: ∃(gl:Nat) (fs:List (FD×Nat)),v 12=G (Z ⟨gl,0,X⟩) 3 3/\fs.map (·.1)=[Ih,IQ,dj]/\w.heap.size<=gl/\Jy w' w.heap.size gm fs/\D w' gl (EY fs).toArray 298:=hd.at 12 rfl;exact El2
 ·intro v w' hb hr;obtain⟨gl,fs,e,m,lg,bx,kk⟩: ∃(gl:Nat) (fs:List (FD×Nat)),v 13=G (Z ⟨gl,0,X⟩) 3 3/\fs.map (·.1)=[Ih,IQ,dj]/\w.heap.size<=gl/\Jy w' w.heap.size gm fs/\D w' gl (EY fs).toArray 298:=hr 13 U;simp only[Iq,Io,IP,IH,EH,Ig,Ii,Ia,Ib];rw[e];have ln:fs.length=3:=by have:=congrArg List.length m;simpa using this
  have K0:=J<|EXr kk bx lg ln.symm U;have FB:=ET u hb;replace m:=J m;clear hr hb e kk bx;go_wp2_with fail;refine Ud 5 ?_;rw[Ij];go_wp2_with fail;refine(AJ gm 8 _).mono ?_;rintro e x0 ⟨v0,rfl,⟨cI,rfl,lb0,uz⟩,b0⟩;have GD:=FB.out.size;replace K0:=J<|(K0.out.V b0).V (Er x0 (EJ (EY [(JC 0,cI)]).toArray 298));have HA:=J<|D.new x0 (EY [(JC 0,cI)]).toArray 298;have HB0:=J<|D.alloc uz (EJ (EY [(JC 0,cI)]).toArray 298);replace FB:=J<|bt (bt FB.out b0) (Er x0 (EJ (EY [(JC 0,cI)]).toArray 298));clear b0 uz;unfold ID;go_wp2_with (with_reducible refine I7 102 ?_);apply Eo;change Ic _ _ _ _ _ (x0.alloc (EJ (EY [(JC 0,cI)]).toArray 298));have hz0:w.heap.size<=(x0.alloc (EJ (EY [(JC 0,cI)]).toArray 298)).heap.size:=FB.out.size;obtain⟨gl0,cp0,y0,hrun,k,b⟩:=AX _ w.heap.size _ gm _ _ 3 (by simp[ln]) K0.out (JC 0) cI x0.heap.size 1 U HB0.out HA.out U hz0 254;(with_reducible refine Jr ?_ (Ua (s:= .tmp 94) (y:= .tmp 101) ?_ ?_ ?_ hrun) ?_);·exact Ei O
  ·rfl
  ·rfl
  ·rfl
  have K1:=J k;replace FB:=J<|FB.out.trans b;clear k b hrun HA HB0 K0 hz0 GD;go_wp2_with fail;rw[Ij];go_wp2_with fail;refine(AJ gm 9 _).mono ?_;rintro e x1 ⟨v1,rfl,⟨cJ,rfl,lb1,uA⟩,b1⟩;have GF:=FB.out.size;replace K1:=J<|(K1.out.V b1).V (Er x1 (EJ (EY [(JC 1,cJ)]).toArray 298));have HA:=J<|D.new x1 (EY [(JC 1,cJ)]).toArray 298;have HB1:=J<|D.alloc uA (EJ (EY [(JC 1,cJ)]).toArray 298);replace FB:=J<|bt (bt FB.out b1) (Er x1 (EJ (EY [(JC 1,cJ)]).toArray 298));clear b1 uA;unfold ID;go_wp2_with (with_reducible refine I7 102 ?_);apply Eo;change Ic _ _ _ _ _ (x1.alloc (EJ (EY [(JC 1,cJ)]).toArray 298));have hz1:w.heap.size<=(x1.alloc (EJ (EY [(JC 1,cJ)]).toArray 298)).heap.size:=FB.out.size;obtain⟨gl1,cp1,y1,hrun,k,b⟩:=AX _ w.heap.size _ gm _ _ 4 (by simp[ln]) K1.out (JC 1) cJ x1.heap.size 1 U HB1.out HA.out U hz1 254;(with_reducible refine Jr ?_ (Ua (s:= .tmp 94) (y:= .tmp 101) ?_ ?_ ?_ hrun) ?_);·exact Ei O
  ·rfl
  ·rfl
  ·rfl
  have K2:=J k;replace FB:=J<|FB.out.trans b;clear k b hrun HA HB1 K1 hz1 GF;go_wp2_with fail;rw[Ij];go_wp2_with fail;refine(AJ gm 10 _).mono ?_;rintro e x2 ⟨v2,rfl,⟨cU,rfl,lb2,m0⟩,b2⟩;have GG:=FB.out.size;replace K2:=J<|(K2.out.V b2).V (Er x2 (EJ (EY [(JC 2,cU)]).toArray 298));have HA:=J<|D.new x2 (EY [(JC 2,cU)]).toArray 298;have HB2:=J<|D.alloc m0 (EJ (EY [(JC 2,cU)]).toArray 298);replace FB:=J<|bt (bt FB.out b2) (Er x2 (EJ (EY [(JC 2,cU)]).toArray 298));clear b2 m0;unfold ID;go_wp2_with (with_reducible refine I7 102 ?_);apply Eo;change Ic _ _ _ _ _ (x2.alloc (EJ (EY [(JC 2,cU)]).toArray 298));have hz2:w.heap.size<=(x2.alloc (EJ (EY [(JC 2,cU)]).toArray 298)).heap.size:=FB.out.size;obtain⟨gl2,cp2,y2,hrun,k,b⟩:=AX _ w.heap.size _ gm _ _ 5 (by simp[ln]) K2.out (JC 2) cU x2.heap.size 1 U HB2.out HA.out U hz2 254;(with_reducible refine Jr ?_ (Ua (s:= .tmp 94) (y:= .tmp 101) ?_ ?_ ?_ hrun) ?_);·exact Ei O
  ·rfl
  ·rfl
  ·rfl
  have K3:=J k;replace FB:=J<|FB.out.trans b;clear k b hrun HA HB2 K2 hz2 GG;go_wp2_with fail;rw[Ij];go_wp2_with fail;refine(AJ gm 11 _).mono ?_;rintro e x3 ⟨v3,rfl,⟨cX,rfl,lb3,uB⟩,b3⟩;have GH:=FB.out.size;replace K3:=J<|(K3.out.V b3).V (Er x3 (EJ (EY [(JC 3,cX)]).toArray 298));have HA:=J<|D.new x3 (EY [(JC 3,cX)]).toArray 298;have HB3:=J<|D.alloc uB (EJ (EY [(JC 3,cX)]).toArray 298);replace FB:=J<|bt (bt FB.out b3) (Er x3 (EJ (EY [(JC 3,cX)]).toArray 298));clear b3 uB;unfold ID;go_wp2_with (with_reducible refine I7 102 ?_);apply Eo;change Ic _ _ _ _ _ (x3.alloc (EJ (EY [(JC 3,cX)]).toArray 298));have hz3:w.heap.size<=(x3.alloc (EJ (EY [(JC 3,cX)]).toArray 298)).heap.size:=FB.out.size;obtain⟨gl3,cp3,y3,hrun,k,b⟩:=AX _ w.heap.size _ gm _ _ 6 (by simp[ln]) K3.out (JC 3) cX x3.heap.size 1 U HB3.out HA.out U hz3 254;(with_reducible refine Jr ?_ (Ua (s:= .tmp 94) (y:= .tmp 101) ?_ ?_ ?_ hrun) ?_);·exact Ei O
  ·rfl
  ·rfl
  ·rfl
  have K4:=J k;replace FB:=J<|FB.out.trans b;clear k b hrun HA HB3 K3 hz3 GH;go_wp2_with fail;rw[Ij];go_wp2_with fail;go_ret2;exact⟨_,_,_,O,by simp[m.out],K4.out.GB,FB.out⟩
structure AF where
 (sz lo hi:Int)
 (Y5 S:Nat)
 gp:Y
 n:Int
def AF.cells(a:AF):Array Y:= #[E I a.sz,E I a.lo,E I a.hi,.func (.func a.Y5) #[] #[a.gp],.func (.func a.S) #[] #[a.gp]]
theorem AF.one(a:AF):a.cells.all (·.oneCell')=EI:=by simp[AF.cells,OF]
structure AF.ok(a:AF):Prop where
 neg:a.lo<0-> -32768<=a.lo/\a.hi<=32767
 pos:0<=a.lo->1<=a.sz/\a.sz<=7/\a.hi<256^a.sz.toNat
def jh(a:AF):Option (List Int):=if a.n<a.lo then X else if a.hi<a.n then X else if a.lo<0 then Z (be (a.n%65536) 2) else Z (be a.n a.sz.toNat)
def dl:List AF->Option (List Int)
 |[]=>Z []
 |a::l=>match jh a,dl l with
  |some x,Z y=>Z (x++y)
  |_,_=>X
theorem EXN(l:List AF)(a:AF)(x y:List Int)(h:dl l=Z x)(ha:jh a=Z y):dl (l++[a])=Z (x++y):=by
 induction l generalizing x with
 |nil=> simp only[dl,m_] at h;subst h;simp[dl,ha]
 |cons b l ih=>
  simp only[dl,List.cons_append] at h⊢;cases hb:jh b with
  |none=>rw[hb] at h;cases h
  |some Y3=>
   rw[hb] at h;cases hl:dl l with
   |none=>rw[hl] at h;cases h
   |some v=> rw[hl] at h;simp only[m_] at h;subst h;rw[ih v hl];simp
theorem EXP(l:List AF)(a:AF)(hm:a∈l)(ha:jh a=X):dl l=X:=by
 induction l with
 |nil=>cases hm
 |cons b l ih=>
  rcases UJ.1 hm with h|h;·subst h;simp[dl,ha]
  ·simp only[dl];rw[ih h];cases jh b<;>rfl
theorem EXQ(a:AF)(ok:a.ok)(bs:List Int)(h:jh a=Z bs):1<=bs.length/\bs.length<=7:=by
 unfold jh at h;split at h;·cases h
 split at h;·cases h
 split at h;·injection h with h;subst h;rw[O0];omega
 ·injection h with h;subst h;rw[O0];have:=ok.pos U;omega
def Rh(a:AF)(w:H)(e:Uh)(w':H):Prop:=
 (match jh a with
  |none=>e=Eg (Et #[G X 0 0,EU B])
  |some bs=> ∃g,e=Eg (Et #[G (Z ⟨g,0,X⟩) bs.length bs.length,EU EI])/\Row w' (Z ⟨g,0,X⟩) bs)/\El w w'
theorem EXR(a:AF)(ok:a.ok)(w:H)(HG:dY w a.Y5 a.gp a.n):Ef Eb 242 #[EZ a.cells] w (Rh a w):=by
 unfold Rh jh AF.cells;by_cases h1:a.n<a.lo;·simp only[if_pos h1];exact EJ_ _ _ _ _ _ _ _ w HG h1
 by_cases h2:a.hi<a.n;·simp only[if_neg h1,if_pos h2];exact EOE _ _ _ _ _ _ _ w HG U h2
 by_cases h3:a.lo<0;·simp only[if_neg h1,if_neg h2,if_pos h3,O0];have:=ok.neg h3;exact(EOI _ _ _ _ _ _ _ w HG U U h3 this.1 this.2).mono fun e w' ⟨g,he,hr,hb⟩=>⟨⟨g,he,hr⟩,hb⟩
 ·simp only[if_neg h1,if_neg h2,if_neg h3,O0];have hp:=ok.pos U;obtain⟨k,hk⟩: ∃k:Nat,a.sz=k:=⟨a.sz.toNat,U⟩;have hk7:k<=7:=U;have hn:a.n<256^k:=by have:=hp.2.2;rw[hk,mO] at this;omega
  rw[hk,mO];have hpw:(2:Int)^(8*k)=256^k:=by rw[Int.pow_mul];rfl
  have hh:a.hi<=9223372036854775807:=by
   have h4:=hp.2.2;rw[hk,mO] at h4;have h5:(256:Int)^k<=72057594037927936:=by exact Ens
   omega
  exact(EOJ _ _ _ _ _ _ w HG k U U U U (by rw[hpw];exact Int.ediv_eq_zero_of_lt U hn) hh).mono fun e w' ⟨g,he,hr,hb⟩=>⟨⟨g,he,hr⟩,hb⟩
theorem EXT(w:H)(k:Int)(h0:0<=k)(h1:k<=255):Own (w.alloc (EJ #[E IL k] 5)) w.heap.size (Z ⟨w.heap.size,0,X⟩) 1 [k]:=
 ⟨⟨O,.inr ⟨w.heap.size,1,_,O,E7 _,fz w _,Eh,Ot,O,O⟩⟩,fun x hx=>by simp at hx;omega⟩
def Ri(w:H)(gl:Nat)(fs:List AF):Prop:= ∀i (h:i<fs.length) j,j<5->w.cell? ⟨gl,i*5+j,X⟩=fs[i].cells[j]?
def GK(k:Int)(fs:List AF)(w:H)(e:Uh)(w':H):Prop:=
 (match dl fs with
  |none=>e=Eg (Et #[G X 0 0,EU B])
  |some ps=> ∃A c,e=Eg (Et #[G A (1+ps.length) c,EU EI])/\Own w' w.heap.size A c (k::ps))/\El w w'
theorem EXV(k:Int)(fs:List AF)(n gl cp:Nat)(hn:fs.length=n)(EjH:n<=100)(k0:0<=k)(k9:k<=255)(w:H)(hc: ∀W,El w W->Ri W gl fs)(hg: ∀a∈fs,a.ok/\dY w a.Y5 a.gp a.n): Ef Eb 213 #[E I k,G (Z ⟨gl,0,X⟩) n cp] w (GK k fs w):=by
 have HC:=J hc;have HG:=J hg;have HN:=J hn;clear hc hg hn;go_enter Tryz.func213,Tryz.ntmps213;go_wp2_with fail;have HO:=J<|EXT w k k0 k9;have u:=J<|Er w (EJ #[E IL k] 5);generalize w.alloc (EJ #[E IL k] 5)=w1 at*;go_loopw[6,16] (fun x y wr=> ∃(i:Nat) (A:Option Eu) (c m:Nat) (ps:List Int),i<=n/\y=E I i/\x=G A m c/\m=1+ps.length/\m<=1+7*i/\dl (fs.take i)=Z ps/\Own wr w.heap.size A c (k::ps)/\El w wr) (fun _ y _=>n-(Ir y).toNat);case atStart=>exact⟨0,_,1,1,[],U,O,O,O,U,O,HO.out,u.out⟩
 case round=>
  obtain⟨i,A,c,m,ps,hi,rfl,rfl,hm,XP,hps,ho,hbb⟩:=hrel;have l5:=hbb.size;have dZ:=J ho;have u:=J hbb;have Ag:=J hps;have HM:=J hm;clear ho hbb hps hm;by_cases hin:i<n
  ·have hil:i<fs.length:=GL;have hcell:=HC.out wr u.out i hil;have hmem:=HG.out _ (gY hil);have htk:fs.take (i+1)=fs.take i++[fs[i]'hil]:=by rw[nE,J5 hil];rfl
   have hin2:=gY hil;generalize fs[i]'hil=a at*;obtain⟨GM,Rj⟩:=hmem;have CB:=J<|fun W hW=>EXR a GM W (dY.V Rj hW);have OL:=J<|EXQ a GM;have HT:=J htk;have HI2:=J hin2;have hone:=J a.one;have hsz:Ec (a.cells.size=5):=J O;have hsp:Ec (a.cells= #[E I a.sz,E I a.lo,E I a.hi,.func (.func a.Y5) #[] #[a.gp],.func (.func a.S) #[] #[a.gp]]):=J O;have c0:=hcell 0 U;have c1:=hcell 1 U;have c2:=hcell 2 U;have c3:=hcell 3 U;have c4:=hcell 4 U;simp only[AF.cells,Nat.add_zero] at c0 c1 c2 c3 c4;clear hcell GM Rj htk hin2;have t1:decide ((i:Int)<(n:Int))=EI:=IU U;go_wp2_with (with_reducible refine wA fL (Ev.mk ?_));apply Eo;clear c0 c1 c2 c3 c4 t1;have K5:=J<|D.new wr Jx 298;have b5:=J<|Er wr (EJ Jx 298);generalize wr.alloc (EJ Jx 298)=w4 at*;go_wp2_with (with_reducible refine wS (cs:=a.cells) XA K5 (Ev.mk ?_) (hn:=hsz.out) (h1:=hone.out));apply Eo;replace K5:=J<|K5.out.setRow a.cells;replace b5:=J<|E2 (g:=wr.heap.size) b5.out U a.cells;generalize w4.setRow wr.heap.size a.cells=w5 at*;replace dZ:=J<|ZD dZ.out b5.out;replace u:=ET u b5.out;have l6:=u.out.size;clear b5;go_wp2_with (with_reducible refine wL XA K5 ?_ (hn:=hsz.out));refine(CB.out _ u.out).mono ?_;rintro e w6 ⟨hpost,b6⟩;clear K5;replace dZ:=J<|ZD dZ.out b6;replace u:=ET u b6;have l7:=u.out.size;clear b6;cases hout:jh a with
   |none=> have hnone:=EXP fs a HI2.out hout;rw[hout] at hpost;obtain rfl:=hpost;clear hout;go_wp2_with fail;go_ret2;unfold GK;rw[hnone];exact⟨O,u.out⟩
   |some bs=>
    rw[hout] at hpost;obtain⟨g6,rfl,r6⟩:=hpost;have hsn:=EXN _ _ _ _ Ag.out hout;rw[<-HT.out] at hsn;have hbl:=OL.out bs hout;have HSN:=J hsn;have R6:=J r6;clear hsn hout r6;generalize hbn:bs.length=bn at*;replace hbn:=J hbn;have GP:(k::ps).length=m:=by have:=HM.out;rw[ZC];omega
    replace GP:=J GP;go_wp2_with ((with_reducible refine It 29 ?_);(with_reducible refine uX _ ?_ (.tmp 27) (.tmp 28) ?_ w.heap.size A c m (k::ps) GP.out ?_ dZ.out (Z ⟨g6,0,X⟩) bn bn bs hbn.out ?_ R6.out ?_ ?_ ?_);(·rfl);(·rfl);(·rfl);(·rfl);(·omega);(·omega);rintro A2 c2 w7 o7 b7;refine Ev.mk ?_);apply Eo;have O7:=J o7;replace u:=J<|u.out.trans b7;clear o7 b7;go_wp2_with fail;refine⟨⟨i+1,A2,c2,m+bn,ps++bs,U,Eh,O,?_,U,HSN.out,O7.out,u.out⟩,JM⟩;have:=HM.out;rw[IY,hbn.out];omega
  ·obtain rfl:i=n:=U;have hps:=Ag.out;rw[OY ry] at hps;replace hps:=J hps;have t1:decide ((i:Int)<(i:Int))=B:=IJ U;go_wp2_with fail;go_ret2;unfold GK;rw[hps.out];exact⟨⟨A,c,by rw[HM.out];rfl,dZ.out⟩,u.out⟩
section
variable{P:Program}
def nI(k:IntKind)(n:Nat)(f:Nat->Int):Array Y:=EG n fun i=> .int k (f i)
theorem GT(k:IntKind)(n:Nat)(f:Nat->Int)(i:Nat):(nI k n f)[i]?=if i<n then Z (.int k (f i)) else X:=d_ _ _ _
theorem Ah{e:EB}{k:IntKind}(he:P.underlying e=Z (.int k))(cs:Array Y)(i:Nat)(v:Y)(hv:cs[i]?=Z v)(W:H):(Go.part e cs i).run P W= .ok v W:=by unfold Go.part;simp[isAgg,run_underlying he,hv]
theorem Rk{e:EB}{k:IntKind}(he:P.underlying e=Z (.int k))(d n:Nat)(f g:Nat->Int)(W:H): ∀(m j:Nat),j+m<=n-> (Op.eqItems (d+1) e 1 (nI k n f) (nI k n g) (List.range' j m)).run P W= .ok ((List.range' j m).all fun i=>f i==g i) W
 |0,j,_=>by simp only[List.range'_zero,Op.eqItems,Og,ah]
 |m+1,j,h=>by
  have p1:=Ah he (nI k n f) j _ (by rw[GT,if_pos U]) W;have p2:=Ah he (nI k n g) j _ (by rw[GT,if_pos U]) W;rw[List.range'_succ,Z0];simp only[Op.eqItems,Oz,Nat.mul_one,p1,p2,OC,run_equalIn_int W d e k k _ _ he];cases hb:(f j==g j);·exact EpE
  ·simp only[Bool.not_true,kO,if_false,Bool.true_and];exact Rk he d n f g W m (j+1) U
def Ai(n:Nat)(f g:Nat->Int):Bool:=(U4 n).all fun i=>f i==g i
theorem EXY{n:Nat}{f g:Nat->Int}:Ai n f g=EI↔ ∀i,i<n->f i=g i:=by unfold Ai;simp
theorem EX1{t e:EB}{k:IntKind}{n:Nat}{i:TypeInfo}(hu:P.underlying t=Z (.array n e))(he:P.underlying e=Z (.int k))(hc:P.cellsOf e=1)(hi:P.info? e=Z i)(d:Nat)(f g:Nat->Int)(W:H): (Op.equalIn (d+1+1) t (EZ (nI k n f)) (EZ (nI k n g))).run P W= .ok (Ai n f g) W:=by rw[run_equalIn_array W (d+1) _ _ hu hi,hc,List.range_eq_range',Rk he d n f g W n 0 U,Ai,List.range_eq_range']
end
theorem Rl(x0 x1 x2 x3:Int):(#[E I x0,E I x1,E I x2,E I x3]:Array Y)=nI .i64 4 (fun i=>if i=0 then x0 else if i=1 then x1 else if i=2 then x2 else x3):=rfl
theorem EX2: ∃i,Tryz.prog.info? 3=Z i:=⟨_,O⟩
theorem Aj(x0 x1 x2 x3 y0 y1 y2 y3:Int)(d:Nat)(W:H): (Op.equalIn (d+1+1) 25 (EZ #[E I x0,E I x1,E I x2,E I x3]) (EZ #[E I y0,E I y1,E I y2,E I y3])).run Eb W= .ok (decide (x0=y0/\x1=y1/\x2=y2/\x3=y3)) W:=by
 obtain⟨i,hi⟩:=EX2;rw[Rl,Rl,EX1 Tryz.underlying25 Tryz.underlying3 Ed hi];congr 1;rw[Bool.eq_iff_iff,decide_eq_true_iff,EXY];constructor;·intro h;exact⟨h 0 U,h 1 U,h 2 U,h 3 U⟩
 ·rintro⟨rfl,rfl,rfl,rfl⟩ i _;rfl
theorem EX3(x0 x1 x2 x3 y0 y1 y2 y3:Int)(W:H): (XW .neq 25 (EZ #[E I x0,E I x1,E I x2,E I x3]) (EZ #[E I y0,E I y1,E I y2,E I y3])).run Eb W= .ok (EU (!decide (x0=y0/\x1=y1/\x2=y2/\x3=y3))) W:=by have:=Aj x0 x1 x2 x3 y0 y1 y2 y3 9998 W;simp[go_sem,this];done
theorem EX4(gm:Nat)(l:List Int)(w:H)(k:Int)(hm:D w gm (ED l) 183)(hk:l.getD 0 0=k)(hn:ag k=X): Ef Eb 160 #[M (Z ⟨gm,0,X⟩)] w fun e w'=>e=Eg (Et #[G X 0 0,EU B])/\w=w':=by
 have c0:=hm.cell 0;rw[Zh _ _ U,if_neg U,hk] at c0
 have hne:k≠1/\k≠2/\k≠3/\k≠4/\k≠5/\k≠6/\k≠7/\k≠8/\k≠9/\k≠10/\k≠11:=by
  unfold ag at hn;repeat' split at hn
  all_goals first|(cases hn;done)|omega
 obtain⟨n1,n2,n3,n4,n5,n6,n7,n8,n9,n10,n11⟩:=hne;have q1:(k==1)=B:=by simp[n1]
 have q2:(k==2)=B:=by simp[n2]
 have q3:(k==3)=B:=by simp[n3]
 have q4:(k==4)=B:=by simp[n4]
 have q5:(k==5)=B:=by simp[n5]
 have q6:(k==6)=B:=by simp[n6]
 have q7:(k==7)=B:=by simp[n7]
 have q8:(k==8)=B:=by simp[n8]
 have q9:(k==9)=B:=by simp[n9]
 have Rm:(k==10)=B:=by simp[n10]
 have Rn:(k==11)=B:=by simp[n11]
 clear hm hk hn;go_enter iO,iU;go_wp2_with fail;exact EoG
def GV(w:H)(gm:Nat)(k:Int)(e:Uh)(w':H):Prop:=
 match ag k with
 |some ds=>ZU w gm ds e w'
 |none=>e=Eg (Et #[G X 0 0,EU B])/\w=w'
theorem EX6(gm:Nat)(l:List Int)(w:H)(hm:D w gm (ED l) 183):Ef Eb 160 #[M (Z ⟨gm,0,X⟩)] w (GV w gm (l.getD 0 0)):=by
 generalize hk:l.getD 0 0=k at*;by_cases h1:k=1;·subst h1;exact EXl gm l w hm hk
 by_cases h2:k=2;·subst h2;exact EXm gm l w hm hk
 by_cases h3:k=3;·subst h3;exact EXn gm l w hm hk
 by_cases h4:k=4;·subst h4;exact EXo gm l w hm hk
 by_cases h5:k=5;·subst h5;exact EXt gm l w hm hk
 by_cases h6:k=6;·subst h6;exact EXv gm l w hm hk
 by_cases h7:k=7;·subst h7;exact EXx gm l w hm hk
 by_cases h8:k=8;·subst h8;exact EXp gm l w hm hk
 by_cases h9:k=9;·subst h9;exact EXq gm l w hm hk
 by_cases h10:k=10;·subst h10;exact EXz gm l w hm hk
 by_cases h11:k=11;·subst h11;exact EXD gm l w hm hk
 have hn:ag k=X:=by unfold ag;exact Eou
 unfold GV;rw[hn];exact EX4 gm l w k hm hk hn
def IZ(k:Int):List Int:=[k,0,0,0,0,0,0,0,0,0,0,0]
def rQ(d:FD)(n:Int):Option (List Int):=if n<d.lo then X else if d.hi<n then X else if d.lo<0 then Z (be (n%65536) 2) else Z (be n d.size.toNat)
def cZ:List FD->List Int->Option (List Int)
 |[],_=>Z []
 |d::ds,l=>match rQ d (l.getD d.off 0),cZ ds l with
  |some x,Z y=>Z (x++y)
  |_,_=>X
def J2(ds:List FD)(l:List Int):List Int:=ds.foldl (fun l d=>l.set d.off 0) l
def rR(l:List Int):Option (List Int):=
 match ag (l.getD 0 0) with
 |none=>X
 |some ds=>match cZ ds l with
  |none=>X
  |some ps=>if J2 ds l=IZ (l.getD 0 0) then Z (l.getD 0 0::ps) else X
structure FD.good(d:FD):Prop where
 ok:d.ok
 off1:1<=d.off
 neg:d.lo<0-> -32768<=d.lo/\d.hi<=32767
 pos:0<=d.lo->1<=d.size/\d.size<=7/\d.hi<256^d.size.toNat
theorem EX7:XU.good:=⟨⟨Ea,Ea,Ea⟩,Ea,Ea,Ea⟩
theorem rS:Ih.good:=⟨⟨Ea,Ea,Ea⟩,Ea,Ea,Ea⟩
theorem EX8:di.good:=⟨⟨Ea,Ea,Ea⟩,Ea,Ea,Ea⟩
theorem EX9:Ja.good:=⟨⟨Ea,Ea,Ea⟩,Ea,Ea,Ea⟩
theorem GW:IQ.good:=⟨⟨Ea,Ea,Ea⟩,Ea,Ea,Ea⟩
theorem EX_:cE.good:=⟨⟨Ea,Ea,Ea⟩,Ea,Ea,Ea⟩
theorem EZE:dj.good:=⟨⟨Ea,Ea,Ea⟩,Ea,Ea,Ea⟩
theorem Ak(i:Nat)(h:i<4):(JC i).good:=by have h4:i=0\/i=1\/i=2\/i=3:=U;rcases h4 with rfl|rfl|rfl|rfl<;>exact⟨⟨Ea,Ea,Ea⟩,Ea,Ea,Ea⟩
theorem Al{k:Int}(h:ag k=Z ds):1<=k/\k<=11/\ds.length<=7/\ ∀d∈ds,d.good:=by
 have one: ∀(P:Prop),(P->1<=k/\k<=11/\ds.length<=7/\ ∀d∈ds,d.good)->P->1<=k/\k<=11/\ds.length<=7/\ ∀d∈ds,d.good:=fun _ f p=>f p;unfold ag at h;repeat' split at h
 all_goals first
  |(cases h;done)
  |(injection h with h
    subst h
    refine⟨U,U,Ea,fun d hd=> ?_⟩
    simp only[UJ,UA,or_false] at hd)
 ·subst hd;exact EX7
 ·subst hd;exact rS
 ·rcases hd with rfl|rfl;·exact rS
  ·exact EX8
 ·rcases hd with rfl|rfl;·exact rS
  ·exact EX9
 ·rcases hd with rfl|rfl;·exact rS
  ·exact GW
 ·rcases hd with rfl|rfl|rfl;·exact rS
  ·exact GW
  ·exact EX_
 ·rcases hd with rfl|rfl|rfl|rfl|rfl|rfl|rfl;·exact rS
  ·exact GW
  ·exact EZE
  ·exact Ak 0 U
  ·exact Ak 1 U
  ·exact Ak 2 U
  ·exact Ak 3 U
def Am(l:List Int)(p:FD×Nat):AF:=⟨p.1.size,p.1.lo,p.1.hi,p.1.get,p.1.set,M (Z ⟨p.2,0,X⟩),l.getD p.1.off 0⟩
theorem EZI(l:List Int)(fs:List (FD×Nat)):dl (fs.map (Am l))=cZ (fs.map (·.1)) l:=by
 induction fs with
 |nil=>rfl
 |cons p ps ih=> simp only[Uv,dl,cZ];rw[ih];rfl
theorem EZJ(l:List Int)(h:Xq w base gl gm fs):Ri w gl (fs.map (Am l)):=by intro i hi j hj;rw[List.getElem_map];exact h.cells i U5 j hj
theorem EZO(h:Own w base A cap xs)(hg:gm<base)(hk: ∀k,k≠gm->w'.heap[k]?=w.heap[k]?):Own w' base A cap xs:=by
 obtain⟨⟨h1,h2⟩,h3⟩:=h;refine⟨⟨h1,?_⟩,h3⟩;rcases h2 with h2|⟨g,cap',cur,e,hb,hh,r⟩;·exact .inl h2
 ·exact .inr ⟨g,cap',cur,e,hb,(hk g U).trans hh,r⟩
theorem An(ds:List FD)(l:List Int):(J2 ds l).length=l.length:=by
 induction ds generalizing l with
 |nil=>rfl
 |cons d ds ih=>show(J2 ds (l.set d.off 0)).length=_;rw[ih];simp
theorem rT(ds:List FD)(l:List Int)(o:Nat)(ho: ∀d∈ds,d.off≠o):(J2 ds l).getD o 0=l.getD o 0:=by
 induction ds generalizing l with
 |nil=>rfl
 |cons d ds ih=> show(J2 ds (l.set d.off 0)).getD o 0=_;rw[ih _ fun e he=>ho e (aJ _ he)];simp[Uq,List.getElem?_set_ne (ho d gS)]
theorem EZU(ds:List FD)(l:List Int)(o:Nat):(J2 ds l).getD o 0=0\/(J2 ds l).getD o 0=l.getD o 0:=by
 induction ds generalizing l with
 |nil=>exact .inr O
 |cons d ds ih=>
  show(J2 ds (l.set d.off 0)).getD o 0=0\/(J2 ds (l.set d.off 0)).getD o 0=_;rcases ih (l.set d.off 0) with h|h;·exact .inl h
  ·by_cases e:d.off=o
   ·left;rw[h,Uq,e];by_cases hl:o<l.length;·simp[hl]
    ·rw[bf Ji];rfl
   ·right;rw[h];simp[Uq,List.getElem?_set_ne e]
theorem EZX(ds:List FD)(d:FD)(l:List Int):J2 (ds++[d]) l=(J2 ds l).set d.off 0:=by unfold J2;rw[List.foldl_append];rfl
theorem EZZ(k:Int):Tryz.prog.built 183 [(0,E I k)]=Z (ED (IZ k)):=Ed
theorem ji:Tryz.prog.built 183 []=Z (ED (IZ 0)):=Ed
def wd(d:FD):Nat:=if d.lo<0 then 2 else d.size.toNat
theorem EZa{d:FD}{p:List Int}(h:cZ (d::ds) l=Z p): ∃x y,rQ d (l.getD d.off 0)=Z x/\cZ ds l=Z y/\p=x++y:=by
 simp only[cZ] at h;cases h1:rQ d (l.getD d.off 0) with
 |none=>rw[h1] at h;cases h
 |some x=>
  cases h2:cZ ds l with
  |none=>rw[h1,h2] at h;cases h
  |some y=> rw[h1,h2] at h;injection h with h;exact⟨x,y,O,O,h.symm⟩
theorem Ro(h:rR l=Z bs): ∃ds ps,ag (l.getD 0 0)=Z ds/\cZ ds l=Z ps/\J2 ds l=IZ (l.getD 0 0)/\bs=l.getD 0 0::ps:=by
 unfold rR at h;cases h1:ag (l.getD 0 0) with
 |none=>rw[h1] at h;cases h
 |some ds=>
  rw[h1] at h;simp only at h;cases h2:cZ ds l with
  |none=>rw[h2] at h;cases h
  |some ps=>
   rw[h2] at h;simp only at h;split at h;·rename_i hz;injection h with h;exact⟨ds,ps,rfl,h2,hz,h.symm⟩
   ·cases h
theorem Rp(hx:x.length=12)(hy:y.length=12)(h: ∀o,o<12->x.getD o 0=y.getD o 0):x=y:=by apply List.ext_getElem U;intro i h1 h2;have:=h i U;simpa[Uq,h1,h2] using this
theorem EZb(h:rR l=Z bs):bs.take 1=[l.getD 0 0]/\1<=l.getD 0 0/\l.getD 0 0<=11:=by obtain⟨ds,ps,f1,o1,z1,rfl⟩:=Ro h;obtain⟨h1,h2,-,-⟩:=Al f1;exact⟨O,h1,h2⟩
theorem EZc(h:Own w base A c xs):xs.length<=c/\c<=9223372036854775807:=by obtain⟨A',ys,cap,e,h1,h2,-⟩:=h.EJC;injection e with e1 e2 e3;omega
section
open Go.ChangeShapes Go.WideShapes
theorem iX:Oq Eb 183 (ED (IZ 0)):=EJ4
theorem EZd(h:Row w A xs)(m:Nat):Row w A (xs.take m):=by
 obtain⟨h1,h2⟩:=h;refine⟨?_,fun z hz=>h2 z (fy hz)⟩;rcases h1 with h1|⟨b,off,e,hc⟩;·subst h1;exact .inl Eh
 ·refine .inr ⟨b,off,e,fun i hi=> ?_⟩;have hi2:i<xs.length:=rJ;rw[hc i hi2];simp
end
def ZX(d:FD)(xs:List Int):Int:=if d.lo<0 then sig xs else num xs
def fY:List FD->List Int->List Int->Option (List Int)
 |[],l,xs=>if xs.length=0 then Z l else X
 |d::ds,l,xs=>if xs.length<wd d then X else if ZX d (xs.take (wd d))<d.lo then X else if d.hi<ZX d (xs.take (wd d)) then X else fY ds (l.set d.off (ZX d (xs.take (wd d)))) (xs.drop (wd d))
structure FD.uC(d:FD):Prop where
 good:d.good
 neg:d.lo<0->d.lo= -32768/\d.hi=32767
 size:d.size=(wd d:Int)
 one:1<=wd d/\wd d<=7
 now:d.off=7->d.lo=0/\d.hi=1
theorem Rq{k:Int}(h:ag k=Z ds): ∀d∈ds,d.uC:=by
 intro d hd;have hg:=(Al h).2.2.2 d hd
 have:(d.lo<0->d.lo= -32768/\d.hi=32767)/\d.size=(wd d:Int)/\(1<=wd d/\wd d<=7)/\(d.off=7->d.lo=0/\d.hi=1):=by
  unfold ag at h;repeat' split at h
  all_goals first
   |(cases h;done)
   |(injection h with h
     subst h
     simp only[UJ,UA,or_false] at hd
     first
      |(subst hd;decide)
      |(rcases hd with rfl|rfl<;>decide)
      |(rcases hd with rfl|rfl|rfl<;>decide)
      |(rcases hd with rfl|rfl|rfl|rfl|rfl|rfl|rfl<;>decide))
 exact⟨hg,this.1,this.2.1,this.2.2.1,this.2.2.2⟩
theorem EZf(h: ∀x∈xs,0<=x/\x<=255)(hl:xs.length=2): -32768<=sig xs/\sig xs<=32767:=by have hb:=ua xs h 2 U;rw[OY U] at hb;have h2:num xs<65536:=hb.2;unfold sig;split<;>omega
def Rr(gm:Nat)(l:List Int)(W w':H):Prop:=D w' gm (ED l) 183/\(∀k,k≠gm->w'.heap[k]?=W.heap[k]?)/\w'.heap.size=W.heap.size/\Ik gm W w'
def GY(d:FD)(gm:Nat)(l xs:List Int)(w:H)(e:Uh)(w':H):Prop:=
 if ZX d xs<d.lo then e=Eg (EU B)/\El w w'
 else if d.hi<ZX d xs then e=Eg (EU B)/\El w w'
 else e=Eg (EU EI)/\ ∃W,El w W/\Rr gm (l.set d.off (ZX d xs)) W w'
theorem EZg(d:FD)(hd:d.uC)(gb gm:Nat)(l xs:List Int)(hl:mC l)(Y4:Option Eu)(c k:Nat)(hk:wd d=k)(w:H)(hr:Row w Y4 xs)(hx:xs.length=k)(hb:ZI w d gm gb)(hm:D w gm (ED l) 183): Ef Eb 209 #[EZ (ID d gb),G Y4 k c] w (GY d gm l xs w):=by
 have hs: ∀v,Sets w d.set (M (Z ⟨gb,0,X⟩)) v (Rr gm (l.set d.off v)):=fun v=>⟨P6 d,fun W hW=>(EJ7 d gb gm l v W hd.good.ok hl (D.V hb hW) (hm.V hW)).mono fun e w' ⟨he,h1,h2,h3,h4⟩=>⟨he,h1,h2,h3,h4⟩⟩;have hk7:=hd.one;unfold GY ID;by_cases h0:d.lo<0
 ·have e2:k=2:=by rw[<-hk];unfold wd;rw[if_pos h0]
  subst e2;have hv:ZX d xs=sig xs:=by unfold ZX;rw[if_pos h0]
  have hr2:=EZf hr.2 hx;have hn:=hd.neg h0;have g1: ¬sig xs<d.lo:=U;have g2: ¬d.hi<sig xs:=U;rw[hv];simp only[if_neg g1,if_neg g2];exact EXg _ _ _ _ _ _ xs Y4 c (sig xs) _ w hr hx O h0 U U (hs _)
 ·have hv:ZX d xs=num xs:=by unfold ZX;rw[if_neg h0]
  have hb2:=ua xs hr.2 k U;rw[OY U] at hb2;have EjK:(256:Int)^k<=72057594037927936:=by exact Ens
  have hhi:d.hi<256^k:=by have:=(hd.good.pos U).2.2;rw[hd.size,hk,mO] at this;exact this
  rw[hv];by_cases h1:num xs<d.lo;·simp only[if_pos h1];exact EXi _ _ _ _ _ _ xs Y4 k c (num xs) w hr hx U O U U U h1
  by_cases h2:d.hi<num xs;·simp only[if_neg h1,if_pos h2];exact EXj _ _ _ _ _ _ xs Y4 k c (num xs) w hr hx U O U U U U h2
  ·simp only[if_neg h1,if_neg h2];exact EXh _ _ _ _ _ _ xs Y4 k c (num xs) _ w hr hx U O U U U U (hs _)
theorem Rs(h:Row w Y4 xs)(hB: ∀a,Y4=Z a->a.block<gm)(hb:Ik gm w w'):Row w' Y4 xs:=by
 obtain⟨h1,h2⟩:=h;refine⟨?_,h2⟩;rcases h1 with h1|⟨b,off,e,hc⟩;·exact .inl h1
 ·refine .inr ⟨b,off,e,fun i hi=> ?_⟩;have h3:=hb.cell (p:=⟨b,off+i,X⟩) (show b<gm from hB ⟨b,off,X⟩ e);rw[h3];exact hc i hi
theorem nJ{off:Nat}(h:Row w (Z ⟨b,off,X⟩) xs)(m:Nat):Row w (Z ⟨b,off+m,X⟩) (xs.drop m):=by
 obtain⟨h1,h2⟩:=h;refine⟨?_,fun z hz=>h2 z (List.mem_of_mem_drop hz)⟩;rcases h1 with h1|⟨b',off',e,hc⟩;·subst h1;exact .inl Eh
 ·injection e with e;injection e with e1 e2;subst e1 e2;refine .inr ⟨b,off+m,O,fun i hi=> ?_⟩;have hi2:m+i<xs.length:=rJ;have:=hc (m+i) hi2;rw[<-jj] at this;rw[this];simp
theorem EZh(h:mC l)(o:Nat)(v:Int)(hv:o=7->v=0\/v=1):mC (l.set o v):=by
 refine⟨by rw[List.length_set];exact h.1,?_⟩;by_cases e:o=7
 ·subst e;have hl:=h.1;have:(l.set 7 v).getD 7 0=v:=by simp[Uq,hl]
  rw[this];exact hv O
 ·have e2:(l.set o v).getD 7 0=l.getD 7 0:=by simp[Uq,List.getElem?_set_ne e]
  rw[e2];exact h.2
def EZi(R:Option (List Int))(gm:Nat)(w:H)(e:Uh)(w':H):Prop:=
 Ik gm w w'/\match R with
  |none=>e=Eg (EU B)
  |some l'=>e=Eg (EU EI)/\D w' gm (ED l') 183
theorem EZj(fs:List (FD×Nat))(ds:List FD)(hds:fs.map (·.1)=ds)(hf: ∀d∈ds,d.uC)(n:Nat)(hn:fs.length=n)(hn9:n<=100)(gl cp gm base:Nat)(l:List Int)(hl:mC l)(xs:List Int)(Y4:Option Eu)(m c:Nat)(hm:xs.length=m)(hmc:m<=c)(hc:c<=9223372036854775807) (w:H) (hr:Row w Y4 xs) (hB: ∀a,Y4=Z a->a.block<gm) (hfl:Xq w base gl gm fs) (hgb:gm<base) (hgw:base<=w.heap.size) (hk:D w gm (ED l) 183): Ef Eb 161 #[G Y4 m c,G (Z ⟨gl,0,X⟩) n cp] w (EZi (fY ds l xs) gm w):=by
 have Ap:=J hds;have HF:=J hf;have HN:=J hn;obtain⟨R,hR⟩:=En (fY ds l xs);rw[<-hR];have rV:=J hR;have HM:=J hm;have HRW:=J hr;have Aq:=J hB;have aQ:=J hfl;have HK:=J hk;have HL:=J hl;clear hds hf hn hR hm hr hB hfl hk hl;go_enter Tryz.func161,Tryz.ntmps161;go_wp2_with fail;go_loopw[0,9] (fun x y wr=> ∃(i:Nat) (A:Option Eu) (k e:Nat) (li rs:List Int),i<=n/\y=E I i/\x=G A k e/\rs.length=k/\k<=e/\e<=9223372036854775807/\Row wr A rs/\(∀a,A=Z a->a.block<gm)/\mC li/\D wr gm (ED li) 183/\Xq wr base gl gm fs/\base<=wr.heap.size/\fY (ds.drop i) li rs=R/\Ik gm w wr) (fun _ y _=>n-(Ir y).toNat);case atStart=>exact⟨0,Y4,m,c,l,xs,U,O,O,HM.out,hmc,hc,HRW.out,Aq.out,HL.out,HK.out,aQ.out,hgw,by rw[rV.out];rfl,E9 _ _⟩
 case round=>
  obtain⟨i,A,k,e,li,rs,hi,rfl,rfl,hrs,hke,he,hrw,hA,uD,hkm,hfl,hbw,hR,hbb⟩:=hrel;have cg:=J hrs;have RW:=J hrw;have HA:=J hA;have pU:=J uD;have KM:=J hkm;have FL:=J hfl;have HR:=J hR;have u:=J hbb;have lm:=hkm.lt;clear hrs hrw hA uD hkm hfl hR hbb HRW aQ HK HL rV Aq;by_cases hin:i<n
  ·have hil:i<fs.length:=GL;have hcell:=fun j hj=>FL.out.cells i hil j hj;have pX:=(FL.out.2.2 i hil).2;have e1:ds[i]?=Z (fs[i]'hil).1:=Rt;have hmem:(fs[i]'hil).1∈ds:=dn e1;have hdf:=HF.out _ hmem;have hdr:ds.drop i=(fs[i]'hil).1::ds.drop (i+1):=by obtain⟨h1,h2⟩:=Xx.1 e1;rw[<-h2];exact mg h1
   generalize fs[i]'hil=p at*;obtain⟨d,gb⟩:=p;simp only at hcell pX hdf hdr;have hRR:=HR.out;rw[hdr] at hRR;simp only[fY] at hRR;replace hRR:=J hRR;have uF:=J pX;have HD:=J hdf;have c0:=hcell 0 U;have c1:=hcell 1 U;have c2:=hcell 2 U;have c3:=hcell 3 U;have c4:=hcell 4 U;simp only[ID,Nat.add_zero] at c0 c1 c2 c3 c4;clear hcell pX e1 hmem hdf hdr;have G0:=J<|hZ d gb;have hsz2:Ec ((ID d gb).size=5):=J O;have t1:decide ((i:Int)<(n:Int))=EI:=IU U;go_wp2_with (with_reducible refine wA fL (Ev.mk ?_));apply Eo;clear c0 c1 c2 c3 c4 t1;have K5:=J<|D.new wr Jx 298;have b5:=J<|Er wr (EJ Jx 298);generalize wr.alloc (EJ Jx 298)=w4 at*;go_wp2_with (with_reducible refine wS (cs:=(ID d gb)) XA K5 (Ev.mk ?_) (hn:=hsz2.out) (h1:=G0.out));apply Eo;replace K5:=J<|K5.out.setRow (ID d gb);replace b5:=J<|E2 (g:=wr.heap.size) b5.out U (ID d gb);generalize w4.setRow wr.heap.size (ID d gb)=w5 at*;replace KM:=J<|KM.out.V b5.out;replace FL:=J<|FL.out.V b5.out;replace RW:=J<|Ix RW.out b5.out;replace u:=J<|u.out.trans (b5.out.mono U);have uG:Ec (ZI w5 d gm gb):=EM uF b5.out;have l5:=b5.out.size;clear b5 uF;obtain⟨z,hz⟩:=En (wd d);have hzs:d.size=(z:Int):=by rw[hz];exact HD.out.size
   have hz1:1<=z:=by rw[hz];exact HD.out.one.1
   have G1:z<=7:=by rw[hz];exact HD.out.one.2
   have HZ:=J hz;have ZS:=J hzs;have c0: ∀y:Ext w5,(EC w5 y).cell? ⟨wr.heap.size,0,X⟩=Z (E I z):=fun y=>by rw[(K5.out.V (EN y)).cell 0,<-ZS.out];rfl
   clear hz hzs;go_wp2_with fail;by_cases hkz:k<z
   ·have t2:decide ((k:Int)<(z:Int))=EI:=IU U;refine Zy Ed Ed ?_
    repeat (first
     |go_big_quiet_skip
     |(go_big_quiet_want
       first
        |(refine UB (T:=298) (g:=wr.heap.size) XA _ rfl rfl K5 ?_ ?_;(·exact hsz2.out);go_simp;go_big_quiet_on)
        |(go_big_quiet_op
          first
           |go_big_quiet_on
           |go_big_quiet_call ((fail)))))
    refine I1 ?_;intro _ hw';obtain⟨y9,rfl⟩:=hw';replace u:=J<|u.out.trans ((EN y9).mono U);generalize EC w5 y9=w6 at*;go_wp2_with fail;go_ret;refine⟨u.out,?_⟩;rw[<-hRR.out,if_pos (by rw[cg.out,<-HZ.out];exact hkz)];rfl
   ·have t2:decide ((k:Int)<(z:Int))=B:=IJ U;have q1:z<=k:=U;have q2:z<=e:=U
    obtain⟨b0,off,hAe⟩: ∃b off,A=Z ⟨b,off,X⟩:=by
     obtain⟨h|⟨b,off,h,-⟩,-⟩:=RW.out;·have:=cg.out;rw[h] at this;simp at this;omega
     ·exact⟨b,off,h⟩
    subst hAe;refine J_ 11 Ed Ed ?_;simp only[Iq,Io,IP,IH]
    repeat (first
     |go_big_quiet_skip
     |(go_big_quiet_want
       first
        |(refine UB (T:=298) (g:=wr.heap.size) XA _ rfl rfl K5 ?_ ?_;(·exact hsz2.out);go_simp;go_big_quiet_on)
        |(go_big_quiet_op
          first
           |go_big_quiet_on
           |go_big_quiet_call ((fail)))))
    refine I1 ?_;intro _ hw';obtain⟨y9,rfl⟩:=hw';have Em:=EN y9;replace K5:=J<|K5.out.V Em;replace KM:=J<|KM.out.V Em;replace FL:=J<|FL.out.V Em;replace RW:=J<|Ix RW.out Em;have Ru:Ec (ZI (EC w5 y9) d gm gb):=EM uG Em;replace u:=J<|u.out.trans (Em.mono U);have l6:=Em.size;clear Em c0 uG;generalize EC w5 y9=w6 at*;have hlt:(rs.take z).length=z:=by rw[aO,cg.out];omega
    have CT:=J<|EZg d HD.out gb gm li (rs.take z) pU.out (Z ⟨b0,off,X⟩) e z HZ.out.symm w6 (EZd RW.out z) hlt Ru.out KM.out;clear hlt Ru;go_wp2_with fail;refine(CT.out).mono ?_;rintro e' w7 ht;unfold GY at ht;have hif: ¬rs.length<wd d:=by rw[cg.out,<-HZ.out];omega
    have kC:=hRR.out;rw[if_neg hif,<-HZ.out] at kC;replace kC:=J kC;clear hif CT hRR;by_cases hlow:ZX d (rs.take z)<d.lo;·rw[if_pos hlow] at ht;obtain⟨rfl,b7⟩:=ht;have dp:=kC.out;rw[if_pos hlow] at dp;replace dp:=J dp;replace u:=J<|u.out.trans (b7.mono U);clear hlow b7 kC;exact EoB
    by_cases hhigh:d.hi<ZX d (rs.take z);·rw[if_neg hlow,if_pos hhigh] at ht;obtain⟨rfl,b7⟩:=ht;have dp:=kC.out;rw[if_neg hlow,if_pos hhigh] at dp;replace dp:=J dp;replace u:=J<|u.out.trans (b7.mono U);clear hlow hhigh b7 kC;exact EoB
    ·rw[if_neg hlow,if_neg hhigh] at ht;obtain⟨rfl,W,bW,hq1,hq2,hq3,hq4⟩:=ht;have dp:=kC.out;rw[if_neg hlow,if_neg hhigh] at dp;have Rv:mC (li.set d.off (ZX d (rs.take z))):=EZh pU.out _ _ (fun h7=>by have:=HD.out.now h7;omega);have EZl:=J Rv;replace dp:=J dp;have lW:=bW.size;have G2:b0<gm:=HA.out _ O;have c0:w7.cell? ⟨wr.heap.size,0,X⟩=Z (E I z):=by rw[World.cell?_of_block (w:=W) (hq2 wr.heap.size U),(K5.out.V bW).cell 0,<-ZS.out];rfl
     replace u:=J<|(u.out.trans (bW.mono U)).trans hq4;replace FL:=J<|(FL.out.V bW).keep hgb hq2;have RW7:=J<|Rs (nJ (Ix RW.out bW) z) (fun a ha=>by injection ha with ha;subst ha;exact G2) hq4;have KM7:=J hq1;have l7:base<=w7.heap.size:=U;generalize ZX d (rs.take z)=vv at*;clear hlow hhigh Rv bW hq1 hq2 hq4 kC KM RW K5;go_wp2_with fail;refine⟨⟨i+1,_,k-z,e-z,li.set d.off vv,rs.drop z,U,Eh,O,by rw[mB,cg.out],U,U,?_,?_,EZl.out,KM7.out,FL.out,l7,dp.out,u.out⟩,JM⟩
     ·split;·have h0:rs.drop z=[]:=List.drop_eq_nil_of_le (by rw[cg.out];omega);rw[h0];exact⟨.inl O,fun x hx=>by cases hx⟩
      ·exact RW7.out
     ·intro a ha;split at ha;·injection ha with ha;subst ha;exact G2
      ·injection ha with ha;subst ha;exact G2
  ·obtain rfl:i=n:=U;have hdrop:ds.drop i=[]:=List.drop_eq_nil_of_le (by rw[<-Ap.out,List.length_map,HN.out];omega);have hR:=HR.out;rw[hdrop] at hR;simp only[fY] at hR;replace hR:=J hR;have t1:decide ((i:Int)<(i:Int))=B:=IJ U;clear hdrop;by_cases hk0:k=0;·subst hk0;go_wp2_with fail;go_ret;refine⟨u.out,?_⟩;rw[<-hR.out,if_pos cg.out];exact⟨O,KM.out⟩
   ·have t2:((k:Int)==0)=B:=Ji;go_wp2_with fail;go_ret;refine⟨u.out,?_⟩;rw[<-hR.out,if_neg (by rw[cg.out];exact hk0)];rfl
section
variable{P:Program}
theorem uH{n:Nat}{cs:Array Y}(hA:IG P T n)(hg:D w g cs T)(hn:cs.size=n):(loadVar T ⟨g,0,X⟩).run P w= .ok (EZ cs) w:=by obtain⟨⟨d,hu,hd⟩,hi⟩:=hA;cases d<;>first|(cases hd;done)|exact run_loadVar_row w g T T cs (0,0) _ hg hu rfl gR
theorem dq{fn:Func}{p q:Tmp}{n:Nat}(hT:IG P T n)(h:fn.results= #[.cell p T,.tmp q])(tmps:Array Y)(w:H)(g:Nat)(cs:Array Y)(v:Y) (hp:tmps.getD p I2=M (Z ⟨g,0,X⟩)) (hq:tmps.getD q I2=v) (hg:D w g cs T) (hn:cs.size=n):(UL fn tmps).run P w= .ok (Et #[EZ cs,v]) w:=by exact Enn
end
def fJ(bs:List Int):Option (List Int):=match bs with
 |[]=>X
 |k::xs=>match ag k with
  |none=>X
  |some ds=>fY ds (IZ k) xs
def EZo(bs:List Int)(w:H)(e:Uh)(w':H):Prop:=
 (match fJ bs with
  |none=>e=Eg (Et #[EZ (ED (IZ 0)),E I 13])
  |some l=>e=Eg (Et #[EZ (ED l),E I 0]))/\El w w'
theorem G4(bs:List Int)(Y4:Option Eu)(m c:Nat)(hm:bs.length=m)(hmc:m<=c)(hc:c<=9223372036854775807)(w:H)(hr:Row w Y4 bs):Ef Eb 118 #[G Y4 m c] w (EZo bs w):=by
 cases bs with
 |nil=>
  obtain rfl:m=0:=by rw[<-hm];rfl
  clear hr;go_enter Tryz.func118,Tryz.ntmps118;go_wp2_with (with_reducible refine wA iX (Ev.mk ?_));apply Eo;have K2:=J<|D.new w (ED (IZ 0)) 183;have u:=J<|Er w (EJ (ED (IZ 0)) 183);generalize w.alloc (EJ (ED (IZ 0)) 183)=w1 at*;go_wp2_with (first|((with_reducible refine It 10 ?_);refine I3 rfl 183 _ rfl (ED (IZ 0)) ji ?_)|(with_reducible refine wS (cs:=(ED (IZ 0))) OM K2 ?_ (ho:=I_ _) (hn:=I_ _) (h1:=ZF _)));refine EV (v:=Et #[EZ (ED (IZ 0)),E I 13]) (dq OM O _ _ w.heap.size _ _ O O (K2.out.setRow _) (I_ _)) O ⟨?_,E2 u.out U _⟩;rfl
 |cons k xs=>
  obtain⟨b0,off,rfl,hc0⟩: ∃b off,Y4=Z ⟨b,off,X⟩/\w.cell? ⟨b,off,X⟩=Z (E IL k):=by
   obtain⟨h|⟨b,off,h,hcc⟩,-⟩:=hr;·cases h
   ·exact⟨b,off,h,hcc 0 Eh⟩
  have hb0:b0<w.heap.size:=Xv _ _ hc0;have hkb:=hr.2 k gS;obtain⟨k0,k9⟩:=hkb;have HR:=J hr;have m1:1<=m:=by rw[<-hm];simp
  have HM:=J hm;have t1:((m:Int)==0)=B:=Ji;clear hr hm;go_enter Tryz.func118,Tryz.ntmps118;go_wp2_with (with_reducible refine wA iX (Ev.mk ?_));apply Eo;have K2:=J<|D.new w (ED (IZ 0)) 183;have u:=J<|Er w (EJ (ED (IZ 0)) 183);replace HR:=J<|Ix HR.out u.out;have c1:(w.alloc (EJ (ED (IZ 0)) 183)).cell? ⟨b0,off,X⟩=Z (E IL k):=by rw[u.out.cell hb0];exact hc0
  generalize w.alloc (EJ (ED (IZ 0)) 183)=w1 at*;clear hc0;go_wp2_with (first|((with_reducible refine It 15 ?_);refine I3 rfl 183 _ rfl (ED (IZ k)) (EZZ k) ?_)|(with_reducible refine wA iX (Ev.mk ?_)));apply Eo;have l1:=K2.out.lt;have bel:=Er w1 (EJ (ED (IZ 0)) 183);have K4:=J<|D.new w1 (ED (IZ 0)) 183;replace K2:=J<|K2.out.V bel;replace HR:=J<|Ix HR.out bel;replace u:=ET u bel;clear bel c1;generalize w1.alloc (EJ (ED (IZ 0)) 183)=w2 at*;have lw:=u.out.size;generalize hg4:w1.heap.size=g4 at*;clear hg4;go_wp2_with (with_reducible refine wS (cs:=(ED (IZ k))) OM K4 (Ev.mk ?_) (ho:=I_ _) (hn:=I_ _) (h1:=ZF _));apply Eo;have Rw:=E2 (g:=g4) (E9 g4 w2) (E7 _) (ED (IZ k));replace K2:=J<|K2.out.setRow_other g4 (ED (IZ k)) U;replace K4:=J<|K4.out.setRow (ED (IZ k));replace u:=J<|E2 (g:=g4) u.out U (ED (IZ k));replace HR:=J<|Rs HR.out (fun a ha=>by injection ha with ha;subst ha;show b0<g4;omega) Rw;clear Rw;generalize w2.setRow g4 (ED (IZ k))=w3 at*;have l3:=K4.out.lt;go_wp2_with fail;refine(EX6 g4 (IZ k) w3 K4.out).mono ?_;rintro e w4 hf;unfold GV at hf;have hkk:(IZ k).getD 0 0=k:=rfl;rw[hkk] at hf;cases hfo:ag k with
  |none=>
   rw[hfo] at hf;obtain⟨rfl,rfl⟩:=hf;have hp:fJ (k::xs)=X:=by unfold fJ;simp only[hfo]
   replace hp:=J hp;clear hfo hkk;go_wp2_with (first|((with_reducible refine It 29 ?_);refine I3 rfl 183 _ rfl (ED (IZ 0)) ji ?_)|(with_reducible refine wS (cs:=(ED (IZ 0))) OM K2 ?_ (ho:=I_ _) (hn:=I_ _) (h1:=ZF _)));refine EV (v:=Et #[EZ (ED (IZ 0)),E I 13]) (dq OM O _ _ w.heap.size _ _ O O (K2.out.setRow _) (I_ _)) O ⟨?_,E2 u.out U _⟩;rw[hp.out]
  |some ds=>
   rw[hfo] at hf;obtain⟨gl,cp,fs,rfl,hds,hfl,b4⟩:=hf;have Rx:=Rq hfo;have hd7:=(Al hfo).2.2.1;have hp:fJ (k::xs)=fY ds (IZ k) xs:=by unfold fJ;simp only[hfo]
   have HP:=J hp;have l4:=b4.size;replace K2:=J<|K2.out.V b4;replace K4:=J<|K4.out.V b4;replace HR:=J<|Ix HR.out b4;replace u:=ET u b4;obtain⟨A2,hA2⟩: ∃A:Option Eu,A=if c=1 then Z ⟨b0,off,X⟩ else Z ⟨b0,off+1,X⟩:=⟨_,O⟩
   have hx:xs.length=m-1:=by have:=HM.out;rw[ZC] at this;omega
   have hrow:Row w4 A2 xs:=by
    rw[hA2];split;·have h0:xs=[]:=aF U;rw[h0];exact⟨.inl O,fun x hx=>by cases hx⟩
    ·exact nJ HR.out 1
   have hA3: ∀a,A2=Z a->a.block<g4:=by
    intro a ha;rw[hA2] at ha;split at ha;·injection ha with ha;subst ha;show b0<g4;omega
    ·injection ha with ha;subst ha;show b0<g4;omega
   have CT:=J<|EZj fs ds hds Rx ds.length (by rw[<-hds,List.length_map]) U gl cp g4 w3.heap.size (IZ k) ⟨O,.inl O⟩ xs A2 (m-1) (c-1) hx U U w4 hrow hA3 hfl l3 l4 K4.out;generalize ds.length=n at*;clear hds hfl Rx hfo hkk b4 hx hrow hA3 hp;have EjM:=hA2.symm;replace hA2:=J hA2;go_wp2_with fail;refine(CT.out).mono ?_;rintro e' w5 ⟨b5,hpost⟩;have k2:D w5 w.heap.size (ED (IZ 0)) 183:=(b5.block _ U).trans K2.out;replace K2:=J k2;replace u:=J<|u.out.trans (b5.mono U);clear k2 b5 K4 CT;cases hR:fY ds (IZ k) xs with
   |none=> rw[hR] at hpost;obtain rfl:=hpost;have HRR:=J hR;clear hR;go_wp2_with (first|((with_reducible refine It 29 ?_);refine I3 rfl 183 _ rfl (ED (IZ 0)) ji ?_)|(with_reducible refine wS (cs:=(ED (IZ 0))) OM K2 ?_ (ho:=I_ _) (hn:=I_ _) (h1:=ZF _)));refine EV (v:=Et #[EZ (ED (IZ 0)),E I 13]) (dq OM O _ _ w.heap.size _ _ O O (K2.out.setRow _) (I_ _)) O ⟨?_,E2 u.out U _⟩;rw[HP.out,HRR.out]
   |some l'=> rw[hR] at hpost;obtain⟨rfl,hk4⟩:=hpost;have HRR:=J hR;have K4:=J hk4;clear hR hk4;go_wp2_with (with_reducible first|refine wL OM K4 ?_ (hn:=I_ _)|refine wS (cs:=(ED l')) OM K2 ?_ (ho:=I_ _) (hn:=I_ _) (h1:=ZF _));refine EV (v:=Et #[EZ (ED l'),E I 0]) (dq OM O _ _ w.heap.size _ _ O O (K2.out.setRow _) (I_ _)) O ⟨?_,E2 u.out U _⟩;rw[HP.out,HRR.out]
end Go.Proofs.YtclmichaaiohjaaGreatDoor
