import Derived.Test.YtclmichaaiohjaaGreatDoorP03
import Derived.ChangeKeysEq
import Derived.Laws.StructEq
set_option maxRecDepth 100000
set_option linter.unusedVariables false
set_option linter.unusedSimpArgs false
set_option maxHeartbeats 6400000
namespace Go.Proofs.YtclmichaaiohjaaGreatDoor
open RowKit
open Bool renaming true->G,false->Y
open Go renaming World->H,Calls->Ef,TypeId->Ez,Value->M,Addr->Et,bodyPost_ret->EQ,Oper->EK,below_setRow->E2,rounds_succ->Ib
open Act renaming put->Ic
open Ending renaming returned->Eg
open IntKind renaming i64->I,u8->IB,u64->Ip
open Lib renaming hid->J
open Obj renaming cells->EI
open Go.Proofs.Tryz renaming prog->EJ
open RowKit renaming Hid->Ea
open RowKit.Below renaming refl->E6
open Value renaming bool->Eb,int->E,agg->EU,slice->u,tuple->Es,pointer->V
open List renaming take_succ_cons->Il,take_zero->Ij,setIfInBounds_toArray->Ig,length_append->IL,set_cons_succ->IJ,set_cons_zero->IU,drop_succ_cons->Iz,drop_zero->Ix
open Nat renaming le_trans->Ey,le_refl->E5
open Option renaming some->X,none->Z
variable{g c m k d cap base gm gl:Nat}{w w':H}{A Y4 C:Option Et}{x y z xs:List Int}{T:Ez}{fs:List (FD×Nat)}
theorem nM:Og EJ 160 JU.v.toArray:=by intro ev o w ho;unfold execOp;simp only[ho];simp[go_sem];exact congrArg (fun c=>w.alloc (EI c 160)) Ec
def Im(b:Bool)(m r:Int)(key:List Int):IM:=⟨b,0,m,r,key,Z⟩
theorem EIT(r k0 k1 k2 k3 k4 k5 k6 k7 k8 k9 k10 k11 k12 k13 k14 k15 k16 k17 k18 k19 k20 k21 k22 k23 k24 k25 k26 k27 k28 vH vK vL:Int):Tryz.prog.built 160 [(1,E I r),(2,EU (Ej [k0,k1,k2,k3,k4,k5,k6,k7,k8,k9,k10,k11,k12,k13,k14,k15,k16,k17,k18,k19,k20,k21,k22,k23,k24,k25,k26,k27,k28,vH,vK,vL]))]=X (Im Y 0 r [k0,k1,k2,k3,k4,k5,k6,k7,k8,k9,k10,k11,k12,k13,k14,k15,k16,k17,k18,k19,k20,k21,k22,k23,k24,k25,k26,k27,k28,vH,vK,vL]).v.toArray:=Ec
theorem gV(r:Int)(key:List Int)(h:key.length=32):Tryz.prog.built 160 [(1,E I r),(2,EU (Ej key))]=X (Im Y 0 r key).v.toArray:=by
 match key,h with
 |[k0,k1,k2,k3,k4,k5,k6,k7,k8,k9,k10,k11,k12,k13,k14,k15,k16,k17,k18,k19,k20,k21,k22,k23,k24,k25,k26,k27,k28,vH,vK,vL],_=>exact EIT r k0 k1 k2 k3 k4 k5 k6 k7 k8 k9 k10 k11 k12 k13 k14 k15 k16 k17 k18 k19 k20 k21 k22 k23 k24 k25 k26 k27 k28 vH vK vL
theorem EIV(b:Bool)(m r:Int)(key:List Int)(hl:key.length=32)(hb: ∀x∈key,0<=x/\x<=255):(Im b m r key).ok:=⟨hl,hb,trivial⟩
def nN(T:EM)(g:Nat)(src role:Int)(key:List Int)(w:H)(e:Ending)(w':H):Prop:=
 (if(src=1\/src=2\/src=3)/\0<=role/\role<=3 then
  (if(T.ER (src-1).toNat).on=Y/\T.most<=T.Ii then e=Eg (E I 19)/\EV w' g T
   else e=Eg (E I 0)/\EV w' g (T.put (src-1).toNat (Im G (max T.E3 0) role key)))
  else e=Eg (E I 1)/\EV w' g T)/\EG g w w'
theorem EIW(g:Nat)(src role:Int)(key:List Int)(w:H)(h:src<1): Ef EJ 124 #[V (X ⟨g,0,Z⟩),E I src,E I role,EU (Ej key)] w fun e w'=>e=Eg (E I 1)/\Eh w w':=by have d1:decide (src<1)=G:=Ia h;exact Ei6
theorem EIY(g:Nat)(src role:Int)(key:List Int)(w:H)(h:3<src): Ef EJ 124 #[V (X ⟨g,0,Z⟩),E I src,E I role,EU (Ej key)] w fun e w'=>e=Eg (E I 1)/\Eh w w':=by have d1:decide (src<1)=Y:=E9 U;have d2:decide (3<src)=G:=Ia h;exact Ei6
theorem EI0(g:Nat)(src role:Int)(key:List Int)(w:H)(h1:1<=src)(h2:src<=3)(h:role<0): Ef EJ 124 #[V (X ⟨g,0,Z⟩),E I src,E I role,EU (Ej key)] w fun e w'=>e=Eg (E I 1)/\Eh w w':=by have d1:decide (src<1)=Y:=E9 U;have d2:decide (3<src)=Y:=E9 U;have d3:decide (role<0)=G:=Ia h;exact Ei6
theorem EI1(g:Nat)(src role:Int)(key:List Int)(w:H)(h1:1<=src)(h2:src<=3)(h:3<role): Ef EJ 124 #[V (X ⟨g,0,Z⟩),E I src,E I role,EU (Ej key)] w fun e w'=>e=Eg (E I 1)/\Eh w w':=by have d1:decide (src<1)=Y:=E9 U;have d2:decide (3<src)=Y:=E9 U;have d3:decide (role<0)=Y:=E9 U;have d4:decide (4<=role)=G:=Ia U;exact Ei6
theorem EG.U7{g2:Nat}{a b c:H}(h:EG g a b)(hg:a.heap.size<=g2)(k:EG g2 b c)(hb:a.heap.size<=b.heap.size):EG g a c:=
 ⟨Ey h.size k.size,fun i hi hl=>(k.keep i U (Nat.lt_of_lt_of_le hl h.size)).trans (h.keep i hi hl),fun i hi hl=>(h.bel i hi hl).trans (k.bel i U U)⟩
theorem Zo{W:H}(cs:Array M):EG g W (W.setRow g cs):=
 ⟨Ek,fun k hk _=>setRow_other W g k _ U,fun b hb hW=>E2 (g:=g) (E6 b W) hb cs⟩
theorem EI2(g:Nat)(T:EM)(role:Int)(key:List Int)(w:H)(K:EV w g T)(h:T.ok)(hr0:0<=role)(hr1:role<=3)(hk:key.length=32)(hon:(T.ER 0).on=G): Ef EJ 124 #[V (X ⟨g,0,Z⟩),E I 1,E I role,EU (Ej key)] w fun e w'=>e=Eg (E I 0)/\EV w' g (T.put 0 (Im G (max T.E3 0) role key))/\EG g w w':=by
 have d3:decide (role<0)=Y:=E9 U;have d4:decide (4<=role)=Y:=E9 U;have hof:T.of g 1=V (X ⟨g,3,Z⟩):=by exact Ej1
 have CO:Ea (∀W,EV W g T->Ef EJ 76 #[V (X ⟨g,0,Z⟩),E I 1] W fun e w'=>e=Eg (V (X ⟨g,3,Z⟩))/\W=w'):=J fun W hW=>Ba;have CM:Ea (∀W,EV W g T->Ef EJ 170 #[V (X ⟨g,0,Z⟩)] W fun e w'=>e=Eg (E I T.Ii)/\W=w'):=J fun W hW=>gM g T W hW h;have TP:=J<|fun W (k:EV W g T)=>dh k h 0 (Im G (max T.E3 0) role key) hk;have TH:=J<|fun W (k:EV W g T)=>(UR k (o:=3) (n:=39) gW);have CB:=J<|fun W (k:EV W g T)=>dg k h;have BS:=J<|gV role key hk;have CH:=J<|fun W (g9:Nat) (k:D W g9 (Im false 0 role key).v.toArray 160)=>dJ g9 0 [] ([E .i64 role]++(key.map (E .u8)++JQ Z)) (Eb Y) (E I 0) (E I 0) 160 T.E3 W k O;have HK:=J hk;have hks:Ea ((Ej key).size=32):=J gY;have SZ:=J<|show(Im G (max T.E3 0) role key).v.toArray.size=39 from IM.JG hk;have UT:=J<|show(Im Y 0 role key).v.toArray.size=39 from IM.JG hk;have S1:=J<|Xn (Im G (max T.E3 0) role key);have S0:=J<|Xn (Im Y 0 role key);have ak:=J<|show JU.v.toArray.size=39 from IM.JG O;have KT:=J K;have lg:=D.lt K;clear hof hk hon K h;obtain⟨kv,hkv⟩:=En (Ej key);rw[<-hkv] at BS hks⊢;obtain⟨si,hsi⟩:=En ((Im Y 0 role key).v.toArray);rw[<-hsi] at BS UT S0;obtain⟨sv,hsv⟩:=En ((Im G (max T.E3 0) role key).v);obtain⟨T2,Oy⟩:=En (T.put 0 (Im G (max T.E3 0) role key));rw[<-hsv,<-Oy] at TP;rw[<-Oy];rw[<-hsv] at SZ S1;have g_:=J hsv;have Xp:=J hsi;clear hkv hsi hsv Oy;go_enter Tryz.func124,Tryz.ntmps124;go_wp2_with fail;have K7:=J<|D.new w kv 41;have b1:=Eo w (EI kv 41);replace KT:=J<|KT.out.B b1;have ON:Ea (EG g w (w.alloc (EI kv 41))):=J<|EG.Eu b1;have l7:=K7.out.lt;generalize w.alloc (EI kv 41)=w1 at*;clear b1;have KX:Ea (∀y:Ext w1,EV (Ex w1 y) g T):=J fun y=>KT.out.B (EC y);have c1: ∀y:Ext w1,(Ex w1 y).cell? ⟨g,121,Z⟩=X (E I T.most):=fun y=>(CB.out _ (KX.out y)).2;refine Uv Ec Ec ?_
 repeat (first
  |go_big_quiet_skip
  |(go_big_quiet_want
    first
     |(go_big_quiet_op
       first
        |go_big_quiet_on
        |go_big_quiet_call ((with_reducible first|refine U5 (CO.out _ (KX.out _))|refine U5 (CM.out _ (KX.out _)))))))
 refine wpQuiet_nil ?_;intro _ hw';obtain⟨y9,rfl⟩:=hw';have El:=EC y9;replace KT:=J<|KT.out.B El;replace K7:=J<|K7.out.B El;replace ON:=J<|ON.out.trans (EG.Eu El);clear c1 KX CO CM El;generalize Ex w1 y9=w2 at*;go_wp2_with (first|(with_reducible refine wL JC K7 ?_ (hn:=hks.out))|((with_reducible refine In 39 ?_);refine IP rfl 160 _ rfl si BS.out ?_)|(with_reducible refine wA nM (Ed.mk ?_)));refine Ed.in ?_;have l2:=K7.out.lt;have qz:=D.lt KT.out;have b3:=Eo w2 (EI JU.v.toArray 160);replace KT:=J<|KT.out.B b3;replace ON:=J<|ON.out.trans (EG.Eu b3);have K9:=J<|D.new w2 JU.v.toArray 160;clear b3;generalize w2.alloc (EI JU.v.toArray 160)=w3 at*;generalize w2.heap.size=g9 at*;go_wp2_with (with_reducible refine wS (cs:=si) Xm K9 (Ed.mk ?_) (ho:=ak.out) (hn:=UT.out) (h1:=S0.out));refine Ed.in ?_;replace KT:=J<|show EV (w3.setRow g9 si) g T from D.setRow_other KT.out g9 si U;replace ON:=J<|ON.out.U7 (g2:=g9) U (Zo (g:=g9) (W:=w3) si) b_;replace K9:=J<|K9.out.setRow si;generalize w3.setRow g9 si=w4 at*;have c2:w4.cell? ⟨g,120,Z⟩=X (E I T.E3):=(CB.out _ KT.out).1;go_wp2_with fail;rw[Xp.out] at K9;(with_reducible refine(CH.out _ g9 K9.out).mono ?_);rintro e w5 ⟨rfl,k9,o9⟩;replace KT:=J<|show EV w5 g T from o9.Em KT.out U;replace ON:=J<|ON.out.U7 (g2:=g9) U o9 b_;have IT:Ea (D w5 g9 sv.toArray 160):=J nP;clear k9 o9 K9 c2 CH Xp;have qB:=D.lt KT.out;go_wp2_with fail;refine JB 7 Ec Ec ?_;simp only[Il,Ij,Iz,Ix]
 repeat (first
  |go_big_quiet_skip
  |(go_big_quiet_want
    first
     |(refine Oj (T:=160) (g:=g9) Xm _ rfl rfl IT ?_ ?_;(·exact SZ.out);go_simp;go_big_quiet_on)
     |(go_big_quiet_op
       first
        |go_big_quiet_on
        |go_big_quiet_call ((fail)))))
 refine wpQuiet_nil ?_;exact Eiu
theorem EI3(g:Nat)(T:EM)(role:Int)(key:List Int)(w:H)(K:EV w g T)(h:T.ok)(hr0:0<=role)(hr1:role<=3)(hk:key.length=32)(hon:(T.ER 0).on=Y)(hm:T.Ii<T.most): Ef EJ 124 #[V (X ⟨g,0,Z⟩),E I 1,E I role,EU (Ej key)] w fun e w'=>e=Eg (E I 0)/\EV w' g (T.put 0 (Im G (max T.E3 0) role key))/\EG g w w':=by
 have d3:decide (role<0)=Y:=E9 U;have d4:decide (4<=role)=Y:=E9 U;have hof:T.of g 1=V Z:=by exact Ej1
 have CO:Ea (∀W,EV W g T->Ef EJ 76 #[V (X ⟨g,0,Z⟩),E I 1] W fun e w'=>e=Eg (V Z)/\W=w'):=J fun W hW=>Ba;have CM:Ea (∀W,EV W g T->Ef EJ 170 #[V (X ⟨g,0,Z⟩)] W fun e w'=>e=Eg (E I T.Ii)/\W=w'):=J fun W hW=>gM g T W hW h;have dm:decide (T.most<=T.Ii)=Y:=E9 U;have TP:=J<|fun W (k:EV W g T)=>dh k h 0 (Im G (max T.E3 0) role key) hk;have TH:=J<|fun W (k:EV W g T)=>(UR k (o:=3) (n:=39) gW);have CB:=J<|fun W (k:EV W g T)=>dg k h;have BS:=J<|gV role key hk;have CH:=J<|fun W (g9:Nat) (k:D W g9 (Im false 0 role key).v.toArray 160)=>dJ g9 0 [] ([E .i64 role]++(key.map (E .u8)++JQ Z)) (Eb Y) (E I 0) (E I 0) 160 T.E3 W k O;have HK:=J hk;have hks:Ea ((Ej key).size=32):=J gY;have SZ:=J<|show(Im G (max T.E3 0) role key).v.toArray.size=39 from IM.JG hk;have UT:=J<|show(Im Y 0 role key).v.toArray.size=39 from IM.JG hk;have S1:=J<|Xn (Im G (max T.E3 0) role key);have S0:=J<|Xn (Im Y 0 role key);have ak:=J<|show JU.v.toArray.size=39 from IM.JG O;have KT:=J K;have lg:=D.lt K;clear hof hk hon hm K h;obtain⟨kv,hkv⟩:=En (Ej key);rw[<-hkv] at BS hks⊢;obtain⟨si,hsi⟩:=En ((Im Y 0 role key).v.toArray);rw[<-hsi] at BS UT S0;obtain⟨sv,hsv⟩:=En ((Im G (max T.E3 0) role key).v);obtain⟨T2,Oy⟩:=En (T.put 0 (Im G (max T.E3 0) role key));rw[<-hsv,<-Oy] at TP;rw[<-Oy];rw[<-hsv] at SZ S1;have g_:=J hsv;have Xp:=J hsi;clear hkv hsi hsv Oy;go_enter Tryz.func124,Tryz.ntmps124;go_wp2_with fail;have K7:=J<|D.new w kv 41;have b1:=Eo w (EI kv 41);replace KT:=J<|KT.out.B b1;have ON:Ea (EG g w (w.alloc (EI kv 41))):=J<|EG.Eu b1;have l7:=K7.out.lt;generalize w.alloc (EI kv 41)=w1 at*;clear b1;have KX:Ea (∀y:Ext w1,EV (Ex w1 y) g T):=J fun y=>KT.out.B (EC y);have c1: ∀y:Ext w1,(Ex w1 y).cell? ⟨g,121,Z⟩=X (E I T.most):=fun y=>(CB.out _ (KX.out y)).2;refine Uv Ec Ec ?_
 repeat (first
  |go_big_quiet_skip
  |(go_big_quiet_want
    first
     |(go_big_quiet_op
       first
        |go_big_quiet_on
        |go_big_quiet_call ((with_reducible first|refine U5 (CO.out _ (KX.out _))|refine U5 (CM.out _ (KX.out _)))))))
 refine wpQuiet_nil ?_;intro _ hw';obtain⟨y9,rfl⟩:=hw';have El:=EC y9;replace KT:=J<|KT.out.B El;replace K7:=J<|K7.out.B El;replace ON:=J<|ON.out.trans (EG.Eu El);clear c1 KX CO CM El;generalize Ex w1 y9=w2 at*;go_wp2_with (first|(with_reducible refine wL JC K7 ?_ (hn:=hks.out))|((with_reducible refine In 39 ?_);refine IP rfl 160 _ rfl si BS.out ?_)|(with_reducible refine wA nM (Ed.mk ?_)));refine Ed.in ?_;have l2:=K7.out.lt;have qz:=D.lt KT.out;have b3:=Eo w2 (EI JU.v.toArray 160);replace KT:=J<|KT.out.B b3;replace ON:=J<|ON.out.trans (EG.Eu b3);have K9:=J<|D.new w2 JU.v.toArray 160;clear b3;generalize w2.alloc (EI JU.v.toArray 160)=w3 at*;generalize w2.heap.size=g9 at*;go_wp2_with (with_reducible refine wS (cs:=si) Xm K9 (Ed.mk ?_) (ho:=ak.out) (hn:=UT.out) (h1:=S0.out));refine Ed.in ?_;replace KT:=J<|show EV (w3.setRow g9 si) g T from D.setRow_other KT.out g9 si U;replace ON:=J<|ON.out.U7 (g2:=g9) U (Zo (g:=g9) (W:=w3) si) b_;replace K9:=J<|K9.out.setRow si;generalize w3.setRow g9 si=w4 at*;have c2:w4.cell? ⟨g,120,Z⟩=X (E I T.E3):=(CB.out _ KT.out).1;go_wp2_with fail;rw[Xp.out] at K9;(with_reducible refine(CH.out _ g9 K9.out).mono ?_);rintro e w5 ⟨rfl,k9,o9⟩;replace KT:=J<|show EV w5 g T from o9.Em KT.out U;replace ON:=J<|ON.out.U7 (g2:=g9) U o9 b_;have IT:Ea (D w5 g9 sv.toArray 160):=J nP;clear k9 o9 K9 c2 CH Xp;have qB:=D.lt KT.out;go_wp2_with fail;refine JB 7 Ec Ec ?_;simp only[Il,Ij,Iz,Ix]
 repeat (first
  |go_big_quiet_skip
  |(go_big_quiet_want
    first
     |(refine Oj (T:=160) (g:=g9) Xm _ rfl rfl IT ?_ ?_;(·exact SZ.out);go_simp;go_big_quiet_on)
     |(go_big_quiet_op
       first
        |go_big_quiet_on
        |go_big_quiet_call ((fail)))))
 refine wpQuiet_nil ?_;exact Eiu
theorem EI4(g:Nat)(T:EM)(role:Int)(key:List Int)(w:H)(K:EV w g T)(h:T.ok)(hr0:0<=role)(hr1:role<=3)(hk:key.length=32)(hon:(T.ER 0).on=Y)(hm:T.most<=T.Ii): Ef EJ 124 #[V (X ⟨g,0,Z⟩),E I 1,E I role,EU (Ej key)] w fun e w'=>e=Eg (E I 19)/\EV w' g T/\EG g w w':=by
 have d3:decide (role<0)=Y:=E9 U;have d4:decide (4<=role)=Y:=E9 U;have hof:T.of g 1=V Z:=by exact Ej1
 have CO:Ea (∀W,EV W g T->Ef EJ 76 #[V (X ⟨g,0,Z⟩),E I 1] W fun e w'=>e=Eg (V Z)/\W=w'):=J fun W hW=>Ba;have CM:Ea (∀W,EV W g T->Ef EJ 170 #[V (X ⟨g,0,Z⟩)] W fun e w'=>e=Eg (E I T.Ii)/\W=w'):=J fun W hW=>gM g T W hW h;have dm:decide (T.most<=T.Ii)=G:=Ia hm;have TP:=J<|fun W (k:EV W g T)=>dh k h 0 (Im G (max T.E3 0) role key) hk;have TH:=J<|fun W (k:EV W g T)=>(UR k (o:=3) (n:=39) gW);have CB:=J<|fun W (k:EV W g T)=>dg k h;have BS:=J<|gV role key hk;have CH:=J<|fun W (g9:Nat) (k:D W g9 (Im false 0 role key).v.toArray 160)=>dJ g9 0 [] ([E .i64 role]++(key.map (E .u8)++JQ Z)) (Eb Y) (E I 0) (E I 0) 160 T.E3 W k O;have HK:=J hk;have hks:Ea ((Ej key).size=32):=J gY;have SZ:=J<|show(Im G (max T.E3 0) role key).v.toArray.size=39 from IM.JG hk;have UT:=J<|show(Im Y 0 role key).v.toArray.size=39 from IM.JG hk;have S1:=J<|Xn (Im G (max T.E3 0) role key);have S0:=J<|Xn (Im Y 0 role key);have ak:=J<|show JU.v.toArray.size=39 from IM.JG O;have KT:=J K;have lg:=D.lt K;clear hof hk hon hm K h;obtain⟨kv,hkv⟩:=En (Ej key);rw[<-hkv] at BS hks⊢;obtain⟨si,hsi⟩:=En ((Im Y 0 role key).v.toArray);rw[<-hsi] at BS UT S0;obtain⟨sv,hsv⟩:=En ((Im G (max T.E3 0) role key).v);obtain⟨T2,Oy⟩:=En (T.put 0 (Im G (max T.E3 0) role key));rw[<-hsv] at SZ S1;have g_:=J hsv;have Xp:=J hsi;clear hkv hsi hsv Oy TP TH;go_enter Tryz.func124,Tryz.ntmps124;go_wp2_with fail;have K7:=J<|D.new w kv 41;have b1:=Eo w (EI kv 41);replace KT:=J<|KT.out.B b1;have ON:Ea (EG g w (w.alloc (EI kv 41))):=J<|EG.Eu b1;have l7:=K7.out.lt;generalize w.alloc (EI kv 41)=w1 at*;clear b1;have KX:Ea (∀y:Ext w1,EV (Ex w1 y) g T):=J fun y=>KT.out.B (EC y);have c1: ∀y:Ext w1,(Ex w1 y).cell? ⟨g,121,Z⟩=X (E I T.most):=fun y=>(CB.out _ (KX.out y)).2;refine Uv Ec Ec ?_
 repeat (first
  |go_big_quiet_skip
  |(go_big_quiet_want
    first
     |(go_big_quiet_op
       first
        |go_big_quiet_on
        |go_big_quiet_call ((with_reducible first|refine U5 (CO.out _ (KX.out _))|refine U5 (CM.out _ (KX.out _)))))))
 refine wpQuiet_nil ?_;exact Eiy
theorem EI5(g:Nat)(T:EM)(role:Int)(key:List Int)(w:H)(K:EV w g T)(h:T.ok)(hr0:0<=role)(hr1:role<=3)(hk:key.length=32)(hon:(T.ER 1).on=G): Ef EJ 124 #[V (X ⟨g,0,Z⟩),E I 2,E I role,EU (Ej key)] w fun e w'=>e=Eg (E I 0)/\EV w' g (T.put 1 (Im G (max T.E3 0) role key))/\EG g w w':=by
 have d3:decide (role<0)=Y:=E9 U;have d4:decide (4<=role)=Y:=E9 U;have hof:T.of g 2=V (X ⟨g,42,Z⟩):=by exact Ej0
 have CO:Ea (∀W,EV W g T->Ef EJ 76 #[V (X ⟨g,0,Z⟩),E I 2] W fun e w'=>e=Eg (V (X ⟨g,42,Z⟩))/\W=w'):=J fun W hW=>Bb;have CM:Ea (∀W,EV W g T->Ef EJ 170 #[V (X ⟨g,0,Z⟩)] W fun e w'=>e=Eg (E I T.Ii)/\W=w'):=J fun W hW=>gM g T W hW h;have TP:=J<|fun W (k:EV W g T)=>dh k h 1 (Im G (max T.E3 0) role key) hk;have TH:=J<|fun W (k:EV W g T)=>(UR k (o:=42) (n:=39) gW);have CB:=J<|fun W (k:EV W g T)=>dg k h;have BS:=J<|gV role key hk;have CH:=J<|fun W (g9:Nat) (k:D W g9 (Im false 0 role key).v.toArray 160)=>dJ g9 0 [] ([E .i64 role]++(key.map (E .u8)++JQ Z)) (Eb Y) (E I 0) (E I 0) 160 T.E3 W k O;have HK:=J hk;have hks:Ea ((Ej key).size=32):=J gY;have SZ:=J<|show(Im G (max T.E3 0) role key).v.toArray.size=39 from IM.JG hk;have UT:=J<|show(Im Y 0 role key).v.toArray.size=39 from IM.JG hk;have S1:=J<|Xn (Im G (max T.E3 0) role key);have S0:=J<|Xn (Im Y 0 role key);have ak:=J<|show JU.v.toArray.size=39 from IM.JG O;have KT:=J K;have lg:=D.lt K;clear hof hk hon K h;obtain⟨kv,hkv⟩:=En (Ej key);rw[<-hkv] at BS hks⊢;obtain⟨si,hsi⟩:=En ((Im Y 0 role key).v.toArray);rw[<-hsi] at BS UT S0;obtain⟨sv,hsv⟩:=En ((Im G (max T.E3 0) role key).v);obtain⟨T2,Oy⟩:=En (T.put 1 (Im G (max T.E3 0) role key));rw[<-hsv,<-Oy] at TP;rw[<-Oy];rw[<-hsv] at SZ S1;have g_:=J hsv;have Xp:=J hsi;clear hkv hsi hsv Oy;go_enter Tryz.func124,Tryz.ntmps124;go_wp2_with fail;have K7:=J<|D.new w kv 41;have b1:=Eo w (EI kv 41);replace KT:=J<|KT.out.B b1;have ON:Ea (EG g w (w.alloc (EI kv 41))):=J<|EG.Eu b1;have l7:=K7.out.lt;generalize w.alloc (EI kv 41)=w1 at*;clear b1;have KX:Ea (∀y:Ext w1,EV (Ex w1 y) g T):=J fun y=>KT.out.B (EC y);have c1: ∀y:Ext w1,(Ex w1 y).cell? ⟨g,121,Z⟩=X (E I T.most):=fun y=>(CB.out _ (KX.out y)).2;refine Uv Ec Ec ?_
 repeat (first
  |go_big_quiet_skip
  |(go_big_quiet_want
    first
     |(go_big_quiet_op
       first
        |go_big_quiet_on
        |go_big_quiet_call ((with_reducible first|refine U5 (CO.out _ (KX.out _))|refine U5 (CM.out _ (KX.out _)))))))
 refine wpQuiet_nil ?_;intro _ hw';obtain⟨y9,rfl⟩:=hw';have El:=EC y9;replace KT:=J<|KT.out.B El;replace K7:=J<|K7.out.B El;replace ON:=J<|ON.out.trans (EG.Eu El);clear c1 KX CO CM El;generalize Ex w1 y9=w2 at*;go_wp2_with (first|(with_reducible refine wL JC K7 ?_ (hn:=hks.out))|((with_reducible refine In 39 ?_);refine IP rfl 160 _ rfl si BS.out ?_)|(with_reducible refine wA nM (Ed.mk ?_)));refine Ed.in ?_;have l2:=K7.out.lt;have qz:=D.lt KT.out;have b3:=Eo w2 (EI JU.v.toArray 160);replace KT:=J<|KT.out.B b3;replace ON:=J<|ON.out.trans (EG.Eu b3);have K9:=J<|D.new w2 JU.v.toArray 160;clear b3;generalize w2.alloc (EI JU.v.toArray 160)=w3 at*;generalize w2.heap.size=g9 at*;go_wp2_with (with_reducible refine wS (cs:=si) Xm K9 (Ed.mk ?_) (ho:=ak.out) (hn:=UT.out) (h1:=S0.out));refine Ed.in ?_;replace KT:=J<|show EV (w3.setRow g9 si) g T from D.setRow_other KT.out g9 si U;replace ON:=J<|ON.out.U7 (g2:=g9) U (Zo (g:=g9) (W:=w3) si) b_;replace K9:=J<|K9.out.setRow si;generalize w3.setRow g9 si=w4 at*;have c2:w4.cell? ⟨g,120,Z⟩=X (E I T.E3):=(CB.out _ KT.out).1;go_wp2_with fail;rw[Xp.out] at K9;(with_reducible refine(CH.out _ g9 K9.out).mono ?_);rintro e w5 ⟨rfl,k9,o9⟩;replace KT:=J<|show EV w5 g T from o9.Em KT.out U;replace ON:=J<|ON.out.U7 (g2:=g9) U o9 b_;have IT:Ea (D w5 g9 sv.toArray 160):=J nP;clear k9 o9 K9 c2 CH Xp;have qB:=D.lt KT.out;go_wp2_with fail;refine JB 7 Ec Ec ?_;simp only[Il,Ij,Iz,Ix]
 repeat (first
  |go_big_quiet_skip
  |(go_big_quiet_want
    first
     |(refine Oj (T:=160) (g:=g9) Xm _ rfl rfl IT ?_ ?_;(·exact SZ.out);go_simp;go_big_quiet_on)
     |(go_big_quiet_op
       first
        |go_big_quiet_on
        |go_big_quiet_call ((fail)))))
 refine wpQuiet_nil ?_;exact Eit
theorem EI6(g:Nat)(T:EM)(role:Int)(key:List Int)(w:H)(K:EV w g T)(h:T.ok)(hr0:0<=role)(hr1:role<=3)(hk:key.length=32)(hon:(T.ER 1).on=Y)(hm:T.Ii<T.most): Ef EJ 124 #[V (X ⟨g,0,Z⟩),E I 2,E I role,EU (Ej key)] w fun e w'=>e=Eg (E I 0)/\EV w' g (T.put 1 (Im G (max T.E3 0) role key))/\EG g w w':=by
 have d3:decide (role<0)=Y:=E9 U;have d4:decide (4<=role)=Y:=E9 U;have hof:T.of g 2=V Z:=by exact Ej0
 have CO:Ea (∀W,EV W g T->Ef EJ 76 #[V (X ⟨g,0,Z⟩),E I 2] W fun e w'=>e=Eg (V Z)/\W=w'):=J fun W hW=>Bb;have CM:Ea (∀W,EV W g T->Ef EJ 170 #[V (X ⟨g,0,Z⟩)] W fun e w'=>e=Eg (E I T.Ii)/\W=w'):=J fun W hW=>gM g T W hW h;have dm:decide (T.most<=T.Ii)=Y:=E9 U;have TP:=J<|fun W (k:EV W g T)=>dh k h 1 (Im G (max T.E3 0) role key) hk;have TH:=J<|fun W (k:EV W g T)=>(UR k (o:=42) (n:=39) gW);have CB:=J<|fun W (k:EV W g T)=>dg k h;have BS:=J<|gV role key hk;have CH:=J<|fun W (g9:Nat) (k:D W g9 (Im false 0 role key).v.toArray 160)=>dJ g9 0 [] ([E .i64 role]++(key.map (E .u8)++JQ Z)) (Eb Y) (E I 0) (E I 0) 160 T.E3 W k O;have HK:=J hk;have hks:Ea ((Ej key).size=32):=J gY;have SZ:=J<|show(Im G (max T.E3 0) role key).v.toArray.size=39 from IM.JG hk;have UT:=J<|show(Im Y 0 role key).v.toArray.size=39 from IM.JG hk;have S1:=J<|Xn (Im G (max T.E3 0) role key);have S0:=J<|Xn (Im Y 0 role key);have ak:=J<|show JU.v.toArray.size=39 from IM.JG O;have KT:=J K;have lg:=D.lt K;clear hof hk hon hm K h;obtain⟨kv,hkv⟩:=En (Ej key);rw[<-hkv] at BS hks⊢;obtain⟨si,hsi⟩:=En ((Im Y 0 role key).v.toArray);rw[<-hsi] at BS UT S0;obtain⟨sv,hsv⟩:=En ((Im G (max T.E3 0) role key).v);obtain⟨T2,Oy⟩:=En (T.put 1 (Im G (max T.E3 0) role key));rw[<-hsv,<-Oy] at TP;rw[<-Oy];rw[<-hsv] at SZ S1;have g_:=J hsv;have Xp:=J hsi;clear hkv hsi hsv Oy;go_enter Tryz.func124,Tryz.ntmps124;go_wp2_with fail;have K7:=J<|D.new w kv 41;have b1:=Eo w (EI kv 41);replace KT:=J<|KT.out.B b1;have ON:Ea (EG g w (w.alloc (EI kv 41))):=J<|EG.Eu b1;have l7:=K7.out.lt;generalize w.alloc (EI kv 41)=w1 at*;clear b1;have KX:Ea (∀y:Ext w1,EV (Ex w1 y) g T):=J fun y=>KT.out.B (EC y);have c1: ∀y:Ext w1,(Ex w1 y).cell? ⟨g,121,Z⟩=X (E I T.most):=fun y=>(CB.out _ (KX.out y)).2;refine Uv Ec Ec ?_
 repeat (first
  |go_big_quiet_skip
  |(go_big_quiet_want
    first
     |(go_big_quiet_op
       first
        |go_big_quiet_on
        |go_big_quiet_call ((with_reducible first|refine U5 (CO.out _ (KX.out _))|refine U5 (CM.out _ (KX.out _)))))))
 refine wpQuiet_nil ?_;intro _ hw';obtain⟨y9,rfl⟩:=hw';have El:=EC y9;replace KT:=J<|KT.out.B El;replace K7:=J<|K7.out.B El;replace ON:=J<|ON.out.trans (EG.Eu El);clear c1 KX CO CM El;generalize Ex w1 y9=w2 at*;go_wp2_with (first|(with_reducible refine wL JC K7 ?_ (hn:=hks.out))|((with_reducible refine In 39 ?_);refine IP rfl 160 _ rfl si BS.out ?_)|(with_reducible refine wA nM (Ed.mk ?_)));refine Ed.in ?_;have l2:=K7.out.lt;have qz:=D.lt KT.out;have b3:=Eo w2 (EI JU.v.toArray 160);replace KT:=J<|KT.out.B b3;replace ON:=J<|ON.out.trans (EG.Eu b3);have K9:=J<|D.new w2 JU.v.toArray 160;clear b3;generalize w2.alloc (EI JU.v.toArray 160)=w3 at*;generalize w2.heap.size=g9 at*;go_wp2_with (with_reducible refine wS (cs:=si) Xm K9 (Ed.mk ?_) (ho:=ak.out) (hn:=UT.out) (h1:=S0.out));refine Ed.in ?_;replace KT:=J<|show EV (w3.setRow g9 si) g T from D.setRow_other KT.out g9 si U;replace ON:=J<|ON.out.U7 (g2:=g9) U (Zo (g:=g9) (W:=w3) si) b_;replace K9:=J<|K9.out.setRow si;generalize w3.setRow g9 si=w4 at*;have c2:w4.cell? ⟨g,120,Z⟩=X (E I T.E3):=(CB.out _ KT.out).1;go_wp2_with fail;rw[Xp.out] at K9;(with_reducible refine(CH.out _ g9 K9.out).mono ?_);rintro e w5 ⟨rfl,k9,o9⟩;replace KT:=J<|show EV w5 g T from o9.Em KT.out U;replace ON:=J<|ON.out.U7 (g2:=g9) U o9 b_;have IT:Ea (D w5 g9 sv.toArray 160):=J nP;clear k9 o9 K9 c2 CH Xp;have qB:=D.lt KT.out;go_wp2_with fail;refine JB 7 Ec Ec ?_;simp only[Il,Ij,Iz,Ix]
 repeat (first
  |go_big_quiet_skip
  |(go_big_quiet_want
    first
     |(refine Oj (T:=160) (g:=g9) Xm _ rfl rfl IT ?_ ?_;(·exact SZ.out);go_simp;go_big_quiet_on)
     |(go_big_quiet_op
       first
        |go_big_quiet_on
        |go_big_quiet_call ((fail)))))
 refine wpQuiet_nil ?_;exact Eit
theorem EI7(g:Nat)(T:EM)(role:Int)(key:List Int)(w:H)(K:EV w g T)(h:T.ok)(hr0:0<=role)(hr1:role<=3)(hk:key.length=32)(hon:(T.ER 1).on=Y)(hm:T.most<=T.Ii): Ef EJ 124 #[V (X ⟨g,0,Z⟩),E I 2,E I role,EU (Ej key)] w fun e w'=>e=Eg (E I 19)/\EV w' g T/\EG g w w':=by
 have d3:decide (role<0)=Y:=E9 U;have d4:decide (4<=role)=Y:=E9 U;have hof:T.of g 2=V Z:=by exact Ej0
 have CO:Ea (∀W,EV W g T->Ef EJ 76 #[V (X ⟨g,0,Z⟩),E I 2] W fun e w'=>e=Eg (V Z)/\W=w'):=J fun W hW=>Bb;have CM:Ea (∀W,EV W g T->Ef EJ 170 #[V (X ⟨g,0,Z⟩)] W fun e w'=>e=Eg (E I T.Ii)/\W=w'):=J fun W hW=>gM g T W hW h;have dm:decide (T.most<=T.Ii)=G:=Ia hm;have TP:=J<|fun W (k:EV W g T)=>dh k h 1 (Im G (max T.E3 0) role key) hk;have TH:=J<|fun W (k:EV W g T)=>(UR k (o:=42) (n:=39) gW);have CB:=J<|fun W (k:EV W g T)=>dg k h;have BS:=J<|gV role key hk;have CH:=J<|fun W (g9:Nat) (k:D W g9 (Im false 0 role key).v.toArray 160)=>dJ g9 0 [] ([E .i64 role]++(key.map (E .u8)++JQ Z)) (Eb Y) (E I 0) (E I 0) 160 T.E3 W k O;have HK:=J hk;have hks:Ea ((Ej key).size=32):=J gY;have SZ:=J<|show(Im G (max T.E3 0) role key).v.toArray.size=39 from IM.JG hk;have UT:=J<|show(Im Y 0 role key).v.toArray.size=39 from IM.JG hk;have S1:=J<|Xn (Im G (max T.E3 0) role key);have S0:=J<|Xn (Im Y 0 role key);have ak:=J<|show JU.v.toArray.size=39 from IM.JG O;have KT:=J K;have lg:=D.lt K;clear hof hk hon hm K h;obtain⟨kv,hkv⟩:=En (Ej key);rw[<-hkv] at BS hks⊢;obtain⟨si,hsi⟩:=En ((Im Y 0 role key).v.toArray);rw[<-hsi] at BS UT S0;obtain⟨sv,hsv⟩:=En ((Im G (max T.E3 0) role key).v);obtain⟨T2,Oy⟩:=En (T.put 1 (Im G (max T.E3 0) role key));rw[<-hsv] at SZ S1;have g_:=J hsv;have Xp:=J hsi;clear hkv hsi hsv Oy TP TH;go_enter Tryz.func124,Tryz.ntmps124;go_wp2_with fail;have K7:=J<|D.new w kv 41;have b1:=Eo w (EI kv 41);replace KT:=J<|KT.out.B b1;have ON:Ea (EG g w (w.alloc (EI kv 41))):=J<|EG.Eu b1;have l7:=K7.out.lt;generalize w.alloc (EI kv 41)=w1 at*;clear b1;have KX:Ea (∀y:Ext w1,EV (Ex w1 y) g T):=J fun y=>KT.out.B (EC y);have c1: ∀y:Ext w1,(Ex w1 y).cell? ⟨g,121,Z⟩=X (E I T.most):=fun y=>(CB.out _ (KX.out y)).2;refine Uv Ec Ec ?_
 repeat (first
  |go_big_quiet_skip
  |(go_big_quiet_want
    first
     |(go_big_quiet_op
       first
        |go_big_quiet_on
        |go_big_quiet_call ((with_reducible first|refine U5 (CO.out _ (KX.out _))|refine U5 (CM.out _ (KX.out _)))))))
 refine wpQuiet_nil ?_;exact Eiy
theorem EI8(g:Nat)(T:EM)(role:Int)(key:List Int)(w:H)(K:EV w g T)(h:T.ok)(hr0:0<=role)(hr1:role<=3)(hk:key.length=32)(hon:(T.ER 2).on=G): Ef EJ 124 #[V (X ⟨g,0,Z⟩),E I 3,E I role,EU (Ej key)] w fun e w'=>e=Eg (E I 0)/\EV w' g (T.put 2 (Im G (max T.E3 0) role key))/\EG g w w':=by
 have d3:decide (role<0)=Y:=E9 U;have d4:decide (4<=role)=Y:=E9 U;have hof:T.of g 3=V (X ⟨g,81,Z⟩):=by exact EjY
 have CO:Ea (∀W,EV W g T->Ef EJ 76 #[V (X ⟨g,0,Z⟩),E I 3] W fun e w'=>e=Eg (V (X ⟨g,81,Z⟩))/\W=w'):=J fun W hW=>Bc;have CM:Ea (∀W,EV W g T->Ef EJ 170 #[V (X ⟨g,0,Z⟩)] W fun e w'=>e=Eg (E I T.Ii)/\W=w'):=J fun W hW=>gM g T W hW h;have TP:=J<|fun W (k:EV W g T)=>dh k h 2 (Im G (max T.E3 0) role key) hk;have TH:=J<|fun W (k:EV W g T)=>(UR k (o:=81) (n:=39) gW);have CB:=J<|fun W (k:EV W g T)=>dg k h;have BS:=J<|gV role key hk;have CH:=J<|fun W (g9:Nat) (k:D W g9 (Im false 0 role key).v.toArray 160)=>dJ g9 0 [] ([E .i64 role]++(key.map (E .u8)++JQ Z)) (Eb Y) (E I 0) (E I 0) 160 T.E3 W k O;have HK:=J hk;have hks:Ea ((Ej key).size=32):=J gY;have SZ:=J<|show(Im G (max T.E3 0) role key).v.toArray.size=39 from IM.JG hk;have UT:=J<|show(Im Y 0 role key).v.toArray.size=39 from IM.JG hk;have S1:=J<|Xn (Im G (max T.E3 0) role key);have S0:=J<|Xn (Im Y 0 role key);have ak:=J<|show JU.v.toArray.size=39 from IM.JG O;have KT:=J K;have lg:=D.lt K;clear hof hk hon K h;obtain⟨kv,hkv⟩:=En (Ej key);rw[<-hkv] at BS hks⊢;obtain⟨si,hsi⟩:=En ((Im Y 0 role key).v.toArray);rw[<-hsi] at BS UT S0;obtain⟨sv,hsv⟩:=En ((Im G (max T.E3 0) role key).v);obtain⟨T2,Oy⟩:=En (T.put 2 (Im G (max T.E3 0) role key));rw[<-hsv,<-Oy] at TP;rw[<-Oy];rw[<-hsv] at SZ S1;have g_:=J hsv;have Xp:=J hsi;clear hkv hsi hsv Oy;go_enter Tryz.func124,Tryz.ntmps124;go_wp2_with fail;have K7:=J<|D.new w kv 41;have b1:=Eo w (EI kv 41);replace KT:=J<|KT.out.B b1;have ON:Ea (EG g w (w.alloc (EI kv 41))):=J<|EG.Eu b1;have l7:=K7.out.lt;generalize w.alloc (EI kv 41)=w1 at*;clear b1;have KX:Ea (∀y:Ext w1,EV (Ex w1 y) g T):=J fun y=>KT.out.B (EC y);have c1: ∀y:Ext w1,(Ex w1 y).cell? ⟨g,121,Z⟩=X (E I T.most):=fun y=>(CB.out _ (KX.out y)).2;refine Uv Ec Ec ?_
 repeat (first
  |go_big_quiet_skip
  |(go_big_quiet_want
    first
     |(go_big_quiet_op
       first
        |go_big_quiet_on
        |go_big_quiet_call ((with_reducible first|refine U5 (CO.out _ (KX.out _))|refine U5 (CM.out _ (KX.out _)))))))
 refine wpQuiet_nil ?_;intro _ hw';obtain⟨y9,rfl⟩:=hw';have El:=EC y9;replace KT:=J<|KT.out.B El;replace K7:=J<|K7.out.B El;replace ON:=J<|ON.out.trans (EG.Eu El);clear c1 KX CO CM El;generalize Ex w1 y9=w2 at*;go_wp2_with (first|(with_reducible refine wL JC K7 ?_ (hn:=hks.out))|((with_reducible refine In 39 ?_);refine IP rfl 160 _ rfl si BS.out ?_)|(with_reducible refine wA nM (Ed.mk ?_)));refine Ed.in ?_;have l2:=K7.out.lt;have qz:=D.lt KT.out;have b3:=Eo w2 (EI JU.v.toArray 160);replace KT:=J<|KT.out.B b3;replace ON:=J<|ON.out.trans (EG.Eu b3);have K9:=J<|D.new w2 JU.v.toArray 160;clear b3;generalize w2.alloc (EI JU.v.toArray 160)=w3 at*;generalize w2.heap.size=g9 at*;go_wp2_with (with_reducible refine wS (cs:=si) Xm K9 (Ed.mk ?_) (ho:=ak.out) (hn:=UT.out) (h1:=S0.out));refine Ed.in ?_;replace KT:=J<|show EV (w3.setRow g9 si) g T from D.setRow_other KT.out g9 si U;replace ON:=J<|ON.out.U7 (g2:=g9) U (Zo (g:=g9) (W:=w3) si) b_;replace K9:=J<|K9.out.setRow si;generalize w3.setRow g9 si=w4 at*;have c2:w4.cell? ⟨g,120,Z⟩=X (E I T.E3):=(CB.out _ KT.out).1;go_wp2_with fail;rw[Xp.out] at K9;(with_reducible refine(CH.out _ g9 K9.out).mono ?_);rintro e w5 ⟨rfl,k9,o9⟩;replace KT:=J<|show EV w5 g T from o9.Em KT.out U;replace ON:=J<|ON.out.U7 (g2:=g9) U o9 b_;have IT:Ea (D w5 g9 sv.toArray 160):=J nP;clear k9 o9 K9 c2 CH Xp;have qB:=D.lt KT.out;go_wp2_with fail;refine JB 7 Ec Ec ?_;simp only[Il,Ij,Iz,Ix]
 repeat (first
  |go_big_quiet_skip
  |(go_big_quiet_want
    first
     |(refine Oj (T:=160) (g:=g9) Xm _ rfl rfl IT ?_ ?_;(·exact SZ.out);go_simp;go_big_quiet_on)
     |(go_big_quiet_op
       first
        |go_big_quiet_on
        |go_big_quiet_call ((fail)))))
 refine wpQuiet_nil ?_;exact Eis
theorem EI9(g:Nat)(T:EM)(role:Int)(key:List Int)(w:H)(K:EV w g T)(h:T.ok)(hr0:0<=role)(hr1:role<=3)(hk:key.length=32)(hon:(T.ER 2).on=Y)(hm:T.Ii<T.most): Ef EJ 124 #[V (X ⟨g,0,Z⟩),E I 3,E I role,EU (Ej key)] w fun e w'=>e=Eg (E I 0)/\EV w' g (T.put 2 (Im G (max T.E3 0) role key))/\EG g w w':=by
 have d3:decide (role<0)=Y:=E9 U;have d4:decide (4<=role)=Y:=E9 U;have hof:T.of g 3=V Z:=by exact EjY
 have CO:Ea (∀W,EV W g T->Ef EJ 76 #[V (X ⟨g,0,Z⟩),E I 3] W fun e w'=>e=Eg (V Z)/\W=w'):=J fun W hW=>Bc;have CM:Ea (∀W,EV W g T->Ef EJ 170 #[V (X ⟨g,0,Z⟩)] W fun e w'=>e=Eg (E I T.Ii)/\W=w'):=J fun W hW=>gM g T W hW h;have dm:decide (T.most<=T.Ii)=Y:=E9 U;have TP:=J<|fun W (k:EV W g T)=>dh k h 2 (Im G (max T.E3 0) role key) hk;have TH:=J<|fun W (k:EV W g T)=>(UR k (o:=81) (n:=39) gW);have CB:=J<|fun W (k:EV W g T)=>dg k h;have BS:=J<|gV role key hk;have CH:=J<|fun W (g9:Nat) (k:D W g9 (Im false 0 role key).v.toArray 160)=>dJ g9 0 [] ([E .i64 role]++(key.map (E .u8)++JQ Z)) (Eb Y) (E I 0) (E I 0) 160 T.E3 W k O;have HK:=J hk;have hks:Ea ((Ej key).size=32):=J gY;have SZ:=J<|show(Im G (max T.E3 0) role key).v.toArray.size=39 from IM.JG hk;have UT:=J<|show(Im Y 0 role key).v.toArray.size=39 from IM.JG hk;have S1:=J<|Xn (Im G (max T.E3 0) role key);have S0:=J<|Xn (Im Y 0 role key);have ak:=J<|show JU.v.toArray.size=39 from IM.JG O;have KT:=J K;have lg:=D.lt K;clear hof hk hon hm K h;obtain⟨kv,hkv⟩:=En (Ej key);rw[<-hkv] at BS hks⊢;obtain⟨si,hsi⟩:=En ((Im Y 0 role key).v.toArray);rw[<-hsi] at BS UT S0;obtain⟨sv,hsv⟩:=En ((Im G (max T.E3 0) role key).v);obtain⟨T2,Oy⟩:=En (T.put 2 (Im G (max T.E3 0) role key));rw[<-hsv,<-Oy] at TP;rw[<-Oy];rw[<-hsv] at SZ S1;have g_:=J hsv;have Xp:=J hsi;clear hkv hsi hsv Oy;go_enter Tryz.func124,Tryz.ntmps124;go_wp2_with fail;have K7:=J<|D.new w kv 41;have b1:=Eo w (EI kv 41);replace KT:=J<|KT.out.B b1;have ON:Ea (EG g w (w.alloc (EI kv 41))):=J<|EG.Eu b1;have l7:=K7.out.lt;generalize w.alloc (EI kv 41)=w1 at*;clear b1;have KX:Ea (∀y:Ext w1,EV (Ex w1 y) g T):=J fun y=>KT.out.B (EC y);have c1: ∀y:Ext w1,(Ex w1 y).cell? ⟨g,121,Z⟩=X (E I T.most):=fun y=>(CB.out _ (KX.out y)).2;refine Uv Ec Ec ?_
 repeat (first
  |go_big_quiet_skip
  |(go_big_quiet_want
    first
     |(go_big_quiet_op
       first
        |go_big_quiet_on
        |go_big_quiet_call ((with_reducible first|refine U5 (CO.out _ (KX.out _))|refine U5 (CM.out _ (KX.out _)))))))
 refine wpQuiet_nil ?_;intro _ hw';obtain⟨y9,rfl⟩:=hw';have El:=EC y9;replace KT:=J<|KT.out.B El;replace K7:=J<|K7.out.B El;replace ON:=J<|ON.out.trans (EG.Eu El);clear c1 KX CO CM El;generalize Ex w1 y9=w2 at*;go_wp2_with (first|(with_reducible refine wL JC K7 ?_ (hn:=hks.out))|((with_reducible refine In 39 ?_);refine IP rfl 160 _ rfl si BS.out ?_)|(with_reducible refine wA nM (Ed.mk ?_)));refine Ed.in ?_;have l2:=K7.out.lt;have qz:=D.lt KT.out;have b3:=Eo w2 (EI JU.v.toArray 160);replace KT:=J<|KT.out.B b3;replace ON:=J<|ON.out.trans (EG.Eu b3);have K9:=J<|D.new w2 JU.v.toArray 160;clear b3;generalize w2.alloc (EI JU.v.toArray 160)=w3 at*;generalize w2.heap.size=g9 at*;go_wp2_with (with_reducible refine wS (cs:=si) Xm K9 (Ed.mk ?_) (ho:=ak.out) (hn:=UT.out) (h1:=S0.out));refine Ed.in ?_;replace KT:=J<|show EV (w3.setRow g9 si) g T from D.setRow_other KT.out g9 si U;replace ON:=J<|ON.out.U7 (g2:=g9) U (Zo (g:=g9) (W:=w3) si) b_;replace K9:=J<|K9.out.setRow si;generalize w3.setRow g9 si=w4 at*;have c2:w4.cell? ⟨g,120,Z⟩=X (E I T.E3):=(CB.out _ KT.out).1;go_wp2_with fail;rw[Xp.out] at K9;(with_reducible refine(CH.out _ g9 K9.out).mono ?_);rintro e w5 ⟨rfl,k9,o9⟩;replace KT:=J<|show EV w5 g T from o9.Em KT.out U;replace ON:=J<|ON.out.U7 (g2:=g9) U o9 b_;have IT:Ea (D w5 g9 sv.toArray 160):=J nP;clear k9 o9 K9 c2 CH Xp;have qB:=D.lt KT.out;go_wp2_with fail;refine JB 7 Ec Ec ?_;simp only[Il,Ij,Iz,Ix]
 repeat (first
  |go_big_quiet_skip
  |(go_big_quiet_want
    first
     |(refine Oj (T:=160) (g:=g9) Xm _ rfl rfl IT ?_ ?_;(·exact SZ.out);go_simp;go_big_quiet_on)
     |(go_big_quiet_op
       first
        |go_big_quiet_on
        |go_big_quiet_call ((fail)))))
 refine wpQuiet_nil ?_;exact Eis
theorem EI_(g:Nat)(T:EM)(role:Int)(key:List Int)(w:H)(K:EV w g T)(h:T.ok)(hr0:0<=role)(hr1:role<=3)(hk:key.length=32)(hon:(T.ER 2).on=Y)(hm:T.most<=T.Ii): Ef EJ 124 #[V (X ⟨g,0,Z⟩),E I 3,E I role,EU (Ej key)] w fun e w'=>e=Eg (E I 19)/\EV w' g T/\EG g w w':=by
 have d3:decide (role<0)=Y:=E9 U;have d4:decide (4<=role)=Y:=E9 U;have hof:T.of g 3=V Z:=by exact EjY
 have CO:Ea (∀W,EV W g T->Ef EJ 76 #[V (X ⟨g,0,Z⟩),E I 3] W fun e w'=>e=Eg (V Z)/\W=w'):=J fun W hW=>Bc;have CM:Ea (∀W,EV W g T->Ef EJ 170 #[V (X ⟨g,0,Z⟩)] W fun e w'=>e=Eg (E I T.Ii)/\W=w'):=J fun W hW=>gM g T W hW h;have dm:decide (T.most<=T.Ii)=G:=Ia hm;have TP:=J<|fun W (k:EV W g T)=>dh k h 2 (Im G (max T.E3 0) role key) hk;have TH:=J<|fun W (k:EV W g T)=>(UR k (o:=81) (n:=39) gW);have CB:=J<|fun W (k:EV W g T)=>dg k h;have BS:=J<|gV role key hk;have CH:=J<|fun W (g9:Nat) (k:D W g9 (Im false 0 role key).v.toArray 160)=>dJ g9 0 [] ([E .i64 role]++(key.map (E .u8)++JQ Z)) (Eb Y) (E I 0) (E I 0) 160 T.E3 W k O;have HK:=J hk;have hks:Ea ((Ej key).size=32):=J gY;have SZ:=J<|show(Im G (max T.E3 0) role key).v.toArray.size=39 from IM.JG hk;have UT:=J<|show(Im Y 0 role key).v.toArray.size=39 from IM.JG hk;have S1:=J<|Xn (Im G (max T.E3 0) role key);have S0:=J<|Xn (Im Y 0 role key);have ak:=J<|show JU.v.toArray.size=39 from IM.JG O;have KT:=J K;have lg:=D.lt K;clear hof hk hon hm K h;obtain⟨kv,hkv⟩:=En (Ej key);rw[<-hkv] at BS hks⊢;obtain⟨si,hsi⟩:=En ((Im Y 0 role key).v.toArray);rw[<-hsi] at BS UT S0;obtain⟨sv,hsv⟩:=En ((Im G (max T.E3 0) role key).v);obtain⟨T2,Oy⟩:=En (T.put 2 (Im G (max T.E3 0) role key));rw[<-hsv] at SZ S1;have g_:=J hsv;have Xp:=J hsi;clear hkv hsi hsv Oy TP TH;go_enter Tryz.func124,Tryz.ntmps124;go_wp2_with fail;have K7:=J<|D.new w kv 41;have b1:=Eo w (EI kv 41);replace KT:=J<|KT.out.B b1;have ON:Ea (EG g w (w.alloc (EI kv 41))):=J<|EG.Eu b1;have l7:=K7.out.lt;generalize w.alloc (EI kv 41)=w1 at*;clear b1;have KX:Ea (∀y:Ext w1,EV (Ex w1 y) g T):=J fun y=>KT.out.B (EC y);have c1: ∀y:Ext w1,(Ex w1 y).cell? ⟨g,121,Z⟩=X (E I T.most):=fun y=>(CB.out _ (KX.out y)).2;refine Uv Ec Ec ?_
 repeat (first
  |go_big_quiet_skip
  |(go_big_quiet_want
    first
     |(go_big_quiet_op
       first
        |go_big_quiet_on
        |go_big_quiet_call ((with_reducible first|refine U5 (CO.out _ (KX.out _))|refine U5 (CM.out _ (KX.out _)))))))
 refine wpQuiet_nil ?_;exact Eiy
theorem EJE(g:Nat)(T:EM)(src role:Int)(key:List Int)(w:H)(K:EV w g T)(h:T.ok)(hk:key.length=32): Ef EJ 124 #[V (X ⟨g,0,Z⟩),E I src,E I role,EU (Ej key)] w (nN T g src role key w):=by
 have hbad: ∀(e:Ending) (w':H),¬((src=1\/src=2\/src=3)/\0<=role/\role<=3)->e=Eg (E I 1)/\Eh w w'->nN T g src role key w e w':=by intro e w' hn ⟨he,hb⟩;unfold nN;rw[if_neg hn];exact⟨⟨he,K.B hb⟩,EG.Eu hb⟩
 by_cases h1:src<1;·exact(EIW g src role key w h1).mono fun e w' hp=>hbad e w' U hp
 by_cases h2:3<src;·exact(EIY g src role key w h2).mono fun e w' hp=>hbad e w' U hp
 by_cases h3:role<0;·exact(EI0 g src role key w U U h3).mono fun e w' hp=>hbad e w' U hp
 by_cases h4:3<role;·exact(EI1 g src role key w U U h4).mono fun e w' hp=>hbad e w' U hp
 have hs:src=1\/src=2\/src=3:=U;have hg:(src=1\/src=2\/src=3)/\0<=role/\role<=3:=⟨hs,U,U⟩;unfold nN;simp only[if_pos hg];rcases hs with rfl|rfl|rfl
 ·show Ef _ _ _ _ fun e w'=>(if(T.ER 0).on=Y/\T.most<=T.Ii then e=Eg (E I 19)/\EV w' g T else e=Eg (E I 0)/\EV w' g (T.put 0 (Im G (max T.E3 0) role key)))/\EG g w w'
  cases hon:(T.ER 0).on with
  |true=>exact(EI2 g T role key w K h U U hk hon).mono fun e w' ⟨a,b,c⟩=>⟨by rw[if_neg (fun h=>vM)];exact⟨a,b⟩,c⟩
  |false=>
   by_cases hm:T.most<=T.Ii;·exact(EI4 g T role key w K h U U hk hon hm).mono fun e w' ⟨a,b,c⟩=>⟨Bd,c⟩
   ·exact(EI3 g T role key w K h U U hk hon U).mono fun e w' ⟨a,b,c⟩=>⟨Bf,c⟩
 ·show Ef _ _ _ _ fun e w'=>(if(T.ER 1).on=Y/\T.most<=T.Ii then e=Eg (E I 19)/\EV w' g T else e=Eg (E I 0)/\EV w' g (T.put 1 (Im G (max T.E3 0) role key)))/\EG g w w'
  cases hon:(T.ER 1).on with
  |true=>exact(EI5 g T role key w K h U U hk hon).mono fun e w' ⟨a,b,c⟩=>⟨by rw[if_neg (fun h=>vM)];exact⟨a,b⟩,c⟩
  |false=>
   by_cases hm:T.most<=T.Ii;·exact(EI7 g T role key w K h U U hk hon hm).mono fun e w' ⟨a,b,c⟩=>⟨Bd,c⟩
   ·exact(EI6 g T role key w K h U U hk hon U).mono fun e w' ⟨a,b,c⟩=>⟨Bf,c⟩
 ·show Ef _ _ _ _ fun e w'=>(if(T.ER 2).on=Y/\T.most<=T.Ii then e=Eg (E I 19)/\EV w' g T else e=Eg (E I 0)/\EV w' g (T.put 2 (Im G (max T.E3 0) role key)))/\EG g w w'
  cases hon:(T.ER 2).on with
  |true=>exact(EI8 g T role key w K h U U hk hon).mono fun e w' ⟨a,b,c⟩=>⟨by rw[if_neg (fun h=>vM)];exact⟨a,b⟩,c⟩
  |false=>
   by_cases hm:T.most<=T.Ii;·exact(EI_ g T role key w K h U U hk hon hm).mono fun e w' ⟨a,b,c⟩=>⟨Bd,c⟩
   ·exact(EI9 g T role key w K h U U hk hon U).mono fun e w' ⟨a,b,c⟩=>⟨Bf,c⟩
theorem Mr(a:Option Et)(c:Nat)(W:H):(Instr.arrayAt 115 (u a 8 c)).run EJ W= .ok (V a) W:=by simp[Instr.arrayAt,run_underlying Tryz.underlying115]
theorem EJI(l:List Int)(k:Nat):(Ej l).extract 0 (0+k)=Ej (l.take k):=by simp[Ej]
theorem Bg(A Y4:Option Et)(k b:List Int)(n m c d:Nat)(w:H)(hn:k.length=n)(hm:b.length=m)(hk:Row w A k)(hb:Row w Y4 b)(hl:n<=10000000)(hl2:m<=10000000)(hR:Jc w): Ef EJ 210 #[u A n c,u Y4 m d] w fun e w'=>e=Eg (EU (Ej ((Jy k b).take 8)))/\Eh w w':=by have C:=fun(W:H) (hb':Eh w W)=>Mq A Y4 k b n m c d W hn hm (Iq hk hb') (Iq hb hb') hl hl2 (hR.B hb');have AL:=jX k b;generalize Jy k b=ans at*;have Ms:=J AL;have C2:=J C;have T8:Ea ((ans.take 8).length=8):=J (by rw[List.length_take,Ms.out];rfl);have Mt:=Mr;clear C AL hk hb hR hn hm;go_enter Tryz.func210,Tryz.ntmps210;go_wp2_with (with_reducible refine wA kR (Ed.mk ?_));refine Ed.in ?_;have BB:=J<|E6 w.heap.size w;have bel:=Eo w (EI (Ej (Er 8)) 115);replace BB:=ET BB bel;have K4:=J<|D.new w (Ej (Er 8)) 115;clear bel;generalize w.alloc (EI (Ej (Er 8)) 115)=w1 at*;go_wp2_with fail;(with_reducible refine(C2.out _ BB.out).mono ?_);rintro e w2 ⟨rfl,b2⟩;replace K4:=J<|K4.out.B b2;replace BB:=ET BB b2;have l2:=K4.out.lt;clear b2 C2;go_wp2_with (with_reducible refine wA Zl (Ed.mk ?_));refine Ed.in ?_;have bel:=Eo w2 (EI (Ej (Er 32)) 41);replace K4:=J<|K4.out.B bel;replace BB:=ET BB bel;have K5:=J<|D.new w2 (Ej (Er 32)) 41;clear bel;generalize w2.alloc (EI (Ej (Er 32)) 41)=w3 at*;generalize w2.heap.size=g5 at*;go_wp2_with (with_reducible refine wS (cs:=Ej ans) JC K5 (Ed.mk ?_) (ho:=Uh) (hn:=by with_unfolding_all (rw[JV,Ms.out])) (h1:=Uw _));refine Ed.in ?_;replace K4:=J<|K4.out.setRow_other g5 (Ej ans) U;replace K5:=J<|K5.out.setRow (Ej ans);replace BB:=J<|E2 (g:=g5) BB.out U (Ej ans);generalize w3.setRow g5 (Ej ans)=w4 at*;go_wp2_with (with_reducible first|refine wM (off:=0) (cs:=Ej (ans.take 8)) XT K5 ?_ (hn:=Bh) (he:=EJI _ _)|refine wS (cs:=Ej (ans.take 8)) XT K4 ?_ (ho:=Uh) (hn:=Bh) (h1:=Uw _));refine EQ (v:=EU (Ej (ans.take 8))) (Jb XT O _ _ (w.heap.size) _ O (K4.out.setRow _) (by rw[JV,T8.out])) O ⟨O,E2 BB.out U _⟩
theorem Mu(n:Int)(k:Nat)(m:Int)(hk:k<=63)(hm:IntKind.u64.wrap (IntKind.u64.wrap (2^k)-1)=m)(hd:(2:Int)^k∣18446744073709551616):bits .and .u64 (IntKind.u64.wrap n) m=n%2^k:=by
 have e:IntKind.u64.wrap n=n%18446744073709551616:=by unfold IntKind.wrap;rfl
 rw[e,<-hm,Lh k hk _ U U];exact Int.emod_emod_of_dvd n hd
theorem EJJ(n:Int):bits .and .u64 (IntKind.u64.wrap n) 255=n%256:=Mu n 8 255 U EZ EZ
theorem EJO(n:Int):bits .and .u64 (IntKind.u64.wrap n) 4294967295=n%4294967296:=Mu n 32 4294967295 U EZ EZ
theorem qC(g m c:Nat)(cs:Array M)(ps:List (List Int))(w:H)(hm:ps.length=m)(hk:D w g cs 23)(hp:bO w cs ps)(hs:ps.flatten.length<=100000000)(hm2:m<=1000): Ef EJ 172 #[u (X ⟨g,0,Z⟩) m c] w fun e w'=>(∃A d,e=Eg (u A ps.flatten.length d)/\Own w' w.heap.size A d ps.flatten)/\Eh w w':=by
 have HM:=J hm;have HK:=J hk;have HP:=J hp;have HS:=J hs;clear hm hk hp hs;go_enter Tryz.func172,Tryz.ntmps172;go_wp2_with fail;go_loopw[3,8] (fun x y wr=> ∃(i:Nat) (A:Option Et) (d n:Nat),i<=m/\y=E I i/\x=u A n d/\(ps.take i).flatten.length=n/\Own wr w.heap.size A d (ps.take i).flatten/\Eh w wr) (fun _ y _=>m-(intOf y).toNat);case atStart=>exact⟨0,Z,0,0,U,O,O,O,XJ _ _,E6 _ _⟩
 case round=>
  obtain⟨i,A,d,n,hi,rfl,rfl,hn,ho,BB⟩:=hrel;by_cases hlt:i<m
  ·have hil:i<ps.length:=AY;obtain⟨Y4,c2,e2,r2⟩:=HP.out.2 i hil;have ck:=(HK.out.B BB).cell i;rw[e2] at ck;have hst:(ps.take (i+1)).flatten=(ps.take i).flatten++ps[i]:=Md;have hle:(ps.take (i+1)).flatten.length<=100000000:=by have h1:=HS.out;have h2:ps.flatten=(ps.take (i+1)).flatten++(ps.drop (i+1)).flatten:=Mf;rw[h2,IL] at h1;omega
   rw[hst,IL] at hle;exact Eir
  ·exact Ej2
theorem EJU{n:Nat}(hn:x.length=n)(hx:Row w A x):bO w #[u A n c] [x]:=by
 subst hn;refine⟨O,fun i hi=> ?_⟩;match i,hi with
 |0,_=>exact⟨A,c,O,hx⟩
theorem Mv{n e:Nat}(hn:x.length=n)(hm:y.length=m)(hk:z.length=k)(hx:Row w A x)(hy:Row w Y4 y)(hz:Row w C z):bO w #[u A n c,u Y4 m d,u C k e] [x,y,z]:=by
 subst hn hm hk;refine⟨O,fun i hi=> ?_⟩;match i,hi with
 |0,_=>exact⟨A,c,O,hx⟩
 |1,_=>exact⟨Y4,d,O,hy⟩
 |2,_=>exact⟨C,e,O,hz⟩
theorem EJX{Y_:Option Et}{n l e f:Nat}{Y3:List Int}(hn:x.length=n)(hm:y.length=m)(hk:z.length=k)(hl:Y3.length=l)(hx:Row w A x)(hy:Row w Y4 y)(hz:Row w C z)(hu:Row w Y_ Y3):bO w #[u A n c,u Y4 m d,u C k e,u Y_ l f] [x,y,z,Y3]:=by
 subst hn hm hk hl;refine⟨O,fun i hi=> ?_⟩;match i,hi with
 |0,_=>exact⟨A,c,O,hx⟩
 |1,_=>exact⟨Y4,d,O,hy⟩
 |2,_=>exact⟨C,e,O,hz⟩
 |3,_=>exact⟨Y_,f,O,hu⟩
theorem vN(n:Int)(w:H): Ef EJ 211 #[E I n,E I 1] w fun e w'=>(∃g,e=Eg (u (X ⟨g,0,Z⟩) 1 1)/\Row w' (X ⟨g,0,Z⟩) (be (n%256) 1))/\Eh w w':=by have h1:=EJJ n;have hp:Ef EJ 111 #[E Ip (n%256),E I 1] w fun e w'=>e=Eg (Es #[u (X ⟨w.heap.size,0,Z⟩) 1 1,E I 0])/\Row w' (X ⟨w.heap.size,0,Z⟩) (be (n%256) 1)/\Eh w w':=gG (n%256) 1 w U U U (by show n%256/256=0;omega);generalize be (n%256) 1=b at*;generalize n%256=m at*;exact Ejn
theorem EJZ(n:Int)(w:H): Ef EJ 211 #[E I n,E I 4] w fun e w'=>(∃g,e=Eg (u (X ⟨g,0,Z⟩) 4 4)/\Row w' (X ⟨g,0,Z⟩) (be (n%4294967296) 4))/\Eh w w':=by have h1:=EJO n;have hp:Ef EJ 111 #[E Ip (n%4294967296),E I 4] w fun e w'=>e=Eg (Es #[u (X ⟨w.heap.size,0,Z⟩) 4 4,E I 0])/\Row w' (X ⟨w.heap.size,0,Z⟩) (be (n%4294967296) 4)/\Eh w w':=gG (n%4294967296) 4 w U U U (by show n%4294967296/4294967296=0;omega);generalize be (n%4294967296) 4=b at*;generalize n%4294967296=m at*;exact Ejn
theorem Row.B(h:Row w A xs)(hb:Eh w w'):Row w' A xs:=Iq h hb
def J8(y s r:Int)(nc:List Int):List Int:=[[y],be (s%256) 1,be (r%256) 1,nc].flatten
def al(s q:Int):List Int:=[[78],be (s%256) 1,be (q%4294967296) 4].flatten
def jb(s:Int)(b:List Int):List Int:=[[77],be (s%256) 1,b].flatten
theorem Bi(y s r:Int)(nc:List Int)(h:nc.length=8):(J8 y s r nc).length=11:=by simp[J8,Oi,h]
theorem EJa(s q:Int):(al s q).length=6:=by simp[al,Oi]
theorem Mw(s:Int)(b:List Int):(jb s b).length=2+b.length:=by simp[jb,Oi];omega
theorem Bj{y:Int}(h:D w g #[E IB y] T)(hy:0<=y/\y<=255):Row w (X ⟨g,0,Z⟩) [y]:=EIN h O (by intro x hx;simp at hx;subst hx;exact hy)
def vP(y s r:Int)(nc:List Int)(g7:Nat)(i:Nat)(v:M)(w:H):Prop:=match i with
 |0=>v=E IB y
 |1=> ∃g,v=u (X ⟨g,0,Z⟩) 1 1/\Row w (X ⟨g,0,Z⟩) [y]
 |2=>v=E I s
 |3=> ∃g,v=u (X ⟨g,0,Z⟩) 1 1/\Row w (X ⟨g,0,Z⟩) (be (s%256) 1)
 |4=>v=E I r
 |5=> ∃g,v=u (X ⟨g,0,Z⟩) 1 1/\Row w (X ⟨g,0,Z⟩) (be (r%256) 1)
 |6=>v=u (X ⟨g7,0,Z⟩) 8 8
 |7=> ∃g cs,v=u (X ⟨g,0,Z⟩) 4 4/\D w g cs 23/\bO w cs [[y],be (s%256) 1,be (r%256) 1,nc]
 |_=> ∃A d,v=u A 11 d/\Row w A (J8 y s r nc)
theorem EJb(y s r:Int)(nc:List Int)(g7:Nat): ∀i v w w',i<10->vP y s r nc g7 i v w->Jr w w'->vP y s r nc g7 i v w':=by
 intro i v w w' hi h hb;unfold vP at*;split at h;case h_2|h_4|h_6=>obtain⟨g,e,k⟩:=h;exact⟨g,e,k.B hb⟩
 case h_8=> exact Emz
 case h_9=>obtain⟨g,d,e,k⟩:=h;exact⟨g,d,e,k.B hb⟩
 all_goals exact h
theorem Mx(y s r:Int)(nc:List Int)(hl:nc.length=8)(hb: ∀x∈nc,0<=x/\x<=255)(hy:0<=y/\y<=255)(w:H): Ef EJ 214 #[E IB y,E I s,E I r,EU (Ej nc)] w fun e w'=>(∃A d,e=Eg (u A 11 d)/\Row w' A (J8 y s r nc))/\Eh w w':=by
 have HL:=J hl;have HB:=J hb;have HY:=J hy;clear hl hb hy;go_enter Tryz.func214,Tryz.ntmps214;go_wp2_with fail;have K7:=J<|D.new w (Ej nc) 115;have BB:=J<|Eo w (EI (Ej nc) 115);generalize w.alloc (EI (Ej nc) 115)=w1 at*;refine Zj EF Ec 10 Ec Ek EZ (vP y s r nc w.heap.size) (EJb y s r nc w.heap.size) ?_ ?_
 ·simp only[U6,Il,Ij,EB,Ic,Ig,IJ,IU,and_true];refine⟨?_,?_,?_,?_,?_,?_,?_,?_,?_,?_⟩;all_goals intro v w' hb hd
  ·exact EiU
  ·have d0:v 0=E IB y:=hd.at 0 rfl;exact ZG (v:=u (X ⟨w'.heap.size,0,Z⟩) 1 1) (w':=w'.alloc (EI #[E IB y] 5)) (Ei O) OQ (Eo w' _) ⟨_,O,Bj (D.new w' _ _) HY.out⟩
  ·exact EiU
  ·exact Ej3
  ·exact EiU
  ·have d4:v 4=E I r:=hd.at 4 rfl;refine JY (f:=211) (args:= #[v 4,E I 1]) (Ei O) Ew ?_;rw[d4];exact(vN r w').mono fun e w'' ⟨⟨g,he,r⟩,hb'⟩=>⟨_,he,hb',g,O,r⟩
  ·exact EiU
  ·obtain⟨g1,d1,r1⟩: ∃g,v 1=u (X ⟨g,0,Z⟩) 1 1/\Row w' (X ⟨g,0,Z⟩) [y]:=hd.at 1 rfl;obtain⟨g3,d3,r3⟩: ∃g,v 3=u (X ⟨g,0,Z⟩) 1 1/\Row w' (X ⟨g,0,Z⟩) (be (s%256) 1):=hd.at 3 rfl;obtain⟨g5,d5,r5⟩: ∃g,v 5=u (X ⟨g,0,Z⟩) 1 1/\Row w' (X ⟨g,0,Z⟩) (be (r%256) 1):=hd.at 5 rfl;have d6:v 6=u (X ⟨w.heap.size,0,Z⟩) 8 8:=hd.at 6 rfl;have b1:=Eo w' (EI #[u (X ⟨g1,0,Z⟩) 1 1,u (X ⟨g3,0,Z⟩) 1 1,u (X ⟨g5,0,Z⟩) 1 1,u (X ⟨w.heap.size,0,Z⟩) 8 8] 23);exact ZG (v:=u (X ⟨w'.heap.size,0,Z⟩) 4 4) (w':=w'.alloc (EI #[u (X ⟨g1,0,Z⟩) 1 1,u (X ⟨g3,0,Z⟩) 1 1,u (X ⟨g5,0,Z⟩) 1 1,u (X ⟨w.heap.size,0,Z⟩) 8 8] 23)) (Ei O) (by simp[go_sem,d1,d3,d5,d6]) b1 ⟨_,_,O,D.new _ _ _,EJX O (Oi _ _) (Oi _ _) HL.out (r1.B b1) (r3.B b1) (r5.B b1) ((Zk (K7.out.B hb) HB.out).B b1)⟩
  ·obtain⟨g,cs,d7,k7,p7⟩: ∃g cs,v 7=u (X ⟨g,0,Z⟩) 4 4/\D w' g cs 23/\bO w' cs [[y],be (s%256) 1,be (r%256) 1,nc]:=hd.at 7 rfl;refine JY (f:=172) (args:= #[v 7]) (Ei O) Ew ?_;rw[d7];have hln:[[y],be (s%256) 1,be (r%256) 1,nc].flatten.length=11:=Bi y s r nc HL.out;refine(qC g 4 4 cs _ w' O k7 p7 (by rw[hln];omega) U).mono fun e w'' ⟨⟨A,d,he,o⟩,hb'⟩=>⟨_,he,hb',A,d,by rw[hln],o.row⟩
  ·obtain⟨A,d,d8,r8⟩: ∃A d,v 8=u A 11 d/\Row w' A (J8 y s r nc):=hd.at 8 rfl;exact E_ EF (Ei O) am ⟨A,d,O,r8⟩
 ·intro v w' hb hr;obtain⟨A,d,d9,r9⟩: ∃A d,v 9=u A 11 d/\Row w' A (J8 y s r nc):=hr 9 U;simp only[Il,Ij,Iz,Ix,EB,Ic,Ig,IJ,IU];rw[d9];have b2:=bt BB.out hb;clear hr hb d9;go_wp2_with fail;go_ret;exact⟨⟨_,_,O,r9⟩,b2⟩
theorem EJc(A:Option Et)(k:List Int)(n c:Nat)(s q:Int)(w:H)(hn:k.length=n)(hk:Row w A k)(hl:n<=10000000)(hR:Jc w): Ef EJ 164 #[u A n c,E I s,E I q] w fun e w'=>e=Eg (EU (Ej ((Jy k (al s q)).take 8)))/\Eh w w':=by have HN:=J hn;have HK:=J hk;have RT:=J hR;have BB:=J<|E6 w.heap.size w;have NL:=EJa s q;have CT:=fun(Y4:Option Et) (d:Nat) (W:H) (hb:Row W Y4 (al s q)) (hw:Eh w W)=>Bg A Y4 k (al s q) n 6 c d W hn NL (hk.B hw) hb hl U (hR.B hw);have T8:((Jy k (al s q)).take 8).length=8:=qD;have CJ:=fun(g c:Nat) (Y4 C Y_:Option Et) (e f h:Nat) (W:H) (hk:D W g #[u Y4 1 e,u C 1 f,u Y_ 4 h] 23) (r1:Row W Y4 [78]) (r2:Row W C (be (s%256) 1)) (r3:Row W Y_ (be (q%4294967296) 4))=> qC g 3 c _ _ W O hk (Mv O (Oi _ _) (Oi _ _) r1 r2 r3) (by show(al s q).length<=_;omega) U;have e1:[[78],be (s%256) 1,be (q%4294967296) 4].flatten=al s q:=rfl;simp only[e1,NL] at CJ;have CA:=fun W=>vN s W;have CB:=fun W=>EJZ q W;generalize (Jy k (al s q)).take 8=ans at*;generalize al s q=nb at*;generalize be (s%256) 1=bs at*;generalize be (q%4294967296) 4=bq at*;replace CT:=J CT;replace CJ:=J CJ;replace CA:=J CA;replace CB:=J CB;replace T8:=J T8;clear hn hk hR NL e1;go_enter Tryz.func164,Tryz.ntmps164;go_wp2_with (with_reducible refine wA kR (Ed.mk ?_));refine Ed.in ?_;have bel:=Eo w (EI (Ej (Er 8)) 115);replace BB:=ET BB bel;have K6:=J<|D.new w (Ej (Er 8)) 115;clear bel;generalize w.alloc (EI (Ej (Er 8)) 115)=w1 at*;go_wp2_with (go_at_call 211;refine Ed.mk ?_);refine Ed.in ?_;have l6:=K6.out.lt;have bel:=Eo w1 (EI #[E IB 78] 5);replace K6:=J<|K6.out.B bel;replace BB:=ET BB bel;have K8:=J<|D.new w1 #[E IB 78] 5;clear bel;generalize w1.alloc (EI #[E IB 78] 5)=w2 at*;generalize w1.heap.size=g8 at*;(with_reducible refine(CA.out _).mono ?_);rintro e w3 ⟨⟨g3,rfl,r3⟩,b3⟩;replace K6:=J<|K6.out.B b3;replace K8:=J<|K8.out.B b3;replace BB:=ET BB b3;replace r3:=J r3;clear b3;go_wp2_with fail;(with_reducible refine(CB.out _).mono ?_);rintro e w4 ⟨⟨g4,rfl,r4⟩,b4⟩;replace K6:=J<|K6.out.B b4;replace K8:=J<|K8.out.B b4;replace r3:=J<|r3.out.B b4;replace BB:=ET BB b4;replace r4:=J r4;clear b4;go_wp2_with (go_at_call 172;refine Ed.mk ?_);refine Ed.in ?_;have bel:=Eo w4 (EI #[u (X ⟨g8,0,Z⟩) 1 1,u (X ⟨g3,0,Z⟩) 1 1,u (X ⟨g4,0,Z⟩) 4 4] 23);replace K6:=J<|K6.out.B bel;replace K8:=J<|K8.out.B bel;replace r3:=J<|r3.out.B bel;replace r4:=J<|r4.out.B bel;replace BB:=ET BB bel;have Ok:=J<|D.new w4 #[u (X ⟨g8,0,Z⟩) 1 1,u (X ⟨g3,0,Z⟩) 1 1,u (X ⟨g4,0,Z⟩) 4 4] 23;clear bel;generalize w4.alloc (EI #[u (X ⟨g8,0,Z⟩) 1 1,u (X ⟨g3,0,Z⟩) 1 1,u (X ⟨g4,0,Z⟩) 4 4] 23)=w5 at*;generalize w4.heap.size=g13 at*;(with_reducible refine(CJ.out g13 _ _ _ _ _ _ _ _ Ok.out (Bj K8.out U) r3.out r4.out).mono ?_);rintro e w6 ⟨⟨A6,d6,rfl,o6⟩,b6⟩;replace K6:=J<|K6.out.B b6;replace BB:=ET BB b6;have r6:=J o6.row;clear b6 o6 r3 r4 Ok K8 CJ CA CB;go_wp2_with fail;(with_reducible refine(CT.out _ _ _ r6.out BB.out).mono ?_);rintro e w7 ⟨rfl,b7⟩;replace K6:=J<|K6.out.B b7;replace BB:=ET BB b7;clear b7 r6 CT;go_wp2_with (with_reducible refine wS (cs:=Ej ans) XT K6 ?_ (ho:=Uh) (hn:=Bh) (h1:=Uw _));refine EQ (v:=EU (Ej ans)) (Jb XT O _ _ (w.heap.size) _ O (K6.out.setRow _) (by rw[JV,T8.out])) O ⟨O,E2 BB.out U _⟩
theorem My(A:Option Et)(k nc:List Int)(n c:Nat)(s r:Int)(w:H)(hn:k.length=n)(hk:Row w A k)(hl:n<=10000000)(hc:nc.length=8)(hb: ∀x∈nc,0<=x/\x<=255)(hR:Jc w): Ef EJ 167 #[u A n c,E I s,E I r,EU (Ej nc)] w fun e w'=>e=Eg (EU (Ej ((Jy k (J8 80 s r nc)).take 8)))/\Eh w w':=by have HC:=J hc;have BB:=J<|E6 w.heap.size w;have NL:=Bi 80 s r nc hc;have CT:=fun(Y4:Option Et) (d:Nat) (W:H) (hb:Row W Y4 (J8 80 s r nc)) (hw:Eh w W)=>Bg A Y4 k (J8 80 s r nc) n 11 c d W hn NL (hk.B hw) hb hl U (hR.B hw);have TL:((Jy k (J8 80 s r nc)).take 8).length=8:=qD;have CL:=fun W=>Mx 80 s r nc hc hb U W;generalize (Jy k (J8 80 s r nc)).take 8=ans at*;generalize J8 80 s r nc=nb at*;replace CT:=J CT;replace CL:=J CL;replace TL:=J TL;clear hn hk hR NL hc hb;go_enter Tryz.func167,Tryz.ntmps167;go_wp2_with (with_reducible refine wA kR (Ed.mk ?_));refine Ed.in ?_;have K7:=J<|(D.new w (Ej nc) 115).alloc (EI (Ej (Er 8)) 115);have K8:=J<|D.new' (w.alloc (EI (Ej nc) 115)) (Ej (Er 8)) 115 (g:=w.heap.size+1) Ek;replace BB:=J<|JF w (EI (Ej nc) 115) (EI (Ej (Er 8)) 115);generalize (w.alloc (EI (Ej nc) 115)).alloc (EI (Ej (Er 8)) 115)=w1 at*;go_wp2_with (with_reducible refine wL XT K7 ?_ (hn:=vQ));(with_reducible refine(CL.out _).mono ?_);rintro e w2 ⟨⟨A2,d2,rfl,r2⟩,b2⟩;replace K8:=J<|K8.out.B b2;replace BB:=ET BB b2;replace r2:=J r2;clear b2 CL K7;go_wp2_with fail;(with_reducible refine(CT.out _ _ _ r2.out BB.out).mono ?_);rintro e w3 ⟨rfl,b3⟩;replace K8:=J<|K8.out.B b3;replace BB:=ET BB b3;clear b3 r2 CT;go_wp2_with (with_reducible refine wS (cs:=Ej ans) XT K8 ?_ (ho:=Uh) (hn:=Bk) (h1:=Uw _));refine EQ (v:=EU (Ej ans)) (Jb XT O _ _ (w.heap.size+1) _ O (K8.out.setRow _) (by rw[JV,TL.out])) O ⟨O,E2 BB.out U _⟩
theorem Mz(A:Option Et)(k nc:List Int)(n c:Nat)(s r:Int)(w:H)(hn:k.length=n)(hk:Row w A k)(hl:n<=10000000)(hc:nc.length=8)(hb: ∀x∈nc,0<=x/\x<=255)(hR:Jc w): Ef EJ 169 #[u A n c,E I s,E I r,EU (Ej nc)] w fun e w'=>e=Eg (EU (Ej (Jy k (J8 75 s r nc))))/\Eh w w':=by
 have HC:=J hc;have BB:=J<|E6 w.heap.size w;have NL:=Bi 75 s r nc hc;have CT:=fun(Y4:Option Et) (d:Nat) (W:H) (hb:Row W Y4 (J8 75 s r nc)) (hw:Eh w W)=>Mq A Y4 k (J8 75 s r nc) n 11 c d W hn NL (hk.B hw) hb hl U (hR.B hw);have TL:(Jy k (J8 75 s r nc)).length=32:=by exact jX _ _
 have CL:=fun W=>Mx 75 s r nc hc hb U W;generalize Jy k (J8 75 s r nc)=ans at*;generalize J8 75 s r nc=nb at*;replace CT:=J CT;replace CL:=J CL;replace TL:=J TL;clear hn hk hR NL hc hb;go_enter Tryz.func169,Tryz.ntmps169;go_wp2_with (with_reducible refine wA Zl (Ed.mk ?_));refine Ed.in ?_;have K7:=J<|(D.new w (Ej nc) 115).alloc (EI (Ej (Er 32)) 41);have K8:=J<|D.new' (w.alloc (EI (Ej nc) 115)) (Ej (Er 32)) 41 (g:=w.heap.size+1) Ek;replace BB:=J<|JF w (EI (Ej nc) 115) (EI (Ej (Er 32)) 41);generalize (w.alloc (EI (Ej nc) 115)).alloc (EI (Ej (Er 32)) 41)=w1 at*;go_wp2_with (with_reducible refine wL XT K7 ?_ (hn:=vQ));(with_reducible refine(CL.out _).mono ?_);rintro e w2 ⟨⟨A2,d2,rfl,r2⟩,b2⟩;replace K8:=J<|K8.out.B b2;replace BB:=ET BB b2;replace r2:=J r2;clear b2 CL K7;go_wp2_with fail;(with_reducible refine(CT.out _ _ _ r2.out BB.out).mono ?_);rintro e w3 ⟨rfl,b3⟩;replace K8:=J<|K8.out.B b3;replace BB:=ET BB b3;clear b3 r2 CT;go_wp2_with (with_reducible refine wS (cs:=Ej ans) JC K8 ?_ (ho:=Uh) (hn:=Bk) (h1:=Uw _));refine EQ (v:=EU (Ej ans)) (Jb JC O _ _ (w.heap.size+1) _ O (K8.out.setRow _) (by rw[JV,TL.out])) O ⟨O,E2 BB.out U _⟩
def ao(key:List Int)(s:Int)(b:List Int):List Int:=(Jy key (jb s b)).take 8
theorem EJd(A:Option Et)(n c m:Nat)(hm:m<=c)(W:H):(Instr.sliceAt 23 (u A n c) Z (X (E I (m:Int))) Z).run EJ W= .ok (u A m c) W:=by have h2:(m:Int)<=(c:Int):=U;have h0:(0:Int)<=(m:Int):=U;simp[go_sem,h2,h0]
theorem Bl(o:EK){a:Act}(x y:Operand)(ho:o.op= .slice 23 x Z (X y) Z)(A:Option Et)(n c m:Nat)(hx:a.eval x=u A n c)(hy:a.eval y=E I (m:Int))(hm:m<=c): (execOp a.eval o).run EJ w= .ok (.value (u A m c)) w:=by have h:=EJd A n c m hm w;unfold execOp;simp only[ho,Option.map_some,Option.map_none,hx,hy,Sem.run_bind,h,Sem.run_pure,Result.andThen_ok]
theorem Bm(key:List Int)(s:Int)(b:List Int):(ao key s b).length=8:=by unfold ao;rw[List.length_take,jX];rfl
theorem EJf(key:List Int)(s:Int)(b:List Int): ∀x∈ao key s b,0<=x/\x<=255:=fun x hx=>qv _ _ x (List.mem_of_mem_take hx)
theorem X9{b:Nat}(h:Own w c A cap xs)(hb:b<=c):Own w b A cap xs:=by
 obtain⟨⟨h1,h2⟩,h3⟩:=h;refine⟨⟨h1,?_⟩,h3⟩;rcases h2 with h2|⟨g,cap',cur,hv,hg,hh⟩;·exact .inl h2
 ·exact .inr ⟨g,cap',cur,hv,Ey hb hg,hh⟩
def vR(s:Int)(b tg:List Int)(Y4:Option Et)(m d g3 Y5:Nat)(i:Nat)(v:M)(w:H):Prop:=match i with
 |0=>v=u (X ⟨g3,0,Z⟩) 32 32
 |1=> ∃g,v=u (X ⟨g,0,Z⟩) 1 1/\Row w (X ⟨g,0,Z⟩) [77]
 |2=>v=E I s
 |3=> ∃g,v=u (X ⟨g,0,Z⟩) 1 1/\Row w (X ⟨g,0,Z⟩) (be (s%256) 1)
 |4=>v=u Y4 m d
 |5=> ∃g cs,v=u (X ⟨g,0,Z⟩) 3 3/\D w g cs 23/\bO w cs [[77],be (s%256) 1,b]
 |6=> ∃A d',v=u A (2+m) d'/\Row w A (jb s b)
 |7=>v=EU (Ej tg)
 |_=> ∃g,v=V (X ⟨g,0,Z⟩)/\Y5<=g/\D w g (Ej (Er 8)) 115
theorem EJg(s:Int)(b tg:List Int)(Y4:Option Et)(m d g3 Y5:Nat): ∀i v w w',i<9->vR s b tg Y4 m d g3 Y5 i v w->Jr w w'->vR s b tg Y4 m d g3 Y5 i v w':=by
 intro i v w w' hi h hb;unfold vR at*;split at h;case h_2|h_4=>obtain⟨g,e,k⟩:=h;exact⟨g,e,k.B hb⟩
 case h_6=> exact Emz
 case h_7=>obtain⟨g,d,e,k⟩:=h;exact⟨g,d,e,k.B hb⟩
 case h_9=>obtain⟨g,e,l,k⟩:=h;exact⟨g,e,l,k.B hb⟩
 all_goals exact h
theorem MA(key b:List Int)(Y4:Option Et)(m d:Nat)(s:Int)(w:H)(hl:key.length=32)(hkb: ∀x∈key,0<=x/\x<=255)(hm:b.length=m)(hr:Row w Y4 b)(hm2:m<=1000000)(hR:Jc w): Ef EJ 171 #[EU (Ej key),E I s,u Y4 m d] w fun e w'=>(∃A d',e=Eg (u A (m+8) d')/\Own w' w.heap.size A d' (b++ao key s b))/\Eh w w':=by
 have HL:=J hl;have jc:=J hkb;have HM:=J hm;have HR:=J hr;have RT:=J hR;have CT:=fun(g:Nat) (Y_:Option Et) (e:Nat) (W:H) (hk:Row W (X ⟨g,0,Z⟩) key) (hb:Row W Y_ (jb s b)) (hW:Jc W)=>Bg (X ⟨g,0,Z⟩) Y_ key (jb s b) 32 (2+m) 32 e W hl (by rw[Mw,hm]) hk hb U U hW;have TL:=Bm key s b;have TB:=EJf key s b;have e0:(Jy key (jb s b)).take 8=ao key s b:=rfl;simp only[e0] at CT;generalize ao key s b=tg at*;replace CT:=J CT;replace TL:=J TL;replace TB:=J TB;clear hl hkb hm hr hR e0;go_enter Tryz.func171,Tryz.ntmps171;go_wp2_with fail;have K3:=J<|D.new w (Ej key) 41;have BB:=J<|Eo w (EI (Ej key) 41);generalize w.alloc (EI (Ej key) 41)=w1 at*;have W1:=BB.out.size;refine Zj EF Ec 9 Ec Ek EZ (vR s b tg Y4 m d w.heap.size w1.heap.size) (EJg _ _ _ _ _ _ _ _) ?_ ?_
 ·simp only[U6,Il,Ij,EB,Ic,Ig,IJ,IU,and_true];refine⟨?_,?_,?_,?_,?_,?_,?_,?_,?_⟩;all_goals intro v w' hb hd
  ·exact EiU
  ·exact ZG (v:=u (X ⟨w'.heap.size,0,Z⟩) 1 1) (w':=w'.alloc (EI #[E IB 77] 5)) (Ei O) Ew (Eo w' _) ⟨_,O,Bj (D.new w' _ _) U⟩
  ·exact EiU
  ·exact Ej3
  ·exact EiU
  ·obtain⟨g1,d1,r1⟩: ∃g,v 1=u (X ⟨g,0,Z⟩) 1 1/\Row w' (X ⟨g,0,Z⟩) [77]:=hd.at 1 rfl;obtain⟨g3,d3,r3⟩: ∃g,v 3=u (X ⟨g,0,Z⟩) 1 1/\Row w' (X ⟨g,0,Z⟩) (be (s%256) 1):=hd.at 3 rfl;have d4:v 4=u Y4 m d:=hd.at 4 rfl;have b1:=Eo w' (EI #[u (X ⟨g1,0,Z⟩) 1 1,u (X ⟨g3,0,Z⟩) 1 1,u Y4 m d] 23);exact ZG (v:=u (X ⟨w'.heap.size,0,Z⟩) 3 3) (w':=w'.alloc (EI #[u (X ⟨g1,0,Z⟩) 1 1,u (X ⟨g3,0,Z⟩) 1 1,u Y4 m d] 23)) (Ei O) (by simp[go_sem,d1,d3,d4]) b1 ⟨_,_,O,D.new _ _ _,Mv O (Oi _ _) HM.out (r1.B b1) (r3.B b1) ((HR.out.B (bt BB.out hb)).B b1)⟩
  ·obtain⟨g,cs,d5,k5,p5⟩: ∃g cs,v 5=u (X ⟨g,0,Z⟩) 3 3/\D w' g cs 23/\bO w' cs [[77],be (s%256) 1,b]:=hd.at 5 rfl;refine JY (f:=172) (args:= #[v 5]) (Ei O) Ew ?_;rw[d5];have hln:[[77],be (s%256) 1,b].flatten.length=2+m:=by rw[<-HM.out];exact Mw s b
   refine(qC g 3 3 cs _ w' O k5 p5 (by rw[hln];omega) U).mono fun e w'' ⟨⟨A,d,he,o⟩,hb'⟩=>⟨_,he,hb',A,d,by rw[hln],o.row⟩
  ·have d0:v 0=u (X ⟨w.heap.size,0,Z⟩) 32 32:=hd.at 0 rfl;obtain⟨A,d',d6,r6⟩: ∃A d',v 6=u A (2+m) d'/\Row w' A (jb s b):=hd.at 6 rfl;refine JY (f:=210) (args:= #[v 0,v 6]) (Ei O) Ew ?_;rw[d0,d6];exact(CT.out w.heap.size A d' w' (Zk (K3.out.B hb) jc.out) r6 (RT.out.B (bt BB.out hb))).mono fun e w'' ⟨he,hb'⟩=>⟨_,he,hb',O⟩
  ·exact ZG (Ei O) (kR _ _ _ O) (Eo w' _) ⟨_,O,Below.size hb,D.new _ _ _⟩
 ·intro v w' hb hr;obtain⟨g7,d8,hg7,K7⟩: ∃g,v 8=V (X ⟨g,0,Z⟩)/\w1.heap.size<=g/\D w' g (Ej (Er 8)) 115:=hr 8 U;have d7:v 7=EU (Ej tg):=hr 7 U;simp only[Il,Ij,Iz,Ix,EB,Ic,Ig,IJ,IU];rw[d8,d7];replace BB:=ET BB hb;replace K7:=J K7;clear hr hb d8 d7 K3 CT;go_wp2_with (with_reducible refine wS (cs:=Ej tg) XT K7 (Ed.mk ?_) (ho:=Uh) (hn:=Bk) (h1:=Uw _));refine Ed.in ?_;replace K7:=J<|K7.out.setRow (Ej tg);replace BB:=J<|E2 (g:=g7) BB.out U (Ej tg);generalize w'.setRow g7 (Ej tg)=w2 at*;go_wp2_with (go_at_call 172;refine Ed.mk ?_);refine Ed.in ?_;have rb:=HR.out.B BB.out;have rt:=Zk K7.out TB.out;have b1:=Eo w2 (EI #[u Y4 m d,u (X ⟨g7,0,Z⟩) 8 8] 23);have hln:[b,tg].flatten=b++tg:=Ek;have Bn:(b++tg).length=m+8:=by rw[IL,HM.out,TL.out]
  have CJ:=qC w2.heap.size 2 2 #[u Y4 m d,u (X ⟨g7,0,Z⟩) 8 8] [b,tg] (w2.alloc (EI #[u Y4 m d,u (X ⟨g7,0,Z⟩) 8 8] 23)) O (D.new _ _ _) (Mc HM.out TL.out (rb.B b1) (rt.B b1)) (by rw[hln,Bn];omega) U;rw[hln,Bn] at CJ;replace BB:=ET BB b1;replace CJ:=J CJ;clear rb rt b1 hln Bn K7;have l2:=BB.out.size;(with_reducible refine CJ.out.mono ?_);rintro e w3 ⟨⟨A3,d3,rfl,o3⟩,b3⟩;replace BB:=ET BB b3;replace o3:=J<|X9 o3 (show w.heap.size<=_ from U);clear b3 CJ;go_wp2_with fail;go_ret;exact⟨⟨_,_,O,o3.out⟩,BB.out⟩
theorem EJh(key:List Int)(A:Option Et)(n c:Nat)(s:Int)(w:H)(hn:n<8): Ef EJ 125 #[EU (Ej key),E I s,u A n c] w fun e w'=>e=Eg (Es #[u Z 0 0,E I 14])/\Eh w w':=by have t1:decide ((n:Int)-8<0)=G:=Ia U;go_enter Tryz.func125,Tryz.ntmps125;go_wp2_with fail;have BB:=J<|Eo w (EI (Ej key) 41);generalize w.alloc (EI (Ej key) 41)=w1 at*;go_quiet (fail);go_wp2_with fail;go_ret2;exact⟨O,aQ BB.out _⟩
def qF(key:List Int)(s:Int)(tg:List Int)(same:Bool)(A:Option Et)(m c:Nat)(bd:List Int)(i:Nat)(v:M)(w:H):Prop:=match i with
 |0=>v=E I (m:Int)
 |1=>v=Eb Y
 |2=>v=Eb Y
 |3=>v=u A (m+8) c
 |4=>v=EU (Ej key)
 |5=>v=E I s
 |6=>v=u A (m+8) c
 |7=>v=E I (m:Int)
 |8=>v=u A m c
 |9=> ∃A' d',v=u A' (m+8) d'/\Row w A' (bd++tg)
 |10=>v=Eb same
 |_=>v=Eb (!same)
theorem MC(key:List Int)(s:Int)(tg:List Int)(same:Bool)(A:Option Et)(m c:Nat)(bd:List Int): ∀i v w w',i<13->qF key s tg same A m c bd i v w->Jr w w'->qF key s tg same A m c bd i v w':=by
 intro i v w w' hi h hb;unfold qF at*;split at h;case h_10=>obtain⟨g,d,e,k⟩:=h;exact⟨g,d,e,k.B hb⟩
 all_goals exact h
theorem EJi(key xs:List Int)(A:Option Et)(m c:Nat)(s:Int)(w:H)(hl:key.length=32)(hkb: ∀x∈key,0<=x/\x<=255)(hm:xs.length=m+8)(hr:Row w A xs)(hm2:m<=1000000)(hc:m+8<=c)(hR:Jc w)(hx:xs≠xs.take m++ao key s (xs.take m)): Ef EJ 125 #[EU (Ej key),E I s,u A (m+8) c] w fun e w'=>e=Eg (Es #[u Z 0 0,E I 14])/\Eh w w':=by
 have HL:=J hl;have jc:=J hkb;have HM:=J hm;have HR:=J hr;have RT:=J hR;have BL:(xs.take m).length=m:=iQ;have RB:=fun(W:H) (hb:Eh w W)=>j9 (hr.B hb) m;have TL:=Bm key s (xs.take m);have CC:=fun(W:H) (hb:Eh w W)=>MA key (xs.take m) A m c s W hl hkb BL (RB W hb) hm2 (hR.B hb);have SM:decide (xs=xs.take m++ao key s (xs.take m))=Y:=E9 hx;generalize ao key s (xs.take m)=tg at*;generalize xs.take m=bd at*;have lI:(bd++tg).length=m+8:=MD;replace CC:=J CC;replace BL:=J BL;replace TL:=J TL;replace lI:=J lI;replace RB:=J RB;replace SM:=J SM;clear hl hkb hm hr hR hx;have i0:IntKind.i64.wrap (m:Int)=m:=IntWalk.i64_in _ U;have t0:decide ((m:Int)<0)=Y:=E9 U;go_enter Tryz.func125,Tryz.ntmps125;go_wp2_with fail;have K3:=J<|D.new w (Ej key) 41;have BB:=J<|Eo w (EI (Ej key) 41);generalize w.alloc (EI (Ej key) 41)=w1 at*;refine Zj EF Ec 13 Ec Ek EZ (qF key s tg Y A m c bd) (MC _ _ _ _ _ _ _ _) ?_ ?_
 ·simp only[U6,Il,Ij,EB,Ic,Ig,IJ,IU,and_true];refine⟨?_,?_,?_,?_,?_,?_,?_,?_,?_,?_,?_,?_,?_⟩;all_goals intro v w' hb hd
  ·exact EiU
  ·exact ElA
  ·have d1:v 1=Eb Y:=hd.at 1 rfl;exact E_ EF (Ei O) UK O
  ·exact EiB
  ·exact Ekz
  ·exact EiB
  ·exact EiB
  ·exact EiB
  ·exact EjS
  ·exact Ei1
  ·exact EiL
  ·have g2:v 2=Eb Y:=hd.at 2 rfl;have d10:v 10=Eb Y:=hd.at 10 rfl;exact E_ EF (Xd O O (congrArg X g2)) Zp O
  ·have d2:v 2=Eb Y:=hd.at 2 rfl;have d11:v 11=Eb (!Y):=hd.at 11 rfl;exact E_ EF (Ei O) (by simp[go_sem,d2,d11]) O
 ·intro v w' hb hr;have d12:v 12=Eb (!Y):=hr 12 U;simp only[Il,Ij,Iz,Ix,EB,Ic,Ig,IJ,IU];rw[d12];replace BB:=ET BB hb;clear hr hb d12 K3 CC;go_wp2_with fail;go_ret2;exact Elr
theorem EJj(key xs:List Int)(A:Option Et)(m c:Nat)(s:Int)(w:H)(hl:key.length=32)(hkb: ∀x∈key,0<=x/\x<=255)(hm:xs.length=m+8)(hr:Row w A xs)(hm2:m<=1000000)(hc:m+8<=c)(hR:Jc w)(hx:xs=xs.take m++ao key s (xs.take m)): Ef EJ 125 #[EU (Ej key),E I s,u A (m+8) c] w fun e w'=>(∃A' d',e=Eg (Es #[u A' m d',E I 0])/\Own w' w.heap.size A' d' (xs.take m))/\Eh w w':=by
 have HL:=J hl;have jc:=J hkb;have HM:=J hm;have HR:=J hr;have RT:=J hR;have BL:(xs.take m).length=m:=iQ;have RB:=fun(W:H) (hb:Eh w W)=>j9 (hr.B hb) m;have TL:=Bm key s (xs.take m);have CC:=fun(W:H) (hb:Eh w W)=>MA key (xs.take m) A m c s W hl hkb BL (RB W hb) hm2 (hR.B hb);have SM:decide (xs=xs.take m++ao key s (xs.take m))=G:=Ia hx;generalize ao key s (xs.take m)=tg at*;generalize xs.take m=bd at*;have lI:(bd++tg).length=m+8:=MD;replace CC:=J CC;replace BL:=J BL;replace TL:=J TL;replace lI:=J lI;replace RB:=J RB;replace SM:=J SM;clear hl hkb hm hr hR hx;have i0:IntKind.i64.wrap (m:Int)=m:=IntWalk.i64_in _ U;have t0:decide ((m:Int)<0)=Y:=E9 U;go_enter Tryz.func125,Tryz.ntmps125;go_wp2_with fail;have K3:=J<|D.new w (Ej key) 41;have BB:=J<|Eo w (EI (Ej key) 41);generalize w.alloc (EI (Ej key) 41)=w1 at*;refine Zj EF Ec 13 Ec Ek EZ (qF key s tg G A m c bd) (MC _ _ _ _ _ _ _ _) ?_ ?_
 ·simp only[U6,Il,Ij,EB,Ic,Ig,IJ,IU,and_true];refine⟨?_,?_,?_,?_,?_,?_,?_,?_,?_,?_,?_,?_,?_⟩;all_goals intro v w' hb hd
  ·exact EiU
  ·exact ElA
  ·have d1:v 1=Eb Y:=hd.at 1 rfl;exact E_ EF (Ei O) UK O
  ·exact EiB
  ·exact Ekz
  ·exact EiB
  ·exact EiB
  ·exact EiB
  ·exact EjS
  ·exact Ei1
  ·exact EiL
  ·have g2:v 2=Eb Y:=hd.at 2 rfl;have d10:v 10=Eb G:=hd.at 10 rfl;exact E_ EF (Xd O O (congrArg X g2)) Zp O
  ·have d2:v 2=Eb Y:=hd.at 2 rfl;have d11:v 11=Eb (!G):=hd.at 11 rfl;exact E_ EF (Ei O) (by simp[go_sem,d2,d11]) O
 ·intro v w' hb hr;have d12:v 12=Eb (!G):=hr 12 U;simp only[Il,Ij,Iz,Ix,EB,Ic,Ig,IJ,IU];rw[d12];replace BB:=ET BB hb;clear hr hb d12 K3 CC;go_wp2_with (first|((with_reducible refine In 27 ?_);(with_reducible refine JT (Ei rfl) (Bl _ (.tmp 25) (.tmp 26) rfl A (m+8) c m rfl rfl U) ?_))|(go_at_call 172;refine Ed.mk ?_));refine Ed.in ?_;have b1:=Eo w' (EI #[u A m c] 23);have hln:[bd].flatten=bd:=Ek;have CJ:=qC w'.heap.size 1 1 #[u A m c] [bd] (w'.alloc (EI #[u A m c] 23)) O (D.new _ _ _) (EJU BL.out ((RB.out w' BB.out).B b1)) (by rw[hln,BL.out];omega) U;rw[hln,BL.out] at CJ;have l1:=BB.out.size;have l2:=b1.size;replace BB:=ET BB b1;replace CJ:=J CJ;clear b1 hln;(with_reducible refine CJ.out.mono ?_);rintro e w3 ⟨⟨A3,d3,rfl,o3⟩,b3⟩;replace BB:=ET BB b3;replace o3:=J<|X9 o3 (show w.heap.size<=_ from U);clear b3 CJ;go_wp2_with fail;go_ret2;exact⟨⟨_,_,O,o3.out⟩,BB.out⟩
def Sets(w:H)(S:Nat)(gp:M)(n:Int)(Q:H->H->Prop):Prop:=fo S/\ ∀W,Eh w W->Ef EJ S #[E I n,gp] W fun e w'=>e=Eg (Es #[])/\Q W w'
theorem Sets.call{S:Nat}{gp:M}{n:Int}{Q:H->H->Prop}(h:Sets w S gp n Q)(W:H)(hW:Eh w W):Ef EJ S #[E I n,gp] W fun e w'=>e=Eg (Es #[])/\Q W w':=h.2 W hW
theorem EJk(sz lo hi:Int)(Y5 S:Nat)(gp:M)(xs:List Int)(Y4:Option Et)(c:Nat)(v:Int)(Q:H->H->Prop)(w:H)(hr:Row w Y4 xs)(hl:xs.length=2)(hv:sig xs=v)(hn:lo<0)(h1:lo<=v)(h2:v<=hi)(hs:Sets w S gp v Q): Ef EJ 209 #[EU #[E I sz,E I lo,E I hi,.func (.func Y5) #[] #[gp],.func (.func S) #[] #[gp]],u Y4 2 c] w fun e w'=>e=Eg (Eb G)/\ ∃W,Eh w W/\Q W w':=by have HS:=J hs;have HE: ∀(args:Array M) (w:H),(callFunc S args).run EJ w= .ok (.enter S args) w:=hs.1;clear hs;have HL:=J hl;have HV:=J hv;have hd0:decide (lo<0)=G:=Ia hn;have hd1:decide (v<lo)=Y:=E9 U;have hd2:decide (hi<v)=Y:=E9 U;have CT:=J<|fun W (h:Row W Y4 xs)=>Yx Y4 xs c W h hl;rw[hv] at CT;clear hl hv;exact EiX
theorem EJl(sz lo hi:Int)(Y5 S:Nat)(gp:M)(xs:List Int)(Y4:Option Et)(k c:Nat)(v:Int)(Q:H->H->Prop)(w:H)(hr:Row w Y4 xs)(hl:xs.length=k)(hk:k<=8)(hv:num xs=v)(hn:0<=lo)(h1:lo<=v)(h2:v<=hi)(h63:hi<=9223372036854775807)(hs:Sets w S gp v Q): Ef EJ 209 #[EU #[E I sz,E I lo,E I hi,.func (.func Y5) #[] #[gp],.func (.func S) #[] #[gp]],u Y4 k c] w fun e w'=>e=Eg (Eb G)/\ ∃W,Eh w W/\Q W w':=by have HS:=J hs;have HE: ∀(args:Array M) (w:H),(callFunc S args).run EJ w= .ok (.enter S args) w:=hs.1;clear hs;have HL:=J hl;have hd0:decide (lo<0)=Y:=E9 U;have CT:=J<|fun W (h:Row W Y4 xs)=>As (w:=W) k c hl h hk;rw[hv] at CT;clear hl hv;have hd1:decide (v<lo)=Y:=E9 U;have hd2:decide (hi<v)=Y:=E9 U;have v0:0<=v:=U;have v9:v<=9223372036854775807:=U;exact EiX
theorem EJm(sz lo hi:Int)(Y5 S:Nat)(gp:M)(xs:List Int)(Y4:Option Et)(k c:Nat)(v:Int)(w:H)(hr:Row w Y4 xs)(hl:xs.length=k)(hk:k<=8)(hv:num xs=v)(hn:0<=lo)(v0:0<=v)(v9:v<=9223372036854775807)(h1:v<lo): Ef EJ 209 #[EU #[E I sz,E I lo,E I hi,.func (.func Y5) #[] #[gp],.func (.func S) #[] #[gp]],u Y4 k c] w fun e w'=>e=Eg (Eb Y)/\Eh w w':=by have HL:=J hl;have hd0:decide (lo<0)=Y:=E9 U;have CT:=J<|fun W (h:Row W Y4 xs)=>As (w:=W) k c hl h hk;rw[hv] at CT;clear hl hv;have hd1:decide (v<lo)=G:=Ia h1;exact Eij
theorem EJn(sz lo hi:Int)(Y5 S:Nat)(gp:M)(xs:List Int)(Y4:Option Et)(k c:Nat)(v:Int)(w:H)(hr:Row w Y4 xs)(hl:xs.length=k)(hk:k<=8)(hv:num xs=v)(hn:0<=lo)(v0:0<=v)(v9:v<=9223372036854775807)(h1:lo<=v)(h2:hi<v): Ef EJ 209 #[EU #[E I sz,E I lo,E I hi,.func (.func Y5) #[] #[gp],.func (.func S) #[] #[gp]],u Y4 k c] w fun e w'=>e=Eg (Eb Y)/\Eh w w':=by have HL:=J hl;have hd0:decide (lo<0)=Y:=E9 U;have CT:=J<|fun W (h:Row W Y4 xs)=>As (w:=W) k c hl h hk;rw[hv] at CT;clear hl hv;have hd1:decide (v<lo)=Y:=E9 U;have hd2:decide (hi<v)=G:=Ia h2;exact Eij
theorem EJo(gm o:Nat)(w:H): Ef EJ 204 #[V (X ⟨gm,o,Z⟩)] w fun e w'=> ∃v,e=Eg v/\FV w' w.heap.size gm ⟨1,1,0,1,o⟩ v/\Eh w w':=by have BF:Tryz.prog.built 298 [(0,E I 1),(2,E I 1),(3,.func (.func 234) #[] #[V (X ⟨w.heap.size,0,Z⟩)]),(4,.func (.func 235) #[] #[V (X ⟨w.heap.size,0,Z⟩)])]=X (Iw ⟨1,1,0,1,o⟩ w.heap.size):=Aw ⟨1,1,0,1,o⟩ w.heap.size O;have O1:=J<|da ⟨1,1,0,1,o⟩ w.heap.size;have FSq:Ea ((Iw ⟨1,1,0,1,o⟩ w.heap.size).size=5):=J O;generalize Ox:Iw ⟨1,1,0,1,o⟩ w.heap.size=fv at*;replace BF:=J BF;have HB:Ea (∀W:H,D W w.heap.size #[V (X ⟨gm,o,Z⟩)] 302->FV W w.heap.size gm ⟨1,1,0,1,o⟩ (EU fv)):=J fun W h=>⟨w.heap.size,by rw[Ox],E5 _,h⟩;clear Ox;go_enter Tryz.func204,Tryz.ntmps204;go_wp2_with (with_reducible refine wA bS (Ed.mk ?_));refine Ed.in ?_;have K4:=J<|(D.new w #[V (X ⟨gm,o,Z⟩)] 302).alloc (EI Jh 298);have K8:=J<|D.new' (w.alloc (EI #[V (X ⟨gm,o,Z⟩)] 302)) Jh 298 (g:=w.heap.size+1) Ek;have BB:=J<|JF w (EI #[V (X ⟨gm,o,Z⟩)] 302) (EI Jh 298);generalize (w.alloc (EI #[V (X ⟨gm,o,Z⟩)] 302)).alloc (EI Jh 298)=w1 at*;exact Eic
theorem Bo(gm o:Nat)(w:H): Ef EJ 202 #[V (X ⟨gm,o,Z⟩)] w fun e w'=> ∃v,e=Eg v/\FV w' w.heap.size gm ⟨0,1,0,3,o⟩ v/\Eh w w':=by have CN: ∀W:H,Ef EJ 207 #[V (X ⟨gm,o,Z⟩),E I 1,E I 0,E I 3] W fun e w'=> ∃v,e=Eg v/\FV w' W.heap.size gm ⟨0,1,0,3,o⟩ v/\Eh W w':=fun W=>kx ⟨0,1,0,3,o⟩ O gm W;generalize hd:(⟨0,1,0,3,o⟩:FD)=d at*;replace CN:=J CN;clear hd;go_enter Tryz.func202,Tryz.ntmps202;exact EhT
theorem dl(gm o:Nat)(w:H): Ef EJ 203 #[V (X ⟨gm,o,Z⟩)] w fun e w'=> ∃v,e=Eg v/\FV w' w.heap.size gm ⟨0,4,0,4294967295,o⟩ v/\Eh w w':=by have CN: ∀W:H,Ef EJ 207 #[V (X ⟨gm,o,Z⟩),E I 4,E I 0,E I 4294967295] W fun e w'=> ∃v,e=Eg v/\FV w' W.heap.size gm ⟨0,4,0,4294967295,o⟩ v/\Eh W w':=fun W=>kx ⟨0,4,0,4294967295,o⟩ O gm W;generalize hd:(⟨0,4,0,4294967295,o⟩:FD)=d at*;replace CN:=J CN;clear hd;go_enter Tryz.func203,Tryz.ntmps203;exact EhT
theorem qG(gm o:Nat)(w:H): Ef EJ 205 #[V (X ⟨gm,o,Z⟩)] w fun e w'=> ∃v,e=Eg v/\FV w' w.heap.size gm ⟨0,1,0,4,o⟩ v/\Eh w w':=by have CN: ∀W:H,Ef EJ 207 #[V (X ⟨gm,o,Z⟩),E I 1,E I 0,E I 4] W fun e w'=> ∃v,e=Eg v/\FV w' W.heap.size gm ⟨0,1,0,4,o⟩ v/\Eh W w':=fun W=>kx ⟨0,1,0,4,o⟩ O gm W;generalize hd:(⟨0,1,0,4,o⟩:FD)=d at*;replace CN:=J CN;clear hd;go_enter Tryz.func205,Tryz.ntmps205;exact EhT
theorem lO(gm o:Nat)(w:H): Ef EJ 206 #[V (X ⟨gm,o,Z⟩)] w fun e w'=> ∃v,e=Eg v/\FV w' w.heap.size gm ⟨0,2,0,65535,o⟩ v/\Eh w w':=by have CN: ∀W:H,Ef EJ 207 #[V (X ⟨gm,o,Z⟩),E I 2,E I 0,E I 65535] W fun e w'=> ∃v,e=Eg v/\FV w' W.heap.size gm ⟨0,2,0,65535,o⟩ v/\Eh W w':=fun W=>kx ⟨0,2,0,65535,o⟩ O gm W;generalize hd:(⟨0,2,0,65535,o⟩:FD)=d at*;replace CN:=J CN;clear hd;go_enter Tryz.func206,Tryz.ntmps206;exact EhT
theorem vS(gm o:Nat)(w:H): Ef EJ 208 #[V (X ⟨gm,o,Z⟩)] w fun e w'=> ∃v,e=Eg v/\FV w' w.heap.size gm ⟨0,2,(-32768),32767,o⟩ v/\Eh w w':=by have CN: ∀W:H,Ef EJ 207 #[V (X ⟨gm,o,Z⟩),E I 2,E I (-32768),E I 32767] W fun e w'=> ∃v,e=Eg v/\FV w' W.heap.size gm ⟨0,2,(-32768),32767,o⟩ v/\Eh W w':=fun W=>kx ⟨0,2,(-32768),32767,o⟩ O gm W;generalize hd:(⟨0,2,(-32768),32767,o⟩:FD)=d at*;replace CN:=J CN;clear hd;go_enter Tryz.func208,Tryz.ntmps208;exact EhT
def EY:List (FD×Nat)->List M
 |[]=>[]
 |p::ps=>(Iw p.1 p.2).toList++EY ps
theorem qH(fs:List (FD×Nat)):(EY fs).length=fs.length*5:=by
 induction fs with
 |nil=>rfl
 |cons r rs ih=>rw[EY,IL,ih,List.length_cons];show 5+_=_;omega
theorem MH(xs ys:List (FD×Nat)):EY (xs++ys)=EY xs++EY ys:=by
 induction xs with
 |nil=>rfl
 |cons r rs ih=>rw[List.cons_append,EY,ih,EY,List.append_assoc]
theorem MK: ∀(rs:List (FD×Nat)) (i:Nat) (hi:i<rs.length) (k:Nat),k<5->(EY rs)[i*5+k]?=(Iw rs[i].1 rs[i].2)[k]?
 |r::rs,0,_,k,hk=>by rw[EY,Nat.zero_mul,Nat.zero_add,List.getElem?_append_left (by show _<5;exact hk),Array.getElem?_toList];rfl
 |r::rs,i+1,hi,k,hk=>by rw[EY,List.getElem?_append_right (by show 5<=_;omega),show(Iw r.1 r.2).toList.length=5 from rfl,show(i+1)*5+k-5=i*5+k from U,MK rs i Om k hk];rfl
theorem ML(fs:List (FD×Nat)): ∀Y3∈EY fs,Y3.oneCell'=G:=by
 induction fs with
 |nil=>intro Y3 hu;cases hu
 |cons r rs ih=>
  intro Y3 hu;rcases List.mem_append.1 hu with h|h;·simp only[Iw,List.mem_cons,List.not_mem_nil,or_false] at h;rcases h with rfl|rfl|rfl|rfl|rfl<;>rfl
  ·exact ih Y3 h
def Ji(w:H)(base gm:Nat)(fs:List (FD×Nat)):Prop:= ∀i (h:i<fs.length),base<=fs[i].2/\XO w fs[i].1 gm fs[i].2
theorem Ji.B(h:Ji w base gm fs)(hb:Eh w w'):Ji w' base gm fs:=fun i hi=>⟨(h i hi).1,(h i hi).2.B hb⟩
def Uy(w:H)(base gl gm:Nat)(fs:List (FD×Nat)):Prop:=base<=gl/\(∀j Y3,(EY fs)[j]?=X Y3->w.cell? ⟨gl,j,Z⟩=X Y3)/\Ji w base gm fs
theorem Uy.B(h:Uy w base gl gm fs)(hb:Eh w w'):Uy w' base gl gm fs:=
 ⟨h.1,fun j Y3 hu=>by rw[hb.cell (World.block_lt_of_cell? _ _ (h.2.1 j Y3 hu))];exact h.2.1 j Y3 hu,h.2.2.B hb⟩
theorem Uy.keep(h:Uy w base gl gm fs)(hg:gm<base)(hk: ∀k,k≠gm->w'.heap[k]?=w.heap[k]?):Uy w' base gl gm fs:=
 ⟨h.1,fun j Y3 hu=>by rw[World.cell?_of_block (w:=w) (hk gl (by have:=h.1;omega))];exact h.2.1 j Y3 hu,fun i hi=>⟨(h.2.2 i hi).1,(hk _ (by have:=(h.2.2 i hi).1;omega)).trans (h.2.2 i hi).2⟩⟩
theorem Uy.cells(h:Uy w base gl gm fs)(i:Nat)(hi:i<fs.length)(j:Nat)(hj:j<5):w.cell? ⟨gl,i*5+j,Z⟩=(Iw fs[i].1 fs[i].2)[j]?:=by have h1:=MK fs i hi j hj;have h2:(Iw fs[i].1 fs[i].2)[j]?=X ((Iw fs[i].1 fs[i].2)[j]'(by show _<5;exact hj)):=Array.getElem?_eq_getElem _;rw[h2];exact h.2.1 _ _ (h1.trans h2)
theorem X_(hk:D w gl (EY fs).toArray T)(hb:Ji w base gm fs)(hg:base<=gl):Uy w base gl gm fs:=
 ⟨hg,fun j Y3 hu=>by rw[hk.cell j,List.getElem?_toArray];exact hu,hb⟩
def Ui:FD:=⟨0,1,0,3,2⟩
def Ih:FD:=⟨0,4,0,4294967295,1⟩
def aq:FD:=⟨1,1,0,1,7⟩
def I9:FD:=⟨0,1,0,4,3⟩
def IC:FD:=⟨0,2,0,65535,4⟩
def Z0:FD:=⟨0,1,0,4,5⟩
def ar:FD:=⟨0,1,1,3,6⟩
def Jm(i:Nat):FD:=⟨0,2,-32768,32767,8+i⟩
def ZE(k:Int):Option (List FD):=
 if k=1\/k=2 then X [Ui] else if k=3\/k=4\/k=8\/k=9 then X [Ih] else if k=5 then X [Ih,aq] else if k=6 then X [Ih,I9]
 else if k=7 then X [Ih,IC] else if k=10 then X [Ih,IC,Z0] else if k=11 then X [Ih,IC,ar,Jm 0,Jm 1,Jm 2,Jm 3] else Z
def XX(w:H)(gm:Nat)(ds:List FD)(e:Ending)(w':H):Prop:=
 ∃(gl cp:Nat) (fs:List (FD×Nat)),e=Eg (Es #[u (X ⟨gl,0,Z⟩) ds.length cp,Eb G])/\fs.map (·.1)=ds/\Uy w' w.heap.size gl gm fs/\Eh w w'
theorem EJp(gm:Nat)(l:List Int)(w:H)(hm:D w gm (ED l) 183)(hk:l.getD 0 0=1): Ef EJ 160 #[V (X ⟨gm,0,Z⟩)] w (XX w gm [Ui]):=by exact Eia
theorem EJq(gm:Nat)(l:List Int)(w:H)(hm:D w gm (ED l) 183)(hk:l.getD 0 0=2): Ef EJ 160 #[V (X ⟨gm,0,Z⟩)] w (XX w gm [Ui]):=by exact Eia
theorem EJr(gm:Nat)(l:List Int)(w:H)(hm:D w gm (ED l) 183)(hk:l.getD 0 0=3): Ef EJ 160 #[V (X ⟨gm,0,Z⟩)] w (XX w gm [Ih]):=by exact Eh0
theorem EJs(gm:Nat)(l:List Int)(w:H)(hm:D w gm (ED l) 183)(hk:l.getD 0 0=4): Ef EJ 160 #[V (X ⟨gm,0,Z⟩)] w (XX w gm [Ih]):=by exact Eh0
theorem EJt(gm:Nat)(l:List Int)(w:H)(hm:D w gm (ED l) 183)(hk:l.getD 0 0=8): Ef EJ 160 #[V (X ⟨gm,0,Z⟩)] w (XX w gm [Ih]):=by exact Eh0
theorem EJu(gm:Nat)(l:List Int)(w:H)(hm:D w gm (ED l) 183)(hk:l.getD 0 0=9): Ef EJ 160 #[V (X ⟨gm,0,Z⟩)] w (XX w gm [Ih]):=by exact Eh0
theorem vT(d:FD):d.box≠298:=by
 unfold FD.box;repeat' split
 all_goals decide
theorem MN:(Tryz.prog.info? 298).map (fun i=>(i.zero,i.size,i.bytes))=X (X (EU Jh),5,40):=Ec
theorem Bp(g j:Nat):(⟨g,0,Z⟩:Et).add j=⟨g,j,Z⟩:=U4
def jf(w:H)(base gl gm cap:Nat)(fs:List (FD×Nat)):Prop:=base<=gl/\w.ownsRow base 298 5 (u (X ⟨gl,0,Z⟩) fs.length cap) fs.length (EY fs)/\Ji w base gm fs
theorem jf.Bq(h:jf w base gl gm cap fs):Uy w base gl gm fs:=
 ⟨h.1,fun j Y3 hu=>by have:=h.2.1.cells (g:=gl) O j Y3 hu;rwa [Bp] at this,h.2.2⟩
theorem jf.B(h:jf w base gl gm cap fs)(hb:Eh w w'):jf w' base gl gm cap fs:=
 ⟨h.1,jE (qZ (b0:=0) (T:=298) (N:=0) (ys:=[]) hb) h.2.1 fun j _ hj hlt=>absurd hj MP,h.2.2.B hb⟩
theorem EJv{n:Nat}(hk:D w gl (EY fs).toArray 298)(hb:Ji w base gm fs)(hg:base<=gl)(hn:n=fs.length)(hs:n<=1000):jf w base gl gm n fs:=
 ⟨hg,⟨qH fs,.inr ⟨gl,n,_,O,hg,hk,U,Ob,by rw[List.size_toArray,qH,hn],by rw[List.toList_toArray,List.take_of_length_le (by rw[qH];omega)]⟩⟩,hb⟩
theorem vV(w:H)(base gl gm cap:Nat)(fs:List (FD×Nat))(n:Nat)(hn:fs.length=n)(h:jf w base gl gm cap fs)(d:FD)(gb g1 c1:Nat)(hgb:base<=gb)(hbx:XO w d gm gb)(hk:D w g1 (EY [(d,gb)]).toArray 298)(hs:n<=1000)(hbase:base<=w.heap.size)(ty:Ez): ∃MQ cap' w',(Builtin.append_ #[254,254] ty #[u (X ⟨gl,0,Z⟩) n cap,u (X ⟨g1,0,Z⟩) 1 c1]).run EJ w= .ok (u (X ⟨MQ,0,Z⟩) (n+1) cap') w'/\jf w' base MQ gm cap' (fs++[(d,gb)])/\Below base w w':=by
 subst hn;obtain⟨i0,hi,hz0,hz1,hz2⟩:=info_parts MN
 obtain⟨A',cap',w',hrun,h2,h3,h4,-⟩:=a_ (P:=EJ) w base base 254 ty 298 i0 _ 5 40 Tryz.underlying254 hi hz0 hz1 hz2 O (X ⟨gl,0,Z⟩) cap fs.length _ h.2.1 ⟨g1,0,Z⟩ 1 c1 (EY [(d,gb)]) (qH _)
  (fun j Y3 hu=>MR) (ML _) (fun h=>Uf) Ob U hbase (E5 _)
 rw[<-MH] at h2;rcases h2.2 with⟨hv,h1⟩|⟨g,cp,cur,hv,hbg,-⟩;·omega
 ·injection hv with e1 e2 e3;subst e1;refine⟨g,cap',w',hrun,⟨hbg,MS,fun i hi=> ?_⟩,h3.2.1 hbase⟩;rcases Nat.lt_or_ge i fs.length with hlt|hge;·rw[List.getElem_append_left hlt];exact⟨(h.2.2 i hlt).1,XQ h3 (h.2.2 i hlt).2 (vT _)⟩
  ·exact Ekj
def vW(base gm:Nat)(i:Nat)(v:M)(w:H):Prop:=match i with
 |0=>v=V (X ⟨gm,0,Z⟩)
 |1=>v=V (X ⟨gm,0,Z⟩)
 |2=>v=V (X ⟨gm,1,Z⟩)
 |3=>FV w base gm Ih v
 |4=>v=V (X ⟨gm,0,Z⟩)
 |5=>v=V (X ⟨gm,0,Z⟩)
 |6=>v=V (X ⟨gm,7,Z⟩)
 |7=>FV w base gm aq v
 |8=> ∃(gl:Nat) (fs:List (FD×Nat)),v=u (X ⟨gl,0,Z⟩) 2 2/\fs.map (·.1)=[Ih,aq]/\base<=gl/\Ji w base gm fs/\D w gl (EY fs).toArray 298
 |9=> ∃(gl:Nat) (fs:List (FD×Nat)),v=u (X ⟨gl,0,Z⟩) 2 2/\fs.map (·.1)=[Ih,aq]/\base<=gl/\Ji w base gm fs/\D w gl (EY fs).toArray 298
 |_=>v=Eb G
theorem EJw(base gm:Nat): ∀i v w w',i<11->vW base gm i v w->Jr w w'->vW base gm i v w':=by
 intro i v w w' hi h hb;unfold vW at*;split at h;case h_4|h_8=>exact h.B hb
 case h_9|h_10=> exact Eif
 all_goals exact h
theorem EJx(gm:Nat)(l:List Int)(w:H)(hm:D w gm (ED l) 183)(hk:l.getD 0 0=5): Ef EJ 160 #[V (X ⟨gm,0,Z⟩)] w (XX w gm [Ih,aq]):=by
 have c0:=hm.cell 0;rw[Xj _ _ U,if_neg U,hk] at c0;have BB:=J<|E6 w.heap.size w;clear hm hk;go_enter Tryz.func160,Tryz.ntmps160;go_wp2_with fail;clear c0;refine Zj EF Ec 11 Ec Ek EZ (vW w.heap.size gm) (EJw _ _) ?_ ?_
 ·simp only[U6,Il,Ij,EB,Ic,Ig,IJ,IU,and_true];refine⟨?_,?_,?_,?_,?_,?_,?_,?_,?_,?_,?_⟩;all_goals intro v w' hb hd
  ·exact EiU
  ·exact Eiq
  ·exact Eip
  ·exact Eh6
  ·exact EiU
  ·exact Eio
  ·exact Ein
  ·have d6:v 6=V (X ⟨gm,7,Z⟩):=hd.at 6 rfl;refine JY (f:=204) (args:= #[v 6]) (Ei O) Ew ?_;rw[d6];exact(EJo gm 7 w').mono fun e w'' ⟨v,he,⟨gb,e2,lb,kb⟩,hb'⟩=>⟨v,he,hb',gb,e2,Ey (Ey BB.out.size hb.size) lb,kb⟩
  ·obtain⟨g0,d3,l0,k0⟩:FV w' w.heap.size gm Ih (v 3):=hd.at 3 rfl;obtain⟨g1,d7,l1,k1⟩:FV w' w.heap.size gm aq (v 7):=hd.at 7 rfl;refine ZG (w':=w'.alloc (EI (EY [(Ih,g0),(aq,g1)]).toArray 298)) (v:=u (X ⟨w'.heap.size,0,Z⟩) 2 2) (Ei O) lU (Eo w' _) ⟨w'.heap.size,[(Ih,g0),(aq,g1)],O,O,Ey BB.out.size hb.size,fun i hi=> ?_,D.new _ _ _⟩;match i,hi with
   |0,_=>exact⟨l0,D.alloc k0 _⟩
   |1,_=>exact⟨l1,D.alloc k1 _⟩
  ·obtain⟨gl,fs,e,m,lg,bx,kk⟩: ∃(gl:Nat) (fs:List (FD×Nat)),v 8=u (X ⟨gl,0,Z⟩) 2 2/\fs.map (·.1)=[Ih,aq]/\w.heap.size<=gl/\Ji w' w.heap.size gm fs/\D w' gl (EY fs).toArray 298:=hd.at 8 rfl;exact EiT
  ·exact EiU
 ·intro v w' hb hr;obtain⟨gl,fs,e,m,lg,bx,kk⟩: ∃(gl:Nat) (fs:List (FD×Nat)),v 9=u (X ⟨gl,0,Z⟩) 2 2/\fs.map (·.1)=[Ih,aq]/\w.heap.size<=gl/\Ji w' w.heap.size gm fs/\D w' gl (EY fs).toArray 298:=hr 9 U;exact EmH
def vY(base gm:Nat)(i:Nat)(v:M)(w:H):Prop:=match i with
 |0=>v=V (X ⟨gm,0,Z⟩)
 |1=>v=V (X ⟨gm,0,Z⟩)
 |2=>v=V (X ⟨gm,1,Z⟩)
 |3=>FV w base gm Ih v
 |4=>v=V (X ⟨gm,0,Z⟩)
 |5=>v=V (X ⟨gm,0,Z⟩)
 |6=>v=V (X ⟨gm,3,Z⟩)
 |7=>FV w base gm I9 v
 |8=> ∃(gl:Nat) (fs:List (FD×Nat)),v=u (X ⟨gl,0,Z⟩) 2 2/\fs.map (·.1)=[Ih,I9]/\base<=gl/\Ji w base gm fs/\D w gl (EY fs).toArray 298
 |9=> ∃(gl:Nat) (fs:List (FD×Nat)),v=u (X ⟨gl,0,Z⟩) 2 2/\fs.map (·.1)=[Ih,I9]/\base<=gl/\Ji w base gm fs/\D w gl (EY fs).toArray 298
 |_=>v=Eb G
theorem EJy(base gm:Nat): ∀i v w w',i<11->vY base gm i v w->Jr w w'->vY base gm i v w':=by
 intro i v w w' hi h hb;unfold vY at*;split at h;case h_4|h_8=>exact h.B hb
 case h_9|h_10=> exact Eif
 all_goals exact h
theorem EJz(gm:Nat)(l:List Int)(w:H)(hm:D w gm (ED l) 183)(hk:l.getD 0 0=6): Ef EJ 160 #[V (X ⟨gm,0,Z⟩)] w (XX w gm [Ih,I9]):=by
 have c0:=hm.cell 0;rw[Xj _ _ U,if_neg U,hk] at c0;have BB:=J<|E6 w.heap.size w;clear hm hk;go_enter Tryz.func160,Tryz.ntmps160;go_wp2_with fail;clear c0;refine Zj EF Ec 11 Ec Ek EZ (vY w.heap.size gm) (EJy _ _) ?_ ?_
 ·simp only[U6,Il,Ij,EB,Ic,Ig,IJ,IU,and_true];refine⟨?_,?_,?_,?_,?_,?_,?_,?_,?_,?_,?_⟩;all_goals intro v w' hb hd
  ·exact EiU
  ·exact Eiq
  ·exact Eip
  ·exact Eh6
  ·exact EiU
  ·exact Eio
  ·exact Ein
  ·exact EmV
  ·obtain⟨g0,d3,l0,k0⟩:FV w' w.heap.size gm Ih (v 3):=hd.at 3 rfl;obtain⟨g1,d7,l1,k1⟩:FV w' w.heap.size gm I9 (v 7):=hd.at 7 rfl;refine ZG (w':=w'.alloc (EI (EY [(Ih,g0),(I9,g1)]).toArray 298)) (v:=u (X ⟨w'.heap.size,0,Z⟩) 2 2) (Ei O) lU (Eo w' _) ⟨w'.heap.size,[(Ih,g0),(I9,g1)],O,O,Ey BB.out.size hb.size,fun i hi=> ?_,D.new _ _ _⟩;match i,hi with
   |0,_=>exact⟨l0,D.alloc k0 _⟩
   |1,_=>exact⟨l1,D.alloc k1 _⟩
  ·obtain⟨gl,fs,e,m,lg,bx,kk⟩: ∃(gl:Nat) (fs:List (FD×Nat)),v 8=u (X ⟨gl,0,Z⟩) 2 2/\fs.map (·.1)=[Ih,I9]/\w.heap.size<=gl/\Ji w' w.heap.size gm fs/\D w' gl (EY fs).toArray 298:=hd.at 8 rfl;exact EiT
  ·exact EiU
 ·intro v w' hb hr;obtain⟨gl,fs,e,m,lg,bx,kk⟩: ∃(gl:Nat) (fs:List (FD×Nat)),v 9=u (X ⟨gl,0,Z⟩) 2 2/\fs.map (·.1)=[Ih,I9]/\w.heap.size<=gl/\Ji w' w.heap.size gm fs/\D w' gl (EY fs).toArray 298:=hr 9 U;exact EmH
def v_(base gm:Nat)(i:Nat)(v:M)(w:H):Prop:=match i with
 |0=>v=V (X ⟨gm,0,Z⟩)
 |1=>v=V (X ⟨gm,0,Z⟩)
 |2=>v=V (X ⟨gm,1,Z⟩)
 |3=>FV w base gm Ih v
 |4=>v=V (X ⟨gm,0,Z⟩)
 |5=>v=V (X ⟨gm,0,Z⟩)
 |6=>v=V (X ⟨gm,4,Z⟩)
 |7=>FV w base gm IC v
 |8=> ∃(gl:Nat) (fs:List (FD×Nat)),v=u (X ⟨gl,0,Z⟩) 2 2/\fs.map (·.1)=[Ih,IC]/\base<=gl/\Ji w base gm fs/\D w gl (EY fs).toArray 298
 |9=> ∃(gl:Nat) (fs:List (FD×Nat)),v=u (X ⟨gl,0,Z⟩) 2 2/\fs.map (·.1)=[Ih,IC]/\base<=gl/\Ji w base gm fs/\D w gl (EY fs).toArray 298
 |_=>v=Eb G
theorem EJA(base gm:Nat): ∀i v w w',i<11->v_ base gm i v w->Jr w w'->v_ base gm i v w':=by
 intro i v w w' hi h hb;unfold v_ at*;split at h;case h_4|h_8=>exact h.B hb
 case h_9|h_10=> exact Eif
 all_goals exact h
theorem EJB(gm:Nat)(l:List Int)(w:H)(hm:D w gm (ED l) 183)(hk:l.getD 0 0=7): Ef EJ 160 #[V (X ⟨gm,0,Z⟩)] w (XX w gm [Ih,IC]):=by
 have c0:=hm.cell 0;rw[Xj _ _ U,if_neg U,hk] at c0;have BB:=J<|E6 w.heap.size w;clear hm hk;go_enter Tryz.func160,Tryz.ntmps160;go_wp2_with fail;clear c0;refine Zj EF Ec 11 Ec Ek EZ (v_ w.heap.size gm) (EJA _ _) ?_ ?_
 ·simp only[U6,Il,Ij,EB,Ic,Ig,IJ,IU,and_true];refine⟨?_,?_,?_,?_,?_,?_,?_,?_,?_,?_,?_⟩;all_goals intro v w' hb hd
  ·exact EiU
  ·exact Eiq
  ·exact Eip
  ·exact Eh6
  ·exact EiU
  ·exact Eio
  ·exact Ein
  ·exact Eh_
  ·obtain⟨g0,d3,l0,k0⟩:FV w' w.heap.size gm Ih (v 3):=hd.at 3 rfl;obtain⟨g1,d7,l1,k1⟩:FV w' w.heap.size gm IC (v 7):=hd.at 7 rfl;refine ZG (w':=w'.alloc (EI (EY [(Ih,g0),(IC,g1)]).toArray 298)) (v:=u (X ⟨w'.heap.size,0,Z⟩) 2 2) (Ei O) lU (Eo w' _) ⟨w'.heap.size,[(Ih,g0),(IC,g1)],O,O,Ey BB.out.size hb.size,fun i hi=> ?_,D.new _ _ _⟩;match i,hi with
   |0,_=>exact⟨l0,D.alloc k0 _⟩
   |1,_=>exact⟨l1,D.alloc k1 _⟩
  ·obtain⟨gl,fs,e,m,lg,bx,kk⟩: ∃(gl:Nat) (fs:List (FD×Nat)),v 8=u (X ⟨gl,0,Z⟩) 2 2/\fs.map (·.1)=[Ih,IC]/\w.heap.size<=gl/\Ji w' w.heap.size gm fs/\D w' gl (EY fs).toArray 298:=hd.at 8 rfl;exact EiT
  ·exact EiU
 ·intro v w' hb hr;obtain⟨gl,fs,e,m,lg,bx,kk⟩: ∃(gl:Nat) (fs:List (FD×Nat)),v 9=u (X ⟨gl,0,Z⟩) 2 2/\fs.map (·.1)=[Ih,IC]/\w.heap.size<=gl/\Ji w' w.heap.size gm fs/\D w' gl (EY fs).toArray 298:=hr 9 U;exact EmH
def wE(base gm:Nat)(i:Nat)(v:M)(w:H):Prop:=match i with
 |0=>v=V (X ⟨gm,0,Z⟩)
 |1=>v=V (X ⟨gm,0,Z⟩)
 |2=>v=V (X ⟨gm,1,Z⟩)
 |3=>FV w base gm Ih v
 |4=>v=V (X ⟨gm,0,Z⟩)
 |5=>v=V (X ⟨gm,0,Z⟩)
 |6=>v=V (X ⟨gm,4,Z⟩)
 |7=>FV w base gm IC v
 |8=>v=V (X ⟨gm,0,Z⟩)
 |9=>v=V (X ⟨gm,0,Z⟩)
 |10=>v=V (X ⟨gm,5,Z⟩)
 |11=>FV w base gm Z0 v
 |12=> ∃(gl:Nat) (fs:List (FD×Nat)),v=u (X ⟨gl,0,Z⟩) 3 3/\fs.map (·.1)=[Ih,IC,Z0]/\base<=gl/\Ji w base gm fs/\D w gl (EY fs).toArray 298
 |13=> ∃(gl:Nat) (fs:List (FD×Nat)),v=u (X ⟨gl,0,Z⟩) 3 3/\fs.map (·.1)=[Ih,IC,Z0]/\base<=gl/\Ji w base gm fs/\D w gl (EY fs).toArray 298
 |_=>v=Eb G
theorem EJC(base gm:Nat): ∀i v w w',i<15->wE base gm i v w->Jr w w'->wE base gm i v w':=by
 intro i v w w' hi h hb;unfold wE at*;split at h;case h_4|h_8|h_12=>exact h.B hb
 case h_13|h_14=> exact Eif
 all_goals exact h
theorem EJD(gm:Nat)(l:List Int)(w:H)(hm:D w gm (ED l) 183)(hk:l.getD 0 0=10): Ef EJ 160 #[V (X ⟨gm,0,Z⟩)] w (XX w gm [Ih,IC,Z0]):=by
 have c0:=hm.cell 0;rw[Xj _ _ U,if_neg U,hk] at c0;have BB:=J<|E6 w.heap.size w;clear hm hk;go_enter Tryz.func160,Tryz.ntmps160;go_wp2_with fail;clear c0;refine Zj EF Ec 15 Ec Ek EZ (wE w.heap.size gm) (EJC _ _) ?_ ?_
 ·simp only[U6,Il,Ij,EB,Ic,Ig,IJ,IU,and_true];refine⟨?_,?_,?_,?_,?_,?_,?_,?_,?_,?_,?_,?_,?_,?_,?_⟩;all_goals intro v w' hb hd
  ·exact EiU
  ·exact Eiq
  ·exact Eip
  ·exact Eh6
  ·exact EiU
  ·exact Eio
  ·exact Ein
  ·exact Eh_
  ·exact EiU
  ·exact EkP
  ·exact EkN
  ·have d10:v 10=V (X ⟨gm,5,Z⟩):=hd.at 10 rfl;refine JY (f:=207) (args:= #[v 10,E I 1,E I 0,E I 4]) (Ei O) Ew ?_;rw[d10];exact(kx Z0 O gm w').mono fun e w'' ⟨v,he,⟨gb,e2,lb,kb⟩,hb'⟩=>⟨v,he,hb',gb,e2,Ey (Ey BB.out.size hb.size) lb,kb⟩
  ·obtain⟨g0,d3,l0,k0⟩:FV w' w.heap.size gm Ih (v 3):=hd.at 3 rfl;obtain⟨g1,d7,l1,k1⟩:FV w' w.heap.size gm IC (v 7):=hd.at 7 rfl;obtain⟨g2,d11,l2,k2⟩:FV w' w.heap.size gm Z0 (v 11):=hd.at 11 rfl;refine ZG (w':=w'.alloc (EI (EY [(Ih,g0),(IC,g1),(Z0,g2)]).toArray 298)) (v:=u (X ⟨w'.heap.size,0,Z⟩) 3 3) (Ei O) Br (Eo w' _) ⟨w'.heap.size,[(Ih,g0),(IC,g1),(Z0,g2)],O,O,Ey BB.out.size hb.size,fun i hi=> ?_,D.new _ _ _⟩;match i,hi with
   |0,_=>exact⟨l0,D.alloc k0 _⟩
   |1,_=>exact⟨l1,D.alloc k1 _⟩
   |2,_=>exact⟨l2,D.alloc k2 _⟩
  ·obtain⟨gl,fs,e,m,lg,bx,kk⟩: ∃(gl:Nat) (fs:List (FD×Nat)),v 12=u (X ⟨gl,0,Z⟩) 3 3/\fs.map (·.1)=[Ih,IC,Z0]/\w.heap.size<=gl/\Ji w' w.heap.size gm fs/\D w' gl (EY fs).toArray 298:=hd.at 12 rfl;exact EiT
  ·exact EiU
 ·intro v w' hb hr;obtain⟨gl,fs,e,m,lg,bx,kk⟩: ∃(gl:Nat) (fs:List (FD×Nat)),v 13=u (X ⟨gl,0,Z⟩) 3 3/\fs.map (·.1)=[Ih,IC,Z0]/\w.heap.size<=gl/\Ji w' w.heap.size gm fs/\D w' gl (EY fs).toArray 298:=hr 13 U;have dt:v 14=Value.bool G:=hr 14 U;exact Eh2
def wI(base gm:Nat)(i:Nat)(v:M)(w:H):Prop:=match i with
 |0=>v=V (X ⟨gm,0,Z⟩)
 |1=>v=V (X ⟨gm,0,Z⟩)
 |2=>v=V (X ⟨gm,1,Z⟩)
 |3=>FV w base gm Ih v
 |4=>v=V (X ⟨gm,0,Z⟩)
 |5=>v=V (X ⟨gm,0,Z⟩)
 |6=>v=V (X ⟨gm,4,Z⟩)
 |7=>FV w base gm IC v
 |8=>v=V (X ⟨gm,0,Z⟩)
 |9=>v=V (X ⟨gm,0,Z⟩)
 |10=>v=V (X ⟨gm,6,Z⟩)
 |11=>FV w base gm ar v
 |_=> ∃(gl:Nat) (fs:List (FD×Nat)),v=u (X ⟨gl,0,Z⟩) 3 3/\fs.map (·.1)=[Ih,IC,ar]/\base<=gl/\Ji w base gm fs/\D w gl (EY fs).toArray 298
theorem EJF(base gm:Nat): ∀i v w w',i<14->wI base gm i v w->Jr w w'->wI base gm i v w':=by
 intro i v w w' hi h hb;unfold wI at*;split at h;case h_4|h_8|h_12=>exact h.B hb
 case h_13=> exact Eif
 all_goals exact h
theorem EJG(gm:Nat)(l:List Int)(w:H)(hm:D w gm (ED l) 183)(hk:l.getD 0 0=11): Ef EJ 160 #[V (X ⟨gm,0,Z⟩)] w (XX w gm [Ih,IC,ar,Jm 0,Jm 1,Jm 2,Jm 3]):=by
 have c0:=hm.cell 0;rw[Xj _ _ U,if_neg U,hk] at c0;have BB:=J<|E6 w.heap.size w;clear hm hk;go_enter Tryz.func160,Tryz.ntmps160;go_wp2_with fail;clear c0;refine Zj EF Ec 14 Ec Ek EZ (wI w.heap.size gm) (EJF _ _) ?_ ?_
 ·simp only[U6,Il,Ij,EB,Ic,Ig,IJ,IU,and_true];refine⟨?_,?_,?_,?_,?_,?_,?_,?_,?_,?_,?_,?_,?_,?_⟩;all_goals intro v w' hb hd
  ·exact EiU
  ·exact Eiq
  ·exact Eip
  ·exact Eh6
  ·exact EiU
  ·exact Eio
  ·exact Ein
  ·exact Eh_
  ·exact EiU
  ·exact EkP
  ·exact EkN
  ·have d10:v 10=V (X ⟨gm,6,Z⟩):=hd.at 10 rfl;refine JY (f:=207) (args:= #[v 10,E I 1,E I 1,E I 3]) (Ei O) Ew ?_;rw[d10];exact(kx ar O gm w').mono fun e w'' ⟨v,he,⟨gb,e2,lb,kb⟩,hb'⟩=>⟨v,he,hb',gb,e2,Ey (Ey BB.out.size hb.size) lb,kb⟩
  ·obtain⟨g0,d3,l0,k0⟩:FV w' w.heap.size gm Ih (v 3):=hd.at 3 rfl;obtain⟨g1,d7,l1,k1⟩:FV w' w.heap.size gm IC (v 7):=hd.at 7 rfl;obtain⟨g2,d11,l2,k2⟩:FV w' w.heap.size gm ar (v 11):=hd.at 11 rfl;refine ZG (w':=w'.alloc (EI (EY [(Ih,g0),(IC,g1),(ar,g2)]).toArray 298)) (v:=u (X ⟨w'.heap.size,0,Z⟩) 3 3) (Ei O) Br (Eo w' _) ⟨w'.heap.size,[(Ih,g0),(IC,g1),(ar,g2)],O,O,Ey BB.out.size hb.size,fun i hi=> ?_,D.new _ _ _⟩;match i,hi with
   |0,_=>exact⟨l0,D.alloc k0 _⟩
   |1,_=>exact⟨l1,D.alloc k1 _⟩
   |2,_=>exact⟨l2,D.alloc k2 _⟩
  ·obtain⟨gl,fs,e,m,lg,bx,kk⟩: ∃(gl:Nat) (fs:List (FD×Nat)),v 12=u (X ⟨gl,0,Z⟩) 3 3/\fs.map (·.1)=[Ih,IC,ar]/\w.heap.size<=gl/\Ji w' w.heap.size gm fs/\D w' gl (EY fs).toArray 298:=hd.at 12 rfl;exact EiT
 ·intro v w' hb hr;obtain⟨gl,fs,e,m,lg,bx,kk⟩: ∃(gl:Nat) (fs:List (FD×Nat)),v 13=u (X ⟨gl,0,Z⟩) 3 3/\fs.map (·.1)=[Ih,IC,ar]/\w.heap.size<=gl/\Ji w' w.heap.size gm fs/\D w' gl (EY fs).toArray 298:=hr 13 U;simp only[Il,Ij,Iz,Ix,EB,Ic,Ig,IJ,IU];rw[e];have ln:fs.length=3:=by have:=congrArg List.length m;simpa using this
  have K0:=J<|EJv kk bx lg ln.symm U;have FB:=ET BB hb;replace m:=J m;clear hr hb e kk bx;go_wp2_with fail;refine wp_loop_rounds 5 ?_;rw[Ib];go_wp2_with fail;(with_reducible refine(vS gm 8 _).mono ?_);rintro e x0 ⟨v0,rfl,⟨Z1,rfl,lb0,qK⟩,b0⟩;have Bs:=FB.out.size;replace K0:=J<|(K0.out.B b0).B (Eo x0 (EI (EY [(Jm 0,Z1)]).toArray 298));have HA:=J<|D.new x0 (EY [(Jm 0,Z1)]).toArray 298;have HB0:=J<|D.alloc qK (EI (EY [(Jm 0,Z1)]).toArray 298);replace FB:=J<|bt (bt FB.out b0) (Eo x0 (EI (EY [(Jm 0,Z1)]).toArray 298));clear b0 qK;unfold Iw;go_wp2_with (with_reducible refine I2 102 ?_);refine Ed.in ?_;change wpList _ _ _ _ _ (x0.alloc (EI (EY [(Jm 0,Z1)]).toArray 298));have hz0:w.heap.size<=(x0.alloc (EI (EY [(Jm 0,Z1)]).toArray 298)).heap.size:=FB.out.size;obtain⟨gl0,cp0,y0,hrun,k,b⟩:=vV _ w.heap.size _ gm _ _ 3 wJ K0.out (Jm 0) Z1 x0.heap.size 1 U HB0.out HA.out U hz0 254;(with_reducible refine JT ?_ (Ov (s:= .tmp 94) (y:= .tmp 101) ?_ ?_ ?_ hrun) ?_);·exact Ei O
  ·rfl
  ·rfl
  ·rfl
  have K1:=J k;replace FB:=J<|FB.out.trans b;clear k b hrun HA HB0 K0 hz0 Bs;go_wp2_with fail;rw[Ib];go_wp2_with fail;(with_reducible refine(vS gm 9 _).mono ?_);rintro e x1 ⟨v1,rfl,⟨Z3,rfl,lb1,qL⟩,b1⟩;have Bt:=FB.out.size;replace K1:=J<|(K1.out.B b1).B (Eo x1 (EI (EY [(Jm 1,Z3)]).toArray 298));have HA:=J<|D.new x1 (EY [(Jm 1,Z3)]).toArray 298;have HB1:=J<|D.alloc qL (EI (EY [(Jm 1,Z3)]).toArray 298);replace FB:=J<|bt (bt FB.out b1) (Eo x1 (EI (EY [(Jm 1,Z3)]).toArray 298));clear b1 qL;unfold Iw;go_wp2_with (with_reducible refine I2 102 ?_);refine Ed.in ?_;change wpList _ _ _ _ _ (x1.alloc (EI (EY [(Jm 1,Z3)]).toArray 298));have hz1:w.heap.size<=(x1.alloc (EI (EY [(Jm 1,Z3)]).toArray 298)).heap.size:=FB.out.size;obtain⟨gl1,cp1,y1,hrun,k,b⟩:=vV _ w.heap.size _ gm _ _ 4 wJ K1.out (Jm 1) Z3 x1.heap.size 1 U HB1.out HA.out U hz1 254;(with_reducible refine JT ?_ (Ov (s:= .tmp 94) (y:= .tmp 101) ?_ ?_ ?_ hrun) ?_);·exact Ei O
  ·rfl
  ·rfl
  ·rfl
  have K2:=J k;replace FB:=J<|FB.out.trans b;clear k b hrun HA HB1 K1 hz1 Bt;go_wp2_with fail;rw[Ib];go_wp2_with fail;(with_reducible refine(vS gm 10 _).mono ?_);rintro e x2 ⟨v2,rfl,⟨Z4,rfl,lb2,jg⟩,b2⟩;have Bu:=FB.out.size;replace K2:=J<|(K2.out.B b2).B (Eo x2 (EI (EY [(Jm 2,Z4)]).toArray 298));have HA:=J<|D.new x2 (EY [(Jm 2,Z4)]).toArray 298;have HB2:=J<|D.alloc jg (EI (EY [(Jm 2,Z4)]).toArray 298);replace FB:=J<|bt (bt FB.out b2) (Eo x2 (EI (EY [(Jm 2,Z4)]).toArray 298));clear b2 jg;unfold Iw;go_wp2_with (with_reducible refine I2 102 ?_);refine Ed.in ?_;change wpList _ _ _ _ _ (x2.alloc (EI (EY [(Jm 2,Z4)]).toArray 298));have hz2:w.heap.size<=(x2.alloc (EI (EY [(Jm 2,Z4)]).toArray 298)).heap.size:=FB.out.size;obtain⟨gl2,cp2,y2,hrun,k,b⟩:=vV _ w.heap.size _ gm _ _ 5 wJ K2.out (Jm 2) Z4 x2.heap.size 1 U HB2.out HA.out U hz2 254;(with_reducible refine JT ?_ (Ov (s:= .tmp 94) (y:= .tmp 101) ?_ ?_ ?_ hrun) ?_);·exact Ei O
  ·rfl
  ·rfl
  ·rfl
  have K3:=J k;replace FB:=J<|FB.out.trans b;clear k b hrun HA HB2 K2 hz2 Bu;go_wp2_with fail;rw[Ib];go_wp2_with fail;(with_reducible refine(vS gm 11 _).mono ?_);rintro e x3 ⟨v3,rfl,⟨Z5,rfl,lb3,qM⟩,b3⟩;have Bv:=FB.out.size;replace K3:=J<|(K3.out.B b3).B (Eo x3 (EI (EY [(Jm 3,Z5)]).toArray 298));have HA:=J<|D.new x3 (EY [(Jm 3,Z5)]).toArray 298;have HB3:=J<|D.alloc qM (EI (EY [(Jm 3,Z5)]).toArray 298);replace FB:=J<|bt (bt FB.out b3) (Eo x3 (EI (EY [(Jm 3,Z5)]).toArray 298));clear b3 qM;unfold Iw;go_wp2_with (with_reducible refine I2 102 ?_);refine Ed.in ?_;change wpList _ _ _ _ _ (x3.alloc (EI (EY [(Jm 3,Z5)]).toArray 298));have hz3:w.heap.size<=(x3.alloc (EI (EY [(Jm 3,Z5)]).toArray 298)).heap.size:=FB.out.size;obtain⟨gl3,cp3,y3,hrun,k,b⟩:=vV _ w.heap.size _ gm _ _ 6 wJ K3.out (Jm 3) Z5 x3.heap.size 1 U HB3.out HA.out U hz3 254;(with_reducible refine JT ?_ (Ov (s:= .tmp 94) (y:= .tmp 101) ?_ ?_ ?_ hrun) ?_);·exact Ei O
  ·rfl
  ·rfl
  ·rfl
  have K4:=J k;replace FB:=J<|FB.out.trans b;clear k b hrun HA HB3 K3 hz3 Bv;go_wp2_with fail;rw[Ib];go_wp2_with fail;go_ret2;exact⟨_,_,_,O,by simp[m.out],K4.out.Bq,FB.out⟩
structure AF where
 (sz lo hi:Int)
 (Y5 S:Nat)
 gp:M
 n:Int
def AF.cells(a:AF):Array M:= #[E I a.sz,E I a.lo,E I a.hi,.func (.func a.Y5) #[] #[a.gp],.func (.func a.S) #[] #[a.gp]]
theorem AF.one(a:AF):a.cells.all (·.oneCell')=G:=by simp[AF.cells,Value.oneCell']
structure AF.ok(a:AF):Prop where
 neg:a.lo<0-> -32768<=a.lo/\a.hi<=32767
 pos:0<=a.lo->1<=a.sz/\a.sz<=7/\a.hi<256^a.sz.toNat
def fC(a:AF):Option (List Int):=if a.n<a.lo then Z else if a.hi<a.n then Z else if a.lo<0 then X (be (a.n%65536) 2) else X (be a.n a.sz.toNat)
def au:List AF->Option (List Int)
 |[]=>X []
 |a::l=>match fC a,au l with
  |some x,X y=>X (x++y)
  |_,_=>Z
theorem EJQ(l:List AF)(a:AF)(x y:List Int)(h:au l=X x)(ha:fC a=X y):au (l++[a])=X (x++y):=by
 induction l generalizing x with
 |nil=> simp only[au,Option.some.injEq] at h;subst h;simp[au,ha]
 |cons b l ih=>
  simp only[au,List.cons_append] at h⊢;cases hb:fC b with
  |none=>rw[hb] at h;cases h
  |some Y3=>
   rw[hb] at h;cases hl:au l with
   |none=>rw[hl] at h;cases h
   |some v=> rw[hl] at h;simp only[Option.some.injEq] at h;subst h;rw[ih v hl];simp
theorem EJR(l:List AF)(a:AF)(hm:a∈l)(ha:fC a=Z):au l=Z:=by
 induction l with
 |nil=>cases hm
 |cons b l ih=>
  rcases List.mem_cons.1 hm with h|h;·subst h;simp[au,ha]
  ·simp only[au];rw[ih h];cases fC b<;>rfl
theorem EJS(a:AF)(ok:a.ok)(bs:List Int)(h:fC a=X bs):1<=bs.length/\bs.length<=7:=by
 unfold fC at h;split at h;·cases h
 split at h;·cases h
 split at h;·injection h with h;subst h;rw[Oi];omega
 ·injection h with h;subst h;rw[Oi];have:=ok.pos U;omega
def MT(a:AF)(w:H)(e:Ending)(w':H):Prop:=
 (match fC a with
  |none=>e=Eg (Es #[u Z 0 0,Eb Y])
  |some bs=> ∃g,e=Eg (Es #[u (X ⟨g,0,Z⟩) bs.length bs.length,Eb G])/\Row w' (X ⟨g,0,Z⟩) bs)/\Eh w w'
theorem EJT(a:AF)(ok:a.ok)(w:H)(HG:bE w a.Y5 a.gp a.n):Ef EJ 242 #[EU a.cells] w (MT a w):=by
 unfold MT fC AF.cells;by_cases h1:a.n<a.lo;·simp only[if_pos h1];exact YR _ _ _ _ _ _ _ w HG h1
 by_cases h2:a.hi<a.n;·simp only[if_neg h1,if_pos h2];exact YT _ _ _ _ _ _ _ w HG U h2
 by_cases h3:a.lo<0;·simp only[if_neg h1,if_neg h2,if_pos h3,Oi];have:=ok.neg h3;exact(YV _ _ _ _ _ _ _ w HG U U h3 this.1 this.2).mono fun e w' ⟨g,he,hr,hb⟩=>⟨⟨g,he,hr⟩,hb⟩
 ·simp only[if_neg h1,if_neg h2,if_neg h3,Oi];have hp:=ok.pos U;obtain⟨k,hk⟩: ∃k:Nat,a.sz=k:=⟨a.sz.toNat,U⟩;have hk7:k<=7:=U;have hn:a.n<256^k:=by have:=hp.2.2;rw[hk,Int.toNat_natCast] at this;omega
  rw[hk,Int.toNat_natCast];have hpw:(2:Int)^(8*k)=256^k:=by rw[Int.pow_mul];rfl
  have hh:a.hi<=9223372036854775807:=by
   have h4:=hp.2.2;rw[hk,Int.toNat_natCast] at h4;have h5:(256:Int)^k<=72057594037927936:=by exact Ek6
   omega
  exact(YW _ _ _ _ _ _ w HG k U U U U (by rw[hpw];exact Int.ediv_eq_zero_of_lt U hn) hh).mono fun e w' ⟨g,he,hr,hb⟩=>⟨⟨g,he,hr⟩,hb⟩
theorem EJW(w:H)(k:Int)(h0:0<=k)(h1:k<=255):Own (w.alloc (EI #[E IB k] 5)) w.heap.size (X ⟨w.heap.size,0,Z⟩) 1 [k]:=
 ⟨⟨O,.inr ⟨w.heap.size,1,_,O,E5 _,heap_alloc_new w _,Ek,Ob,O,O⟩⟩,fun x hx=>by simp at hx;omega⟩
def MV(w:H)(gl:Nat)(fs:List AF):Prop:= ∀i (h:i<fs.length) j,j<5->w.cell? ⟨gl,i*5+j,Z⟩=fs[i].cells[j]?
def Bw(k:Int)(fs:List AF)(w:H)(e:Ending)(w':H):Prop:=
 (match au fs with
  |none=>e=Eg (Es #[u Z 0 0,Eb Y])
  |some ps=> ∃A c,e=Eg (Es #[u A (1+ps.length) c,Eb G])/\Own w' w.heap.size A c (k::ps))/\Eh w w'
theorem EJY(k:Int)(fs:List AF)(n gl cp:Nat)(hn:fs.length=n)(Egr:n<=100)(k0:0<=k)(k9:k<=255)(w:H)(hc: ∀W,Eh w W->MV W gl fs)(hg: ∀a∈fs,a.ok/\bE w a.Y5 a.gp a.n): Ef EJ 213 #[E I k,u (X ⟨gl,0,Z⟩) n cp] w (Bw k fs w):=by
 have HC:=J hc;have HG:=J hg;have HN:=J hn;clear hc hg hn;go_enter Tryz.func213,Tryz.ntmps213;go_wp2_with fail;have HO:=J<|EJW w k k0 k9;have BB:=J<|Eo w (EI #[E IB k] 5);generalize w.alloc (EI #[E IB k] 5)=w1 at*;go_loopw[6,16] (fun x y wr=> ∃(i:Nat) (A:Option Et) (c m:Nat) (ps:List Int),i<=n/\y=E I i/\x=u A m c/\m=1+ps.length/\m<=1+7*i/\au (fs.take i)=X ps/\Own wr w.heap.size A c (k::ps)/\Eh w wr) (fun _ y _=>n-(intOf y).toNat);case atStart=>exact⟨0,_,1,1,[],U,O,O,O,U,O,HO.out,BB.out⟩
 case round=>
  obtain⟨i,A,c,m,ps,hi,rfl,rfl,hm,UV,hps,ho,hbb⟩:=hrel;have l5:=hbb.size;have ai:=J ho;have BB:=J hbb;have wO:=J hps;have HM:=J hm;clear ho hbb hps hm;by_cases hin:i<n
  ·have hil:i<fs.length:=By;have hcell:=HC.out wr BB.out i hil;have hmem:=HG.out _ (List.getElem_mem hil);have htk:fs.take (i+1)=fs.take i++[fs[i]'hil]:=by rw[List.take_add_one,List.getElem?_eq_getElem hil];rfl
   have hin2:=List.getElem_mem hil;generalize fs[i]'hil=a at*;obtain⟨Bz,MW⟩:=hmem;have CB:=J<|fun W hW=>EJT a Bz W (bE.B MW hW);have OL:=J<|EJS a Bz;have HT:=J htk;have HI2:=J hin2;have hone:=J a.one;have hsz:Ea (a.cells.size=5):=J O;have hsp:Ea (a.cells= #[E I a.sz,E I a.lo,E I a.hi,.func (.func a.Y5) #[] #[a.gp],.func (.func a.S) #[] #[a.gp]]):=J O;have c0:=hcell 0 U;have c1:=hcell 1 U;have c2:=hcell 2 U;have c3:=hcell 3 U;have c4:=hcell 4 U;simp only[AF.cells,Nat.add_zero] at c0 c1 c2 c3 c4;clear hcell Bz MW htk hin2;have t1:decide ((i:Int)<(n:Int))=G:=Ia U;go_wp2_with (with_reducible refine wA bS (Ed.mk ?_));refine Ed.in ?_;clear c0 c1 c2 c3 c4 t1;have K5:=J<|D.new wr Jh 298;have b5:=J<|Eo wr (EI Jh 298);generalize wr.alloc (EI Jh 298)=w4 at*;go_wp2_with (with_reducible refine wS (cs:=a.cells) UF K5 (Ed.mk ?_) (hn:=hsz.out) (h1:=hone.out));refine Ed.in ?_;replace K5:=J<|K5.out.setRow a.cells;replace b5:=J<|E2 (g:=wr.heap.size) b5.out U a.cells;generalize w4.setRow wr.heap.size a.cells=w5 at*;replace ai:=J<|XF ai.out b5.out;replace BB:=ET BB b5.out;have l6:=BB.out.size;clear b5;go_wp2_with (with_reducible refine wL UF K5 ?_ (hn:=hsz.out));(with_reducible refine(CB.out _ BB.out).mono ?_);rintro e w6 ⟨hpost,b6⟩;clear K5;replace ai:=J<|XF ai.out b6;replace BB:=ET BB b6;have l7:=BB.out.size;clear b6;cases hout:fC a with
   |none=> have hnone:=EJR fs a HI2.out hout;rw[hout] at hpost;obtain rfl:=hpost;clear hout;go_wp2_with fail;go_ret2;unfold Bw;rw[hnone];exact⟨O,BB.out⟩
   |some bs=>
    rw[hout] at hpost;obtain⟨g6,rfl,r6⟩:=hpost;have hsn:=EJQ _ _ _ _ wO.out hout;rw[<-HT.out] at hsn;have hbl:=OL.out bs hout;have HSN:=J hsn;have R6:=J r6;clear hsn hout r6;generalize hbn:bs.length=bn at*;replace hbn:=J hbn;have BH:(k::ps).length=m:=by have:=HM.out;rw[List.length_cons];omega
    replace BH:=J BH;go_wp2_with ((with_reducible refine In 29 ?_);(with_reducible refine qU _ ?_ (.tmp 27) (.tmp 28) ?_ w.heap.size A c m (k::ps) BH.out ?_ ai.out (X ⟨g6,0,Z⟩) bn bn bs hbn.out ?_ R6.out ?_ ?_ ?_);(·rfl);(·rfl);(·rfl);(·rfl);(·omega);(·omega);rintro A2 c2 w7 o7 b7;refine Ed.mk ?_);refine Ed.in ?_;have O7:=J o7;replace BB:=J<|BB.out.trans b7;clear o7 b7;go_wp2_with fail;refine⟨⟨i+1,A2,c2,m+bn,ps++bs,U,Ek,O,?_,U,HSN.out,O7.out,BB.out⟩,JN⟩;have:=HM.out;rw[IL,hbn.out];omega
  ·obtain rfl:i=n:=U;have hps:=wO.out;rw[List.take_of_length_le ky] at hps;replace hps:=J hps;have t1:decide ((i:Int)<(i:Int))=Y:=E9 U;go_wp2_with fail;go_ret2;unfold Bw;rw[hps.out];exact⟨⟨A,c,by rw[HM.out];rfl,ai.out⟩,BB.out⟩
section
variable{P:Program}
def jh(k:IntKind)(n:Nat)(f:Nat->Int):Array M:=EH n fun i=> .int k (f i)
theorem BK(k:IntKind)(n:Nat)(f:Nat->Int)(i:Nat):(jh k n f)[i]?=if i<n then X (.int k (f i)) else Z:=bI _ _ _
theorem wU{e:Ez}{k:IntKind}(he:P.underlying e=X (.int k))(cs:Array M)(i:Nat)(v:M)(hv:cs[i]?=X v)(W:H):(Go.part e cs i).run P W= .ok v W:=by unfold Go.part;simp[isAgg,run_underlying he,hv]
theorem MY{e:Ez}{k:IntKind}(he:P.underlying e=X (.int k))(d n:Nat)(f g:Nat->Int)(W:H): ∀(m j:Nat),j+m<=n-> (Op.eqItems (d+1) e 1 (jh k n f) (jh k n g) (List.range' j m)).run P W= .ok ((List.range' j m).all fun i=>f i==g i) W
 |0,j,_=>by simp only[List.range'_zero,Op.eqItems,Sem.run_pure,List.all_nil]
 |m+1,j,h=>by
  have p1:=wU he (jh k n f) j _ (by rw[BK,if_pos U]) W;have p2:=wU he (jh k n g) j _ (by rw[BK,if_pos U]) W;rw[List.range'_succ,List.all_cons];simp only[Op.eqItems,Sem.run_bind,Nat.mul_one,p1,p2,Result.andThen_ok,run_equalIn_int W d e k k _ _ he];cases hb:(f j==g j);·exact Emn
  ·simp only[Bool.not_true,Bool.false_eq_true,if_false,Bool.true_and];exact MY he d n f g W m (j+1) U
def wX(n:Nat)(f g:Nat->Int):Bool:=(List.range n).all fun i=>f i==g i
theorem EJ1{n:Nat}{f g:Nat->Int}:wX n f g=G↔ ∀i,i<n->f i=g i:=by unfold wX;simp
theorem EJ2{t e:Ez}{k:IntKind}{n:Nat}{i:TypeInfo}(hu:P.underlying t=X (.array n e))(he:P.underlying e=X (.int k))(hc:P.cellsOf e=1)(hi:P.info? e=X i)(d:Nat)(f g:Nat->Int)(W:H): (Op.equalIn (d+1+1) t (EU (jh k n f)) (EU (jh k n g))).run P W= .ok (wX n f g) W:=by rw[run_equalIn_array W (d+1) _ _ hu hi,hc,List.range_eq_range',MY he d n f g W n 0 U,wX,List.range_eq_range']
end
theorem M0(x0 x1 x2 x3:Int):(#[E I x0,E I x1,E I x2,E I x3]:Array M)=jh .i64 4 (fun i=>if i=0 then x0 else if i=1 then x1 else if i=2 then x2 else x3):=rfl
theorem EJ3: ∃i,Tryz.prog.info? 3=X i:=⟨_,O⟩
theorem M8(x0 x1 x2 x3 y0 y1 y2 y3:Int)(d:Nat)(W:H): (Op.equalIn (d+1+1) 25 (EU #[E I x0,E I x1,E I x2,E I x3]) (EU #[E I y0,E I y1,E I y2,E I y3])).run EJ W= .ok (decide (x0=y0/\x1=y1/\x2=y2/\x3=y3)) W:=by
 obtain⟨i,hi⟩:=EJ3;rw[M0,M0,EJ2 Tryz.underlying25 Tryz.underlying3 Ec hi];congr 1;rw[Bool.eq_iff_iff,decide_eq_true_iff,EJ1];constructor;·intro h;exact⟨h 0 U,h 1 U,h 2 U,h 3 U⟩
 ·rintro⟨rfl,rfl,rfl,rfl⟩ i _;rfl
theorem EJ4(x0 x1 x2 x3 y0 y1 y2 y3:Int)(W:H): (binOp .neq 25 (EU #[E I x0,E I x1,E I x2,E I x3]) (EU #[E I y0,E I y1,E I y2,E I y3])).run EJ W= .ok (Eb (!decide (x0=y0/\x1=y1/\x2=y2/\x3=y3))) W:=by have:=M8 x0 x1 x2 x3 y0 y1 y2 y3 9998 W;simp[go_sem,this];done
theorem EJ5(gm:Nat)(l:List Int)(w:H)(k:Int)(hm:D w gm (ED l) 183)(hk:l.getD 0 0=k)(hn:ZE k=Z): Ef EJ 160 #[V (X ⟨gm,0,Z⟩)] w fun e w'=>e=Eg (Es #[u Z 0 0,Eb Y])/\w=w':=by
 have c0:=hm.cell 0;rw[Xj _ _ U,if_neg U,hk] at c0
 have hne:k≠1/\k≠2/\k≠3/\k≠4/\k≠5/\k≠6/\k≠7/\k≠8/\k≠9/\k≠10/\k≠11:=by
  unfold ZE at hn;repeat' split at hn
  all_goals first|(cases hn;done)|omega
 obtain⟨n1,n2,n3,n4,n5,n6,n7,n8,n9,n10,n11⟩:=hne;have q1:(k==1)=Y:=by simp[n1]
 have q2:(k==2)=Y:=by simp[n2]
 have q3:(k==3)=Y:=by simp[n3]
 have q4:(k==4)=Y:=by simp[n4]
 have q5:(k==5)=Y:=by simp[n5]
 have q6:(k==6)=Y:=by simp[n6]
 have q7:(k==7)=Y:=by simp[n7]
 have q8:(k==8)=Y:=by simp[n8]
 have q9:(k==9)=Y:=by simp[n9]
 have M9:(k==10)=Y:=by simp[n10]
 have M_:(k==11)=Y:=by simp[n11]
 clear hm hk hn;go_enter Tryz.func160,Tryz.ntmps160;go_wp2_with fail;exact Emm
def BW(w:H)(gm:Nat)(k:Int)(e:Ending)(w':H):Prop:=
 match ZE k with
 |some ds=>XX w gm ds e w'
 |none=>e=Eg (Es #[u Z 0 0,Eb Y])/\w=w'
theorem EJ6(gm:Nat)(l:List Int)(w:H)(hm:D w gm (ED l) 183):Ef EJ 160 #[V (X ⟨gm,0,Z⟩)] w (BW w gm (l.getD 0 0)):=by
 generalize hk:l.getD 0 0=k at*;by_cases h1:k=1;·subst h1;exact EJp gm l w hm hk
 by_cases h2:k=2;·subst h2;exact EJq gm l w hm hk
 by_cases h3:k=3;·subst h3;exact EJr gm l w hm hk
 by_cases h4:k=4;·subst h4;exact EJs gm l w hm hk
 by_cases h5:k=5;·subst h5;exact EJx gm l w hm hk
 by_cases h6:k=6;·subst h6;exact EJz gm l w hm hk
 by_cases h7:k=7;·subst h7;exact EJB gm l w hm hk
 by_cases h8:k=8;·subst h8;exact EJt gm l w hm hk
 by_cases h9:k=9;·subst h9;exact EJu gm l w hm hk
 by_cases h10:k=10;·subst h10;exact EJD gm l w hm hk
 by_cases h11:k=11;·subst h11;exact EJG gm l w hm hk
 have hn:ZE k=Z:=by unfold ZE;exact EmZ
 unfold BW;rw[hn];exact EJ5 gm l w k hm hk hn
end Go.Proofs.YtclmichaaiohjaaGreatDoor
