import Derived.Test.YtclmichaaiohjaaGreatDoorU08
import Derived.Lib.Walk
set_option maxRecDepth 100000
set_option linter.unusedVariables false
set_option linter.unusedSimpArgs false
set_option maxHeartbeats 6400000
namespace Go.Proofs.YtclmichaaiohjaaGreatDoor
open RowKit
open _root_.Array renaming getElem?_eq_some_iff->J6
open Bool renaming true->EI,false->B
open Go renaming World->H,Calls->Ef,TypeId->EB,Value->Y,Addr->Eu,Program->Jh,bodyPost_ret->EV,binOp->XW,results->UL,Act->E6,Oper->EL,yielded->JO,execOp->If,wpList->Ic,undef->I2,Operand->J7,info_parts->bz,below_setRow->E2,wpQuiet_nil->I1,callFunc->Jd,wp_loop_rounds->Ud,rounds_succ->Ij,results_none->UQ,Ending->Uh,wpList_store_mid->Ui
open Act renaming put->Ig
open Ending renaming returned->Eg
open Instr renaming index->Uj,lookup->gu
open IntKind renaming i64->I
open Lib renaming hid->J
open Obj renaming cells->EJ
open Go.Proofs.Tryz renaming prog->Eb
open Region renaming wanted->I5
open Result renaming andThen_ok->OC
open RowKit renaming Below->Ik,Hid->Ec,intOf->Ir
open RowKit.Below renaming refl->E9,alloc->JQ,setCell->JR,size->U8
open Sem renaming run_bind->Oz,run_pure->Og
open Value renaming bool->EU,int->E,agg->EZ,slice->G,tuple->Et,pointer->M,oneCell'->OF
open World renaming alloc->Uz,ownsRow_nil->bN,ownsRow->cu
open List renaming mem_of_mem_take->fy,getElem?_eq_getElem->J5,getElem?_eq_some_iff->Xx,take_succ_cons->Iq,length_take->aO,getD_eq_getElem?_getD->Uq,getElem?_append_right->aX,take_zero->Io,getElem?_toArray->OE,setIfInBounds_toArray->Ii,length_append->IY,getElem_mem->gY,append_assoc->XI,set_cons_succ->Ia,set_cons_zero->Ib,mem_append->XM,map_append->kU,length_drop->mB,drop_succ_cons->IP,drop_zero->IH,append_nil->fS,mem_singleton->cF
open Nat renaming le_trans->Ez,le_refl->E7,zero_add->OD,le_of_eq->Om
open Option renaming some->Z,none->X
open KQ
variable{T T2:EB}{n b g n0 lo hi gc gq gt gs ns:Nat}{w w' W:H}{cs c2:Array Y}{c:Ey}{v Y3 r:Y}{rs:List Rec}{P:Jh}{F:J7->Y}{o:EL}{x y:J7}{a:E6}{K:E6->Prop}
section
variable{P:Program}
theorem Lq{fn:Func}{p p2 q:Tmp}{n2:Nat}(hT:IG P T n)(iI:IG P T2 n2)(h:fn.results= #[.cell p T,.cell p2 T2,.tmp q])(tmps:Array Y)(w:H)(g g2:Nat)(cs cs2:Array Y)(v:Y) (hp:tmps.getD p I2=M (Z ⟨g,0,X⟩)) (hp2:tmps.getD p2 I2=M (Z ⟨g2,0,X⟩)) (hq:tmps.getD q I2=v) (hg:D w g cs T) (hn:cs.size=n) (hg2:D w g2 cs2 T2) (hn2:cs2.size=n2):(UL fn tmps).run P w= .ok (Et #[EZ cs,EZ cs2,v]) w:=by
 have hp':tmps[p]?.getD I2=M (Z ⟨g,0,X⟩):=j4;have EdC:tmps[p2]?.getD I2=M (Z ⟨g2,0,X⟩):=by simpa using hp2
 have hq':tmps[q]?.getD I2=v:=oz;simp[UL,h,hp',EdC,hq',asAddr,uH hT hg hn,uH iI hg2 hn2]
end
def Iz(Iw:Int)(op:Bool)(nc:List Int):Array Y:= #[E I Iw,EU op]++Ej nc
theorem Z6(Iw:Int)(op:Bool)(nc:List Int)(h:nc.length=8):(Iz Iw op nc).size=10:=by simp[Iz,Od,h]
theorem qX(Iw:Int)(op:Bool)(nc:List Int):(Iz Iw op nc).all (·.oneCell')=EI:=by
 rw[Array.all_eq_true];intro i hi;simp only[Iz] at hi⊢;rw[Array.getElem_append];split
 ·rename_i h;have:i=0\/i=1:=by simp at h;omega
  rcases this with rfl|rfl<;>rfl
 ·simp[Ej,OF]
theorem Cg(Iw:Int)(op:Bool)(nc:List Int):(Iz Iw op nc)[0]?=Z (E I Iw):=by unfold Iz;rw[Array.getElem?_append_left Eh];rfl
theorem Lr(Iw:Int)(op:Bool)(nc:List Int):(Iz Iw op nc)[1]?=Z (EU op):=by unfold Iz;rw[Array.getElem?_append_left Eh];rfl
theorem Ls(Iw:Int)(op:Bool)(nc:List Int)(h:nc.length=8):(Iz Iw op nc).extract 2 (2+8)=Ej nc:=by
 match nc,h with
 |[a,b,c,d,e,f,g,i],_=>rfl
theorem EdD(Iw:Int)(op:Bool)(nc:List Int)(h:nc.length=8):Tryz.prog.built 117 [(0,E I Iw),(1,EU op),(2,EZ (Ej nc))]=Z (Iz Iw op nc):=by
 obtain⟨a,b,c,d,e,f,g,i,rfl⟩: ∃a b c d e f g i,nc=[a,b,c,d,e,f,g,i]:=by
  match nc,h with
  |[a,b,c,d,e,f,g,i],_=>exact⟨a,b,c,d,e,f,g,i,O⟩
 kernel_rfl
theorem VA(Iw:Int):Tryz.prog.built 117 [(0,E I Iw)]=Z (Iz Iw B (Ep 8)):=Ed
theorem Lt:Tryz.prog.built 41 []=Z (Ej (Ep 32)):=Ed
theorem XD:IG Eb 117 10:=⟨⟨_,Tryz.underlying117,O⟩,Ed⟩
theorem lv:Oq Eb 117 (Iz 0 B (Ep 8)):=by intro ev o w ho;unfold If;simp only[ho];simp[go_sem];exact congrArg (fun c=>w.alloc (EJ c 117)) Ed
theorem lx:(Ep 8).length=8:=rfl
theorem EdF(A:Option Eu)(n c:Nat)(s Iw:Int)(op:Bool)(nc:List Int)(w:H)(hc:nc.length=8)(hm:4294967295<=Iw): Ef Eb 121 #[EZ (Iz Iw op nc),G A n c,E I s] w fun e w'=>e=Eg (Et #[EZ (Iz Iw op nc),E I 24])/\El w w':=by have DS:=J<|Z6 Iw op nc hc;have D1:=J<|qX Iw op nc;have C0:=Cg Iw op nc;generalize Iz Iw op nc=dv at*;clear hc;go_enter Tryz.func121,Tryz.ntmps121;go_wp2_with (with_reducible refine wA lv (Ev.mk ?_));apply Eo;have K3:=J<|(D.new w dv 117).alloc (EJ (Iz 0 B (Ep 8)) 117);have K6:=J<|D.new' (w.alloc (EJ dv 117)) (Iz 0 B (Ep 8)) 117 (g:=w.heap.size+1) Eh;have u:=J<|JV w (EJ dv 117) (EJ (Iz 0 B (Ep 8)) 117);generalize (w.alloc (EJ dv 117)).alloc (EJ (Iz 0 B (Ep 8)) 117)=w1 at*;have c0:=K3.out.cell 0;rw[C0] at c0;clear C0;go_wp2_with (with_reducible first|refine wL XD K3 ?_ (hn:=DS.out)|refine wS (cs:=dv) XD K6 ?_ (ho:=Z6 _ _ _ lx) (hn:=DS.out) (h1:=D1.out));refine EV (v:=Et #[EZ dv,E I 24]) (dq XD O _ _ (w.heap.size+1) _ _ O O (K6.out.setRow _) DS.out) O ⟨O,E2 u.out U _⟩
theorem EdG(A:Option Eu)(k:List Int)(n c:Nat)(s Iw:Int)(op:Bool)(nc:List Int)(w:H)(hn:k.length=n)(hk:Row w A k)(hl:n<=10000000)(hc:nc.length=8)(hm: -9223372036854775808<=Iw/\Iw<4294967295)(hR:Jt w): Ef Eb 121 #[EZ (Iz Iw op nc),G A n c,E I s] w fun e w'=>e=Eg (Et #[EZ (Iz (Iw+1) EI ((JS k (dc s (Iw+1))).take 8)),E I 0])/\El w w':=by have CN:=fun(W:H) (hb:El w W)=>EXX A k n c s (Iw+1) W hn (hk.V hb) hl (hR.V hb);have AL:((JS k (dc s (Iw+1))).take 8).length=8:=uu;generalize (JS k (dc s (Iw+1))).take 8=an at*;have BD:=J<|EdD (Iw+1) EI an AL;have DS:=J<|Z6 (Iw+1) EI an AL;have D1:=J<|qX (Iw+1) EI an;have C0:=Cg Iw op nc;have i1:IntKind.i64.wrap (Iw+1)=Iw+1:=IntWalk.i64_in _ U;generalize Iz Iw op nc=dv at*;generalize Iz (Iw+1) EI an=dr at*;replace CN:=J CN;replace AL:=J AL;clear hc hn hk hR;obtain⟨hm0,hm1⟩:=hm;go_enter Tryz.func121,Tryz.ntmps121;go_wp2_with (with_reducible refine wA lv (Ev.mk ?_));apply Eo;have K3:=J<|(D.new w dv 117).alloc (EJ (Iz 0 B (Ep 8)) 117);have K6:=J<|D.new' (w.alloc (EJ dv 117)) (Iz 0 B (Ep 8)) 117 (g:=w.heap.size+1) Eh;have u:=J<|JV w (EJ dv 117) (EJ (Iz 0 B (Ep 8)) 117);generalize (w.alloc (EJ dv 117)).alloc (EJ (Iz 0 B (Ep 8)) 117)=w1 at*;have c0:=K3.out.cell 0;rw[C0] at c0;clear C0;go_wp2_with fail;clear c0;refine(CN.out _ u.out).mono ?_;rintro e w2 ⟨rfl,b2⟩;replace K6:=J<|K6.out.V b2;replace u:=ET u b2;clear b2 CN K3;go_wp2_with (first|((with_reducible refine It 21 ?_);refine I3 rfl 117 _ rfl dr BD.out ?_)|(with_reducible refine wS (cs:=dr) XD K6 ?_ (ho:=Z6 _ _ _ lx) (hn:=DS.out) (h1:=D1.out)));refine EV (v:=Et #[EZ dr,E I 0]) (dq XD O _ _ (w.heap.size+1) _ _ O O (K6.out.setRow _) DS.out) O ⟨O,E2 u.out U _⟩
theorem EdH(A:Option Eu)(n c:Nat)(s r Iw:Int)(nc pf:List Int)(w:H)(hc:nc.length=8): Ef Eb 123 #[EZ (Iz Iw B nc),G A n c,E I s,E I r,EZ (Ej pf)] w fun e w'=>e=Eg (Et #[EZ (Iz Iw B nc),EZ (Ej (Ep 32)),E I 17])/\El w w':=by have DS:=J<|Z6 Iw B nc hc;have D1:=J<|qX Iw B nc;have C1:=Lr Iw B nc;have BZ:=J Lt;generalize Iz Iw B nc=dv at*;clear hc;go_enter Tryz.func123,Tryz.ntmps123;go_wp2_with (with_reducible first|refine wA lv ?_|refine wA aP (Ev.mk ?_));apply Eo;have K5:=J<|(((D.new w dv 117).alloc (EJ (Ej pf) 115)).alloc (EJ (Iz 0 B (Ep 8)) 117)).alloc (EJ (Ej (Ep 32)) 41);have K9:=J<|((D.new' (w.alloc (EJ dv 117)) (Ej pf) 115 (g:=w.heap.size+1) Eh).alloc (EJ (Iz 0 B (Ep 8)) 117)).alloc (EJ (Ej (Ep 32)) 41);have Jk:=J<|(D.new' ((w.alloc (EJ dv 117)).alloc (EJ (Ej pf) 115)) (Iz 0 B (Ep 8)) 117 (g:=w.heap.size+1+1) Eh).alloc (EJ (Ej (Ep 32)) 41);have IW:=J<|D.new' (((w.alloc (EJ dv 117)).alloc (EJ (Ej pf) 115)).alloc (EJ (Iz 0 B (Ep 8)) 117)) (Ej (Ep 32)) 41 (g:=w.heap.size+1+1+1) Eh;have u:=J<|bt (Z_ w (EJ dv 117) (EJ (Ej pf) 115) (EJ (Iz 0 B (Ep 8)) 117)) (Er (((w.alloc (EJ dv 117)).alloc (EJ (Ej pf) 115)).alloc (EJ (Iz 0 B (Ep 8)) 117)) (EJ (Ej (Ep 32)) 41));generalize (((w.alloc (EJ dv 117)).alloc (EJ (Ej pf) 115)).alloc (EJ (Iz 0 B (Ep 8)) 117)).alloc (EJ (Ej (Ep 32)) 41)=w1 at*;obtain⟨g9,iz⟩:=Jl (w.heap.size+1);rw[iz] at K9 Jk IW;simp only[iz];obtain⟨g10,iA⟩:=Jl (g9+1);rw[iA] at Jk IW;simp only[iA];obtain⟨g11,iB⟩:=Jl (g10+1);rw[iB] at IW;simp only[iB];have n9:w.heap.size<g9:=U;have n10:g9<g10:=U;have n11:g10<g11:=U;clear iz iA iB;have c1:=K5.out.cell 1;rw[C1] at c1;clear C1;go_wp2_with (first|(with_reducible refine wL XD K5 ?_ (hn:=DS.out))|((with_reducible refine It 19 ?_);refine I3 rfl 41 _ rfl (Ej (Ep 32)) BZ.out ?_)|(with_reducible refine wS (cs:=dv) XD Jk (Ev.mk ?_) (ho:=Z6 _ _ _ lx) (hn:=DS.out) (h1:=D1.out)));apply Eo;clear c1 K5 K9;replace IW:=J<|IW.out.setRow_other g10 dv U;replace Jk:=J<|Jk.out.setRow dv;replace u:=J<|E2 (g:=g10) u.out U dv;generalize w1.setRow g10 dv=w2 at*;go_wp2_with (with_reducible refine wS (cs:=Ej (Ep 32)) OZ IW ?_ (ho:=XO) (hn:=XO) (h1:=Xm _));refine EV (v:=Et #[EZ dv,EZ (Ej (Ep 32)),E I 17]) (Lq XD OZ O _ _ g10 g11 _ _ _ O O O (Jk.out.setRow_other _ _ U) DS.out (IW.out.setRow _) Hi) O ⟨O,E2 u.out U _⟩
def Ch(cl:Array Y)(A:Option Eu)(n c:Nat)(s r:Int)(g5:Nat)(nc kv:List Int)(i:Nat)(v:Y)(w:H):Prop:=match i with
 |0=>v=EZ cl
 |1=>v=G A n c
 |2=>v=E I s
 |3=>v=E I r
 |4=>v=M (Z ⟨g5,2,X⟩)
 |5=>v=EZ (Ej nc)
 |_=>v=EZ (Ej kv)
theorem EdK(cl:Array Y)(A:Option Eu)(n c:Nat)(s r:Int)(g5:Nat)(nc kv:List Int): ∀i v w w',i<7->Ch cl A n c s r g5 nc kv i v w->J0 w w'->Ch cl A n c s r g5 nc kv i v w':=by intro i v w w' hi h hb;unfold Ch at*;split at h;all_goals exact h
theorem EdL(A:Option Eu)(k:List Int)(n c:Nat)(s r Iw:Int)(nc pf:List Int)(w:H)(hn:k.length=n)(hk:Row w A k)(hl:n<=10000000)(hc:nc.length=8)(hb: ∀x∈nc,0<=x/\x<=255)(hR:Jt w)(hpl:pf.length=8)(hpb: ∀x∈pf,0<=x/\x<=255)(hp:pf≠(JS k (Ov 80 s r nc)).take 8): Ef Eb 123 #[EZ (Iz Iw EI nc),G A n c,E I s,E I r,EZ (Ej pf)] w fun e w'=>e=Eg (Et #[EZ (Iz Iw B (Ep 8)),EZ (Ej (Ep 32)),E I 14])/\El w w':=by have CP:=fun(W:H) (hb':El w W)=>Q9 A k nc n c s r W hn (hk.V hb') hl hc hb (hR.V hb');have CK:=fun(W:H) (hb':El w W)=>Q_ A k nc n c s r W hn (hk.V hb') hl hc hb (hR.V hb');have RL:((JS k (Ov 80 s r nc)).take 8).length=8:=uu;have RB: ∀x∈(JS k (Ov 80 s r nc)).take 8,0<=x/\x<=255:=fun x hx=>uq _ _ x (fy hx);have KL:(JS k (Ov 75 s r nc)).length=32:=mN _ _;have SM:decide (pf=(JS k (Ov 80 s r nc)).take 8)=B:=IJ hp;generalize (JS k (Ov 80 s r nc)).take 8=rt at*;generalize JS k (Ov 75 s r nc)=kv at*;have DS:=J<|Z6 Iw EI nc hc;have C0:=Cg Iw EI nc;have C1:=Lr Iw EI nc;have CX:=J<|Ls Iw EI nc hc;have BZ:=J Lt;have BC:=J<|VA Iw;have ES:=J<|Z6 Iw B (Ep 8) lx;have E1:=J<|qX Iw B (Ep 8);generalize Iz Iw EI nc=dv at*;generalize Iz Iw B (Ep 8)=cl at*;replace CP:=J CP;replace CK:=J CK;replace RL:=J RL;replace RB:=J RB;replace KL:=J KL;replace SM:=J SM;have h_:=J hpl;have ZH:=J hpb;have HC:=J hc;clear hc hn hk hR hb hpl hpb hp;go_enter Tryz.func123,Tryz.ntmps123;go_wp2_with (with_reducible first|refine wA lv ?_|refine wA aP (Ev.mk ?_));apply Eo;have K5:=J<|(((D.new w dv 117).alloc (EJ (Ej pf) 115)).alloc (EJ (Iz 0 B (Ep 8)) 117)).alloc (EJ (Ej (Ep 32)) 41);have K9:=J<|((D.new' (w.alloc (EJ dv 117)) (Ej pf) 115 (g:=w.heap.size+1) Eh).alloc (EJ (Iz 0 B (Ep 8)) 117)).alloc (EJ (Ej (Ep 32)) 41);have Jk:=J<|(D.new' ((w.alloc (EJ dv 117)).alloc (EJ (Ej pf) 115)) (Iz 0 B (Ep 8)) 117 (g:=w.heap.size+1+1) Eh).alloc (EJ (Ej (Ep 32)) 41);have IW:=J<|D.new' (((w.alloc (EJ dv 117)).alloc (EJ (Ej pf) 115)).alloc (EJ (Iz 0 B (Ep 8)) 117)) (Ej (Ep 32)) 41 (g:=w.heap.size+1+1+1) Eh;have u:=J<|bt (Z_ w (EJ dv 117) (EJ (Ej pf) 115) (EJ (Iz 0 B (Ep 8)) 117)) (Er (((w.alloc (EJ dv 117)).alloc (EJ (Ej pf) 115)).alloc (EJ (Iz 0 B (Ep 8)) 117)) (EJ (Ej (Ep 32)) 41));generalize (((w.alloc (EJ dv 117)).alloc (EJ (Ej pf) 115)).alloc (EJ (Iz 0 B (Ep 8)) 117)).alloc (EJ (Ej (Ep 32)) 41)=w1 at*;obtain⟨g9,iz⟩:=Jl (w.heap.size+1);rw[iz] at K9 Jk IW;simp only[iz];obtain⟨g10,iA⟩:=Jl (g9+1);rw[iA] at Jk IW;simp only[iA];obtain⟨g11,iB⟩:=Jl (g10+1);rw[iB] at IW;simp only[iB];have n9:w.heap.size<g9:=U;have n10:g9<g10:=U;have n11:g10<g11:=U;clear iz iA iB;have c0:=K5.out.cell 0;have c1:=K5.out.cell 1;rw[C0] at c0;rw[C1] at c1;clear C0 C1;have l11:=IW.out.lt;go_wp2_with (first|((with_reducible refine It 22 ?_);refine I3 rfl 117 _ rfl cl BC.out ?_)|(with_reducible refine wA lv (Ev.mk ?_)));apply Eo;clear c0 c1;have bel:=Er w1 (EJ (Iz 0 B (Ep 8)) 117);replace K5:=J<|K5.out.V bel;replace K9:=J<|K9.out.V bel;replace Jk:=J<|Jk.out.V bel;replace IW:=J<|IW.out.V bel;replace u:=ET u bel;have O4:=J<|D.new w1 (Iz 0 B (Ep 8)) 117;clear bel;generalize w1.alloc (EJ (Iz 0 B (Ep 8)) 117)=w2 at*;generalize w1.heap.size=g13 at*;go_wp2_with (with_reducible refine wS (cs:=cl) XD O4 (Ev.mk ?_) (ho:=Z6 _ _ _ lx) (hn:=ES.out) (h1:=E1.out));apply Eo;replace K5:=J<|K5.out.setRow_other g13 cl U;replace K9:=J<|K9.out.setRow_other g13 cl U;replace Jk:=J<|Jk.out.setRow_other g13 cl U;replace IW:=J<|IW.out.setRow_other g13 cl U;replace O4:=J<|O4.out.setRow cl;replace u:=J<|E2 (g:=g13) u.out U cl;generalize w2.setRow g13 cl=w3 at*;go_wp2_with (with_reducible refine wM (off:=2) (cs:=Ej nc) ZY K5 ?_ (hn:=z5) (he:=CX.out));refine(CP.out _ u.out).mono ?_;rintro e w4 ⟨rfl,b4⟩;replace K5:=J<|K5.out.V b4;replace K9:=J<|K9.out.V b4;replace Jk:=J<|Jk.out.V b4;replace IW:=J<|IW.out.V b4;replace O4:=J<|O4.out.V b4;replace u:=ET u b4;clear b4 CP;have l13:=O4.out.lt;go_wp2_with (with_reducible refine wA oS (Ev.mk ?_));apply Eo;have bel:=Er w4 (EJ (Ej (Ep 8)) 115);replace K5:=J<|K5.out.V bel;replace K9:=J<|K9.out.V bel;replace Jk:=J<|Jk.out.V bel;replace IW:=J<|IW.out.V bel;replace O4:=J<|O4.out.V bel;replace u:=ET u bel;have bU:=J<|D.new w4 (Ej (Ep 8)) 115;clear bel;generalize w4.alloc (EJ (Ej (Ep 8)) 115)=w5 at*;generalize w4.heap.size=g14 at*;go_wp2_with (with_reducible refine wS (cs:=Ej rt) ZY bU (Ev.mk ?_) (ho:=XO) (hn:=Hj) (h1:=Xm _));apply Eo;replace K5:=J<|K5.out.setRow_other g14 (Ej rt) U;replace K9:=J<|K9.out.setRow_other g14 (Ej rt) U;replace Jk:=J<|Jk.out.setRow_other g14 (Ej rt) U;replace IW:=J<|IW.out.setRow_other g14 (Ej rt) U;replace O4:=J<|O4.out.setRow_other g14 (Ej rt) U;replace bU:=J<|bU.out.setRow (Ej rt);replace u:=J<|E2 (g:=g14) u.out FT (Ej rt);generalize w5.setRow g14 (Ej rt)=w6 at*;have CS:=J<|fun q=>zN (Z ⟨g9,0,X⟩) (Z ⟨g14,0,X⟩) pf rt 8 8 8 8 (w6.drewN q) h_.out RL.out (yi (aK K9.out ZH.out) q) (yi (aK bU.out RB.out) q) U U;rw[SM.out] at CS;go_wp2_with fail;go_quiet (((with_reducible refine(CS.out _).mono ?_);(rintro e w2 ⟨rfl,rfl⟩;exact⟨O,_,O⟩)));clear CS;replace K5:=J<|K5.out.drewN nq;replace K9:=J<|K9.out.drewN nq;replace Jk:=J<|Jk.out.drewN nq;replace IW:=J<|IW.out.drewN nq;replace O4:=J<|O4.out.drewN nq;replace bU:=J<|bU.out.drewN nq;replace u:=J<|gP u.out nq;generalize w6.drewN nq=w7 at*;go_wp2_with (first|(with_reducible refine wL XD O4 ?_ (hn:=ES.out))|((with_reducible refine It 34 ?_);refine I3 rfl 41 _ rfl (Ej (Ep 32)) BZ.out ?_)|(with_reducible refine wS (cs:=cl) XD Jk (Ev.mk ?_) (ho:=Z6 _ _ _ lx) (hn:=ES.out) (h1:=E1.out)));apply Eo;replace K5:=J<|K5.out.setRow_other g10 cl U;replace K9:=J<|K9.out.setRow_other g10 cl U;replace IW:=J<|IW.out.setRow_other g10 cl U;replace O4:=J<|O4.out.setRow_other g10 cl U;replace bU:=J<|bU.out.setRow_other g10 cl U;replace Jk:=J<|Jk.out.setRow cl;replace u:=J<|E2 (g:=g10) u.out U cl;generalize w7.setRow g10 cl=w8 at*;go_wp2_with (with_reducible refine wS (cs:=Ej (Ep 32)) OZ IW ?_ (ho:=XO) (hn:=XO) (h1:=Xm _));refine EV (v:=Et #[EZ cl,EZ (Ej (Ep 32)),E I 14]) (Lq XD OZ O _ _ g10 g11 _ _ _ O O O (Jk.out.setRow_other _ _ U) ES.out (IW.out.setRow _) Hi) O ⟨O,E2 u.out U _⟩
theorem EdP(A:Option Eu)(k:List Int)(n c:Nat)(s r Iw:Int)(nc pf:List Int)(w:H)(hn:k.length=n)(hk:Row w A k)(hl:n<=10000000)(hc:nc.length=8)(hb: ∀x∈nc,0<=x/\x<=255)(hR:Jt w)(hpl:pf.length=8)(hpb: ∀x∈pf,0<=x/\x<=255)(hp:pf=(JS k (Ov 80 s r nc)).take 8): Ef Eb 123 #[EZ (Iz Iw EI nc),G A n c,E I s,E I r,EZ (Ej pf)] w fun e w'=>e=Eg (Et #[EZ (Iz Iw B (Ep 8)),EZ (Ej (JS k (Ov 75 s r nc))),E I 0])/\El w w':=by
 have CP:=fun(W:H) (hb':El w W)=>Q9 A k nc n c s r W hn (hk.V hb') hl hc hb (hR.V hb');have CK:=fun(W:H) (hb':El w W)=>Q_ A k nc n c s r W hn (hk.V hb') hl hc hb (hR.V hb');have RL:((JS k (Ov 80 s r nc)).take 8).length=8:=uu;have RB: ∀x∈(JS k (Ov 80 s r nc)).take 8,0<=x/\x<=255:=fun x hx=>uq _ _ x (fy hx);have KL:(JS k (Ov 75 s r nc)).length=32:=mN _ _;have SM:decide (pf=(JS k (Ov 80 s r nc)).take 8)=EI:=IU hp;generalize (JS k (Ov 80 s r nc)).take 8=rt at*;generalize JS k (Ov 75 s r nc)=kv at*;have DS:=J<|Z6 Iw EI nc hc;have C0:=Cg Iw EI nc;have C1:=Lr Iw EI nc;have CX:=J<|Ls Iw EI nc hc;have BZ:=J Lt;have BC:=J<|VA Iw;have ES:=J<|Z6 Iw B (Ep 8) lx;have E1:=J<|qX Iw B (Ep 8);generalize Iz Iw EI nc=dv at*;generalize Iz Iw B (Ep 8)=cl at*;replace CP:=J CP;replace CK:=J CK;replace RL:=J RL;replace RB:=J RB;replace KL:=J KL;replace SM:=J SM;have h_:=J hpl;have ZH:=J hpb;have HC:=J hc;clear hc hn hk hR hb hpl hpb hp;go_enter Tryz.func123,Tryz.ntmps123;go_wp2_with (with_reducible first|refine wA lv ?_|refine wA aP (Ev.mk ?_));apply Eo;have K5:=J<|(((D.new w dv 117).alloc (EJ (Ej pf) 115)).alloc (EJ (Iz 0 B (Ep 8)) 117)).alloc (EJ (Ej (Ep 32)) 41);have K9:=J<|((D.new' (w.alloc (EJ dv 117)) (Ej pf) 115 (g:=w.heap.size+1) Eh).alloc (EJ (Iz 0 B (Ep 8)) 117)).alloc (EJ (Ej (Ep 32)) 41);have Jk:=J<|(D.new' ((w.alloc (EJ dv 117)).alloc (EJ (Ej pf) 115)) (Iz 0 B (Ep 8)) 117 (g:=w.heap.size+1+1) Eh).alloc (EJ (Ej (Ep 32)) 41);have IW:=J<|D.new' (((w.alloc (EJ dv 117)).alloc (EJ (Ej pf) 115)).alloc (EJ (Iz 0 B (Ep 8)) 117)) (Ej (Ep 32)) 41 (g:=w.heap.size+1+1+1) Eh;have u:=J<|bt (Z_ w (EJ dv 117) (EJ (Ej pf) 115) (EJ (Iz 0 B (Ep 8)) 117)) (Er (((w.alloc (EJ dv 117)).alloc (EJ (Ej pf) 115)).alloc (EJ (Iz 0 B (Ep 8)) 117)) (EJ (Ej (Ep 32)) 41));generalize (((w.alloc (EJ dv 117)).alloc (EJ (Ej pf) 115)).alloc (EJ (Iz 0 B (Ep 8)) 117)).alloc (EJ (Ej (Ep 32)) 41)=w1 at*;obtain⟨g9,iz⟩:=Jl (w.heap.size+1);rw[iz] at K9 Jk IW;simp only[iz];obtain⟨g10,iA⟩:=Jl (g9+1);rw[iA] at Jk IW;simp only[iA];obtain⟨g11,iB⟩:=Jl (g10+1);rw[iB] at IW;simp only[iB];have n9:w.heap.size<g9:=U;have n10:g9<g10:=U;have n11:g10<g11:=U;clear iz iA iB;have c0:=K5.out.cell 0;have c1:=K5.out.cell 1;rw[C0] at c0;rw[C1] at c1;clear C0 C1;have l11:=IW.out.lt;go_wp2_with (first|((with_reducible refine It 22 ?_);refine I3 rfl 117 _ rfl cl BC.out ?_)|(with_reducible refine wA lv (Ev.mk ?_)));apply Eo;clear c0 c1;have bel:=Er w1 (EJ (Iz 0 B (Ep 8)) 117);replace K5:=J<|K5.out.V bel;replace K9:=J<|K9.out.V bel;replace Jk:=J<|Jk.out.V bel;replace IW:=J<|IW.out.V bel;replace u:=ET u bel;have O4:=J<|D.new w1 (Iz 0 B (Ep 8)) 117;clear bel;generalize w1.alloc (EJ (Iz 0 B (Ep 8)) 117)=w2 at*;generalize w1.heap.size=g13 at*;go_wp2_with (with_reducible refine wS (cs:=cl) XD O4 (Ev.mk ?_) (ho:=Z6 _ _ _ lx) (hn:=ES.out) (h1:=E1.out));apply Eo;replace K5:=J<|K5.out.setRow_other g13 cl U;replace K9:=J<|K9.out.setRow_other g13 cl U;replace Jk:=J<|Jk.out.setRow_other g13 cl U;replace IW:=J<|IW.out.setRow_other g13 cl U;replace O4:=J<|O4.out.setRow cl;replace u:=J<|E2 (g:=g13) u.out U cl;generalize w2.setRow g13 cl=w3 at*;go_wp2_with (with_reducible refine wM (off:=2) (cs:=Ej nc) ZY K5 ?_ (hn:=z5) (he:=CX.out));refine(CP.out _ u.out).mono ?_;rintro e w4 ⟨rfl,b4⟩;replace K5:=J<|K5.out.V b4;replace K9:=J<|K9.out.V b4;replace Jk:=J<|Jk.out.V b4;replace IW:=J<|IW.out.V b4;replace O4:=J<|O4.out.V b4;replace u:=ET u b4;clear b4 CP;have l13:=O4.out.lt;go_wp2_with (with_reducible refine wA oS (Ev.mk ?_));apply Eo;have bel:=Er w4 (EJ (Ej (Ep 8)) 115);replace K5:=J<|K5.out.V bel;replace K9:=J<|K9.out.V bel;replace Jk:=J<|Jk.out.V bel;replace IW:=J<|IW.out.V bel;replace O4:=J<|O4.out.V bel;replace u:=ET u bel;have bU:=J<|D.new w4 (Ej (Ep 8)) 115;clear bel;generalize w4.alloc (EJ (Ej (Ep 8)) 115)=w5 at*;generalize w4.heap.size=g14 at*;go_wp2_with (with_reducible refine wS (cs:=Ej rt) ZY bU (Ev.mk ?_) (ho:=XO) (hn:=Hj) (h1:=Xm _));apply Eo;replace K5:=J<|K5.out.setRow_other g14 (Ej rt) U;replace K9:=J<|K9.out.setRow_other g14 (Ej rt) U;replace Jk:=J<|Jk.out.setRow_other g14 (Ej rt) U;replace IW:=J<|IW.out.setRow_other g14 (Ej rt) U;replace O4:=J<|O4.out.setRow_other g14 (Ej rt) U;replace bU:=J<|bU.out.setRow (Ej rt);replace u:=J<|E2 (g:=g14) u.out FT (Ej rt);generalize w5.setRow g14 (Ej rt)=w6 at*;have CS:=J<|fun q=>zN (Z ⟨g9,0,X⟩) (Z ⟨g14,0,X⟩) pf rt 8 8 8 8 (w6.drewN q) h_.out RL.out (yi (aK K9.out ZH.out) q) (yi (aK bU.out RB.out) q) U U;rw[SM.out] at CS;go_wp2_with fail;go_quiet (((with_reducible refine(CS.out _).mono ?_);(rintro e w2 ⟨rfl,rfl⟩;exact⟨O,_,O⟩)));clear CS;replace K5:=J<|K5.out.drewN nq;replace K9:=J<|K9.out.drewN nq;replace Jk:=J<|Jk.out.drewN nq;replace IW:=J<|IW.out.drewN nq;replace O4:=J<|O4.out.drewN nq;replace bU:=J<|bU.out.drewN nq;replace u:=J<|gP u.out nq;generalize w6.drewN nq=w7 at*;go_wp2_with fail;refine ZB EF Ed 7 Ed Eh Ea (Ch cl A n c s r w.heap.size nc kv) (EdK _ _ _ _ _ _ _ _ _) ?_ ?_
 ·simp only[Xl,Iq,Io,EH,Ig,Ii,Ia,Ib,and_true];refine⟨?_,?_,?_,?_,?_,?_,?_⟩;all_goals intro v w' hb hd
  ·exact rh EF (g:=g13) XD (Ei O) ⟨O,Ex⟩ (O4.out.V hb) ES.out O
  ·exact Elo
  ·exact Elo
  ·exact Elo
  ·exact Elo
  ·have d4:v 4=M (Z ⟨w.heap.size,2,X⟩):=hd.at 4 rfl;exact EJI EF (g:=w.heap.size) (off:=2) (cs:=Ej nc) ZY (Ei O) ⟨O,XN⟩ (K5.out.V hb) (by rw[Od,HC.out]) CX.out O
  ·have d1:v 1=G A n c:=hd.at 1 rfl;have d2:v 2=E I s:=hd.at 2 rfl;have d3:v 3=E I r:=hd.at 3 rfl;have d5:v 5=EZ (Ej nc):=hd.at 5 rfl;refine JL (f:=169) (args:= #[v 1,v 2,v 3,v 5]) (Ei O) Ex ?_;rw[d1,d2,d3,d5];exact(CK.out w' (bt u.out hb)).mono fun e w'' ⟨he,hb'⟩=>⟨_,he,hb',O⟩
 ·intro v w' hb hr;have d0:v 0=EZ cl:=hr 0 U;have d6:v 6=EZ (Ej kv):=hr 6 U;simp only[Iq,Io,IP,IH,EH,Ig,Ii,Ia,Ib];rw[d0,d6];replace Jk:=J<|Jk.out.V hb;replace IW:=J<|IW.out.V hb;replace u:=ET u hb;clear hr hb d0 d6 K5 K9 O4 bU CK;go_wp2_with (with_reducible refine wS (cs:=cl) XD Jk (Ev.mk ?_) (ho:=Z6 _ _ _ lx) (hn:=ES.out) (h1:=E1.out));apply Eo;replace IW:=J<|IW.out.setRow_other g10 cl U;replace Jk:=J<|Jk.out.setRow cl;replace u:=J<|E2 (g:=g10) u.out U cl;generalize w'.setRow g10 cl=w8 at*;go_wp2_with (with_reducible refine wS (cs:=Ej kv) OZ IW ?_ (ho:=XO) (hn:=QT) (h1:=Xm _));refine EV (v:=Et #[EZ cl,EZ (Ej kv),E I 0]) (Lq XD OZ O _ _ g10 g11 _ _ _ O O O (Jk.out.setRow_other _ _ U) ES.out (IW.out.setRow _) (by rw[Od,KL.out])) O ⟨O,E2 u.out U _⟩
def ly(T:EB)(n:Nat)(cs:Array Y)(w w':H):Prop:= ∀b c,D w b c T->c.size=n-> ∃c':Array Y,c'.size=n/\D w' b c' T/\(c=cs->c'=cs)
theorem wJ(hs:cs.size=n):ly T n cs w (w.setRow b cs):=fun k d h h8=>by
 by_cases e:k=b;·subst e;exact⟨cs,hs,h.setRow cs,fun _=>rfl⟩
 ·exact⟨d,h8,D.setRow_other h b cs e,id⟩
theorem VB{c:Array Y}(k:D w b c2 T2)(hT:T≠T2):ly T n cs w (w.setRow b c):=fun _ d h h8=>⟨d,h8,D.setRow_other h b c (EW h k hT),id⟩
theorem EdQ(ho:E3 g w w')(k:D w g c2 T2)(hT:T≠T2):ly T n cs w w':=fun _ d h h8=>⟨d,h8,ho.Ek h (EW h k hT),id⟩
def bX(T:EB)(n n0:Nat)(v:Y)(w:H):Prop:= ∃(b:Nat) (c:Array Y),v=M (Z ⟨b,0,X⟩)/\n0<=b/\c.size=n/\D w b c T
theorem bX.V(h:bX T n n0 v w)(hb:El w w'):bX T n n0 v w':=by exact EoA
theorem bX.sz(h:bX T n n0 v w)(hb:ly T n cs w w'):bX T n n0 v w':=by obtain⟨b,c,h1,h2,h3,h4⟩:=h;obtain⟨c',h5,h6,-⟩:=hb b c h4 h3;exact⟨b,c',h1,h2,h5,h6⟩
theorem E5.Ci{g:Nat->Y}{W':H}(S:E5 lo hi g gc gq gt gs c ns rs W)(ho:E3 b W W'){d:Array Y}(K:D W b d T)(hT:(124::264::58::AY).contains T=B)(h1:lo<=b):E5 lo hi g gc gq gt gs c ns rs W':=by obtain⟨sv,rv,sc,ks,r1,r2⟩:=S.fU;have kp: ∀k cs S,(124::264::58::AY).contains S=EI->D W k cs S->D W' k cs S:=fun k cs S hS hb=>ho.Ek hb (EW hb K (by intro e;subst e;rw[hT] at hS;cases hS));exact⟨S.core.via (fun k cs T hT hb=>kp k cs T (by simp only[List.contains_cons,hT,Bool.or_true]) hb) (ho.bel lo h1 Kj),S.hc,S.hq,S.ht,S.ct,S.his,sv,rv,sc,kp _ _ _ Ea ks,EP r1 fun _ _ hk=>kp _ _ _ Ea hk,EP r2 fun _ _ hk=>kp _ _ _ Ea hk⟩
theorem Dr.vA(d:Dr):d.v.toArray=Iz d.n d.op d.nc:=by simp[Dr.v,Iz,Ej]
theorem VC{g:Nat->Y}(C:JE lo g gc gq gt c w)(j:Nat)(hj:j<3): ∃(d:Dr) (big:Array Y),d.ok/\D w gc big 120/\big.extract (65+j*10) (65+j*10+10)=Iz d.n d.op d.nc:=by
 obtain⟨d0,d1,d2,hd,KG,o0,o1,o2,-,-⟩:=C.Ek;have Xy:j=0\/j=1\/j=2:=U;rcases Xy with rfl|rfl|rfl;·exact⟨d0,_,o0,KG,(Jc.extract 3 rfl (Ok (Jz g) o0 o1 o2 3 U) 10 (Dr.len' o0)).trans d0.vA⟩
 ·exact⟨d1,_,o1,KG,(Jc.extract 4 rfl (Ok (Jz g) o0 o1 o2 4 U) 10 (Dr.len' o1)).trans d1.vA⟩
 ·exact⟨d2,_,o2,KG,(Jc.extract 5 rfl (Ok (Jz g) o0 o1 o2 5 U) 10 (Dr.len' o2)).trans d2.vA⟩
theorem VD{g:Nat->Y}(C:JE lo g gc gq gt c w)(j:Nat)(hj:j<3):w.there gc (65+j*10) 10:=by
 obtain⟨d0,d1,d2,hd,KG,o0,o1,o2,-,-⟩:=C.Ek;have Xy:j=0\/j=1\/j=2:=U;rcases Xy with rfl|rfl|rfl;·exact KG.there 3 rfl (Ok (Jz g) o0 o1 o2 3 U) 10 (by rw[Dr.len' o0];exact E7 _)
 ·exact KG.there 4 rfl (Ok (Jz g) o0 o1 o2 4 U) 10 (by rw[Dr.len' o1];exact E7 _)
 ·exact KG.there 5 rfl (Ok (Jz g) o0 o1 o2 5 U) 10 (by rw[Dr.len' o2];exact E7 _)
theorem E5.VF{g:Nat->Y}(S:E5 lo hi g gc gq gt gs c ns rs W)(j:Nat)(hj:j<3)(d:Dr)(od:d.ok):E5 lo hi g gc gq gt gs c ns rs (W.setCells gc (65+j*10) (Iz d.n d.op d.nc).toList)/\Ew lo hi W (W.setCells gc (65+j*10) (Iz d.n d.op d.nc).toList):=by
 rw[<-Dr.vA];change E5 lo hi g gc gq gt gs c ns rs (W.setCells gc (65+j*10) d.v)/\Ew lo hi W (W.setCells gc (65+j*10) d.v);obtain⟨d0,d1,d2,hd,k,o0,o1,o2,r⟩:=S.core.Ek;obtain⟨sv,rv,sc,ks,r1,r2⟩:=S.fU;have fin: ∀W',E3 gc W W'->(∃(d0 d1 d2:Dr) (hd:List Int),Jc W' gc (ak (EG 56 g).toList c gq gt d0 d1 d2 hd) 120/\d0.ok/\d1.ok/\d2.ok/\hd.length=32/\ ∀x∈hd,0<=x/\x<=255)->E5 lo hi g gc gq gt gs c ns rs W'/\Ew lo hi W W':=fun W' ho hb=>by obtain⟨e0,e1,e2,ehd,k',_⟩:=id hb;exact⟨⟨S.core.set ho O O S.core.ok hb,S.hc,S.hq,S.ht,S.ct,S.his,sv,rv,sc,ho.Ek ks (EW ks k Ea),EP r1 fun _ _ hk=>ho.Ek hk (EW hk k Ea),EP r2 fun _ _ hk=>ho.Ek hk (EW hk k Ea)⟩,Ew.vO ho k k' Ea S.core.lc⟩
 refine fin _ (JG _ _ _) ?_;have Xy:j=0\/j=1\/j=2:=U;rcases Xy with rfl|rfl|rfl;·exact⟨d,d1,d2,hd,k.set 3 rfl (Ok (Jz g) o0 o1 o2 3 U) d.v (by rw[Dr.len' od,Dr.len' o0]),od,o1,o2,r⟩
 ·exact⟨d0,d,d2,hd,k.set 4 rfl (Ok (Jz g) o0 o1 o2 4 U) d.v (by rw[Dr.len' od,Dr.len' o1]),o0,od,o2,r⟩
 ·exact⟨d0,d1,d,hd,k.set 5 rfl (Ok (Jz g) o0 o1 o2 5 U) d.v (by rw[Dr.len' od,Dr.len' o2]),o0,o1,od,r⟩
theorem VG(gc:Nat)(k:Int)(j:Nat)(hk:k=(j:Int)+1)(hj:j<3)(W:H):(Instr.indexAt 118 (M (Z ⟨gc,65,X⟩)) (E I (k-1))).run Eb W= .ok (M (Z ⟨gc,65+j*10,X⟩)) W:=by exact Eos
theorem sub_one(k:Int)(h1:1<=k)(h3:k<=3)(W:H):(XW .sub 3 (E I k) (E I 1)).run Eb W= .ok (E I (k-1)) W:=by have hk:k=1\/k=2\/k=3:=U;rcases hk with rfl|rfl|rfl<;>rfl
theorem EdR(d:Dr)(hd:d.ok)(A:Option Eu)(ys:List Int)(n cap:Nat)(k:Int)(hn:ys.length=n)(hl:n<=10000000): ∃(d':Dr) (cd:Int),d'.ok/\ ∀W,Row W A ys->Jt W->Ef Eb 121 #[EZ (Iz d.n d.op d.nc),G A n cap,E I k] W fun e w'=>e=Eg (Et #[EZ (Iz d'.n d'.op d'.nc),E I cd])/\El W w':=by
 obtain⟨⟨n1,n2⟩,ja,hb⟩:=hd;by_cases hm:d.n<4294967295;·refine⟨⟨d.n+1,EI,(JS ys (dc k (d.n+1))).take 8⟩,0,⟨⟨by show 0<=d.n+1;omega,by show d.n+1<=_;omega⟩,by show List.length (List.take 8 _)=8;rw[aO,mN];rfl,fun x hx=>uq _ _ x (fy hx)⟩,fun W hr hR=>EdG A ys n cap k d.n d.op d.nc W hn hr hl ja ⟨U,hm⟩ hR⟩
 ·exact⟨d,24,⟨⟨n1,n2⟩,ja,hb⟩,fun W _ _=>EdF A n cap k d.n d.op d.nc W ja U⟩
theorem EdS(d:Dr)(hd:d.ok)(A:Option Eu)(ys pf:List Int)(n cap:Nat)(k r:Int)(hn:ys.length=n)(hl:n<=10000000)(hpl:pf.length=8)(hpb: ∀x∈pf,0<=x/\x<=255): ∃(d':Dr) (kv:List Int) (cd:Int),d'.ok/\kv.length=32/\(∀x∈kv,0<=x/\x<=255)/\ ∀W,Row W A ys->Jt W->Ef Eb 123 #[EZ (Iz d.n d.op d.nc),G A n cap,E I k,E I r,EZ (Ej pf)] W fun e w'=>e=Eg (Et #[EZ (Iz d'.n d'.op d'.nc),EZ (Ej kv),E I cd])/\El W w':=by
 have z32: ∀x∈Ep 32,0<=x/\x<=255:=fun x hx=>VH;have z8: ∀x∈Ep 8,0<=x/\x<=255:=fun x hx=>VH;obtain⟨nn,op,nc⟩:=d;obtain⟨⟨n1,n2⟩,ja,hb⟩:=hd;cases op with
 |false=>exact⟨⟨nn,B,nc⟩,Ep 32,17,⟨⟨n1,n2⟩,ja,hb⟩,O,z32,fun W _ _=>EdH A n cap k r nn nc pf W ja⟩
 |true=>
  by_cases hp:pf=(JS ys (Ov 80 k r nc)).take 8;·exact⟨⟨nn,B,Ep 8⟩,JS ys (Ov 75 k r nc),0,⟨⟨n1,n2⟩,O,z8⟩,mN _ _,uq _ _,fun W hr hR=>EdP A ys n cap k r nn nc pf W hn hr hl ja hb hR hpl hpb hp⟩
  ·exact⟨⟨nn,B,Ep 8⟩,Ep 32,14,⟨⟨n1,n2⟩,O,z8⟩,O,z32,fun W hr hR=>EdL A ys n cap k r nn nc pf W hn hr hl ja hb hR hpl hpb hp⟩
theorem qZ(ho:o.op= .indexAddr T x y)(hx:F x=Y3)(hy:F y=v)(h: ∀W,(Instr.indexAt T Y3 v).run P W= .ok r W):(If F o).run P w= .ok (.value r) w:=by unfold If;simp only[ho,hx,hy,Oz,h,OC,Og]
theorem sP{b:BinOp}(ho:o.op= .binOp b T x y T2)(hx:F x=Y3)(hy:F y=v)(h: ∀W,(XW b T Y3 v).run P W= .ok r W)(hb:T2=T:=by rfl)(hg: ∀W,(eqGuard b T x y Y3 v).run P W= .ok () W:=by intro;rfl):(If F o).run P w= .ok (.value r) w:=by subst hb;unfold If;simp only[ho,hx,hy,Oz,hg,h,OC,Og]
theorem Cj(h: ∀w,(If a.eval o).run P w= .ok (.value v) w)(hk:K (a.put o.dst v)):o.quiet P a (fun w'=> ∃x,w'=EC W x) K:=by refine⟨_,fun w hw=> ?_,hk⟩;unfold Oper.quietAt;rw[h];obtain⟨y,rfl⟩:=hw;first|exact⟨rfl,rfl⟩|exact⟨rfl,y,rfl⟩
theorem EdT(a b c d e f g i:Int):Tryz.prog.built 222 [(0,E I 129),(6,EZ (Ej [a,b,c,d,e,f,g,i]))]=Z (I6 ([129,0,0,0,0,0]++[a,b,c,d,e,f,g,i])):=Ed
theorem EdV(nc:List Int)(h:nc.length=8):Tryz.prog.built 222 [(0,E I 129),(6,EZ (Ej nc))]=Z (I6 ([129,0,0,0,0,0]++nc)):=by
 match nc,h with
 |[a,b,c,d,e,f,g,i],_=>exact EdT a b c d e f g i
theorem EdW(a b c d e f:Int){nc:List Int}(h:nc.length=8)(hb: ∀x∈nc,0<=x/\x<=255):du ([a,b,c,d,e,f]++nc):=by
 refine⟨by simp[h],fun i h6 kF=> ?_⟩;have e1:([a,b,c,d,e,f]++nc).getD i 0=nc.getD (i-6) 0:=by rw[Uq,Uq,aX (by simpa using h6)];rfl
 rw[e1,Uq,J5 U];exact hb _ (gY _)
theorem EdY(lo hi:Nat)(g:Nat->Y)(gc gq gt gs:Nat)(c:Ey)(ns:Nat)(rs:List Rec)(A:Option Eu)(n cap:Nat)(xs:List Int)(k:Int)(w:H)(S:E5 lo hi g gc gq gt gs c ns rs w)(hk:1<=k/\k<=3)(hx:xs.length=n)(hnc:n<=cap)(hcap:cap<=9223372036854775807)(hr:Row w A xs)(hn:ns<800000)(hl:rs.length<800000): Ef Eb 86 #[M (Z ⟨gs,0,X⟩),E I k,G A n cap] w fun e w'=>e=Eg (Et #[])/\(∃m kd cd,m<=1/\E5 lo hi g gc gq gt gs c (ns+m) (rs++[⟨kd,k,0,c.tok.e,cd,0⟩]) w')/\Ew lo hi w w':=by
 obtain⟨j,hj,Xy⟩: ∃j:Nat,k=(j:Int)+1/\j<3:=⟨(k-1).toNat,U,U⟩;have IX:=J<|fun W=>VG gc k j hj Xy W;have SB:=J<|fun W=>sub_one k hk.1 hk.2 W;have HJ:=J Xy;have HK:=J hk;have S1:=J S;have HN:=J hn;have HL:=J hl;have PI:=J<|fun i (h1:9<=i) (h2:i<56)=>S.core.X2.int i h2 (.inr U);have CT:=J<|fun W (h:Row W A xs)=>G4 xs A n cap hx hnc hcap W h;have RW:=J hr;clear S hn hl hk hj Xy hx hnc hcap hr;go_enter Tryz.func86,Tryz.ntmps86;go_wp2_with fail;refine(CT.out _ RW.out).mono ?_;rintro e1 w1 h1
 obtain⟨l,lA,he,b1⟩: ∃(l:List Int) (lA:Int),e1=Eg (Et #[EZ (ED l),E I lA])/\El w w1:=by
  obtain⟨h1,b1⟩:=h1;cases h2:fJ xs with
  |none=>rw[h2] at h1;exact⟨_,_,h1,b1⟩
  |some l=>rw[h2] at h1;exact⟨_,_,h1,b1⟩
 subst he;replace S1:=J<|S1.out.V b1;have MM:=J<|Ew.EA (lo:=lo) (hi:=hi) b1;obtain⟨v2,hv2⟩:=En (l.getD 2 0);have sQ:Ec (∀W g,D W g (ED l) 183->W.cell? ⟨g,2,X⟩=Z (E I v2)):=J (fun W g K=>by rw[hv2];exact X6 K 2 U U);have iC:=J<|I_ l;have nA:=J<|ZF l;clear h1 b1 CT RW hv2;generalize ED l=mv at*;have K0:=J<|D.new w1 (ED (IZ 0)) 183;have b2:=Er w1 (EJ (ED (IZ 0)) 183);go_wp2_with (with_reducible first|refine wA iX ?_|refine wS (cs:=mv) OM K0 (Ev.mk ?_) (ho:=I_ _) (hn:=iC.out) (h1:=nA.out));apply Eo;obtain⟨gm,hgm⟩:=En w1.heap.size;rw[<-hgm] at K0⊢;generalize w1.alloc (EJ (ED (IZ 0)) 183)=w2 at*;have KM:=J<|K0.out.setRow mv;have b3:=E2 (g:=gm) b2 (Om hgm.symm) mv;generalize w2.setRow gm mv=w3 at*;clear K0 b2 hgm;replace S1:=J<|S1.out.V b3;replace MM:=J<|MM.out.trans (Ew.EA b3);clear b3;by_cases wO:lA=0
 ·subst wO;go_wp2_with fail;obtain⟨d0,d1,d2,hd,KG,o0,o1,o2,-,-⟩:=S1.out.core.Ek;have Xf:=J<|Ok (c:=c) (gq:=gq) (gt:=gt) (hd:=hd) (Jz g) o0 o1 o2 0 U;have KG:=J KG;have PL:=J<|Jz g;have U9:Ec ((EG 56 g).toList.toArray=EG 56 g):=J Eh;clear o0 o1 o2;have y0: ∀y:Ext w3,(EC w3 y).cell? ⟨gs,0,X⟩=Z (M (Z ⟨gc,0,X⟩)):=fun y=>(S1.out.V (EN y)).IB;have y2: ∀y:Ext w3,(EC w3 y).cell? ⟨gm,2,X⟩=Z (E I v2):=fun y=>sQ.out _ _ (D.V KM.out (EN y));refine Zy Ed Ed ?_
  repeat (first
   |go_big_quiet_skip
   |(go_big_quiet_want
     first
      |(refine ZZ (T:=28) (g:=gc) (off:=0) U1 _ rfl rfl KG 0 rfl Xf.out PL.out ?_;(try rw[U9.out]);go_simp;go_big_quiet_on)
      |(go_big_quiet_op
        first
         |go_big_quiet_on
         |go_big_quiet_call (with_reducible refine aE (SA g k v2 _ PI.out)))))
  refine I1 ?_;intro _ hw';obtain⟨y9,rfl⟩:=hw';have Em:=EN y9;replace KM:=EM KM Em;replace S1:=J<|S1.out.V Em;replace MM:=J<|MM.out.trans (Ew.EA Em);clear y0 y2 Em KG Xf PL U9;generalize EC w3 y9=w4 at*;cases htk:kG g k v2 with
  |false=> go_wp2_with fail;refine(ij lo hi g gc gq gt gs c ns rs k 0 18 _ S1.out J9 JN).mono ?_;rintro e7 w7 ⟨rfl,s7,m7⟩;have S8:=J s7;replace MM:=J<|MM.out.trans m7;clear s7 m7;go_wp2_with fail;refine EV (UQ O _ _ _) O ?_;exact⟨O,⟨1,7,_,U,S8.out⟩,MM.out⟩
  |true=>
   go_wp2_with fail;obtain⟨A5,n5,c5,ys,qi,hyl,hy1,Lu,Lv,hym,wU⟩:=(S1.out.core.keys 8 U U).row;obtain⟨dd,Lw,od,bg,bx⟩:=VC S1.out.core j HJ.out;have BG:=J bg;have BX:=J bx;have RY:=J wU;obtain⟨d2,cd,qj,lB⟩:=EdR dd od A5 ys n5 c5 k hyl U;have DV:Ec ((Iz dd.n dd.op dd.nc).size=10):=J<|Z6 _ _ _ od.len;have dG:Ec ((Iz d2.n d2.op d2.nc).size=10):=J<|Z6 _ _ _ qj.len;have qk:Ec ((Iz d2.n d2.op d2.nc).all (·.oneCell')=EI):=J<|qX _ _ _;have HD2:=J qj;obtain⟨dv,hdv⟩:=En (Iz dd.n dd.op dd.nc);obtain⟨Um,ql⟩:=En (Iz d2.n d2.op d2.nc);rw[<-hdv] at lB DV BX;rw[<-ql] at lB dG qk;have CH:=J lB;have Ck:=DV;have wX:=J ql;obtain⟨key,hkey⟩:=En (G A5 n5 c5);rw[<-hkey] at CH qi;have Cl:Ec (∀W,E5 lo hi g gc gq gt gs c ns rs W->W.cell? ⟨gc,8,X⟩=Z key):=J (fun W s=>by have h:W.cell? ⟨gc,8,X⟩=(EG 56 g).toList[8]?:=s.core.cell 0 rfl 8 Eh;rw[h,show(EG 56 g).toList[8]?=Z (g 8) from kf,qi]);clear od bg bx wU lB qj hdv ql hkey qi hyl hy1 Lu Lv hym DV htk;obtain⟨n0,hn0⟩:=En w4.heap.size;have Xt:=J (show lo<=n0/\hi<=n0/\w.heap.size<=n0 from nu);refine ip (Ph:=fun p wq=>(n0<=wq.heap.size/\E5 lo hi g gc gq gt gs c ns rs wq/\Ew lo hi w wq/\(p=0->Row wq A5 ys/\Jt wq/\ ∃big:Array Y,D wq gc big 120/\big.extract (65+j*10) (65+j*10+10)=dv))) (Rel:=J0) (Is:=ly 117 10 Um) [kp gs 0,kp gs 0,kp gs 0,kp gc 0,kq (E I k),kq (E I (k-1)),kp gc 0,kp gc 65,kq (M (Z ⟨gc,65+j*10,X⟩)),kq (EZ dv),kp gs 0,kp gs 0,kp gs 0,kp gc 0,kp gc 0,kp gc 0,kp gc 8,kq key,kq (E I k),kq (Et #[EZ Um,E I cd]),kq (Et #[EZ Um,E I cd]),kq (EZ Um),kq (E I cd),.dep (bX 117 10 n0) (fun v w w' h hr=>h.V hr) (fun v w w' h hr=>h.sz hr),.tie [23] (fun x w=> ∃b:Nat,x 23=M (Z ⟨b,0,X⟩)/\n0<=b/\D w b Um 117) (fun x w w' h hr=>p8) (fun x y w hq h=>by rw[hq 23 Eh] at h;exact h),kq (E I cd)] [B,B,B,B,B,B,B,B,B,B,B,B,B,B,B,B,B,B,B,B,B,B,B,B,EI,B] O [[],[],[],[],[],[],[],[],[],[],[],[],[],[],[],[],[],[],[],[],[],[],[],[],[23],[]] O [24] [(0,0),(0,0),(0,0),(0,0),(0,0),(0,0),(0,0),(0,0),(0,0),(0,0),(0,0),(0,0),(0,0),(0,0),(0,0),(0,0),(0,0),(0,0),(0,0),(0,0),(0,0),(0,0),(0,1),(0,0),(0,0),(1,1)] Ed Ed Ed Ed Ed Ed UP Ed ?hPh ?h0 ?hstep ?hend;case hPh=> intro p w2 w3 h hr;exact⟨Ez h.1 (U8 hr),h.2.1.V hr,h.2.2.1.trans (Ew.EA hr),fun hp=>by obtain⟨a1,a2,big,a3,a4⟩:=h.2.2.2 hp;exact⟨Ix a1 hr,a2.V hr,big,D.V a3 hr,a4⟩⟩
   case h0=> have hb:=Jg w4;exact⟨Ez (Om hn0) (U8 hb),S1.out.V hb,MM.out.trans (Ew.EA hb),fun _=>⟨Ix RY.out hb,S1.out.core.roots.V hb,Lw,D.V BG.out hb,BX.out⟩⟩
   case hstep=>
    refine⟨?_,?_,?_,?_,?_,?_,?_,?_,?_,?_,?_,?_,?_,?_,?_,?_,?_,?_,?_,?_,?_,?_,?_,?_,?_,?_,trivial⟩;all_goals first|intro xv wq p hlo hhi hp hd|intro xv wq hp hd
    all_goals simp only[EH,Ig,Ii,Ia,Ib]
    ·exact Elk
    ·exact ElA
    ·exact Elz
    ·exact Elm
    ·exact Elk
    ·exact En8
    ·exact Ely
    ·obtain rfl:p=0:=U;exact Enx
    ·exact Em7
    ·obtain rfl:p=0:=U;have d8:xv 8=M (Z ⟨gc,65+j*10,X⟩):=hd.at 8 rfl;obtain⟨-,-,big,KB,EX⟩:=hp.2.2.2 rfl;exact aN EF XD (Ei O) ⟨O,d8⟩ KB Ck.out EX O
    ·exact Elk
    ·exact Eof
    ·exact Eod
    ·exact Em4
    ·exact Eoc
    ·obtain rfl:p=0:=U;have d14:xv 14=M (Z ⟨gc,0,X⟩):=hd.at 14 rfl;exact Es Li O
    ·obtain rfl:p=0:=U;exact EoP
    ·obtain rfl:p=0:=U;have d16:xv 16=M (Z ⟨gc,8,X⟩):=hd.at 16 rfl;have cc:wq.cell? ⟨gc,8,X⟩=Z (key):=Cl.out wq hp.2.1;exact Es Lj O
    ·exact Elk
    ·obtain rfl:p=0:=U;have d9:xv 9=EZ dv:=hd.at 9 rfl;have d17:xv 17=key:=hd.at 17 rfl;have d18:xv 18=E I k:=hd.at 18 rfl;refine JH (f:=121) (args:= #[xv 9,xv 17,xv 18]) (Ei O) Ex ?_;rw[d9,d17,d18];exact(CH.out wq (hp.2.2.2 rfl).1 (hp.2.2.2 rfl).2.1).mono fun e w2 h=>⟨_,h.1,h.2,O⟩
    ·obtain rfl:p=0:=U;have d19:xv 19=Et #[EZ Um,E I cd]:=hd.at 19 rfl;exact Es (by simp[go_sem,d19]) O
    ·obtain rfl:p=0:=U;exact EoN
    ·exact EoN
    ·exact EnN
    ·have d21:xv 21=EZ Um:=hd.at 21 rfl;obtain⟨b,c8,eA,lb,h8,kb⟩:bX 117 10 n0 (xv 23) wq:=hd.at 23 rfl;have nh:=Xt.out;refine bF XD (Ei O) ⟨O,eA,d21⟩ kb h8 dG.out qk.out ⟨wJ dG.out,?_⟩ ⟨b,eA,lb,kb.setRow _⟩;obtain⟨n1,s1,m1,-⟩:=hp;have ho:=J8 (g:=b) (W:=wq) Um;exact⟨Ez n1 ho.size,s1.Ci ho kb Ea U,m1.only ho U U kb.lt,fun h=>XE⟩
    ·obtain rfl:p=1:=U;have d22:xv 22=E I cd:=hd.at 22 rfl;exact Es (by simp[go_sem,d22]) O
   case hend=>
    intro xv W6 hp hd;simp only[EH,Ig,Ii,Ia,Ib];obtain⟨b,eA,lb,kb⟩: ∃b:Nat,xv 23=M (Z ⟨b,0,X⟩)/\n0<=b/\D W6 b Um 117:=hd 24 Ea;have a25:xv 25=E I cd:=hd 25 Ea;obtain⟨-,s6,m6,-⟩:=hp;replace S1:=J s6;replace MM:=J m6;have KB:=J kb;rw[eA,a25];clear s6 m6 kb hd eA a25 KM;by_cases hcd:cd=0
    ·subst hcd;go_wp2_with fail;have y0: ∀y:Ext W6,(EC W6 y).cell? ⟨gs,0,X⟩=Z (M (Z ⟨gc,0,X⟩)):=fun y=>(S1.out.V (EN y)).IB;refine J_ 10 Ed Ed ?_;simp only[Iq,Io,IP,IH]
     repeat (first
      |go_big_quiet_skip
      |(go_big_quiet_want
        first
         |(refine UB (T:=117) (g:=b) XD _ rfl rfl KB ?_ ?_;(·exact dG.out);go_simp;go_big_quiet_on)
         |(refine Cj (v:=E I (k-1)) (fun _=>sP rfl rfl rfl SB.out) ?_;go_simp;go_big_quiet_on)
         |(refine Cj (v:=M (Z ⟨gc,65+j*10,X⟩)) (fun _=>qZ rfl rfl rfl IX.out) ?_;go_simp;go_big_quiet_on)
         |(go_big_quiet_op
           first
            |go_big_quiet_on
            |go_big_quiet_call (fail))))
     refine I1 ?_;intro _ hw';obtain⟨y9,rfl⟩:=hw';have Em:=EN y9;replace KB:=EM KB Em;replace S1:=J<|S1.out.V Em;replace MM:=J<|MM.out.trans (Ew.EA Em);clear y0 Em;generalize EC W6 y9=w9 at*;have TH:=J<|VD S1.out.core j HJ.out;go_wp2_with ((with_reducible refine JB 117 ?_);(with_reducible refine Ui O 117 _ _ O gc (65+j*10) Um ?_ ?_ ?_ ?_ ?_ ?_);(·rfl);(·rfl);(·rw[dG.out];exact TH.out);(·rw[dG.out];exact XD.2);(·exact qk.out);refine Ev.mk ?_);apply Eo;have S4:=S1.out.VF j HJ.out d2 HD2.out;rw[<-wX.out] at S4;obtain⟨d0,d1,d2',hd,KG,-⟩:=S1.out.core.Ek;replace KB:=J<|(JG (g:=gc) Um.toList (65+j*10) w9).Ek KB.out (EW KB.out KG Ea);replace S1:=J S4.1;replace MM:=J<|MM.out.trans S4.2;clear S4 TH KG;generalize w9.setCells gc (65+j*10) Um.toList=Uy at*;have NC:Ec (Um.extract 2 (2+8)=Ej d2.nc):=J (by rw[wX.out];exact Ls _ _ _ HD2.out.len);have NS:Ec ((Ej d2.nc).size=8):=J (by rw[Od];exact HD2.out.len);have BN:=J<|EdV d2.nc HD2.out.len;have IR:=J<|EdW 129 0 0 0 0 0 HD2.out.len HD2.out.bytes;generalize [129,0,0,0,0,0]++d2.nc=rl at*;generalize Ej d2.nc=nv at*;go_wp2_with (first|(with_reducible refine wM (off:=2) (cs:=nv) ZY KB ?_ (hn:=NS.out) (he:=NC.out))|((with_reducible refine It 77 ?_);refine I3 rfl 222 _ rfl (I6 rl) BN.out ?_));refine(vc lo hi g gc gq gt gs c ns rs rl k _ S1.out IR.out J9).mono ?_;rintro e11 bY ⟨rfl,s11,m11⟩;replace S1:=J s11;replace MM:=J<|MM.out.trans m11;clear s11 m11;go_wp2_with fail;refine(Zp lo hi g gc gq gt gs c (ns+1) rs 2 k 0 0 0 _ S1.out JN).mono ?_;rintro e12 Xc ⟨rfl,s12,m12⟩;have S8:=J s12;replace MM:=J<|MM.out.trans m12;clear s12 m12;go_wp2_with fail;go_end0;exact⟨O,⟨1,2,_,U,S8.out⟩,MM.out⟩
    ·have t9:(cd !=0)=EI:=dA;go_wp2_with fail;refine(ij lo hi g gc gq gt gs c ns rs k 0 cd _ S1.out J9 JN).mono ?_;rintro e7 w7 ⟨rfl,s7,m7⟩;have S8:=J s7;replace MM:=J<|MM.out.trans m7;clear s7 m7;go_wp2_with fail;refine EV (UQ O _ _ _) O ?_;exact⟨O,⟨1,7,_,U,S8.out⟩,MM.out⟩
 ·have t9:(lA !=0)=EI:=by simpa using wO
  go_wp2_with fail;refine(sd lo hi g gc gq gt gs c ns rs k 13 _ S1.out JN).mono ?_;rintro e7 w7 ⟨rfl,s7,m7⟩;have S8:=J s7;replace MM:=J<|MM.out.trans m7;clear s7 m7;go_wp2_with fail;refine EV (UQ O _ _ _) O ?_;exact⟨O,⟨0,1,_,U,S8.out⟩,MM.out⟩
theorem Ed1(gc:Nat)(k:Int)(j:Nat)(hk:k=(j:Int)+1)(hj:j<3)(W:H):(Instr.indexAt 24 (M (Z ⟨gc,5,X⟩)) (E I (k-1))).run Eb W= .ok (M (Z ⟨gc,5+j,X⟩)) W:=by exact Eos
theorem Ed2(T:EB)(parts:Array (Nat×J7))(ho:o.op= .build T parts)(cs:Array Y)(hb:P.built T (parts.toList.map fun(i,x)=>(i,a.eval x))=Z cs) (hk:K (a.put o.dst (EZ cs))):o.quiet P a (fun w'=> ∃x,w'=EC W x) K:=by refine⟨_,fun w hw=> ?_,hk⟩;have hrun:=fun w=>run_build (P:=P) w T (parts.map fun(i,x)=>(i,a.eval x)) cs (by rw[Array.toList_map];exact hb);unfold Oper.quietAt If;simp only[ho,Oz,hrun,OC,Og];obtain⟨y,rfl⟩:=hw;exact⟨O,O⟩
theorem Ed3{off:Nat}{xs:List Int}(h:Row w (Z ⟨b,off,X⟩) xs):w.rangeAt b off (xs.map (E .u8)):=fun j v hv=>by
 obtain⟨h1,-⟩:=h;rcases h1 with rfl|⟨b',o',e,h3⟩;·simp at hv
 ·injection e with e;injection e with e1 e2 e3;subst e1 e2;rw[List.getElem?_map] at hv;cases hx:xs[j]? with
  |none=>rw[hx] at hv;cases hv
  |some x=> rw[hx] at hv;obtain⟨hj,ej⟩:=Xx.1 hx;injection hv with hv;rw[h3 j hj,ej,<-hv]
theorem Ed4{T:EQ}{s r:Int}{key:List Int}{e:Uh}(h:rM T gt s r key w e w'): ∃cd T',e=Eg (E I cd)/\Il w' gt T'/\E3 gt w w'/\((cd≠0/\T'=T)\/(cd=0/\(s=1\/s=2\/s=3)/\T'=T.put (s-1).toNat (OQ EI (max T.In 0) r key))):=by
 unfold rM at h;obtain⟨h1,h2⟩:=h;split at h1
 ·rename_i h3;split at h1;·exact⟨19,T,h1.1,h1.2,h2,.inl ⟨Ea,rfl⟩⟩
  ·exact⟨0,_,h1.1,h1.2,h2,.inr ⟨rfl,h3.1,rfl⟩⟩
 ·exact⟨1,T,h1.1,h1.2,h2,.inl ⟨Ea,rfl⟩⟩
theorem Ed5(lo hi:Nat)(g:Nat->Y)(gc gq gt gs:Nat)(c:Ey)(ns:Nat)(rs:List Rec)(A:Option Eu)(n cap:Nat)(xs:List Int)(k:Int)(w:H)(S:E5 lo hi g gc gq gt gs c ns rs w)(hk:1<=k/\k<=3)(hx:xs.length=n)(hnc:n<=cap)(hcap:cap<=9223372036854775807)(hr:Row w A xs)(hn:ns<800000)(hl:rs.length<800000): Ef Eb 87 #[M (Z ⟨gs,0,X⟩),E I k,G A n cap] w fun e w'=>e=Eg (Et #[])/\(∃c' m kd cd,m<=1/\E5 lo hi g gc gq gt gs c' (ns+m) (rs++[⟨kd,k,0,c.tok.e,cd,0⟩]) w'/\(c'=c\/(kd=3/\ ∃T':EQ,c'={c with T:=T'})))/\Ew lo hi w w':=by
 obtain⟨j,hj,Xy⟩: ∃j:Nat,k=(j:Int)+1/\j<3:=⟨(k-1).toNat,U,U⟩;have IX:=J<|fun W=>VG gc k j hj Xy W;have SB:=J<|fun W=>sub_one k hk.1 hk.2 W;have HJ:=J Xy;have HK:=J hk;have IK:=J<|fun W=>Ed1 gc k j hj Xy W;have S1:=J S;have HN:=J hn;have HL:=J hl;have MM:=J<|Ew.refl lo hi w;have PI:=J<|fun i (h1:9<=i) (h2:i<56)=>S.core.X2.int i h2 (.inr U);by_cases Ed6:n=10
 ·subst Ed6
  obtain⟨b0,Lx,rfl⟩: ∃b off,A=Z ⟨b,off,X⟩:=by
   rcases hr.1 with h|⟨b,off,e,-⟩;·rw[h] at hx;cases hx
   ·exact⟨b,off,e⟩
  have CT:=J<|fun W (h:Row W (Z ⟨b0,Lx,X⟩) (xs.take 2))=>G4 (xs.take 2) (Z ⟨b0,Lx,X⟩) 2 cap (by rw[aO,hx];rfl) U hcap W h;have wZ:=J hr;have VK:=J hx;have HNC:=J hnc;clear S hn hl hk hj Xy hx hr hcap;go_enter Tryz.func87,Tryz.ntmps87;go_wp2_with fail;refine(CT.out _ (oO wZ.out 2)).mono ?_;rintro e1 w1 h1
  obtain⟨l,lA,he,b1⟩: ∃(l:List Int) (lA:Int),e1=Eg (Et #[EZ (ED l),E I lA])/\El w w1:=by
   obtain⟨h1,b1⟩:=h1;cases h2:fJ (xs.take 2) with
   |none=>rw[h2] at h1;exact⟨_,_,h1,b1⟩
   |some l=>rw[h2] at h1;exact⟨_,_,h1,b1⟩
  subst he;replace S1:=J<|S1.out.V b1;replace MM:=J<|Ew.EA (lo:=lo) (hi:=hi) b1;have RR:=J<|Ix wZ.out b1;obtain⟨v2,hv2⟩:=En (l.getD 2 0);have sQ:Ec (∀W g,D W g (ED l) 183->W.cell? ⟨g,2,X⟩=Z (E I v2)):=J (fun W g K=>by rw[hv2];exact X6 K 2 U U);have iC:=J<|I_ l;have nA:=J<|ZF l;clear h1 b1 CT wZ hv2;generalize ED l=mv at*;have K0:=J<|D.new w1 (ED (IZ 0)) 183;have b2:=Er w1 (EJ (ED (IZ 0)) 183);go_wp2_with (with_reducible first|refine wA iX ?_|refine wS (cs:=mv) OM K0 (Ev.mk ?_) (ho:=I_ _) (hn:=iC.out) (h1:=nA.out));apply Eo;obtain⟨gm,hgm⟩:=En w1.heap.size;rw[<-hgm] at K0⊢;generalize w1.alloc (EJ (ED (IZ 0)) 183)=w2 at*;have KM:=J<|K0.out.setRow mv;have b3:=E2 (g:=gm) b2 (Om hgm.symm) mv;generalize w2.setRow gm mv=w3 at*;clear K0 b2 hgm;replace S1:=J<|S1.out.V b3;replace MM:=J<|MM.out.trans (Ew.EA b3);replace RR:=J<|Ix RR.out b3;clear b3;by_cases wO:lA=0
  ·subst wO;have Q3:=QY;obtain⟨pf,hpf⟩:=En (xs.drop 2);have hpl:pf.length=8:=by rw[hpf,mB,VK.out]
   have RG:=J<|Ed3 (nJ RR.out 2);have hpb:=(nJ RR.out 2).2;rw[<-hpf] at RG hpb;have VL:Ec ((Ej pf).size=8):=J (by rw[Od,hpl]);have Ed8:Ec ((pf.map (E .u8)).toArray=Ej pf):=J O;have h_:=J hpl;have ZH:=J hpb;clear hpf hpl hpb RR VK HNC;have K0:=J<|D.new w3 (Ej (Ep 8)) 115;have b2:=Er w3 (EJ (Ej (Ep 8)) 115);go_wp2_with (first|((with_reducible refine XH 115 ?_);(with_reducible refine wpList_load_mid rfl 115 _ rfl b0 (Lx+2) ?_ (pf.map (E .u8)) _ ?_ Tryz.underlying115 ?_ ?_ ?_);(·rfl);(·exact RG.out);(·rfl);(·rw[List.length_map,h_.out];kernel_rfl);rw[Ed8.out])|(with_reducible refine wA oS ?_)|(with_reducible refine wS (cs:=(Ej pf)) ZY K0 (Ev.mk ?_) (ho:=XO) (hn:=VL.out) (h1:=Xm _)));apply Eo;obtain⟨gp,UD⟩:=En w3.heap.size;rw[<-UD] at K0⊢;clear Q3 RG;generalize w3.alloc (EJ (Ej (Ep 8)) 115)=AA at*;have KP:=J<|K0.out.setRow (Ej pf);have b3:=E2 (g:=gp) b2 (Om UD.symm) (Ej pf);generalize AA.setRow gp (Ej pf)=w4 at*;clear K0 b2 UD;replace KM:=EM KM b3;replace S1:=J<|S1.out.V b3;replace MM:=J<|MM.out.trans (Ew.EA b3);clear b3;obtain⟨A5,n5,c5,ys,qi,hyl,hy1,Lu,Lv,hym,wU⟩:=(S1.out.core.keys (5+j) U (by have:=HJ.out;omega)).row;obtain⟨dd,Lw,od,bg,bx⟩:=VC S1.out.core j HJ.out;have BG:=J bg;have BX:=J bx;have RY:=J wU;obtain⟨d2,kv,cd,qj,hkl,hkb,lB⟩:=EdS dd od A5 ys pf n5 c5 k v2 hyl U h_.out ZH.out;have Ck:Ec ((Iz dd.n dd.op dd.nc).size=10):=J<|Z6 _ _ _ od.len;have dG:Ec ((Iz d2.n d2.op d2.nc).size=10):=J<|Z6 _ _ _ qj.len;have qk:Ec ((Iz d2.n d2.op d2.nc).all (·.oneCell')=EI):=J<|qX _ _ _;have Ly:Ec ((Ej kv).size=32):=J (by rw[Od,hkl]);have KVO:=J<|Xm kv;have da:=J hkl;have mV:=J hkb;have HD2:=J qj;obtain⟨dv,hdv⟩:=En (Iz dd.n dd.op dd.nc);obtain⟨Um,ql⟩:=En (Iz d2.n d2.op d2.nc);rw[<-hdv] at lB Ck BX;rw[<-ql] at lB dG qk;have CH:=J lB;have wX:=J ql;obtain⟨key,hkey⟩:=En (G A5 n5 c5);rw[<-hkey] at CH qi;have Cl:Ec (∀W,E5 lo hi g gc gq gt gs c ns rs W->W.cell? ⟨gc,5+j,X⟩=Z key):=J (fun W s=>by have hj:=HJ.out;have h:W.cell? ⟨gc,kL 0+(5+j),X⟩=(EG 56 g).toList[5+j]?:=s.core.cell 0 rfl (5+j) Ji;rw[show kL 0+(5+j)=5+j from OD _] at h;rw[h,show(EG 56 g).toList[5+j]?=Z (g (5+j)) by simp[EG,show 5+j<56 from U],qi]);clear od bg bx wU lB qj hdv ql hkey qi hyl hy1 Lu Lv hym hkl hkb;obtain⟨n0,hn0⟩:=En w4.heap.size;have Xt:=J (show lo<=n0/\hi<=n0/\w.heap.size<=n0 from nu);go_wp2_with fail;refine ip (Ph:=fun p wq=>(n0<=wq.heap.size/\E5 lo hi g gc gq gt gs c ns rs wq/\Ew lo hi w wq/\D wq gm mv 183/\(p=0->Row wq A5 ys/\Jt wq/\D wq gp (Ej pf) 115/\ ∃big:Array Y,D wq gc big 120/\big.extract (65+j*10) (65+j*10+10)=dv))) (Rel:=J0) (Is:=fun w w'=>ly 117 10 Um w w'/\ly 41 32 (Ej kv) w w') [.val (fun v=>v=M (Z ⟨gs,0,X⟩)),.val (fun v=>v=M (Z ⟨gs,0,X⟩)),.val (fun v=>v=M (Z ⟨gs,0,X⟩)),.val (fun v=>v=M (Z ⟨gc,0,X⟩)),.val (fun v=>v=E I k),.val (fun v=>v=E I (k-1)),.val (fun v=>v=M (Z ⟨gc,0,X⟩)),.val (fun v=>v=M (Z ⟨gc,65,X⟩)),.val (fun v=>v=M (Z ⟨gc,65+j*10,X⟩)),.val (fun v=>v=EZ dv),.val (fun v=>v=M (Z ⟨gs,0,X⟩)),.val (fun v=>v=M (Z ⟨gs,0,X⟩)),.val (fun v=>v=M (Z ⟨gs,0,X⟩)),.val (fun v=>v=M (Z ⟨gc,0,X⟩)),.val (fun v=>v=E I k),.val (fun v=>v=E I (k-1)),.val (fun v=>v=M (Z ⟨gc,0,X⟩)),.val (fun v=>v=M (Z ⟨gc,0,X⟩)),.val (fun v=>v=M (Z ⟨gc,5,X⟩)),.val (fun v=>v=M (Z ⟨gc,5+j,X⟩)),.val (fun v=>v=key),.val (fun v=>v=E I k),.val (fun v=>v=M (Z ⟨gm,2,X⟩)),.val (fun v=>v=E I v2),.val (fun v=>v=EZ (Ej pf)),.val (fun v=>v=Et #[EZ Um,EZ (Ej kv),E I cd]),.val (fun v=>v=Et #[EZ Um,EZ (Ej kv),E I cd]),.val (fun v=>v=EZ Um),.val (fun v=>v=EZ (Ej kv)),.val (fun v=>v=E I cd),.dep (bX 117 10 n0) (fun v w w' h hr=>h.V hr) (fun v w w' h hr=>h.sz hr.1),.dep (bX 41 32 n0) (fun v w w' h hr=>h.V hr) (fun v w w' h hr=>h.sz hr.2),.tied [30] (fun x w=> ∃b:Nat,x 30=M (Z ⟨b,0,X⟩)/\n0<=b/\D w b Um 117) (fun x w w' h hr=>p8) (fun x w w' h hr=>by obtain⟨b,h1,h2,h3⟩:=h;obtain⟨c',-,h4,h5⟩:=hr.1 b _ h3 dG.out;exact⟨b,h1,h2,h5 O▸h4⟩) (fun x y w hq h=>by rw[hq 30 Eh] at h;exact h),.tie [31] (fun x w=> ∃b:Nat,x 31=M (Z ⟨b,0,X⟩)/\n0<=b/\D w b (Ej kv) 41) (fun x w w' h hr=>p8) (fun x y w hq h=>by rw[hq 31 Eh] at h;exact h),.val (fun v=>v=E I cd)] [B,B,B,B,B,B,B,B,B,B,B,B,B,B,B,B,B,B,B,B,B,B,B,B,B,B,B,B,B,B,B,B,B,EI,B] O [[],[],[],[],[],[],[],[],[],[],[],[],[],[],[],[],[],[],[],[],[],[],[],[],[],[],[],[],[],[],[],[],[30],[31],[]] O [32,33] [(0,0),(0,0),(0,0),(0,0),(0,0),(0,0),(0,0),(0,0),(0,0),(0,0),(0,0),(0,0),(0,0),(0,0),(0,0),(0,0),(0,0),(0,0),(0,0),(0,0),(0,0),(0,0),(0,0),(0,0),(0,0),(0,0),(0,0),(0,0),(0,1),(0,2),(0,0),(0,0),(0,0),(1,1),(2,2)] Ed Ed Ed Ed Ed Ed UP Ed ?hPh ?h0 ?hstep ?hend;case hPh=> intro p w2 w3 h hr;exact⟨Ez h.1 (U8 hr),h.2.1.V hr,h.2.2.1.trans (Ew.EA hr),D.V h.2.2.2.1 hr,fun hp=>by obtain⟨a1,a2,ap,big,a3,a4⟩:=h.2.2.2.2 hp;exact⟨Ix a1 hr,a2.V hr,D.V ap hr,big,D.V a3 hr,a4⟩⟩
   case h0=> have hb:=Jg w4;exact⟨Ez (Om hn0) (U8 hb),S1.out.V hb,MM.out.trans (Ew.EA hb),D.V KM.out hb,fun _=>⟨Ix RY.out hb,S1.out.core.roots.V hb,D.V KP.out hb,Lw,D.V BG.out hb,BX.out⟩⟩
   case hstep=>
    refine⟨?_,?_,?_,?_,?_,?_,?_,?_,?_,?_,?_,?_,?_,?_,?_,?_,?_,?_,?_,?_,?_,?_,?_,?_,?_,?_,?_,?_,?_,?_,?_,?_,?_,?_,?_,trivial⟩;all_goals first|intro xv wq p hlo hhi hp hd|intro xv wq hp hd
    all_goals simp only[EH,Ig,Ii,Ia,Ib]
    ·exact Elk
    ·exact ElA
    ·exact Elz
    ·exact Elm
    ·exact Elk
    ·exact En8
    ·exact Ely
    ·obtain rfl:p=0:=U;exact Enx
    ·exact Em7
    ·obtain rfl:p=0:=U;have d8:xv 8=M (Z ⟨gc,65+j*10,X⟩):=hd.at 8 rfl;obtain⟨-,-,-,big,KB,EX⟩:=hp.2.2.2.2 rfl;exact aN EF XD (Ei O) ⟨O,d8⟩ KB Ck.out EX O
    ·exact Elk
    ·exact Eof
    ·exact Eod
    ·exact Em4
    ·exact Elk
    ·obtain rfl:p=0:=U;have d14:xv 14=E I k:=hd.at 14 rfl;exact IM EF (Ei O) (sP O d14 O SB.out) O
    ·exact Eoc
    ·obtain rfl:p=0:=U;exact EoX
    ·exact EmV
    ·obtain rfl:p=0:=U;have d18:xv 18=M (Z ⟨gc,5,X⟩):=hd.at 18 rfl;have d15:xv 15=E I (k-1):=hd.at 15 rfl;exact IM EF (Ei O) (qZ O d18 d15 IK.out) O
    ·obtain rfl:p=0:=U;have d19:xv 19=M (Z ⟨gc,5+j,X⟩):=hd.at 19 rfl;have cc:wq.cell? ⟨gc,5+j,X⟩=Z (key):=Cl.out wq hp.2.1;exact Es B_ O
    ·exact Elk
    ·exact Elk
    ·obtain rfl:p=0:=U;have d22:xv 22=M (Z ⟨gm,2,X⟩):=hd.at 22 rfl;have cc:wq.cell? ⟨gm,2,X⟩=Z (E I v2):=sQ.out _ _ hp.2.2.2.1;exact Es Ll O
    ·obtain rfl:p=0:=U;exact jI EF ZY (Ei O) ⟨O,O⟩ ((hp.2.2.2.2 rfl).2.2.1) VL.out O
    ·obtain rfl:p=0:=U;have d9:xv 9=EZ dv:=hd.at 9 rfl;have d20:xv 20=key:=hd.at 20 rfl;have d21:xv 21=E I k:=hd.at 21 rfl;have d23:xv 23=E I v2:=hd.at 23 rfl;have d24:xv 24=EZ (Ej pf):=hd.at 24 rfl;refine JH (f:=123) (args:= #[xv 9,xv 20,xv 21,xv 23,xv 24]) (Ei O) Ex ?_;rw[d9,d20,d21,d23,d24];exact(CH.out wq (hp.2.2.2.2 rfl).1 (hp.2.2.2.2 rfl).2.1).mono fun e w2 h=>⟨_,h.1,h.2,O⟩
    ·obtain rfl:p=0:=U;have d25:xv 25=Et #[EZ Um,EZ (Ej kv),E I cd]:=hd.at 25 rfl;exact Es (by simp[go_sem,d25]) O
    ·obtain rfl:p=0:=U;exact Em_
    ·exact Em_
    ·exact Em_
    ·exact EnN
    ·obtain rfl:p=0:=U;exact Zg (Ei O) (aP _ _ _ O) (Er wq _) ⟨wq.heap.size,_,O,hp.1,O,D.new _ _ _⟩
    ·have d27:xv 27=EZ Um:=hd.at 27 rfl;obtain⟨b,c8,eA,lb,h8,kb⟩:bX 117 10 n0 (xv 30) wq:=hd.at 30 rfl;have nh:=Xt.out;refine bF XD (Ei O) ⟨O,eA,d27⟩ kb h8 dG.out qk.out ⟨⟨wJ dG.out,VB kb Ea⟩,?_⟩ ⟨b,eA,lb,kb.setRow _⟩;obtain⟨n1,s1,m1,km,-⟩:=hp;have ho:=J8 (g:=b) (W:=wq) Um;exact EnS
    ·have d28:xv 28=EZ (Ej kv):=hd.at 28 rfl;obtain⟨b,c8,eA,lb,h8,kb⟩:bX 41 32 n0 (xv 31) wq:=hd.at 31 rfl;have nh:=Xt.out;refine bF OZ (Ei O) ⟨O,eA,d28⟩ kb h8 Ly.out KVO.out ⟨⟨VB kb Ea,wJ Ly.out⟩,?_⟩ ⟨b,eA,lb,kb.setRow _⟩;obtain⟨n1,s1,m1,km,-⟩:=hp;have ho:=J8 (g:=b) (W:=wq) (Ej kv);exact EnS
    ·obtain rfl:p=2:=U;have d29:xv 29=E I cd:=hd.at 29 rfl;exact Es (by simp[go_sem,d29]) O
   case hend=>
    intro xv W6 hp hd;simp only[EH,Ig,Ii,Ia,Ib];obtain⟨b,eA,lb,kb⟩: ∃b:Nat,xv 30=M (Z ⟨b,0,X⟩)/\n0<=b/\D W6 b Um 117:=hd 32 Ea;obtain⟨bk,eK,lk,kk⟩: ∃b:Nat,xv 31=M (Z ⟨b,0,X⟩)/\n0<=b/\D W6 b (Ej kv) 41:=hd 33 Ea;have a34:xv 34=E I cd:=hd 34 Ea;obtain⟨-,s6,m6,dF,-⟩:=hp;replace S1:=J s6;replace MM:=J m6;replace KM:=J dF;have KB:=J kb;have KK:=J kk;rw[eA,eK,a34];clear s6 m6 dF kb kk hd eA eK a34 KP BG BX RY CH Cl;go_wp2_with fail;have y0: ∀y:Ext W6,(EC W6 y).cell? ⟨gs,0,X⟩=Z (M (Z ⟨gc,0,X⟩)):=fun y=>(S1.out.V (EN y)).IB;refine J_ 10 Ed Ed ?_;simp only[Iq,Io,IP,IH]
    repeat (first
     |go_big_quiet_skip
     |(go_big_quiet_want
       first
        |(refine UB (T:=117) (g:=b) XD _ rfl rfl KB ?_ ?_;(·exact dG.out);go_simp;go_big_quiet_on)
        |(refine Cj (v:=E I (k-1)) (fun _=>sP rfl rfl rfl SB.out) ?_;go_simp;go_big_quiet_on)
        |(refine Cj (v:=M (Z ⟨gc,65+j*10,X⟩)) (fun _=>qZ rfl rfl rfl IX.out) ?_;go_simp;go_big_quiet_on)
        |(go_big_quiet_op
          first
           |go_big_quiet_on
           |go_big_quiet_call (fail))))
    refine I1 ?_;intro _ hw';obtain⟨y9,rfl⟩:=hw';have Em:=EN y9;replace KB:=EM KB Em;replace KK:=EM KK Em;replace KM:=EM KM Em;replace S1:=J<|S1.out.V Em;replace MM:=J<|MM.out.trans (Ew.EA Em);clear y0 Em;generalize EC W6 y9=w9 at*;have TH:=J<|VD S1.out.core j HJ.out;go_wp2_with ((with_reducible refine JB 117 ?_);(with_reducible refine Ui O 117 _ _ O gc (65+j*10) Um ?_ ?_ ?_ ?_ ?_ ?_);(·rfl);(·rfl);(·rw[dG.out];exact TH.out);(·rw[dG.out];exact XD.2);(·exact qk.out);refine Ev.mk ?_);apply Eo;have S4:=S1.out.VF j HJ.out d2 HD2.out;rw[<-wX.out] at S4;obtain⟨d0,d1,d2',hd,KG,-⟩:=S1.out.core.Ek;have nB:=JG (g:=gc) Um.toList (65+j*10) w9;replace KK:=J<|nB.Ek KK.out (EW KK.out KG Ea);replace KM:=J<|nB.Ek KM.out (EW KM.out KG Ea);replace S1:=J S4.1;replace MM:=J<|MM.out.trans S4.2;clear S4 TH KG KB nB;generalize w9.setCells gc (65+j*10) Um.toList=Uy at*;by_cases nj:cd=17;·subst nj;go_wp2_with fail;refine(ij lo hi g gc gq gt gs c ns rs k 0 17 _ S1.out J9 JN).mono ?_;exact Emz
    ·have t17:(cd==17)=B:=by simpa using nj
     by_cases hcd:cd=0
     ·subst hcd;clear nj;go_wp2_with fail;obtain⟨d0,d1,d2,hd,KG,o0,o1,o2,-,-⟩:=S1.out.core.Ek;have Xf:=J<|Ok (c:=c) (gq:=gq) (gt:=gt) (hd:=hd) (Jz g) o0 o1 o2 0 U;have KG:=J KG;have PL:=J<|Jz g;have U9:Ec ((EG 56 g).toList.toArray=EG 56 g):=J Eh;clear o0 o1 o2;have y0: ∀y:Ext Uy,(EC Uy y).cell? ⟨gs,0,X⟩=Z (M (Z ⟨gc,0,X⟩)):=fun y=>(S1.out.V (EN y)).IB;have y2: ∀y:Ext Uy,(EC Uy y).cell? ⟨gm,2,X⟩=Z (E I v2):=fun y=>sQ.out _ _ (D.V KM.out (EN y));refine Zy Ed Ed ?_
      repeat (first
       |go_big_quiet_skip
       |(go_big_quiet_want
         first
          |(refine ZZ (T:=28) (g:=gc) (off:=0) U1 _ rfl rfl KG 0 rfl Xf.out PL.out ?_;(try rw[U9.out]);go_simp;go_big_quiet_on)
          |(go_big_quiet_op
            first
             |go_big_quiet_on
             |go_big_quiet_call (with_reducible refine aE (SA g k v2 _ PI.out)))))
      refine I1 ?_;intro _ hw';obtain⟨y9,rfl⟩:=hw';have Em:=EN y9;replace KM:=EM KM Em;replace S1:=J<|S1.out.V Em;replace MM:=J<|MM.out.trans (Ew.EA Em);replace KK:=EM KK Em;clear y0 y2 Em KG Xf PL U9;generalize EC Uy y9=bY at*;cases htk:kG g k v2 with
      |false=> go_wp2_with fail;refine(ij lo hi g gc gq gt gs c ns rs k 0 18 _ S1.out J9 JN).mono ?_;rintro e7 w7 ⟨rfl,s7,m7⟩;have S8:=J s7;replace MM:=J<|MM.out.trans m7;clear s7 m7;go_wp2_with fail;refine EV (UQ O _ _ _) O ?_;exact⟨O,⟨c,1,7,_,U,S8.out,.inl O⟩,MM.out⟩
      |true=>
       go_wp2_with fail;clear htk t17;have y0: ∀y:Ext bY,(EC bY y).cell? ⟨gs,0,X⟩=Z (M (Z ⟨gc,0,X⟩)):=fun y=>(S1.out.V (EN y)).IB;have y95: ∀y:Ext bY,(EC bY y).cell? ⟨gc,95,X⟩=Z (M (Z ⟨gt,0,X⟩)):=fun y=>(S1.out.V (EN y)).core.cell 6 rfl 0 Eh;have y2: ∀y:Ext bY,(EC bY y).cell? ⟨gm,2,X⟩=Z (E I v2):=fun y=>sQ.out _ _ (D.V KM.out (EN y));refine J_ 11 Ed Ed ?_;simp only[Iq,Io,IP,IH]
       repeat (first
        |go_big_quiet_skip
        |(go_big_quiet_want
          first
           |(refine UB (T:=41) (g:=bk) OZ _ rfl rfl KK ?_ ?_;(·exact Ly.out);go_simp;go_big_quiet_on)
           |(go_big_quiet_op
             first
              |go_big_quiet_on
              |go_big_quiet_call (fail))))
       refine I1 ?_;intro _ hw';obtain⟨y9,rfl⟩:=hw';have Em:=EN y9;replace KM:=EM KM Em;replace S1:=J<|S1.out.V Em;replace MM:=J<|MM.out.trans (Ew.EA Em);clear y0 y95 y2 Em KK;generalize EC bY y9=Xc at*;go_wp2_with fail;refine(EU7 gt c.T k v2 kv _ S1.out.core.tab S1.out.core.ok.T da.out).mono ?_;intro e13 JW ii;obtain⟨LA,T',rfl,kt,ot,hT⟩:=Ed4 ii
       have hok:T'.ok/\T'.XX:=by
        rcases hT with⟨-,rfl⟩|⟨-,-,rfl⟩;·exact⟨S1.out.core.ok.T,S1.out.core.ok.In⟩
        ·exact⟨S1.out.core.ok.T.put _ (EUV _ _ _ _ da.out mV.out),S1.out.core.ok.In.put _ (TM.start S1.out.core.ok.In)⟩
       have hS:=S1.out.vQ ot T' kt (S1.out.core.ok.vP hok.1 hok.2);replace KM:=J<|ot.Ek KM.out (EW KM.out S1.out.core.tab Ea);replace S1:=J hS.1;replace MM:=J<|MM.out.trans hS.2;have HT:=J hT;clear ii kt ot hT hok hS;by_cases hc3:LA=0
       ·subst hc3;go_wp2_with fail;have y0: ∀y:Ext JW,(EC JW y).cell? ⟨gs,0,X⟩=Z (M (Z ⟨gc,0,X⟩)):=fun y=>(S1.out.V (EN y)).IB;have y2: ∀y:Ext JW,(EC JW y).cell? ⟨gm,2,X⟩=Z (E I v2):=fun y=>sQ.out _ _ (D.V KM.out (EN y));obtain⟨hh,jC⟩:=En c.tok.h;obtain⟨ee,hee⟩:=En c.tok.e;have Cm: ∀y:Ext JW,(EC JW y).cell? ⟨gc,56,X⟩=Z (E I hh):=fun y=>by rw[jC];exact(S1.out.V (EN y)).core.cell 1 rfl 0 XR
        have y57: ∀y:Ext JW,(EC JW y).cell? ⟨gc,57,X⟩=Z (E I ee):=fun y=>by rw[hee];exact(S1.out.V (EN y)).core.cell 1 rfl 1 XR
        replace jC:=J jC;replace hee:=J hee;have BR:Tryz.prog.built 222 [(0,E I 130),(2,E I v2),(3,E I hh),(4,E I ee)]=Z (I6 [130,0,v2,hh,ee,0,0,0,0,0,0,0,0,0]):=Ed;refine J_ 21 Ed Ed ?_;simp only[Iq,Io,IP,IH]
        repeat (first
         |go_big_quiet_skip
         |(go_big_quiet_want
           first
            |(refine Ed2 222 _ rfl _ BR ?_;go_simp;go_big_quiet_on)
            |(go_big_quiet_op
              first
               |go_big_quiet_on
               |go_big_quiet_call (fail))))
        refine I1 ?_;intro _ hw';obtain⟨y9,rfl⟩:=hw';have Em:=EN y9;replace S1:=J<|S1.out.V Em;replace MM:=J<|MM.out.trans (Ew.EA Em);clear y0 y2 Cm y57 Em KM BR;generalize EC JW y9=Z7 at*;go_wp2_with fail;refine(vc lo hi g gc gq gt gs _ ns rs [130,0,v2,hh,ee,0,0,0,0,0,0,0,0,0] k _ S1.out (pD _ _ _ _ _ _) J9).mono ?_;rintro e15 Cn ⟨rfl,s15,m15⟩;replace S1:=J s15;replace MM:=J<|MM.out.trans m15;clear s15 m15;go_wp2_with fail;refine(Zp lo hi g gc gq gt gs _ (ns+1) rs 3 k 0 0 0 _ S1.out JN).mono ?_;rintro e16 w16 ⟨rfl,s16,m16⟩;have S8:=J s16;replace MM:=J<|MM.out.trans m16;clear s16 m16;go_wp2_with fail;go_end0;exact⟨O,⟨_,1,3,_,U,S8.out,.inr ⟨O,T',O⟩⟩,MM.out⟩
       ·have t9:(LA !=0)=EI:=by simpa using hc3
        have eT:T'=c.T:=by
         rcases HT.out with⟨-,h⟩|⟨h,-⟩;·exact h
         ·exact absurd h hc3
        subst eT;go_wp2_with fail;refine(ij lo hi g gc gq gt gs c ns rs k 0 LA _ S1.out J9 JN).mono ?_;exact Emz
     ·have t9:(cd !=0)=EI:=dA;go_wp2_with fail;refine(sd lo hi g gc gq gt gs c ns rs k cd _ S1.out JN).mono ?_;exact El0
  ·have t9:(lA !=0)=EI:=by simpa using wO
   go_wp2_with fail;exact Epu
 ·have t9:((n:Int) !=10)=EI:=Ji;clear S hk hj Xy hx hr hcap hnc hn hl;go_enter Tryz.func87,Tryz.ntmps87;go_wp2_with fail;exact Epu
def sR(g:Nat->Y)(k:Int)(l:List Int)(c c':Ey)(new:List Rec):Prop:=
 (c'=c/\new=[])
 \/(∃L',UC L' c.q/\c'={c with T:=c.T.lO k,tok:=(c.tok.drop k).1,q:=L'}/\new=(if(c.tok.drop k).2 then [⟨12,k,0,c.tok.e,16,0⟩] else [])++[⟨4,k,l.getD 1 0,(c.tok.drop k).1.e,0,0⟩])
 \/(∃L' t2 hw,t2.ok/\t2.e=c.tok.e+1/\t2.o= -1/\c'={c with tok:=t2,q:=L'}/\new=[⟨8,t2.h,l.getD 1 0,t2.e,0,hw⟩])
 \/(∃L' kd cd,(kd=7\/kd=10)/\c'={c with q:=L'}/\new=[⟨kd,k,l.getD 1 0,c.tok.e,cd,0⟩])
 \/(0<=c.tok.o/\c.tok.o=k/\c'={c with tok:=c.tok.end_}/\new=[⟨11,k,l.getD 1 0,c.tok.e,0,0⟩])
 \/(k=c.tok.h/\c.tok.o<0/\c'={c with tok:={c.tok with o:=l.getD 3 0,oa:=0,om:=max (pn g 44) 0}}/\new=[⟨9,k,l.getD 1 0,c.tok.e,0,l.getD 3 0⟩])
 \/(new=[⟨6,k,l.getD 1 0,c.tok.e,0,0⟩]/\(c'={c with mode:=l.getD 5 0,Em:=⟨1,k,l.getD 1 0⟩}\/ ∃p:Pt,p.b=⟨1,k,l.getD 1 0⟩/\c'={c with pt:=p}))
def nC(g:Nat->Y)(k code:Int)(xs:List Int)(c c':Ey)(m:Nat)(new:List Rec):Prop:=
 (∃cd,c'=c/\m=0/\new=[⟨1,k,0,c.tok.e,cd,0⟩]/\(code≠0\/jA xs 1=EI\/jA xs 2=EI\/(c.T.take k xs).code≠0))
 \/(code=0/\(jA xs 1=EI\/jA xs 2=EI)/\ ∃kd cd,new=[⟨kd,k,0,c.tok.e,cd,0⟩]/\(c'=c\/(kd=3/\ ∃T':EQ,c'={c with T:=T'})))
 \/(code=0/\jA xs 1=B/\jA xs 2=B/\(c.T.take k xs).code=0/\sR g k (c.T.take k xs).msg {c with T:=(c.T.take k xs).tab} c' new)
def VM(lo hi:Nat)(g:Nat->Y)(gc gq gt gs:Nat)(k:Int)(l:List Int)(f:FuncId):Prop:=
 jX f/\(∀(W:H) (gg:Nat),W.heap[gg]?=Z (.map (Xg gs 9) 9)->(gu 188 (.map (Z gg)) (E I (l.getD 0 0)) EI).run Eb W= .ok (Et #[.func (.func f) #[M (Z ⟨gs,0,X⟩)] #[],EU EI]) W)
 /\ ∀(c:Ey) (ns:Nat) (rs:List Rec) (w:H),E5 lo hi g gc gq gt gs c ns rs w->ns<800000->rs.length<800000->
  Ef Eb f #[M (Z ⟨gs,0,X⟩),E I k,EZ (ED l)] w fun e w'=>e=Eg (Et #[])/\(∃c' m new,m<=3/\E5 lo hi g gc gq gt gs c' (ns+m) (rs++new) w'/\sR g k l c c' new)/\Ew lo hi w w'
theorem EfE(lo hi:Nat)(g:Nat->Y)(gc gq gt gs:Nat)(k:Int)(hk:1<=k/\k<=3)(l:List Int)(hm:wE l)(h3:3<=l.getD 0 0)(h11:l.getD 0 0<=11): ∃f,VM lo hi g gc gq gt gs k l f:=by
 have hc:l.getD 0 0=3\/l.getD 0 0=4\/l.getD 0 0=5\/l.getD 0 0=6\/l.getD 0 0=7\/l.getD 0 0=8\/l.getD 0 0=9\/l.getD 0 0=10\/l.getD 0 0=11:=U
 have cmd: ∀(c:Ey) (ns:Nat) (rs:List Rec) (w:H),E5 lo hi g gc gq gt gs c ns rs w->ns<800000->rs.length<800000->
  Ef Eb 135 #[M (Z ⟨gs,0,X⟩),E I k,EZ (ED l)] w fun e w'=>e=Eg (Et #[])/\(∃c' m new,m<=3/\E5 lo hi g gc gq gt gs c' (ns+m) (rs++new) w'/\sR g k l c c' new)/\Ew lo hi w w':=fun c ns rs w S hn hl=>by
  refine(Edl lo hi g gc gq gt gs c ns rs l k w S hk hm hn hl).mono ?_
  rintro e w' ⟨he,⟨c',m,new,h1,h2,h3⟩,mm⟩
  refine⟨he,⟨c',m,new,h1,h2,?_⟩,mm⟩
  rcases h3 with⟨cd,rfl,rfl⟩|⟨hn,h4⟩
  ·exact .inr (.inr (.inr (.inl ⟨_,7,cd,.inl O,O,O⟩)))
  ·exact .inr (.inr (.inr (.inr (.inr (.inr ⟨hn,h4⟩)))))
 rcases hc with h|h|h|h|h|h|h|h|h;·refine⟨128,fun _ _=>Ed,fun W gg hg=>by rw[h];exact Edt hg,fun c ns rs w S hn hl=> ?_⟩;refine(Ec7 lo hi g gc gq gt gs c ns rs l k w S hn hl).mono ?_;rintro e w' ⟨he,s,mm⟩;refine⟨he,⟨c,1,[],U,by rw[fS];exact s,.inl ⟨O,O⟩⟩,mm⟩
 ·refine⟨129,fun _ _=>Ed,fun W gg hg=>by rw[h];exact Edu hg,fun c ns rs w S hn hl=> ?_⟩;refine(Ec8 lo hi g gc gq gt gs c ns rs l k w S hn hl).mono ?_;rintro e w' ⟨he,⟨L',m,h1,h2,s⟩,mm⟩;refine⟨he,⟨_,m,_,h1,by rw[<-XI];exact s,.inr (.inl ⟨L',h2,O,O⟩)⟩,mm⟩
 ·refine⟨130,fun _ _=>Ed,fun W gg hg=>by rw[h];exact Edv hg,fun c ns rs w S hn hl=> ?_⟩;refine(EdX lo hi g gc gq gt gs c ns rs l k w S hk hn hl).mono ?_;rintro e w' ⟨he,⟨c',m,new,h1,s,L',h2⟩,mm⟩;refine⟨he,⟨c',m,new,h1,s,?_⟩,mm⟩;rcases h2 with⟨cd,rfl,rfl⟩|⟨t2,a1,a2,a3,rfl,rfl⟩|⟨rfl,rfl⟩;·exact .inr (.inr (.inr (.inl ⟨L',7,cd,.inl O,O,O⟩)))
  ·exact .inr (.inr (.inl ⟨L',t2,3,a1,a2,a3,O,O⟩))
  ·exact .inr (.inr (.inr (.inl ⟨L',10,0,.inr O,O,O⟩)))
 ·refine⟨131,fun _ _=>Ed,fun W gg hg=>by rw[h];exact Edw hg,fun c ns rs w S hn hl=> ?_⟩;refine(Edg lo hi g gc gq gt gs c ns rs l k w S hk hn hl).mono ?_;rintro e w' ⟨he,⟨c',m,new,h1,s,h2⟩,mm⟩;refine⟨he,⟨c',m,new,h1,s,?_⟩,mm⟩;rcases h2 with⟨cd,rfl,rfl⟩|⟨po,a1,a2,a3,rfl,rfl⟩;·exact .inr (.inr (.inr (.inl ⟨_,7,cd,.inl O,O,O⟩)))
  ·refine .inr (.inr (.inr (.inr (.inr (.inl ⟨a2,a3,?_,O⟩)))));have e:pn g 44=po:=by unfold pn;rw[a1];rfl
   rw[e]
 ·refine⟨132,fun _ _=>Ed,fun W gg hg=>by rw[h];exact Edx hg,fun c ns rs w S hn hl=> ?_⟩;refine(EdI lo hi g gc gq gt gs c ns rs l k w S hn hl).mono ?_;rintro e w' ⟨he,⟨c',m,new,h1,s,h2⟩,mm⟩;refine⟨he,⟨c',m,new,h1,s,?_⟩,mm⟩;rcases h2 with⟨cd,rfl,rfl⟩|⟨t2,L',a1,-,rfl,rfl⟩;·exact .inr (.inr (.inr (.inl ⟨_,7,cd,.inl O,O,O⟩)))
  ·obtain⟨b1,b2,-,b3⟩:=gj S.core.ok.tok a1;exact .inr (.inr (.inl ⟨L',t2,1,b1,b2,b3,O,O⟩))
 ·refine⟨133,fun _ _=>Ed,fun W gg hg=>by rw[h];exact Edy hg,fun c ns rs w S hn hl=> ?_⟩;refine(Edd lo hi g gc gq gt gs c ns rs l k w S hn hl).mono ?_;rintro e w' ⟨he,⟨c',m,new,h1,s,h2⟩,mm⟩;refine⟨he,⟨c',m,new,h1,s,?_⟩,mm⟩;rcases h2 with⟨cd,rfl,rfl⟩|⟨a1,a2,rfl,rfl⟩;·exact .inr (.inr (.inr (.inl ⟨_,7,cd,.inl O,O,O⟩)))
  ·exact .inr (.inr (.inr (.inr (.inl ⟨a1,a2,O,O⟩))))
 ·refine⟨134,fun _ _=>Ed,fun W gg hg=>by rw[h];exact Edz hg,fun c ns rs w S hn hl=> ?_⟩;refine(EdJ lo hi g gc gq gt gs c ns rs l k w S hn hl).mono ?_;rintro e w' ⟨he,⟨c',m,new,h1,s,L',h2⟩,mm⟩;refine⟨he,⟨c',m,new,h1,s,?_⟩,mm⟩;rcases h2 with⟨cd,rfl,rfl⟩|⟨t2,a1,a2,a3,rfl,rfl⟩;·exact .inr (.inr (.inr (.inl ⟨L',7,cd,.inl O,O,O⟩)))
  ·exact .inr (.inr (.inl ⟨L',t2,2,a1,a2,a3,O,O⟩))
 ·exact⟨135,fun _ _=>Ed,fun W gg hg=>by rw[h];exact EdA hg,cmd⟩
 ·exact⟨135,fun _ _=>Ed,fun W gg hg=>by rw[h];exact EdB hg,cmd⟩
theorem EfI(T:EQ)(i:Nat)(bs:List Int)(h:(ai T i bs).code≠0):(ai T i bs).tab=T:=by
 unfold ai at*;split;·rfl
 ·rename_i l hl;rw[hl] at h;simp only at h;split;·rfl
  ·rename_i h2;rw[if_neg h2] at h;split;·rename_i h3;rw[if_pos h3] at h;exact absurd rfl h
   ·rfl
theorem EfJ(T:EQ)(k:Int)(xs:List Int)(h:(T.take k xs).code≠0):(T.take k xs).tab=T:=by
 unfold EQ.take at*;split
 ·rename_i h1;rw[if_pos h1] at h;split;·rename_i h2;rw[if_pos h2] at h;exact EfI T _ _ h
  ·rfl
 ·rfl
theorem EfO{T:EQ}(h:T.ok)(ht:T.XX)(i:Nat)(bs:List Int)(hb: ∀x∈bs,0<=x/\x<=255):(ai T i bs).tab.ok/\(ai T i bs).tab.XX/\((ai T i bs).code=0->wE (ai T i bs).msg/\3<=(ai T i bs).msg.getD 0 0/\(ai T i bs).msg.getD 0 0<=11):=by
 unfold ai;split;·exact EoY
 ·rename_i l hl;split;·exact⟨h,ht,fun h=>XE⟩
  ·rename_i hk;split;·have hq:=R_ hb hl;have hkk:=(EZb (G5 hb hl).1).2;refine⟨h.put i ⟨(h.E4 i).len,(h.E4 i).bytes,SJ (h.E4 i).win U⟩,ht.put i (TM.start ht),fun _=>⟨Edr hb hl,?_,hkk.2⟩⟩;show 3<=l.getD 0 0;omega
   ·exact EoY
theorem EfU{T:EQ}(h:T.ok)(ht:T.XX)(k:Int)(xs:List Int)(hb: ∀x∈xs,0<=x/\x<=255):(T.take k xs).tab.ok/\(T.take k xs).tab.XX/\((T.take k xs).code=0->wE (T.take k xs).msg/\3<=(T.take k xs).msg.getD 0 0/\(T.take k xs).msg.getD 0 0<=11):=by
 unfold EQ.take;split
 ·split;·exact EfO h ht _ _ (fun x hx=>hb x (fy hx))
  ·exact EoY
 ·exact EoY
theorem EfX{b:Bool}(ho:o.op= .lookup T x y b)(hx:F x=Y3)(hy:F y=v)(h:(gu T Y3 v b).run P w= .ok r w):(If F o).run P w= .ok (.value r) w:=by unfold If;simp only[ho,hx,hy,Oz,h,OC,Og]
theorem EfZ{o:Obj}(h:w.heap[g]?=Z o)(hb:El w w'):w'.heap[g]?=Z o:=(hb.block g (J6.1 h).1).trans h
theorem Efa(lo hi:Nat)(g:Nat->Y)(gc gq gt gs:Nat)(c:Ey)(ns:Nat)(rs:List Rec)(code:Int)(A:Option Eu)(n cap:Nat)(xs:List Int)(k:Int)(w:H)(S:E5 lo hi g gc gq gt gs c ns rs w)(hk:1<=k/\k<=3)(hx:xs.length=n)(hnc:n<=cap)(hcap:cap<=9223372036854775807)(wg:n<=1000)(hr:Row w A xs)(hn:ns<800000)(hl:rs.length<800000): Ef Eb 71 #[M (Z ⟨gs,0,X⟩),E I k,EZ #[E I code,G A n cap]] w fun e w'=>e=Eg (Et #[])/\(∃c' m new,m<=3/\E5 lo hi g gc gq gt gs c' (ns+m) (rs++new) w'/\nC g k code xs c c' m new)/\Ew lo hi w w':=by
 have HN:=J hn;have HL:=J hl;have VN:=J<|fun W (s:E5 lo hi g gc gq gt gs c ns rs W) (h:Row W A xs)=>EdY lo hi g gc gq gt gs c ns rs A n cap xs k W s hk hx hnc hcap h hn hl;have VP:=J<|fun W (s:E5 lo hi g gc gq gt gs c ns rs W) (h:Row W A xs)=>Ed5 lo hi g gc gq gt gs c ns rs A n cap xs k W s hk hx hnc hcap h hn hl;have CB:=J<|fun W (h:Row W A xs) b=>Edq A xs n cap b W hx h U;have VQ:=fun W K (h:Row W A xs) R=>EZB gt c.T k xs A n cap W K S.core.ok.T hx hnc hcap wg h R;have hti:=EfU S.core.ok.T S.core.ok.In k xs hr.2;obtain⟨T',hT'⟩:=En ((c.T.take k xs).tab);obtain⟨l,hl'⟩:=En ((c.T.take k xs).msg);obtain⟨cd,qm⟩:=En ((c.T.take k xs).code);obtain⟨mv,hmv⟩:=En (ED l);have sS:Ec (cd=0-> ∃f,VM lo hi g gc gq gt gs k l f):=J (fun h=>by rw[qm] at h;have h2:=hti.2.2 h;rw[hl'];exact EfE lo hi g gc gq gt gs k hk _ h2.1 h2.2.1 h2.2.2);have HT:Ec (T'.ok/\T'.XX):=J (by rw[hT'];exact⟨hti.1,hti.2.1⟩);have CT:Ec (∀W,Il W gt c.T->Row W A xs->Jt W->Ef Eb 88 #[M (Z ⟨gt,0,X⟩),E I k,G A n cap] W fun e w'=>e=Eg (Et #[EZ mv,E I cd])/\Il w' gt T'/\E3 gt W w'):=J (fun W K h R=>by rw[hmv,hl',qm,hT'];exact VQ W K h R);have iC:Ec (mv.size=12):=J (by rw[hmv];exact I_ l);have nA:Ec (mv.all (·.oneCell')=EI):=J (by rw[hmv];exact ZF l);obtain⟨v0,hv0⟩:=En (l.getD 0 0);have Cc:Ec (∀W g,D W g mv 183->W.cell? ⟨g,0,X⟩=Z (E I v0)):=J (fun W g K=>by rw[hv0];rw[hmv] at K;exact X6 K 0 U U);replace hT':=J hT';replace hl':=J hl';replace qm:=J qm;replace hmv:=J hmv;replace hv0:=J hv0;have S0:=J S;have R0:=J hr;have KI:=J<|D.new w #[E I code,G A n cap] 74;have b1:=Er w (EJ #[E I code,G A n cap] 74);have S1:=J<|S0.out.V b1;have MM:=J<|Ew.EA (lo:=lo) (hi:=hi) b1;have RW:=J<|Ix R0.out b1;clear S hn hl hk hx hnc hcap wg hr VQ hti S0 R0;go_enter Tryz.func71,Tryz.ntmps71;go_wp2_with (with_reducible refine I7 46 ?_);apply Eo;clear b1;generalize w.alloc (EJ #[E I code,G A n cap] 74)=w1 at*;obtain⟨gi,hgi⟩:=En w.heap.size;rw[<-hgi] at KI⊢;clear hgi;have i0:w1.cell? ⟨gi,0,X⟩=Z (E I code):=(D.cell KI.out 0).trans O;have i1:w1.cell? ⟨gi,1,X⟩=Z (G A n cap):=(D.cell KI.out 1).trans O;by_cases hcode:code=0
 ·subst hcode;go_wp2_with fail;refine(CB.out _ RW.out 1).mono ?_;rintro e2 w2 ⟨rfl,rfl⟩;cases hb1:jA xs 1 with
  |true=> have HB1:=J hb1;clear hb1;go_wp2_with fail;refine(VN.out _ S1.out RW.out).mono ?_;rintro e7 w7 ⟨rfl,⟨m,kd,LB,hm,s7⟩,m7⟩;have S8:=J s7;replace MM:=J<|MM.out.trans m7;clear s7 m7;go_wp2_with fail;go_end0;exact⟨O,⟨c,m,_,U,S8.out,.inr (.inl ⟨O,.inl HB1.out,kd,LB,O,.inl O⟩)⟩,MM.out⟩
  |false=>
   have HB1:=J hb1;clear hb1;go_wp2_with fail;refine(CB.out _ RW.out 2).mono ?_;rintro e2 w2 ⟨rfl,rfl⟩;cases hb2:jA xs 2 with
   |true=> have HB2:=J hb2;clear hb2;go_wp2_with fail;refine(VP.out _ S1.out RW.out).mono ?_;rintro e7 w7 ⟨rfl,⟨c',m,kd,LB,hm,s7,hc7⟩,m7⟩;have S8:=J s7;replace MM:=J<|MM.out.trans m7;clear s7 m7;go_wp2_with fail;go_end0;exact⟨O,⟨c',m,_,U,S8.out,.inr (.inl ⟨O,.inr HB2.out,kd,LB,O,hc7⟩)⟩,MM.out⟩
   |false=>
    have HB2:=J hb2;clear hb2;obtain⟨n0,hn0⟩:=En w1.heap.size;have Xt:=J (show lo<=n0/\hi<=n0/\w.heap.size<=n0 from nu);go_wp2_with fail;refine ip (Ph:=fun p wq=>(n0<=wq.heap.size/\(match p with|0=>E5 lo hi g gc gq gt gs c ns rs wq/\Ew lo hi w wq/\Row wq A xs/\D wq gi #[E I 0,G A n cap] 74|_=>E5 lo hi g gc gq gt gs {c with T:=T'} ns rs wq/\Ew lo hi w wq))) (Rel:=J0) (Is:=ly 183 12 mv) [kp gs 0,kp gs 0,kp gs 0,kp gc 0,kp gc 0,kp gc 95,kp gt 0,kq (E I k),kp gi 1,kq (G A n cap),kq (Et #[EZ mv,E I cd]),kq (Et #[EZ mv,E I cd]),kq (EZ mv),kq (E I cd),.dep (bX 183 12 n0) (fun v w w' h hr=>h.V hr) (fun v w w' h hr=>h.sz hr),.tie [14] (fun x w=> ∃b:Nat,x 14=M (Z ⟨b,0,X⟩)/\n0<=b/\D w b mv 183) (fun x w w' h hr=>p8) (fun x y w hq h=>by rw[hq 14 Eh] at h;exact h),kq (E I cd)] [B,B,B,B,B,B,B,B,B,B,B,B,B,B,B,EI,B] O [[],[],[],[],[],[],[],[],[],[],[],[],[],[],[],[14],[]] O [10,15] [(0,0),(0,0),(0,0),(0,0),(0,0),(0,0),(0,0),(0,0),(0,0),(0,0),(0,0),(1,1),(1,1),(1,2),(0,1),(1,1),(2,2)] Ed Ed Ed Ed Ed Ed UP Ed ?hPh ?h0 ?hstep ?hend
    case hPh=>
     intro p w2 w3 h hr;match p,h with
     |0,h=>exact⟨Ez h.1 (U8 hr),h.2.1.V hr,h.2.2.1.trans (Ew.EA hr),Ix h.2.2.2.1 hr,D.V h.2.2.2.2 hr⟩
     |_+1,h=>exact⟨Ez h.1 (U8 hr),h.2.1.V hr,h.2.2.trans (Ew.EA hr)⟩
    case h0=> have hb:=Jg w1;exact⟨Ez (Om hn0) (U8 hb),S1.out.V hb,MM.out.trans (Ew.EA hb),Ix RW.out hb,D.V KI.out hb⟩
    case hstep=>
     refine⟨?_,?_,?_,?_,?_,?_,?_,?_,?_,?_,?_,?_,?_,?_,?_,?_,?_,trivial⟩;all_goals first|intro xv wq p hlo hhi hp hd|intro xv wq hp hd
     all_goals simp only[EH,Ig,Ii,Ia,Ib]
     ·exact Elk
     ·exact ElA
     ·exact Elz
     ·exact Elm
     ·exact Ely
     ·exact ElS
     ·obtain rfl:p=0:=U;have d5:xv 5=M (Z ⟨gc,95,X⟩):=hd.at 5 rfl;have cc:wq.cell? ⟨gc,95,X⟩=Z (M (Z ⟨gt,0,X⟩)):=hp.2.1.core.cell 6 rfl 0 Eh;exact Es (by simp[go_sem,d5,cc]) O
     ·exact Elk
     ·exact Elk
     ·obtain rfl:p=0:=U;have d8:xv 8=M (Z ⟨gi,1,X⟩):=hd.at 8 rfl;have cc:wq.cell? ⟨gi,1,X⟩=Z (G A n cap):=(D.cell hp.2.2.2.2 1).trans O;exact Es Bw O
     ·have d6:xv 6=M (Z ⟨gt,0,X⟩):=hd.at 6 rfl;have d7:xv 7=E I k:=hd.at 7 rfl;have d9:xv 9=G A n cap:=hd.at 9 rfl;refine JH (f:=88) (args:= #[xv 6,xv 7,xv 9]) (Ei O) Ex ?_;rw[d6,d7,d9];refine(CT.out wq hp.2.1.core.tab hp.2.2.2.1 hp.2.1.core.roots).mono fun e w2 h=> ?_;obtain⟨he,kt,ot⟩:=h;have hS:=hp.2.1.vQ ot T' kt (hp.2.1.core.ok.vP HT.out.1 HT.out.2);exact⟨_,he,⟨EdQ ot hp.2.1.core.tab Ea,Ez hp.1 ot.size,hS.1,hp.2.2.1.trans hS.2⟩,O⟩
     ·obtain rfl:p=1:=U;have d10:xv 10=Et #[EZ mv,E I cd]:=hd.at 10 rfl;exact Eo5
     ·obtain rfl:p=1:=U;exact EpA
     ·exact EpA
     ·exact Zg (Ei O) (iX _ _ _ O) (Er wq _) ⟨wq.heap.size,_,O,hp.1,I_ _,D.new _ _ _⟩
     ·have d12:xv 12=EZ mv:=hd.at 12 rfl;obtain⟨b,c8,eA,lb,h8,kb⟩:bX 183 12 n0 (xv 14) wq:=hd.at 14 rfl;have nh:=Xt.out;refine bF OM (Ei O) ⟨O,eA,d12⟩ kb h8 iC.out nA.out ⟨wJ iC.out,?_⟩ ⟨b,eA,lb,kb.setRow _⟩;obtain⟨n1,s1,m1⟩:=hp;have ho:=J8 (g:=b) (W:=wq) mv;exact⟨Ez n1 ho.size,s1.Ci ho kb Ea U,m1.only ho U U kb.lt⟩
     ·obtain rfl:p=2:=U;exact EpX
    case hend=>
     intro xv W6 hp hd;simp only[EH,Ig,Ii,Ia,Ib];obtain⟨gm,eA,lb,kb⟩: ∃b:Nat,xv 14=M (Z ⟨b,0,X⟩)/\n0<=b/\D W6 b mv 183:=hd 15 Ea;have a16:xv 16=E I cd:=hd 16 Ea;obtain⟨-,s6,m6⟩:=hp;replace S1:=J s6;replace MM:=J m6;have KM:=J kb;rw[eA,a16];clear s6 m6 kb hd eA a16 KI RW CT VN VP CB i0 i1;by_cases hcd:cd=0
     ·subst hcd;obtain⟨f,hf1,hf2,hf3⟩:=sS.out O;rw[<-hv0.out] at hf2;rw[<-hmv.out] at hf3;have FL:=J hf2;have FC:=J hf3;have hf1: ∀(args:Array Y) (w:H),(Jd f args).run Eb w= .ok (.enter f args) w:=hf1;clear hf2 hf3;obtain⟨n1,hn1⟩:=En W6.heap.size;go_wp2_with fail;refine ip (Ph:=fun _ wq=>E5 lo hi g gc gq gt gs {c with T:=T'} ns rs wq/\Ew lo hi w wq/\D wq gm mv 183) (Rel:=J0) (Is:=fun w w'=>w=w') [kp gs 0,.dep (fun v w=> ∃gg,v= .map (Z gg)/\w.heap[gg]?=Z (.map (Xg gs 9) 9)) (fun v w w' h hr=>by obtain⟨gg,h1,h2⟩:=h;exact⟨gg,h1,EfZ h2 hr⟩) (fun v w w' h hr=>Z8),kp gm 0,kq (E I v0),kq (Et #[.func (.func f) #[M (Z ⟨gs,0,X⟩)] #[],EU EI]),kq (Et #[.func (.func f) #[M (Z ⟨gs,0,X⟩)] #[],EU EI]),kq (.func (.func f) #[M (Z ⟨gs,0,X⟩)] #[]),kq (EU EI),kq (.func (.func f) #[M (Z ⟨gs,0,X⟩)] #[]),kq (EU EI)] [B,B,B,B,B,B,B,B,B,B] O [[],[],[],[],[],[],[],[],[],[]] O [] [(0,0),(0,0),(0,0),(0,0),(0,0),(0,0),(0,0),(0,0),(0,0),(0,0)] Ed Ed Ed Ed Ed Ed UP Ed ?hPh ?h0 ?hstep ?hend;case hPh=> intro p w2 w3 h hr;exact⟨h.1.V hr,h.2.1.trans (Ew.EA hr),D.V h.2.2 hr⟩
      case h0=> have hb:=Jg W6;exact⟨S1.out.V hb,MM.out.trans (Ew.EA hb),D.V KM.out hb⟩
      case hstep=>
       refine⟨?_,?_,?_,?_,?_,?_,?_,?_,?_,?_,trivial⟩;all_goals intro xv wq p hlo hhi hp hd
       all_goals simp only[EH,Ig,Ii,Ia,Ib]
       ·exact EmZ
       ·have d0:xv 0=M (Z ⟨gs,0,X⟩):=hd.at 0 rfl;refine JH (f:=89) (args:= #[xv 0]) (Ei O) Ex ?_;rw[d0];exact(Eds gs wq).mono fun e w2 h=>⟨_,h.1,h.2.2,wq.heap.size,O,h.2.1⟩
       ·exact EmZ
       ·have d2:xv 2=M (Z ⟨gm,0,X⟩):=hd.at 2 rfl;have cc:wq.cell? ⟨gm,0,X⟩=Z (E I v0):=Cc.out _ _ hp.2.2;exact EoW
       ·have d3:xv 3=E I v0:=hd.at 3 rfl;obtain⟨gg,eg,hg⟩: ∃gg,xv 1= .map (Z gg)/\wq.heap[gg]?=Z (.map (Xg gs 9) 9):=hd.at 1 rfl;exact IM EF (Ei O) (EfX O eg d3 (FL.out wq gg hg)) O
       ·have d4:xv 4=Et #[.func (.func f) #[M (Z ⟨gs,0,X⟩)] #[],EU EI]:=hd.at 4 rfl;exact Eo6
       ·exact En2
       ·exact En2
       ·have d6:xv 6= .func (.func f) #[M (Z ⟨gs,0,X⟩)] #[]:=hd.at 6 rfl;exact Es mW O
       ·have d7:xv 7=EU EI:=hd.at 7 rfl;exact Es fW O
      case hend=> intro xv W7 hp hd;simp only[EH,Ig,Ii,Ia,Ib];have a8:xv 8= .func (.func f) #[M (Z ⟨gs,0,X⟩)] #[]:=hd 8 Ea;have a9:xv 9=EU EI:=hd 9 Ea;obtain⟨s7,m7,k7⟩:=hp;replace S1:=J s7;replace MM:=J m7;replace KM:=J k7;rw[a8,a9];clear s7 m7 k7 hd a8 a9 FL;go_wp2_with (with_reducible refine wL OM KM ?_ (hn:=iC.out));refine(FC.out _ ns rs _ S1.out HN.out HL.out).mono ?_;rintro e8 w8 ⟨rfl,⟨c',m,new,hm,s8,h8⟩,m8⟩;have S8:=J s8;replace MM:=J<|MM.out.trans m8;clear s8 m8;go_wp2_with fail;go_end0;rw[hl'.out,hT'.out] at h8;exact⟨O,⟨c',m,new,hm,S8.out,.inr (.inr ⟨O,HB1.out,HB2.out,qm.out.symm,h8⟩)⟩,MM.out⟩
     ·have t9:(cd !=0)=EI:=dA;have eT:T'=c.T:=by rw[hT'.out];exact EfJ _ _ _ (by rw[<-qm.out];exact hcd)
      subst eT;go_wp2_with fail;refine(sd lo hi g gc gq gt gs c ns rs k cd _ S1.out JN).mono ?_;rintro e7 w7 ⟨rfl,s7,m7⟩;have S8:=J s7;replace MM:=J<|MM.out.trans m7;clear s7 m7;go_wp2_with fail;refine EV (UQ O _ _ _) O ?_;exact⟨O,⟨c,0,_,U,S8.out,.inl ⟨_,O,O,O,.inr (.inr (.inr (by rw[<-qm.out];exact hcd)))⟩⟩,MM.out⟩
 ·have t9:(code !=0)=EI:=by simpa using hcode
  go_wp2_with fail;refine(sd lo hi g gc gq gt gs c ns rs k code _ S1.out JN).mono ?_;rintro e7 w7 ⟨rfl,s7,m7⟩;have S8:=J s7;replace MM:=J<|MM.out.trans m7;clear s7 m7;go_wp2_with fail;go_end0;exact⟨O,⟨c,0,_,U,S8.out,.inl ⟨_,O,O,O,.inl hcode⟩⟩,MM.out⟩
theorem VR{T:EQ}(K:Il W g T)(i:Nat):D W g (T.pre i++(OH (T.E4 i).on (T.E4 i).a (T.E4 i).m++(([E .i64 (T.E4 i).r]++((T.E4 i).key.map (E .u8)++O_ (T.E4 i).win))++T.post i))).toArray 163:=by unfold Il at K;rw[T.rj i] at K;simpa[Jm.v] using K
theorem Efc(g i:Nat)(T:EQ)(w:H)(K:Il w g T)(h:T.ok)(hoff:(T.E4 i).on=B): Ef Eb 145 #[M (Z ⟨g,so i,X⟩)] w fun e w'=>e=Eg (EU B)/\w=w':=by have k:=VR K i;rw[hoff] at k;exact Pb g (so i) _ _ _ _ _ w k (EQ.ou h i)
theorem Efd(g:Nat)(T:EQ)(w:H)(K:Il w g T)(hoff:T.X_=B): Ef Eb 145 #[M (Z ⟨g,0,X⟩)] w fun e w'=>e=Eg (EU B)/\w=w':=by have k:D w g ([]++([EU T.X_,E I T.sa,E I T.sm]++(T.s0.v++(T.s1.v++(T.s2.v++T.tl))))).toArray 163:=K;rw[hoff] at k;exact Pb g 0 _ _ _ _ _ w k O
theorem Eff(g i:Nat)(T:EQ)(w:H)(K:Il w g T)(h:T.ok)(hon:(T.E4 i).on=EI)(h1: -9223372036854775808<=(T.E4 i).a)(h3:(T.E4 i).m<=9223372036854775807): Ef Eb 145 #[M (Z ⟨g,so i,X⟩)] w fun e w'=>e=Eg (EU (decide ((T.E4 i).m<=sat (T.E4 i).a (T.E4 i).m)))/\Il w' g (T.put i {T.E4 i with a:=sat (T.E4 i).a (T.E4 i).m})/\E3 g w w':=by have k:=VR K i;rw[hon] at k;refine(Pc g (so i) _ _ _ _ _ w k (EQ.ou h i) h1 h3).mono ?_;rintro e w' ⟨he,hk,ho⟩;refine⟨he,?_,ho⟩;unfold Il;rw[T.tV i];simpa[Jm.v,hon] using hk
theorem E3.VS{a b c:H}(h:E3 g a b)(k:Ik a.heap.size b c):E3 g a c:=
 ⟨Ez h.size k.size,fun i hi hl=>(k.block i hl).trans (h.keep i hi hl),fun i hi hl=>(h.bel i hi hl).trans (k.mono hl)⟩
theorem TM.step{a m:Int}(h:TM a m):TM (sat a m) m:=by
 obtain⟨h1,h2,h3,h4⟩:=h;unfold sat;split;·exact⟨U,U,h3,h4⟩
 ·exact⟨U,U,h3,h4⟩
theorem Efg(g i:Nat)(hi:i<3)(T:EQ)(w:H)(K:Il w g T)(h:T.ok)(ht:T.XX): Ef Eb 145 #[M (Z ⟨g,so i,X⟩)] w fun e w'=>(∃b T',e=Eg (EU b)/\Il w' g T'/\T'.ok/\T'.XX)/\E3 g w w':=by
 cases hon:(T.E4 i).on with
 |false=> refine(Efc g i T w K h hon).mono ?_;rintro e w' ⟨rfl,rfl⟩;exact⟨⟨_,T,O,K,h,ht⟩,E3.refl _ _⟩
 |true=> have hb:=ht.E4 i;refine(Eff g i T w K h hon (by have:=hb.1;omega) (by have:=hb.2.2.2;omega)).mono ?_;rintro e w' ⟨rfl,k,o⟩;exact⟨⟨_,_,O,k,h.put i ⟨(h.E4 i).len,(h.E4 i).bytes,(h.E4 i).win⟩,ht.put i (TM.step hb)⟩,o⟩
theorem Efh(g:Nat)(T:EQ)(w:H)(K:Il w g T)(h:T.ok)(ht:T.XX): Ef Eb 145 #[M (Z ⟨g,0,X⟩)] w fun e w'=>(∃b T',e=Eg (EU b)/\Il w' g T'/\T'.ok/\T'.XX)/\E3 g w w':=by
 cases hon:T.X_ with
 |false=> refine(Efd g T w K hon).mono ?_;rintro e w' ⟨rfl,rfl⟩;exact⟨⟨_,T,O,K,h,ht⟩,E3.refl _ _⟩
 |true=>
  have hb:=ht.st;have k:D w g ([]++(OH EI T.sa T.sm++(T.s0.v++(T.s1.v++(T.s2.v++T.tl))))).toArray 163:=by have K2:D w g (T.hd++(T.s0.v++(T.s1.v++(T.s2.v++T.tl)))).toArray 163:=K;unfold EQ.hd at K2;rw[hon] at K2;exact K2
  refine(Pc g 0 _ _ _ _ _ w k O (by have:=hb.1;omega) (by have:=hb.2.2.2;omega)).mono ?_;rintro e w' ⟨rfl,k,o⟩;refine⟨⟨_,{T with sa:=sat T.sa T.sm},O,?_,⟨h.s0,h.s1,h.s2⟩,⟨ht.In,TM.step hb,fun i=> ?_⟩⟩,o⟩;·show D w' g ([EU T.X_,E I (sat T.sa T.sm),E I T.sm]++(T.s0.v++(T.s1.v++(T.s2.v++T.tl)))).toArray 163;rw[hon];exact k
  ·exact match i with|0=>ht.E4 0|1=>ht.E4 1|_+2=>ht.E4 2
theorem Efi{T:EQ}(K:Il W g T)(h:T.ok)(ht:T.XX):Il (W.setCells g 0 [EU B,E I 0,E I 0]) g {T with X_:=false,sa:=0,sm:=0}/\({T with X_:=false,sa:=0,sm:=0}:EQ).ok/\({T with X_:=false,sa:=0,sm:=0}:EQ).XX:=
 ⟨Zd (post:=T.s0.v++(T.s1.v++(T.s2.v++T.tl))) [EU B,E I 0,E I 0] T.hd [] 0 W K O O,⟨h.s0,h.s1,h.s2⟩,⟨ht.In,(show TM 0 0 from⟨Ea,Ea,Ea,Ea⟩),fun i=>match i with|0=>ht.E4 0|1=>ht.E4 1|_+2=>ht.E4 2⟩⟩
theorem VT: ∃i,Tryz.prog.info? 3=Z i/\i.zero=Z (E I 0)/\i.size=1/\i.bytes=8:=by have h:(Tryz.prog.info? 3).map (fun i=>(i.zero,i.size,i.bytes))=Z (Z (E I 0),1,8):=Ed;exact Emt
theorem Efj:IG Eb 156 3:=⟨⟨_,Tryz.underlying156,O⟩,Ed⟩
theorem Efk:Tryz.prog.built 156 []=Z #[EU B,E I 0,E I 0]:=Ed
theorem Efl(g i:Nat)(hi:i<3)(W:H):(Instr.indexAt 161 (M (Z ⟨g,3,X⟩)) (E I (i:Int))).run Eb W= .ok (M (Z ⟨g,so i,X⟩)) W:=by have h:i=0\/i=1\/i=2:=U;rcases h with rfl|rfl|rfl<;>rfl
def Uu(L:List Int):List Y:=L.map (E .i64)
theorem Efm(g:Nat)(T:EQ)(w:H)(K:Il w g T)(h:T.ok)(ht:T.XX): Ef Eb 101 #[M (Z ⟨g,0,X⟩)] w fun e w'=>(∃(L:List Int) (A:Option Eu) (c:Nat) (T1:EQ),e=Eg (G A L.length c)/\w'.ownsRow w.heap.size 3 1 (G A L.length c) L.length (Uu L)/\L.length<=4/\(∀x∈L,0<=x/\x<=3)/\Il w' g T1/\T1.ok/\T1.XX)/\E3 g w w':=by
 have KT:=J K;have OK:=J h;have OT:=J ht;have II:=J VT;have BP:=J Efk;have BZ:=J Qb;have SZ:=J<|show Ub.v.toArray.size=39 from Jm.XL O;have S1:=J<|mK Ub;have SV:Ec (Ub.v.toArray.toList=Ub.v):=J O;have TP:=J<|fun(T:EQ) W (k:Il W g T) (h:T.ok) i=>uk k h i Ub O;have TT:=J<|fun(T:EQ) (h:T.XX) i=>h.put i (s:=Ub) ⟨Ea,Ea,Ea,Ea⟩;have TK:=J<|fun(T:EQ) (h:T.ok) i=>h.put i tT;have TH:=J<|fun(T:EQ) W (k:Il W g T) (h:T.ok) (i:Nat)=>aZ (o:=so i) (n:=39) k (by rw[ui k h];have:=GJ i;omega);obtain⟨sv,hsv⟩:=En Ub.v.toArray;rw[<-hsv] at BZ SZ S1 SV;clear hsv K h ht;generalize Ub.v=sl at*;go_enter Tryz.func101,Tryz.ntmps101;go_wp2_with fail;refine(Efh g T _ KT.out OK.out OT.out).mono ?_;rintro e w1 ⟨⟨b,T1,rfl,k1,ok1,VV⟩,o1⟩;replace KT:=J k1;replace OK:=J ok1;replace OT:=J VV;have ON:=J o1;clear k1 ok1 VV o1;go_upto_if 9 with(fail)
 go_cut[3] from 10 to 16 (fun v wx=> ∃(L:List Int) (A:Option Eu) (c:Nat) (T1:EQ),v=G A L.length c/\wx.ownsRow w.heap.size 3 1 (G A L.length c) L.length (Uu L)/\L.length<=1/\(∀x∈L,0<=x/\x<=3)/\Il wx g T1/\T1.ok/\T1.XX/\E3 g w wx)
 case first=>
  cases b;·go_wp2_with fail;go_meet;exact⟨[],X,0,T1,O,bN _ _ _ _,Eh,Eh,KT.out,OK.out,OT.out,ON.out⟩
  ·have VW:=J<|aZ (o:=0) (n:=3) KT.out (by rw[ui KT.out OK.out];omega);go_wp2_with (first|((with_reducible refine It 11 ?_);refine I3 rfl 156 _ rfl #[EU false,E I 0,E I 0] BP.out ?_)|((with_reducible refine JB 156 ?_);(with_reducible refine Ui rfl 156 _ _ rfl g 0 #[EU false,E I 0,E I 0] ?_ ?_ ?_ ?_ ?_ ?_);(·rfl);(·rfl);(·exact VW.out);(·exact Efj.2);(·simp[OF]);refine Ev.mk ?_));apply Eo;have hz:=Efi KT.out OK.out OT.out;replace KT:=J hz.1;replace OK:=J hz.2.1;replace OT:=J hz.2.2;replace ON:=J<|ON.out.trans (JG (g:=g) [EU B,E I 0,E I 0] 0 w1);clear hz VW;change Ic _ _ _ _ _ (w1.setCells g 0 [EU B,E I 0,E I 0]);generalize w1.setCells g 0 [EU B,E I 0,E I 0]=w2 at*;go_wp2_with (with_reducible refine I7 16 ?_);apply Eo;have OG:Ec (cu w2 w.heap.size 3 1 (.slice X ([]:List Int).length 0) ([]:List Int).length (Uu [])):=J<|bN _ _ _ _;have KB:=J<|D.new w2 #[E I (0)] 3;have b4:=J<|Er w2 (EJ #[E I (0)] 3);replace OG:=J<|EP OG.out fun _ _ h=>D.V h b4.out;replace KT:=J<|KT.out.V b4.out;replace ON:=J<|ON.out.trans (E3.EA b4.out);clear b4;generalize w2.alloc (EJ #[E I (0)] 3)=w7 at*;generalize w2.heap.size=gb at*;have lw:=ON.out.size;obtain⟨qA,qc,qw,U0,X4,Oa,-,-⟩:=dX (P:=Eb) w7 w.heap.size w.heap.size 51 51 3 II.out.choose _ 1 8 Tryz.underlying51 II.out.choose_spec.1 II.out.choose_spec.2.1 II.out.choose_spec.2.2.1 II.out.choose_spec.2.2.2 rfl X 0 0 (Uu []) OG.out ⟨gb,0,X⟩ 1 1 [E I (0)] O (fun j Y3 hu=>by rw[show(⟨gb,0,X⟩:Eu).add j=⟨gb,j,X⟩ from Xw];rw[D.cell KB.out,OE];exact hu) dx (fun _=>U) Ot U lw (E7 _);have ik:=vo (P:=Eb) w7 w.heap.size 51 51 3 II.out.choose _ 1 8 Tryz.underlying51 II.out.choose_spec.1 II.out.choose_spec.2.1 II.out.choose_spec.2.2.1 II.out.choose_spec.2.2.2 X 0 0 (Uu []) OG.out ⟨gb,0,X⟩ 1 1 [E I (0)] O (fun j Y3 hu=>by rw[show(⟨gb,0,X⟩:Eu).add j=⟨gb,j,X⟩ from Xw];rw[D.cell KB.out,OE];exact hu) dx (fun _=>U) Ot U U0;go_wp2_with ((with_reducible refine It 16 ?_);(refine Jr (Ei O) (Ua O O O U0) ?_);refine Ev.mk ?_);apply Eo;have OL:Ec (cu qw w.heap.size 3 1 (G qA (0+1) qc) (0+1) (Uu ([]++[0]))):=J VY;replace KT:=J<|X1 Oa KT.out Ea;replace ON:=J<|ON.out.VS (Oa.2.1 lw);clear X4 Oa U0 OG KB ik lw;go_wp2_with fail;go_meet;exact⟨[0],qA,qc,_,O,OL.out,Eh,Eh,KT.out,OK.out,OT.out,ON.out⟩
 case rest=>
  obtain⟨L,A,c,T2,rfl,og,hl,hb,k2,V7,V_,o2⟩:=hcut;clear KT OK OT ON;replace o2:=J o2;go_wp2_with fail;go_loopw[3,17] (fun v y wr=> ∃(i:Nat) (L:List Int) (A:Option Eu) (c:Nat) (T1:EQ),i<=3/\y=E I i/\v=G A L.length c/\wr.ownsRow w.heap.size 3 1 (G A L.length c) L.length (Uu L)/\L.length<=i+1/\(∀x∈L,0<=x/\x<=3)/\Il wr g T1/\T1.ok/\T1.XX/\E3 g w wr) (fun _ y _=>3-(Ir y).toNat);case atStart=>exact⟨0,L,A,c,T2,U,O,O,og,U,hb,k2,V7,V_,o2.out⟩
  case round=>
   obtain⟨i,L,A,c,T3,hi,rfl,rfl,WE,hl3,hb3,k3,WI,WJ,o3⟩:=hrel;clear og hb k2 V7 V_ o2 hl;have OG:=J WE;have HL:=J hl3;have HB:=J hb3;have KT:=J k3;have OK:=J WI;have OT:=J WJ;have ON:=J o3;clear WE hl3 hb3 k3 WI WJ o3;by_cases hlt:i<3
   ·have t1:decide ((i:Int)<3)=EI:=IU U;have ix:=fun W=>Efl g i hlt W;have HLT:=J hlt;go_wp2_with fail;refine(Efg g i HLT.out T3 _ KT.out OK.out OT.out).mono ?_;rintro e w4 ⟨⟨b,T4,rfl,k4,WU,WX⟩,o4⟩;replace OG:=J<|EP OG.out fun _ _ h=>o4.Ek h (EW h KT.out Ea);replace KT:=J k4;replace OK:=J WU;replace OT:=J WX;replace ON:=J<|ON.out.trans o4;clear k4 WU WX o4;cases b;·go_wp2_with fail;refine⟨⟨i+1,L,A,c,T4,U,Eh,O,OG.out,JN,HB.out,KT.out,OK.out,OT.out,ON.out⟩,JM⟩
    ·have WZ:=J<|TH.out T4 _ KT.out OK.out i;go_wp2_with (first|((with_reducible refine It 30 ?_);refine I3 rfl 160 _ rfl sv BZ.out ?_)|((with_reducible refine JB 160 ?_);(with_reducible refine Ui rfl 160 _ _ rfl g (so i) sv ?_ ?_ ?_ ?_ ?_ ?_);(·rfl);(·rfl);(·rw[SZ.out];exact WZ.out);(·rw[SZ.out];exact mH.2);(·exact S1.out);refine Ev.mk ?_));apply Eo;rw[SV.out];replace OG:=J<|EP OG.out fun _ _ h=>(JG (g:=g) sl (so i) w4).Ek h (EW h KT.out Ea);replace KT:=J<|TP.out T4 _ KT.out OK.out i;replace OK:=J<|TK.out T4 OK.out i;replace OT:=J<|TT.out T4 OT.out i;replace ON:=J<|ON.out.trans (JG (g:=g) sl (so i) w4);clear WZ;generalize w4.setCells g (so i) sl=w5 at*;have p4:L.length<=4:=JN;go_wp2_with (with_reducible refine I7 36 ?_);apply Eo;have KB:=J<|D.new w5 #[E I ((i:Int)+1)] 3;have b4:=J<|Er w5 (EJ #[E I ((i:Int)+1)] 3);replace OG:=J<|EP OG.out fun _ _ h=>D.V h b4.out;replace KT:=J<|KT.out.V b4.out;replace ON:=J<|ON.out.trans (E3.EA b4.out);clear b4;generalize w5.alloc (EJ #[E I ((i:Int)+1)] 3)=w7 at*;generalize w5.heap.size=gb at*;have lw:=ON.out.size;obtain⟨qA,qc,qw,U0,X4,Oa,-,-⟩:=dX (P:=Eb) w7 w.heap.size w.heap.size 51 51 3 II.out.choose _ 1 8 Tryz.underlying51 II.out.choose_spec.1 II.out.choose_spec.2.1 II.out.choose_spec.2.2.1 II.out.choose_spec.2.2.2 rfl A c L.length (Uu L) OG.out ⟨gb,0,X⟩ 1 1 [E I ((i:Int)+1)] O (fun j Y3 hu=>by rw[show(⟨gb,0,X⟩:Eu).add j=⟨gb,j,X⟩ from Xw];rw[D.cell KB.out,OE];exact hu) dx (fun _=>U) Ot U lw (E7 _);have ik:=vo (P:=Eb) w7 w.heap.size 51 51 3 II.out.choose _ 1 8 Tryz.underlying51 II.out.choose_spec.1 II.out.choose_spec.2.1 II.out.choose_spec.2.2.1 II.out.choose_spec.2.2.2 A c L.length (Uu L) OG.out ⟨gb,0,X⟩ 1 1 [E I ((i:Int)+1)] O (fun j Y3 hu=>by rw[show(⟨gb,0,X⟩:Eu).add j=⟨gb,j,X⟩ from Xw];rw[D.cell KB.out,OE];exact hu) dx (fun _=>U) Ot U U0;go_wp2_with ((with_reducible refine It 36 ?_);(refine Jr (Ei O) (Ua O O O U0) ?_);refine Ev.mk ?_);apply Eo;have OL:Ec (cu qw w.heap.size 3 1 (G qA (L.length+1) qc) (L.length+1) (Uu (L++[(i:Int)+1]))):=J VY;replace KT:=J<|X1 Oa KT.out Ea;replace ON:=J<|ON.out.VS (Oa.2.1 lw);clear X4 Oa U0 OG KB ik lw;go_wp2_with fail;refine⟨⟨i+1,L++[(i:Int)+1],qA,qc,_,U,Eh,by rw[IY];rfl,by rw[IY];exact OL.out,by rw[IY,List.length_singleton];have:=HL.out;omega,?_,KT.out,OK.out,OT.out,ON.out⟩,JM⟩;intro x hx;rcases XM.1 hx with hx|hx;·exact HB.out x hx
     ·rw[cF] at hx;omega
   ·obtain rfl:i=3:=U;have hl4:=HL.out;go_wp2_with fail;go_ret;exact⟨⟨L,A,c,T3,O,OG.out,U,HB.out,KT.out,OK.out,OT.out⟩,ON.out⟩
def gw(m x:Int):Bool:=decide (x< -m)||decide (m<x)
def iD(m x0 x1 x2 x3:Int):Bool:=gw m x0||(gw m x1||(gw m x2||gw m x3))
theorem Efo(m x0 x1 x2 x3:Int)(w:H)(hm:0<=m/\m<=32767): Ef Eb 136 #[E I m,EZ #[E I x0,E I x1,E I x2,E I x3]] w fun e w'=>e=Eg (EU (iD m x0 x1 x2 x3))/\El w w':=by
 have j0: ∀w,(Uj 25 (EZ #[E I x0,E I x1,E I x2,E I x3]) (E I 0)).run Eb w= .ok (E I x0) w:=fun _=>Ed;have j1: ∀w,(Uj 25 (EZ #[E I x0,E I x1,E I x2,E I x3]) (E I 1)).run Eb w= .ok (E I x1) w:=fun _=>Ed;have j2: ∀w,(Uj 25 (EZ #[E I x0,E I x1,E I x2,E I x3]) (E I 2)).run Eb w= .ok (E I x2) w:=fun _=>Ed;have j3: ∀w,(Uj 25 (EZ #[E I x0,E I x1,E I x2,E I x3]) (E I 3)).run Eb w= .ok (E I x3) w:=fun _=>Ed;go_enter Tryz.func136,Tryz.ntmps136;go_wp2_with fail;refine Ud 5 ?_;rw[Ij];cases a0:decide (x0< -m)
 ·cases b0:decide (m<x0)
  ·go_wp2_with fail;rw[Ij];cases a1:decide (x1< -m)
   ·cases b1:decide (m<x1)
    ·go_wp2_with fail;rw[Ij];cases a2:decide (x2< -m)
     ·cases b2:decide (m<x2)
      ·go_wp2_with fail;rw[Ij];cases a3:decide (x3< -m)
       ·cases b3:decide (m<x3);·go_wp2_with fail;rw[Ij];go_wp2_with fail;go_ret;exact⟨Wa,Er w _⟩
        ·go_wp2_with fail;go_ret;exact⟨Wa,Er w _⟩
       ·go_wp2_with fail;go_ret;exact⟨by simp[iD,gw,a0,b0,a1,b1,a2,b2,a3],Er w _⟩
      ·go_wp2_with fail;go_ret;exact⟨by simp[iD,gw,a0,b0,a1,b1,a2,b2],Er w _⟩
     ·go_wp2_with fail;go_ret;exact⟨by simp[iD,gw,a0,b0,a1,b1,a2],Er w _⟩
    ·go_wp2_with fail;go_ret;exact⟨by simp[iD,gw,a0,b0,a1,b1],Er w _⟩
   ·go_wp2_with fail;go_ret;exact⟨by simp[iD,gw,a0,b0,a1],Er w _⟩
  ·go_wp2_with fail;go_ret;exact⟨by simp[iD,gw,a0,b0],Er w _⟩
 ·go_wp2_with fail;go_ret;exact⟨by simp[iD,gw,a0],Er w _⟩
def nD(ms mb r:Int)(va:Bool)(x0 x1 x2 x3:Int):Int×Bool:=if(va&&iD mb x0 x1 x2 x3)=EI then(sat (max r 0) ms,decide (ms<=sat (max r 0) ms)) else(0,B)
theorem Efp{ms mb r:Int}(hs:1<=ms/\ms<=1000)(hr:0<=r/\r<=1000)(va:Bool)(x0 x1 x2 x3:Int):0<=(nD ms mb r va x0 x1 x2 x3).1/\(nD ms mb r va x0 x1 x2 x3).1<=1000:=by
 unfold nD;split;·simp only[sat];split<;>omega
 ·exact⟨Ea,Ea⟩
theorem Efq:IG Eb 25 4:=⟨⟨_,Tryz.underlying25,O⟩,Ed⟩
theorem Efr(g:Nat->Y)(ms mb:Int)(hs:g 46=E I ms)(hb:g 47=E I mb)(hs2:1<=ms/\ms<=1000)(hb2:0<=mb/\mb<=32767)(r:Int)(hr:0<=r/\r<=1000)(va gv:Bool)(x0 x1 x2 x3:Int)(w:H): Ef Eb 92 #[EZ (EG 56 g),E I r,EZ #[EU va,E I x0,E I x1,E I x2,E I x3,EU gv]] w fun e w'=>e=Eg (Et #[E I (nD ms mb r va x0 x1 x2 x3).1,EU (nD ms mb r va x0 x1 x2 x3).2])/\El w w':=by
 have Wb:=J<|fun W=>Efo mb x0 x1 x2 x3 W hb2;obtain⟨bb,hby⟩:=En (iD mb x0 x1 x2 x3);have LD:Ec (nD ms mb r va x0 x1 x2 x3=if(va&&bb)=EI then(sat (max r 0) ms,decide (ms<=sat (max r 0) ms)) else(0,B)):=J (by rw[hby];rfl);rw[<-hby] at Wb;have HR:=J hr;have HS2:=J hs2;obtain⟨pv,hpv⟩:=En (EG 56 g);have Wc:Ec (pv[46]?=Z (E I ms)):=J (by rw[hpv,<-hs];simp[EG]);have PC2:Ec (pv[47]?=Z (E I mb)):=J (by rw[hpv,<-hb];simp[EG]);rw[<-hpv];clear hpv hs hb hs2 hb2 hr hby;go_enter Tryz.func92,Tryz.ntmps92;go_wp2_with (with_reducible refine I7 9 ?_);apply Eo;generalize hW:Uz _ _=w1 at*;have KP:Ec (D w1 (w.heap.size) pv 28):=J (by subst hW;repeat (first|exact D.new _ _ _|exact D.new' _ _ _ Eh|refine D.alloc ?_ _));have KS:Ec (D w1 (w.heap.size+1) #[EU va,E I x0,E I x1,E I x2,E I x3,EU gv] 46):=J (by subst hW;repeat (first|exact D.new _ _ _|exact D.new' _ _ _ Eh|refine D.alloc ?_ _));have b1:Ec (El w w1):=J (by subst hW;(repeat (first|exact E9 _ _|(refine JQ ?_ Iv _)|(refine JR ?_ Iv _))));clear hW;obtain⟨gb,hgb⟩:=En (w.heap.size+1);obtain⟨gp,UD⟩:=En w.heap.size;rw[<-hgb] at KS⊢;rw[<-UD] at KP;rw[show w.heap.size=gp from UD.symm];clear hgb UD;have c0:w1.cell? ⟨gb,0,X⟩=Z (EU va):=(D.cell KS.out 0).trans O;have c47:w1.cell? ⟨gp,47,X⟩=Z (E I mb):=(D.cell KP.out 47).trans PC2.out;cases va with
 |false=> go_wp2_with fail;go_ret2;refine⟨?_,b1.out⟩;rw[LD.out];rfl
 |true=>
  go_wp2_with ((with_reducible refine fD 25 ?_);(with_reducible refine mh (g:=gb) (off:=1) (cs:= #[E I x0,E I x1,E I x2,E I x3]) Efq ?_ ?_ KS ?_ ?_ ?_);(·first|exact Ei rfl|(simp[I5,JO];done));(·exact⟨O,O⟩);(·rfl);(·simp));refine(Wb.out _).mono ?_;rintro e w2 ⟨rfl,b2⟩;replace KP:=EM KP b2;replace b1:=ET b1 b2;clear b2 c0 c47 KS;cases bb with
  |false=> go_wp2_with fail;go_ret2;refine⟨?_,b1.out⟩;rw[LD.out];rfl
  |true=>
   have c46:w2.cell? ⟨gp,46,X⟩=Z (E I ms):=(D.cell KP.out 46).trans Wc.out;have h1:=HR.out;have h2:=HS2.out;go_wp2_with fail;refine(tK (max r 0) ms _ U U).mono ?_;rintro e w3 ⟨rfl,rfl⟩;go_wp2_with fail;have y46: ∀y:Ext w2,(EC w2 y).cell? ⟨gp,46,X⟩=Z (E I ms):=fun y=>(D.cell (D.V KP.out (EN y)) 46).trans Wc.out;refine Zy Ed Ed ?_
   repeat (first
    |go_big_quiet_skip
    |(go_big_quiet_want
      first
       |(go_big_quiet_op
         first
          |go_big_quiet_on
          |go_big_quiet_call (fail))))
   refine I1 ?_;intro _ hw';obtain⟨y9,rfl⟩:=hw';have Em:=EN y9;replace b1:=ET b1 Em;clear y46 KP Em c46;generalize EC w2 y9=w4 at*;go_wp2_with fail;go_ret2;refine⟨?_,b1.out⟩;rw[LD.out];rfl
def Co(c c':Ey)(new:List Rec):Prop:=
 (∃L' cd,c'={c with q:=L'}/\new=[⟨7,0,c.samples,c.tok.e,cd,0⟩])
 \/(∃L' t2 hw,t2.ok/\t2.e=c.tok.e+1/\t2.o= -1/\c'={c with tok:=t2,q:=L'}/\new=[⟨8,t2.h,c.samples,t2.e,0,hw⟩])
 \/(new=[⟨6,0,c.samples,c.tok.e,0,0⟩]/\ ∃p:Pt,p.b=⟨1,0,c.samples⟩/\c'={c with pt:=p})
theorem Efv(lo hi:Nat)(g:Nat->Y)(gc gq gt gs:Nat)(c:Ey)(ns:Nat)(rs:List Rec)(w:H)(S:E5 lo hi g gc gq gt gs c ns rs w)(hn:ns<800000)(hl:rs.length<800000): Ef Eb 93 #[M (Z ⟨gs,0,X⟩)] w fun e w'=>e=Eg (Et #[])/\(∃c' m new,m<=3/\E5 lo hi g gc gq gt gs c' (ns+m) (rs++new) w'/\Co c c' new)/\Ew lo hi w w':=by
 have Zv:=fun W q=>TY lo gq c.q (pn g 48) 0 c.tok W S.core.lq q S.core.ok.q Bv;obtain⟨Ip,Ul,Xb,X7⟩: ∃Ip,c.tok.a=EZ Ip/\Ec (Ip.size=8)/\Ec (c.tok.v.toArray=Ip):=⟨_,O,J O,J O⟩;have S1:=J S;have HN:=J hn;have HL:=J hl;have MM:=J<|Ew.refl lo hi w;obtain⟨sm,hsm⟩:=En c.samples;replace hsm:=J hsm;clear S hn hl;have CA:Ec (∀W,Jn W lo gq c.q (pn g 48)->Ef Eb 137 #[EZ Ip,M (Z ⟨gq,0,X⟩),E I 0] W _):=J (fun W q=>Vk);obtain⟨PQ,hPQ⟩: ∃PQ:Array Y->Int->Prop,PQ=fun rv cd=> ∃t2:EK,t2.a=EZ rv/\rv.size=8/\rv.all (·.oneCell')=EI/\sx c.tok c.q 0 t2 cd:=⟨_,O⟩;have qI:Ec (∀(t2:EK) (rv:Array Y) (cd:Int),t2.a=EZ rv->rv.size=8->rv.all (·.oneCell')=EI->sx c.tok c.q 0 t2 cd->PQ rv cd):=J (fun t2 rv cd h1 h2 h3 h4=>By);have qJ:Ec (∀rv cd,PQ rv cd->rv.size=8/\rv.all (·.oneCell')=EI):=J (fun rv cd h=>Bz);replace hPQ:=J hPQ;clear Zv Ul;obtain⟨n0,hn0⟩:=En w.heap.size;have Xt:=J (show lo<=n0/\hi<=n0/\w.heap.size<=n0 by have:=S1.out.ct;have:=S1.out.gd;omega);go_enter Tryz.func93,Tryz.ntmps93;go_wp2_with fail;refine ip (Ph:=fun p wq=>n0<=wq.heap.size/\(match p with|0=>(E5 lo hi g gc gq gt gs c ns rs wq/\Ew lo hi w wq)|_=>(∃L':List One,E5 lo hi g gc gq gt gs {c with q:=L'} ns rs wq/\Ew lo hi w wq))) (Rel:=J0) (Is:=lX) [kp gs 0,kp gs 0,kp gs 0,kp gc 0,kp gc 0,kp gc 56,kq (EZ Ip),kp gs 0,kp gs 0,kp gs 0,kp gc 0,kp gc 0,kp gc 64,kp gq 0,.val (fun v=> ∃(rv:Array Y) (cd:Int),PQ rv cd/\v=Et #[EZ rv,E I cd]),.val (fun v=> ∃(rv:Array Y) (cd:Int),PQ rv cd/\v=Et #[EZ rv,E I cd]),.bO [15,16] (fun x=> ∃(rv:Array Y) (cd:Int),PQ rv cd/\x 15=Et #[EZ rv,E I cd]/\x 16=EZ rv) (fun x y hq h=>by simpa only[hq 15 Eh,hq 16 Eh] using h),.bO [15,17] (fun x=> ∃(rv:Array Y) (cd:Int),PQ rv cd/\x 15=Et #[EZ rv,E I cd]/\x 17=E I cd) (fun x y hq h=>by simpa only[hq 15 Eh,hq 17 Eh] using h),.dep (Z5 n0) (fun v w w' h hr=>h.V hr) (fun v w w' h hr=>h.iq hr),.tie [18,16] (fun x w=> ∃(b:Nat) (rv:Array Y),x 18=M (Z ⟨b,0,X⟩)/\x 16=EZ rv/\n0<=b/\D w b rv 109) (fun x w w' h hr=>BH) (fun x y w hq h=>by rw[hq 18 Eh,hq 16 Eh] at h;exact h),.bO [17,20] (fun x=>x 20=x 17) (fun x y hq h=>by simpa only[hq 17 Eh,hq 20 Eh] using h)] [B,B,B,B,B,B,B,B,B,B,B,B,B,B,B,B,B,B,B,EI,B] O [[],[],[],[],[],[],[],[],[],[],[],[],[],[],[],[],[15,16],[15,17],[],[18,16],[17,20]] O [14,19] [(0,0),(0,0),(0,0),(0,0),(0,0),(0,0),(0,0),(0,0),(0,0),(0,0),(0,0),(0,0),(0,0),(0,0),(0,0),(1,1),(1,1),(1,2),(0,1),(1,1),(2,2)] Ed Ed Ed Ed Ed Ed UP Ed ?hPh ?h0 ?hstep ?hend
 case hPh=>
  intro p w2 w3 h hr;match p,h with
  |0,h=>exact⟨Ez h.1 (U8 hr),h.2.1.V hr,h.2.2.trans (Ew.EA hr)⟩
  |_+1,h=> obtain⟨nn,L',s,m⟩:=h;exact⟨Ez nn (U8 hr),L',s.V hr,m.trans (Ew.EA hr)⟩
 case h0=> exact Eog
 case hstep=>
  refine⟨?_,?_,?_,?_,?_,?_,?_,?_,?_,?_,?_,?_,?_,?_,?_,?_,?_,?_,?_,?_,?_,trivial⟩;all_goals first|intro xv wq p hlo hhi hp hd|intro xv wq hp hd
  all_goals simp only[EH,Ig,Ii,Ia,Ib]
  ·exact Elk
  ·exact ElA
  ·exact Elz
  ·exact Elm
  ·exact Ely
  ·exact ElS
  ·exact Epm
  ·exact Elk
  ·exact EmU
  ·exact EmO
  ·exact ElV
  ·exact EmE
  ·exact El_
  ·exact EmK
  ·have d6:xv 6=EZ Ip:=hd.at 6 rfl;have d13:xv 13=M (Z ⟨gq,0,X⟩):=hd.at 13 rfl;refine JH (f:=137) (args:= #[xv 6,xv 13,E I 0]) (Ei O) Ex ?_;rw[d6,d13];refine(CA.out wq hp.2.1.core.ZL).mono fun e w2 h=> ?_;obtain⟨⟨t2,cd,L2,he,hf,sq,q2⟩,m2⟩:=h;obtain⟨rv,IF,hs,ho⟩:=Zt t2;exact⟨_,he,⟨m2.iq,Ez hp.1 m2.bel.size,L2,hp.2.1.gh m2 L2 q2 (hp.2.1.core.ok.sub sq),hp.2.2.trans (m2.js hi)⟩,rv,cd,qI.out t2 rv cd IF hs ho hf,congrArg (fun v=>Value.tuple #[v,E I cd]) IF⟩
  ·obtain rfl:p=1:=U;obtain⟨rv,cd,hpq,e14⟩: ∃(rv:Array Y) (cd:Int),PQ rv cd/\xv 14=Et #[EZ rv,E I cd]:=hd.at 14 rfl;exact Es (by simp[go_sem,e14]) ⟨rv,cd,hpq,O⟩
  ·obtain rfl:p=1:=U;exact EnE
  ·exact EnE
  ·exact Emk
  ·obtain⟨b,d0,eA,lb,h8,kb⟩:Z5 n0 (xv 18) wq:=hd.at 18 rfl;have nh:=Xt.out;obtain⟨rv,cd,hpq,-,e16⟩: ∃(rv:Array Y) (cd:Int),PQ rv cd/\xv 15=Et #[EZ rv,E I cd]/\xv 16=EZ rv:=hd.at 16 rfl;have hsz:=qJ.out _ _ hpq;obtain⟨nn,L',s,m⟩:=hp;refine bF ER (Ei O) ⟨O,eA,e16⟩ kb h8 hsz.1 hsz.2 ⟨sF kb hsz.1,?_⟩ ⟨b,rv,eA,e16,lb,kb.setRow _⟩;exact EoQ
  ·obtain rfl:p=2:=U;obtain⟨rv,cd,hpq,-,e17⟩: ∃(rv:Array Y) (cd:Int),PQ rv cd/\xv 15=Et #[EZ rv,E I cd]/\xv 17=E I cd:=hd.at 17 rfl;exact Es (by simp[go_sem,e17]) (e17.symm)
 case hend=>
  intro xv W6 hp hd;clear S1 MM;simp only[EH,Ig,Ii,Ia,Ib];obtain⟨rv,cd,hpq,eM,e16⟩: ∃(rv:Array Y) (cd:Int),PQ rv cd/\xv 15=Et #[EZ rv,E I cd]/\xv 16=EZ rv:=hd 16 Ea;obtain⟨b,iu,eA,eE,lb,kb⟩: ∃(b:Nat) (rv:Array Y),xv 18=M (Z ⟨b,0,X⟩)/\xv 16=EZ rv/\n0<=b/\D W6 b rv 109:=hd 19 Ea;have qO:iu=rv:=by rw[eE] at e16;injection e16
  subst qO;have a20:xv 20=E I cd:=by have h1:xv 20=xv 17:=hd 20 Ea;obtain⟨BY,Ld,-,f1,f2⟩: ∃(rv:Array Y) (cd:Int),PQ rv cd/\xv 15=Et #[EZ rv,E I cd]/\xv 17=E I cd:=hd 17 Ea;exact Em5
  obtain⟨-,L',s6,m6⟩:=hp;have S1:=J s6;have MM:=J m6;have KB:=J kb;rw[eA,a20];rw[hPQ.out] at hpq;obtain⟨t2,IF,hs,ho,hf⟩:=hpq;have Uk:=J IF;have RS:=J hs;have HF:=J hf;clear s6 m6 kb hd eA a20 CA IF hs ho hf eM eE;by_cases hcd:cd=0
  ·subst hcd
   have HT2:Ec (t2.ok/\t2.e=c.tok.e+1/\t2.o= -1):=J (by
    rcases HF.out with⟨a1,-⟩|⟨-,-,-,x,-,a2⟩;·exact absurd O a1
    ·exact⟨(gj S1.out.core.ok.tok a2).1,(gj S1.out.core.ok.tok a2).2.1,(gj S1.out.core.ok.tok a2).2.2.2⟩)
   go_wp2_with fail;have y0: ∀y:Ext W6,(EC W6 y).cell? ⟨gs,0,X⟩=Z (M (Z ⟨gc,0,X⟩)):=fun y=>(S1.out.V (EN y)).IB;have y96: ∀y:Ext W6,(EC W6 y).cell? ⟨gc,96,X⟩=Z (E I sm):=fun y=>by rw[hsm.out];exact(S1.out.V (EN y)).core.cell 7 rfl 0 Eh
   refine J_ 9 Ed Ed ?_;simp only[Iq,Io,IP,IH]
   repeat (first
    |go_big_quiet_skip
    |(go_big_quiet_want
      first
       |(refine UB (T:=109) (g:=b) ER _ rfl rfl KB ?_ ?_;(·exact RS.out);go_simp;go_big_quiet_on)
       |(go_big_quiet_op
         first
          |go_big_quiet_on
          |go_big_quiet_call (fail))))
   refine I1 ?_;intro _ hw';obtain⟨y9,rfl⟩:=hw';have Em:=EN y9;replace S1:=J<|S1.out.V Em;replace MM:=J<|MM.out.trans (Ew.EA Em);clear y0 y96 Em KB;generalize EC W6 y9=w9 at*;go_wp2_with fail;rw[<-Uk.out];refine(nr lo hi g gc gq gt gs _ ns rs t2 2 sm _ S1.out HT2.out.1 J9 JN).mono ?_;rintro e7 w7 ⟨rfl,⟨L2,m7,XP,sq,s7⟩,Xd⟩;have S8:=J s7;replace MM:=J<|MM.out.trans Xd;have ny:=J XP;clear s7 Xd sq XP;go_wp2_with fail;go_end0;refine⟨O,⟨_,m7,_,qE,S8.out,.inr (.inl ⟨L2,t2,2,HT2.out.1,HT2.out.2.1,HT2.out.2.2,O,?_⟩)⟩,MM.out⟩;rw[hsm.out]
  ·have t9:(cd !=0)=EI:=dA;have z0:=S1.out.IB;have lC:W6.cell? ⟨gc,96,X⟩=Z (E I sm):=by rw[hsm.out];exact S1.out.core.cell 7 rfl 0 Eh
   go_wp2_with fail;refine(Zp lo hi g gc gq gt gs _ ns rs 7 0 sm cd 0 _ S1.out JN).mono ?_;rintro e7 w7 ⟨rfl,s7,m7⟩;have S8:=J s7;replace MM:=J<|MM.out.trans m7;clear s7 m7 z0 lC;go_wp2_with fail;refine EV (UQ O _ _ _) O ?_;refine⟨O,⟨_,0,_,U,S8.out,.inl ⟨L',cd,O,?_⟩⟩,MM.out⟩;rw[hsm.out]
theorem Efw(lo hi:Nat)(g:Nat->Y)(gc gq gt gs:Nat)(c:Ey)(ns:Nat)(rs:List Rec)(w:H)(S:E5 lo hi g gc gq gt gs c ns rs w)(hn:ns<800000)(hl:rs.length<800000): Ef Eb 95 #[M (Z ⟨gs,0,X⟩)] w fun e w'=>e=Eg (Et #[])/\(∃c' m new,m<=3/\E5 lo hi g gc gq gt gs c' (ns+m) (rs++new) w'/\Co c c' new)/\Ew lo hi w w':=by
 have Zv:=fun W=>rq c.tok 0 W Bv;obtain⟨Ip,Ul,Xb,X7⟩: ∃Ip,c.tok.a=EZ Ip/\Ec (Ip.size=8)/\Ec (c.tok.v.toArray=Ip):=⟨_,O,J O,J O⟩;have S1:=J S;have HN:=J hn;have HL:=J hl;have MM:=J<|Ew.refl lo hi w;obtain⟨sm,hsm⟩:=En c.samples;replace hsm:=J hsm;clear S hn hl;cases hr:c.tok.Uc 0 with|mk t2 cd=>
 obtain⟨rv,IF,RS,RO⟩:=Zt t2;have RS:=J RS;have RO:=J RO;have Uk:=J IF;have HR:=J hr;have CA:Ec (∀W,Ef Eb 140 #[EZ Ip,E I 0] W fun x w'=>x=Eg (Et #[EZ rv,E I cd])/\El W w'):=J (fun W=>by have h:=Zv W;rw[hr,Ul] at h;rw[<-IF];exact h);clear hr IF Zv Ul;have z0:=S1.out.IB;obtain⟨big,KB,OV⟩:=bI S1.out.core;have KB:=J KB;have dC:Ec (big.extract 56 (56+8)=Ip):=J<|(OV 1 c.tok.v O).trans X7.out;clear OV;go_enter Tryz.func95,Tryz.ntmps95;go_wp2_with (with_reducible refine wM (off:=56) (cs:=Ip) ER KB ?_ (hn:=Xb.out) (he:=dC.out));refine(CA.out _).mono ?_;rintro e6 w6 ⟨rfl,b6⟩;replace S1:=J<|S1.out.V b6;replace MM:=J<|MM.out.trans (Ew.EA b6);clear b6 z0 KB;have K0:=J<|D.new w6 #[E I 0,E I 0,E I 0,E I 0,E I 0,E I 0,E I 0,EU B] 109;have b2:=Er w6 (EJ #[E I 0,E I 0,E I 0,E I 0,E I 0,E I 0,E I 0,EU B] 109);go_wp2_with (with_reducible first|refine wA lZ ?_|refine wS (cs:=rv) ER K0 (Ev.mk ?_) (hn:=RS.out) (h1:=RO.out));apply Eo;obtain⟨b,hgm⟩:=En w6.heap.size;rw[<-hgm] at K0⊢;generalize w6.alloc (EJ #[E I 0,E I 0,E I 0,E I 0,E I 0,E I 0,E I 0,EU B] 109)=w7 at*;have KB:=J<|K0.out.setRow rv;have b3:=E2 (g:=b) b2 (Om hgm.symm) rv;generalize w7.setRow b rv=w8 at*;clear K0 b2 hgm;replace S1:=J<|S1.out.V b3;replace MM:=J<|MM.out.trans (Ew.EA b3);clear b3;by_cases hcd:cd=0
 ·subst hcd;have HT2:=J<|gj S1.out.core.ok.tok HR.out;go_wp2_with fail;have y0: ∀y:Ext w8,(EC w8 y).cell? ⟨gs,0,X⟩=Z (M (Z ⟨gc,0,X⟩)):=fun y=>(S1.out.V (EN y)).IB;have y96: ∀y:Ext w8,(EC w8 y).cell? ⟨gc,96,X⟩=Z (E I sm):=fun y=>by rw[hsm.out];exact(S1.out.V (EN y)).core.cell 7 rfl 0 Eh
  refine J_ 9 Ed Ed ?_;simp only[Iq,Io,IP,IH]
  repeat (first
   |go_big_quiet_skip
   |(go_big_quiet_want
     first
      |(refine UB (T:=109) (g:=b) ER _ rfl rfl KB ?_ ?_;(·exact RS.out);go_simp;go_big_quiet_on)
      |(go_big_quiet_op
        first
         |go_big_quiet_on
         |go_big_quiet_call (fail))))
  refine I1 ?_;intro _ hw';obtain⟨y9,rfl⟩:=hw';have Em:=EN y9;replace S1:=J<|S1.out.V Em;replace MM:=J<|MM.out.trans (Ew.EA Em);clear y0 y96 Em KB;generalize EC w8 y9=w9 at*;go_wp2_with fail;rw[<-Uk.out];refine(nr lo hi g gc gq gt gs _ ns rs t2 4 sm _ S1.out HT2.out.1 J9 JN).mono ?_;rintro e7 w7 ⟨rfl,⟨L2,m7,XP,sq,s7⟩,Xd⟩;have S8:=J s7;replace MM:=J<|MM.out.trans Xd;have ny:=J XP;clear s7 Xd sq XP;go_wp2_with fail;go_end0;refine⟨O,⟨_,m7,_,qE,S8.out,.inr (.inl ⟨L2,t2,4,HT2.out.1,HT2.out.2.1,HT2.out.2.2.2,O,?_⟩)⟩,MM.out⟩;rw[hsm.out]
 ·have t9:(cd !=0)=EI:=dA;have z0:=S1.out.IB;have lC:w8.cell? ⟨gc,96,X⟩=Z (E I sm):=by rw[hsm.out];exact S1.out.core.cell 7 rfl 0 Eh
  go_wp2_with fail;refine(Zp lo hi g gc gq gt gs _ ns rs 7 0 sm cd 0 _ S1.out JN).mono ?_;rintro e7 w7 ⟨rfl,s7,m7⟩;have S8:=J s7;replace MM:=J<|MM.out.trans m7;clear s7 m7 z0 lC;go_wp2_with fail;refine EV (UQ O _ _ _) O ?_;refine⟨O,⟨_,0,_,U,S8.out,.inl ⟨c.q,cd,O,?_⟩⟩,MM.out⟩;rw[hsm.out]
end Go.Proofs.YtclmichaaiohjaaGreatDoor
