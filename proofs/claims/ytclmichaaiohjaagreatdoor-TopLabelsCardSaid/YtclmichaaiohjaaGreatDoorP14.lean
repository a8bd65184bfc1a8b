import Derived.Test.YtclmichaaiohjaaGreatDoorP13
import Derived.DeepKeys
import Derived.LoopTactic
set_option maxRecDepth 100000
set_option linter.unusedVariables false
set_option linter.unusedSimpArgs false
set_option maxHeartbeats 6400000
namespace Go.Proofs.YtclmichaaiohjaaGreatDoor
open RowKit
open Bool renaming true->G,false->Y
open Go renaming World->H,Calls->Ef,TypeId->Ez,Value->M,Addr->Et,Oper->EK,below_setRow->E2
open Ending renaming returned->Eg
open IntKind renaming i64->I
open Lib renaming hid->J
open Obj renaming cells->EI
open Go.Proofs.Tryz renaming prog->EJ
open Region renaming wanted->IQ
open RowKit renaming Hid->Ea
open RowKit.Below renaming refl->E6
open Value renaming bool->Eb,int->E,agg->EU,slice->u,tuple->Es,pointer->V
open List renaming length_append->IL
open Nat renaming le_trans->Ey,le_refl->E5
open Option renaming some->X,none->Z
variable{T Y3:Ez}{o:EK}{x y:Operand}{xs ys:Array M}{r:Bool}{W w w':H}{n c i:Nat}{A:Option Et}{α:Type}
def G1(p:Nat->Int)(kl:Nat->Nat)(code:Int)(sv:Array M):Prop:=
 (Ut p kl≠0/\code=Ut p kl/\sv=bv)\/(Ut p kl=0/\code=0/\ ∃(c:EA) (A:Option Et) (n d:Nat),sv=(EcK c (u A n d)).toArray/\p 55<=c.tok.e/\0<=c.tok.h/\c.tok.h<=4)
theorem EfM(p:Nat->Int)(kl:Nat->Nat)(n0 gm:Nat)(hc:Ut p kl≠0):zc n0 gm (Ut p kl) (fun W=>n0<=W.heap.size/\D W gm #[V Z,E I (Ut p kl),V Z,V Z,V Z] 84) (fun tv=>Ut p kl≠0->tv=m0) (G1 p kl (Ut p kl)):=by
 refine⟨fun W W' h hb hl=>⟨Ey h.1 hl.size,hb _ _ _ EZ h.2⟩,fun W e A d h _ _ _=> ?_,fun W h=> ?_,fun W h=>(D.cell h.2 1).trans O⟩;·refine(Eff gm _ _ _ _ _ W h.2).mono ?_;rintro en w' ⟨rfl,hb⟩;exact⟨_,O,dT Zh _ _ _ O O,Vr,fun _=>rfl,⟨Ey h.1 hb.size,h.2.B hb⟩,Jo.Eu hb h.1⟩
 ·refine(Efg gm _ _ _ _ W h.2).mono ?_;rintro en w' ⟨rfl,hb⟩;exact⟨_,O,GA,GB,.inl ⟨hc,O,O⟩,hb⟩
theorem EfN(g:Nat->M)(p:Nat->Int)(kl:Nat->Nat)(b0:Nat)(A0:Option Et)(n c0:Nat)(es:cY)(w:H)(hch:Ut p kl≠0)(hv:t_ g p kl)(hk:ud w g kl)(hR:Jc w)(hC:Uz w)(h2:2<=w.heap.size)(hn:n<=60)(hE:U3 b0 w A0 n c0 es): Ef EJ 14 #[EU (EH 56 g),u A0 n c0] w fun e w'=>(∃A c Jd sv code,e=Eg (Es #[u A n c,EU sv,E I code])/\w'.ownsRow w.heap.size 43 46 (u A n c) n (c_ Jd)/\Jd.length=n/\(∀tv∈Jd,(Ut p kl≠0->tv=m0)/\tv.size=46)/\sv.size=31/\G1 p kl code sv)/\Below w.heap.size w w':=by
 refine EfK (EH 56 g) (fun tv=>Ut p kl≠0->tv=m0) (G1 p kl) b0 A0 n c0 es w Ek hn hE fun W hb=> ?_;have hkW:ud W g kl:=fun i h1 h2=>by obtain⟨A,cap,ys,e1,e2,e3⟩:=hk i h1 h2;exact⟨A,cap,ys,e1,e2,Iq e3 hb⟩
 refine(Vp g p kl W hv hkW (hR.B hb) (hC.B hb) (Ey h2 hb.size)).mono ?_;rintro e w' ⟨hm,hb2⟩;refine⟨?_,hb2⟩;rcases hm with⟨h1,gm,rfl,hl,K⟩|⟨h1,g2,a,rfl,Y8,-⟩;·exact⟨gm,_,_,O,EfM p kl _ gm h1,Ey hb.size hb2.size,K⟩
 ·exact absurd h1 hch
theorem EfP(x0 x1 x2 x3 x4 x5 x6 x7 x8 x9 jO mg y0 y1 y2 y3 y4 y5 y6 y7 y8 y9 G2 G4:Int)(W:H): ∃r:Bool,(binOp .eql 38 (EU #[E I x0,E I x1,E I x2,E I x3,E I x4,E I x5,E I x6,E I x7,E I x8,E I x9,E I jO,E I mg]) (EU #[E I y0,E I y1,E I y2,E I y3,E I y4,E I y5,E I y6,E I y7,E I y8,E I y9,E I G2,E I G4])).run EJ W= .ok (Eb r) W/\((x0=y0/\x1=y1/\x2=y2/\x3=y3/\x4=y4/\x5=y5/\x6=y6/\x7=y7/\x8=y8/\x9=y9/\jO=G2/\mg=G4)->r=G):=by
 have h2:(Op.equalIn (9999) 25 (EU #[E I x2,E I x3,E I x4,E I x5]) (EU #[E I y2,E I y3,E I y4,E I y5])).run EJ W= .ok (decide (x2=y2/\x3=y3/\x4=y4/\x5=y5)) W:=M8 _ _ _ _ _ _ _ _ _ W;by_cases e0:x0=y0
 ·by_cases e1:x1=y1
  ·by_cases e2:x2=y2/\x3=y3/\x4=y4/\x5=y5
   ·by_cases e6:x6=y6
    ·by_cases e7:x7=y7
     ·by_cases e8:x8=y8
      ·by_cases e9:x9=y9
       ·by_cases e10:jO=G2
        ·by_cases e11:mg=G4;·refine⟨G,?_,fun _=>rfl⟩;rw[Ia e2] at h2;simp[go_sem,e0,e1,h2,e6,e7,e8,e9,e10,e11]
         ·refine⟨Y,?_,fun h=>absurd (h.2.2.2.2.2.2.2.2.2.2.2) e11⟩;rw[Ia e2] at h2;simp[go_sem,e0,e1,h2,e6,e7,e8,e9,e10,e11]
        ·refine⟨Y,?_,fun h=>absurd (h.2.2.2.2.2.2.2.2.2.2.1) e10⟩;rw[Ia e2] at h2;simp[go_sem,e0,e1,h2,e6,e7,e8,e9,e10]
       ·refine⟨Y,?_,fun h=>absurd (h.2.2.2.2.2.2.2.2.2.1) e9⟩;rw[Ia e2] at h2;simp[go_sem,e0,e1,h2,e6,e7,e8,e9]
      ·refine⟨Y,?_,fun h=>absurd (h.2.2.2.2.2.2.2.2.1) e8⟩;rw[Ia e2] at h2;simp[go_sem,e0,e1,h2,e6,e7,e8]
     ·refine⟨Y,?_,fun h=>absurd (h.2.2.2.2.2.2.2.1) e7⟩;rw[Ia e2] at h2;simp[go_sem,e0,e1,h2,e6,e7]
    ·refine⟨Y,?_,fun h=>absurd (h.2.2.2.2.2.2.1) e6⟩;rw[Ia e2] at h2;simp[go_sem,e0,e1,h2,e6]
   ·refine⟨Y,?_,fun h=>absurd (⟨h.2.2.1,h.2.2.2.1,h.2.2.2.2.1,h.2.2.2.2.2.1⟩) e2⟩;rw[E9 e2] at h2;simp[go_sem,e0,e1,h2]
  ·refine⟨Y,?_,fun h=>absurd (h.2.1) e1⟩;simp[go_sem,e0,e1]
 ·refine⟨Y,?_,fun h=>absurd (h.1) e0⟩;simp[go_sem,e0]
section
variable{P:Program}{ops:Array Oper}{Q:Exit->Act->World->Prop}{w:World}{rest:List Oper}
theorem EfQ(ho:o.op= .binOp .eql T x y Y3)(hm:P.eqGuardType P.depth T=Y)(hq:(binOp .eql T (EU xs) (EU ys)).run P w= .ok (Eb r) w)(ev:Operand->M)(h1:ev x=EU xs)(h2:ev y=EU ys):(execOp ev o).run P w= .ok (.value (Eb r)) w:=by unfold execOp;simp only[ho,h1,h2,Sem.run_bind,run_eqGuard_agg _ _ _ _ _ _ _ hm,Result.andThen_ok,hq,Sem.run_pure]
end
theorem VS:ID EJ 36 3:=⟨⟨_,Tryz.underlying36,O⟩,Ec⟩
section
variable{P:Program}{a:Act}{o:Oper}{C:World->Prop}{K:Act->Prop}
theorem EfR(ho:o.op= .binOp .eql T x y Y3)(hm:P.eqGuardType P.depth T=Y)(hq: ∀W,(binOp .eql T (EU xs) (EU ys)).run P W= .ok (Eb r) W)(h1:a.eval x=EU xs)(h2:a.eval y=EU ys)(hk:K (a.put o.dst (Eb r))):o.quiet P a C K:=by refine⟨_,fun w hw=> ?_,hk⟩;have:=EfQ (w:=w) ho hm (hq w) a.eval h1 h2;unfold Oper.quietAt;rw[this];first|exact⟨rfl,rfl⟩|rfl
end
theorem EfS{l:List Int}(hl:l.length=12)(W:H):(binOp .eql 38 (EU (l.map (E .i64)).toArray) (EU (l.map (E .i64)).toArray)).run EJ W= .ok (Eb G) W:=by
 match l,hl with
 |[x0,x1,x2,x3,x4,x5,x6,x7,x8,x9,jO,mg],_=> obtain⟨r,h1,h2⟩:=EfP x0 x1 x2 x3 x4 x5 x6 x7 x8 x9 jO mg x0 x1 x2 x3 x4 x5 x6 x7 x8 x9 jO mg W;rw[h2 ⟨O,O,O,O,O,O,O,O,O,O,O,O⟩] at h1;exact h1
theorem EfT(W:H):(binOp .eql 38 (EU Zh.toArray) (EU Zh.toArray)).run EJ W= .ok (Eb G) W:=EfS (l:=[4,1,0,0,0,0,2,4,0,2,4,0]) O W
def um:JE:=⟨3,0,[],Y,0,0,0,0,Y,Y⟩
theorem EfV:Tryz.prog.built 28 []=X cV:=Ec
theorem EfW:Tryz.prog.built 48 [(0,E I 3)]=X (um.cells Z 0).toArray:=Ec
theorem EfY{P:Program}{a:Act}{K:Act->Prop}{g off:Nat}{cs:List M}(hT:ID P T n)(x:Operand)(ho:o.op= .load T x)(hx:a.eval x=V (X ⟨g,off,Z⟩))(hg:Ea (W.rangeAt g off cs))(hn:cs.length=n) (hk:K (a.put o.dst (EU cs.toArray))):o.quiet P a (fun w'=> ∃x,w'=Ex W x) K:=by
 obtain⟨⟨d,hu,hd⟩,hi⟩:=hT;refine⟨_,fun w hw=> ?_,hk⟩;obtain⟨y,rfl⟩:=hw;have hr:(Ex W y).rangeAt g off cs:=fun j v hj=>by have h:=hg.out j v hj;rw[(EC y).cell (World.block_lt_of_cell? _ _ h)];exact h
 have hrun:=run_loadVar_mid (Ex W y) g off T cs d hr hu kf bG;unfold Oper.quietAt execOp;exact EjK
theorem Ef0(Jd:List (Array M)): ∀(i j:Nat),(∀tv∈Jd,tv.size=46)->j<46-> ∀tv,Jd[i]?=X tv->(c_ Jd)[i*46+j]?=tv[j]?:=by
 induction Jd with
 |nil=>intro i j _ _ x h;simp at h
 |cons y t ih=>
  intro i j hs hj x h;have hy:y.toList.length=46:=by rw[Array.length_toList];exact hs y (List.mem_cons_self ..)
  rw[c_,List.flatMap_cons];match i,h with
  |0,h=> simp only[List.getElem?_cons_zero,Option.some.injEq] at h;subst h;rw[List.getElem?_append_left (by rw[hy];omega),Nat.zero_mul,Nat.zero_add,Array.getElem?_toList]
  |i+1,h=> rw[List.getElem?_append_right (by rw[hy];omega),hy,show(i+1)*46+j-46=i*46+j from U];exact ih i j (fun tv ht=>hs tv (List.mem_cons_of_mem _ ht)) hj x Ou
theorem Ef1{b:Nat}{Jd:List (Array M)}(h:w.ownsRow b 43 46 (u A n c) n (c_ Jd))(hl:Jd.length=n)(hs: ∀tv∈Jd,tv.size=46)(hi:i<n): ∃g tv,A=X ⟨g,0,Z⟩/\tv∈Jd/\ ∀j,j<46->w.cell? ⟨g,i*46+j,Z⟩=tv[j]?:=by
 obtain⟨tv,hx⟩: ∃tv,Jd[i]?=X tv:=⟨_,List.getElem?_eq_getElem U⟩;rcases h.2 with⟨-,h0⟩|⟨g,cap,cur,hv,-,hh,hc,hrest⟩;·omega
 ·injection hv with e1 e2 e3;subst e1 e3;exact⟨g,tv,O,List.mem_of_getElem? hx,fun j hj=>by rw[h.cellAt (i*46+j) U,Ef0 Jd i j hs hj tv hx]⟩
theorem Ef2(w:H)(hR:Jc w)(hC:Uz w)(h2:2<=w.heap.size): Ef EJ 8 #[] w fun e w'=>e=Eg (Eb G)/\Below w.heap.size w w':=by
 have za:=J (show∃ie z,Tryz.prog.info? 48=X ie/\ie.zero=X z/\ie.size=10 from VA);obtain⟨ev,hev⟩:=En ((um.cells Z 0).toArray);obtain⟨pz,hpz⟩:=En cV;have BP:=J EfV;have BE:=J EfW;rw[<-hev] at BE;rw[<-hpz] at BP;have ES:Ea (ev.size=10):=J (by rw[hev];rfl);have b1:=Eo w (EI ev 48)
 have hE:U3 0 (w.alloc (EI ev 48)) (X ⟨w.heap.size,0,Z⟩) 1 1 [(um,Z,0)]:=⟨by
  have:=World.ownsRow_lit (base:=0) (e:=48) (size:=10) w ev 1 (Nat.zero_le _) Ob (by rw[ES.out]);rw[hev] at this⊢;exact this,O,fun x hx=>by
  rw[List.mem_singleton.1 hx];exact⟨⟨zn,zn,zn,zn⟩,by simp[um],XJ _ _⟩⟩
 have RA:=J<|EfN (fun i=>if 5<=i/\i<=8 then .slice Z 0 0 else E I 0) (fun _=>0) (fun _=>0) 0 _ 1 1 _ _ EZ ⟨fun i h1 h2=>⟨if_neg U,jz⟩,fun i h1 h2=>⟨Z,0,if_pos ⟨h1,h2⟩⟩⟩ (fun i h1 h2=>⟨Z,0,[],if_pos ⟨h1,h2⟩,O,j8 _ _⟩) (hR.B b1) (hC.B b1) (Ey h2 b1.size) U hE;have BB:=J b1;rw[show EH 56 (fun i=>if 5<=i/\i<=8 then Value.slice Z 0 0 else E I 0)=pz by rw[hpz];rfl] at RA;have CH:Ut (fun _=>0) (fun _=>0)=40:=EZ;clear hE hR hC h2 b1 hpz hev;go_enter Tryz.func8,Tryz.ntmps8;go_wp2_with (first|((with_reducible refine In 5 ?_);refine IP rfl 28 _ rfl pz BP.out ?_)|((with_reducible refine In 6 ?_);refine IP rfl 48 _ rfl ev BE.out ?_)|((with_reducible refine In 7 ?_);(refine GK rfl 29 48 _ 10 ev rfl rfl ES.out Tryz.underlying29 za.out U U ?_)));(with_reducible refine RA.out.mono ?_);rintro e w3 ⟨⟨A,c,Jd,sv,code,rfl,own,tl,G5,sz,ps⟩,b3⟩
 obtain⟨rfl,rfl⟩:code=40/\sv=bv:=by
  rcases ps with⟨_,h1,h2⟩|⟨h1,_⟩;·exact⟨by rw[h1,CH],h2⟩
  ·rw[CH] at h1;cases h1
 obtain⟨g,tv,rfl,hm,hc⟩:=Ef1 own tl (fun tv h=>(G5 tv h).2) (i:=0) U;obtain rfl:=(G5 tv hm).1 (by rw[CH];decide)
 have VT:Ea (w3.rangeAt g 0 Zh):=J (by
  intro j v hj
  have hjl:j<12:=by
   rcases Nat.lt_or_ge j 12 with h|h;·exact h
   ·rw[List.getElem?_eq_none (by simp[Zh];omega)] at hj;cases hj
  have h2:=hc j U;rw[Nat.zero_mul] at h2;rw[h2,m0,I7,List.getElem?_toArray,List.getElem?_append_left (by simp[Zh];omega)];exact hj)
 have B3:=ET BB b3;clear own tl G5 sz ps hm hc b3 RA CH za BB BP BE;obtain⟨zs,hzs⟩:=En bv;have ZS:Ea (zs.size=31):=J VH;have ZO:Ea (zs.all (·.oneCell')=G):=J (by rw[hzs];exact GB);have ZT:Ea (Og EJ 54 zs):=J (by rw[hzs];exact FG);rw[<-hzs];clear hzs;have KS:=J<|D.new w3 zs 54;go_wp2_with (with_reducible first|refine wA ZT.out ?_|refine wS (cs:=zs) tF KS (Ed.mk ?_) (ho:=ZS.out) (hn:=ZS.out) (h1:=ZO.out));refine Ed.in ?_;have B4:=J<|E2 (g:=w3.heap.size) (Eo w3 (EI zs 54)) (E5 _) zs;have VV:Ea (((w3.alloc (EI zs 54)).setRow w3.heap.size zs).rangeAt g 0 Zh):=J fun j v hj=>by have h:=VT.out j v hj;rw[B4.out.cell (World.block_lt_of_cell? _ _ h)];exact h
 have B5:=ET B3 B4.out;clear VT B3 B4 KS;generalize (w3.alloc (EI zs 54)).setRow w3.heap.size zs=w4 at*;have FL:Ea (Zh.length=12):=J O;have FA:=J<|fun W=>Vq W;have FQ:=J EfT;obtain⟨fx,hfx⟩:=En Zh;rw[<-hfx] at VV FL FA FQ;clear hfx;go_wp2_with fail;refine Uv Ec Ec ?_
 repeat (first
  |go_big_quiet_skip
  |(go_big_quiet_want
    first
     |(refine EfY (T:=38) (g:=g) (off:=0) tS _ rfl rfl VV ?_ ?_;(·exact FL.out);go_simp;go_big_quiet_on)
     |(refine EfR rfl Ec FQ.out rfl rfl ?_;go_simp;go_big_quiet_on)
     |(go_big_quiet_op
       first
        |go_big_quiet_on
        |go_big_quiet_call (with_reducible refine X6 (FA.out _)))))
 refine wpQuiet_nil ?_;intro _ hw';obtain⟨y9,rfl⟩:=hw';have El:=EC y9;generalize Ex w4 y9=w5 at*;go_wp2_with fail;go_ret;exact⟨O,bt B5.out El⟩
theorem Ef3(l:List Rec)(i:Nat)(x:Rec)(h:l[i]?=X x)(j:Nat)(hj:j<6):(J1 l)[i*6+j]?=x.v[j]?:=by
 induction l generalizing i with
 |nil=>simp at h
 |cons y r ih=>
  cases i with
  |zero=> obtain rfl:y=x:=Ou;rw[J1,List.flatMap_cons,Nat.zero_mul,Nat.zero_add,List.getElem?_append_left wY]
  |succ i=> rw[J1,List.flatMap_cons,List.getElem?_append_right wY];rw[show(i+1)*6+j-y.v.length=i*6+j from wY];exact ih i Ou
theorem Ef4{base:Nat}{l:List Rec}{x:Rec}(h:W.ownsRow base 58 6 (u A n c) n (J1 l))(hx:l[i]?=X x): ∃g,A=X ⟨g,0,Z⟩/\n<=c/\c<=9223372036854775807/\W.cell? ⟨g,i*6,Z⟩=X (E I x.k)/\W.cell? ⟨g,i*6+1,Z⟩=X (E I x.s)/\W.cell? ⟨g,i*6+2,Z⟩=X (E I x.q):=by
 have hi:=(List.getElem?_eq_some_iff.1 hx).1;have h0:=h;rcases h.2 with⟨hv,h1⟩|⟨g,cap',cur,hv,hg,hh,hl,hm,hs,ht⟩;·have:=h.1;rw[uM,h1] at this;omega
 ·injection hv with h1 h2 h3;subst h1;subst h3;have e:=fun j hj=>Ef3 l i x hx j hj;have cl: ∀j Y3,(J1 l)[j]?=X Y3->W.cell? ⟨g,j,Z⟩=X Y3:=fun j Y3 hu=>by have:=h0.cells (g:=g) O j Y3 hu;rwa [show(⟨g,0,Z⟩:Et).add j=⟨g,j,Z⟩ from U4] at this
  exact⟨g,O,hl,Tg,cl (i*6) _ ((e 0 U).trans O),cl (i*6+1) _ ((e 1 U).trans O),cl (i*6+2) _ ((e 2 U).trans O)⟩
theorem G6(p:α->Bool)(l:List α)(i:Nat)(x:α)(h:l[i]?=X x):(l.take (i+1)).any p=((l.take i).any p||p x):=by rw[List.take_add_one,h];simp
theorem Ef5(p:α->Bool)(l:List α)(i:Nat)(x:α)(h:l[i]?=X x)(hp:p x=G):l.any p=G:=List.any_eq_true.2 ⟨x,List.mem_of_getElem? h,hp⟩
def un(b:Oa)(x:Rec):Bool:=decide (x.k=6)&&decide (x.s=b.s)&&decide (x.q=b.q)
theorem Ef6(all:List Rec)(b:Oa)(h1: ¬(b.s=4/\b.q=0))(h2: ¬(b.r≠1/\b.r≠4)):UQ all b=all.any (un b):=by unfold UQ;rw[if_neg h1,if_neg h2];rfl
theorem Ef7(Y6:M)(all:List Rec)(b:Oa)(w:H)(h:b.s=4/\b.q=0): Ef EJ 20 #[Y6,EU b.v.toArray] w fun e w'=>e=Eg (Eb (UQ all b))/\Below w.heap.size w w':=by
 obtain⟨r,s,q⟩:=b;obtain⟨rfl,rfl⟩:s=4/\q=0:=h;obtain⟨bo,U2⟩:=En (UQ all ⟨r,4,0⟩);rw[<-U2];have e:bo=decide (r=2\/r=3\/r=4):=by rw[U2];rfl
 clear U2;have b1:=Eo w (EI #[E I r,E I 4,E I 0] 36);show Ef EJ 20 #[Y6,EU #[E I r,E I 4,E I 0]] w _;by_cases h2:r=2;·subst h2;obtain rfl:bo=G:=e;exact EjP
 ·by_cases h3:r=3;·subst h3;obtain rfl:bo=G:=e;go_enter Tryz.func20,Tryz.ntmps20;go_wp2_with fail;go_ret;exact⟨O,b1⟩
  ·have t2:(r==2)=Y:=by simpa using h2
   have t3:(r==3)=Y:=uo;have t4:(r==4)=bo:=by rw[e];by_cases h4:r=4<;>simp[h2,h3,h4]
   clear e h2 h3;exact EjP
theorem Ef8(Y6:M)(all:List Rec)(b:Oa)(w:H)(h: ¬(b.s=4/\b.q=0))(hr:b.r≠1/\b.r≠4): Ef EJ 20 #[Y6,EU b.v.toArray] w fun e w'=>e=Eg (Eb (UQ all b))/\Below w.heap.size w w':=by
 obtain⟨r,s,q⟩:=b;have e:UQ all ⟨r,s,q⟩=Y:=by unfold UQ;rw[if_neg h,if_pos hr]
 rw[e];have t1:(r !=1)=G:=by simpa using hr.1
 have t4:(r !=4)=G:=by simpa using hr.2
 have b1:=Eo w (EI #[E I r,E I s,E I q] 36);show Ef EJ 20 #[Y6,EU #[E I r,E I s,E I q]] w _;by_cases h3:s=4
 ·have h4: ¬q=0:=fun h4=>h ⟨h3,h4⟩;have t2:(s==4)=G:=uo;have t3:(q==0)=Y:=by simpa using h4
  clear e h hr h3 h4;exact EjP
 ·have t2:(s==4)=Y:=uo;clear e h hr h3;exact EjP
theorem Ef9(base:Nat)(A:Option Et)(n c:Nat)(all:List Rec)(b:Oa)(w:H)(hn:all.length=n)(hR:w.ownsRow base 58 6 (u A n c) n (J1 all))(h: ¬(b.s=4/\b.q=0))(hr:b.r=1\/b.r=4)(hc:n<=1000000): Ef EJ 20 #[u A n c,EU b.v.toArray] w fun e w'=>e=Eg (Eb (UQ all b))/\Below w.heap.size w w':=by
 obtain⟨r,s,q⟩:=b;have e:=Ef6 all ⟨r,s,q⟩ h (fun⟨a1,a2⟩=>hr.elim a1 a2);rw[e];obtain⟨bo,U2⟩:=En (all.any (un ⟨r,s,q⟩));rw[<-U2];have yM:=J U2;have HR:=J hR;have HN:=J hn;have HC:=J hc;have K1:=J<|D.new w #[E I r,E I s,E I q] 36;have B1:=J<|Eo w (EI #[E I r,E I s,E I q] 36);have t1:(r !=1&&r !=4)=Y:=by rcases hr with h|h<;>simp at h<;>subst h<;>rfl
 clear U2 hR hn hc e;show Ef EJ 20 #[u A n c,EU #[E I r,E I s,E I q]] w _
 have key:(s==4)=Y\/((s==4)=G/\(q==0)=Y):=by
  by_cases h3:s=4;·exact .inr ⟨uo,by have h4: ¬q=0:=fun h4=>h ⟨h3,h4⟩;simpa using h4⟩
  ·exact .inl uo
 have kr:(r !=1)=Y\/((r !=1)=G/\(r !=4)=Y):=by
  rcases hr with h|h;·exact .inl (by simp at h;subst h;rfl)
  ·simp at h;subst h;exact .inr ⟨O,O⟩
 clear h hr t1;go_enter Tryz.func20,Tryz.ntmps20;rcases key with t2|⟨t2,t3⟩
 all_goals
  rcases kr with t4|⟨t4,t5⟩
 all_goals
  go_wp2_with fail
  go_loopw[5] (fun Y3 wr=> ∃i:Nat,Y3=E I i/\i<=n/\(all.take i).any (un ⟨r,s,q⟩)=Y/\Below w.heap.size w wr/\D wr w.heap.size #[E I r,E I s,E I q] 36) (fun Y3 _=>n-(intOf Y3).toNat)
  case atStart=>exact⟨0,O,Nat.zero_le _,O,B1.out,K1.out⟩
  case round=>
   obtain⟨i,rfl,hin,hno,BB,KL⟩:=hrel;replace BB:=J BB;replace KL:=J KL;have lS:=J hno;clear hno;by_cases hlt:i<n
   ·have t8:decide ((i:Int)<(n:Int))=G:=Ia U;obtain⟨x,hx⟩: ∃x,all[i]?=X x:=⟨_,List.getElem?_eq_getElem gH⟩;obtain⟨ga,rfl,h1,h2,c0,c1,c2⟩:=Ef4 HR.out hx;have lg: ∀j Y3,w.cell? ⟨ga,j,Z⟩=X Y3->wr.cell? ⟨ga,j,Z⟩=X Y3:=fun j Y3 h=>(BB.out.cell (p:=⟨ga,j,Z⟩) (World.block_lt_of_cell? _ _ h)).trans h;replace c0:=lg _ _ c0;replace c1:=lg _ _ c1;replace c2:=lg _ _ c2;have k0:wr.cell? ⟨w.heap.size,0,Z⟩=X (E I r):=(D.cell KL.out 0).trans O;have k1:wr.cell? ⟨w.heap.size,1,Z⟩=X (E I s):=(D.cell KL.out 1).trans O;have k2:wr.cell? ⟨w.heap.size,2,Z⟩=X (E I q):=(D.cell KL.out 2).trans O;have HX:=J hx;have HB:=J<|show un ⟨r,s,q⟩ x=((x.k==6)&&(x.s==s)&&(x.q==q)) from rfl;clear lg hx;have fin: ∀hit:Bool,((x.k==6)=G/\(x.s==s)=G/\(x.q==q)=G/\hit=G)\/(((x.k==6)=Y\/((x.k==6)=G/\(x.s==s)=Y)\/((x.k==6)=G/\(x.s==s)=G/\(x.q==q)=Y))/\hit=Y)->un ⟨r,s,q⟩ x=hit:=fun hit h=>by rw[HB.out];rcases h with⟨a1,a2,a3,rfl⟩|⟨a1|⟨a1,a2⟩|⟨a1,a2,a3⟩,rfl⟩<;>simp[*]
    have FIN:=J fin;clear fin;rcases hk:(x.k==6) with _|_
    ·go_wp2_with fail;go_quiet (fail);go_wp2_with fail;go_roundw;case rel=>exact⟨i+1,O,U,by rw[G6 _ _ _ _ HX.out,lS.out,FIN.out Y (.inr ⟨.inl hk,O⟩)];rfl,aQ BB.out _,KL.out.drewN _⟩
     case measure=> exact Emx
    ·rcases hs:(x.s==s) with _|_
     ·go_wp2_with fail;go_quiet (fail);go_wp2_with fail;go_roundw;case rel=>exact⟨i+1,O,U,by rw[G6 _ _ _ _ HX.out,lS.out,FIN.out Y (.inr ⟨.inr (.inl ⟨hk,hs⟩),O⟩)];rfl,aQ BB.out _,KL.out.drewN _⟩
      case measure=> exact Emx
     ·rcases hq:(x.q==q) with _|_
      ·go_wp2_with fail;go_quiet (fail);go_wp2_with fail;go_roundw;case rel=>exact⟨i+1,O,U,by rw[G6 _ _ _ _ HX.out,lS.out,FIN.out Y (.inr ⟨.inr (.inr ⟨hk,hs,hq⟩),O⟩)];rfl,aQ BB.out _,KL.out.drewN _⟩
       case measure=> exact Emx
      ·go_wp2_with fail;go_quiet (fail);go_wp2_with fail;go_ret;refine⟨show Ending.returned (Eb G)=Eg (Eb bo) from ?_,aQ BB.out _⟩;rw[yM.out,Ef5 _ _ _ _ HX.out (FIN.out G (.inl ⟨hk,hs,hq,O⟩))]
   ·have t8:decide ((i:Int)<(n:Int))=Y:=E9 U;go_wp2_with fail;go_ret;refine⟨show Ending.returned (Eb Y)=Eg (Eb bo) from ?_,BB.out⟩;have e:all.take i=all:=List.take_of_length_le ky;rw[yM.out,<-e,lS.out]
theorem VW(h:Uz w):2<=w.heap.size:=World.block_lt_of_cell? _ _ (h 0 U)
theorem nB.B{f:Nat->M}(h:nB w f)(hb:Below w.heap.size w w'):nB w' f:=
 ⟨h.int,fun i h1 h2=>by obtain⟨A,xs,cap,e,l1,l2,r,x⟩:=h.key i h1 h2;exact⟨A,xs,cap,e,l1,l2,Iq r hb,x⟩⟩
theorem pb.B{v:M}(h:pb w v)(hb:Below w.heap.size w w'):pb w' v:=by obtain⟨A,l,c,rfl,h⟩:=h;refine⟨A,l,c,O,h.imp id fun⟨b,off,e,h⟩=>⟨b,off,e,fun i hi=> ?_⟩⟩;obtain⟨e,a,d,h1,h2⟩:=h i hi;refine⟨e,a,d,h1.B hb,fun j hj=> ?_⟩;have h3:=h2 j hj;obtain⟨v,hv⟩: ∃v,(e.cells a d)[j]?=X v:=⟨_,List.getElem?_eq_getElem (by rw[JE.pD];exact hj)⟩;rw[hv] at h3⊢;rw[hb.cell (World.block_lt_of_cell? _ _ h3)];exact h3
theorem U3.Ef_{lo b0:Nat}{W':H}{es:cY}(h:U3 b0 W A n c es)(m:Jo lo W.heap.size W W'):U3 b0 W' A n c es:=
 h.keep fun S hS k cs hk=>m.Em k cs S hk.lt iP iP hk
theorem EgE(base:Nat)(A:Option Et)(n c:Nat)(all:List Rec)(b:Oa)(w:H)(hn:all.length=n)(hR:w.ownsRow base 58 6 (u A n c) n (J1 all))(hc:n<=1000000): Ef EJ 20 #[u A n c,EU b.v.toArray] w fun e w'=>e=Eg (Eb (UQ all b))/\Below w.heap.size w w':=by
 by_cases h:b.s=4/\b.q=0;·exact Ef7 _ all b w h
 ·by_cases hr:b.r=1\/b.r=4;·exact Ef9 base A n c all b w hn hR h hr hc
  ·exact Ef8 _ all b w h ⟨fun e=>hr (.inl e),fun e=>hr (.inr e)⟩
theorem walk_TopLabels(v0 v1:M)(w:H)(hR:Jc w)(hC:Uz w)(q0:Ls w v0)(q1:pb w v1): Ef EJ 7 #[v0,v1] w fun e w'=>e=Eg (Eb G)/\Below w.heap.size w w':=by
 obtain⟨f,rfl,hp⟩:=q0;have RT:=J<|And.intro hR hC;have HQ:=J q1;have HP:=J hp;obtain⟨n0,hn0⟩:=En w.heap.size;obtain⟨fv,Ox⟩:=En (EH 56 f);rw[<-Ox,<-hn0];have HFV:=J Ox;have HN:=J hn0;have FSq:Ea (fv.size=56):=J (by rw[Ox];simp);have ZS:Ea (cV.size=56):=J (by simp[cV]);have SH:=J Ef2;clear hR hC q1 hp Ox hn0;go_enter Tryz.func7,Tryz.ntmps7;go_wp2_with fail;have K0:=J<|D.new w fv 28;have b1:=Eo w (EI fv 28);(with_reducible refine(SH.out _ (RT.out.1.B b1) (RT.out.2.B b1) (VW (RT.out.2.B b1))).mono ?_);rintro e w2 ⟨rfl,b2⟩;have B2:=J<|bt b1 b2;have KP:=J<|K0.out.B b2;clear K0 b1 b2 SH;go_wp2_with ((with_reducible refine UB 28 ?_);(with_reducible refine XP (g:=w.heap.size) UZ ?_ ?_ KP ?_ ?_);(·exact Ei O);(·exact⟨O,O⟩);(·exact FSq.out));rw[HFV.out];(with_reducible refine(Efq f w2 (HP.out.B B2.out) (RT.out.1.B B2.out) (RT.out.2.B B2.out) (VW (RT.out.2.B B2.out))).mono ?_);rintro e w3 ⟨⟨g,v,rfl,hf,g2,a,rfl,Y8,-⟩,b3⟩;obtain⟨nb,hnb⟩:=En w2.heap.size;rw[<-hnb] at Y8;have MM:=J Y8;have nJ:=J (show n0<=nb by have:=B2.out.size;have:=HN.out;omega);have BB:Ea (Below n0 w w3):=J (by rw[HN.out];exact bt B2.out b3);have S3:=J (show nb<=w3.heap.size by have:=b3.size;omega)
 have GO:Ea ((EH 56 g).all (·.oneCell')=G):=J (Vs g (fun i hi=>by
  have FP:=GC hf;by_cases h5:i<5\/8<i;·rw[(FP.1.int i hi h5).1];rfl
  ·obtain⟨A,c,e⟩:=FP.1.key i U U;rw[e];rfl))
 have GS:Ea ((EH 56 g).size=56):=J Ek;clear hnb Y8 b3 KP hf B2;generalize EH 56 g=gv at*;go_wp2_with ((with_reducible show wpList _ _ _ (⟨_,.alloc 28,_,_,_,Z⟩::_) _ _);(with_reducible refine zR GD ?_ ?_ ?_);(·exact Ei O);(·rfl);refine Ed.mk ?_);refine Ed.in ?_;have KR:=J<|D.new w3 cV 28;have b4:=Eo w3 (EI cV 28);generalize hpz:cV=pz at*;clear hpz;generalize hgr:w3.heap.size=gr at*;have gj:=J hgr;generalize w3.alloc (EI pz 28)=w4 at*;go_wp2_with ((with_reducible refine JI 28 ?_);(with_reducible refine X7 (g:=gr) (cs:=gv) UZ ?_ ?_ KR ?_ ?_ ?_ ?_);(·exact Ei O);(·exact⟨O,O,O⟩);(·exact ZS.out);(·exact GS.out);(·exact GO.out);refine Ed.mk ?_);refine Ed.in ?_;have b5:=E2 (g:=gr) b4 U gv;replace b5:Below w3.heap.size w3 (w4.setRow gr gv):=b5
 replace MM:=J<|MM.out.B b5;replace BB:=J<|BB.out.trans (b5.mono (by have:=gj.out;have:=S3.out;have:=nJ.out;omega));replace S3:=J (show nb<=(w4.setRow gr gv).heap.size by have:=b5.size;have:=S3.out;have:=gj.out;omega);clear b4 b5 KR hgr gj;generalize w4.setRow gr gv=w5 at*;go_wp2_with fail;have b5:=Eo w5 (EI #[] 58);have jD:Ea ((w5.alloc (EI #[] 58)).ownsRow nb 58 6 (u (X ⟨w5.heap.size,0,Z⟩) 0 0) 0 (J1 [])):=J<|World.ownsRow_lit w5 #[] 0 S3.out Ob O;(with_reducible refine(Efx v1 _ (HQ.out.B (by have:=BB.out.trans (b5.mono (Ey nJ.out S3.out));rw[HN.out] at this;exact this))).mono ?_);rintro e w6 ⟨⟨Ae,n,ce,es,rfl,Ehk,hev⟩,b6⟩;have EE:=J hev;replace MM:=J<|MM.out.B (bt b5 b6);have RW:=J<|EW jD.out fun _ _ hk=>D.B hk b6;replace BB:=J<|BB.out.trans ((bt b5 b6).mono (Ey nJ.out S3.out));have LI:Ea (Ot [] (c0 (XI g))):=J ⟨O,(by show(2:Int)≠4;decide),O⟩;clear hev b5 b6 jD S3 HQ HP RT;generalize (w5.alloc (EI #[] 58)).heap.size=b0 at*;go_wp2_with fail;go_loopw[8,10] (fun z y wr=> ∃(i na ca:Nat) (Aa:Option Et) (all:List Rec) (c:EA) (rs:Int->List Int),i<=n/\y=E I i/\z=u Aa na ca/\all.length=na/\na<=i*5000/\wr.ownsRow nb 58 6 (u Aa na ca) na (J1 all)/\Ot all c/\Jl nb g2 a c rs wr/\U3 b0 wr Ae n ce es/\Below n0 w wr) (fun _ y _=>n-(intOf y).toNat);case atStart=>exact⟨0,0,0,_,[],_,_,U,O,O,O,U,RW.out,LI.out,MM.out,EE.out,BB.out⟩
 case round=>
  clear MM EE RW BB LI;obtain⟨i,na,ca,Aa,all,c,rs,hin,rfl,rfl,hal,hna,VY,li,V7,EE,BB⟩:=hrel;replace EE:=J EE;replace BB:=J BB;have MM:=J V7;have RW:=J VY;have LI:=J li;have gX:=J<|And.intro hal hna;clear VY li V7 hal hna;by_cases hlt:i<n
  ·have t1:decide ((i:Int)<(n:Int))=G:=Ia U;obtain⟨be,x,hA,hx1,hx2,-,hra⟩:=EE.out.at i hlt;obtain⟨eo,el,ew⟩:=EE.out.each x hx2;subst hA;have RA:=J hra;have OW:=J<|X9 ew (Nat.zero_le _);have EO:=J<|And.intro eo el;have HX1:=J hx1;have CL:Ea ((x.1.cells x.2.1 x.2.2).length=10):=J<|JE.pD _ _ _;have pG:=J<|fun(c:EA) (rs:Int->List Int) (W:H) (Y8:Jl nb g2 a c rs W) (ho:Own W 0 x.2.1 x.2.2 x.1.b)=>Edt nb g2 a c rs x.1 x.2.1 x.2.2 W Y8 eo ho U;clear hx1 hra ew eo el;go_wp2_with ((with_reducible refine UB 48 ?_);(with_reducible refine GL (b:=be) (off:=i*10) (cs:=x.1.cells x.2.1 x.2.2) jS ?_ ?_ RA ?_ ?_);(·exact Ei O);(·exact⟨O,O⟩);(·exact CL.out));(with_reducible refine(pG.out _ _ _ MM.out OW.out).mono ?_);rintro e w7 ⟨c',rs',m,new,A1,A2,c1,c2,sc,hd,rfl,hd1,hd2,os,JS,M7,st,hnew,mu⟩;clear RA OW pG;have OR:=J<|pi JS (show nb<=_ by have:=MM.out.lm;have:=MM.out.Em.lt;omega);have MM:=J M7;have ST:=J st;have mx:=J hnew;have HD:=J<|And.intro hd1 hd2;replace EE:=J<|EE.out.Ef_ mu;replace BB:=J<|BB.out.trans (mu.bel.mono nJ.out);have LW:=J (show nb<=w7.heap.size by have:=M7.lm;have:=M7.Em.lt;omega);replace RW:=J<|EW RW.out fun _ _ hk=>mu.Em _ _ _ hk.lt EZ EZ hk;clear M7 st hnew JS hd1 hd2 mu os;obtain⟨tv,IE⟩: ∃tv,tv=(I7 (JD c') (u A1 m c1) (u A2 new.length c2) hd).toArray:=⟨_,O⟩;have TS:Ea (tv.size=46):=J (by rw[IE];exact dT _ _ _ _ O HD.out.1);have TN:Ea (tv.all (·.oneCell')=G):=J (by rw[IE];exact iD c' A1 A2 m new.length c1 c2 hd);have TV:=J IE;rw[<-IE];clear IE;obtain⟨zt,gZ⟩:=En ((I7 [E I 0,E I 0,E I 0,E I 0,E I 0,E I 0,E I 0,E I 0,E I 0,E I 0,E I 0,E I 0] (u Z 0 0) (u Z 0 0) (Er 32)).toArray:Array M);have ZT:Ea (Og EJ 43 zt):=J F7;have ZTS:Ea (zt.size=46):=J (by rw[gZ];rfl);clear gZ;have KT:=J<|D.new w7 zt 43;have bq:=Eo w7 (EI zt 43);generalize hgt:w7.heap.size=gt at KT;go_wp2_with (((with_reducible show wpList _ _ _ (⟨_,.alloc 43,_,_,_,Z⟩::_) _ _);(with_reducible refine zR ZT.out ?_ ?_ ?_);(·exact Ei O);(·rfl);refine Ed.mk ?_));refine Ed.in ?_;generalize w7.alloc (EI zt 43)=w80 at*;go_wp2_with ((with_reducible refine JI 43 ?_);(with_reducible refine X7 (g:=gt) (cs:=tv) Xt ?_ ?_ KT ?_ ?_ ?_ ?_);(·exact Ei O);(·exact⟨O,O,O⟩);(·exact ZTS.out);(·exact TS.out);(·exact TN.out);refine Ed.mk ?_);refine Ed.in ?_;have bs:=E2 (g:=gt) bq U tv;replace KT:=J<|KT.out.setRow tv;generalize w80.setRow gt tv=w8 at*;replace MM:=J<|MM.out.B bs;replace EE:=J<|EE.out.B bs;replace BB:=J<|BB.out.trans (bs.mono (Ey nJ.out LW.out));have LG:=J (show nb<=gt from pX);replace LW:=J<|Ey LW.out bs.size;replace OR:=J<|EW OR.out fun _ _ hk=>D.B hk bs;replace RW:=J<|EW RW.out fun _ _ hk=>D.B hk bs;clear bq bs hgt;obtain⟨iE,hI1,hI2,aN,aP⟩:=Dc;obtain⟨A9,c9,w9,hrun,d_,Zg⟩:=tN (P:=EJ) (w:=w8) nb _ 40 40 58 iE _ 6 48 Tryz.underlying40 hI1 hI2 aN aP O U (u Aa na ca) na (J1 all) RW.out (u A2 new.length c2) new.length (J1 new) OR.out (Tm new) (by unfold maxLen;have:=mx.out;have:=gX.out;omega) (by have:=mx.out;have:=gX.out;omega) LW.out;clear hI1 hI2 aN aP;have cR:w8.cell? ⟨gt,13,Z⟩=X (u A2 new.length c2):=(KT.out.cell 13).trans G7;go_wp2_with ((with_reducible refine In 42 ?_);(refine JT (Ei O) (Ov O O O hrun) ?_);refine Ed.mk ?_);refine Ed.in ?_;have keep: ∀k cs S,S≠58->D w8 k cs S->D w9 k cs S:=fun k cs S hS hk=>jR RW.out Zg hk hS;have Xy:=J<|keep _ _ _ EZ KT.out;have low:=yt RW.out Zg LW.out;have uq:=J<|MM.out.keep (fun k cs S hS hk=>keep k cs S pp hk) low;have ul:=J<|EE.out.keep fun S hS k cs hk=>keep k cs S iP hk;have nI:=J<|BB.out.trans (low.mono nJ.out);have zo:=J (show w9.ownsRow nb 58 6 (u A9 (na+new.length) c9) (na+new.length) (J1 (all++new)) by rw[AU];exact d_);have zp:=J<|LI.out.step ST.out;have zq:=J (show(all++new).length=na+new.length/\na+new.length<=(i+1)*5000 by rw[IL,gX.out.1];have:=mx.out;have:=gX.out;omega);clear keep low MM EE BB RW KT hrun cR d_ Zg LW OR;have GV:=J<|fun(b:Oa) (W:H) (hb:Below w9.heap.size w9 W)=>EgE nb A9 (na+new.length) c9 (all++new) b W zq.out.1 (EW zo.out fun _ _ hk=>D.B hk hb) (by have:=zq.out;omega);have cB:w9.cell? ⟨gt,6,Z⟩=X (E I c'.El.r):=(Xy.out.cell 6).trans G7;go_wp2_with ((with_reducible refine dI 36 ?_);(with_reducible refine iY (g:=gt) (off:=6) (cs:=c'.El.v.toArray) VS ?_ ?_ Xy ?_ ?_ ?_);(·(first|exact Ei rfl|exact Xd rfl rfl rfl|(simp[IQ,yielded];done)));(·exact⟨O,O⟩);(·rfl);(·rw[TV.out];rfl));(with_reducible refine(GV.out _ _ (E6 _ _)).mono ?_);rintro e UD ⟨rfl,b10⟩;rw[zp.out.El];have G8:=J<|Xy.out.B b10;go_wp2_with ((with_reducible refine dI 36 ?_);(with_reducible refine iY (g:=gt) (off:=9) (cs:=c'.pt.b.v.toArray) VS ?_ ?_ G8 ?_ ?_ ?_);(·(first|exact Ei rfl|exact Xd rfl rfl rfl|(simp[IQ,yielded];done)));(·exact⟨O,O⟩);(·rfl);(·rw[TV.out];rfl));(with_reducible refine(GV.out _ _ b10).mono ?_);rintro e Zn ⟨rfl,b11⟩;rw[zp.out.pt];have EgU:=J<|G8.out.B b11;have bz:=bt b10 b11;have hbn:(c'.El.r==4)=Y:=by have:=zp.out.nr;simpa using this
   have cB2:Zn.cell? ⟨gt,6,Z⟩=X (E I c'.El.r):=(EgU.out.cell 6).trans G7;replace uq:=J<|uq.out.B bz;replace ul:=J<|ul.out.B bz;replace nI:=J<|nI.out.trans (bz.mono (by have:=uq.out.lm;have:=uq.out.Em.lt;have:=LG.out;have:=Xy.out.lt;have:=nJ.out;omega));replace zo:=J<|EW zo.out fun _ _ hk=>D.B hk bz;clear b10 b11 bz GV Xy G8;go_wp2_with fail;exact⟨⟨i+1,na+new.length,c9,A9,all++new,c',rs',U,Ek,O,zq.out.1,zq.out.2,zo.out,zp.out,uq.out,ul.out,nI.out⟩,JN⟩
  ·have t1:decide ((i:Int)<(n:Int))=Y:=E9 U;go_wp2_with fail;go_ret;exact Elr
end Go.Proofs.YtclmichaaiohjaaGreatDoor
