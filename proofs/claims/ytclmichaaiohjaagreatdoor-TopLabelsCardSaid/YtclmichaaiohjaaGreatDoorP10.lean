import Derived.Test.YtclmichaaiohjaaGreatDoorP09
import Derived.Lib.Walk
set_option maxRecDepth 100000
set_option linter.unusedVariables false
set_option linter.unusedSimpArgs false
set_option maxHeartbeats 6400000
namespace Go.Proofs.YtclmichaaiohjaaGreatDoor
open RowKit
open _root_.Array renaming getElem?_eq_some_iff->Ja
open Bool renaming true->G,false->Y
open Go renaming World->H,Calls->Ef,TypeId->Ez,Value->M,Addr->Et,bodyPost_ret->EQ,Oper->EK,below_setRow->E2,rounds_succ->Ib
open Act renaming put->Ic
open Ending renaming returned->Eg
open IntKind renaming i64->I
open Lib renaming hid->J
open Obj renaming cells->EI
open Go.Proofs.Tryz renaming prog->EJ
open Region renaming wanted->IQ
open RowKit renaming Hid->Ea
open RowKit.Below renaming refl->E6
open Value renaming bool->Eb,int->E,agg->EU,slice->u,tuple->Es,pointer->V
open List renaming take_succ_cons->Il,take_zero->Ij,setIfInBounds_toArray->Ig,length_append->IL,set_cons_succ->IJ,set_cons_zero->IU,drop_succ_cons->Iz,drop_zero->Ix
open Nat renaming le_trans->Ey,le_refl->E5
open Option renaming some->X,none->Z
open KQ
variable{P:Program}{o:EK}{W w w':H}{T:EM}{r x m:Int}{g:Nat}{c:EA}{t:EL}
theorem EbJ(gc:Nat)(k:Int)(j:Nat)(hk:k=(j:Int)+1)(hj:j<3)(W:H):(Instr.indexAt 24 (V (X ⟨gc,5,Z⟩)) (E I (k-1))).run EJ W= .ok (V (X ⟨gc,5+j,Z⟩)) W:=by exact EmI
theorem EbO{a:Act}{K:Act->Prop}(T:Ez)(parts:Array (Nat×Operand))(ho:o.op= .build T parts)(cs:Array M)(hb:P.built T (parts.toList.map fun(i,x)=>(i,a.eval x))=X cs) (hk:K (a.put o.dst (EU cs))):o.quiet P a (fun w'=> ∃x,w'=Ex W x) K:=by refine⟨_,fun w hw=> ?_,hk⟩;have hrun:=fun w=>run_build (P:=P) w T (parts.map fun(i,x)=>(i,a.eval x)) cs QY;unfold Oper.quietAt execOp;simp only[ho,Sem.run_bind,hrun,Result.andThen_ok,Sem.run_pure];obtain⟨y,rfl⟩:=hw;exact⟨O,O⟩
theorem EbU{b off:Nat}{xs:List Int}(h:Row w (X ⟨b,off,Z⟩) xs):w.rangeAt b off (xs.map (E .u8)):=fun j v hv=>by
 obtain⟨h1,-⟩:=h;rcases h1 with rfl|⟨b',o',e,h3⟩;·simp at hv
 ·injection e with e;injection e with e1 e2 e3;subst e1 e2;rw[List.getElem?_map] at hv;cases hx:xs[j]? with
  |none=>rw[hx] at hv;cases hv
  |some x=> rw[hx] at hv;obtain⟨hj,ej⟩:=List.getElem?_eq_some_iff.1 hx;injection hv with hv;rw[h3 j hj,ej,<-hv]
theorem EbX{gt:Nat}{s:Int}{key:List Int}{e:Ending}(h:nN T gt s r key w e w'): ∃cd T',e=Eg (E I cd)/\EV w' gt T'/\EG gt w w'/\((cd≠0/\T'=T)\/(cd=0/\(s=1\/s=2\/s=3)/\T'=T.put (s-1).toNat (Im G (max T.E3 0) r key))):=by
 unfold nN at h;obtain⟨h1,h2⟩:=h;split at h1
 ·rename_i h3;split at h1;·exact⟨19,T,h1.1,h1.2,h2,.inl ⟨EZ,rfl⟩⟩
  ·exact⟨0,_,h1.1,h1.2,h2,.inr ⟨rfl,h3.1,rfl⟩⟩
 ·exact⟨1,T,h1.1,h1.2,h2,.inl ⟨EZ,rfl⟩⟩
theorem EbZ(lo hi:Nat)(g:Nat->M)(gc gq gt gs:Nat)(c:EA)(ns:Nat)(rs:List Rec)(A:Option Et)(n cap:Nat)(xs:List Int)(k:Int)(w:H)(S:E4 lo hi g gc gq gt gs c ns rs w)(hk:1<=k/\k<=3)(hx:xs.length=n)(hnc:n<=cap)(hcap:cap<=9223372036854775807)(hr:Row w A xs)(hn:ns<800000)(hl:rs.length<800000): Ef EJ 87 #[V (X ⟨gs,0,Z⟩),E I k,u A n cap] w fun e w'=>e=Eg (Es #[])/\(∃c' m kd cd,m<=1/\E4 lo hi g gc gq gt gs c' (ns+m) (rs++[⟨kd,k,0,c.tok.e,cd,0⟩]) w'/\(c'=c\/(kd=3/\ ∃T':EM,c'={c with T:=T'})))/\Ev lo hi w w':=by
 obtain⟨j,hj,UC⟩: ∃j:Nat,k=(j:Int)+1/\j<3:=⟨(k-1).toNat,U,U⟩;have IX:=J<|fun W=>QV gc k j hj UC W;have SB:=J<|fun W=>sub_one k hk.1 hk.2 W;have HJ:=J UC;have HK:=J hk;have IK:=J<|fun W=>EbJ gc k j hj UC W;have S1:=J S;have HN:=J hn;have HL:=J hl;have MM:=J<|Ev.refl lo hi w;have PI:=J<|fun i (h1:9<=i) (h2:i<56)=>S.core.U8.int i h2 (.inr U);by_cases Eba:n=10
 ·subst Eba
  obtain⟨b0,FI,rfl⟩: ∃b off,A=X ⟨b,off,Z⟩:=by
   rcases hr.1 with h|⟨b,off,e,-⟩;·rw[h] at hx;cases hx
   ·exact⟨b,off,e⟩
  have CT:=J<|fun W (h:Row W (X ⟨b0,FI,Z⟩) (xs.take 2))=>Cc (xs.take 2) (X ⟨b0,FI,Z⟩) 2 cap (by rw[List.length_take,hx];rfl) U hcap W h;have jD:=J hr;have Q2:=J hx;have HNC:=J hnc;clear S hn hl hk hj UC hx hr hcap;go_enter Tryz.func87,Tryz.ntmps87;go_wp2_with fail;(with_reducible refine(CT.out _ (j9 jD.out 2)).mono ?_);rintro e1 w1 h1
  obtain⟨l,iq,he,b1⟩: ∃(l:List Int) (iq:Int),e1=Eg (Es #[EU (ED l),E I iq])/\Eh w w1:=by
   obtain⟨h1,b1⟩:=h1;cases h2:cI (xs.take 2) with
   |none=>rw[h2] at h1;exact⟨_,_,h1,b1⟩
   |some l=>rw[h2] at h1;exact⟨_,_,h1,b1⟩
  subst he;replace S1:=J<|S1.out.B b1;replace MM:=J<|Ev.Eu (lo:=lo) (hi:=hi) b1;have RR:=J<|Iq jD.out b1;obtain⟨v2,hv2⟩:=En (l.getD 2 0);have oT:Ea (∀W g,D W g (ED l) 183->W.cell? ⟨g,2,Z⟩=X (E I v2)):=J (fun W g K=>by rw[hv2];exact U_ K 2 U U);have dL:=J<|I4 l;have jC:=J<|XG l;clear h1 b1 CT jD hv2;generalize ED l=mv at*;have K0:=J<|D.new w1 (ED (IZ 0)) 183;have b2:=Eo w1 (EI (ED (IZ 0)) 183);go_wp2_with (with_reducible first|refine wA dn ?_|refine wS (cs:=mv) Oc K0 (Ed.mk ?_) (ho:=I4 _) (hn:=dL.out) (h1:=jC.out));refine Ed.in ?_;obtain⟨gm,hgm⟩:=En w1.heap.size;rw[<-hgm] at K0⊢;generalize w1.alloc (EI (ED (IZ 0)) 183)=w2 at*;have KM:=J<|K0.out.setRow mv;have b3:=E2 (g:=gm) b2 (Nat.le_of_eq hgm.symm) mv;generalize w2.setRow gm mv=w3 at*;clear K0 b2 hgm;replace S1:=J<|S1.out.B b3;replace MM:=J<|MM.out.trans (Ev.Eu b3);replace RR:=J<|Iq RR.out b3;clear b3;by_cases sG:iq=0
  ·subst sG;have Mt:=Mr;obtain⟨pf,hpf⟩:=En (xs.drop 2);have hpl:pf.length=8:=by rw[hpf,List.length_drop,Q2.out]
   have RG:=J<|EbU (ji RR.out 2);have hpb:=(ji RR.out 2).2;rw[<-hpf] at RG hpb;have Q3:Ea ((Ej pf).size=8):=J (by rw[JV,hpl]);have Ebc:Ea ((pf.map (E .u8)).toArray=Ej pf):=J O;have dj:=J hpl;have XK:=J hpb;clear hpf hpl hpb RR Q2 HNC;have K0:=J<|D.new w3 (Ej (Er 8)) 115;have b2:=Eo w3 (EI (Ej (Er 8)) 115);go_wp2_with (first|((with_reducible refine UB 115 ?_);(with_reducible refine wpList_load_mid rfl 115 _ rfl b0 (FI+2) ?_ (pf.map (E .u8)) _ ?_ Tryz.underlying115 ?_ ?_ ?_);(·rfl);(·exact RG.out);(·rfl);(·rw[List.length_map,dj.out];kernel_rfl);rw[Ebc.out])|(with_reducible refine wA kR ?_)|(with_reducible refine wS (cs:=(Ej pf)) XT K0 (Ed.mk ?_) (ho:=Uh) (hn:=Q3.out) (h1:=Uw _)));refine Ed.in ?_;obtain⟨gp,O8⟩:=En w3.heap.size;rw[<-O8] at K0⊢;clear Mt RG;generalize w3.alloc (EI (Ej (Er 8)) 115)=wB at*;have KP:=J<|K0.out.setRow (Ej pf);have b3:=E2 (g:=gp) b2 (Nat.le_of_eq O8.symm) (Ej pf);generalize wB.setRow gp (Ej pf)=w4 at*;clear K0 b2 O8;replace KM:=EN KM b3;replace S1:=J<|S1.out.B b3;replace MM:=J<|MM.out.trans (Ev.Eu b3);clear b3;obtain⟨A5,n5,c5,ys,mn,hyl,hy1,D9,D_,hym,sH⟩:=(S1.out.core.keys (5+j) U (by have:=HJ.out;omega)).row;obtain⟨dd,FE,od,bg,bx⟩:=QR S1.out.core j HJ.out;have BG:=J bg;have BX:=J bx;have RY:=J sH;obtain⟨d2,kv,cd,mo,hkl,hkb,iu⟩:=Ea7 dd od A5 ys pf n5 c5 k v2 hyl U dj.out XK.out;have xV:Ea ((It dd.n dd.op dd.nc).size=10):=J<|X2 _ _ _ od.len;have aK:Ea ((It d2.n d2.op d2.nc).size=10):=J<|X2 _ _ _ mo.len;have mq:Ea ((It d2.n d2.op d2.nc).all (·.oneCell')=G):=J<|mh _ _ _;have FJ:Ea ((Ej kv).size=32):=J (by rw[JV,hkl]);have KVO:=J<|Uw kv;have aj:=J hkl;have jc:=J hkb;have HD2:=J mo;obtain⟨dv,hdv⟩:=En (It dd.n dd.op dd.nc);obtain⟨OF,mr⟩:=En (It d2.n d2.op d2.nc);rw[<-hdv] at iu xV BX;rw[<-mr] at iu aK mq;have CH:=J iu;have sK:=J mr;obtain⟨key,hkey⟩:=En (Value.slice A5 n5 c5);rw[<-hkey] at CH mn;have xW:Ea (∀W,E4 lo hi g gc gq gt gs c ns rs W->W.cell? ⟨gc,5+j,Z⟩=X key):=J (fun W s=>by have hj:=HJ.out;have h:W.cell? ⟨gc,hZ 0+(5+j),Z⟩=(EH 56 g).toList[5+j]?:=s.core.cell 0 rfl (5+j) JJ;rw[show hZ 0+(5+j)=5+j from Nat.zero_add _] at h;rw[h,show(EH 56 g).toList[5+j]?=X (g (5+j)) by simp[EH,show 5+j<56 from U],mn]);clear od bg bx sH iu mo hdv mr hkey mn hyl hy1 D9 D_ hym hkl hkb;obtain⟨n0,hn0⟩:=En w4.heap.size;have U0:=J (show lo<=n0/\hi<=n0/\w.heap.size<=n0 from jw);go_wp2_with fail;refine fW (Ph:=fun p wq=>(n0<=wq.heap.size/\E4 lo hi g gc gq gt gs c ns rs wq/\Ev lo hi w wq/\D wq gm mv 183/\(p=0->Row wq A5 ys/\Jc wq/\D wq gp (Ej pf) 115/\ ∃big:Array M,D wq gc big 120/\big.extract (65+j*10) (65+j*10+10)=dv))) (Rel:=Jr) (If:=fun w w'=>jB 117 10 OF w w'/\jB 41 32 (Ej kv) w w') [.val (fun v=>v=V (X ⟨gs,0,Z⟩)),.val (fun v=>v=V (X ⟨gs,0,Z⟩)),.val (fun v=>v=V (X ⟨gs,0,Z⟩)),.val (fun v=>v=V (X ⟨gc,0,Z⟩)),.val (fun v=>v=E I k),.val (fun v=>v=E I (k-1)),.val (fun v=>v=V (X ⟨gc,0,Z⟩)),.val (fun v=>v=V (X ⟨gc,65,Z⟩)),.val (fun v=>v=V (X ⟨gc,65+j*10,Z⟩)),.val (fun v=>v=EU dv),.val (fun v=>v=V (X ⟨gs,0,Z⟩)),.val (fun v=>v=V (X ⟨gs,0,Z⟩)),.val (fun v=>v=V (X ⟨gs,0,Z⟩)),.val (fun v=>v=V (X ⟨gc,0,Z⟩)),.val (fun v=>v=E I k),.val (fun v=>v=E I (k-1)),.val (fun v=>v=V (X ⟨gc,0,Z⟩)),.val (fun v=>v=V (X ⟨gc,0,Z⟩)),.val (fun v=>v=V (X ⟨gc,5,Z⟩)),.val (fun v=>v=V (X ⟨gc,5+j,Z⟩)),.val (fun v=>v=key),.val (fun v=>v=E I k),.val (fun v=>v=V (X ⟨gm,2,Z⟩)),.val (fun v=>v=E I v2),.val (fun v=>v=EU (Ej pf)),.val (fun v=>v=Es #[EU OF,EU (Ej kv),E I cd]),.val (fun v=>v=Es #[EU OF,EU (Ej kv),E I cd]),.val (fun v=>v=EU OF),.val (fun v=>v=EU (Ej kv)),.val (fun v=>v=E I cd),.dep (aH 117 10 n0) (fun v w w' h hr=>h.B hr) (fun v w w' h hr=>h.sz hr.1),.dep (aH 41 32 n0) (fun v w w' h hr=>h.B hr) (fun v w w' h hr=>h.sz hr.2),.tied [30] (fun x w=> ∃b:Nat,x 30=V (X ⟨b,0,Z⟩)/\n0<=b/\D w b OF 117) (fun x w w' h hr=>oL) (fun x w w' h hr=>by obtain⟨b,h1,h2,h3⟩:=h;obtain⟨c',-,h4,h5⟩:=hr.1 b _ h3 aK.out;exact⟨b,h1,h2,h5 O▸h4⟩) (fun x y w hq h=>by rw[hq 30 Ek] at h;exact h),.tie [31] (fun x w=> ∃b:Nat,x 31=V (X ⟨b,0,Z⟩)/\n0<=b/\D w b (Ej kv) 41) (fun x w w' h hr=>oL) (fun x y w hq h=>by rw[hq 31 Ek] at h;exact h),.val (fun v=>v=E I cd)] [Y,Y,Y,Y,Y,Y,Y,Y,Y,Y,Y,Y,Y,Y,Y,Y,Y,Y,Y,Y,Y,Y,Y,Y,Y,Y,Y,Y,Y,Y,Y,Y,Y,G,Y] O [[],[],[],[],[],[],[],[],[],[],[],[],[],[],[],[],[],[],[],[],[],[],[],[],[],[],[],[],[],[],[],[],[30],[31],[]] O [32,33] [(0,0),(0,0),(0,0),(0,0),(0,0),(0,0),(0,0),(0,0),(0,0),(0,0),(0,0),(0,0),(0,0),(0,0),(0,0),(0,0),(0,0),(0,0),(0,0),(0,0),(0,0),(0,0),(0,0),(0,0),(0,0),(0,0),(0,0),(0,0),(0,1),(0,2),(0,0),(0,0),(0,0),(1,1),(2,2)] Ec Ec Ec Ec Ec Ec On Ec ?hPh ?h0 ?hstep ?hend;case hPh=> intro p w2 w3 h hr;exact⟨Ey h.1 (Below.size hr),h.2.1.B hr,h.2.2.1.trans (Ev.Eu hr),D.B h.2.2.2.1 hr,fun hp=>by obtain⟨a1,a2,ap,big,a3,a4⟩:=h.2.2.2.2 hp;exact⟨Iq a1 hr,a2.B hr,D.B ap hr,big,D.B a3 hr,a4⟩⟩
   case h0=> have hb:=I1 w4;exact⟨Ey (Nat.le_of_eq hn0) (Below.size hb),S1.out.B hb,MM.out.trans (Ev.Eu hb),D.B KM.out hb,fun _=>⟨Iq RY.out hb,S1.out.core.roots.B hb,D.B KP.out hb,FE,D.B BG.out hb,BX.out⟩⟩
   case hstep=>
    refine⟨?_,?_,?_,?_,?_,?_,?_,?_,?_,?_,?_,?_,?_,?_,?_,?_,?_,?_,?_,?_,?_,?_,?_,?_,?_,?_,?_,?_,?_,?_,?_,?_,?_,?_,?_,trivial⟩;all_goals first|intro xv wq p hlo hhi hp hd|intro xv wq hp hd
    all_goals simp only[EB,Ic,Ig,IJ,IU]
    ·exact EiE
    ·exact Eim
    ·exact Eil
    ·exact EiJ
    ·exact EiE
    ·exact Elt
    ·exact Eik
    ·exact ElS
    ·exact Ekp
    ·obtain rfl:p=0:=U;have d8:xv 8=V (X ⟨gc,65+j*10,Z⟩):=hd.at 8 rfl;obtain⟨-,-,-,big,KB,EX⟩:=hp.2.2.2.2 rfl;exact ah EF UN (Ei O) ⟨O,d8⟩ KB xV.out EX O
    ·exact EiE
    ·exact ElM
    ·exact ElL
    ·exact Ekm
    ·exact EiE
    ·obtain rfl:p=0:=U;have d14:xv 14=E I k:=hd.at 14 rfl;exact Ir EF (Ei O) (oS O d14 O SB.out) O
    ·exact ElK
    ·obtain rfl:p=0:=U;have d16:xv 16=V (X ⟨gc,0,Z⟩):=hd.at 16 rfl;exact Ep (by simp[go_sem,d16]) O
    ·exact Ekf
    ·obtain rfl:p=0:=U;have d18:xv 18=V (X ⟨gc,5,Z⟩):=hd.at 18 rfl;have d15:xv 15=E I (k-1):=hd.at 15 rfl;exact Ir EF (Ei O) (mj O d18 d15 IK.out) O
    ·obtain rfl:p=0:=U;have d19:xv 19=V (X ⟨gc,5+j,Z⟩):=hd.at 19 rfl;have cc:wq.cell? ⟨gc,5+j,Z⟩=X (key):=xW.out wq hp.2.1;exact Ep xG O
    ·exact EiE
    ·exact EiE
    ·obtain rfl:p=0:=U;have d22:xv 22=V (X ⟨gm,2,Z⟩):=hd.at 22 rfl;have cc:wq.cell? ⟨gm,2,Z⟩=X (E I v2):=oT.out _ _ hp.2.2.2.1;exact Ep D0 O
    ·obtain rfl:p=0:=U;exact fi EF XT (Ei O) ⟨O,O⟩ ((hp.2.2.2.2 rfl).2.2.1) Q3.out O
    ·obtain rfl:p=0:=U;have d9:xv 9=EU dv:=hd.at 9 rfl;have d20:xv 20=key:=hd.at 20 rfl;have d21:xv 21=E I k:=hd.at 21 rfl;have d23:xv 23=E I v2:=hd.at 23 rfl;have d24:xv 24=EU (Ej pf):=hd.at 24 rfl;refine IY (f:=123) (args:= #[xv 9,xv 20,xv 21,xv 23,xv 24]) (Ei O) Ew ?_;rw[d9,d20,d21,d23,d24];exact(CH.out wq (hp.2.2.2.2 rfl).1 (hp.2.2.2.2 rfl).2.1).mono fun e w2 h=>⟨_,h.1,h.2,O⟩
    ·obtain rfl:p=0:=U;have d25:xv 25=Es #[EU OF,EU (Ej kv),E I cd]:=hd.at 25 rfl;exact Ep (by simp[go_sem,d25]) O
    ·obtain rfl:p=0:=U;exact Ekv
    ·exact Ekv
    ·exact Ekv
    ·exact Eld
    ·obtain rfl:p=0:=U;exact XD (Ei O) (Zl _ _ _ O) (Eo wq _) ⟨wq.heap.size,_,O,hp.1,O,D.new _ _ _⟩
    ·have d27:xv 27=EU OF:=hd.at 27 rfl;obtain⟨b,c8,eA,lb,h8,kb⟩:aH 117 10 n0 (xv 30) wq:=hd.at 30 rfl;have nh:=U0.out;refine ag UN (Ei O) ⟨O,eA,d27⟩ kb h8 aK.out mq.out ⟨⟨xR aK.out,QQ kb EZ⟩,?_⟩ ⟨b,eA,lb,kb.setRow _⟩;obtain⟨n1,s1,m1,km,-⟩:=hp;have ho:=Od (g:=b) (W:=wq) OF;exact Elh
    ·have d28:xv 28=EU (Ej kv):=hd.at 28 rfl;obtain⟨b,c8,eA,lb,h8,kb⟩:aH 41 32 n0 (xv 31) wq:=hd.at 31 rfl;have nh:=U0.out;refine ag JC (Ei O) ⟨O,eA,d28⟩ kb h8 FJ.out KVO.out ⟨⟨QQ kb EZ,xR FJ.out⟩,?_⟩ ⟨b,eA,lb,kb.setRow _⟩;obtain⟨n1,s1,m1,km,-⟩:=hp;have ho:=Od (g:=b) (W:=wq) (Ej kv);exact Elh
    ·obtain rfl:p=2:=U;have d29:xv 29=E I cd:=hd.at 29 rfl;exact Ep (by simp[go_sem,d29]) O
   case hend=>
    intro xv W6 hp hd;simp only[EB,Ic,Ig,IJ,IU];obtain⟨b,eA,lb,kb⟩: ∃b:Nat,xv 30=V (X ⟨b,0,Z⟩)/\n0<=b/\D W6 b OF 117:=hd 32 EZ;obtain⟨bk,eK,lk,kk⟩: ∃b:Nat,xv 31=V (X ⟨b,0,Z⟩)/\n0<=b/\D W6 b (Ej kv) 41:=hd 33 EZ;have a34:xv 34=E I cd:=hd 34 EZ;obtain⟨-,s6,m6,aG,-⟩:=hp;replace S1:=J s6;replace MM:=J m6;replace KM:=J aG;have KB:=J kb;have KK:=J kk;rw[eA,eK,a34];clear s6 m6 aG kb kk hd eA eK a34 KP BG BX RY CH xW;go_wp2_with fail;have y0: ∀y:Ext W6,(Ex W6 y).cell? ⟨gs,0,Z⟩=X (V (X ⟨gc,0,Z⟩)):=fun y=>(S1.out.B (EC y)).Iu;refine JB 10 Ec Ec ?_;simp only[Il,Ij,Iz,Ix]
    repeat (first
     |go_big_quiet_skip
     |(go_big_quiet_want
       first
        |(refine Oj (T:=117) (g:=b) UN _ rfl rfl KB ?_ ?_;(·exact aK.out);go_simp;go_big_quiet_on)
        |(refine xT (v:=E I (k-1)) (fun _=>oS rfl rfl rfl SB.out) ?_;go_simp;go_big_quiet_on)
        |(refine xT (v:=V (X ⟨gc,65+j*10,Z⟩)) (fun _=>mj rfl rfl rfl IX.out) ?_;go_simp;go_big_quiet_on)
        |(go_big_quiet_op
          first
           |go_big_quiet_on
           |go_big_quiet_call (fail))))
    refine wpQuiet_nil ?_;intro _ hw';obtain⟨y9,rfl⟩:=hw';have El:=EC y9;replace KB:=EN KB El;replace KK:=EN KK El;replace KM:=EN KM El;replace S1:=J<|S1.out.B El;replace MM:=J<|MM.out.trans (Ev.Eu El);clear y0 El;generalize Ex W6 y9=w9 at*;have TH:=J<|QS S1.out.core j HJ.out;go_wp2_with ((with_reducible refine JI 117 ?_);(with_reducible refine wpList_store_mid O 117 _ _ O gc (65+j*10) OF ?_ ?_ ?_ ?_ ?_ ?_);(·rfl);(·rfl);(·rw[aK.out];exact TH.out);(·rw[aK.out];exact UN.2);(·exact mq.out);refine Ed.mk ?_);refine Ed.in ?_;have S4:=S1.out.QT j HJ.out d2 HD2.out;rw[<-sK.out] at S4;obtain⟨d0,d1,d2',hd,KG,-⟩:=S1.out.core.Em;have FX:=JX (g:=gc) OF.toList (65+j*10) w9;replace KK:=J<|FX.Em KK.out (E7 KK.out KG EZ);replace KM:=J<|FX.Em KM.out (E7 KM.out KG EZ);replace S1:=J S4.1;replace MM:=J<|MM.out.trans S4.2;clear S4 TH KG KB FX;generalize w9.setCells gc (65+j*10) OF.toList=UD at*;by_cases jo:cd=17;·subst jo;go_wp2_with fail;(with_reducible refine(dx lo hi g gc gq gt gs c ns rs k 0 17 _ S1.out JP Ju).mono ?_);exact EjT
    ·have t17:(cd==17)=Y:=by simpa using jo
     by_cases hcd:cd=0
     ·subst hcd;clear jo;go_wp2_with fail;obtain⟨d0,d1,d2,hd,KG,o0,o1,o2,-,-⟩:=S1.out.core.Em;have Up:=J<|J4 (c:=c) (gq:=gq) (gt:=gt) (hd:=hd) (Jj g) o0 o1 o2 0 U;have KG:=J KG;have PL:=J<|Jj g;have Ud:Ea ((EH 56 g).toList.toArray=EH 56 g):=J Ek;clear o0 o1 o2;have y0: ∀y:Ext UD,(Ex UD y).cell? ⟨gs,0,Z⟩=X (V (X ⟨gc,0,Z⟩)):=fun y=>(S1.out.B (EC y)).Iu;have y2: ∀y:Ext UD,(Ex UD y).cell? ⟨gm,2,Z⟩=X (E I v2):=fun y=>oT.out _ _ (D.B KM.out (EC y));refine Uv Ec Ec ?_
      repeat (first
       |go_big_quiet_skip
       |(go_big_quiet_want
         first
          |(refine Xa (T:=28) (g:=gc) (off:=0) UZ _ rfl rfl KG 0 rfl Up.out PL.out ?_;(try rw[Ud.out]);go_simp;go_big_quiet_on)
          |(go_big_quiet_op
            first
             |go_big_quiet_on
             |go_big_quiet_call (with_reducible refine X6 (PX g k v2 _ PI.out)))))
      refine wpQuiet_nil ?_;intro _ hw';obtain⟨y9,rfl⟩:=hw';have El:=EC y9;replace KM:=EN KM El;replace S1:=J<|S1.out.B El;replace MM:=J<|MM.out.trans (Ev.Eu El);replace KK:=EN KK El;clear y0 y2 El KG Up PL Ud;generalize Ex UD y9=Zn at*;cases htk:hX g k v2 with
      |false=> go_wp2_with fail;(with_reducible refine(dx lo hi g gc gq gt gs c ns rs k 0 18 _ S1.out JP Ju).mono ?_);rintro e7 w7 ⟨rfl,s7,m7⟩;have S8:=J s7;replace MM:=J<|MM.out.trans m7;clear s7 m7;go_wp2_with fail;refine EQ (results_none O _ _ _) O ?_;exact⟨O,⟨c,1,7,_,U,S8.out,.inl O⟩,MM.out⟩
      |true=>
       go_wp2_with fail;clear htk t17;have y0: ∀y:Ext Zn,(Ex Zn y).cell? ⟨gs,0,Z⟩=X (V (X ⟨gc,0,Z⟩)):=fun y=>(S1.out.B (EC y)).Iu;have y95: ∀y:Ext Zn,(Ex Zn y).cell? ⟨gc,95,Z⟩=X (V (X ⟨gt,0,Z⟩)):=fun y=>(S1.out.B (EC y)).core.cell 6 rfl 0 Ek;have y2: ∀y:Ext Zn,(Ex Zn y).cell? ⟨gm,2,Z⟩=X (E I v2):=fun y=>oT.out _ _ (D.B KM.out (EC y));refine JB 11 Ec Ec ?_;simp only[Il,Ij,Iz,Ix]
       repeat (first
        |go_big_quiet_skip
        |(go_big_quiet_want
          first
           |(refine Oj (T:=41) (g:=bk) JC _ rfl rfl KK ?_ ?_;(·exact FJ.out);go_simp;go_big_quiet_on)
           |(go_big_quiet_op
             first
              |go_big_quiet_on
              |go_big_quiet_call (fail))))
       refine wpQuiet_nil ?_;intro _ hw';obtain⟨y9,rfl⟩:=hw';have El:=EC y9;replace KM:=EN KM El;replace S1:=J<|S1.out.B El;replace MM:=J<|MM.out.trans (Ev.Eu El);clear y0 y95 y2 El KK;generalize Ex Zn y9=Xz at*;go_wp2_with fail;(with_reducible refine(EJE gt c.T k v2 kv _ S1.out.core.tab S1.out.core.ok.T aj.out).mono ?_);intro e13 J_ bZ;obtain⟨FZ,T',rfl,kt,ot,hT⟩:=EbX bZ
       have hok:T'.ok/\T'.Uk:=by
        rcases hT with⟨-,rfl⟩|⟨-,-,rfl⟩;·exact⟨S1.out.core.ok.T,S1.out.core.ok.E3⟩
        ·exact⟨S1.out.core.ok.T.put _ (EIV _ _ _ _ aj.out jc.out),S1.out.core.ok.E3.put _ (TM.start S1.out.core.ok.E3)⟩
       have hS:=S1.out.su ot T' kt (S1.out.core.ok.sr hok.1 hok.2);replace KM:=J<|ot.Em KM.out (E7 KM.out S1.out.core.tab EZ);replace S1:=J hS.1;replace MM:=J<|MM.out.trans hS.2;have HT:=J hT;clear bZ kt ot hT hok hS;by_cases hc3:FZ=0
       ·subst hc3;go_wp2_with fail;have y0: ∀y:Ext J_,(Ex J_ y).cell? ⟨gs,0,Z⟩=X (V (X ⟨gc,0,Z⟩)):=fun y=>(S1.out.B (EC y)).Iu;have y2: ∀y:Ext J_,(Ex J_ y).cell? ⟨gm,2,Z⟩=X (E I v2):=fun y=>oT.out _ _ (D.B KM.out (EC y));obtain⟨hh,f_⟩:=En c.tok.h;obtain⟨ee,hee⟩:=En c.tok.e;have xY: ∀y:Ext J_,(Ex J_ y).cell? ⟨gc,56,Z⟩=X (E I hh):=fun y=>by rw[f_];exact(S1.out.B (EC y)).core.cell 1 rfl 0 XW
        have y57: ∀y:Ext J_,(Ex J_ y).cell? ⟨gc,57,Z⟩=X (E I ee):=fun y=>by rw[hee];exact(S1.out.B (EC y)).core.cell 1 rfl 1 XW
        replace f_:=J f_;replace hee:=J hee;have BR:Tryz.prog.built 222 [(0,E I 130),(2,E I v2),(3,E I hh),(4,E I ee)]=X (IW [130,0,v2,hh,ee,0,0,0,0,0,0,0,0,0]):=Ec;refine JB 21 Ec Ec ?_;simp only[Il,Ij,Iz,Ix]
        repeat (first
         |go_big_quiet_skip
         |(go_big_quiet_want
           first
            |(refine EbO 222 _ rfl _ BR ?_;go_simp;go_big_quiet_on)
            |(go_big_quiet_op
              first
               |go_big_quiet_on
               |go_big_quiet_call (fail))))
        refine wpQuiet_nil ?_;intro _ hw';obtain⟨y9,rfl⟩:=hw';have El:=EC y9;replace S1:=J<|S1.out.B El;replace MM:=J<|MM.out.trans (Ev.Eu El);clear y0 y2 xY y57 El KM BR;generalize Ex J_ y9=oV at*;go_wp2_with fail;(with_reducible refine(rH lo hi g gc gq gt gs _ ns rs [130,0,v2,hh,ee,0,0,0,0,0,0,0,0,0] k _ S1.out (lK _ _ _ _ _ _) JP).mono ?_);rintro e15 Q5 ⟨rfl,s15,m15⟩;replace S1:=J s15;replace MM:=J<|MM.out.trans m15;clear s15 m15;go_wp2_with fail;(with_reducible refine(Xs lo hi g gc gq gt gs _ (ns+1) rs 3 k 0 0 0 _ S1.out Ju).mono ?_);rintro e16 w16 ⟨rfl,s16,m16⟩;have S8:=J s16;replace MM:=J<|MM.out.trans m16;clear s16 m16;go_wp2_with fail;go_end0;exact⟨O,⟨_,1,3,_,U,S8.out,.inr ⟨O,T',O⟩⟩,MM.out⟩
       ·have t9:(FZ !=0)=G:=by simpa using hc3
        have eT:T'=c.T:=by
         rcases HT.out with⟨-,h⟩|⟨h,-⟩;·exact h
         ·exact absurd h hc3
        subst eT;go_wp2_with fail;(with_reducible refine(dx lo hi g gc gq gt gs c ns rs k 0 FZ _ S1.out JP Ju).mono ?_);exact EjT
     ·have t9:(cd !=0)=G:=aC;go_wp2_with fail;(with_reducible refine(oh lo hi g gc gq gt gs c ns rs k cd _ S1.out Ju).mono ?_);exact EiN
  ·have t9:(iq !=0)=G:=by simpa using sG
   go_wp2_with fail;exact Em0
 ·have t9:((n:Int) !=10)=G:=JJ;clear S hk hj UC hx hr hcap hnc hn hl;go_enter Tryz.func87,Tryz.ntmps87;go_wp2_with fail;exact Em0
def mw(g:Nat->M)(k:Int)(l:List Int)(c c':EA)(new:List Rec):Prop:=
 (c'=c/\new=[])
 \/(∃L',O4 L' c.q/\c'={c with T:=c.T.ia k,tok:=(c.tok.drop k).1,q:=L'}/\new=(if(c.tok.drop k).2 then [⟨12,k,0,c.tok.e,16,0⟩] else [])++[⟨4,k,l.getD 1 0,(c.tok.drop k).1.e,0,0⟩])
 \/(∃L' t2 hw,t2.ok/\t2.e=c.tok.e+1/\t2.o= -1/\c'={c with tok:=t2,q:=L'}/\new=[⟨8,t2.h,l.getD 1 0,t2.e,0,hw⟩])
 \/(∃L' kd cd,(kd=7\/kd=10)/\c'={c with q:=L'}/\new=[⟨kd,k,l.getD 1 0,c.tok.e,cd,0⟩])
 \/(0<=c.tok.o/\c.tok.o=k/\c'={c with tok:=c.tok.end_}/\new=[⟨11,k,l.getD 1 0,c.tok.e,0,0⟩])
 \/(k=c.tok.h/\c.tok.o<0/\c'={c with tok:={c.tok with o:=l.getD 3 0,oa:=0,om:=max (pn g 44) 0}}/\new=[⟨9,k,l.getD 1 0,c.tok.e,0,l.getD 3 0⟩])
 \/(new=[⟨6,k,l.getD 1 0,c.tok.e,0,0⟩]/\(c'={c with mode:=l.getD 5 0,El:=⟨1,k,l.getD 1 0⟩}\/ ∃p:Pt,p.b=⟨1,k,l.getD 1 0⟩/\c'={c with pt:=p}))
def jF(g:Nat->M)(k code:Int)(xs:List Int)(c c':EA)(m:Nat)(new:List Rec):Prop:=
 (∃cd,c'=c/\m=0/\new=[⟨1,k,0,c.tok.e,cd,0⟩]/\(code≠0\/f9 xs 1=G\/f9 xs 2=G\/(c.T.take k xs).code≠0))
 \/(code=0/\(f9 xs 1=G\/f9 xs 2=G)/\ ∃kd cd,new=[⟨kd,k,0,c.tok.e,cd,0⟩]/\(c'=c\/(kd=3/\ ∃T':EM,c'={c with T:=T'})))
 \/(code=0/\f9 xs 1=Y/\f9 xs 2=Y/\(c.T.take k xs).code=0/\mw g k (c.T.take k xs).msg {c with T:=(c.T.take k xs).tab} c' new)
def Q6(lo hi:Nat)(g:Nat->M)(gc gq gt gs:Nat)(k:Int)(l:List Int)(f:FuncId):Prop:=
 fo f/\(∀(W:H) (gg:Nat),W.heap[gg]?=X (.map (Uq gs 9) 9)->(Instr.lookup 188 (.map (X gg)) (E I (l.getD 0 0)) G).run EJ W= .ok (Es #[.func (.func f) #[V (X ⟨gs,0,Z⟩)] #[],Eb G]) W)
 /\ ∀(c:EA) (ns:Nat) (rs:List Rec) (w:H),E4 lo hi g gc gq gt gs c ns rs w->ns<800000->rs.length<800000->
  Ef EJ f #[V (X ⟨gs,0,Z⟩),E I k,EU (ED l)] w fun e w'=>e=Eg (Es #[])/\(∃c' m new,m<=3/\E4 lo hi g gc gq gt gs c' (ns+m) (rs++new) w'/\mw g k l c c' new)/\Ev lo hi w w'
theorem Ebg(lo hi:Nat)(g:Nat->M)(gc gq gt gs:Nat)(k:Int)(hk:1<=k/\k<=3)(l:List Int)(hm:sD l)(h3:3<=l.getD 0 0)(h11:l.getD 0 0<=11): ∃f,Q6 lo hi g gc gq gt gs k l f:=by
 have hc:l.getD 0 0=3\/l.getD 0 0=4\/l.getD 0 0=5\/l.getD 0 0=6\/l.getD 0 0=7\/l.getD 0 0=8\/l.getD 0 0=9\/l.getD 0 0=10\/l.getD 0 0=11:=U
 have cmd: ∀(c:EA) (ns:Nat) (rs:List Rec) (w:H),E4 lo hi g gc gq gt gs c ns rs w->ns<800000->rs.length<800000->
  Ef EJ 135 #[V (X ⟨gs,0,Z⟩),E I k,EU (ED l)] w fun e w'=>e=Eg (Es #[])/\(∃c' m new,m<=3/\E4 lo hi g gc gq gt gs c' (ns+m) (rs++new) w'/\mw g k l c c' new)/\Ev lo hi w w':=fun c ns rs w S hn hl=>by
  refine(Eax lo hi g gc gq gt gs c ns rs l k w S hk hm hn hl).mono ?_
  rintro e w' ⟨he,⟨c',m,new,h1,h2,h3⟩,mm⟩
  refine⟨he,⟨c',m,new,h1,h2,?_⟩,mm⟩
  rcases h3 with⟨cd,rfl,rfl⟩|⟨hn,h4⟩
  ·exact .inr (.inr (.inr (.inl ⟨_,7,cd,.inl O,O,O⟩)))
  ·exact .inr (.inr (.inr (.inr (.inr (.inr ⟨hn,h4⟩)))))
 rcases hc with h|h|h|h|h|h|h|h|h;·refine⟨128,fun _ _=>Ec,fun W gg hg=>by rw[h];exact EaG hg,fun c ns rs w S hn hl=> ?_⟩;refine(Eab lo hi g gc gq gt gs c ns rs l k w S hn hl).mono ?_;rintro e w' ⟨he,s,mm⟩;refine⟨he,⟨c,1,[],U,by rw[List.append_nil];exact s,.inl ⟨O,O⟩⟩,mm⟩
 ·refine⟨129,fun _ _=>Ec,fun W gg hg=>by rw[h];exact EaH hg,fun c ns rs w S hn hl=> ?_⟩;refine(Eac lo hi g gc gq gt gs c ns rs l k w S hn hl).mono ?_;rintro e w' ⟨he,⟨L',m,h1,h2,s⟩,mm⟩;refine⟨he,⟨_,m,_,h1,by rw[<-List.append_assoc];exact s,.inr (.inl ⟨L',h2,O,O⟩)⟩,mm⟩
 ·refine⟨130,fun _ _=>Ec,fun W gg hg=>by rw[h];exact EaK hg,fun c ns rs w S hn hl=> ?_⟩;refine(Eal lo hi g gc gq gt gs c ns rs l k w S hk hn hl).mono ?_;rintro e w' ⟨he,⟨c',m,new,h1,s,L',h2⟩,mm⟩;refine⟨he,⟨c',m,new,h1,s,?_⟩,mm⟩;rcases h2 with⟨cd,rfl,rfl⟩|⟨t2,a1,a2,a3,rfl,rfl⟩|⟨rfl,rfl⟩;·exact .inr (.inr (.inr (.inl ⟨L',7,cd,.inl O,O,O⟩)))
  ·exact .inr (.inr (.inl ⟨L',t2,3,a1,a2,a3,O,O⟩))
  ·exact .inr (.inr (.inr (.inl ⟨L',10,0,.inr O,O,O⟩)))
 ·refine⟨131,fun _ _=>Ec,fun W gg hg=>by rw[h];exact EaL hg,fun c ns rs w S hn hl=> ?_⟩;refine(Eas lo hi g gc gq gt gs c ns rs l k w S hk hn hl).mono ?_;rintro e w' ⟨he,⟨c',m,new,h1,s,h2⟩,mm⟩;refine⟨he,⟨c',m,new,h1,s,?_⟩,mm⟩;rcases h2 with⟨cd,rfl,rfl⟩|⟨po,a1,a2,a3,rfl,rfl⟩;·exact .inr (.inr (.inr (.inl ⟨_,7,cd,.inl O,O,O⟩)))
  ·refine .inr (.inr (.inr (.inr (.inr (.inl ⟨a2,a3,?_,O⟩)))));have e:pn g 44=po:=by unfold pn;rw[a1];rfl
   rw[e]
 ·refine⟨132,fun _ _=>Ec,fun W gg hg=>by rw[h];exact EaM hg,fun c ns rs w S hn hl=> ?_⟩;refine(Eah lo hi g gc gq gt gs c ns rs l k w S hn hl).mono ?_;rintro e w' ⟨he,⟨c',m,new,h1,s,h2⟩,mm⟩;refine⟨he,⟨c',m,new,h1,s,?_⟩,mm⟩;rcases h2 with⟨cd,rfl,rfl⟩|⟨t2,L',a1,-,rfl,rfl⟩;·exact .inr (.inr (.inr (.inl ⟨_,7,cd,.inl O,O,O⟩)))
  ·obtain⟨b1,b2,-,b3⟩:=cG S.core.ok.tok a1;exact .inr (.inr (.inl ⟨L',t2,1,b1,b2,b3,O,O⟩))
 ·refine⟨133,fun _ _=>Ec,fun W gg hg=>by rw[h];exact EaN hg,fun c ns rs w S hn hl=> ?_⟩;refine(Eaq lo hi g gc gq gt gs c ns rs l k w S hn hl).mono ?_;rintro e w' ⟨he,⟨c',m,new,h1,s,h2⟩,mm⟩;refine⟨he,⟨c',m,new,h1,s,?_⟩,mm⟩;rcases h2 with⟨cd,rfl,rfl⟩|⟨a1,a2,rfl,rfl⟩;·exact .inr (.inr (.inr (.inl ⟨_,7,cd,.inl O,O,O⟩)))
  ·exact .inr (.inr (.inr (.inr (.inl ⟨a1,a2,O,O⟩))))
 ·refine⟨134,fun _ _=>Ec,fun W gg hg=>by rw[h];exact EaP hg,fun c ns rs w S hn hl=> ?_⟩;refine(Eai lo hi g gc gq gt gs c ns rs l k w S hn hl).mono ?_;rintro e w' ⟨he,⟨c',m,new,h1,s,L',h2⟩,mm⟩;refine⟨he,⟨c',m,new,h1,s,?_⟩,mm⟩;rcases h2 with⟨cd,rfl,rfl⟩|⟨t2,a1,a2,a3,rfl,rfl⟩;·exact .inr (.inr (.inr (.inl ⟨L',7,cd,.inl O,O,O⟩)))
  ·exact .inr (.inr (.inl ⟨L',t2,2,a1,a2,a3,O,O⟩))
 ·exact⟨135,fun _ _=>Ec,fun W gg hg=>by rw[h];exact EaQ hg,cmd⟩
 ·exact⟨135,fun _ _=>Ec,fun W gg hg=>by rw[h];exact EaR hg,cmd⟩
theorem Ebh(T:EM)(i:Nat)(bs:List Int)(h:(Zr T i bs).code≠0):(Zr T i bs).tab=T:=by
 unfold Zr at*;split;·rfl
 ·rename_i l hl;rw[hl] at h;simp only at h;split;·rfl
  ·rename_i h2;rw[if_neg h2] at h;split;·rename_i h3;rw[if_pos h3] at h;exact absurd rfl h
   ·rfl
theorem Ebi(T:EM)(k:Int)(xs:List Int)(h:(T.take k xs).code≠0):(T.take k xs).tab=T:=by
 unfold EM.take at*;split
 ·rename_i h1;rw[if_pos h1] at h;split;·rename_i h2;rw[if_pos h2] at h;exact Ebh T _ _ h
  ·rfl
 ·rfl
theorem Ebj(h:T.ok)(ht:T.Uk)(i:Nat)(bs:List Int)(hb: ∀x∈bs,0<=x/\x<=255):(Zr T i bs).tab.ok/\(Zr T i bs).tab.Uk/\((Zr T i bs).code=0->sD (Zr T i bs).msg/\3<=(Zr T i bs).msg.getD 0 0/\(Zr T i bs).msg.getD 0 0<=11):=by
 unfold Zr;split;·exact Emy
 ·rename_i l hl;split;·exact⟨h,ht,fun h=>Uf⟩
  ·rename_i hk;split;·have hq:=Nr hb hl;have hkk:=(EOb (Cd hb hl).1).2;refine⟨h.put i ⟨(h.ER i).len,(h.ER i).bytes,Nu (h.ER i).win U⟩,ht.put i (TM.start ht),fun _=>⟨EaD hb hl,?_,hkk.2⟩⟩;show 3<=l.getD 0 0;omega
   ·exact Emy
theorem Ebk(h:T.ok)(ht:T.Uk)(k:Int)(xs:List Int)(hb: ∀x∈xs,0<=x/\x<=255):(T.take k xs).tab.ok/\(T.take k xs).tab.Uk/\((T.take k xs).code=0->sD (T.take k xs).msg/\3<=(T.take k xs).msg.getD 0 0/\(T.take k xs).msg.getD 0 0<=11):=by
 unfold EM.take;split
 ·split;·exact Ebj h ht _ _ (fun x hx=>hb x (List.mem_of_mem_take hx))
  ·exact Emy
 ·exact Emy
theorem Ebl{F:Operand->M}{T:Ez}{x y:Operand}{b:Bool}{Y3 v r:M}(ho:o.op= .lookup T x y b)(hx:F x=Y3)(hy:F y=v)(h:(Instr.lookup T Y3 v b).run P w= .ok r w):(execOp F o).run P w= .ok (.value r) w:=by exact ElC
theorem Ebm{o:Obj}(h:w.heap[g]?=X o)(hb:Eh w w'):w'.heap[g]?=X o:=(hb.block g (Ja.1 h).1).trans h
theorem Ebn(lo hi:Nat)(g:Nat->M)(gc gq gt gs:Nat)(c:EA)(ns:Nat)(rs:List Rec)(code:Int)(A:Option Et)(n cap:Nat)(xs:List Int)(k:Int)(w:H)(S:E4 lo hi g gc gq gt gs c ns rs w)(hk:1<=k/\k<=3)(hx:xs.length=n)(hnc:n<=cap)(hcap:cap<=9223372036854775807)(sL:n<=1000)(hr:Row w A xs)(hn:ns<800000)(hl:rs.length<800000): Ef EJ 71 #[V (X ⟨gs,0,Z⟩),E I k,EU #[E I code,u A n cap]] w fun e w'=>e=Eg (Es #[])/\(∃c' m new,m<=3/\E4 lo hi g gc gq gt gs c' (ns+m) (rs++new) w'/\jF g k code xs c c' m new)/\Ev lo hi w w':=by
 have HN:=J hn;have HL:=J hl;have Q7:=J<|fun W (s:E4 lo hi g gc gq gt gs c ns rs W) (h:Row W A xs)=>EbE lo hi g gc gq gt gs c ns rs A n cap xs k W s hk hx hnc hcap h hn hl;have Q8:=J<|fun W (s:E4 lo hi g gc gq gt gs c ns rs W) (h:Row W A xs)=>EbZ lo hi g gc gq gt gs c ns rs A n cap xs k W s hk hx hnc hcap h hn hl;have CB:=J<|fun W (h:Row W A xs) b=>EaC A xs n cap b W hx h U;have Q9:=fun W K (h:Row W A xs) R=>EOC gt c.T k xs A n cap W K S.core.ok.T hx hnc hcap sL h R;have hti:=Ebk S.core.ok.T S.core.ok.E3 k xs hr.2;obtain⟨T',hT'⟩:=En ((c.T.take k xs).tab);obtain⟨l,hl'⟩:=En ((c.T.take k xs).msg);obtain⟨cd,oW⟩:=En ((c.T.take k xs).code);obtain⟨mv,hmv⟩:=En (ED l);have oY:Ea (cd=0-> ∃f,Q6 lo hi g gc gq gt gs k l f):=J (fun h=>by rw[oW] at h;have h2:=hti.2.2 h;rw[hl'];exact Ebg lo hi g gc gq gt gs k hk _ h2.1 h2.2.1 h2.2.2);have HT:Ea (T'.ok/\T'.Uk):=J (by rw[hT'];exact⟨hti.1,hti.2.1⟩);have CT:Ea (∀W,EV W gt c.T->Row W A xs->Jc W->Ef EJ 88 #[V (X ⟨gt,0,Z⟩),E I k,u A n cap] W fun e w'=>e=Eg (Es #[EU mv,E I cd])/\EV w' gt T'/\EG gt W w'):=J (fun W K h R=>by rw[hmv,hl',oW,hT'];exact Q9 W K h R);have dL:Ea (mv.size=12):=J (by rw[hmv];exact I4 l);have jC:Ea (mv.all (·.oneCell')=G):=J (by rw[hmv];exact XG l);obtain⟨v0,hv0⟩:=En (l.getD 0 0);have xL:Ea (∀W g,D W g mv 183->W.cell? ⟨g,0,Z⟩=X (E I v0)):=J (fun W g K=>by rw[hv0];rw[hmv] at K;exact U_ K 0 U U);replace hT':=J hT';replace hl':=J hl';replace oW:=J oW;replace hmv:=J hmv;replace hv0:=J hv0;have S0:=J S;have R0:=J hr;have KI:=J<|D.new w #[E I code,u A n cap] 74;have b1:=Eo w (EI #[E I code,u A n cap] 74);have S1:=J<|S0.out.B b1;have MM:=J<|Ev.Eu (lo:=lo) (hi:=hi) b1;have RW:=J<|Iq R0.out b1;clear S hn hl hk hx hnc hcap sL hr Q9 hti S0 R0;go_enter Tryz.func71,Tryz.ntmps71;go_wp2_with (with_reducible refine I2 46 ?_);refine Ed.in ?_;clear b1;generalize w.alloc (EI #[E I code,u A n cap] 74)=w1 at*;obtain⟨gi,hgi⟩:=En w.heap.size;rw[<-hgi] at KI⊢;clear hgi;have i0:w1.cell? ⟨gi,0,Z⟩=X (E I code):=(D.cell KI.out 0).trans O;have i1:w1.cell? ⟨gi,1,Z⟩=X (u A n cap):=(D.cell KI.out 1).trans O;by_cases hcode:code=0
 ·subst hcode;go_wp2_with fail;(with_reducible refine(CB.out _ RW.out 1).mono ?_);rintro e2 w2 ⟨rfl,rfl⟩;cases hb1:f9 xs 1 with
  |true=> have HB1:=J hb1;clear hb1;go_wp2_with fail;(with_reducible refine(Q7.out _ S1.out RW.out).mono ?_);rintro e7 w7 ⟨rfl,⟨m,kd,Fa,hm,s7⟩,m7⟩;have S8:=J s7;replace MM:=J<|MM.out.trans m7;clear s7 m7;go_wp2_with fail;go_end0;exact⟨O,⟨c,m,_,U,S8.out,.inr (.inl ⟨O,.inl HB1.out,kd,Fa,O,.inl O⟩)⟩,MM.out⟩
  |false=>
   have HB1:=J hb1;clear hb1;go_wp2_with fail;(with_reducible refine(CB.out _ RW.out 2).mono ?_);rintro e2 w2 ⟨rfl,rfl⟩;cases hb2:f9 xs 2 with
   |true=> have HB2:=J hb2;clear hb2;go_wp2_with fail;(with_reducible refine(Q8.out _ S1.out RW.out).mono ?_);rintro e7 w7 ⟨rfl,⟨c',m,kd,Fa,hm,s7,hc7⟩,m7⟩;have S8:=J s7;replace MM:=J<|MM.out.trans m7;clear s7 m7;go_wp2_with fail;go_end0;exact⟨O,⟨c',m,_,U,S8.out,.inr (.inl ⟨O,.inr HB2.out,kd,Fa,O,hc7⟩)⟩,MM.out⟩
   |false=>
    have HB2:=J hb2;clear hb2;obtain⟨n0,hn0⟩:=En w1.heap.size;have U0:=J (show lo<=n0/\hi<=n0/\w.heap.size<=n0 from jw);go_wp2_with fail;refine fW (Ph:=fun p wq=>(n0<=wq.heap.size/\(match p with|0=>E4 lo hi g gc gq gt gs c ns rs wq/\Ev lo hi w wq/\Row wq A xs/\D wq gi #[E I 0,u A n cap] 74|_=>E4 lo hi g gc gq gt gs {c with T:=T'} ns rs wq/\Ev lo hi w wq))) (Rel:=Jr) (If:=jB 183 12 mv) [kp gs 0,kp gs 0,kp gs 0,kp gc 0,kp gc 0,kp gc 95,kp gt 0,kq (E I k),kp gi 1,kq (u A n cap),kq (Es #[EU mv,E I cd]),kq (Es #[EU mv,E I cd]),kq (EU mv),kq (E I cd),.dep (aH 183 12 n0) (fun v w w' h hr=>h.B hr) (fun v w w' h hr=>h.sz hr),.tie [14] (fun x w=> ∃b:Nat,x 14=V (X ⟨b,0,Z⟩)/\n0<=b/\D w b mv 183) (fun x w w' h hr=>oL) (fun x y w hq h=>by rw[hq 14 Ek] at h;exact h),kq (E I cd)] [Y,Y,Y,Y,Y,Y,Y,Y,Y,Y,Y,Y,Y,Y,Y,G,Y] O [[],[],[],[],[],[],[],[],[],[],[],[],[],[],[],[14],[]] O [10,15] [(0,0),(0,0),(0,0),(0,0),(0,0),(0,0),(0,0),(0,0),(0,0),(0,0),(0,0),(1,1),(1,1),(1,2),(0,1),(1,1),(2,2)] Ec Ec Ec Ec Ec Ec On Ec ?hPh ?h0 ?hstep ?hend
    case hPh=>
     intro p w2 w3 h hr;match p,h with
     |0,h=>exact⟨Ey h.1 (Below.size hr),h.2.1.B hr,h.2.2.1.trans (Ev.Eu hr),Iq h.2.2.2.1 hr,D.B h.2.2.2.2 hr⟩
     |_+1,h=>exact⟨Ey h.1 (Below.size hr),h.2.1.B hr,h.2.2.trans (Ev.Eu hr)⟩
    case h0=> have hb:=I1 w1;exact⟨Ey (Nat.le_of_eq hn0) (Below.size hb),S1.out.B hb,MM.out.trans (Ev.Eu hb),Iq RW.out hb,D.B KI.out hb⟩
    case hstep=>
     refine⟨?_,?_,?_,?_,?_,?_,?_,?_,?_,?_,?_,?_,?_,?_,?_,?_,?_,trivial⟩;all_goals first|intro xv wq p hlo hhi hp hd|intro xv wq hp hd
     all_goals simp only[EB,Ic,Ig,IJ,IU]
     ·exact EiE
     ·exact Eim
     ·exact Eil
     ·exact EiJ
     ·exact Eik
     ·exact EiF
     ·obtain rfl:p=0:=U;have d5:xv 5=V (X ⟨gc,95,Z⟩):=hd.at 5 rfl;have cc:wq.cell? ⟨gc,95,Z⟩=X (V (X ⟨gt,0,Z⟩)):=hp.2.1.core.cell 6 rfl 0 Ek;exact Ep (by simp[go_sem,d5,cc]) O
     ·exact EiE
     ·exact EiE
     ·obtain rfl:p=0:=U;have d8:xv 8=V (X ⟨gi,1,Z⟩):=hd.at 8 rfl;have cc:wq.cell? ⟨gi,1,Z⟩=X (u A n cap):=(D.cell hp.2.2.2.2 1).trans O;exact Ep DH O
     ·have d6:xv 6=V (X ⟨gt,0,Z⟩):=hd.at 6 rfl;have d7:xv 7=E I k:=hd.at 7 rfl;have d9:xv 9=u A n cap:=hd.at 9 rfl;refine IY (f:=88) (args:= #[xv 6,xv 7,xv 9]) (Ei O) Ew ?_;rw[d6,d7,d9];refine(CT.out wq hp.2.1.core.tab hp.2.2.2.1 hp.2.1.core.roots).mono fun e w2 h=> ?_;obtain⟨he,kt,ot⟩:=h;have hS:=hp.2.1.su ot T' kt (hp.2.1.core.ok.sr HT.out.1 HT.out.2);exact⟨_,he,⟨Ea5 ot hp.2.1.core.tab EZ,Ey hp.1 ot.size,hS.1,hp.2.2.1.trans hS.2⟩,O⟩
     ·obtain rfl:p=1:=U;have d10:xv 10=Es #[EU mv,E I cd]:=hd.at 10 rfl;exact Eml
     ·obtain rfl:p=1:=U;exact EnO
     ·exact EnO
     ·exact XD (Ei O) (dn _ _ _ O) (Eo wq _) ⟨wq.heap.size,_,O,hp.1,I4 _,D.new _ _ _⟩
     ·have d12:xv 12=EU mv:=hd.at 12 rfl;obtain⟨b,c8,eA,lb,h8,kb⟩:aH 183 12 n0 (xv 14) wq:=hd.at 14 rfl;have nh:=U0.out;refine ag Oc (Ei O) ⟨O,eA,d12⟩ kb h8 dL.out jC.out ⟨xR dL.out,?_⟩ ⟨b,eA,lb,kb.setRow _⟩;obtain⟨n1,s1,m1⟩:=hp;have ho:=Od (g:=b) (W:=wq) mv;exact⟨Ey n1 ho.size,s1.xS ho kb EZ U,m1.only ho U U kb.lt⟩
     ·obtain rfl:p=2:=U;have d13:xv 13=E I cd:=hd.at 13 rfl;exact Ep sb O
    case hend=>
     intro xv W6 hp hd;simp only[EB,Ic,Ig,IJ,IU];obtain⟨gm,eA,lb,kb⟩: ∃b:Nat,xv 14=V (X ⟨b,0,Z⟩)/\n0<=b/\D W6 b mv 183:=hd 15 EZ;have a16:xv 16=E I cd:=hd 16 EZ;obtain⟨-,s6,m6⟩:=hp;replace S1:=J s6;replace MM:=J m6;have KM:=J kb;rw[eA,a16];clear s6 m6 kb hd eA a16 KI RW CT Q7 Q8 CB i0 i1;by_cases hcd:cd=0
     ·subst hcd;obtain⟨f,hf1,hf2,hf3⟩:=oY.out O;rw[<-hv0.out] at hf2;rw[<-hmv.out] at hf3;have FL:=J hf2;have FC:=J hf3;have hf1: ∀(args:Array M) (w:H),(callFunc f args).run EJ w= .ok (.enter f args) w:=hf1;clear hf2 hf3;obtain⟨n1,hn1⟩:=En W6.heap.size;go_wp2_with fail;refine fW (Ph:=fun _ wq=>E4 lo hi g gc gq gt gs {c with T:=T'} ns rs wq/\Ev lo hi w wq/\D wq gm mv 183) (Rel:=Jr) (If:=fun w w'=>w=w') [kp gs 0,.dep (fun v w=> ∃gg,v= .map (X gg)/\w.heap[gg]?=X (.map (Uq gs 9) 9)) (fun v w w' h hr=>by obtain⟨gg,h1,h2⟩:=h;exact⟨gg,h1,Ebm h2 hr⟩) (fun v w w' h hr=>UP),kp gm 0,kq (E I v0),kq (Es #[.func (.func f) #[V (X ⟨gs,0,Z⟩)] #[],Eb G]),kq (Es #[.func (.func f) #[V (X ⟨gs,0,Z⟩)] #[],Eb G]),kq (.func (.func f) #[V (X ⟨gs,0,Z⟩)] #[]),kq (Eb G),kq (.func (.func f) #[V (X ⟨gs,0,Z⟩)] #[]),kq (Eb G)] [Y,Y,Y,Y,Y,Y,Y,Y,Y,Y] O [[],[],[],[],[],[],[],[],[],[]] O [] [(0,0),(0,0),(0,0),(0,0),(0,0),(0,0),(0,0),(0,0),(0,0),(0,0)] Ec Ec Ec Ec Ec Ec On Ec ?hPh ?h0 ?hstep ?hend;case hPh=> intro p w2 w3 h hr;exact⟨h.1.B hr,h.2.1.trans (Ev.Eu hr),D.B h.2.2 hr⟩
      case h0=> have hb:=I1 W6;exact⟨S1.out.B hb,MM.out.trans (Ev.Eu hb),D.B KM.out hb⟩
      case hstep=>
       refine⟨?_,?_,?_,?_,?_,?_,?_,?_,?_,?_,trivial⟩;all_goals intro xv wq p hlo hhi hp hd
       all_goals simp only[EB,Ic,Ig,IJ,IU]
       ·exact Eja
       ·have d0:xv 0=V (X ⟨gs,0,Z⟩):=hd.at 0 rfl;refine IY (f:=89) (args:= #[xv 0]) (Ei O) Ew ?_;rw[d0];exact(EaF gs wq).mono fun e w2 h=>⟨_,h.1,h.2.2,wq.heap.size,O,h.2.1⟩
       ·exact Eja
       ·have d2:xv 2=V (X ⟨gm,0,Z⟩):=hd.at 2 rfl;have cc:wq.cell? ⟨gm,0,Z⟩=X (E I v0):=xL.out _ _ hp.2.2;exact Emw
       ·have d3:xv 3=E I v0:=hd.at 3 rfl;obtain⟨gg,eg,hg⟩: ∃gg,xv 1= .map (X gg)/\wq.heap[gg]?=X (.map (Uq gs 9) 9):=hd.at 1 rfl;exact Ir EF (Ei O) (Ebl O eg d3 (FL.out wq gg hg)) O
       ·have d4:xv 4=Es #[.func (.func f) #[V (X ⟨gs,0,Z⟩)] #[],Eb G]:=hd.at 4 rfl;exact Emb
       ·exact Elo
       ·exact Elo
       ·have d6:xv 6= .func (.func f) #[V (X ⟨gs,0,Z⟩)] #[]:=hd.at 6 rfl;exact Ep lJ O
       ·have d7:xv 7=Eb G:=hd.at 7 rfl;exact Ep dk O
      case hend=> intro xv W7 hp hd;simp only[EB,Ic,Ig,IJ,IU];have a8:xv 8= .func (.func f) #[V (X ⟨gs,0,Z⟩)] #[]:=hd 8 EZ;have a9:xv 9=Eb G:=hd 9 EZ;obtain⟨s7,m7,k7⟩:=hp;replace S1:=J s7;replace MM:=J m7;replace KM:=J k7;rw[a8,a9];clear s7 m7 k7 hd a8 a9 FL;go_wp2_with (with_reducible refine wL Oc KM ?_ (hn:=dL.out));(with_reducible refine(FC.out _ ns rs _ S1.out HN.out HL.out).mono ?_);rintro e8 w8 ⟨rfl,⟨c',m,new,hm,s8,h8⟩,m8⟩;have S8:=J s8;replace MM:=J<|MM.out.trans m8;clear s8 m8;go_wp2_with fail;go_end0;rw[hl'.out,hT'.out] at h8;exact⟨O,⟨c',m,new,hm,S8.out,.inr (.inr ⟨O,HB1.out,HB2.out,oW.out.symm,h8⟩)⟩,MM.out⟩
     ·have t9:(cd !=0)=G:=aC;have eT:T'=c.T:=by rw[hT'.out];exact Ebi _ _ _ Q_
      subst eT;go_wp2_with fail;(with_reducible refine(oh lo hi g gc gq gt gs c ns rs k cd _ S1.out Ju).mono ?_);rintro e7 w7 ⟨rfl,s7,m7⟩;have S8:=J s7;replace MM:=J<|MM.out.trans m7;clear s7 m7;go_wp2_with fail;refine EQ (results_none O _ _ _) O ?_;exact⟨O,⟨c,0,_,U,S8.out,.inl ⟨_,O,O,O,.inr (.inr (.inr Q_))⟩⟩,MM.out⟩
 ·have t9:(code !=0)=G:=by simpa using hcode
  go_wp2_with fail;(with_reducible refine(oh lo hi g gc gq gt gs c ns rs k code _ S1.out Ju).mono ?_);rintro e7 w7 ⟨rfl,s7,m7⟩;have S8:=J s7;replace MM:=J<|MM.out.trans m7;clear s7 m7;go_wp2_with fail;go_end0;exact⟨O,⟨c,0,_,U,S8.out,.inl ⟨_,O,O,O,.inl hcode⟩⟩,MM.out⟩
theorem RE(K:EV W g T)(i:Nat):D W g (T.pre i++(Oh (T.ER i).on (T.ER i).a (T.ER i).m++(([E .i64 (T.ER i).r]++((T.ER i).key.map (E .u8)++JQ (T.ER i).win))++T.post i))).toArray 163:=by unfold EV at K;rw[T.nm i] at K;simpa[IM.v] using K
theorem Ebp(g i:Nat)(T:EM)(w:H)(K:EV w g T)(h:T.ok)(hoff:(T.ER i).on=Y): Ef EJ 145 #[V (X ⟨g,so i,Z⟩)] w fun e w'=>e=Eg (Eb Y)/\w=w':=by have k:=RE K i;rw[hoff] at k;exact Kh g (so i) _ _ _ _ _ w k (EM.kh h i)
theorem Ebq(g:Nat)(T:EM)(w:H)(K:EV w g T)(hoff:T.XC=Y): Ef EJ 145 #[V (X ⟨g,0,Z⟩)] w fun e w'=>e=Eg (Eb Y)/\w=w':=by have k:D w g ([]++([Value.bool T.XC,E I T.sa,E I T.sm]++(T.s0.v++(T.s1.v++(T.s2.v++T.tl))))).toArray 163:=K;rw[hoff] at k;exact Kh g 0 _ _ _ _ _ w k O
theorem Ebr(g i:Nat)(T:EM)(w:H)(K:EV w g T)(h:T.ok)(hon:(T.ER i).on=G)(h1: -9223372036854775808<=(T.ER i).a)(h3:(T.ER i).m<=9223372036854775807): Ef EJ 145 #[V (X ⟨g,so i,Z⟩)] w fun e w'=>e=Eg (Eb (decide ((T.ER i).m<=sat (T.ER i).a (T.ER i).m)))/\EV w' g (T.put i {T.ER i with a:=sat (T.ER i).a (T.ER i).m})/\EG g w w':=by have k:=RE K i;rw[hon] at k;refine(Ki g (so i) _ _ _ _ _ w k (EM.kh h i) h1 h3).mono ?_;rintro e w' ⟨he,hk,ho⟩;refine⟨he,?_,ho⟩;unfold EV;rw[T.pT i];simpa[IM.v,hon] using hk
theorem EG.RI{a b c:H}(h:EG g a b)(k:Below a.heap.size b c):EG g a c:=
 ⟨Ey h.size k.size,fun i hi hl=>(k.block i hl).trans (h.keep i hi hl),fun i hi hl=>(h.bel i hi hl).trans (k.mono hl)⟩
theorem TM.step{a:Int}(h:TM a m):TM (sat a m) m:=by
 obtain⟨h1,h2,h3,h4⟩:=h;unfold sat;split;·exact⟨U,U,h3,h4⟩
 ·exact⟨U,U,h3,h4⟩
theorem Ebs(g i:Nat)(hi:i<3)(T:EM)(w:H)(K:EV w g T)(h:T.ok)(ht:T.Uk): Ef EJ 145 #[V (X ⟨g,so i,Z⟩)] w fun e w'=>(∃b T',e=Eg (Eb b)/\EV w' g T'/\T'.ok/\T'.Uk)/\EG g w w':=by
 cases hon:(T.ER i).on with
 |false=> refine(Ebp g i T w K h hon).mono ?_;rintro e w' ⟨rfl,rfl⟩;exact⟨⟨_,T,O,K,h,ht⟩,EG.refl _ _⟩
 |true=> have hb:=ht.ER i;refine(Ebr g i T w K h hon (by have:=hb.1;omega) (by have:=hb.2.2.2;omega)).mono ?_;rintro e w' ⟨rfl,k,o⟩;exact⟨⟨_,_,O,k,h.put i ⟨(h.ER i).len,(h.ER i).bytes,(h.ER i).win⟩,ht.put i (TM.step hb)⟩,o⟩
theorem Ebt(g:Nat)(T:EM)(w:H)(K:EV w g T)(h:T.ok)(ht:T.Uk): Ef EJ 145 #[V (X ⟨g,0,Z⟩)] w fun e w'=>(∃b T',e=Eg (Eb b)/\EV w' g T'/\T'.ok/\T'.Uk)/\EG g w w':=by
 cases hon:T.XC with
 |false=> refine(Ebq g T w K hon).mono ?_;rintro e w' ⟨rfl,rfl⟩;exact⟨⟨_,T,O,K,h,ht⟩,EG.refl _ _⟩
 |true=>
  have hb:=ht.st;have k:D w g ([]++(Oh G T.sa T.sm++(T.s0.v++(T.s1.v++(T.s2.v++T.tl))))).toArray 163:=by have K2:D w g (T.hd++(T.s0.v++(T.s1.v++(T.s2.v++T.tl)))).toArray 163:=K;unfold EM.hd at K2;rw[hon] at K2;exact K2
  refine(Ki g 0 _ _ _ _ _ w k O (by have:=hb.1;omega) (by have:=hb.2.2.2;omega)).mono ?_;rintro e w' ⟨rfl,k,o⟩;refine⟨⟨_,{T with sa:=sat T.sa T.sm},O,?_,⟨h.s0,h.s1,h.s2⟩,⟨ht.E3,TM.step hb,fun i=> ?_⟩⟩,o⟩;·show D w' g ([Value.bool T.XC,E I (sat T.sa T.sm),E I T.sm]++(T.s0.v++(T.s1.v++(T.s2.v++T.tl)))).toArray 163;rw[hon];exact k
  ·exact match i with|0=>ht.ER 0|1=>ht.ER 1|_+2=>ht.ER 2
theorem Ebu(K:EV W g T)(h:T.ok)(ht:T.Uk):EV (W.setCells g 0 [Eb Y,E I 0,E I 0]) g {T with XC:=false,sa:=0,sm:=0}/\({T with XC:=false,sa:=0,sm:=0}:EM).ok/\({T with XC:=false,sa:=0,sm:=0}:EM).Uk:=
 ⟨Xg (post:=T.s0.v++(T.s1.v++(T.s2.v++T.tl))) [Eb Y,E I 0,E I 0] T.hd [] 0 W K O O,⟨h.s0,h.s1,h.s2⟩,⟨ht.E3,(show TM 0 0 from⟨EZ,EZ,EZ,EZ⟩),fun i=>match i with|0=>ht.ER 0|1=>ht.ER 1|_+2=>ht.ER 2⟩⟩
theorem Ebv: ∃i,Tryz.prog.info? 3=X i/\i.zero=X (E I 0)/\i.size=1/\i.bytes=8:=by have h:(Tryz.prog.info? 3).map (fun i=>(i.zero,i.size,i.bytes))=X (X (E I 0),1,8):=Ec;exact Ejs
theorem Ebw:ID EJ 156 3:=⟨⟨_,Tryz.underlying156,O⟩,Ec⟩
theorem Ebx:Tryz.prog.built 156 []=X #[Eb Y,E I 0,E I 0]:=Ec
theorem Eby(g i:Nat)(hi:i<3)(W:H):(Instr.indexAt 161 (V (X ⟨g,3,Z⟩)) (E I (i:Int))).run EJ W= .ok (V (X ⟨g,so i,Z⟩)) W:=by have h:i=0\/i=1\/i=2:=U;rcases h with rfl|rfl|rfl<;>rfl
def aL(L:List Int):List M:=L.map (E .i64)
theorem Ebz(g:Nat)(T:EM)(w:H)(K:EV w g T)(h:T.ok)(ht:T.Uk): Ef EJ 101 #[V (X ⟨g,0,Z⟩)] w fun e w'=>(∃(L:List Int) (A:Option Et) (c:Nat) (T1:EM),e=Eg (u A L.length c)/\w'.ownsRow w.heap.size 3 1 (u A L.length c) L.length (aL L)/\L.length<=4/\(∀x∈L,0<=x/\x<=3)/\EV w' g T1/\T1.ok/\T1.Uk)/\EG g w w':=by
 have KT:=J K;have OK:=J h;have OT:=J ht;have II:=J Ebv;have BP:=J Ebx;have BZ:=J LA;have SZ:=J<|show JU.v.toArray.size=39 from IM.JG O;have S1:=J<|Xn JU;have SV:Ea (JU.v.toArray.toList=JU.v):=J O;have TP:=J<|fun(T:EM) W (k:EV W g T) (h:T.ok) i=>dh k h i JU O;have TT:=J<|fun(T:EM) (h:T.Uk) i=>h.put i (s:=JU) ⟨EZ,EZ,EZ,EZ⟩;have TK:=J<|fun(T:EM) (h:T.ok) i=>h.put i pS;have TH:=J<|fun(T:EM) W (k:EV W g T) (h:T.ok) (i:Nat)=>UR (o:=so i) (n:=39) k (by rw[qp k h];have:=AG i;omega);obtain⟨sv,hsv⟩:=En JU.v.toArray;rw[<-hsv] at BZ SZ S1 SV;clear hsv K h ht;generalize JU.v=sl at*;go_enter Tryz.func101,Tryz.ntmps101;go_wp2_with fail;(with_reducible refine(Ebt g T _ KT.out OK.out OT.out).mono ?_);rintro e w1 ⟨⟨b,T1,rfl,k1,ok1,RU⟩,o1⟩;replace KT:=J k1;replace OK:=J ok1;replace OT:=J RU;have ON:=J o1;clear k1 ok1 RU o1;go_upto_if 9 with(fail)
 go_cut[3] from 10 to 16 (fun v wx=> ∃(L:List Int) (A:Option Et) (c:Nat) (T1:EM),v=u A L.length c/\wx.ownsRow w.heap.size 3 1 (u A L.length c) L.length (aL L)/\L.length<=1/\(∀x∈L,0<=x/\x<=3)/\EV wx g T1/\T1.ok/\T1.Uk/\EG g w wx)
 case first=>
  cases b;·go_wp2_with fail;go_meet;exact⟨[],Z,0,T1,O,World.ownsRow_nil _ _ _ _,Ek,Ek,KT.out,OK.out,OT.out,ON.out⟩
  ·have RZ:=J<|UR (o:=0) (n:=3) KT.out (by rw[qp KT.out OK.out];omega);go_wp2_with (first|((with_reducible refine In 11 ?_);refine IP rfl 156 _ rfl #[Eb false,E I 0,E I 0] BP.out ?_)|((with_reducible refine JI 156 ?_);(with_reducible refine wpList_store_mid rfl 156 _ _ rfl g 0 #[Eb false,E I 0,E I 0] ?_ ?_ ?_ ?_ ?_ ?_);(·rfl);(·rfl);(·exact RZ.out);(·exact Ebw.2);(·simp[Value.oneCell']);refine Ed.mk ?_));refine Ed.in ?_;have hz:=Ebu KT.out OK.out OT.out;replace KT:=J hz.1;replace OK:=J hz.2.1;replace OT:=J hz.2.2;replace ON:=J<|ON.out.trans (JX (g:=g) [Eb Y,E I 0,E I 0] 0 w1);clear hz RZ;change wpList _ _ _ _ _ (w1.setCells g 0 [Eb Y,E I 0,E I 0]);generalize w1.setCells g 0 [Eb Y,E I 0,E I 0]=w2 at*;go_wp2_with (with_reducible refine I2 16 ?_);refine Ed.in ?_;have OG:Ea (World.ownsRow w2 w.heap.size 3 1 (.slice Z ([]:List Int).length 0) ([]:List Int).length (aL [])):=J<|World.ownsRow_nil _ _ _ _;have KB:=J<|D.new w2 #[E I (0)] 3;have b4:=J<|Eo w2 (EI #[E I (0)] 3);replace OG:=J<|EW OG.out fun _ _ h=>D.B h b4.out;replace KT:=J<|KT.out.B b4.out;replace ON:=J<|ON.out.trans (EG.Eu b4.out);clear b4;generalize w2.alloc (EI #[E I (0)] 3)=w7 at*;generalize w2.heap.size=gb at*;have lw:=ON.out.size;obtain⟨qA,qc,qw,UM,XL,Oz,-,-⟩:=a_ (P:=EJ) w7 w.heap.size w.heap.size 51 51 3 II.out.choose _ 1 8 Tryz.underlying51 II.out.choose_spec.1 II.out.choose_spec.2.1 II.out.choose_spec.2.2.1 II.out.choose_spec.2.2.2 rfl Z 0 0 (aL []) OG.out ⟨gb,0,Z⟩ 1 1 [E I (0)] O (fun j Y3 hu=>by rw[show(⟨gb,0,Z⟩:Et).add j=⟨gb,j,Z⟩ from U4];rw[D.cell KB.out,List.getElem?_toArray];exact hu) ct (fun _=>U) Ob U lw (E5 _);have iU:=xg (P:=EJ) w7 w.heap.size 51 51 3 II.out.choose _ 1 8 Tryz.underlying51 II.out.choose_spec.1 II.out.choose_spec.2.1 II.out.choose_spec.2.2.1 II.out.choose_spec.2.2.2 Z 0 0 (aL []) OG.out ⟨gb,0,Z⟩ 1 1 [E I (0)] O (fun j Y3 hu=>by rw[show(⟨gb,0,Z⟩:Et).add j=⟨gb,j,Z⟩ from U4];rw[D.cell KB.out,List.getElem?_toArray];exact hu) ct (fun _=>U) Ob U UM;go_wp2_with ((with_reducible refine In 16 ?_);(refine JT (Ei O) (Ov O O O UM) ?_);refine Ed.mk ?_);refine Ed.in ?_;have OL:Ea (World.ownsRow qw w.heap.size 3 1 (u qA (0+1) qc) (0+1) (aL ([]++[0]))):=J Ra;replace KT:=J<|XQ Oz KT.out EZ;replace ON:=J<|ON.out.RI (Oz.2.1 lw);clear XL Oz UM OG KB iU lw;go_wp2_with fail;go_meet;exact⟨[0],qA,qc,_,O,OL.out,Ek,Ek,KT.out,OK.out,OT.out,ON.out⟩
 case rest=>
  obtain⟨L,A,c,T2,rfl,og,hl,hb,k2,Rb,Rc,o2⟩:=hcut;clear KT OK OT ON;replace o2:=J o2;go_wp2_with fail;go_loopw[3,17] (fun v y wr=> ∃(i:Nat) (L:List Int) (A:Option Et) (c:Nat) (T1:EM),i<=3/\y=E I i/\v=u A L.length c/\wr.ownsRow w.heap.size 3 1 (u A L.length c) L.length (aL L)/\L.length<=i+1/\(∀x∈L,0<=x/\x<=3)/\EV wr g T1/\T1.ok/\T1.Uk/\EG g w wr) (fun _ y _=>3-(intOf y).toNat);case atStart=>exact⟨0,L,A,c,T2,U,O,O,og,U,hb,k2,Rb,Rc,o2.out⟩
  case round=>
   obtain⟨i,L,A,c,T3,hi,rfl,rfl,Rd,hl3,hb3,k3,Rf,Rg,o3⟩:=hrel;clear og hb k2 Rb Rc o2 hl;have OG:=J Rd;have HL:=J hl3;have HB:=J hb3;have KT:=J k3;have OK:=J Rf;have OT:=J Rg;have ON:=J o3;clear Rd hl3 hb3 k3 Rf Rg o3;by_cases hlt:i<3
   ·have t1:decide ((i:Int)<3)=G:=Ia U;have ix:=fun W=>Eby g i hlt W;have HLT:=J hlt;go_wp2_with fail;(with_reducible refine(Ebs g i HLT.out T3 _ KT.out OK.out OT.out).mono ?_);rintro e w4 ⟨⟨b,T4,rfl,k4,Rh,Ri⟩,o4⟩;replace OG:=J<|EW OG.out fun _ _ h=>o4.Em h (E7 h KT.out EZ);replace KT:=J k4;replace OK:=J Rh;replace OT:=J Ri;replace ON:=J<|ON.out.trans o4;clear k4 Rh Ri o4;cases b;·go_wp2_with fail;refine⟨⟨i+1,L,A,c,T4,U,Ek,O,OG.out,Ju,HB.out,KT.out,OK.out,OT.out,ON.out⟩,JN⟩
    ·have Rj:=J<|TH.out T4 _ KT.out OK.out i;go_wp2_with (first|((with_reducible refine In 30 ?_);refine IP rfl 160 _ rfl sv BZ.out ?_)|((with_reducible refine JI 160 ?_);(with_reducible refine wpList_store_mid rfl 160 _ _ rfl g (so i) sv ?_ ?_ ?_ ?_ ?_ ?_);(·rfl);(·rfl);(·rw[SZ.out];exact Rj.out);(·rw[SZ.out];exact Xm.2);(·exact S1.out);refine Ed.mk ?_));refine Ed.in ?_;rw[SV.out];replace OG:=J<|EW OG.out fun _ _ h=>(JX (g:=g) sl (so i) w4).Em h (E7 h KT.out EZ);replace KT:=J<|TP.out T4 _ KT.out OK.out i;replace OK:=J<|TK.out T4 OK.out i;replace OT:=J<|TT.out T4 OT.out i;replace ON:=J<|ON.out.trans (JX (g:=g) sl (so i) w4);clear Rj;generalize w4.setCells g (so i) sl=w5 at*;have p4:L.length<=4:=Ju;go_wp2_with (with_reducible refine I2 36 ?_);refine Ed.in ?_;have KB:=J<|D.new w5 #[E I ((i:Int)+1)] 3;have b4:=J<|Eo w5 (EI #[E I ((i:Int)+1)] 3);replace OG:=J<|EW OG.out fun _ _ h=>D.B h b4.out;replace KT:=J<|KT.out.B b4.out;replace ON:=J<|ON.out.trans (EG.Eu b4.out);clear b4;generalize w5.alloc (EI #[E I ((i:Int)+1)] 3)=w7 at*;generalize w5.heap.size=gb at*;have lw:=ON.out.size;obtain⟨qA,qc,qw,UM,XL,Oz,-,-⟩:=a_ (P:=EJ) w7 w.heap.size w.heap.size 51 51 3 II.out.choose _ 1 8 Tryz.underlying51 II.out.choose_spec.1 II.out.choose_spec.2.1 II.out.choose_spec.2.2.1 II.out.choose_spec.2.2.2 rfl A c L.length (aL L) OG.out ⟨gb,0,Z⟩ 1 1 [E I ((i:Int)+1)] O (fun j Y3 hu=>by rw[show(⟨gb,0,Z⟩:Et).add j=⟨gb,j,Z⟩ from U4];rw[D.cell KB.out,List.getElem?_toArray];exact hu) ct (fun _=>U) Ob U lw (E5 _);have iU:=xg (P:=EJ) w7 w.heap.size 51 51 3 II.out.choose _ 1 8 Tryz.underlying51 II.out.choose_spec.1 II.out.choose_spec.2.1 II.out.choose_spec.2.2.1 II.out.choose_spec.2.2.2 A c L.length (aL L) OG.out ⟨gb,0,Z⟩ 1 1 [E I ((i:Int)+1)] O (fun j Y3 hu=>by rw[show(⟨gb,0,Z⟩:Et).add j=⟨gb,j,Z⟩ from U4];rw[D.cell KB.out,List.getElem?_toArray];exact hu) ct (fun _=>U) Ob U UM;go_wp2_with ((with_reducible refine In 36 ?_);(refine JT (Ei O) (Ov O O O UM) ?_);refine Ed.mk ?_);refine Ed.in ?_;have OL:Ea (World.ownsRow qw w.heap.size 3 1 (u qA (L.length+1) qc) (L.length+1) (aL (L++[(i:Int)+1]))):=J Ra;replace KT:=J<|XQ Oz KT.out EZ;replace ON:=J<|ON.out.RI (Oz.2.1 lw);clear XL Oz UM OG KB iU lw;go_wp2_with fail;refine⟨⟨i+1,L++[(i:Int)+1],qA,qc,_,U,Ek,by rw[IL];rfl,by rw[IL];exact OL.out,by rw[IL,List.length_singleton];have:=HL.out;omega,?_,KT.out,OK.out,OT.out,ON.out⟩,JN⟩;intro x hx;rcases List.mem_append.1 hx with hx|hx;·exact HB.out x hx
     ·rw[List.mem_singleton] at hx;omega
   ·obtain rfl:i=3:=U;have hl4:=HL.out;go_wp2_with fail;go_ret;exact⟨⟨L,A,c,T3,O,OG.out,U,HB.out,KT.out,OK.out,OT.out⟩,ON.out⟩
def cH(m x:Int):Bool:=decide (x< -m)||decide (m<x)
def dM(m x0 x1 x2 x3:Int):Bool:=cH m x0||(cH m x1||(cH m x2||cH m x3))
theorem EbB(m x0 x1 x2 x3:Int)(w:H)(hm:0<=m/\m<=32767): Ef EJ 136 #[E I m,EU #[E I x0,E I x1,E I x2,E I x3]] w fun e w'=>e=Eg (Eb (dM m x0 x1 x2 x3))/\Eh w w':=by
 have j0: ∀w,(Instr.index 25 (EU #[E I x0,E I x1,E I x2,E I x3]) (E I 0)).run EJ w= .ok (E I x0) w:=fun _=>Ec;have j1: ∀w,(Instr.index 25 (EU #[E I x0,E I x1,E I x2,E I x3]) (E I 1)).run EJ w= .ok (E I x1) w:=fun _=>Ec;have j2: ∀w,(Instr.index 25 (EU #[E I x0,E I x1,E I x2,E I x3]) (E I 2)).run EJ w= .ok (E I x2) w:=fun _=>Ec;have j3: ∀w,(Instr.index 25 (EU #[E I x0,E I x1,E I x2,E I x3]) (E I 3)).run EJ w= .ok (E I x3) w:=fun _=>Ec;go_enter Tryz.func136,Tryz.ntmps136;go_wp2_with fail;refine wp_loop_rounds 5 ?_;rw[Ib];cases a0:decide (x0< -m)
 ·cases b0:decide (m<x0)
  ·go_wp2_with fail;rw[Ib];cases a1:decide (x1< -m)
   ·cases b1:decide (m<x1)
    ·go_wp2_with fail;rw[Ib];cases a2:decide (x2< -m)
     ·cases b2:decide (m<x2)
      ·go_wp2_with fail;rw[Ib];cases a3:decide (x3< -m)
       ·cases b3:decide (m<x3);·go_wp2_with fail;rw[Ib];go_wp2_with fail;go_ret;exact⟨Rk,Eo w _⟩
        ·go_wp2_with fail;go_ret;exact⟨Rk,Eo w _⟩
       ·go_wp2_with fail;go_ret;exact⟨by simp[dM,cH,a0,b0,a1,b1,a2,b2,a3],Eo w _⟩
      ·go_wp2_with fail;go_ret;exact⟨by simp[dM,cH,a0,b0,a1,b1,a2,b2],Eo w _⟩
     ·go_wp2_with fail;go_ret;exact⟨by simp[dM,cH,a0,b0,a1,b1,a2],Eo w _⟩
    ·go_wp2_with fail;go_ret;exact⟨by simp[dM,cH,a0,b0,a1,b1],Eo w _⟩
   ·go_wp2_with fail;go_ret;exact⟨by simp[dM,cH,a0,b0,a1],Eo w _⟩
  ·go_wp2_with fail;go_ret;exact⟨by simp[dM,cH,a0,b0],Eo w _⟩
 ·go_wp2_with fail;go_ret;exact⟨by simp[dM,cH,a0],Eo w _⟩
def jG(ms mb r:Int)(va:Bool)(x0 x1 x2 x3:Int):Int×Bool:=if(va&&dM mb x0 x1 x2 x3)=G then(sat (max r 0) ms,decide (ms<=sat (max r 0) ms)) else(0,Y)
theorem EbC{ms mb:Int}(hs:1<=ms/\ms<=1000)(hr:0<=r/\r<=1000)(va:Bool)(x0 x1 x2 x3:Int):0<=(jG ms mb r va x0 x1 x2 x3).1/\(jG ms mb r va x0 x1 x2 x3).1<=1000:=by
 unfold jG;split;·simp only[sat];split<;>omega
 ·exact⟨EZ,EZ⟩
theorem EbD:ID EJ 25 4:=⟨⟨_,Tryz.underlying25,O⟩,Ec⟩
theorem EbF(g:Nat->M)(ms mb:Int)(hs:g 46=E I ms)(hb:g 47=E I mb)(hs2:1<=ms/\ms<=1000)(hb2:0<=mb/\mb<=32767)(r:Int)(hr:0<=r/\r<=1000)(va gv:Bool)(x0 x1 x2 x3:Int)(w:H): Ef EJ 92 #[EU (EH 56 g),E I r,EU #[Eb va,E I x0,E I x1,E I x2,E I x3,Eb gv]] w fun e w'=>e=Eg (Es #[E I (jG ms mb r va x0 x1 x2 x3).1,Eb (jG ms mb r va x0 x1 x2 x3).2])/\Eh w w':=by
 have Rl:=J<|fun W=>EbB mb x0 x1 x2 x3 W hb2;obtain⟨bb,hby⟩:=En (dM mb x0 x1 x2 x3);have Fb:Ea (jG ms mb r va x0 x1 x2 x3=if(va&&bb)=G then(sat (max r 0) ms,decide (ms<=sat (max r 0) ms)) else(0,Y)):=J (by rw[hby];rfl);rw[<-hby] at Rl;have HR:=J hr;have HS2:=J hs2;obtain⟨pv,hpv⟩:=En (EH 56 g);have Rm:Ea (pv[46]?=X (E I ms)):=J (by rw[hpv,<-hs];simp[EH]);have PC2:Ea (pv[47]?=X (E I mb)):=J (by rw[hpv,<-hb];simp[EH]);rw[<-hpv];clear hpv hs hb hs2 hb2 hr hby;go_enter Tryz.func92,Tryz.ntmps92;go_wp2_with (with_reducible refine I2 9 ?_);refine Ed.in ?_;generalize hW:World.alloc _ _=w1 at*;have KP:Ea (D w1 (w.heap.size) pv 28):=J (by subst hW;repeat (first|exact D.new _ _ _|exact D.new' _ _ _ Ek|refine D.alloc ?_ _));have KS:Ea (D w1 (w.heap.size+1) #[Eb va,E I x0,E I x1,E I x2,E I x3,Eb gv] 46):=J (by subst hW;repeat (first|exact D.new _ _ _|exact D.new' _ _ _ Ek|refine D.alloc ?_ _));have b1:Ea (Eh w w1):=J (by subst hW;(repeat (first|exact E6 _ _|(refine Below.alloc ?_ Io _)|(refine Below.setCell ?_ Io _))));clear hW;obtain⟨gb,hgb⟩:=En (w.heap.size+1);obtain⟨gp,O8⟩:=En w.heap.size;rw[<-hgb] at KS⊢;rw[<-O8] at KP;rw[show w.heap.size=gp from O8.symm];clear hgb O8;have c0:w1.cell? ⟨gb,0,Z⟩=X (Eb va):=(D.cell KS.out 0).trans O;have c47:w1.cell? ⟨gp,47,Z⟩=X (E I mb):=(D.cell KP.out 47).trans PC2.out;cases va with
 |false=> go_wp2_with fail;go_ret2;refine⟨?_,b1.out⟩;rw[Fb.out];rfl
 |true=>
  go_wp2_with ((with_reducible refine dI 25 ?_);(with_reducible refine iY (g:=gb) (off:=1) (cs:= #[E I x0,E I x1,E I x2,E I x3]) EbD ?_ ?_ KS ?_ ?_ ?_);(·first|exact Ei rfl|(simp[IQ,yielded];done));(·exact⟨O,O⟩);(·rfl);(·simp));(with_reducible refine(Rl.out _).mono ?_);rintro e w2 ⟨rfl,b2⟩;replace KP:=EN KP b2;replace b1:=ET b1 b2;clear b2 c0 c47 KS;cases bb with
  |false=> go_wp2_with fail;go_ret2;refine⟨?_,b1.out⟩;rw[Fb.out];rfl
  |true=>
   have c46:w2.cell? ⟨gp,46,Z⟩=X (E I ms):=(D.cell KP.out 46).trans Rm.out;have h1:=HR.out;have h2:=HS2.out;go_wp2_with fail;(with_reducible refine(pH (max r 0) ms _ U U).mono ?_);rintro e w3 ⟨rfl,rfl⟩;go_wp2_with fail;have y46: ∀y:Ext w2,(Ex w2 y).cell? ⟨gp,46,Z⟩=X (E I ms):=fun y=>(D.cell (D.B KP.out (EC y)) 46).trans Rm.out;refine Uv Ec Ec ?_
   repeat (first
    |go_big_quiet_skip
    |(go_big_quiet_want
      first
       |(go_big_quiet_op
         first
          |go_big_quiet_on
          |go_big_quiet_call (fail))))
   refine wpQuiet_nil ?_;intro _ hw';obtain⟨y9,rfl⟩:=hw';have El:=EC y9;replace b1:=ET b1 El;clear y46 KP El c46;generalize Ex w2 y9=w4 at*;go_wp2_with fail;go_ret2;refine⟨?_,b1.out⟩;rw[Fb.out];rfl
def sM(c c':EA)(new:List Rec):Prop:=
 (∃L' cd,c'={c with q:=L'}/\new=[⟨7,0,c.samples,c.tok.e,cd,0⟩])
 \/(∃L' t2 hw,t2.ok/\t2.e=c.tok.e+1/\t2.o= -1/\c'={c with tok:=t2,q:=L'}/\new=[⟨8,t2.h,c.samples,t2.e,0,hw⟩])
 \/(new=[⟨6,0,c.samples,c.tok.e,0,0⟩]/\ ∃p:Pt,p.b=⟨1,0,c.samples⟩/\c'={c with pt:=p})
theorem EbL(lo hi:Nat)(g:Nat->M)(gc gq gt gs:Nat)(c:EA)(ns:Nat)(rs:List Rec)(w:H)(S:E4 lo hi g gc gq gt gs c ns rs w)(hn:ns<800000)(hl:rs.length<800000): Ef EJ 93 #[V (X ⟨gs,0,Z⟩)] w fun e w'=>e=Eg (Es #[])/\(∃c' m new,m<=3/\E4 lo hi g gc gq gt gs c' (ns+m) (rs++new) w'/\sM c c' new)/\Ev lo hi w w':=by
 have XA:=fun W q=>QJ lo gq c.q (pn g 48) 0 c.tok W S.core.lq q S.core.ok.q xy;obtain⟨Ik,OD,Un,XE⟩: ∃Ik,c.tok.a=EU Ik/\Ea (Ik.size=8)/\Ea (c.tok.v.toArray=Ik):=⟨_,O,J O,J O⟩;have S1:=J S;have HN:=J hn;have HL:=J hl;have MM:=J<|Ev.refl lo hi w;obtain⟨sm,hsm⟩:=En c.samples;replace hsm:=J hsm;clear S hn hl;have CA:Ea (∀W,JZ W lo gq c.q (pn g 48)->Ef EJ 137 #[EU Ik,V (X ⟨gq,0,Z⟩),E I 0] W _):=J (fun W q=>Qr);obtain⟨PQ,hPQ⟩: ∃PQ:Array M->Int->Prop,PQ=fun rv cd=> ∃t2:EL,t2.a=EU rv/\rv.size=8/\rv.all (·.oneCell')=G/\oz c.tok c.q 0 t2 cd:=⟨_,O⟩;have mZ:Ea (∀(t2:EL) (rv:Array M) (cd:Int),t2.a=EU rv->rv.size=8->rv.all (·.oneCell')=G->oz c.tok c.q 0 t2 cd->PQ rv cd):=J (fun t2 rv cd h1 h2 h3 h4=>xz);have ma:Ea (∀rv cd,PQ rv cd->rv.size=8/\rv.all (·.oneCell')=G):=J (fun rv cd h=>xA);replace hPQ:=J hPQ;clear XA OD;obtain⟨n0,hn0⟩:=En w.heap.size;have U0:=J (show lo<=n0/\hi<=n0/\w.heap.size<=n0 by have:=S1.out.Z8;have:=S1.out.dz;omega);go_enter Tryz.func93,Tryz.ntmps93;go_wp2_with fail;refine fW (Ph:=fun p wq=>n0<=wq.heap.size/\(match p with|0=>(E4 lo hi g gc gq gt gs c ns rs wq/\Ev lo hi w wq)|_=>(∃L':List One,E4 lo hi g gc gq gt gs {c with q:=L'} ns rs wq/\Ev lo hi w wq))) (Rel:=Jr) (If:=ic) [kp gs 0,kp gs 0,kp gs 0,kp gc 0,kp gc 0,kp gc 56,kq (EU Ik),kp gs 0,kp gs 0,kp gs 0,kp gc 0,kp gc 0,kp gc 64,kp gq 0,.val (fun v=> ∃(rv:Array M) (cd:Int),PQ rv cd/\v=Es #[EU rv,E I cd]),.val (fun v=> ∃(rv:Array M) (cd:Int),PQ rv cd/\v=Es #[EU rv,E I cd]),.ZA [15,16] (fun x=> ∃(rv:Array M) (cd:Int),PQ rv cd/\x 15=Es #[EU rv,E I cd]/\x 16=EU rv) (fun x y hq h=>by simpa only[hq 15 Ek,hq 16 Ek] using h),.ZA [15,17] (fun x=> ∃(rv:Array M) (cd:Int),PQ rv cd/\x 15=Es #[EU rv,E I cd]/\x 17=E I cd) (fun x y hq h=>by simpa only[hq 15 Ek,hq 17 Ek] using h),.dep (X1 n0) (fun v w w' h hr=>h.B hr) (fun v w w' h hr=>h.dC hr),.tie [18,16] (fun x w=> ∃(b:Nat) (rv:Array M),x 18=V (X ⟨b,0,Z⟩)/\x 16=EU rv/\n0<=b/\D w b rv 109) (fun x w w' h hr=>xB) (fun x y w hq h=>by rw[hq 18 Ek,hq 16 Ek] at h;exact h),.ZA [17,20] (fun x=>x 20=x 17) (fun x y hq h=>by simpa only[hq 17 Ek,hq 20 Ek] using h)] [Y,Y,Y,Y,Y,Y,Y,Y,Y,Y,Y,Y,Y,Y,Y,Y,Y,Y,Y,G,Y] O [[],[],[],[],[],[],[],[],[],[],[],[],[],[],[],[],[15,16],[15,17],[],[18,16],[17,20]] O [14,19] [(0,0),(0,0),(0,0),(0,0),(0,0),(0,0),(0,0),(0,0),(0,0),(0,0),(0,0),(0,0),(0,0),(0,0),(0,0),(1,1),(1,1),(1,2),(0,1),(1,1),(2,2)] Ec Ec Ec Ec Ec Ec On Ec ?hPh ?h0 ?hstep ?hend
 case hPh=>
  intro p w2 w3 h hr;match p,h with
  |0,h=>exact⟨Ey h.1 (Below.size hr),h.2.1.B hr,h.2.2.trans (Ev.Eu hr)⟩
  |_+1,h=> obtain⟨nn,L',s,m⟩:=h;exact⟨Ey nn (Below.size hr),L',s.B hr,m.trans (Ev.Eu hr)⟩
 case h0=> exact Elg
 case hstep=>
  refine⟨?_,?_,?_,?_,?_,?_,?_,?_,?_,?_,?_,?_,?_,?_,?_,?_,?_,?_,?_,?_,?_,trivial⟩;all_goals first|intro xv wq p hlo hhi hp hd|intro xv wq hp hd
  all_goals simp only[EB,Ic,Ig,IJ,IU]
  ·exact EiE
  ·exact Eim
  ·exact Eil
  ·exact EiJ
  ·exact Eik
  ·exact EiF
  ·exact EmT
  ·exact EiE
  ·exact EjU
  ·exact EjO
  ·exact EiK
  ·exact EjI
  ·exact EjE
  ·exact Ej6
  ·have d6:xv 6=EU Ik:=hd.at 6 rfl;have d13:xv 13=V (X ⟨gq,0,Z⟩):=hd.at 13 rfl;refine IY (f:=137) (args:= #[xv 6,xv 13,E I 0]) (Ei O) Ew ?_;rw[d6,d13];refine(CA.out wq hp.2.1.core.XV).mono fun e w2 h=> ?_;obtain⟨⟨t2,cd,L2,he,hf,sq,q2⟩,m2⟩:=h;obtain⟨rv,Iy,hs,ho⟩:=Xw t2;exact⟨_,he,⟨m2.dC,Ey hp.1 m2.bel.size,L2,hp.2.1.cD m2 L2 q2 (hp.2.1.core.ok.sub sq),hp.2.2.trans (m2.fM hi)⟩,rv,cd,mZ.out t2 rv cd Iy hs ho hf,congrArg (fun v=>Value.tuple #[v,E I cd]) Iy⟩
  ·obtain rfl:p=1:=U;obtain⟨rv,cd,hpq,e14⟩: ∃(rv:Array M) (cd:Int),PQ rv cd/\xv 14=Es #[EU rv,E I cd]:=hd.at 14 rfl;exact Ep (by simp[go_sem,e14]) ⟨rv,cd,hpq,O⟩
  ·obtain rfl:p=1:=U;exact Ekw
  ·exact Ekw
  ·exact Ejw
  ·obtain⟨b,d0,eA,lb,h8,kb⟩:X1 n0 (xv 18) wq:=hd.at 18 rfl;have nh:=U0.out;obtain⟨rv,cd,hpq,-,e16⟩: ∃(rv:Array M) (cd:Int),PQ rv cd/\xv 15=Es #[EU rv,E I cd]/\xv 16=EU rv:=hd.at 16 rfl;have hsz:=ma.out _ _ hpq;obtain⟨nn,L',s,m⟩:=hp;refine ag EP (Ei O) ⟨O,eA,e16⟩ kb h8 hsz.1 hsz.2 ⟨oH kb hsz.1,?_⟩ ⟨b,rv,eA,e16,lb,kb.setRow _⟩;exact Emr
  ·obtain rfl:p=2:=U;obtain⟨rv,cd,hpq,-,e17⟩: ∃(rv:Array M) (cd:Int),PQ rv cd/\xv 15=Es #[EU rv,E I cd]/\xv 17=E I cd:=hd.at 17 rfl;exact Ep (by simp[go_sem,e17]) (e17.symm)
 case hend=>
  intro xv W6 hp hd;clear S1 MM;simp only[EB,Ic,Ig,IJ,IU];obtain⟨rv,cd,hpq,eM,e16⟩: ∃(rv:Array M) (cd:Int),PQ rv cd/\xv 15=Es #[EU rv,E I cd]/\xv 16=EU rv:=hd 16 EZ;obtain⟨b,dD,eA,eE,lb,kb⟩: ∃(b:Nat) (rv:Array M),xv 18=V (X ⟨b,0,Z⟩)/\xv 16=EU rv/\n0<=b/\D W6 b rv 109:=hd 19 EZ;have mc:dD=rv:=by rw[eE] at e16;injection e16
  subst mc;have a20:xv 20=E I cd:=by have h1:xv 20=xv 17:=hd 20 EZ;obtain⟨xF,DN,-,f1,f2⟩: ∃(rv:Array M) (cd:Int),PQ rv cd/\xv 15=Es #[EU rv,E I cd]/\xv 17=E I cd:=hd 17 EZ;exact Ekn
  obtain⟨-,L',s6,m6⟩:=hp;have S1:=J s6;have MM:=J m6;have KB:=J kb;rw[eA,a20];rw[hPQ.out] at hpq;obtain⟨t2,Iy,hs,ho,hf⟩:=hpq;have OC:=J Iy;have RS:=J hs;have HF:=J hf;clear s6 m6 kb hd eA a20 CA Iy hs ho hf eM eE;by_cases hcd:cd=0
  ·subst hcd
   have HT2:Ea (t2.ok/\t2.e=c.tok.e+1/\t2.o= -1):=J (by
    rcases HF.out with⟨a1,-⟩|⟨-,-,-,x,-,a2⟩;·exact absurd O a1
    ·exact⟨(cG S1.out.core.ok.tok a2).1,(cG S1.out.core.ok.tok a2).2.1,(cG S1.out.core.ok.tok a2).2.2.2⟩)
   go_wp2_with fail;have y0: ∀y:Ext W6,(Ex W6 y).cell? ⟨gs,0,Z⟩=X (V (X ⟨gc,0,Z⟩)):=fun y=>(S1.out.B (EC y)).Iu;have y96: ∀y:Ext W6,(Ex W6 y).cell? ⟨gc,96,Z⟩=X (E I sm):=fun y=>by rw[hsm.out];exact(S1.out.B (EC y)).core.cell 7 rfl 0 Ek
   refine JB 9 Ec Ec ?_;simp only[Il,Ij,Iz,Ix]
   repeat (first
    |go_big_quiet_skip
    |(go_big_quiet_want
      first
       |(refine Oj (T:=109) (g:=b) EP _ rfl rfl KB ?_ ?_;(·exact RS.out);go_simp;go_big_quiet_on)
       |(go_big_quiet_op
         first
          |go_big_quiet_on
          |go_big_quiet_call (fail))))
   refine wpQuiet_nil ?_;intro _ hw';obtain⟨y9,rfl⟩:=hw';have El:=EC y9;replace S1:=J<|S1.out.B El;replace MM:=J<|MM.out.trans (Ev.Eu El);clear y0 y96 El KB;generalize Ex W6 y9=w9 at*;go_wp2_with fail;rw[<-OC.out];(with_reducible refine(ju lo hi g gc gq gt gs _ ns rs t2 2 sm _ S1.out HT2.out.1 JP Ju).mono ?_);rintro e7 w7 ⟨rfl,⟨L2,m7,UV,sq,s7⟩,Uo⟩;have S8:=J s7;replace MM:=J<|MM.out.trans Uo;have jx:=J UV;clear s7 Uo sq UV;go_wp2_with fail;go_end0;refine⟨O,⟨_,m7,_,mX,S8.out,.inr (.inl ⟨L2,t2,2,HT2.out.1,HT2.out.2.1,HT2.out.2.2,O,?_⟩)⟩,MM.out⟩;rw[hsm.out]
  ·have t9:(cd !=0)=G:=aC;have z0:=S1.out.Iu;have iw:W6.cell? ⟨gc,96,Z⟩=X (E I sm):=by rw[hsm.out];exact S1.out.core.cell 7 rfl 0 Ek
   go_wp2_with fail;(with_reducible refine(Xs lo hi g gc gq gt gs _ ns rs 7 0 sm cd 0 _ S1.out Ju).mono ?_);rintro e7 w7 ⟨rfl,s7,m7⟩;have S8:=J s7;replace MM:=J<|MM.out.trans m7;clear s7 m7 z0 iw;go_wp2_with fail;refine EQ (results_none O _ _ _) O ?_;refine⟨O,⟨_,0,_,U,S8.out,.inl ⟨L',cd,O,?_⟩⟩,MM.out⟩;rw[hsm.out]
theorem EbM(lo hi:Nat)(g:Nat->M)(gc gq gt gs:Nat)(c:EA)(ns:Nat)(rs:List Rec)(w:H)(S:E4 lo hi g gc gq gt gs c ns rs w)(hn:ns<800000)(hl:rs.length<800000): Ef EJ 95 #[V (X ⟨gs,0,Z⟩)] w fun e w'=>e=Eg (Es #[])/\(∃c' m new,m<=3/\E4 lo hi g gc gq gt gs c' (ns+m) (rs++new) w'/\sM c c' new)/\Ev lo hi w w':=by
 have XA:=fun W=>ny c.tok 0 W xy;obtain⟨Ik,OD,Un,XE⟩: ∃Ik,c.tok.a=EU Ik/\Ea (Ik.size=8)/\Ea (c.tok.v.toArray=Ik):=⟨_,O,J O,J O⟩;have S1:=J S;have HN:=J hn;have HL:=J hl;have MM:=J<|Ev.refl lo hi w;obtain⟨sm,hsm⟩:=En c.samples;replace hsm:=J hsm;clear S hn hl;cases hr:c.tok.Ow 0 with|mk t2 cd=>
 obtain⟨rv,Iy,RS,RO⟩:=Xw t2;have RS:=J RS;have RO:=J RO;have OC:=J Iy;have HR:=J hr;have CA:Ea (∀W,Ef EJ 140 #[EU Ik,E I 0] W fun x w'=>x=Eg (Es #[EU rv,E I cd])/\Eh W w'):=J (fun W=>by have h:=XA W;rw[hr,OD] at h;rw[<-Iy];exact h);clear hr Iy XA OD;have z0:=S1.out.Iu;obtain⟨big,KB,OY⟩:=aD S1.out.core;have KB:=J KB;have aF:Ea (big.extract 56 (56+8)=Ik):=J<|(OY 1 c.tok.v O).trans XE.out;clear OY;go_enter Tryz.func95,Tryz.ntmps95;go_wp2_with (with_reducible refine wM (off:=56) (cs:=Ik) EP KB ?_ (hn:=Un.out) (he:=aF.out));(with_reducible refine(CA.out _).mono ?_);rintro e6 w6 ⟨rfl,b6⟩;replace S1:=J<|S1.out.B b6;replace MM:=J<|MM.out.trans (Ev.Eu b6);clear b6 z0 KB;have K0:=J<|D.new w6 #[E I 0,E I 0,E I 0,E I 0,E I 0,E I 0,E I 0,Eb Y] 109;have b2:=Eo w6 (EI #[E I 0,E I 0,E I 0,E I 0,E I 0,E I 0,E I 0,Eb Y] 109);go_wp2_with (with_reducible first|refine wA ig ?_|refine wS (cs:=rv) EP K0 (Ed.mk ?_) (hn:=RS.out) (h1:=RO.out));refine Ed.in ?_;obtain⟨b,hgm⟩:=En w6.heap.size;rw[<-hgm] at K0⊢;generalize w6.alloc (EI #[E I 0,E I 0,E I 0,E I 0,E I 0,E I 0,E I 0,Eb Y] 109)=w7 at*;have KB:=J<|K0.out.setRow rv;have b3:=E2 (g:=b) b2 (Nat.le_of_eq hgm.symm) rv;generalize w7.setRow b rv=w8 at*;clear K0 b2 hgm;replace S1:=J<|S1.out.B b3;replace MM:=J<|MM.out.trans (Ev.Eu b3);clear b3;by_cases hcd:cd=0
 ·subst hcd;have HT2:=J<|cG S1.out.core.ok.tok HR.out;go_wp2_with fail;have y0: ∀y:Ext w8,(Ex w8 y).cell? ⟨gs,0,Z⟩=X (V (X ⟨gc,0,Z⟩)):=fun y=>(S1.out.B (EC y)).Iu;have y96: ∀y:Ext w8,(Ex w8 y).cell? ⟨gc,96,Z⟩=X (E I sm):=fun y=>by rw[hsm.out];exact(S1.out.B (EC y)).core.cell 7 rfl 0 Ek
  refine JB 9 Ec Ec ?_;simp only[Il,Ij,Iz,Ix]
  repeat (first
   |go_big_quiet_skip
   |(go_big_quiet_want
     first
      |(refine Oj (T:=109) (g:=b) EP _ rfl rfl KB ?_ ?_;(·exact RS.out);go_simp;go_big_quiet_on)
      |(go_big_quiet_op
        first
         |go_big_quiet_on
         |go_big_quiet_call (fail))))
  refine wpQuiet_nil ?_;intro _ hw';obtain⟨y9,rfl⟩:=hw';have El:=EC y9;replace S1:=J<|S1.out.B El;replace MM:=J<|MM.out.trans (Ev.Eu El);clear y0 y96 El KB;generalize Ex w8 y9=w9 at*;go_wp2_with fail;rw[<-OC.out];(with_reducible refine(ju lo hi g gc gq gt gs _ ns rs t2 4 sm _ S1.out HT2.out.1 JP Ju).mono ?_);rintro e7 w7 ⟨rfl,⟨L2,m7,UV,sq,s7⟩,Uo⟩;have S8:=J s7;replace MM:=J<|MM.out.trans Uo;have jx:=J UV;clear s7 Uo sq UV;go_wp2_with fail;go_end0;refine⟨O,⟨_,m7,_,mX,S8.out,.inr (.inl ⟨L2,t2,4,HT2.out.1,HT2.out.2.1,HT2.out.2.2.2,O,?_⟩)⟩,MM.out⟩;rw[hsm.out]
 ·have t9:(cd !=0)=G:=aC;have z0:=S1.out.Iu;have iw:w8.cell? ⟨gc,96,Z⟩=X (E I sm):=by rw[hsm.out];exact S1.out.core.cell 7 rfl 0 Ek
  go_wp2_with fail;(with_reducible refine(Xs lo hi g gc gq gt gs _ ns rs 7 0 sm cd 0 _ S1.out Ju).mono ?_);rintro e7 w7 ⟨rfl,s7,m7⟩;have S8:=J s7;replace MM:=J<|MM.out.trans m7;clear s7 m7 z0 iw;go_wp2_with fail;refine EQ (results_none O _ _ _) O ?_;refine⟨O,⟨_,0,_,U,S8.out,.inl ⟨c.q,cd,O,?_⟩⟩,MM.out⟩;rw[hsm.out]
theorem Fc:Og EJ 36 #[E I 0,E I 0,E I 0]:=by exact Eiz
theorem EbN(ep:Int):Tryz.prog.built 183 [(0,E I 11),(4,E I ep),(6,E I 1)]=X (ED [11,0,0,0,ep,0,1,0,0,0,0,0]):=Ec
theorem EbP(a b c:Int):Tryz.prog.built 36 [(0,E I a),(1,E I b),(2,E I c)]=X #[E I a,E I b,E I c]:=Ec
theorem EbQ(lo hi:Nat)(g:Nat->M)(gc gq gt gs:Nat)(c:EA)(ns:Nat)(rs:List Rec)(va gv:Bool)(x0 x1 x2 x3:Int)(w:H)(S:E4 lo hi g gc gq gt gs c ns rs w)(hx:I3 x0/\I3 x1/\I3 x2/\I3 x3)(hn:ns<800000)(hl:rs.length<800000): Ef EJ 94 #[V (X ⟨gs,0,Z⟩),EU #[Eb va,E I x0,E I x1,E I x2,E I x3,Eb gv]] w fun e w'=>e=Eg (Es #[])/\(∃c' m new,m<=3/\E4 lo hi g gc gq gt gs c' (ns+m) (rs++new) w'/\sM c c' new)/\Ev lo hi w w':=by
 obtain⟨ep,Rn⟩:=En c.tok.e;obtain⟨jd,oM⟩: ∃jd:Int,∀W,Uz W->Ef EJ 138 #[EU (EH 56 g),EU c.tok.v.toArray,E I 0,E I 0,E I c.mode,EU (ED [11,0,0,0,ep,0,1,0,0,0,0,0])] W fun e w'=>e=Eg (E I jd)/\Eh W w':=⟨_,fun W hc=>Pd g c.tok.h c.tok.e 0 0 c.mode 11 ep 0 1 (E I c.tok.o) (E I c.tok.oa) (E I c.tok.om) (E I c.tok.la) (E I c.tok.lm) (Eb c.tok.bad) (E I 0) (E I 0) (E I 0) (Eb Y) (E I 0) (E I 0) (E I 0) (E I 0) W (fun i h1 h2=>S.core.U8.int i h2 (.inr U)) hc⟩;obtain⟨p,hpo,hpb,ii⟩: ∃p:Pt,p.ok/\p.b=⟨1,0,c.samples⟩/\ ∀W,Ef EJ 139 #[EU (EH 56 g),EU c.pt.v.toArray,E I 1,EU #[E I x0,E I x1,E I x2,E I x3],EU #[E I 1,E I 0,E I c.samples]] W fun e w'=>e=Eg (EU p.v.toArray)/\Eh W w':=QD g c.pt S.core.U8.fit S.core.ok.pt 0 c.samples 1 x0 x1 x2 x3 U hx.1 hx.2.1 hx.2.2.1 hx.2.2.2;have S0:=J S;have HN:=J hn;have HL:=J hl;have CJ:=J oM;have dB:=J hpo;have XK:=J hpb;have Ro:=J<|EbN ep;have HEP:=J Rn;obtain⟨sm,hsm⟩:=En c.samples;replace hsm:=J hsm;have CS:=J ii;rw[<-hsm.out] at CS;have D4:=J<|EbP 1 0 sm;have KS:=J<|D.new w #[Eb va,E I x0,E I x1,E I x2,E I x3,Eb gv] 46;have b1:=Eo w (EI #[Eb va,E I x0,E I x1,E I x2,E I x3,Eb gv] 46);have S1:=J<|S0.out.B b1;have MM:=J<|Ev.Eu (lo:=lo) (hi:=hi) b1;have dL:=J<|I4 [11,0,0,0,ep,0,1,0,0,0,0,0];have jC:=J<|XG [11,0,0,0,ep,0,1,0,0,0,0,0];obtain⟨mv,hmv⟩:=En (ED [11,0,0,0,ep,0,1,0,0,0,0,0]);rw[<-hmv] at CJ Ro dL jC;clear S hn hl oM hpo hpb ii Rn hmv hx S0;have z0:=S1.out.Iu;have z57:(w.alloc (EI #[Eb va,E I x0,E I x1,E I x2,E I x3,Eb gv] 46)).cell? ⟨gc,57,Z⟩=X (E I ep):=by rw[HEP.out];exact S1.out.core.cell 1 rfl 1 XW
 go_enter Tryz.func94,Tryz.ntmps94;go_wp2_with (with_reducible refine I2 15 ?_);refine Ed.in ?_;clear b1 z0 z57;generalize w.alloc (EI #[Eb va,E I x0,E I x1,E I x2,E I x3,Eb gv] 46)=w1 at*;obtain⟨gb,hgb⟩:=En w.heap.size;rw[<-hgb] at KS⊢;clear hgb;have K0:=J<|D.new w1 (ED (IZ 0)) 183;have b2:=Eo w1 (EI (ED (IZ 0)) 183);go_wp2_with (first|((with_reducible refine In 15 ?_);refine IP rfl 183 _ rfl mv Ro.out ?_)|(with_reducible refine wA dn ?_)|(with_reducible refine wS (cs:=mv) Oc K0 (Ed.mk ?_) (ho:=I4 _) (hn:=dL.out) (h1:=jC.out)));refine Ed.in ?_;obtain⟨gm,hgm⟩:=En w1.heap.size;rw[<-hgm] at K0⊢;generalize w1.alloc (EI (ED (IZ 0)) 183)=w2 at*;have KM:=J<|K0.out.setRow mv;have b3:=E2 (g:=gm) b2 (Nat.le_of_eq hgm.symm) mv;generalize w2.setRow gm mv=w3 at*;clear K0 b2 hgm;replace KS:=EN KS b3;replace S1:=J<|S1.out.B b3;replace MM:=J<|MM.out.trans (Ev.Eu b3);clear b3;go_wp2_with fail;obtain⟨d0,d1,d2,hd,KG,o0,o1,o2,-,-⟩:=S1.out.core.Em;have Up:=J<|J4 (c:=c) (gq:=gq) (gt:=gt) (hd:=hd) (Jj g) o0 o1 o2 0 U;have sF:=J<|J4 (c:=c) (gq:=gq) (gt:=gt) (hd:=hd) (Jj g) o0 o1 o2 1 U;have KG:=J KG;have PL:=J<|Jj g;have Ud:Ea ((EH 56 g).toList.toArray=EH 56 g):=J Ek;clear o0 o1 o2;have xN:=J S1.out.core.cmds;have y0: ∀y:Ext w3,(Ex w3 y).cell? ⟨gs,0,Z⟩=X (V (X ⟨gc,0,Z⟩)):=fun y=>(S1.out.B (EC y)).Iu;have y98: ∀y:Ext w3,(Ex w3 y).cell? ⟨gc,98,Z⟩=X (E I c.mode):=fun y=>(S1.out.B (EC y)).core.cell 9 rfl 0 Ek;refine Uv Ec Ec ?_
 repeat (first
  |go_big_quiet_skip
  |(go_big_quiet_want
    first
     |(refine Xa (T:=28) (g:=gc) (off:=0) UZ _ rfl rfl KG 0 rfl Up.out PL.out ?_;(try rw[Ud.out]);go_simp;go_big_quiet_on)
     |(refine Xa (T:=109) (g:=gc) (off:=56) EP _ rfl rfl KG 1 rfl sF.out rfl ?_;(try rw[Ud.out]);go_simp;go_big_quiet_on)
     |(refine Oj (T:=183) (g:=gm) QC _ rfl rfl KM ?_ ?_;(·exact dL.out);go_simp;go_big_quiet_on)
     |(go_big_quiet_op
       first
        |go_big_quiet_on
        |go_big_quiet_call (with_reducible refine X6 (CJ.out _ (xN.out.B (EC _)))))))
 refine wpQuiet_nil ?_;intro _ hw';obtain⟨y9,rfl⟩:=hw';have El:=EC y9;replace KS:=EN KS El;replace S1:=J<|S1.out.B El;replace MM:=J<|MM.out.trans (Ev.Eu El);clear y0 y98 El KG Up sF PL Ud xN KM CJ;generalize Ex w3 y9=w4 at*;by_cases hjd:jd=0
 ·subst hjd;have z0:=S1.out.Iu;have iw:w4.cell? ⟨gc,96,Z⟩=X (E I sm):=by rw[hsm.out];exact S1.out.core.cell 7 rfl 0 Ek
  have K0:=J<|D.new w4 #[E I 0,E I 0,E I 0] 36;have b2:=Eo w4 (EI #[E I 0,E I 0,E I 0] 36);go_wp2_with (first|((with_reducible refine In 58 ?_);refine IP rfl 36 _ rfl #[E I 1,E I 0,E I sm] D4.out ?_)|(with_reducible refine wA Fc ?_)|(with_reducible refine wS (cs:= #[E I 1,E I 0,E I sm]) cF K0 (Ed.mk ?_) (h1:=OP)));refine Ed.in ?_;obtain⟨gl,hgl⟩:=En w4.heap.size;rw[<-hgl] at K0⊢;generalize w4.alloc (EI #[E I 0,E I 0,E I 0] 36)=w5 at*;have KL:=J<|K0.out.setRow #[E I 1,E I 0,E I sm];have b3:=E2 (g:=gl) b2 (Nat.le_of_eq hgl.symm) #[E I 1,E I 0,E I sm];generalize w5.setRow gl #[E I 1,E I 0,E I sm]=w6 at*;clear K0 b2 hgl z0 iw;replace KS:=EN KS b3;replace S1:=J<|S1.out.B b3;replace MM:=J<|MM.out.trans (Ev.Eu b3);clear b3;go_wp2_with fail;obtain⟨d0,d1,d2,hd,KG,o0,o1,o2,-,-⟩:=S1.out.core.Em;have Up:=J<|J4 (c:=c) (gq:=gq) (gt:=gt) (hd:=hd) (Jj g) o0 o1 o2 0 U;have dF:=J<|J4 (c:=c) (gq:=gq) (gt:=gt) (hd:=hd) (Jj g) o0 o1 o2 11 U;have KG:=J KG;have PL:=J<|Jj g;have Ud:Ea ((EH 56 g).toList.toArray=EH 56 g):=J Ek;clear o0 o1 o2;have KX:Ea (OZ w6 gb [[Eb va],[E I x0,E I x1,E I x2,E I x3],[Eb gv]] 46):=J KS.out;have OX:Ea (aV [[Value.bool va],[E I x0,E I x1,E I x2,E I x3],[Eb gv]] 1=1):=J O;have y0: ∀y:Ext w6,(Ex w6 y).cell? ⟨gs,0,Z⟩=X (V (X ⟨gc,0,Z⟩)):=fun y=>(S1.out.B (EC y)).Iu;refine JB 24 Ec Ec ?_;simp only[Il,Ij,Iz,Ix]
  repeat (first
   |go_big_quiet_skip
   |(go_big_quiet_want
     first
      |(refine Xa (T:=28) (g:=gc) (off:=0) UZ _ rfl rfl KG 0 rfl Up.out PL.out ?_;(try rw[Ud.out]);go_simp;go_big_quiet_on)
      |(refine Xa (T:=50) (g:=gc) (off:=102) fS _ rfl rfl KG 11 rfl dF.out rfl ?_;(try rw[Ud.out]);go_simp;go_big_quiet_on)
      |(refine Xa (T:=25) (g:=gb) (off:=1) sC _ rfl rfl KX 1 rfl OX.out rfl ?_;go_simp;go_big_quiet_on)
      |(refine Oj (T:=36) (g:=gl) cF _ rfl rfl KL ?_ ?_;(·rfl);go_simp;go_big_quiet_on)
      |(go_big_quiet_op
        first
         |go_big_quiet_on
         |go_big_quiet_call (with_reducible refine X6 (CS.out _)))))
  refine wpQuiet_nil ?_;intro _ hw';obtain⟨y9,rfl⟩:=hw';have El:=EC y9;replace S1:=J<|S1.out.B El;replace MM:=J<|MM.out.trans (Ev.Eu El);clear y0 El KG Up dF KX OX KL PL Ud;generalize Ex w6 y9=w7 at*;have TH:=J<|aE S1.out.core 11 rfl 12 sj;go_wp2_with ((with_reducible refine JI 50 ?_);(with_reducible refine wpList_store_mid O 50 _ _ O gc 102 p.v.toArray ?_ ?_ ?_ ?_ ?_ ?_);(·rfl);(·rfl);(·exact TH.out);(·exact fS.2);(·simp[Pt.v,Value.oneCell']);refine Ed.mk ?_);refine Ed.in ?_;have S4:=S1.out.dA p (S1.out.core.ok.dA dB.out);replace S1:=J S4.1;replace MM:=J<|MM.out.trans S4.2;clear S4 TH KS;change wpList _ _ _ _ _ (w7.setCells gc 102 p.v);generalize w7.setCells gc 102 p.v=w8 at*;have z0:=S1.out.Iu;have iw:w8.cell? ⟨gc,96,Z⟩=X (E I sm):=by rw[hsm.out];exact S1.out.core.cell 7 rfl 0 Ek
  go_wp2_with fail;(with_reducible refine(Xs lo hi g gc gq gt gs _ ns rs 6 0 sm 0 0 _ S1.out Ju).mono ?_);rintro e12 Xz ⟨rfl,s12,m12⟩;have S8:=J s12;replace MM:=J<|MM.out.trans m12;clear m12 s12 z0 iw;go_wp2_with fail;go_end0;refine⟨O,⟨_,0,_,U,S8.out,.inr (.inr ⟨?_,p,XK.out,O⟩)⟩,MM.out⟩;rw[hsm.out]
 ·have t9:(jd !=0)=G:=by simpa using hjd
  have z0:=S1.out.Iu;have iw:w4.cell? ⟨gc,96,Z⟩=X (E I sm):=by rw[hsm.out];exact S1.out.core.cell 7 rfl 0 Ek
  go_wp2_with fail;(with_reducible refine(Xs lo hi g gc gq gt gs _ ns rs 7 0 sm jd 0 _ S1.out Ju).mono ?_);rintro e7 w7 ⟨rfl,s7,m7⟩;have S8:=J s7;replace MM:=J<|MM.out.trans m7;clear s7 m7 z0 iw;go_wp2_with fail;refine EQ (results_none O _ _ _) O ?_;refine⟨O,⟨_,0,_,U,S8.out,.inl ⟨c.q,jd,O,?_⟩⟩,MM.out⟩;rw[hsm.out]
def jH(c c':EA)(new:List Rec):Prop:= ∃(a b:Int) (T1:EM),(c'={c with samples:=a,beyond:=b,T:=T1}/\new=[])\/sM {c with samples:=a,beyond:=b,T:=T1} c' new
theorem EA.ok.DA(h:c.ok)(hx:0<=x/\x<=4294967295):({c with samples:=x}:EA).ok:=⟨h.tok,h.T,h.q,h.ones,h.src,h.nd,hx,h.fK,h.mode,h.El,h.pt,h.E3⟩
theorem EA.ok.sd(h:c.ok)(hx:0<=x/\x<=1000):({c with beyond:=x}:EA).ok:=⟨h.tok,h.T,h.q,h.ones,h.src,h.nd,h.bU,hx,h.mode,h.El,h.pt,h.E3⟩
theorem x_:ID EJ 46 6:=⟨⟨_,Tryz.underlying46,O⟩,Ec⟩
theorem Rp{n:Int}(h0:0<=n/\n<=m):0<=sat n m/\sat n m<=m:=by unfold sat;split<;>omega
theorem EbS(lo hi:Nat)(g:Nat->M)(gc gq gt gs:Nat)(c:EA)(ns:Nat)(rs:List Rec)(va gv:Bool)(x0 x1 x2 x3:Int)(w:H)(S:E4 lo hi g gc gq gt gs c ns rs w)(hx:I3 x0/\I3 x1/\I3 x2/\I3 x3)(hn:ns<800000)(hl:rs.length<800000): Ef EJ 72 #[V (X ⟨gs,0,Z⟩),EU #[Eb va,E I x0,E I x1,E I x2,E I x3,Eb gv]] w fun e w'=>e=Eg (Es #[])/\(∃c' m new,m<=3/\E4 lo hi g gc gq gt gs c' (ns+m) (rs++new) w'/\jH c c' new)/\Ev lo hi w w':=by
 obtain⟨ms,hms,Ff⟩:=S.core.U8.fit 46 U U;obtain⟨mb,hmb,Rq⟩:=S.core.U8.fit 47 U U;have Fg:1<=(ms:Int)/\(ms:Int)<=1000:=by have h1:=Ff.1;have h2:=Ff.2.1;unfold Xk at h1;unfold Ub at h2;simp at h1 h2;omega
 have Rr:0<=(mb:Int)/\(mb:Int)<=32767:=by have h2:=Rq.2.1;unfold Ub at h2;simp at h2;omega
 have CSE:=J<|fun(r:Int) (hr:0<=r/\r<=1000) W=>EbF g ms mb hms hmb Fg Rr r hr va gv x0 x1 x2 x3 W;have Rs:=J Fg;have S0:=J S;have HN:=J hn;have HL:=J hl;have HX:=J hx;have KS:=J<|D.new w #[Eb va,E I x0,E I x1,E I x2,E I x3,Eb gv] 46;have b1:=Eo w (EI #[Eb va,E I x0,E I x1,E I x2,E I x3,Eb gv] 46);have S1:=J<|S0.out.B b1;have MM:=J<|Ev.Eu (lo:=lo) (hi:=hi) b1;clear S hn hl hx S0 hms hmb Ff Rq Fg Rr;have c0:(w.alloc (EI #[Eb va,E I x0,E I x1,E I x2,E I x3,Eb gv] 46)).cell? ⟨w.heap.size,0,Z⟩=X (Eb va):=(D.cell KS.out 0).trans O;go_enter Tryz.func72,Tryz.ntmps72;cases va with
 |false=> have z0:=S1.out.Iu;have zm:(w.alloc (EI #[Eb Y,E I x0,E I x1,E I x2,E I x3,Eb gv] 46)).cell? ⟨gc,97,Z⟩=X (E I c.beyond):=S1.out.core.cell 8 rfl 0 Ek;have zf:=oD S1.out.core 97;go_wp2_with fail;refine EQ (results_none O _ _ _) O ?_;have S4:=S1.out.sd 0 (S1.out.core.ok.sd U);exact⟨O,⟨_,0,[],U,by rw[List.append_nil];exact S4.1,c.samples,0,c.T,.inl ⟨O,O⟩⟩,MM.out.trans S4.2⟩
 |true=>
  go_wp2_with fail;clear b1;generalize w.alloc (EI #[Eb G,E I x0,E I x1,E I x2,E I x3,Eb gv] 46)=w1 at*;obtain⟨gb,hgb⟩:=En w.heap.size;rw[<-hgb] at KS⊢;clear hgb;clear c0;have Rt:=J<|Rp S1.out.core.ok.bU;have nC:=S1.out.core.ok.bU;have y0: ∀y:Ext w1,(Ex w1 y).cell? ⟨gs,0,Z⟩=X (V (X ⟨gc,0,Z⟩)):=fun y=>(S1.out.B (EC y)).Iu;have y96: ∀y:Ext w1,(Ex w1 y).cell? ⟨gc,96,Z⟩=X (E I c.samples):=fun y=>(S1.out.B (EC y)).core.cell 7 rfl 0 Ek;refine JB 14 Ec Ec ?_;simp only[Il,Ij,Iz,Ix]
  repeat (first
   |go_big_quiet_skip
   |(go_big_quiet_want
     first
      |(go_big_quiet_op
        first
         |go_big_quiet_on
         |go_big_quiet_call (with_reducible refine U5 (pH c.samples 4294967295 _ U U)))))
  refine wpQuiet_nil ?_;intro _ hw';obtain⟨y9,rfl⟩:=hw';have El:=EC y9;replace KS:=EN KS El;replace S1:=J<|S1.out.B El;replace MM:=J<|MM.out.trans (Ev.Eu El);clear y0 y96 El nC;generalize Ex w1 y9=w2 at*;have zm:w2.cell? ⟨gc,96,Z⟩=X (E I c.samples):=S1.out.core.cell 7 rfl 0 Ek;have zf:=oD S1.out.core 96;obtain⟨sn,hsn⟩:=En (sat c.samples 4294967295);rw[<-hsn] at Rt⊢;clear hsn;have SS:=S1.out.DA sn (S1.out.core.ok.DA Rt.out);obtain⟨d0,d1,d2,hd,sN,-⟩:=S1.out.core.Em;have o_:Ea (D (w2.setCell ⟨gc,96,Z⟩ (E I sn)) gb #[Eb G,E I x0,E I x1,E I x2,E I x3,Eb gv] 46):=J<|(OH (g:=gc) (W:=w2) 96 (E I sn)).Em KS.out (E7 KS.out sN EZ);have S2:Ea (E4 lo hi g gc gq gt gs {c with samples:=sn} ns rs (w2.setCell ⟨gc,96,Z⟩ (E I sn))):=J SS.1;have M2:Ea (Ev lo hi w (w2.setCell ⟨gc,96,Z⟩ (E I sn))):=J<|MM.out.trans SS.2;have z0:=S2.out.Iu;have oG:(w2.setCell ⟨gc,96,Z⟩ (E I sn)).cell? ⟨gc,95,Z⟩=X (V (X ⟨gt,0,Z⟩)):=S2.out.core.cell 6 rfl 0 Ek;clear SS sN KS S1 MM;go_wp2_with fail;clear zm zf;generalize w2.setCell ⟨gc,96,Z⟩ (E I sn)=w3 at*;(with_reducible refine(EE3 gt c.T _ S2.out.core.tab S2.out.core.ok.T).mono ?_);rintro e4 w4 ⟨rfl,kt,ot⟩;have hok:({c.T with XC:=true,sa:=0,sm:=max c.T.E3 0}:EM).ok:=⟨S2.out.core.ok.T.s0,S2.out.core.ok.T.s1,S2.out.core.ok.T.s2⟩;have Fh:({c.T with XC:=true,sa:=0,sm:=max c.T.E3 0}:EM).Uk:=⟨S2.out.core.ok.E3.E3,(TM.start S2.out.core.ok.E3:TM 0 (max c.T.E3 0)),fun i=>match i with|0=>S2.out.core.ok.E3.ER 0|1=>S2.out.core.ok.E3.ER 1|_+2=>S2.out.core.ok.E3.ER 2⟩;obtain⟨T1,hT1⟩:=En ({c.T with XC:=true,sa:=0,sm:=max c.T.E3 0}:EM);rw[<-hT1] at kt hok Fh;have hS:=S2.out.su ot T1 kt (S2.out.core.ok.sr hok Fh);have KS:=J<|ot.Em o_.out (E7 o_.out S2.out.core.tab EZ);have S1:=J hS.1;have MM:=J<|M2.out.trans hS.2;clear kt ot hok Fh hT1 hS z0 oG o_ S2 M2;go_wp2_with fail;obtain⟨d0,d1,d2,hd,KG,o0,o1,o2,-,-⟩:=S1.out.core.Em;have Up:=J<|J4 (c:={c with samples:=sn,T:=T1}) (gq:=gq) (gt:=gt) (hd:=hd) (Jj g) o0 o1 o2 0 U;have KG:=J KG;have PL:=J<|Jj g;have Ud:Ea ((EH 56 g).toList.toArray=EH 56 g):=J Ek;clear o0 o1 o2;have y0: ∀y:Ext w4,(Ex w4 y).cell? ⟨gs,0,Z⟩=X (V (X ⟨gc,0,Z⟩)):=fun y=>(S1.out.B (EC y)).Iu;have y97: ∀y:Ext w4,(Ex w4 y).cell? ⟨gc,97,Z⟩=X (E I c.beyond):=fun y=>(S1.out.B (EC y)).core.cell 8 rfl 0 Ek;have pE:=J S1.out.core.ok.fK;refine Uv Ec Ec ?_
  repeat (first
   |go_big_quiet_skip
   |(go_big_quiet_want
     first
      |(refine Xa (T:=28) (g:=gc) (off:=0) UZ _ rfl rfl KG 0 rfl Up.out PL.out ?_;(try rw[Ud.out]);go_simp;go_big_quiet_on)
      |(refine Oj (T:=46) (g:=gb) x_ _ rfl rfl KS ?_ ?_;(·rfl);go_simp;go_big_quiet_on)
      |(go_big_quiet_op
        first
         |go_big_quiet_on
         |go_big_quiet_call (with_reducible refine X6 (CSE.out c.beyond pE.out _)))))
  refine wpQuiet_nil ?_;intro _ hw';obtain⟨y9,rfl⟩:=hw';have El:=EC y9;replace KS:=EN KS El;replace S1:=J<|S1.out.B El;replace MM:=J<|MM.out.trans (Ev.Eu El);clear y0 y97 El KG Up PL Ud;generalize Ex w4 y9=w5 at*;have HR2:=J<|EbC (mb:=(mb:Int)) Rs.out pE.out G x0 x1 x2 x3;obtain⟨rn,hrn⟩:=En ((jG (ms:Int) mb c.beyond G x0 x1 x2 x3).1);obtain⟨ov,hov⟩:=En ((jG (ms:Int) mb c.beyond G x0 x1 x2 x3).2);rw[<-hrn] at HR2⊢;rw[<-hov];clear hrn hov CSE Rs pE;have zm:w5.cell? ⟨gc,97,Z⟩=X (E I c.beyond):=S1.out.core.cell 8 rfl 0 Ek;have zf:=oD S1.out.core 97;have z0:=S1.out.Iu;have SS:=S1.out.sd rn (S1.out.core.ok.sd HR2.out);obtain⟨d0,d1,d2,hd,sN,-⟩:=S1.out.core.Em;have o_:Ea (D (w5.setCell ⟨gc,97,Z⟩ (E I rn)) gb #[Eb G,E I x0,E I x1,E I x2,E I x3,Eb gv] 46):=J<|(OH (g:=gc) (W:=w5) 97 (E I rn)).Em KS.out (E7 KS.out sN EZ);have S2:Ea (E4 lo hi g gc gq gt gs {c with samples:=sn,T:=T1,beyond:=rn} ns rs (w5.setCell ⟨gc,97,Z⟩ (E I rn))):=J SS.1;have M2:Ea (Ev lo hi w (w5.setCell ⟨gc,97,Z⟩ (E I rn))):=J<|MM.out.trans SS.2;obtain⟨hh,f_⟩:=En c.tok.h;have y0:=S2.out.Iu;have xY:(w5.setCell ⟨gc,97,Z⟩ (E I rn)).cell? ⟨gc,56,Z⟩=X (E I hh):=by rw[f_];exact S2.out.core.cell 1 rfl 0 XW
  have y5:(w5.setCell ⟨gc,97,Z⟩ (E I rn)).cell? ⟨gb,5,Z⟩=X (Eb gv):=(D.cell o_.out 5).trans O;clear SS sN KS S1 MM f_;by_cases h0:hh=0
  ·have t0:(hh==0)=G:=pI;clear h0;cases gv with
   |true=> go_wp2_with fail;generalize w5.setCell ⟨gc,97,Z⟩ (E I rn)=w6 at*;have MM:=M2;(with_reducible refine(EbL lo hi g gc gq gt gs _ ns rs _ S2.out HN.out HL.out).mono ?_);rintro e9 w9 ⟨rfl,⟨c',m,new,h1,s9,h9⟩,m9⟩;have S8:=J s9;replace MM:=J<|MM.out.trans m9;clear s9 m9;go_wp2_with fail;go_end0;exact⟨O,⟨c',m,new,h1,S8.out,_,_,_,.inr h9⟩,MM.out⟩
   |false=> go_wp2_with (with_reducible refine wL x_ o_ ?_);generalize w5.setCell ⟨gc,97,Z⟩ (E I rn)=w6 at*;have MM:=M2;(with_reducible refine(EbQ lo hi g gc gq gt gs _ ns rs G Y x0 x1 x2 x3 _ S2.out HX.out HN.out HL.out).mono ?_);rintro e9 w9 ⟨rfl,⟨c',m,new,h1,s9,h9⟩,m9⟩;have S8:=J s9;replace MM:=J<|MM.out.trans m9;clear s9 m9;go_wp2_with fail;go_end0;exact⟨O,⟨c',m,new,h1,S8.out,_,_,_,.inr h9⟩,MM.out⟩
  ·have t0:(hh==0)=Y:=pI;clear h0;cases ov with
   |true=> go_wp2_with fail;generalize w5.setCell ⟨gc,97,Z⟩ (E I rn)=w6 at*;have MM:=M2;(with_reducible refine(EbM lo hi g gc gq gt gs _ ns rs _ S2.out HN.out HL.out).mono ?_);rintro e9 w9 ⟨rfl,⟨c',m,new,h1,s9,h9⟩,m9⟩;have S8:=J s9;replace MM:=J<|MM.out.trans m9;clear s9 m9;go_wp2_with fail;go_end0;exact⟨O,⟨c',m,new,h1,S8.out,_,_,_,.inr h9⟩,MM.out⟩
   |false=> go_wp2_with fail;go_end0;exact⟨O,⟨_,0,[],U,by rw[List.append_nil];exact S2.out,_,_,_,.inl ⟨O,O⟩⟩,M2.out⟩
theorem Fi:(⟨2,4,0⟩:Oa).ok:=⟨jz,jz,jz⟩
theorem EbV:(⟨3,4,0⟩:Oa).ok:=⟨jz,jz,jz⟩
theorem Fj(a b:Int):Tryz.prog.built 36 [(0,E I a),(1,E I b)]=X #[E I a,E I b,E I 0]:=Ec
def sP(c c':EA)(new:List Rec):Prop:=
 (∃L' a m,(c.tok.js a m).ok/\c'={c with tok:=c.tok.js a m,q:=L'}/\new=[])
 \/(∃L' t2 how md b,t2.ok/\t2.o= -1/\c.tok.e<=t2.e/\0<=md/\md<=4/\(b=⟨2,4,0⟩\/b=⟨3,4,0⟩)/\c'={c with tok:=t2,q:=L',mode:=md,El:=b,pt:=c.pt.hold b}/\new=[⟨8,t2.h,0,t2.e,0,how⟩])
theorem Ru(h:t.ok):t.ZK.ok/\t.ZK.o= -1/\t.e<=t.ZK.e:=by
 have he:=h.e;unfold EL.ZK;refine⟨DD h ⟨EZ,EZ⟩ ?_,O,?_⟩
 ·split;·exact Rp he
  ·exact he
 ·show t.e<=(if t.h≠4 then sat t.e 65535 else t.e);split;·unfold sat;split<;>omega
  ·exact Int.le_refl _
theorem EbW{t2:EL}{how:Int}(ht:t.ok)(h:mE t t2 how):(how=0/\ ∃a m,t2=t.js a m/\(t.js a m).ok)\/((how=6\/how=5)/\t2.ok/\t2.o= -1/\t.e<=t2.e):=by
 rcases h with⟨rfl,a,m,h1,h2,h3,h4,rfl⟩|⟨rfl,-,-,rfl⟩|⟨rfl,-,h3,s,h4,h5,-,rfl⟩;·exact .inl ⟨O,a,m,O,⟨ht.h,ht.e,ht.o,ht.oa,ht.om,⟨h1,h2⟩,⟨h3,h4⟩,ht.off⟩⟩
 ·exact .inr ⟨.inl O,Ru ht⟩
 ·exact .inr ⟨.inr O,DD ht ⟨h4,U⟩ ⟨by have:=ht.e;omega,U⟩,O,by show t.e<=t.e+1;omega⟩
theorem sQ(w:H):Ef EJ 44 #[] w fun e w'=>e=Eg (EU #[E I 2,E I 4,E I 0])/\Eh w w':=by have BL:=J<|Fj 2 4;have K0:=J<|D.new w #[E I 0,E I 0,E I 0] 36;have b2:=Eo w (EI #[E I 0,E I 0,E I 0] 36);go_enter Tryz.func44,Tryz.ntmps44;go_wp2_with (first|((with_reducible refine In 1 ?_);refine IP rfl 36 _ rfl #[E I 2,E I 4,E I 0] BL.out ?_)|(with_reducible refine wA Fc ?_)|(with_reducible refine wS (cs:= #[E I 2,E I 4,E I 0]) cF K0 ?_ (h1:=OP)));refine EQ (Jb cF O _ _ w.heap.size _ O (K0.out.setRow #[E I 2,E I 4,E I 0]) O) O ⟨O,E2 (g:=w.heap.size) b2 (E5 _) _⟩
theorem Rv(lo hi:Nat)(g:Nat->M)(gc gq gt gs:Nat)(c:EA)(ns:Nat)(rs:List Rec)(w:H)(S:E4 lo hi g gc gq gt gs c ns rs w)(hn:ns<800000)(hl:rs.length<800000): Ef EJ 106 #[V (X ⟨gs,0,Z⟩)] w fun e w'=>e=Eg (Es #[])/\(∃c' m new,m<=3/\E4 lo hi g gc gq gt gs c' (ns+m) (rs++new) w'/\sP c c' new)/\Ev lo hi w w':=by
 obtain⟨pl,hpl,rY⟩:=S.core.U8.fit 43 U U;have Rw:0<=(pl:Int)/\(pl:Int)<=1000:=by have h2:=rY.2.1;unfold Ub at h2;simp at h2;omega
 obtain⟨th,hth⟩:=En (c.T.ZW c.tok.h);have XA:=fun W q=>EZ0 lo gq c.q (pn g 48) g pl hpl Rw c.tok S.core.ok.tok th W S.core.lq q S.core.ok.q;obtain⟨md,hmd,yE⟩:=S.core.U8.fit 40 U U;have sR:Ea (0<=(md:Int)/\(md:Int)<=4):=J Rx;have oY:Ea (∀c ns rs W,E4 lo hi g gc gq gt gs c ns rs W->W.cell? ⟨gc,40,Z⟩=X (E I (md:Int))):=J (fun c ns rs W s=>by have h:W.cell? ⟨gc,40,Z⟩=(EH 56 g).toList[40]?:=s.core.cell 0 rfl 40 Ek;rw[h,show(EH 56 g).toList[40]?=X (g 40) from gK,hmd]);clear hmd yE;obtain⟨ml,hml,Ry⟩:=S.core.U8.fit 41 U U;have Fk:Ea (0<=(ml:Int)/\(ml:Int)<=4):=J (by have h2:=Ry.2.1;unfold Ub at h2;simp at h2;omega);have cu:Ea (∀c ns rs W,E4 lo hi g gc gq gt gs c ns rs W->W.cell? ⟨gc,41,Z⟩=X (E I (ml:Int))):=J (fun c ns rs W s=>by have h:W.cell? ⟨gc,41,Z⟩=(EH 56 g).toList[41]?:=s.core.cell 0 rfl 41 Ek;rw[h,show(EH 56 g).toList[41]?=X (g 41) from gK,hml]);clear hml Ry;obtain⟨Ik,OD,Un,XE⟩: ∃Ik,c.tok.a=EU Ik/\Ea (Ik.size=8)/\Ea (c.tok.v.toArray=Ik):=⟨_,O,J O,J O⟩;obtain⟨pv,hpv,sx,DQ⟩: ∃pv,EH 56 g=pv/\Ea (pv.size=56)/\Ea ((EH 56 g).toList.toArray=pv):=⟨_,O,J gK,J Ek⟩;have pJ:=sR;have S1:=J S;have HN:=J hn;have HL:=J hl;have MM:=J<|Ev.refl lo hi w;have HTH:=J hth;clear S hn hl hpl rY Rw hth sR;have CA:Ea (∀W,JZ W lo gq c.q (pn g 48)->Ef EJ 151 #[EU pv,EU Ik,V (X ⟨gq,0,Z⟩),Eb th] W _):=J (fun W q=>Qw);obtain⟨PQ,hPQ⟩: ∃PQ:Array M->Int->Prop,PQ=fun rv how=> ∃t2:EL,t2.a=EU rv/\rv.size=8/\rv.all (·.oneCell')=G/\mE c.tok t2 how:=⟨_,O⟩;have mZ:Ea (∀(t2:EL) (rv:Array M) (how:Int),t2.a=EU rv->rv.size=8->rv.all (·.oneCell')=G->mE c.tok t2 how->PQ rv how):=J (fun t2 rv how h1 h2 h3 h4=>xz);have ma:Ea (∀rv how,PQ rv how->rv.size=8/\rv.all (·.oneCell')=G):=J (fun rv how h=>xA);replace hPQ:=J hPQ;clear XA OD hpv;go_enter Tryz.func106,Tryz.ntmps106;go_wp2_with fail;have y0: ∀y:Ext w,(Ex w y).cell? ⟨gs,0,Z⟩=X (V (X ⟨gc,0,Z⟩)):=fun y=>(S1.out.B (EC y)).Iu;have y95: ∀y:Ext w,(Ex w y).cell? ⟨gc,95,Z⟩=X (V (X ⟨gt,0,Z⟩)):=fun y=>(S1.out.B (EC y)).core.cell 6 rfl 0 Ek;have xY: ∀y:Ext w,(Ex w y).cell? ⟨gc,56,Z⟩=X (E I c.tok.h):=fun y=>(S1.out.B (EC y)).core.cell 1 rfl 0 XW;have TB:=J S1.out.core.tab;have xM:=J S1.out.core.ok.T;refine Uv Ec Ec ?_
 repeat (first
  |go_big_quiet_skip
  |(go_big_quiet_want
    first
     |(go_big_quiet_op
       first
        |go_big_quiet_on
        |go_big_quiet_call (with_reducible refine U5 (AC gt c.T c.tok.h _ (TB.out.B (EC _)) xM.out)))))
 refine wpQuiet_nil ?_;intro _ hw';obtain⟨y9,rfl⟩:=hw';have El:=EC y9;replace S1:=J<|S1.out.B El;replace MM:=J<|MM.out.trans (Ev.Eu El);clear y0 y95 xY El TB xM;generalize Ex w y9=w1 at*;rw[<-HTH.out];obtain⟨n0,hn0⟩:=En w1.heap.size;have U0:=J (show lo<=n0/\hi<=n0/\w.heap.size<=n0 from jw);go_wp2_with fail;refine fW (Ph:=fun p wq=>n0<=wq.heap.size/\(match p with|0=>(E4 lo hi g gc gq gt gs c ns rs wq/\Ev lo hi w wq)|_=>(∃L':List One,E4 lo hi g gc gq gt gs {c with q:=L'} ns rs wq/\Ev lo hi w wq))) (Rel:=Jr) (If:=ic) [kp gs 0,kp gs 0,kp gs 0,kp gc 0,kp gc 0,kp gc 0,kq (EU pv),kp gs 0,kp gs 0,kp gs 0,kp gc 0,kp gc 0,kp gc 56,kq (EU Ik),kp gs 0,kp gs 0,kp gs 0,kp gc 0,kp gc 0,kp gc 64,kp gq 0,kq (Eb th),.val (fun v=> ∃(rv:Array M) (how:Int),PQ rv how/\v=Es #[EU rv,E I how]),.val (fun v=> ∃(rv:Array M) (how:Int),PQ rv how/\v=Es #[EU rv,E I how]),.ZA [23,24] (fun x=> ∃(rv:Array M) (how:Int),PQ rv how/\x 23=Es #[EU rv,E I how]/\x 24=EU rv) (fun x y hq h=>by simpa only[hq 23 Ek,hq 24 Ek] using h),.ZA [23,25] (fun x=> ∃(rv:Array M) (how:Int),PQ rv how/\x 23=Es #[EU rv,E I how]/\x 25=E I how) (fun x y hq h=>by simpa only[hq 23 Ek,hq 25 Ek] using h),.dep (X1 n0) (fun v w w' h hr=>h.B hr) (fun v w w' h hr=>h.dC hr),.tie [26,24] (fun x w=> ∃(b:Nat) (rv:Array M),x 26=V (X ⟨b,0,Z⟩)/\x 24=EU rv/\n0<=b/\D w b rv 109) (fun x w w' h hr=>xB) (fun x y w hq h=>by rw[hq 26 Ek,hq 24 Ek] at h;exact h),.ZA [25,28] (fun x=>x 28=x 25) (fun x y hq h=>by simpa only[hq 25 Ek,hq 28 Ek] using h)] [Y,Y,Y,Y,Y,Y,Y,Y,Y,Y,Y,Y,Y,Y,Y,Y,Y,Y,Y,Y,Y,Y,Y,Y,Y,Y,Y,G,Y] O [[],[],[],[],[],[],[],[],[],[],[],[],[],[],[],[],[],[],[],[],[],[],[],[],[23,24],[23,25],[],[26,24],[25,28]] O [22,27] [(0,0),(0,0),(0,0),(0,0),(0,0),(0,0),(0,0),(0,0),(0,0),(0,0),(0,0),(0,0),(0,0),(0,0),(0,0),(0,0),(0,0),(0,0),(0,0),(0,0),(0,0),(0,0),(0,0),(1,1),(1,1),(1,2),(0,1),(1,1),(2,2)] Ec Ec Ec Ec Ec Ec On Ec ?hPh ?h0 ?hstep ?hend
 case hPh=>
  intro p w2 w3 h hr;match p,h with
  |0,h=>exact⟨Ey h.1 (Below.size hr),h.2.1.B hr,h.2.2.trans (Ev.Eu hr)⟩
  |_+1,h=> obtain⟨nn,L',s,m⟩:=h;exact⟨Ey nn (Below.size hr),L',s.B hr,m.trans (Ev.Eu hr)⟩
 case h0=> exact Elg
 case hstep=>
  refine⟨?_,?_,?_,?_,?_,?_,?_,?_,?_,?_,?_,?_,?_,?_,?_,?_,?_,?_,?_,?_,?_,?_,?_,?_,?_,?_,?_,?_,?_,trivial⟩;all_goals first|intro xv wq p hlo hhi hp hd|intro xv wq hp hd
  all_goals simp only[EB,Ic,Ig,IJ,IU]
  ·exact EiE
  ·exact Eim
  ·exact Eil
  ·exact EiJ
  ·exact Eik
  ·exact EiF
  ·exact EjV
  ·exact EiE
  ·exact EjU
  ·exact EjO
  ·exact EiK
  ·exact EjI
  ·exact EjE
  ·exact EjA
  ·exact EiE
  ·exact ElH
  ·exact ElG
  ·exact Ekl
  ·exact Ekf
  ·exact ElF
  ·exact Ej5
  ·exact EiE
  ·have d6:xv 6=EU pv:=hd.at 6 rfl;have d13:xv 13=EU Ik:=hd.at 13 rfl;have d20:xv 20=V (X ⟨gq,0,Z⟩):=hd.at 20 rfl;have d21:xv 21=Eb th:=hd.at 21 rfl;refine IY (f:=151) (args:= #[xv 6,xv 13,xv 20,xv 21]) (Ei O) Ew ?_;rw[d6,d13,d20,d21];refine(CA.out wq hp.2.1.core.XV).mono fun e w2 h=> ?_;obtain⟨⟨t2,how,L2,he,hf,sq,q2⟩,m2⟩:=h;obtain⟨rv,Iy,hs,ho⟩:=Xw t2;exact⟨_,he,⟨m2.dC,Ey hp.1 m2.bel.size,L2,hp.2.1.cD m2 L2 q2 (hp.2.1.core.ok.sub sq),hp.2.2.trans (m2.fM hi)⟩,rv,how,mZ.out t2 rv how Iy hs ho hf,congrArg (fun v=>Value.tuple #[v,E I how]) Iy⟩
  ·obtain rfl:p=1:=U;obtain⟨rv,how,hpq,e22⟩: ∃(rv:Array M) (how:Int),PQ rv how/\xv 22=Es #[EU rv,E I how]:=hd.at 22 rfl;exact Ep (by simp[go_sem,e22]) ⟨rv,how,hpq,O⟩
  ·obtain rfl:p=1:=U;exact EkO
  ·exact EkO
  ·exact Ejw
  ·obtain⟨b,d0,eA,lb,h8,kb⟩:X1 n0 (xv 26) wq:=hd.at 26 rfl;have nh:=U0.out;obtain⟨rv,how,hpq,-,e24⟩: ∃(rv:Array M) (how:Int),PQ rv how/\xv 23=Es #[EU rv,E I how]/\xv 24=EU rv:=hd.at 24 rfl;have hsz:=ma.out _ _ hpq;obtain⟨nn,L',s,m⟩:=hp;refine ag EP (Ei O) ⟨O,eA,e24⟩ kb h8 hsz.1 hsz.2 ⟨oH kb hsz.1,?_⟩ ⟨b,rv,eA,e24,lb,kb.setRow _⟩;exact Emr
  ·obtain rfl:p=2:=U;obtain⟨rv,how,hpq,-,e25⟩: ∃(rv:Array M) (how:Int),PQ rv how/\xv 23=Es #[EU rv,E I how]/\xv 25=E I how:=hd.at 25 rfl;exact Ep xH (e25.symm)
 case hend=>
  intro xv W6 hp hd;clear S1 MM;simp only[EB,Ic,Ig,IJ,IU];obtain⟨rv,how,hpq,eM,e24⟩: ∃(rv:Array M) (how:Int),PQ rv how/\xv 23=Es #[EU rv,E I how]/\xv 24=EU rv:=hd 24 EZ;obtain⟨b,dD,eA,eE,lb,kb⟩: ∃(b:Nat) (rv:Array M),xv 26=V (X ⟨b,0,Z⟩)/\xv 24=EU rv/\n0<=b/\D W6 b rv 109:=hd 27 EZ;have mc:dD=rv:=by rw[eE] at e24;injection e24
  subst mc;have a28:xv 28=E I how:=by have h1:xv 28=xv 25:=hd 28 EZ;obtain⟨xF,EhO,-,f1,f2⟩: ∃(rv:Array M) (how:Int),PQ rv how/\xv 23=Es #[EU rv,E I how]/\xv 25=E I how:=hd 25 EZ;exact Ekn
  obtain⟨-,L',s6,m6⟩:=hp;have S1:=J s6;have MM:=J m6;have KB:=J kb;rw[eA,a28];rw[hPQ.out] at hpq;obtain⟨t2,Iy,hs,ho,hf⟩:=hpq;have OC:=J Iy;have RS:=J hs;have RO:=J ho;have X0:Ea (dD.toList=t2.v):=J Fl;have hcs:=EbW S1.out.core.ok.tok hf;clear s6 m6 kb hd eA a28 CA Iy hs ho hf eM eE;rcases hcs with⟨rfl,a,m,ht2,hok2⟩|⟨Eb0,hok2⟩
  ·have HT2:=J ht2;have Eb1:Ea t2.ok:=J (by rw[ht2];exact hok2);have Eb2:=J hok2;clear ht2 hok2;go_wp2_with fail;have y0: ∀y:Ext W6,(Ex W6 y).cell? ⟨gs,0,Z⟩=X (V (X ⟨gc,0,Z⟩)):=fun y=>(S1.out.B (EC y)).Iu;refine JB 7 Ec Ec ?_;simp only[Il,Ij,Iz,Ix]
   repeat (first
    |go_big_quiet_skip
    |(go_big_quiet_want
      first
       |(refine Oj (T:=109) (g:=b) EP _ rfl rfl KB ?_ ?_;(·exact RS.out);go_simp;go_big_quiet_on)
       |(go_big_quiet_op
         first
          |go_big_quiet_on
          |go_big_quiet_call (fail))))
   refine wpQuiet_nil ?_;intro _ hw';obtain⟨y9,rfl⟩:=hw';have El:=EC y9;replace KB:=EN KB El;replace S1:=J<|S1.out.B El;replace MM:=J<|MM.out.trans (Ev.Eu El);clear y0 El;generalize Ex W6 y9=w9 at*;have TH:=J<|aE S1.out.core 1 rfl 8 XW;go_wp2_with ((with_reducible refine JI 109 ?_);(with_reducible refine wpList_store_mid O 109 _ _ O gc 56 dD ?_ ?_ ?_ ?_ ?_ ?_);(·rfl);(·rfl);(·rw[RS.out];exact TH.out);(·rw[RS.out];exact EP.2);(·exact RO.out);refine Ed.mk ?_);refine Ed.in ?_;rw[X0.out];have S4:=S1.out.ZZ t2 (S1.out.core.ok.ZZ Eb1.out);obtain⟨d0,d1,d2,hd,KG,-⟩:=S1.out.core.Em;replace KB:=J<|(JX (g:=gc) t2.v 56 w9).Em KB.out (E7 KB.out KG EZ);replace S1:=J S4.1;replace MM:=J<|MM.out.trans S4.2;clear S4 TH KG;generalize w9.setCells gc 56 t2.v=UD at*;go_wp2_with fail;refine EQ (results_none O _ _ _) O ?_;refine⟨O,⟨_,0,U,[],pO,.inl ⟨L',a,m,Eb2.out,?_,O⟩⟩,MM.out⟩;rw[HT2.out]
  ·have HT2:=J hok2;clear hok2;rcases Eb0 with rfl|rfl
   ·go_wp2_with (with_reducible refine wL EP KB ?_ (hn:=RS.out));rw[<-OC.out];(with_reducible refine(ju lo hi g gc gq gt gs _ ns rs t2 6 0 _ S1.out HT2.out.1 JP Ju).mono ?_);rintro e7 w7 ⟨rfl,⟨L2,m7,UV,sq,s7⟩,Uo⟩;replace S1:=J s7;replace MM:=J<|MM.out.trans Uo;have jx:=J UV;clear s7 Uo sq UV KB;go_wp2_with fail;have y0: ∀y:Ext w7,(Ex w7 y).cell? ⟨gs,0,Z⟩=X (V (X ⟨gc,0,Z⟩)):=fun y=>(S1.out.B (EC y)).Iu;have sS: ∀y:Ext w7,(Ex w7 y).cell? ⟨gc,40,Z⟩=X (E I (md:Int)):=fun y=>oY.out _ _ _ _ (S1.out.B (EC y));refine JB 10 Ec Ec ?_;simp only[Il,Ij,Iz,Ix]
    repeat (first
     |go_big_quiet_skip
     |(go_big_quiet_want
       first
        |(go_big_quiet_op
          first
           |go_big_quiet_on
           |go_big_quiet_call (with_reducible refine X6 (sQ _)))))
    refine wpQuiet_nil ?_;intro _ hw';obtain⟨y9,rfl⟩:=hw';have El:=EC y9;replace S1:=J<|S1.out.B El;replace MM:=J<|MM.out.trans (Ev.Eu El);clear y0 sS El;generalize Ex w7 y9=gE at*;go_wp2_with fail;(with_reducible refine(xw lo hi g gc gq gt gs _ _ _ md ⟨2,4,0⟩ _ S1.out pJ.out Fi).mono ?_);rintro e21 iy ⟨rfl,dN,m21⟩;have S8:=J dN;replace MM:=J<|MM.out.trans m21;clear dN m21;go_wp2_with fail;go_end0;exact⟨O,⟨_,m7,_,mX,S8.out,.inr ⟨L2,t2,6,md,_,HT2.out.1,HT2.out.2.1,HT2.out.2.2,pJ.out.1,pJ.out.2,.inl O,O,O⟩⟩,MM.out⟩
   ·go_wp2_with (with_reducible refine wL EP KB ?_ (hn:=RS.out));rw[<-OC.out];(with_reducible refine(ju lo hi g gc gq gt gs _ ns rs t2 5 0 _ S1.out HT2.out.1 JP Ju).mono ?_);rintro e7 w7 ⟨rfl,⟨L2,m7,UV,sq,s7⟩,Uo⟩;replace S1:=J s7;replace MM:=J<|MM.out.trans Uo;have jx:=J UV;clear s7 Uo sq UV KB;have z0:=S1.out.Iu;have z41:=cu.out _ _ _ _ S1.out;have BL:=J<|Fj 3 4;go_wp2_with ((with_reducible refine In 71 ?_);refine IP O 36 _ O #[E I 3,E I 4,E I 0] BL.out ?_);(with_reducible refine(xw lo hi g gc gq gt gs _ _ _ ml ⟨3,4,0⟩ _ S1.out Fk.out EbV).mono ?_);rintro e21 iy ⟨rfl,dN,m21⟩;have S8:=J dN;replace MM:=J<|MM.out.trans m21;clear dN m21;go_wp2_with fail;go_end0;exact⟨O,⟨_,m7,_,mX,S8.out,.inr ⟨L2,t2,5,ml,_,HT2.out.1,HT2.out.2.1,HT2.out.2.2,Fk.out.1,Fk.out.2,.inr O,O,O⟩⟩,MM.out⟩
end Go.Proofs.YtclmichaaiohjaaGreatDoor
