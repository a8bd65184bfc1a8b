import Derived.Test.YtclmichaaiohjaaGreatDoorU03
import Derived.ArgAppend
import Derived.ChangeSlices
import Derived.Deep.DeepCutAuto
set_option maxRecDepth 100000
set_option linter.unusedVariables false
set_option linter.unusedSimpArgs false
set_option maxHeartbeats 6400000
namespace Go.Proofs.YtclmichaaiohjaaGreatDoor
open RowKit
open _root_.Array renaming getElem?_eq_none->fD
open Bool renaming true->EI,false->V,and_eq_true->UJ,false_eq_true->jq
open Go renaming bits->Iu,World->M,Calls->Eg,TypeId->Ez,Value->G,Addr->Ev,bodyPost_ret->EV,binOp->XG,Exit->UL,Act->E2,Oper->EG,yielded->Ja,execOp->Ig,wpList->Ih,Operand->JN,info_parts->bZ,below_setRow->E6,wpQuiet_nil->I2,callFunc->Ji,wp_loop_rounds->OJ,rounds_succ->Ib,Ending->Uv,wpList_store_mid->Um
open Act renaming put->Ic
open Builtin renaming append_->bX
open DataW renaming trod->Zr
open Ending renaming returned->Eh
open Instr renaming index->Ua
open IntKind renaming wrap->na,i64->I,u8->IT,u64->Il
open Lib renaming hid->J
open Obj renaming cells->Ec
open Go.Proofs.Tryz renaming prog->Ea,underlying23->ba,func212->lR,ntmps212->lS,func138->jM,ntmps138->jN
open Region renaming wanted->I8
open Result renaming andThen_ok->On
open RowKit renaming Below->Ir,Hid->Ed,intOf->I5
open RowKit.Below renaming refl->E_,heap_setCell->ax
open Sem renaming run_bind->Om,run_pure->Oa
open Value renaming bool->EU,int->E,agg->EZ,slice->EJ,tuple->Es,pointer->Y,oneCell'->Ov
open World renaming block_lt_of_cell?->UV,cell?->iA
open Int renaming eq_ofNat_of_zero_le->ib
open List renaming getElem?_eq_none->am,mem_of_mem_take->fC,eq_nil_of_length_eq_zero->ao,getElem?_eq_getElem->JY,range->UM,all_eq_true->XJ,take_succ_cons->Is,length_take->ZJ,take_of_length_le->OV,getD_eq_getElem?_getD->Uj,getElem?_take_of_lt->bU,map_cons->Xs,map_nil->Zu,take_zero->Io,mem_map->bc,getElem?_toArray->J0,setIfInBounds_toArray->Ii,length_append->I1,length_cons->Zw,mem_cons->OY,getElem_mem->dW,getElem?_map->ls,set_cons_succ->IJ,set_cons_zero->IU,mem_append->Xt,map_append->jr,getElem?_cons_zero->jt,not_mem_nil->Uu,drop_succ_cons->IS,drop_zero->IM,append_nil->fX,take_add_one->lL,all_nil->jF,all_cons->io,foldl_cons->iu,foldl_nil->iw
open List.cons renaming injEq->bK
open Nat renaming lt_or_ge->JW,le_trans->EB,le_refl->E9,reduceAdd->aO
open Option renaming some->X,none->Z
open Option.some renaming inj->cI
variable{l:List Int}{g base gm cap:Nat}{d:FD}{w w':M}{A:Option Ev}{fs:List (FD×Nat)}{n:Int}
def fc(n lo hi:Int):Bool:=decide (lo<=n)&&decide (n<=hi)
def EU2(k s r t e m c n x0 x1 x2 x3:Int):List Int:=
 if k=1\/k=2 then [k,0,r,0,0,0,0,0,0,0,0,0] else if k=5 then [k,s,0,0,0,0,0,n,0,0,0,0] else if k=6 then [k,s,0,t,0,0,0,0,0,0,0,0] else if k=7 then [k,s,0,0,e,0,0,0,0,0,0,0]
 else if k=10 then [k,s,0,0,e,m,0,0,0,0,0,0] else if k=11 then [k,s,0,0,e,0,c,0,x0,x1,x2,x3] else [k,s,0,0,0,0,0,0,0,0,0,0]
def Fq(a0 a1 a2 a3 a4 a5 a6 a8 a9 Un JP:Int):Bool:=fc a8 (-32768) 32767&&fc a9 (-32768) 32767&&fc Un (-32768) 32767&&fc JP (-32768) 32767&&fc a0 1 11&&fc a1 0 4294967295&&fc a4 0 65535&&fc a2 0 3&&fc a3 0 4&&fc a5 0 4&&fc a6 (if a0=11 then 1 else 0) 3
theorem Fr(a0 a1 a2 a3 a4 a5 a6 a8 a9 Un JP:Int):Fq a0 a1 a2 a3 a4 a5 a6 a8 a9 Un JP=EI↔(-32768<=a8/\a8<=32767)/\(-32768<=a9/\a9<=32767)/\(-32768<=Un/\Un<=32767)/\(-32768<=JP/\JP<=32767)/\(1<=a0/\a0<=11)/\(0<=a1/\a1<=4294967295)/\(0<=a4/\a4<=65535)/\(0<=a2/\a2<=3)/\(0<=a3/\a3<=4)/\(0<=a5/\a5<=4)/\((if a0=11 then 1 else 0)<=a6/\a6<=3):=by
 unfold Fq fc;simp only[UJ,decide_eq_true_iff];constructor;·rintro⟨⟨⟨⟨⟨⟨⟨⟨⟨⟨h1,h2⟩,h3⟩,h4⟩,h5⟩,h6⟩,h7⟩,h8⟩,h9⟩,h10⟩,h11⟩;exact⟨h1,h2,h3,h4,h5,h6,h7,h8,h9,h10,h11⟩
 ·rintro⟨h1,h2,h3,h4,h5,h6,h7,h8,h9,h10,h11⟩;exact⟨⟨⟨⟨⟨⟨⟨⟨⟨⟨h1,h2⟩,h3⟩,h4⟩,h5⟩,h6⟩,h7⟩,h8⟩,h9⟩,h10⟩,h11⟩
theorem P_(a0 a1 a2 a3 a4 a5 a6 a7 a8 a9 Un JP:Int)(bs:List Int)(h:qP [a0,a1,a2,a3,a4,a5,a6,a7,a8,a9,Un,JP]=X bs):Fq a0 a1 a2 a3 a4 a5 a6 a8 a9 Un JP=EI/\EU2 a0 a1 a2 a3 a4 a5 a6 a7 a8 a9 Un JP=[a0,a1,a2,a3,a4,a5,a6,a7,a8,a9,Un,JP]:=by
 obtain⟨ds,ps,f1,o1,z1,-⟩:=PR h;have hin:=P9 o1;rw[show([a0,a1,a2,a3,a4,a5,a6,a7,a8,a9,Un,JP]:List Int).getD 0 0=a0 from rfl] at f1 z1;obtain⟨k1,k11,-,-⟩:=yS f1;have hk:a0=1\/a0=2\/a0=3\/a0=4\/a0=5\/a0=6\/a0=7\/a0=8\/a0=9\/a0=10\/a0=11:=D;rw[Fr];rcases hk with rfl|rfl|rfl|rfl|rfl|rfl|rfl|rfl|rfl|rfl|rfl;·obtain rfl:[U2]=ds:=cI f1;simp only[JT,IZ,iu,iw,U2,IJ,IU,aO,bK,true_and,and_true] at z1;obtain⟨rfl,rfl,rfl,rfl,rfl,rfl,rfl,rfl,rfl,rfl⟩:=z1;have gr:=hin (U2) Ej;replace gr:(0:Int)<=a2/\a2<=3:=gr;refine⟨?_,U⟩;simp only[if_true,show¬(1:Int)=11 from Eb,if_false];omega
 ·obtain rfl:[U2]=ds:=cI f1;simp only[JT,IZ,iu,iw,U2,IJ,IU,aO,bK,true_and,and_true] at z1;obtain⟨rfl,rfl,rfl,rfl,rfl,rfl,rfl,rfl,rfl,rfl⟩:=z1;have gr:=hin (U2) Ej;replace gr:(0:Int)<=a2/\a2<=3:=gr;refine⟨?_,U⟩;simp only[if_true,show¬(2:Int)=11 from Eb,if_false];omega
 ·obtain rfl:[Ij]=ds:=cI f1;simp only[JT,IZ,iu,iw,Ij,IJ,IU,aO,bK,true_and,and_true] at z1;obtain⟨rfl,rfl,rfl,rfl,rfl,rfl,rfl,rfl,rfl,rfl⟩:=z1;have gs:=hin (Ij) Ej;replace gs:(0:Int)<=a1/\a1<=4294967295:=gs;refine⟨?_,U⟩;simp only[if_true,show¬(3:Int)=11 from Eb,if_false];omega
 ·obtain rfl:[Ij]=ds:=cI f1;simp only[JT,IZ,iu,iw,Ij,IJ,IU,aO,bK,true_and,and_true] at z1;obtain⟨rfl,rfl,rfl,rfl,rfl,rfl,rfl,rfl,rfl,rfl⟩:=z1;have gs:=hin (Ij) Ej;replace gs:(0:Int)<=a1/\a1<=4294967295:=gs;refine⟨?_,U⟩;simp only[if_true,show¬(4:Int)=11 from Eb,if_false];omega
 ·obtain rfl:[Ij,cC]=ds:=cI f1;simp only[JT,IZ,iu,iw,cC,Ij,IJ,IU,aO,bK,true_and,and_true] at z1;obtain⟨rfl,rfl,rfl,rfl,rfl,rfl,rfl,rfl,rfl⟩:=z1;have gs:=hin (Ij) Ej;replace gs:(0:Int)<=a1/\a1<=4294967295:=gs;have gn:=hin (cC) Ej;replace gn:(0:Int)<=a7/\a7<=1:=gn;refine⟨?_,U⟩;simp only[if_true,show¬(5:Int)=11 from Eb,if_false];omega
 ·obtain rfl:[Ij,Jf]=ds:=cI f1;simp only[JT,IZ,iu,iw,Ij,Jf,IJ,IU,aO,bK,true_and,and_true] at z1;obtain⟨rfl,rfl,rfl,rfl,rfl,rfl,rfl,rfl,rfl⟩:=z1;have gs:=hin (Ij) Ej;replace gs:(0:Int)<=a1/\a1<=4294967295:=gs;have gt:=hin (Jf) Ej;replace gt:(0:Int)<=a3/\a3<=4:=gt;refine⟨?_,U⟩;simp only[if_true,show¬(6:Int)=11 from Eb,if_false];omega
 ·obtain rfl:[Ij,IP]=ds:=cI f1;simp only[JT,IZ,iu,iw,IP,Ij,IJ,IU,aO,bK,true_and,and_true] at z1;obtain⟨rfl,rfl,rfl,rfl,rfl,rfl,rfl,rfl,rfl⟩:=z1;have gs:=hin (Ij) Ej;replace gs:(0:Int)<=a1/\a1<=4294967295:=gs;have ge:=hin (IP) Ej;replace ge:(0:Int)<=a4/\a4<=65535:=ge;refine⟨?_,U⟩;simp only[if_true,show¬(7:Int)=11 from Eb,if_false];omega
 ·obtain rfl:[Ij]=ds:=cI f1;simp only[JT,IZ,iu,iw,Ij,IJ,IU,aO,bK,true_and,and_true] at z1;obtain⟨rfl,rfl,rfl,rfl,rfl,rfl,rfl,rfl,rfl,rfl⟩:=z1;have gs:=hin (Ij) Ej;replace gs:(0:Int)<=a1/\a1<=4294967295:=gs;refine⟨?_,U⟩;simp only[if_true,show¬(8:Int)=11 from Eb,if_false];omega
 ·obtain rfl:[Ij]=ds:=cI f1;simp only[JT,IZ,iu,iw,Ij,IJ,IU,aO,bK,true_and,and_true] at z1;obtain⟨rfl,rfl,rfl,rfl,rfl,rfl,rfl,rfl,rfl,rfl⟩:=z1;have gs:=hin (Ij) Ej;replace gs:(0:Int)<=a1/\a1<=4294967295:=gs;refine⟨?_,U⟩;simp only[if_true,show¬(9:Int)=11 from Eb,if_false];omega
 ·obtain rfl:[Ij,IP,bA]=ds:=cI f1;simp only[JT,IZ,iu,iw,IP,bA,Ij,IJ,IU,aO,bK,true_and,and_true] at z1;obtain⟨rfl,rfl,rfl,rfl,rfl,rfl,rfl,rfl⟩:=z1;have gs:=hin (Ij) Ej;replace gs:(0:Int)<=a1/\a1<=4294967295:=gs;have ge:=hin (IP) Ej;replace ge:(0:Int)<=a4/\a4<=65535:=ge;have gm:=hin (bA) Ej;replace gm:(0:Int)<=a5/\a5<=4:=gm;refine⟨?_,U⟩;simp only[if_true,show¬(10:Int)=11 from Eb,if_false];omega
 ·obtain rfl:[Ij,IP,cD,Jy 0,Jy 1,Jy 2,Jy 3]=ds:=cI f1;simp only[JT,IZ,iu,iw,Jy,cD,IP,Ij,IJ,IU,aO,bK,true_and,and_true] at z1;obtain⟨rfl,rfl,rfl,rfl⟩:=z1;have gs:=hin (Ij) Ej;replace gs:(0:Int)<=a1/\a1<=4294967295:=gs;have ge:=hin (IP) Ej;replace ge:(0:Int)<=a4/\a4<=65535:=ge;have gc:=hin (cD) Ej;replace gc:(1:Int)<=a6/\a6<=3:=gc;have QE:=hin (Jy 0) Ej;replace QE:(-32768:Int)<=a8/\a8<=32767:=QE;have QI:=hin (Jy 1) Ej;replace QI:(-32768:Int)<=a9/\a9<=32767:=QI;have QJ:=hin (Jy 2) Ej;replace QJ:(-32768:Int)<=Un/\Un<=32767:=QJ;have QO:=hin (Jy 3) Ej;replace QO:(-32768:Int)<=JP/\JP<=32767:=QO;refine⟨?_,U⟩;simp only[if_true];omega
structure Fs where
 tab:ET
 msg:List Int
 code:Int
def aH(T:ET)(i:Nat)(bs:List Int):Fs:=match du bs with
 |none=>⟨T,IZ 0,13⟩
 |some l=>if l.getD 0 0=1\/l.getD 0 0=2 then⟨T,IZ 0,13⟩
  else if(ZI (T.E5 i).win (l.getD 1 0).toNat).2 then⟨T.put i ⟨EI,0,max T.Iq 0,(T.E5 i).r,(T.E5 i).key,(ZI (T.E5 i).win (l.getD 1 0).toNat).1⟩,l,0⟩
  else⟨T,IZ 0,15⟩
def tW(key:List Int)(src:Int)(xs:List Int):Prop:=8<=xs.length/\xs=xs.take (xs.length-8)++dq key src (xs.take (xs.length-8))
instance(key:List Int)(src:Int)(xs:List Int):Decidable (tW key src xs):=by unfold tW;exact inferInstance
def ET.take(T:ET)(src:Int)(xs:List Int):Fs:=
 if(src=1\/src=2\/src=3)/\(T.E5 (src-1).toNat).on=EI then
  (if tW (T.E5 (src-1).toNat).key src xs then aH T (src-1).toNat (xs.take (xs.length-8)) else⟨T,IZ 0,14⟩)
 else⟨T,IZ 0,16⟩
def QU(o:Fs)(g:Nat)(w:M)(e:Uv)(w':M):Prop:=e=Eh (Es #[EZ (EH o.msg),E I o.code])/\Ip w' g o.tab/\E3 g w w'
theorem QX{bs:List Int}(hb: ∀x∈bs,0<=x/\x<=255)(h:du bs=X l):0<=l.getD 1 0/\l.getD 1 0<=4294967295:=by
 obtain⟨hp,hl,-⟩:=Fp hb h;match l,hl with
 |[a0,a1,a2,a3,a4,a5,a6,a7,a8,a9,Un,JP],_=> obtain⟨hf,-⟩:=P_ a0 a1 a2 a3 a4 a5 a6 a7 a8 a9 Un JP bs hp;exact((Fr _ _ _ _ _ _ _ _ _ _ _).1 hf).2.2.2.2.2.1
theorem Ft(pre old post:List G)(o n:Nat)(ho:pre.length=o)(hn:old.length=n):(pre++(old++post)).toArray.extract o (o+n)=old.toArray:=by subst ho hn;simp
theorem EU3(T:ET)(h:T.ok)(i:Nat):T.v.toArray.extract (so i+4) (so i+4+32)=Em (T.E5 i).key:=by rw[T.qm i];have e:T.pre i++((T.E5 i).v++T.post i)=(T.pre i++(Ox (T.E5 i).on (T.E5 i).a (T.E5 i).m++[E I (T.E5 i).r]))++((T.E5 i).key.map (E .u8)++(UX (T.E5 i).win++T.post i)):=y_;rw[e];exact Ft _ _ _ _ _ (by simp[ET.nu h i,Ox]) (by simp[(h.E5 i).len])
theorem EU4(T:ET)(h:T.ok)(i:Nat):T.v.toArray.extract (so i+36) (so i+36+3)=(UX (T.E5 i).win).toArray:=by rw[T.qm i];have e:T.pre i++((T.E5 i).v++T.post i)=(T.pre i++(Ox (T.E5 i).on (T.E5 i).a (T.E5 i).m++([E I (T.E5 i).r]++(T.E5 i).key.map (E .u8))))++(UX (T.E5 i).win++T.post i):=y_;rw[e];exact Ft _ _ _ _ _ QZ (ql _)
theorem EU5{W:M}{T:ET}(K:Ip W g T)(h:T.ok)(i:Nat)(v:Option (Nat×Nat)): Ip (W.setCells g (so i+36) (UX v)) g (T.put i {T.E5 i with win:=v}):=by unfold Ip at*;rw[T.qm i] at K;rw[T.sY i];have e1:T.pre i++((T.E5 i).v++T.post i)=(T.pre i++(Ox (T.E5 i).on (T.E5 i).a (T.E5 i).m++([E I (T.E5 i).r]++(T.E5 i).key.map (E .u8))))++(UX (T.E5 i).win++T.post i):=y_;have e2:T.pre i++(({T.E5 i with win:=v}:JC).v++T.post i)=(T.pre i++(Ox (T.E5 i).on (T.E5 i).a (T.E5 i).m++([E I (T.E5 i).r]++(T.E5 i).key.map (E .u8))))++(UX v++T.post i):=y_;rw[e1] at K;rw[e2];exact ZZ _ _ _ _ W K (by rw[ql,ql]) QZ
theorem ET.EU6(T:ET)(i:Nat)(a:JC):(T.put i a).Iq=T.Iq/\(T.put i a).most=T.most:=by
 match i with
 |0=>exact⟨U,U⟩
 |1=>exact⟨U,U⟩
 |_+2=>exact⟨U,U⟩
theorem zE:IF Ea 158 3:=⟨⟨_,Tryz.underlying158,U⟩,Ef⟩
theorem EU7:Ow Ea 158 (UX Z).toArray:=by intro ev o w ho;unfold Ig;simp only[ho];simp[go_sem];exact congrArg (fun c=>w.alloc (Ec c 158)) Ef
theorem EU8(v:Option (Nat×Nat))(q:Int)(h0:0<=q)(h1:q<=4294967295)(hv:qO v)(W:M): Eg Ea 126 #[EZ (UX v).toArray,E I q] W fun e w'=>e=Eh (Es #[EZ (UX (ZI v q.toNat).1).toArray,EU (ZI v q.toNat).2])/\Ek W w':=by have h:=EEs v q.toNat W hv D;rw[Ms,Ms,Int.toNat_of_nonneg h0] at h;exact h
def zI(b0 g o g11:Nat)(wc Uo:Array G)(q:Int)(f:Bool)(i:Nat)(v:G)(w:M):Prop:=match i with
 |0=>v=Y (X ⟨g,o,Z⟩)
 |1=>v=Y (X ⟨g,o,Z⟩)
 |2=>v=Y (X ⟨g,o+36,Z⟩)
 |3=>v=EZ wc
 |4=>v=Y (X ⟨g11,1,Z⟩)
 |5=>v=E I q
 |6=>v=Es #[EZ Uo,EU f]
 |7=>v=Es #[EZ Uo,EU f]
 |8=>v=EZ Uo
 |9=>v=EU f
 |10=> ∃(g12:Nat) (c:Array G),v=Y (X ⟨g12,0,Z⟩)/\b0<=g12/\c.size=Uo.size/\H w g12 c 158
 |_=>v=EU f
theorem EU9(b0 g o g11:Nat)(wc Uo:Array G)(q:Int)(f:Bool): ∀i v w w',i<13->zI b0 g o g11 wc Uo q f i v w->lZ b0 158 Uo w w'->zI b0 g o g11 wc Uo q f i v w':=by
 intro i v w w' hi h hb;unfold zI at*;split at h;case h_11=> obtain⟨g12,c,e,l1,hs,k⟩:=h;obtain⟨c',hs',k'⟩:=EER hb k hs;exact⟨g12,c',e,l1,hs',k'⟩
 all_goals exact h
def Fu(b0:Nat)(Uo:Array G)(v:G)(w:M):Prop:= ∃g12:Nat,v=Y (X ⟨g12,0,Z⟩)/\b0<=g12/\H w g12 Uo 158
theorem EU_(b0:Nat)(Uo:Array G): ∀v w w',Fu b0 Uo v w->lZ b0 158 Uo w w'->Fu b0 Uo v w':=by rintro v w w' ⟨g12,e,l,k⟩ hb;exact⟨g12,e,l,EES hb k⟩
theorem Qa(v:Option (Nat×Nat)):(UX v).toArray.all (·.oneCell')=EI:=by rcases v with _|⟨h,q⟩<;>simp[UX,Ov]
theorem Qb{v:Option (Nat×Nat)}{q:Nat}(hv:qO v)(hq:q<=4294967295):qO (ZI v q).1:=by
 rcases v with _|⟨h,s⟩;·exact⟨hq,Eb⟩
 ·obtain⟨h1,h2⟩:=hv;by_cases c1:h<q
  ·have e:ZI (X (h,s)) q=(X (q,(s*2^(q-h))%2^64|||1),EI):=by simp only[ZI,if_pos c1]
   rw[e];exact⟨hq,Nat.or_lt_two_pow (Nat.mod_lt _ Eb) Eb⟩
  ·by_cases c2:h-q<64
   ·have e:ZI (X (h,s)) q=(X (h,s|||2^(h-q)),!s.testBit (h-q)):=by simp only[ZI,if_neg c1,if_pos c2]
    rw[e];exact⟨h1,Nat.or_lt_two_pow h2 (Nat.pow_lt_pow_right Eb c2)⟩
   ·have e:ZI (X (h,s)) q=(X (h,s),V):=by simp only[ZI,if_neg c1,if_neg c2]
    rw[e];exact⟨h1,h2⟩
theorem EXE(g:Nat)(T:ET)(src:Int)(xs:List Int)(Y4:Option Ev)(n c:Nat)(w:M)(K:Ip w g T)(h:T.ok)(hn:xs.length=n)(hnc:n<=c)(hc:c<=9223372036854775807)(hs:n<=1000)(hr:Row w Y4 xs)(hR:JH w): Eg Ea 88 #[Y (X ⟨g,0,Z⟩),E I src,EJ Y4 n c] w (QU (T.take src xs) g w):=by
 have lg0:=H.lt K;have CO:=J<|fun W (k:H W g T.v.toArray 163)=>tj g T src W k h;have KT:Ed (H w g T.v.toArray 163):=J K;have RT:=J hR;have HR:=J hr;have HH:=J h;obtain⟨R,hRR⟩:=Eo (T.take src xs);rw[<-hRR];have PO:Ed (∀(e:Uv) (w':M) (l:List Int) (k:Int) (T2:ET),R=⟨T2,l,k⟩->e=Eh (Es #[EZ (EH l),E I k])->Ip w' g T2->E3 g w w'->QU R g w e w'):=J (by intro e w' l k T2 hR he hk ho;subst hR;exact⟨he,hk,ho⟩);rcases yJ T g src with⟨e1,e2,-⟩|⟨i,hi,es,hon,e1,-,-⟩
 ·have hR0:R=⟨T,IZ 0,16⟩:=by rw[hRR];unfold ET.take;rw[if_neg];rintro⟨hs,ho⟩;have:=e2 D D;unfold ET.Zf at this;rw[if_neg D,if_neg D,if_pos hs,ho] at this;cases this
  rw[e1] at CO;have PF:=J<|fun e w' he hk ho=>PO.out e w' _ _ _ hR0 he hk ho;clear hR0 hRR e1 e2 K h hr hR PO;go_enter Tryz.func88,Tryz.ntmps88;go_wp2_with (with_reducible refine wA gO (Ey.mk ?_));apply Et;have K2:=J<|H.new w (EH (IZ 0)) 183;have b1:=Er w (Ec (EH (IZ 0)) 183);replace KT:=J<|KT.out.u b1;replace RT:=J<|RT.out.u b1;replace HR:=J<|IH HR.out b1;have ON:Ed (E3 g w (w.alloc (Ec (EH (IZ 0)) 183))):=J<|E3.EC b1;generalize w.alloc (Ec (EH (IZ 0)) 183)=w1 at*;clear b1;go_wp2_with fail;refine(CO.out _ KT.out).mono ?_;rintro e w' ⟨rfl,rfl⟩;clear CO;go_wp2_with (first|((with_reducible refine It 19 ?_);refine JO rfl 183 _ rfl (EH (IZ 0)) ip ?_)|(with_reducible refine wS (cs:=(EH (IZ 0))) Oz K2 ?_ (ho:=JI _) (hn:=JI _) (h1:=Zy _)));refine EV (v:=Es #[EZ (EH (IZ 0)),E I 16]) (cK Oz U _ _ w.heap.size _ _ U U (K2.out.setRow _) (JI _)) U ?_;exact EkJ
 ·have e2:(src-1).toNat=i:=D;have hs3:src=1\/src=2\/src=3:=D;have hR0:R=if tW (T.E5 i).key src xs then aH T i (xs.take (xs.length-8)) else⟨T,IZ 0,14⟩:=by rw[hRR];unfold ET.take;rw[e2,if_pos ⟨hs3,hon⟩]
  rw[e1] at CO;have hso:=h.E5 i;obtain⟨key,hkey⟩:=Eo ((T.E5 i).key);have TK:=EU3 T h i;rw[<-hkey] at hR0 TK;have hkl:key.length=32:=by rw[hkey];exact hso.len
  have hkb: ∀x∈key,0<=x/\x<=255:=by rw[hkey];exact hso.bytes
  replace TK:=J TK;have qS:=J hR0;have dp:=J hkl;have nR:=J hkb;have HKEY:=J hkey;have HN:=J hn;have hks:Ed ((Em key).size=32):=J (by rw[Oc,hkl]);obtain⟨o,ho⟩:=Eo (so i);rw[<-ho] at CO TK;have HO:=J ho;have HON:=J hon;clear hRR e1 e2 hs3 K h hr hR hkl hkb hkey hn hR0 ho hon hso es;go_enter Tryz.func88,Tryz.ntmps88;go_wp2_with (with_reducible refine wA gO (Ey.mk ?_));apply Et;have K2:=J<|H.new w (EH (IZ 0)) 183;have b1:=Er w (Ec (EH (IZ 0)) 183);replace KT:=J<|KT.out.u b1;replace RT:=J<|RT.out.u b1;replace HR:=J<|IH HR.out b1;have ON:Ed (E3 g w (w.alloc (Ec (EH (IZ 0)) 183))):=J<|E3.EC b1;generalize w.alloc (Ec (EH (IZ 0)) 183)=w1 at*;clear b1;go_wp2_with fail;refine(CO.out _ KT.out).mono ?_;rintro e w' ⟨rfl,rfl⟩;clear CO;obtain⟨kv,hkv⟩:=Eo (Em key);rw[<-hkv] at hks TK;replace hkv:=J hkv;by_cases hn8:n<8
  ·have lP:R=⟨T,IZ 0,14⟩:=by rw[qS.out,if_neg];rintro⟨h8,-⟩;rw[HN.out] at h8;omega
   have PF:=J<|fun e w' he hk ho=>PO.out e w' _ _ _ lP he hk ho;clear lP;go_wp2_with (with_reducible refine wM (off:=(o+4)) (cs:=kv) OF KT ?_ (hn:=hks.out) (he:=TK.out));rw[hkv.out];refine(EOK key Y4 n c src _ hn8).mono ?_;exact En8
  obtain⟨m,rfl⟩: ∃m,n=m+8:=⟨n-8,D⟩;have em:xs.length-8=m:=qu;by_cases hx:xs=xs.take m++dq key src (xs.take m)
  ·have lP:R=aH T i (xs.take m):=by rw[qS.out,if_pos,em];unfold tW;rw[em,HN.out];exact⟨D,hx⟩
   have HR1:=J lP;clear lP;go_wp2_with (with_reducible refine wM (off:=(o+4)) (cs:=kv) OF KT ?_ (hn:=hks.out) (he:=TK.out));rw[hkv.out];refine(EOP key xs Y4 m c src _ dp.out nR.out HN.out HR.out D D RT.out hx).mono ?_;rintro e w2 ⟨⟨A3,d3,rfl,o3⟩,b2⟩;have O3:=J o3;have Fv:Ed ((xs.take m).length=m):=J (by rw[ZJ,HN.out];omega);clear hx o3;replace K2:=J<|K2.out.u b2;replace KT:=J<|KT.out.u b2;replace ON:=J<|ON.out.trans (E3.EC b2);replace RT:=J<|RT.out.u b2;clear b2;obtain⟨bs,hbs⟩:=Eo (xs.take m);rw[<-hbs] at O3 Fv HR1;clear hbs;have hcap:=EUG O3.out;rw[Fv.out] at hcap;have CT:=J<|Fo bs A3 m d3 Fv.out hcap.1 hcap.2 _ O3.out.row;have nY:=J O3.out.2;clear hcap;go_wp2_with fail;refine(CT.out).mono ?_;rintro e w3 ⟨hpost,b3⟩;clear CT O3;replace K2:=J<|K2.out.u b3;replace KT:=J<|KT.out.u b3;replace ON:=J<|ON.out.trans (E3.EC b3);replace RT:=J<|RT.out.u b3;clear b3;cases htk:du bs with
   |none=>
    rw[htk] at hpost;obtain rfl:=hpost;have hR2:R=⟨T,IZ 0,13⟩:=by rw[HR1.out];unfold aH;rw[htk]
    have PF:=J<|fun e w' he hk ho=>PO.out e w' _ _ _ hR2 he hk ho;clear htk hR2;go_wp2_with (with_reducible refine wA gO (Ey.mk ?_));apply Et;have l2:=K2.out.lt;have lt:=KT.out.lt;have lr:=RT.out.lt;have b4:=Er w3 (Ec (EH (IZ 0)) 183);replace K2:=J<|K2.out.u b4;replace KT:=J<|KT.out.u b4;replace ON:=J<|ON.out.trans (E3.EC b4);replace RT:=J<|RT.out.u b4;have JX:=J<|H.new w3 (EH (IZ 0)) 183;clear b4;generalize w3.alloc (Ec (EH (IZ 0)) 183)=w4 at*;generalize w3.heap.size=g11 at*;have tY:=ON.out.size;have Fw:w.heap.size<=g11:=D;go_wp2_with (with_reducible refine wS (cs:=(EH (IZ 0))) Oz JX (Ey.mk ?_) (ho:=JI _) (hn:=JI _) (h1:=Zy _));apply Et;replace K2:=J<|K2.out.setRow_other g11 (EH (IZ 0)) D;replace KT:=J<|KT.out.setRow_other g11 (EH (IZ 0)) D;replace JX:=J<|JX.out.setRow (EH (IZ 0));replace RT:=J<|RT.out.setRow g11 (EH (IZ 0)) D;replace ON:=J<|ON.out.fa (g2:=g11) Fw (fY (EH (IZ 0))) tY;generalize w4.setRow g11 (EH (IZ 0))=w5 at*;clear tY;exact EkE
   |some l=>
    rw[htk] at hpost;obtain rfl:=hpost;have zJ:=QX nY.out htk;have fd:=J htk;clear htk;go_wp2_with (with_reducible refine wA gO (Ey.mk ?_));apply Et;have l2:=K2.out.lt;have lt:=KT.out.lt;have lr:=RT.out.lt;have b4:=Er w3 (Ec (EH (IZ 0)) 183);replace K2:=J<|K2.out.u b4;replace KT:=J<|KT.out.u b4;replace ON:=J<|ON.out.trans (E3.EC b4);replace RT:=J<|RT.out.u b4;have JX:=J<|H.new w3 (EH (IZ 0)) 183;clear b4;generalize w3.alloc (Ec (EH (IZ 0)) 183)=w4 at*;generalize w3.heap.size=g11 at*;have tY:=ON.out.size;have Fw:w.heap.size<=g11:=D;go_wp2_with (with_reducible refine wS (cs:=(EH l)) Oz JX (Ey.mk ?_) (ho:=JI _) (hn:=JI _) (h1:=Zy _));apply Et;replace K2:=J<|K2.out.setRow_other g11 (EH l) D;replace KT:=J<|KT.out.setRow_other g11 (EH l) D;replace JX:=J<|JX.out.setRow (EH l);replace RT:=J<|RT.out.setRow g11 (EH l) D;replace ON:=J<|ON.out.fa (g2:=g11) Fw (fY (EH l)) tY;generalize w4.setRow g11 (EH l)=w5 at*;clear tY;have c0:w5.cell? ⟨g11,0,Z⟩=X (E I (l.getD 0 0)):=(JX.out.cell 0).trans (Zd l 0 D);obtain⟨kd,hkd⟩:=Eo (l.getD 0 0);rw[<-hkd] at c0;by_cases h12:kd=1\/kd=2
    ·have hR2:R=⟨T,IZ 0,13⟩:=by rw[HR1.out];unfold aH;rw[fd.out];simp only;rw[<-hkd,if_pos h12]
     have PF:=J<|fun e w' he hk ho=>PO.out e w' _ _ _ hR2 he hk ho;clear hR2 hkd;rcases h12 with rfl|rfl;·exact EkE
     ·exact EkE
    have n1:(kd==1)=V:=beq_eq_false_iff_ne.2 (fun h=>h12 (.inl h));have n2:(kd==2)=V:=beq_eq_false_iff_ne.2 (fun h=>h12 (.inr h));have hR2:R=if(ZI (T.E5 i).win (l.getD 1 0).toNat).2 then⟨T.put i ⟨EI,0,max T.Iq 0,(T.E5 i).r,(T.E5 i).key,(ZI (T.E5 i).win (l.getD 1 0).toNat).1⟩,l,0⟩ else⟨T,IZ 0,15⟩:=by rw[HR1.out];unfold aH;rw[fd.out];simp only;rw[<-hkd,if_neg h12]
    obtain⟨q,hq⟩:=Eo (l.getD 1 0);rw[<-hq] at hR2 zJ;have c1:Ed ((EH l)[1]?=X (E I q)):=J (by rw[hq];exact Zd l 1 D);have CW:=J<|fun W=>EU8 (T.E5 i).win q zJ.1 zJ.2 (HH.out.E5 i).win W;have TW:=J<|EU4 T HH.out i;rw[<-HO.out] at TW;obtain⟨v2,hv2⟩:=Eo (ZI (T.E5 i).win q.toNat);rw[<-hv2] at hR2 CW;have Qc:qO v2.1:=by rw[hv2];exact Qb (HH.out.E5 i).win D
    obtain⟨nw,fr⟩:=v2;have EXJ:=J Qc;clear Qc;obtain⟨wc,hwc⟩:=Eo ((UX (T.E5 i).win).toArray);obtain⟨Uo,zO⟩:=Eo ((UX nw).toArray);simp only at hR2 CW;rw[<-hwc,<-zO] at CW;rw[<-hwc] at TW;have SW:Ed (wc.size=3):=J (by rw[hwc];exact ql _);have qT:Ed (Uo.size=3):=J (by rw[zO];exact ql _);have Fx:=J zO;have HR2:=J hR2;clear hkd zJ hq hv2 hwc zO hR2 h12;go_wp2_with fail;clear c0 n1 n2;have EXO:=JX.out.lt;have ltg:=KT.out.lt;have W1:=J<|Qa nw;rw[<-Fx.out] at W1;refine EE1 (fK (b0:=w5.heap.size) (T:=158) (cs:=Uo)) Ef 13 Ef Ej Eb (RX (zI w5.heap.size g o g11 wc Uo q fr) 11 10 (Fu w5.heap.size Uo)) (RX.keep (EU9 _ _ _ _ _ _ _ _) (EU_ _ _)) (RX.dep (tI Ef)) ?_ ?_
    ·simp only[xw,Is,Io,ED,Ic,Ii,IJ,IU,and_true];refine⟨?_,?_,?_,?_,?_,?_,?_,?_,?_,?_,?_,?_,?_⟩;all_goals intro v w' hb hd
     ·exact Iw fK (Ei U) Ew U
     ·have d0:v 0=Y (X ⟨g,o,Z⟩):=hd.at 0 rfl;exact Iw fK (Ei U) Uc U
     ·have d1:v 1=Y (X ⟨g,o,Z⟩):=hd.at 1 rfl;exact Iw fK (Ei U) Xl U
     ·have d2:v 2=Y (X ⟨g,o+36,Z⟩):=hd.at 2 rfl;exact aC fK zE (Ei U) ⟨U,d2⟩ (MA hb KT.out (.inl ltg)) SW.out TW.out U
     ·exact Iw fK (Ei U) Ew U
     ·have d4:v 4=Y (X ⟨g11,1,Z⟩):=hd.at 4 rfl;have cc:w'.cell? ⟨g11,1,Z⟩=X (E I q):=(H.cell (MA hb JX.out (.inl EXO)) 1).trans c1.out;exact Iw fK (Ei U) Fy U
     ·have d3:v 3=EZ wc:=hd.at 3 rfl;have d5:v 5=E I q:=hd.at 5 rfl;refine JE (f:=126) (args:= #[v 3,v 5]) (Ei U) Ew ?_;rw[d3,d5];exact(CW.out w').mono fun e w'' ⟨he,hb'⟩=>⟨_,he,Mz hb',U⟩
     ·have d6:v 6=Es #[EZ Uo,EU fr]:=hd.at 6 rfl;exact Iw fK (Ei U) nS U
     ·exact Enp
     ·exact Enp
     ·exact Za (Ei U) (EU7 _ _ _ U) (Mz (Er w' _)) ⟨_,_,U,hb.1,(show(UX Z).toArray.size=Uo.size by rw[qT.out];rfl),H.new _ _ _⟩
     ·obtain⟨g12,c,d10,Fz,hs,k12⟩: ∃(g12:Nat) (c:Array G),v 10=Y (X ⟨g12,0,Z⟩)/\w5.heap.size<=g12/\c.size=Uo.size/\H w' g12 c 158:=hd.at 10 rfl;have d8:v 8=EZ Uo:=hd.at 8 rfl;exact cO zE (Ei U) ⟨U,d10,d8⟩ k12 (hs.trans qT.out) qT.out W1.out (EEQ k12 Fz hs) ⟨g12,d10,Fz,k12.setRow Uo⟩
     ·have d9:v 9=EU fr:=hd.at 9 rfl;exact Iw fK (Ei U) nW U
    ·intro v w7 hb hr;obtain⟨g12,d10,Fz,iy⟩: ∃g12:Nat,v 10=Y (X ⟨g12,0,Z⟩)/\w5.heap.size<=g12/\H w7 g12 Uo 158:=hr 11 D;have d8:v 8=EZ Uo:=hr 8 D;have d12:v 12=EU fr:=hr 12 D;simp only[Is,Io,IS,IM,ED,Ic,Ii,IJ,IU];rw[d10,d12];replace iy:=J iy;have hb5:=hb.2.1 (E9 _);replace K2:=J<|K2.out.u hb5;replace KT:=J<|KT.out.u hb5;replace ON:=J<|ON.out.trans (E3.EC hb5);replace RT:=J<|RT.out.u hb5;replace JX:=J<|JX.out.u hb5;clear hr hb hb5 d8 d10 d12 CW c1 TW RT W1;cases fr with
     |false=>
      have t_:R=⟨T,IZ 0,15⟩:=by rw[HR2.out];rfl
      have PF:=J<|fun e w' he hk ho=>PO.out e w' _ _ _ t_ he hk ho;clear t_;go_wp2_with (first|((with_reducible refine It 63 ?_);refine JO rfl 183 _ rfl (EH (IZ 0)) ip ?_)|(with_reducible refine wS (cs:=(EH (IZ 0))) Oz K2 ?_ (ho:=JI _) (hn:=JI _) (h1:=Zy _)));refine EV (v:=Es #[EZ (EH (IZ 0)),E I 15]) (cK Oz U _ _ w.heap.size _ _ U U (K2.out.setRow _) (JI _)) U ?_;exact EkJ
     |true=>
      have t_:R=⟨T.put i ⟨EI,0,max T.Iq 0,(T.E5 i).r,(T.E5 i).key,nw⟩,l,0⟩:=by rw[HR2.out];rfl
      have PF:=J<|fun e w' he hk ho=>PO.out e w' _ _ _ t_ he hk ho;clear t_;have TH:Ed (w7.there g (o+36) 3):=J<|aA KT.out (by rw[qy KT.out HH.out,HO.out];have:=Dx i;omega);have K8:=J<|EU5 KT.out HH.out i nw;have uE:=J<|ON.out.trans (JG (g:=g) (UX nw) (so i+36) w7);have uI:Ed (H (w7.setCells g (so i+36) (UX nw)) w.heap.size (EH (IZ 0)) 183):=J<|(JG (g:=g) (UX nw) (so i+36) w7).El K2.out D;have uJ:Ed (H (w7.setCells g (so i+36) (UX nw)) g11 (EH l) 183):=J<|(JG (g:=g) (UX nw) (so i+36) w7).El JX.out D;rw[<-HO.out] at K8 uE uI uJ;have ew:Uo.toList=UX nw:=by rw[Fx.out]
      replace ew:=J ew;go_wp2_with (first|(with_reducible refine wL zE iy ?_ (hn:=qT.out))|((with_reducible refine Jr 158 ?_);(with_reducible refine Um rfl 158 _ _ rfl g (o+36) Uo ?_ ?_ ?_ ?_ ?_ ?_);(·rfl);(·rfl);(·rw[qT.out];exact TH.out);(·rw[qT.out];exact zE.2);(·rw[Fx.out];exact Qa nw);refine Ey.mk ?_));apply Et;rw[ew.out];generalize w7.setCells g (o+36) (UX nw)=w8 at*;clear iy TH KT K2 JX ON;have hok2:=(HH.out).put i (s:={T.E5 i with win:=nw}) ⟨(HH.out.E5 i).len,(HH.out.E5 i).bytes,EXJ.out⟩;have cb: ∀y:Ext w8,(EA w8 y).cell? ⟨g,120,Z⟩=X (E I T.Iq):=fun y=>by have:=(yI (Ip.u K8.out (EL y)) hok2).1;rwa [(ET.EU6 _ _ _).1] at this
      have KH:Ed (H w8 g (T.pre i++([EU (T.E5 i).on,E I (T.E5 i).a,E I (T.E5 i).m]++(([E .i64 (T.E5 i).r]++((T.E5 i).key.map (E .u8)++UX nw))++T.post i))).toArray 163):=J (by have:=K8.out;unfold Ip at this;rw[T.sY i] at this;simpa[JC.v,Ox] using this);have CH:=J<|fun W (k:H W g (T.pre i++([EU (T.E5 i).on,E I (T.E5 i).a,E I (T.E5 i).m]++(([E .i64 (T.E5 i).r]++((T.E5 i).key.map (E .u8)++UX nw))++T.post i))).toArray 163)=>xu g o (T.pre i) _ _ _ _ 163 T.Iq W k (by rw[HO.out];exact ET.nu HH.out i);have HP:Ed (∀w',H w' g (T.pre i++(Ox EI 0 (max T.Iq 0)++(([E .i64 (T.E5 i).r]++((T.E5 i).key.map (E .u8)++UX nw))++T.post i))).toArray 163->Ip w' g (T.put i ⟨EI,0,max T.Iq 0,(T.E5 i).r,(T.E5 i).key,nw⟩)):=J (fun w' k=>by unfold Ip;rw[T.sY i];simpa[JC.v] using k);generalize T.Iq=Iq at*;go_wp2_with fail;refine J_ 7 Ef Ef ?_;simp only[Is,Io,IS,IM];repeat (go_big_quiet_step ((fail)))
      refine I2 ?_;intro _ hw';obtain⟨y9,rfl⟩:=hw';have En:=EL y9;replace KH:=J<|KH.out.u En;replace uI:=J<|uI.out.u En;replace uJ:=J<|uJ.out.u En;replace uE:=J<|uE.out.trans (E3.EC En);clear cb En K8;generalize EA w8 y9=w9 at*;go_wp2_with fail;refine(CH.out _ KH.out).mono ?_;rintro e U0 ⟨rfl,k10,nC⟩;have KT:=J<|HP.out _ k10;have K2:=J<|nC.El uI.out D;have JX:=J<|nC.El uJ.out D;have ON:=J<|uE.out.trans nC;clear CH KH uI uJ uE nC k10 HP;go_wp2_with (with_reducible first|refine wL Oz JX ?_ (hn:=JI _)|refine wS (cs:=(EH l)) Oz K2 ?_ (ho:=JI _) (hn:=JI _) (h1:=Zy _));refine EV (v:=Es #[EZ (EH l),E I 0]) (cK Oz U _ _ w.heap.size _ _ U U (K2.out.setRow _) (JI _)) U ?_;exact EkJ
  ·have lP:R=⟨T,IZ 0,14⟩:=by rw[qS.out,if_neg];rintro⟨-,h8⟩;rw[em] at h8;exact hx h8
   have PF:=J<|fun e w' he hk ho=>PO.out e w' _ _ _ lP he hk ho;clear lP;go_wp2_with (with_reducible refine wM (off:=(o+4)) (cs:=kv) OF KT ?_ (hn:=hks.out) (he:=TK.out));rw[hkv.out];refine(EON key xs Y4 m c src _ dp.out nR.out HN.out HR.out D D RT.out hx).mono ?_;exact En8
def gU(Iq most:Int):ET:=⟨V,0,0,UN,UN,UN,Iq,most⟩
theorem EXX(Iq most:Int):(gU Iq most).ok:=⟨sW,sW,sW⟩
theorem EXZ(Iq most:Int):Tryz.prog.built 163 [(2,E I Iq),(3,E I most)]=X (gU Iq most).v.toArray:=Ef
theorem EXa(pv:Array G)(Iq most:Int)(w:M)(hs:pv.size=56)(hb:pv[42]?=X (E I Iq))(hm:pv[49]?=X (E I most)): Eg Ea 43 #[EZ pv] w fun e w'=> ∃g,w.heap.size<=g/\e=Eh (Y (X ⟨g,0,Z⟩))/\Ip w' g (gU Iq most)/\Ek w w':=by
 have BT:=J<|EXZ Iq most;have K0:=J<|H.new w pv 28;have c1:(w.alloc (Ec pv 28)).cell? ⟨w.heap.size,42,Z⟩=X (E I Iq):=by rw[K0.out.cell,hb]
 have c2:(w.alloc (Ec pv 28)).cell? ⟨w.heap.size,49,Z⟩=X (E I most):=by rw[K0.out.cell,hm]
 have HE:Ed (∀x,x=(gU Iq most).v.toArray-> ∀W g,H W g x 163->Ip W g (gU Iq most)):=J fun x hx W g k=>by rw[hx] at k;exact k
 obtain⟨tv,Ik⟩:=Eo ((gU Iq most).v.toArray);rw[<-Ik] at BT;replace HE:=J<|HE.out tv Ik;clear Ik hb hm;go_enter Tryz.func43,Tryz.ntmps43;go_wp2_with (first|((with_reducible refine It 7 ?_);refine JO rfl 163 _ rfl tv BT.out ?_));go_ret;exact⟨w.heap.size+1,D,U,HE.out _ _ (H.new' _ _ _ Ej),J3 w _ _⟩
def I3(l:List Int):Array G:=(l.map (E .i64)).toArray
theorem qV(l:List Int):(I3 l).all (·.oneCell')=EI:=by simp[I3,Ov]
theorem zU:IF Ea 176 10:=⟨⟨_,Tryz.underlying176,U⟩,Ef⟩
theorem qW:IF Ea 206 2:=⟨⟨_,Tryz.underlying206,U⟩,Ef⟩
theorem Qd:IF Ea 207 12:=⟨⟨_,Tryz.underlying207,U⟩,Ef⟩
theorem EXb:IF Ea 58 6:=⟨⟨_,Tryz.underlying58,U⟩,Ef⟩
theorem FF:Ow Ea 176 (Em (Eu 10)):=by intro ev o w ho;unfold Ig;simp only[ho];simp[go_sem];exact congrArg (fun c=>w.alloc (Ec c 176)) Ef
theorem qY:Ow Ea 206 (I3 (Eu 2)):=by intro ev o w ho;unfold Ig;simp only[ho];simp[go_sem];exact congrArg (fun c=>w.alloc (Ec c 206)) Ef
theorem EXc:Ow Ea 207 (I3 (Eu 12)):=by intro ev o w ho;unfold Ig;simp only[ho];simp[go_sem];exact congrArg (fun c=>w.alloc (Ec c 207)) Ef
theorem EXd: ∃i,Tryz.prog.info? 206=X i/\i.size=2:=by
 have h:(Tryz.prog.info? 206).map (·.size)=X 2:=Ef;cases hi:Tryz.prog.info? 206 with
 |none=>rw[hi] at h;cases h
 |some i=>rw[hi] at h;exact⟨i,U,UB⟩
theorem q_(cs:Array G)(i:Nat)(h:i<6)(W:M):(Ua 207 (EZ cs) (E I (i:Int))).run Ea W= .ok (EZ (cs.extract (i*2) (i*2+2))) W:=by obtain⟨i0,hi,h1⟩:=EXd;unfold Ua;have c1:(0:Int)<=(i:Int)/\(i:Int)<(6:Int):=D;simp[asIntOf,run_underlying Tryz.underlying207,c1,sizeOf,typeInfo,hi,h1,Go.part,isAgg,run_underlying Tryz.underlying206];omega
def fg(k s q e c h:Int):List Int:=be (k%256) 1++be (s%256) 1++be (q%4294967296) 4++be (e%65536) 2++be (c%256) 1++be (h%256) 1
theorem EXf(k s q e c h:Int):(fg k s q e c h).length=10:=by simp[fg,OD]
theorem EXg(k s q e c h:Int): ∀x∈fg k s q e c h,0<=x/\x<=255:=by intro x hx;simp only[fg,Xt] at hx;rcases hx with((((h|h)|h)|h)|h)|h<;>exact tc _ _ x h
theorem FG(n:Int)(k:Nat)(m:Int)(hk:k<=63)(hm:IntKind.u64.wrap (IntKind.u64.wrap (2^k)-1)=m)(hd:(2:Int)^k∣18446744073709551616):Iu .and .u64 (IntKind.u64.wrap n) m=n%2^k:=by
 have e:IntKind.u64.wrap n=n%18446744073709551616:=by unfold na;rfl
 rw[e,<-hm,NX k hk _ D D];exact Int.emod_emod_of_dvd n hd
theorem zX(n:Int):Iu .and .u64 (IntKind.u64.wrap n) 255=n%256:=FG n 8 255 D Eb Eb
theorem EXh(n:Int):Iu .and .u64 (IntKind.u64.wrap n) 65535=n%65536:=FG n 16 65535 D Eb Eb
theorem EXi(n:Int):Iu .and .u64 (IntKind.u64.wrap n) 4294967295=n%4294967296:=FG n 32 4294967295 D Eb Eb
theorem oI(p y:List Int)(n at_:Nat)(hp:p.length=at_):putAt (p++Eu n) at_ y=(p++y)++Eu (n-y.length):=by subst hp;unfold putAt Eu;simp[List.drop_append]
theorem EXj(k s q e c h:Int)(w:M): Eg Ea 81 #[EZ #[E I k,E I s,E I q,E I e,E I c,E I h]] w fun e' w'=>e'=Eh (EZ (Em (fg k s q e c h)))/\Ek w w':=by
 have B:=J<|E_ w.heap.size w;go_enter Tryz.func81,Tryz.ntmps81;go_wp2_with (with_reducible refine wA FF (Ey.mk ?_));apply Et;have KR:=J<|(H.new w #[E I k,E I s,E I q,E I e,E I c,E I h] 58).alloc (Ec (Em (Eu 10)) 176);have K2:=J<|H.new' (w.alloc (Ec #[E I k,E I s,E I q,E I e,E I c,E I h] 58)) (Em (Eu 10)) 176 (g:=w.heap.size+1) Ej;replace B:=J<|J3 w (Ec #[E I k,E I s,E I q,E I e,E I c,E I h] 58) (Ec (Em (Eu 10)) 176);generalize (w.alloc (Ec #[E I k,E I s,E I q,E I e,E I c,E I h] 58)).alloc (Ec (Em (Eu 10)) 176)=w1 at*;have g2e:w.heap.size<=w.heap.size+1:=Nat.le_succ _;generalize w.heap.size+1=g2 at*;have ck:=(XW KR.out).1;have l1:=K2.out.lt;go_wp2_with (with_reducible refine wA EXc (Ey.mk ?_));apply Et;have bel:=Er w1 (Ec (I3 (Eu 12)) 207);replace KR:=J<|KR.out.u bel;replace K2:=J<|K2.out.u bel;replace B:=EW B bel;have K3:=J<|H.new w1 (I3 (Eu 12)) 207;clear bel;generalize w1.alloc (Ec (I3 (Eu 12)) 207)=w2 at*;generalize w1.heap.size=g3 at*;clear ck;go_wp2_with (with_reducible refine wS (cs:= #[E I k,E I 1,E I s,E I 1,E I q,E I 4,E I e,E I 2,E I c,E I 1,E I h,E I 1]) Qd K3 (Ey.mk ?_) (h1:=UP));apply Et;replace KR:=J<|KR.out.setRow_other g3 (#[E I k,E I 1,E I s,E I 1,E I q,E I 4,E I e,E I 2,E I c,E I 1,E I h,E I 1]) D;replace K2:=J<|K2.out.setRow_other g3 (#[E I k,E I 1,E I s,E I 1,E I q,E I 4,E I e,E I 2,E I c,E I 1,E I h,E I 1]) D;replace K3:=J<|K3.out.setRow (#[E I k,E I 1,E I s,E I 1,E I q,E I 4,E I e,E I 2,E I c,E I 1,E I h,E I 1]);replace B:=J<|E6 (g:=g3) B.out D (#[E I k,E I 1,E I s,E I 1,E I q,E I 4,E I e,E I 2,E I c,E I 1,E I h,E I 1]);generalize w2.setRow g3 (#[E I k,E I 1,E I s,E I 1,E I q,E I 4,E I e,E I 2,E I c,E I 1,E I h,E I 1])=w3 at*;have l3:=K3.out.lt;go_wp2_with (with_reducible refine wA FF (Ey.mk ?_));apply Et;have bel:=Er w3 (Ec (Em (Eu 10)) 176);replace KR:=J<|KR.out.u bel;replace K2:=J<|K2.out.u bel;replace K3:=J<|K3.out.u bel;replace B:=EW B bel;have K4:=J<|H.new w3 (Em (Eu 10)) 176;clear bel;generalize w3.alloc (Ec (Em (Eu 10)) 176)=w4 at*;generalize w3.heap.size=g4 at*;clear KR;have K3c:Ed (H w4 g3 (#[E I k,E I 1,E I s,E I 1,E I q,E I 4,E I e,E I 2,E I c,E I 1,E I h,E I 1]) 207):=K3;go_wp2_with (with_reducible refine wL Qd K3 ?_);refine OJ 7 ?_;have l4:=K4.out.lt;have P0L:Ed ((([]:List Int)++Eu 10).length=10):=J oJ;have P0E:Ed (putAt (([]:List Int)++Eu 10) 0 (be (k%256) 1)=(([]:List Int)++be (k%256) 1)++Eu 9):=J (by rw[oI _ _ _ _ rE,OD]);have P1L:Ed (((([]:List Int)++be (k%256) 1)++Eu 9).length=10):=J oJ;have P1E:Ed (putAt ((([]:List Int)++be (k%256) 1)++Eu 9) 1 (be (s%256) 1)=((([]:List Int)++be (k%256) 1)++be (s%256) 1)++Eu 8):=J (by rw[oI _ _ _ _ rE,OD]);have P2L:Ed ((((([]:List Int)++be (k%256) 1)++be (s%256) 1)++Eu 8).length=10):=J oJ;have P2E:Ed (putAt (((([]:List Int)++be (k%256) 1)++be (s%256) 1)++Eu 8) 2 (be (q%4294967296) 4)=(((([]:List Int)++be (k%256) 1)++be (s%256) 1)++be (q%4294967296) 4)++Eu 4):=J (by rw[oI _ _ _ _ rE,OD]);have P3L:Ed (((((([]:List Int)++be (k%256) 1)++be (s%256) 1)++be (q%4294967296) 4)++Eu 4).length=10):=J oJ;have P3E:Ed (putAt ((((([]:List Int)++be (k%256) 1)++be (s%256) 1)++be (q%4294967296) 4)++Eu 4) 6 (be (e%65536) 2)=((((([]:List Int)++be (k%256) 1)++be (s%256) 1)++be (q%4294967296) 4)++be (e%65536) 2)++Eu 2):=J (by rw[oI _ _ _ _ rE,OD]);have P4L:Ed ((((((([]:List Int)++be (k%256) 1)++be (s%256) 1)++be (q%4294967296) 4)++be (e%65536) 2)++Eu 2).length=10):=J oJ;have P4E:Ed (putAt (((((([]:List Int)++be (k%256) 1)++be (s%256) 1)++be (q%4294967296) 4)++be (e%65536) 2)++Eu 2) 8 (be (c%256) 1)=(((((([]:List Int)++be (k%256) 1)++be (s%256) 1)++be (q%4294967296) 4)++be (e%65536) 2)++be (c%256) 1)++Eu 1):=J (by rw[oI _ _ _ _ rE,OD]);have P5L:Ed (((((((([]:List Int)++be (k%256) 1)++be (s%256) 1)++be (q%4294967296) 4)++be (e%65536) 2)++be (c%256) 1)++Eu 1).length=10):=J oJ;have P5E:Ed (putAt ((((((([]:List Int)++be (k%256) 1)++be (s%256) 1)++be (q%4294967296) 4)++be (e%65536) 2)++be (c%256) 1)++Eu 1) 9 (be (h%256) 1)=((((((([]:List Int)++be (k%256) 1)++be (s%256) 1)++be (q%4294967296) 4)++be (e%65536) 2)++be (c%256) 1)++be (h%256) 1)++Eu 0):=J (by rw[oI _ _ _ _ rE,OD]);replace K4:Ed (H w4 g4 (Em (([]:List Int)++Eu 10)) 176):=K4;clear K3c K3;rw[Ib];have IX: ∀W,(Ua 207 (EZ #[E I k,E I 1,E I s,E I 1,E I q,E I 4,E I e,E I 2,E I c,E I 1,E I h,E I 1]) (E I 0)).run Ea W= .ok (EZ #[E I k,E I 1]) W:=fun W=>q_ _ 0 D W;go_wp2_with (with_reducible refine wA qY (Ey.mk ?_));apply Et;have bel:=Er w4 (Ec (I3 (Eu 2)) 206);replace K2:=J<|K2.out.u bel;replace K4:=J<|K4.out.u bel;replace B:=EW B bel;have K7:=J<|H.new w4 (I3 (Eu 2)) 206;clear bel;generalize w4.alloc (Ec (I3 (Eu 2)) 206)=w0a at*;generalize w4.heap.size=uO at*;go_wp2_with (with_reducible refine wS (cs:=I3 [k,1]) qW K7 (Ey.mk ?_) (h1:=qV _));apply Et;replace K2:=J<|K2.out.setRow_other uO (I3 [k,1]) D;replace K4:=J<|K4.out.setRow_other uO (I3 [k,1]) D;replace K7:=J<|K7.out.setRow (I3 [k,1]);replace B:=J<|E6 (g:=uO) B.out D (I3 [k,1]);generalize w0a.setRow uO (I3 [k,1])=Qf at*;have cf: ∀i,Qf.cell? ⟨uO,i,Z⟩=(#[E I k,E I 1]:Array G)[i]?:=(XW K7.out).1;clear IX;have PUT: ∀W:M,Eg Ea 111 #[E Il (k%256),E I 1] W fun en w'=>en=Eh (Es #[EJ (X ⟨W.heap.size,0,Z⟩) 1 1,E I 0])/\Row w' (X ⟨W.heap.size,0,Z⟩) (be (k%256) 1)/\Ek W w':=fun W=>js (k%256) 1 W D D D (by show(k%256)/256=0;omega);go_wp2_with fail;rw[zX];refine(PUT _).mono ?_;rintro e' w0c ⟨rfl,RP,bp⟩;clear PUT cf;replace K2:=J<|K2.out.u bp;replace K4:=J<|K4.out.u bp;replace K7:=J<|K7.out.u bp;replace B:=EW B bp;clear bp K7;replace RP:=J RP;go_wp2_with (with_reducible refine JU 60 ?_);apply Et;(with_reducible refine jn ?_ g4 0 1 1 (([]:List Int)++Eu 10) 176 (X ⟨Qf.heap.size,0,Z⟩) 1 1 (be (k%256) 1) 1 (X ⟨g4,0,Z⟩) ?_ K4 (OD _ _) RP ?_ ?_ ?_ ?_);·exact Ei U
 ·exact Ema
 ·rfl
 ·rw[P0L.out];omega
 ·exact Ent
 intro uU Xw b5 o5 s5;rw[OV rI,P0E.out] at Xw;replace B:=J<|B.out.trans (b5.mono D);replace K2:=J<|show H uU g2 (Em (Eu 10)) 176 from(o5 _ D).trans K2.out;clear K4 o5 s5 b5 RP;replace K4:=J Xw;clear Xw;have l4:=K4.out.lt;go_wp2_with fail;rw[Ib];have IX: ∀W,(Ua 207 (EZ #[E I k,E I 1,E I s,E I 1,E I q,E I 4,E I e,E I 2,E I c,E I 1,E I h,E I 1]) (E I 1)).run Ea W= .ok (EZ #[E I s,E I 1]) W:=fun W=>q_ _ 1 D W;go_wp2_with (with_reducible refine wA qY (Ey.mk ?_));apply Et;have bel:=Er uU (Ec (I3 (Eu 2)) 206);replace K2:=J<|K2.out.u bel;replace K4:=J<|K4.out.u bel;replace B:=EW B bel;have K7:=J<|H.new uU (I3 (Eu 2)) 206;clear bel;generalize uU.alloc (Ec (I3 (Eu 2)) 206)=w1a at*;generalize uU.heap.size=uX at*;go_wp2_with (with_reducible refine wS (cs:=I3 [s,1]) qW K7 (Ey.mk ?_) (h1:=qV _));apply Et;replace K2:=J<|K2.out.setRow_other uX (I3 [s,1]) D;replace K4:=J<|K4.out.setRow_other uX (I3 [s,1]) D;replace K7:=J<|K7.out.setRow (I3 [s,1]);replace B:=J<|E6 (g:=uX) B.out D (I3 [s,1]);generalize w1a.setRow uX (I3 [s,1])=Qg at*;have cf: ∀i,Qg.cell? ⟨uX,i,Z⟩=(#[E I s,E I 1]:Array G)[i]?:=(XW K7.out).1;clear IX;have PUT: ∀W:M,Eg Ea 111 #[E Il (s%256),E I 1] W fun en w'=>en=Eh (Es #[EJ (X ⟨W.heap.size,0,Z⟩) 1 1,E I 0])/\Row w' (X ⟨W.heap.size,0,Z⟩) (be (s%256) 1)/\Ek W w':=fun W=>js (s%256) 1 W D D D (by show(s%256)/256=0;omega);go_wp2_with fail;rw[zX];refine(PUT _).mono ?_;rintro e' w1c ⟨rfl,RP,bp⟩;clear PUT cf;replace K2:=J<|K2.out.u bp;replace K4:=J<|K4.out.u bp;replace K7:=J<|K7.out.u bp;replace B:=EW B bp;clear bp K7;replace RP:=J RP;go_wp2_with (with_reducible refine JU 60 ?_);apply Et;(with_reducible refine jn ?_ g4 1 1 1 ((([]:List Int)++be (k%256) 1)++Eu 9) 176 (X ⟨Qg.heap.size,0,Z⟩) 1 1 (be (s%256) 1) 1 (X ⟨g4,1,Z⟩) ?_ K4 (OD _ _) RP ?_ ?_ ?_ ?_);·exact Ei U
 ·exact Ema
 ·rfl
 ·rw[P1L.out];omega
 ·exact Ent
 intro uZ Xw b5 o5 s5;rw[OV rI,P1E.out] at Xw;replace B:=J<|B.out.trans (b5.mono D);replace K2:=J<|show H uZ g2 (Em (Eu 10)) 176 from(o5 _ D).trans K2.out;clear K4 o5 s5 b5 RP;replace K4:=J Xw;clear Xw;have l4:=K4.out.lt;go_wp2_with fail;rw[Ib];have IX: ∀W,(Ua 207 (EZ #[E I k,E I 1,E I s,E I 1,E I q,E I 4,E I e,E I 2,E I c,E I 1,E I h,E I 1]) (E I 2)).run Ea W= .ok (EZ #[E I q,E I 4]) W:=fun W=>q_ _ 2 D W;go_wp2_with (with_reducible refine wA qY (Ey.mk ?_));apply Et;have bel:=Er uZ (Ec (I3 (Eu 2)) 206);replace K2:=J<|K2.out.u bel;replace K4:=J<|K4.out.u bel;replace B:=EW B bel;have K7:=J<|H.new uZ (I3 (Eu 2)) 206;clear bel;generalize uZ.alloc (Ec (I3 (Eu 2)) 206)=w2a at*;generalize uZ.heap.size=ua at*;go_wp2_with (with_reducible refine wS (cs:=I3 [q,4]) qW K7 (Ey.mk ?_) (h1:=qV _));apply Et;replace K2:=J<|K2.out.setRow_other ua (I3 [q,4]) D;replace K4:=J<|K4.out.setRow_other ua (I3 [q,4]) D;replace K7:=J<|K7.out.setRow (I3 [q,4]);replace B:=J<|E6 (g:=ua) B.out D (I3 [q,4]);generalize w2a.setRow ua (I3 [q,4])=Qh at*;have cf: ∀i,Qh.cell? ⟨ua,i,Z⟩=(#[E I q,E I 4]:Array G)[i]?:=(XW K7.out).1;clear IX;have PUT: ∀W:M,Eg Ea 111 #[E Il (q%4294967296),E I 4] W fun en w'=>en=Eh (Es #[EJ (X ⟨W.heap.size,0,Z⟩) 4 4,E I 0])/\Row w' (X ⟨W.heap.size,0,Z⟩) (be (q%4294967296) 4)/\Ek W w':=fun W=>js (q%4294967296) 4 W D D D (by show(q%4294967296)/4294967296=0;omega);go_wp2_with fail;rw[EXi];refine(PUT _).mono ?_;rintro e' w2c ⟨rfl,RP,bp⟩;clear PUT cf;replace K2:=J<|K2.out.u bp;replace K4:=J<|K4.out.u bp;replace K7:=J<|K7.out.u bp;replace B:=EW B bp;clear bp K7;replace RP:=J RP;go_wp2_with (with_reducible refine JU 60 ?_);apply Et;(with_reducible refine jn ?_ g4 2 4 4 (((([]:List Int)++be (k%256) 1)++be (s%256) 1)++Eu 8) 176 (X ⟨Qh.heap.size,0,Z⟩) 4 4 (be (q%4294967296) 4) 4 (X ⟨g4,2,Z⟩) ?_ K4 (OD _ _) RP ?_ ?_ ?_ ?_);·exact Ei U
 ·exact Ema
 ·rfl
 ·rw[P2L.out];omega
 ·exact Ent
 intro ub Xw b5 o5 s5;rw[OV rI,P2E.out] at Xw;replace B:=J<|B.out.trans (b5.mono D);replace K2:=J<|show H ub g2 (Em (Eu 10)) 176 from(o5 _ D).trans K2.out;clear K4 o5 s5 b5 RP;replace K4:=J Xw;clear Xw;have l4:=K4.out.lt;go_wp2_with fail;rw[Ib];have IX: ∀W,(Ua 207 (EZ #[E I k,E I 1,E I s,E I 1,E I q,E I 4,E I e,E I 2,E I c,E I 1,E I h,E I 1]) (E I 3)).run Ea W= .ok (EZ #[E I e,E I 2]) W:=fun W=>q_ _ 3 D W;go_wp2_with (with_reducible refine wA qY (Ey.mk ?_));apply Et;have bel:=Er ub (Ec (I3 (Eu 2)) 206);replace K2:=J<|K2.out.u bel;replace K4:=J<|K4.out.u bel;replace B:=EW B bel;have K7:=J<|H.new ub (I3 (Eu 2)) 206;clear bel;generalize ub.alloc (Ec (I3 (Eu 2)) 206)=w3a at*;generalize ub.heap.size=uc at*;go_wp2_with (with_reducible refine wS (cs:=I3 [e,2]) qW K7 (Ey.mk ?_) (h1:=qV _));apply Et;replace K2:=J<|K2.out.setRow_other uc (I3 [e,2]) D;replace K4:=J<|K4.out.setRow_other uc (I3 [e,2]) D;replace K7:=J<|K7.out.setRow (I3 [e,2]);replace B:=J<|E6 (g:=uc) B.out D (I3 [e,2]);generalize w3a.setRow uc (I3 [e,2])=zZ at*;have cf: ∀i,zZ.cell? ⟨uc,i,Z⟩=(#[E I e,E I 2]:Array G)[i]?:=(XW K7.out).1;clear IX;have PUT: ∀W:M,Eg Ea 111 #[E Il (e%65536),E I 2] W fun en w'=>en=Eh (Es #[EJ (X ⟨W.heap.size,0,Z⟩) 2 2,E I 0])/\Row w' (X ⟨W.heap.size,0,Z⟩) (be (e%65536) 2)/\Ek W w':=fun W=>js (e%65536) 2 W D D D (by show(e%65536)/65536=0;omega);go_wp2_with fail;rw[EXh];refine(PUT _).mono ?_;rintro e' w3c ⟨rfl,RP,bp⟩;clear PUT cf;replace K2:=J<|K2.out.u bp;replace K4:=J<|K4.out.u bp;replace K7:=J<|K7.out.u bp;replace B:=EW B bp;clear bp K7;replace RP:=J RP;go_wp2_with (with_reducible refine JU 60 ?_);apply Et;(with_reducible refine jn ?_ g4 6 2 2 ((((([]:List Int)++be (k%256) 1)++be (s%256) 1)++be (q%4294967296) 4)++Eu 4) 176 (X ⟨zZ.heap.size,0,Z⟩) 2 2 (be (e%65536) 2) 2 (X ⟨g4,6,Z⟩) ?_ K4 (OD _ _) RP ?_ ?_ ?_ ?_);·exact Ei U
 ·exact Ema
 ·rfl
 ·rw[P3L.out];omega
 ·exact Ent
 intro ud Xw b5 o5 s5;rw[OV rI,P3E.out] at Xw;replace B:=J<|B.out.trans (b5.mono D);replace K2:=J<|show H ud g2 (Em (Eu 10)) 176 from(o5 _ D).trans K2.out;clear K4 o5 s5 b5 RP;replace K4:=J Xw;clear Xw;have l4:=K4.out.lt;go_wp2_with fail;rw[Ib];have IX: ∀W,(Ua 207 (EZ #[E I k,E I 1,E I s,E I 1,E I q,E I 4,E I e,E I 2,E I c,E I 1,E I h,E I 1]) (E I 4)).run Ea W= .ok (EZ #[E I c,E I 1]) W:=fun W=>q_ _ 4 D W;go_wp2_with (with_reducible refine wA qY (Ey.mk ?_));apply Et;have bel:=Er ud (Ec (I3 (Eu 2)) 206);replace K2:=J<|K2.out.u bel;replace K4:=J<|K4.out.u bel;replace B:=EW B bel;have K7:=J<|H.new ud (I3 (Eu 2)) 206;clear bel;generalize ud.alloc (Ec (I3 (Eu 2)) 206)=w4a at*;generalize ud.heap.size=uf at*;go_wp2_with (with_reducible refine wS (cs:=I3 [c,1]) qW K7 (Ey.mk ?_) (h1:=qV _));apply Et;replace K2:=J<|K2.out.setRow_other uf (I3 [c,1]) D;replace K4:=J<|K4.out.setRow_other uf (I3 [c,1]) D;replace K7:=J<|K7.out.setRow (I3 [c,1]);replace B:=J<|E6 (g:=uf) B.out D (I3 [c,1]);generalize w4a.setRow uf (I3 [c,1])=Qi at*;have cf: ∀i,Qi.cell? ⟨uf,i,Z⟩=(#[E I c,E I 1]:Array G)[i]?:=(XW K7.out).1;clear IX;have PUT: ∀W:M,Eg Ea 111 #[E Il (c%256),E I 1] W fun en w'=>en=Eh (Es #[EJ (X ⟨W.heap.size,0,Z⟩) 1 1,E I 0])/\Row w' (X ⟨W.heap.size,0,Z⟩) (be (c%256) 1)/\Ek W w':=fun W=>js (c%256) 1 W D D D (by show(c%256)/256=0;omega);go_wp2_with fail;rw[zX];refine(PUT _).mono ?_;rintro e' w4c ⟨rfl,RP,bp⟩;clear PUT cf;replace K2:=J<|K2.out.u bp;replace K4:=J<|K4.out.u bp;replace K7:=J<|K7.out.u bp;replace B:=EW B bp;clear bp K7;replace RP:=J RP;go_wp2_with (with_reducible refine JU 60 ?_);apply Et;(with_reducible refine jn ?_ g4 8 1 1 (((((([]:List Int)++be (k%256) 1)++be (s%256) 1)++be (q%4294967296) 4)++be (e%65536) 2)++Eu 2) 176 (X ⟨Qi.heap.size,0,Z⟩) 1 1 (be (c%256) 1) 1 (X ⟨g4,8,Z⟩) ?_ K4 (OD _ _) RP ?_ ?_ ?_ ?_);·exact Ei U
 ·exact Ema
 ·rfl
 ·rw[P4L.out];omega
 ·exact Ent
 intro ug Xw b5 o5 s5;rw[OV rI,P4E.out] at Xw;replace B:=J<|B.out.trans (b5.mono D);replace K2:=J<|show H ug g2 (Em (Eu 10)) 176 from(o5 _ D).trans K2.out;clear K4 o5 s5 b5 RP;replace K4:=J Xw;clear Xw;have l4:=K4.out.lt;go_wp2_with fail;rw[Ib];have IX: ∀W,(Ua 207 (EZ #[E I k,E I 1,E I s,E I 1,E I q,E I 4,E I e,E I 2,E I c,E I 1,E I h,E I 1]) (E I 5)).run Ea W= .ok (EZ #[E I h,E I 1]) W:=fun W=>q_ _ 5 D W;go_wp2_with (with_reducible refine wA qY (Ey.mk ?_));apply Et;have bel:=Er ug (Ec (I3 (Eu 2)) 206);replace K2:=J<|K2.out.u bel;replace K4:=J<|K4.out.u bel;replace B:=EW B bel;have K7:=J<|H.new ug (I3 (Eu 2)) 206;clear bel;generalize ug.alloc (Ec (I3 (Eu 2)) 206)=w5a at*;generalize ug.heap.size=uh at*;go_wp2_with (with_reducible refine wS (cs:=I3 [h,1]) qW K7 (Ey.mk ?_) (h1:=qV _));apply Et;replace K2:=J<|K2.out.setRow_other uh (I3 [h,1]) D;replace K4:=J<|K4.out.setRow_other uh (I3 [h,1]) D;replace K7:=J<|K7.out.setRow (I3 [h,1]);replace B:=J<|E6 (g:=uh) B.out D (I3 [h,1]);generalize w5a.setRow uh (I3 [h,1])=Qj at*;have cf: ∀i,Qj.cell? ⟨uh,i,Z⟩=(#[E I h,E I 1]:Array G)[i]?:=(XW K7.out).1;clear IX;have PUT: ∀W:M,Eg Ea 111 #[E Il (h%256),E I 1] W fun en w'=>en=Eh (Es #[EJ (X ⟨W.heap.size,0,Z⟩) 1 1,E I 0])/\Row w' (X ⟨W.heap.size,0,Z⟩) (be (h%256) 1)/\Ek W w':=fun W=>js (h%256) 1 W D D D (by show(h%256)/256=0;omega);go_wp2_with fail;rw[zX];refine(PUT _).mono ?_;rintro e' w5c ⟨rfl,RP,bp⟩;clear PUT cf;replace K2:=J<|K2.out.u bp;replace K4:=J<|K4.out.u bp;replace K7:=J<|K7.out.u bp;replace B:=EW B bp;clear bp K7;replace RP:=J RP;go_wp2_with (with_reducible refine JU 60 ?_);apply Et;(with_reducible refine jn ?_ g4 9 1 1 ((((((([]:List Int)++be (k%256) 1)++be (s%256) 1)++be (q%4294967296) 4)++be (e%65536) 2)++be (c%256) 1)++Eu 1) 176 (X ⟨Qj.heap.size,0,Z⟩) 1 1 (be (h%256) 1) 1 (X ⟨g4,9,Z⟩) ?_ K4 (OD _ _) RP ?_ ?_ ?_ ?_);·exact Ei U
 ·exact Ema
 ·rfl
 ·rw[P5L.out];omega
 ·exact Ent
 intro w5d Xw b5 o5 s5;rw[OV rI,P5E.out] at Xw;replace B:=J<|B.out.trans (b5.mono D);replace K2:=J<|show H w5d g2 (Em (Eu 10)) 176 from(o5 _ D).trans K2.out;clear K4 o5 s5 b5 RP;replace K4:=J Xw;clear Xw;have l4:=K4.out.lt;go_wp2_with fail;rw[Ib];have Qk:fg k s q e c h=((((((([]:List Int)++be (k%256) 1)++be (s%256) 1)++be (q%4294967296) 4)++be (e%65536) 2)++be (c%256) 1)++be (h%256) 1):=rfl;have PL:(((((((([]:List Int)++be (k%256) 1)++be (s%256) 1)++be (q%4294967296) 4)++be (e%65536) 2)++be (c%256) 1)++be (h%256) 1)++Eu 0).length=10:=oJ;have PE:((((((([]:List Int)++be (k%256) 1)++be (s%256) 1)++be (q%4294967296) 4)++be (e%65536) 2)++be (c%256) 1)++be (h%256) 1)++Eu 0=fg k s q e c h:=by rw[Qk];exact fX _
 rw[PE] at K4 PL;clear PE Qk;generalize hrb:fg k s q e c h=rb at*;replace hrb:=J hrb;replace PL:=J PL;go_wp2_with (with_reducible first|refine wL zU K4 ?_ (hn:=Ql)|refine wS (cs:=Em rb) zU K2 (Ey.mk ?_) (ho:=Xu) (hn:=Ql) (h1:=XK _));apply Et;replace K2:=J<|K2.out.setRow (Em rb);replace B:=J<|E6 (g:=g2) B.out D (Em rb);go_wp2_with fail;refine EV (v:=EZ (Em rb)) (JB zU U _ _ g2 _ U K2.out (by rw[Oc,PL.out])) U ⟨by rw[hrb.out],B.out⟩
theorem of_nil(w:M):Eg Ea 45 #[EJ Z 0 0] w fun e w'=>e=Eh (EZ (Em (Eu 32)))/\Ek w w':=by have B:=J<|E_ w.heap.size w;go_enter Tryz.func45,Tryz.ntmps45;go_wp2_with (with_reducible refine wA dl (Ey.mk ?_));apply Et;have K2:=J<|H.new w (Em (Eu 32)) 41;replace B:=J<|Er w (Ec (Em (Eu 32)) 41);generalize w.alloc (Ec (Em (Eu 32)) 41)=w1 at*;have l1:=K2.out.lt;go_wp2_with (with_reducible refine wA dl (Ey.mk ?_));apply Et;have bel:=Er w1 (Ec (Em (Eu 32)) 41);replace K2:=J<|K2.out.u bel;replace B:=EW B bel;have K3:=J<|H.new w1 (Em (Eu 32)) 41;clear bel;generalize w1.alloc (Ec (Em (Eu 32)) 41)=w2 at*;generalize w1.heap.size=g3 at*;go_wp2_with fail;refine OJ 1 ?_;rw[Ib];go_wp2_with (with_reducible first|refine wL OF K3 ?_ (hn:=Xu)|refine wS (cs:=Em (Eu 32)) OF K2 (Ey.mk ?_) (ho:=Xu) (hn:=Xu) (h1:=XK _));apply Et;go_wp2_with fail;refine EV (v:=EZ (Em (Eu 32))) (JB OF U _ _ w.heap.size _ U (K2.out.setRow (Em (Eu 32))) FH) U ⟨U,E6 B.out D _⟩
theorem EXH(w:M)(g:Nat)(xs:List Int)(hr0:Row w (X ⟨g,0,Z⟩) xs)(g' c:Nat)(ys:List Int)(hr:Row w (X ⟨g',0,Z⟩) ys)(hpos:0<ys.length)(hsmall:xs.length+ys.length<=1000000000)(ty:Ez): ∃A' cap' w',(bX #[23,23] ty #[EJ (X ⟨g,0,Z⟩) xs.length xs.length,EJ (X ⟨g',0,Z⟩) ys.length c]).run Ea w= .ok (EJ A' (xs.length+ys.length) cap') w'/\ Own w' w.heap.size A' cap' (xs++ys)/\Ek w w':=by
 obtain⟨i0,hi,hz0,hz1,hz2⟩:=bZ kK
 have cells: ∀(g:Nat) (l:List Int),Row w (X ⟨g,0,Z⟩) l-> ∀(j:Nat) Y3,(l.map (E .u8))[j]?=X Y3->w.cell? ((⟨g,0,Z⟩:Ev).add j)=X Y3:=by
  intro g l hl j Y3 hu
  have hj:j<l.length:=by
   rcases JW j l.length with h|h;·exact h
   ·rw[am UB] at hu;cases hu
  rcases hl.1 with h|⟨b,off,h,hc⟩;·subst h;simp at hj
  ·injection h with h;have e:((⟨g,0,Z⟩:Ev)).add j=⟨b,off+j,Z⟩:=by rw[h];unfold Addr.add;split<;>simp_all
   rw[e,hc j hj];simpa[hj] using hu
 have hbb: ∀x∈xs++ys,0<=x/\x<=255:=by
  intro x hx;rcases Xt.1 hx with h|h;·exact hr0.2 x h
  ·exact hr.2 x h
 obtain⟨v',w',hrun,h2,h3⟩:=run_append_arg_grows (P:=Ea) w 23 ty 5 i0 (E IT 0) 1 1 ba hi hz0 hz1 hz2 U D ⟨g,0,Z⟩ xs.length xs.length (xs.map (E .u8)) Ej (cells g xs hr0) ⟨g',0,Z⟩ ys.length c (ys.map (E .u8)) Ej (cells g' ys hr) D Oy D;have hbel:Ek w w':=(E_ _ _).grown h3 (E9 _) (fun k hk=>by cases hk);rcases h2.2 with⟨hv,hn⟩|⟨g2,cap',cur,hv,hrest⟩;·omega
 ·refine⟨X ⟨g2,0,Z⟩,cap',w',by rw[hrun,hv],⟨?_,hbb⟩,hbel⟩;rw[hv] at h2;rw[I1,jr];exact h2
theorem EXK{ops:Array EG}{rest:List EG}{o:EG}{a:E2}{Q:UL->E2->M->Prop}(w:M)(hgd:I8 o (Ja ops a.tmps)=EI)(s x:JN) (ho:o.op= .call {callee:= .builtin .append,args:= #[s,x],argTypes:= #[23,23]}) (g n:Nat) (xs:List Int) (hn:xs.length=n) (hs:a.eval s=EJ (X ⟨g,0,Z⟩) n n) (hr0:Row w (X ⟨g,0,Z⟩) xs) (g' c m:Nat) (ys:List Int) (hm:ys.length=m) (hx:a.eval x=EJ (X ⟨g',0,Z⟩) m c) (hr:Row w (X ⟨g',0,Z⟩) ys) (hpos:0<m) (hsmall:n+m<=1000000000) (h: ∀A' cap' w',Own w' w.heap.size A' cap' (xs++ys)->Ek w w'->Ih Ea ops Q rest (a.put o.dst (EJ A' (n+m) cap')) w'):Ih Ea ops Q (o::rest) a w:=by subst hn hm;obtain⟨A',cap',w',hrun,hown,hbel⟩:=EXH w g xs hr0 g' c ys hr hpos hsmall o.type;refine Jq hgd (v:=EJ A' (xs.length+ys.length) cap') (w':=w') ?_ (h _ _ _ hown hbel);exact EmP
theorem EXL(hd:List Int)(k s q e c h:Int)(hl:hd.length=32)(hb: ∀x∈hd,0<=x/\x<=255)(w:M)(hR:JH w): Eg Ea 68 #[EZ (Em hd),EZ #[E I k,E I s,E I q,E I e,E I c,E I h]] w fun e' w'=>e'=Eh (EZ (Em (Zh (hd++fg k s q e c h))))/\Ek w w':=by
 have RT:=J hR;have HL:=J hl;have HB:=J hb;have CR:=fun W:M=>EXj k s q e c h W;have RL:=EXf k s q e c h;have RB:=EXg k s q e c h;generalize fg k s q e c h=rb at*;replace RL:=J RL;replace RB:=J RB;replace CR:=J CR;clear hl hb hR;have CS:=fun(A:Option Ev) (cp:Nat) (W:M) (hr:Row W A (hd++rb)) (hb:Ek w W)=>yd A (hd++rb) 42 cp W (by rw[I1,HL.out,RL.out]) hr D (RT.out.u hb);have AL:=nL (hd++rb);generalize Zh (hd++rb)=ans at*;replace AL:=J AL;replace CS:=J CS;go_enter Tryz.func68,Tryz.ntmps68;go_wp2_with (with_reducible refine wA dl (Ey.mk ?_));apply Et;have K2:=J<|((H.new w (Em hd) 41).alloc (Ec #[E I k,E I s,E I q,E I e,E I c,E I h] 58)).alloc (Ec (Em (Eu 32)) 41);have K3:=J<|(H.new' (w.alloc (Ec (Em hd) 41)) #[E I k,E I s,E I q,E I e,E I c,E I h] 58 (g:=w.heap.size+1) Ej).alloc (Ec (Em (Eu 32)) 41);have K4:=J<|H.new' ((w.alloc (Ec (Em hd) 41)).alloc (Ec #[E I k,E I s,E I q,E I e,E I c,E I h] 58)) (Em (Eu 32)) 41 (g:=w.heap.size+1+1) Ej;have B:=J<|aq w (Ec (Em hd) 41) (Ec #[E I k,E I s,E I q,E I e,E I c,E I h] 58) (Ec (Em (Eu 32)) 41);generalize ((w.alloc (Ec (Em hd) 41)).alloc (Ec #[E I k,E I s,E I q,E I e,E I c,E I h] 58)).alloc (Ec (Em (Eu 32)) 41)=w1 at*;obtain⟨g3,hg3⟩:=OQ (w.heap.size+1);rw[hg3] at K3 K4;simp only[hg3];obtain⟨g4,hg4⟩:=OQ (g3+1);rw[hg4] at K4;simp only[hg4];have lo4:w.heap.size<g4:=D;clear hg3 hg4;go_wp2_with (with_reducible refine wL EXb K3 ?_);refine(CR.out _).mono ?_;rintro e' w2 ⟨rfl,b2⟩;clear CR K3;replace K2:=J<|K2.out.u b2;replace K4:=J<|K4.out.u b2;replace B:=EW B b2;clear b2;have l4:=K4.out.lt;go_wp2_with (with_reducible refine wA FF (Ey.mk ?_));apply Et;have bel:=Er w2 (Ec (Em (Eu 10)) 176);replace K2:=J<|K2.out.u bel;replace K4:=J<|K4.out.u bel;replace B:=EW B bel;have K5:=J<|H.new w2 (Em (Eu 10)) 176;clear bel;generalize w2.alloc (Ec (Em (Eu 10)) 176)=w3 at*;generalize w2.heap.size=g5 at*;go_wp2_with (with_reducible refine wS (cs:=Em rb) zU K5 (Ey.mk ?_) (ho:=Xu) (hn:=Qm) (h1:=XK _));apply Et;replace K2:=J<|K2.out.setRow_other g5 (Em rb) D;replace K4:=J<|K4.out.setRow_other g5 (Em rb) D;replace K5:=J<|K5.out.setRow (Em rb);replace B:=J<|E6 (g:=g5) B.out D (Em rb);generalize w3.setRow g5 (Em rb)=w4 at*;go_wp2_with fail;refine sR 2 Ef Ef ?_;simp only[Is,Io,IS,IM];repeat (go_big_quiet_step (fail))
 refine I2 ?_;intro _ hw';obtain⟨nq,rfl⟩:=hw';replace B:=J<|iO B.out nq;replace K2:=J<|K2.out.drewN nq;replace K4:=J<|K4.out.drewN nq;replace K5:=J<|K5.out.drewN nq;generalize w4.drewN nq=w5 at*;have r2:=J<|fH K2.out HB.out;have r5:=J<|fH K5.out RB.out;(with_reducible refine EXK _ ?_ (.tmp 8) (.tmp 9) U w.heap.size 32 hd HL.out ?_ r2.out g5 10 10 rb RL.out ?_ r5.out D D ?_);·exact Ei U
 ·rfl
 ·rfl
 intro A1 yj w6 o6 b6;have r6:=J o6.row;clear r2 r5 o6 K2 K5;replace K4:=J<|K4.out.u b6;replace B:=EW B b6;clear b6;go_wp2_with fail;refine(CS.out _ _ _ r6.out B.out).mono ?_;rintro e' w7 ⟨rfl,b7⟩;replace K4:=J<|K4.out.u b7;replace B:=EW B b7;clear b7 r6 CS;go_wp2_with (with_reducible refine wS (cs:=Em ans) OF K4 (Ey.mk ?_) (ho:=Xu) (hn:=Pc) (h1:=XK _));apply Et;go_wp2_with fail;refine EV (v:=EZ (Em ans)) (JB OF U _ _ g4 _ U (K4.out.setRow _) (by rw[Oc,AL.out])) U ⟨U,E6 B.out D _⟩
def I7(l:List Int):Array G:=((UM 14).map fun i=>if 6<=i then E .u8 (l.getD i 0) else E I (l.getD i 0)).toArray
theorem oO(l:List Int):(I7 l).size=14:=by simp[I7]
theorem aK(l:List Int)(i:Nat)(h:i<14):(I7 l)[i]?=X (if 6<=i then E .u8 (l.getD i 0) else E I (l.getD i 0)):=by simp[I7,h]
theorem FM(l:List Int):(I7 l).all (·.oneCell')=EI:=by rw[Array.all_eq_true];intro i hi;simp only[I7,List.getElem_toArray,List.getElem_map];split<;>rfl
theorem EXM(l:List Int)(hl:l.length=14)(o:Nat)(ho:o<14)(n:Int):(I7 l).setIfInBounds o (if 6<=o then E .u8 n else E I n)=I7 (l.set o n):=by
 apply Array.ext_getElem?;intro j;rw[Array.getElem?_setIfInBounds];by_cases h:o=j
 ·subst h;rw[if_pos U,if_pos (by rw[oO];exact ho),aK _ _ ho];have e:(l.set o n).getD o 0=n:=by simp[hl,ho]
  rw[e]
 ·rw[if_neg h];by_cases hj:j<14
  ·rw[aK _ _ hj,aK _ _ hj];have e1:(l.set o n).getD j 0=l.getD j 0:=by simp[Uj,List.getElem?_set_ne h]
   rw[e1]
  ·rw[fD (by rw[oO];omega),fD (by rw[oO];omega)]
theorem za:IF Ea 222 14:=⟨⟨_,Tryz.underlying222,U⟩,Ef⟩
def cL(l:List Int):Prop:=l.length=14/\ ∀i,6<=i->i<14->0<=l.getD i 0/\l.getD i 0<=255
def FD.FN(d:FD):Prop:=d.off<14/\(d.kd=0\/d.kd=2\/d.kd=3)/\(d.kd=3↔6<=d.off)
theorem FD.EXN(h:d.kd=2):d.get=250:=Ds
theorem FD.EXP(h:d.kd=2):d.set=251:=xL
theorem FD.Qn(h:d.kd=2):d.box=333:=xN
theorem FD.EXQ(h:d.kd=3):d.get=248:=Ds
theorem FD.EXR(h:d.kd=3):d.set=249:=xL
theorem FD.Qo(h:d.kd=3):d.box=331:=xN
theorem EXS(gb gm o:Nat)(n:Int)(w:M)(hb:H w gb #[Y (X ⟨gm,o,Z⟩)] 333)(hc:w.cell? ⟨gm,o,Z⟩=X (E I n)): Eg Ea 250 #[Y (X ⟨gb,0,Z⟩)] w fun e w'=>e=Eh (E I n)/\w=w':=by have c0:=hb.cell 0;simp only[J0,jt] at c0;clear hb;go_enter Tryz.func250,Tryz.ntmps250;exact Ej7
theorem EXT(gb gm o:Nat)(n m:Int)(w:M)(hb:H w gb #[Y (X ⟨gm,o,Z⟩)] 333)(hc:w.cell? ⟨gm,o,Z⟩=X (E I m))(hf:w.frozen? ⟨gm,o,Z⟩=V): Eg Ea 251 #[E I n,Y (X ⟨gb,0,Z⟩)] w fun e w'=>e=Eh (Es #[])/\w.setCell ⟨gm,o,Z⟩ (E I n)=w':=by have c0:=hb.cell 0;simp only[J0,jt] at c0;clear hb;go_enter Tryz.func251,Tryz.ntmps251;exact Enk
theorem EXV(gb gm o:Nat)(n:Int)(w:M)(h0:0<=n)(h1:n<=255)(hb:H w gb #[Y (X ⟨gm,o,Z⟩)] 331)(hc:w.cell? ⟨gm,o,Z⟩=X (E IT n)): Eg Ea 248 #[Y (X ⟨gb,0,Z⟩)] w fun e w'=>e=Eh (E I n)/\w=w':=by have c0:=hb.cell 0;simp only[J0,jt] at c0;clear hb;go_enter Tryz.func248,Tryz.ntmps248;exact Ej7
theorem EXW(gb gm o:Nat)(n m:Int)(w:M)(h0:0<=n)(h1:n<=255)(hb:H w gb #[Y (X ⟨gm,o,Z⟩)] 331)(hc:w.cell? ⟨gm,o,Z⟩=X (E IT m))(hf:w.frozen? ⟨gm,o,Z⟩=V): Eg Ea 249 #[E I n,Y (X ⟨gb,0,Z⟩)] w fun e w'=>e=Eh (Es #[])/\w.setCell ⟨gm,o,Z⟩ (E IT n)=w':=by have c0:=hb.cell 0;simp only[J0,jt] at c0;clear hb;go_enter Tryz.func249,Tryz.ntmps249;exact Enk
theorem EXY(d:FD)(gb gm:Nat)(l:List Int)(w:M)(hd:d.FN)(hl:cL l)(hb:X2 w d gm gb)(hm:H w gm (I7 l) 222): Eg Ea d.get #[Y (X ⟨gb,0,Z⟩)] w fun e w'=>e=Eh (E I (l.getD d.off 0))/\w=w':=by
 obtain⟨ho,hk,h3⟩:=hd;have hc:=hm.cell d.off;rw[aK _ _ ho] at hc;unfold X2 at hb;rcases hk with hk|hk|hk;·rw[if_neg (fun h=>zc)] at hc;rw[FD.xM hk] at hb;rw[FD.Na hk];exact EIF gb gm d.off _ w hb hc
 ·rw[if_neg (fun h=>zc)] at hc;rw[FD.Qn hk] at hb;rw[FD.EXN hk];exact EXS gb gm d.off _ w hb hc
 ·rw[if_pos (h3.1 hk)] at hc;rw[FD.Qo hk] at hb;rw[FD.EXQ hk];have h8:=hl.2 d.off (h3.1 hk) ho;exact EXV gb gm d.off _ w h8.1 h8.2 hb hc
theorem EX1(d:FD)(gb gm:Nat)(l:List Int)(n:Int)(w:M)(hd:d.FN)(hn:d.kd=3->0<=n/\n<=255)(hl:cL l)(hb:X2 w d gm gb)(hm:H w gm (I7 l) 222): Eg Ea d.set #[E I n,Y (X ⟨gb,0,Z⟩)] w fun e w'=>e=Eh (Es #[])/\H w' gm (I7 (l.set d.off n)) 222/\(∀k,k≠gm->w'.heap[k]?=w.heap[k]?)/\w'.heap.size=w.heap.size/\Ir gm w w':=by
 obtain⟨ho,hk,h3⟩:=hd;have hc:=hm.cell d.off;have hf:=hm.I_ d.off;rw[aK _ _ ho] at hc;have fin: ∀v,v=(if 6<=d.off then E .u8 n else E I n)->H (w.setCell ⟨gm,d.off,Z⟩ v) gm (I7 (l.set d.off n)) 222/\(∀k,k≠gm->(w.setCell ⟨gm,d.off,Z⟩ v).heap[k]?=w.heap[k]?)/\(w.setCell ⟨gm,d.off,Z⟩ v).heap.size=w.heap.size/\Ir gm w (w.setCell ⟨gm,d.off,Z⟩ v):=by intro v hv;subst hv;refine⟨?_,fun k hk=>ax _ _ _ _ hk,CY,(E_ gm w).setCell (p:=⟨gm,d.off,Z⟩) (E9 _) _⟩;have h:=hm.set d.off (if 6<=d.off then E .u8 n else E I n);rw[EXM l hl.1 _ ho] at h;exact h
 unfold X2 at hb;rcases hk with hk|hk|hk;·have h6: ¬6<=d.off:=fun h=>zc;rw[if_neg h6] at hc;rw[FD.xM hk] at hb;rw[FD.Dt hk];have xP:=fin (E I n) (by rw[if_neg h6]);exact EnO
 ·have h6: ¬6<=d.off:=fun h=>zc;rw[if_neg h6] at hc;rw[FD.Qn hk] at hb;rw[FD.EXP hk];have xP:=fin (E I n) (by rw[if_neg h6]);exact(EXT gb gm d.off n _ w hb hc hf).mono fun e w' ⟨he,hw⟩=>⟨he,xQ⟩
 ·have h6:=h3.1 hk;rw[if_pos h6] at hc;rw[FD.Qo hk] at hb;rw[FD.EXR hk];have xP:=fin (E IT n) (by rw[if_pos h6]);have h8:=hn hk;exact(EXW gb gm d.off n _ w h8.1 h8.2 hb hc hf).mono fun e w' ⟨he,hw⟩=>⟨he,xQ⟩
theorem Qp(gm o:Nat)(w:M): Eg Ea 241 #[Y (X ⟨gm,o,Z⟩)] w fun e w'=> ∃v,e=Eh v/\FV w' w.heap.size gm ⟨2,1,0,255,o⟩ v/\Ek w w':=by have BF:Tryz.prog.built 298 [(0,E I 1),(2,E I 255),(3,.func (.func 250) #[] #[Y (X ⟨w.heap.size,0,Z⟩)]),(4,.func (.func 251) #[] #[Y (X ⟨w.heap.size,0,Z⟩)])]=X (ID ⟨2,1,0,255,o⟩ w.heap.size):=Du ⟨2,1,0,255,o⟩ w.heap.size U;have O1:=J<|fT ⟨2,1,0,255,o⟩ w.heap.size;have Ut:Ed ((ID ⟨2,1,0,255,o⟩ w.heap.size).size=5):=J U;generalize XP:ID ⟨2,1,0,255,o⟩ w.heap.size=fv at*;replace BF:=J BF;have HB:Ed (∀W:M,H W w.heap.size #[Y (X ⟨gm,o,Z⟩)] 333->FV W w.heap.size gm ⟨2,1,0,255,o⟩ (EZ fv)):=J fun W h=>⟨w.heap.size,by rw[XP],E9 _,h⟩;clear XP;go_enter Tryz.func241,Tryz.ntmps241;go_wp2_with (with_reducible refine wA fE (Ey.mk ?_));apply Et;have K4:=J<|(H.new w #[Y (X ⟨gm,o,Z⟩)] 333).alloc (Ec Ju 298);have K8:=J<|H.new' (w.alloc (Ec #[Y (X ⟨gm,o,Z⟩)] 333)) Ju 298 (g:=w.heap.size+1) Ej;have B:=J<|J3 w (Ec #[Y (X ⟨gm,o,Z⟩)] 333) (Ec Ju 298);generalize (w.alloc (Ec #[Y (X ⟨gm,o,Z⟩)] 333)).alloc (Ec Ju 298)=w1 at*;exact EkZ
theorem lQ(gm o:Nat)(w:M): Eg Ea 240 #[Y (X ⟨gm,o,Z⟩)] w fun e w'=> ∃v,e=Eh v/\FV w' w.heap.size gm ⟨3,1,0,255,o⟩ v/\Ek w w':=by have BF:Tryz.prog.built 298 [(0,E I 1),(2,E I 255),(3,.func (.func 248) #[] #[Y (X ⟨w.heap.size,0,Z⟩)]),(4,.func (.func 249) #[] #[Y (X ⟨w.heap.size,0,Z⟩)])]=X (ID ⟨3,1,0,255,o⟩ w.heap.size):=Du ⟨3,1,0,255,o⟩ w.heap.size U;have O1:=J<|fT ⟨3,1,0,255,o⟩ w.heap.size;have Ut:Ed ((ID ⟨3,1,0,255,o⟩ w.heap.size).size=5):=J U;generalize XP:ID ⟨3,1,0,255,o⟩ w.heap.size=fv at*;replace BF:=J BF;have HB:Ed (∀W:M,H W w.heap.size #[Y (X ⟨gm,o,Z⟩)] 331->FV W w.heap.size gm ⟨3,1,0,255,o⟩ (EZ fv)):=J fun W h=>⟨w.heap.size,by rw[XP],E9 _,h⟩;clear XP;go_enter Tryz.func240,Tryz.ntmps240;go_wp2_with (with_reducible refine wA fE (Ey.mk ?_));apply Et;have K4:=J<|(H.new w #[Y (X ⟨gm,o,Z⟩)] 331).alloc (Ec Ju 298);have K8:=J<|H.new' (w.alloc (Ec #[Y (X ⟨gm,o,Z⟩)] 331)) Ju 298 (g:=w.heap.size+1) Ej;have B:=J<|J3 w (Ec #[Y (X ⟨gm,o,Z⟩)] 331) (Ec Ju 298);generalize (w.alloc (Ec #[Y (X ⟨gm,o,Z⟩)] 331)).alloc (Ec Ju 298)=w1 at*;exact EkZ
def Zj:FD:=⟨2,1,0,255,5⟩
def IQ(i:Nat):FD:=⟨3,1,0,255,6+i⟩
def jH(k:Int):Option (List FD):=
 if k=129 then X [IQ 0,IQ 1,IQ 2,IQ 3,IQ 4,IQ 5,IQ 6,IQ 7] else if k=130 then X [U2,Jf,IP] else if k=131 then X [Ij] else if k=132 then X [Ij,Zj]
 else if k=133 then X [IP] else if k=134\/k=135 then X [Jf,IP] else if k=136 then X [Jf,Zj] else Z
theorem EX2(gm:Nat)(l:List Int)(w:M)(hm:H w gm (I7 l) 222)(hk:l.getD 0 0=131): Eg Ea 212 #[Y (X ⟨gm,0,Z⟩)] w (X3 w gm [Ij]):=by have c0:=hm.cell 0;rw[aK _ _ D,if_neg D,hk] at c0;have CF:=J<|fun W=>gE gm 1 W;have B:=J<|E_ w.heap.size w;clear hm hk;go_enter lR,lS;exact Ej0
theorem EX3(gm:Nat)(l:List Int)(w:M)(hm:H w gm (I7 l) 222)(hk:l.getD 0 0=133): Eg Ea 212 #[Y (X ⟨gm,0,Z⟩)] w (X3 w gm [IP]):=by have c0:=hm.cell 0;rw[aK _ _ D,if_neg D,hk] at c0;have CF:=J<|fun W=>nT gm 4 W;have B:=J<|E_ w.heap.size w;clear hm hk;go_enter lR,lS;go_wp2_with fail;refine(CF.out _).mono ?_;rintro e w1 ⟨v,rfl,⟨gb,rfl,lb,kb⟩,b1⟩;have FB:Ed (Ek w (w1.alloc (Ec (EY [(IP,gb)]).toArray 298))):=J<|b1.alloc b1.size _;have FK:Ed (Xa (w1.alloc (Ec (EY [(IP,gb)]).toArray 298)) w.heap.size w1.heap.size gm [(IP,gb)]):=J (aE (H.new w1 _ 298) (fun i hi=>by have:i=0:=XO;subst this;exact⟨lb,H.alloc kb _⟩) b1.size);exact Ekq
def zd(base gm:Nat)(i:Nat)(v:G)(w:M):Prop:=match i with
 |0=>v=Y (X ⟨gm,0,Z⟩)
 |1=>v=Y (X ⟨gm,0,Z⟩)
 |2=>v=Y (X ⟨gm,3,Z⟩)
 |3=>FV w base gm Jf v
 |4=>v=Y (X ⟨gm,0,Z⟩)
 |5=>v=Y (X ⟨gm,0,Z⟩)
 |6=>v=Y (X ⟨gm,4,Z⟩)
 |7=>FV w base gm IP v
 |8=> ∃(gl:Nat) (fs:List (FD×Nat)),v=EJ (X ⟨gl,0,Z⟩) 2 2/\fs.map (·.1)=[Jf,IP]/\base<=gl/\Jv w base gm fs/\H w gl (EY fs).toArray 298
 |9=> ∃(gl:Nat) (fs:List (FD×Nat)),v=EJ (X ⟨gl,0,Z⟩) 2 2/\fs.map (·.1)=[Jf,IP]/\base<=gl/\Jv w base gm fs/\H w gl (EY fs).toArray 298
 |_=>v=EU EI
theorem EX4(base gm:Nat): ∀i v w w',i<11->zd base gm i v w->Jn w w'->zd base gm i v w':=by
 intro i v w w' hi h hb;unfold zd at*;split at h;case h_4|h_8=>exact h.u hb
 case h_9|h_10=> exact Ekb
 all_goals exact h
theorem EX6(gm:Nat)(l:List Int)(w:M)(hm:H w gm (I7 l) 222)(hk:l.getD 0 0=134): Eg Ea 212 #[Y (X ⟨gm,0,Z⟩)] w (X3 w gm [Jf,IP]):=by
 have c0:=hm.cell 0;rw[aK _ _ D,if_neg D,hk] at c0;have B:=J<|E_ w.heap.size w;clear hm hk;go_enter lR,lS;go_wp2_with fail;clear c0;refine aw EK Ef 11 Ef Ej Eb (zd w.heap.size gm) (EX4 _ _) ?_ ?_
 ·simp only[XH,Is,Io,ED,Ic,Ii,IJ,IU,and_true];refine⟨?_,?_,?_,?_,?_,?_,?_,?_,?_,?_,?_⟩;all_goals intro v w' hb hd
  ·exact EkO
  ·exact Ekm
  ·exact Ekl
  ·exact EoO
  ·exact EkO
  ·exact Ekk
  ·exact Ekj
  ·exact Ej9
  ·obtain⟨g0,d3,l0,k0⟩:FV w' w.heap.size gm Jf (v 3):=hd.at 3 rfl;obtain⟨g1,d7,l1,k1⟩:FV w' w.heap.size gm IP (v 7):=hd.at 7 rfl;refine Z6 (w':=w'.alloc (Ec (EY [(Jf,g0),(IP,g1)]).toArray 298)) (v:=EJ (X ⟨w'.heap.size,0,Z⟩) 2 2) (Ei U) nV (Er w' _) ⟨w'.heap.size,[(Jf,g0),(IP,g1)],U,U,EB B.out.size hb.size,fun i hi=> ?_,H.new _ _ _⟩;match i,hi with
   |0,_=>exact⟨l0,H.alloc k0 _⟩
   |1,_=>exact⟨l1,H.alloc k1 _⟩
  ·exact EoJ
  ·exact EkO
 ·exact EoE
def zg(base gm:Nat)(i:Nat)(v:G)(w:M):Prop:=match i with
 |0=>v=Y (X ⟨gm,0,Z⟩)
 |1=>v=Y (X ⟨gm,0,Z⟩)
 |2=>v=Y (X ⟨gm,3,Z⟩)
 |3=>FV w base gm Jf v
 |4=>v=Y (X ⟨gm,0,Z⟩)
 |5=>v=Y (X ⟨gm,0,Z⟩)
 |6=>v=Y (X ⟨gm,4,Z⟩)
 |7=>FV w base gm IP v
 |8=> ∃(gl:Nat) (fs:List (FD×Nat)),v=EJ (X ⟨gl,0,Z⟩) 2 2/\fs.map (·.1)=[Jf,IP]/\base<=gl/\Jv w base gm fs/\H w gl (EY fs).toArray 298
 |9=> ∃(gl:Nat) (fs:List (FD×Nat)),v=EJ (X ⟨gl,0,Z⟩) 2 2/\fs.map (·.1)=[Jf,IP]/\base<=gl/\Jv w base gm fs/\H w gl (EY fs).toArray 298
 |_=>v=EU EI
theorem EX7(base gm:Nat): ∀i v w w',i<11->zg base gm i v w->Jn w w'->zg base gm i v w':=by
 intro i v w w' hi h hb;unfold zg at*;split at h;case h_4|h_8=>exact h.u hb
 case h_9|h_10=> exact Ekb
 all_goals exact h
theorem EX8(gm:Nat)(l:List Int)(w:M)(hm:H w gm (I7 l) 222)(hk:l.getD 0 0=135): Eg Ea 212 #[Y (X ⟨gm,0,Z⟩)] w (X3 w gm [Jf,IP]):=by
 have c0:=hm.cell 0;rw[aK _ _ D,if_neg D,hk] at c0;have B:=J<|E_ w.heap.size w;clear hm hk;go_enter lR,lS;go_wp2_with fail;clear c0;refine aw EK Ef 11 Ef Ej Eb (zg w.heap.size gm) (EX7 _ _) ?_ ?_
 ·simp only[XH,Is,Io,ED,Ic,Ii,IJ,IU,and_true];refine⟨?_,?_,?_,?_,?_,?_,?_,?_,?_,?_,?_⟩;all_goals intro v w' hb hd
  ·exact EkO
  ·exact Ekm
  ·exact Ekl
  ·exact EoO
  ·exact EkO
  ·exact Ekk
  ·exact Ekj
  ·exact Ej9
  ·obtain⟨g0,d3,l0,k0⟩:FV w' w.heap.size gm Jf (v 3):=hd.at 3 rfl;obtain⟨g1,d7,l1,k1⟩:FV w' w.heap.size gm IP (v 7):=hd.at 7 rfl;refine Z6 (w':=w'.alloc (Ec (EY [(Jf,g0),(IP,g1)]).toArray 298)) (v:=EJ (X ⟨w'.heap.size,0,Z⟩) 2 2) (Ei U) nV (Er w' _) ⟨w'.heap.size,[(Jf,g0),(IP,g1)],U,U,EB B.out.size hb.size,fun i hi=> ?_,H.new _ _ _⟩;match i,hi with
   |0,_=>exact⟨l0,H.alloc k0 _⟩
   |1,_=>exact⟨l1,H.alloc k1 _⟩
  ·exact EoJ
  ·exact EkO
 ·exact EoE
def zi(base gm:Nat)(i:Nat)(v:G)(w:M):Prop:=match i with
 |0=>v=Y (X ⟨gm,0,Z⟩)
 |1=>v=Y (X ⟨gm,0,Z⟩)
 |2=>v=Y (X ⟨gm,3,Z⟩)
 |3=>FV w base gm Jf v
 |4=>v=Y (X ⟨gm,0,Z⟩)
 |5=>v=Y (X ⟨gm,0,Z⟩)
 |6=>v=Y (X ⟨gm,5,Z⟩)
 |7=>FV w base gm Zj v
 |8=> ∃(gl:Nat) (fs:List (FD×Nat)),v=EJ (X ⟨gl,0,Z⟩) 2 2/\fs.map (·.1)=[Jf,Zj]/\base<=gl/\Jv w base gm fs/\H w gl (EY fs).toArray 298
 |9=> ∃(gl:Nat) (fs:List (FD×Nat)),v=EJ (X ⟨gl,0,Z⟩) 2 2/\fs.map (·.1)=[Jf,Zj]/\base<=gl/\Jv w base gm fs/\H w gl (EY fs).toArray 298
 |_=>v=EU EI
theorem EX9(base gm:Nat): ∀i v w w',i<11->zi base gm i v w->Jn w w'->zi base gm i v w':=by
 intro i v w w' hi h hb;unfold zi at*;split at h;case h_4|h_8=>exact h.u hb
 case h_9|h_10=> exact Ekb
 all_goals exact h
theorem EX_(gm:Nat)(l:List Int)(w:M)(hm:H w gm (I7 l) 222)(hk:l.getD 0 0=136): Eg Ea 212 #[Y (X ⟨gm,0,Z⟩)] w (X3 w gm [Jf,Zj]):=by
 have c0:=hm.cell 0;rw[aK _ _ D,if_neg D,hk] at c0;have B:=J<|E_ w.heap.size w;clear hm hk;go_enter lR,lS;go_wp2_with fail;clear c0;refine aw EK Ef 11 Ef Ej Eb (zi w.heap.size gm) (EX9 _ _) ?_ ?_
 ·simp only[XH,Is,Io,ED,Ic,Ii,IJ,IU,and_true];refine⟨?_,?_,?_,?_,?_,?_,?_,?_,?_,?_,?_⟩;all_goals intro v w' hb hd
  ·exact EkO
  ·exact Ekm
  ·exact Ekl
  ·exact EoO
  ·exact EkO
  ·exact Ekk
  ·exact Ekj
  ·exact ElU
  ·obtain⟨g0,d3,l0,k0⟩:FV w' w.heap.size gm Jf (v 3):=hd.at 3 rfl;obtain⟨g1,d7,l1,k1⟩:FV w' w.heap.size gm Zj (v 7):=hd.at 7 rfl;refine Z6 (w':=w'.alloc (Ec (EY [(Jf,g0),(Zj,g1)]).toArray 298)) (v:=EJ (X ⟨w'.heap.size,0,Z⟩) 2 2) (Ei U) nV (Er w' _) ⟨w'.heap.size,[(Jf,g0),(Zj,g1)],U,U,EB B.out.size hb.size,fun i hi=> ?_,H.new _ _ _⟩;match i,hi with
   |0,_=>exact⟨l0,H.alloc k0 _⟩
   |1,_=>exact⟨l1,H.alloc k1 _⟩
  ·obtain⟨gl,fs,e,m,lg,bx,kk⟩: ∃(gl:Nat) (fs:List (FD×Nat)),v 8=EJ (X ⟨gl,0,Z⟩) 2 2/\fs.map (·.1)=[Jf,Zj]/\w.heap.size<=gl/\Jv w' w.heap.size gm fs/\H w' gl (EY fs).toArray 298:=hd.at 8 rfl;exact EkD
  ·exact EkO
 ·intro v w' hb hr;obtain⟨gl,fs,e,m,lg,bx,kk⟩: ∃(gl:Nat) (fs:List (FD×Nat)),v 9=EJ (X ⟨gl,0,Z⟩) 2 2/\fs.map (·.1)=[Jf,Zj]/\w.heap.size<=gl/\Jv w' w.heap.size gm fs/\H w' gl (EY fs).toArray 298:=hr 9 D;exact EoU
def zj(base gm:Nat)(i:Nat)(v:G)(w:M):Prop:=match i with
 |0=>v=Y (X ⟨gm,0,Z⟩)
 |1=>v=Y (X ⟨gm,0,Z⟩)
 |2=>v=Y (X ⟨gm,1,Z⟩)
 |3=>FV w base gm Ij v
 |4=>v=Y (X ⟨gm,0,Z⟩)
 |5=>v=Y (X ⟨gm,0,Z⟩)
 |6=>v=Y (X ⟨gm,5,Z⟩)
 |7=>FV w base gm Zj v
 |8=> ∃(gl:Nat) (fs:List (FD×Nat)),v=EJ (X ⟨gl,0,Z⟩) 2 2/\fs.map (·.1)=[Ij,Zj]/\base<=gl/\Jv w base gm fs/\H w gl (EY fs).toArray 298
 |9=> ∃(gl:Nat) (fs:List (FD×Nat)),v=EJ (X ⟨gl,0,Z⟩) 2 2/\fs.map (·.1)=[Ij,Zj]/\base<=gl/\Jv w base gm fs/\H w gl (EY fs).toArray 298
 |_=>v=EU EI
theorem EZE(base gm:Nat): ∀i v w w',i<11->zj base gm i v w->Jn w w'->zj base gm i v w':=by
 intro i v w w' hi h hb;unfold zj at*;split at h;case h_4|h_8=>exact h.u hb
 case h_9|h_10=> exact Ekb
 all_goals exact h
theorem EZI(gm:Nat)(l:List Int)(w:M)(hm:H w gm (I7 l) 222)(hk:l.getD 0 0=132): Eg Ea 212 #[Y (X ⟨gm,0,Z⟩)] w (X3 w gm [Ij,Zj]):=by
 have c0:=hm.cell 0;rw[aK _ _ D,if_neg D,hk] at c0;have B:=J<|E_ w.heap.size w;clear hm hk;go_enter lR,lS;go_wp2_with fail;clear c0;refine aw EK Ef 11 Ef Ej Eb (zj w.heap.size gm) (EZE _ _) ?_ ?_
 ·simp only[XH,Is,Io,ED,Ic,Ii,IJ,IU,and_true];refine⟨?_,?_,?_,?_,?_,?_,?_,?_,?_,?_,?_⟩;all_goals intro v w' hb hd
  ·exact EkO
  ·exact Ekm
  ·exact Ekl
  ·exact Ej6
  ·exact EkO
  ·exact Ekk
  ·exact Ekj
  ·exact ElU
  ·obtain⟨g0,d3,l0,k0⟩:FV w' w.heap.size gm Ij (v 3):=hd.at 3 rfl;obtain⟨g1,d7,l1,k1⟩:FV w' w.heap.size gm Zj (v 7):=hd.at 7 rfl;refine Z6 (w':=w'.alloc (Ec (EY [(Ij,g0),(Zj,g1)]).toArray 298)) (v:=EJ (X ⟨w'.heap.size,0,Z⟩) 2 2) (Ei U) nV (Er w' _) ⟨w'.heap.size,[(Ij,g0),(Zj,g1)],U,U,EB B.out.size hb.size,fun i hi=> ?_,H.new _ _ _⟩;match i,hi with
   |0,_=>exact⟨l0,H.alloc k0 _⟩
   |1,_=>exact⟨l1,H.alloc k1 _⟩
  ·obtain⟨gl,fs,e,m,lg,bx,kk⟩: ∃(gl:Nat) (fs:List (FD×Nat)),v 8=EJ (X ⟨gl,0,Z⟩) 2 2/\fs.map (·.1)=[Ij,Zj]/\w.heap.size<=gl/\Jv w' w.heap.size gm fs/\H w' gl (EY fs).toArray 298:=hd.at 8 rfl;exact EkD
  ·exact EkO
 ·intro v w' hb hr;obtain⟨gl,fs,e,m,lg,bx,kk⟩: ∃(gl:Nat) (fs:List (FD×Nat)),v 9=EJ (X ⟨gl,0,Z⟩) 2 2/\fs.map (·.1)=[Ij,Zj]/\w.heap.size<=gl/\Jv w' w.heap.size gm fs/\H w' gl (EY fs).toArray 298:=hr 9 D;exact EoU
def zk(base gm:Nat)(i:Nat)(v:G)(w:M):Prop:=match i with
 |0=>v=Y (X ⟨gm,0,Z⟩)
 |1=>v=Y (X ⟨gm,0,Z⟩)
 |2=>v=Y (X ⟨gm,2,Z⟩)
 |3=>FV w base gm U2 v
 |4=>v=Y (X ⟨gm,0,Z⟩)
 |5=>v=Y (X ⟨gm,0,Z⟩)
 |6=>v=Y (X ⟨gm,3,Z⟩)
 |7=>FV w base gm Jf v
 |8=>v=Y (X ⟨gm,0,Z⟩)
 |9=>v=Y (X ⟨gm,0,Z⟩)
 |10=>v=Y (X ⟨gm,4,Z⟩)
 |11=>FV w base gm IP v
 |12=> ∃(gl:Nat) (fs:List (FD×Nat)),v=EJ (X ⟨gl,0,Z⟩) 3 3/\fs.map (·.1)=[U2,Jf,IP]/\base<=gl/\Jv w base gm fs/\H w gl (EY fs).toArray 298
 |13=> ∃(gl:Nat) (fs:List (FD×Nat)),v=EJ (X ⟨gl,0,Z⟩) 3 3/\fs.map (·.1)=[U2,Jf,IP]/\base<=gl/\Jv w base gm fs/\H w gl (EY fs).toArray 298
 |_=>v=EU EI
theorem EZJ(base gm:Nat): ∀i v w w',i<15->zk base gm i v w->Jn w w'->zk base gm i v w':=by
 intro i v w w' hi h hb;unfold zk at*;split at h;case h_4|h_8|h_12=>exact h.u hb
 case h_13|h_14=> exact Ekb
 all_goals exact h
theorem EZO(gm:Nat)(l:List Int)(w:M)(hm:H w gm (I7 l) 222)(hk:l.getD 0 0=130): Eg Ea 212 #[Y (X ⟨gm,0,Z⟩)] w (X3 w gm [U2,Jf,IP]):=by
 have c0:=hm.cell 0;rw[aK _ _ D,if_neg D,hk] at c0;have B:=J<|E_ w.heap.size w;clear hm hk;go_enter lR,lS;go_wp2_with fail;clear c0;refine aw EK Ef 15 Ef Ej Eb (zk w.heap.size gm) (EZJ _ _) ?_ ?_
 ·simp only[XH,Is,Io,ED,Ic,Ii,IJ,IU,and_true];refine⟨?_,?_,?_,?_,?_,?_,?_,?_,?_,?_,?_,?_,?_,?_,?_⟩;all_goals intro v w' hb hd
  ·exact EkO
  ·exact Ekm
  ·exact Ekl
  ·have d2:v 2=Y (X ⟨gm,2,Z⟩):=hd.at 2 rfl;refine Ob (f:=202) (args:= #[v 2]) (Ei U) Ew ?_;rw[d2];exact(D9 gm 2 w').mono fun e w'' ⟨v,he,⟨gb,e2,lb,kb⟩,hb'⟩=>⟨v,he,hb',gb,e2,EB (EB B.out.size hb.size) lb,kb⟩
  ·exact EkO
  ·exact Ekk
  ·exact Ekj
  ·exact Eog
  ·exact EkO
  ·exact EmJ
  ·exact EmI
  ·have d10:v 10=Y (X ⟨gm,4,Z⟩):=hd.at 10 rfl;refine Ob (f:=206) (args:= #[v 10]) (Ei U) Ew ?_;rw[d10];exact(nT gm 4 w').mono fun e w'' ⟨v,he,⟨gb,e2,lb,kb⟩,hb'⟩=>⟨v,he,hb',gb,e2,EB (EB B.out.size hb.size) lb,kb⟩
  ·obtain⟨g0,d3,l0,k0⟩:FV w' w.heap.size gm U2 (v 3):=hd.at 3 rfl;obtain⟨g1,d7,l1,k1⟩:FV w' w.heap.size gm Jf (v 7):=hd.at 7 rfl;obtain⟨g2,d11,l2,k2⟩:FV w' w.heap.size gm IP (v 11):=hd.at 11 rfl;refine Z6 (w':=w'.alloc (Ec (EY [(U2,g0),(Jf,g1),(IP,g2)]).toArray 298)) (v:=EJ (X ⟨w'.heap.size,0,Z⟩) 3 3) (Ei U) FI (Er w' _) ⟨w'.heap.size,[(U2,g0),(Jf,g1),(IP,g2)],U,U,EB B.out.size hb.size,fun i hi=> ?_,H.new _ _ _⟩;match i,hi with
   |0,_=>exact⟨l0,H.alloc k0 _⟩
   |1,_=>exact⟨l1,H.alloc k1 _⟩
   |2,_=>exact⟨l2,H.alloc k2 _⟩
  ·obtain⟨gl,fs,e,m,lg,bx,kk⟩: ∃(gl:Nat) (fs:List (FD×Nat)),v 12=EJ (X ⟨gl,0,Z⟩) 3 3/\fs.map (·.1)=[U2,Jf,IP]/\w.heap.size<=gl/\Jv w' w.heap.size gm fs/\H w' gl (EY fs).toArray 298:=hd.at 12 rfl;exact EkD
  ·exact EkO
 ·intro v w' hb hr;obtain⟨gl,fs,e,m,lg,bx,kk⟩: ∃(gl:Nat) (fs:List (FD×Nat)),v 13=EJ (X ⟨gl,0,Z⟩) 3 3/\fs.map (·.1)=[U2,Jf,IP]/\w.heap.size<=gl/\Jv w' w.heap.size gm fs/\H w' gl (EY fs).toArray 298:=hr 13 D;have dt:v 14=EU EI:=hr 14 D;exact Ej1
def lT(w:M)(base:Nat)(A:Option Ev)(gm cap:Nat)(fs:List (FD×Nat)):Prop:=w.ownsRow base 298 5 (EJ A fs.length cap) fs.length (EY fs)/\Jv w base gm fs
theorem lT.u(h:lT w base A gm cap fs)(hb:Ek w w'):lT w' base A gm cap fs:=
 ⟨lx (tZ (b0:=0) (T:=298) (N:=0) (ys:=[]) hb) h.1 fun j _ hj hlt=>absurd hj Pz,h.2.u hb⟩
theorem EZU(w:M)(base gm:Nat):lT w base Z gm 0 []:=⟨⟨U,.inl ⟨U,U⟩⟩,fun i hi=>absurd hi Ej⟩
theorem lT.FE(h:lT w base A gm cap fs)(hf:fs≠[]): ∃gl,A=X ⟨gl,0,Z⟩/\Xa w base gl gm fs:=by
 rcases h.1.2 with⟨h1,h2⟩|⟨g,cp,cur,hv,hbg,-⟩;·exact absurd (ao h2) hf
 ·injection hv with e1 e2 e3;subst e1;exact⟨g,U,hbg,fun j Y3 hu=>by have:=h.1.cells (g:=g) U j Y3 hu;rwa [D_] at this,h.2⟩
theorem lV(w:M)(base gm cap:Nat)(A:Option Ev)(fs:List (FD×Nat))(n:Nat)(hn:fs.length=n)(h:lT w base A gm cap fs)(d:FD)(gb g1 c1:Nat)(hgb:base<=gb)(hbx:X2 w d gm gb)(hk:H w g1 (EY [(d,gb)]).toArray 298)(hs:n<=1000)(hbase:base<=w.heap.size)(ty:Ez): ∃A' cap' w',(bX #[254,254] ty #[EJ A n cap,EJ (X ⟨g1,0,Z⟩) 1 c1]).run Ea w= .ok (EJ A' (n+1) cap') w'/\lT w' base A' gm cap' (fs++[(d,gb)])/\Ir base w w':=by
 subst hn;obtain⟨i0,hi,hz0,hz1,hz2⟩:=bZ Py
 obtain⟨A',cap',w',hrun,h2,h3,h4,-⟩:=cU (P:=Ea) w base base 254 ty 298 i0 _ 5 40 Tryz.underlying254 hi hz0 hz1 hz2 U A cap fs.length _ h.1 ⟨g1,0,Z⟩ 1 c1 (EY [(d,gb)]) (tK _)
  (fun j Y3 hu=>PB) (Px _) (fun _=>D) Oy D hbase (E9 _)
 rw[<-Pv] at h2;refine⟨A',cap',w',hrun,⟨PD,fun i hi=> ?_⟩,h3.2.1 hbase⟩;rcases JW i fs.length with hlt|hge;·rw[List.getElem_append_left hlt];exact⟨(h.2 i hlt).1,XN h3 (h.2 i hlt).2 (yC _)⟩
 ·exact ElM
theorem EZX(gm:Nat)(l:List Int)(w:M)(hm:H w gm (I7 l) 222)(hk:l.getD 0 0=129): Eg Ea 212 #[Y (X ⟨gm,0,Z⟩)] w (X3 w gm [IQ 0,IQ 1,IQ 2,IQ 3,IQ 4,IQ 5,IQ 6,IQ 7]):=by
 have c0:=hm.cell 0;rw[aK _ _ D,if_neg D,hk] at c0;have B:=J<|E_ w.heap.size w;have K0:=J<|EZU w w.heap.size gm;clear hm hk;go_enter lR,lS;go_wp2_with fail;refine OJ 9 ?_;rw[Ib];go_wp2_with fail;refine(lQ gm 6 _).mono ?_;rintro e x0 ⟨v0,rfl,⟨bB,rfl,lb0,tL⟩,b0⟩;have FJ:=B.out.size;replace K0:=J<|(K0.out.u b0).u (Er x0 (Ec (EY [(IQ 0,bB)]).toArray 298));have HA:=J<|H.new x0 (EY [(IQ 0,bB)]).toArray 298;have HB0:=J<|H.alloc tL (Ec (EY [(IQ 0,bB)]).toArray 298);replace B:=J<|bt (bt B.out b0) (Er x0 (Ec (EY [(IQ 0,bB)]).toArray 298));clear b0 tL;unfold ID;go_wp2_with (with_reducible refine JU 23 ?_);apply Et;change Ih _ _ _ _ _ (x0.alloc (Ec (EY [(IQ 0,bB)]).toArray 298));have hz0:w.heap.size<=(x0.alloc (Ec (EY [(IQ 0,bB)]).toArray 298)).heap.size:=B.out.size;obtain⟨A1,cp1,y0,hrun,k,b⟩:=lV _ w.heap.size gm _ _ _ 0 rfl K0.out (IQ 0) bB x0.heap.size 1 D HB0.out HA.out D hz0 254;(with_reducible refine Jq ?_ (UU (s:= .tmp 15) (y:= .tmp 22) ?_ ?_ ?_ hrun) ?_);·exact Ei U
 ·rfl
 ·rfl
 ·rfl
 have K1:=J k;replace B:=J<|B.out.trans b;clear k b hrun HA HB0 K0 hz0 FJ;go_wp2_with fail;rw[Ib];go_wp2_with fail;refine(lQ gm 7 _).mono ?_;rintro e x1 ⟨v1,rfl,⟨bC,rfl,lb1,tM⟩,b1⟩;have FU:=B.out.size;replace K1:=J<|(K1.out.u b1).u (Er x1 (Ec (EY [(IQ 1,bC)]).toArray 298));have HA:=J<|H.new x1 (EY [(IQ 1,bC)]).toArray 298;have HB1:=J<|H.alloc tM (Ec (EY [(IQ 1,bC)]).toArray 298);replace B:=J<|bt (bt B.out b1) (Er x1 (Ec (EY [(IQ 1,bC)]).toArray 298));clear b1 tM;unfold ID;go_wp2_with (with_reducible refine JU 23 ?_);apply Et;change Ih _ _ _ _ _ (x1.alloc (Ec (EY [(IQ 1,bC)]).toArray 298));have hz1:w.heap.size<=(x1.alloc (Ec (EY [(IQ 1,bC)]).toArray 298)).heap.size:=B.out.size;obtain⟨A2,cp2,y1,hrun,k,b⟩:=lV _ w.heap.size gm _ _ _ 1 rfl K1.out (IQ 1) bC x1.heap.size 1 D HB1.out HA.out D hz1 254;(with_reducible refine Jq ?_ (UU (s:= .tmp 15) (y:= .tmp 22) ?_ ?_ ?_ hrun) ?_);·exact Ei U
 ·rfl
 ·rfl
 ·rfl
 have K2:=J k;replace B:=J<|B.out.trans b;clear k b hrun HA HB1 K1 hz1 FU;go_wp2_with fail;rw[Ib];go_wp2_with fail;refine(lQ gm 8 _).mono ?_;rintro e x2 ⟨v2,rfl,⟨bD,rfl,lb2,lH⟩,b2⟩;have FX:=B.out.size;replace K2:=J<|(K2.out.u b2).u (Er x2 (Ec (EY [(IQ 2,bD)]).toArray 298));have HA:=J<|H.new x2 (EY [(IQ 2,bD)]).toArray 298;have HB2:=J<|H.alloc lH (Ec (EY [(IQ 2,bD)]).toArray 298);replace B:=J<|bt (bt B.out b2) (Er x2 (Ec (EY [(IQ 2,bD)]).toArray 298));clear b2 lH;unfold ID;go_wp2_with (with_reducible refine JU 23 ?_);apply Et;change Ih _ _ _ _ _ (x2.alloc (Ec (EY [(IQ 2,bD)]).toArray 298));have hz2:w.heap.size<=(x2.alloc (Ec (EY [(IQ 2,bD)]).toArray 298)).heap.size:=B.out.size;obtain⟨A3,cp3,y2,hrun,k,b⟩:=lV _ w.heap.size gm _ _ _ 2 rfl K2.out (IQ 2) bD x2.heap.size 1 D HB2.out HA.out D hz2 254;(with_reducible refine Jq ?_ (UU (s:= .tmp 15) (y:= .tmp 22) ?_ ?_ ?_ hrun) ?_);·exact Ei U
 ·rfl
 ·rfl
 ·rfl
 have K3:=J k;replace B:=J<|B.out.trans b;clear k b hrun HA HB2 K2 hz2 FX;go_wp2_with fail;rw[Ib];go_wp2_with fail;refine(lQ gm 9 _).mono ?_;rintro e x3 ⟨v3,rfl,⟨bF,rfl,lb3,tN⟩,b3⟩;have FZ:=B.out.size;replace K3:=J<|(K3.out.u b3).u (Er x3 (Ec (EY [(IQ 3,bF)]).toArray 298));have HA:=J<|H.new x3 (EY [(IQ 3,bF)]).toArray 298;have HB3:=J<|H.alloc tN (Ec (EY [(IQ 3,bF)]).toArray 298);replace B:=J<|bt (bt B.out b3) (Er x3 (Ec (EY [(IQ 3,bF)]).toArray 298));clear b3 tN;unfold ID;go_wp2_with (with_reducible refine JU 23 ?_);apply Et;change Ih _ _ _ _ _ (x3.alloc (Ec (EY [(IQ 3,bF)]).toArray 298));have hz3:w.heap.size<=(x3.alloc (Ec (EY [(IQ 3,bF)]).toArray 298)).heap.size:=B.out.size;obtain⟨A4,cp4,y3,hrun,k,b⟩:=lV _ w.heap.size gm _ _ _ 3 rfl K3.out (IQ 3) bF x3.heap.size 1 D HB3.out HA.out D hz3 254;(with_reducible refine Jq ?_ (UU (s:= .tmp 15) (y:= .tmp 22) ?_ ?_ ?_ hrun) ?_);·exact Ei U
 ·rfl
 ·rfl
 ·rfl
 have K4:=J k;replace B:=J<|B.out.trans b;clear k b hrun HA HB3 K3 hz3 FZ;go_wp2_with fail;rw[Ib];go_wp2_with fail;refine(lQ gm 10 _).mono ?_;rintro e x4 ⟨v4,rfl,⟨oU,rfl,lb4,Qq⟩,b4⟩;have lx4:=B.out.size;replace K4:=J<|(K4.out.u b4).u (Er x4 (Ec (EY [(IQ 4,oU)]).toArray 298));have HA:=J<|H.new x4 (EY [(IQ 4,oU)]).toArray 298;have Qr:=J<|H.alloc Qq (Ec (EY [(IQ 4,oU)]).toArray 298);replace B:=J<|bt (bt B.out b4) (Er x4 (Ec (EY [(IQ 4,oU)]).toArray 298));clear b4 Qq;unfold ID;go_wp2_with (with_reducible refine JU 23 ?_);apply Et;change Ih _ _ _ _ _ (x4.alloc (Ec (EY [(IQ 4,oU)]).toArray 298));have zl:w.heap.size<=(x4.alloc (Ec (EY [(IQ 4,oU)]).toArray 298)).heap.size:=B.out.size;obtain⟨A5,cp5,y4,hrun,k,b⟩:=lV _ w.heap.size gm _ _ _ 4 rfl K4.out (IQ 4) oU x4.heap.size 1 D Qr.out HA.out D zl 254;(with_reducible refine Jq ?_ (UU (s:= .tmp 15) (y:= .tmp 22) ?_ ?_ ?_ hrun) ?_);·exact Ei U
 ·rfl
 ·rfl
 ·rfl
 have K5:=J k;replace B:=J<|B.out.trans b;clear k b hrun HA Qr K4 zl lx4;go_wp2_with fail;rw[Ib];go_wp2_with fail;refine(lQ gm 11 _).mono ?_;rintro e x5 ⟨v5,rfl,⟨oX,rfl,lb5,Qs⟩,b5⟩;have lx5:=B.out.size;replace K5:=J<|(K5.out.u b5).u (Er x5 (Ec (EY [(IQ 5,oX)]).toArray 298));have HA:=J<|H.new x5 (EY [(IQ 5,oX)]).toArray 298;have ui:=J<|H.alloc Qs (Ec (EY [(IQ 5,oX)]).toArray 298);replace B:=J<|bt (bt B.out b5) (Er x5 (Ec (EY [(IQ 5,oX)]).toArray 298));clear b5 Qs;unfold ID;go_wp2_with (with_reducible refine JU 23 ?_);apply Et;change Ih _ _ _ _ _ (x5.alloc (Ec (EY [(IQ 5,oX)]).toArray 298));have zn:w.heap.size<=(x5.alloc (Ec (EY [(IQ 5,oX)]).toArray 298)).heap.size:=B.out.size;obtain⟨A6,cp6,y5,hrun,k,b⟩:=lV _ w.heap.size gm _ _ _ 5 rfl K5.out (IQ 5) oX x5.heap.size 1 D ui.out HA.out D zn 254;(with_reducible refine Jq ?_ (UU (s:= .tmp 15) (y:= .tmp 22) ?_ ?_ ?_ hrun) ?_);·exact Ei U
 ·rfl
 ·rfl
 ·rfl
 have K6:=J k;replace B:=J<|B.out.trans b;clear k b hrun HA ui K5 zn lx5;go_wp2_with fail;rw[Ib];go_wp2_with fail;refine(lQ gm 12 _).mono ?_;rintro e x6 ⟨v6,rfl,⟨oZ,rfl,lb6,Qt⟩,b6⟩;have lx6:=B.out.size;replace K6:=J<|(K6.out.u b6).u (Er x6 (Ec (EY [(IQ 6,oZ)]).toArray 298));have HA:=J<|H.new x6 (EY [(IQ 6,oZ)]).toArray 298;have gX:=J<|H.alloc Qt (Ec (EY [(IQ 6,oZ)]).toArray 298);replace B:=J<|bt (bt B.out b6) (Er x6 (Ec (EY [(IQ 6,oZ)]).toArray 298));clear b6 Qt;unfold ID;go_wp2_with (with_reducible refine JU 23 ?_);apply Et;change Ih _ _ _ _ _ (x6.alloc (Ec (EY [(IQ 6,oZ)]).toArray 298));have Qu:w.heap.size<=(x6.alloc (Ec (EY [(IQ 6,oZ)]).toArray 298)).heap.size:=B.out.size;obtain⟨A7,cp7,y6,hrun,k,b⟩:=lV _ w.heap.size gm _ _ _ 6 rfl K6.out (IQ 6) oZ x6.heap.size 1 D gX.out HA.out D Qu 254;(with_reducible refine Jq ?_ (UU (s:= .tmp 15) (y:= .tmp 22) ?_ ?_ ?_ hrun) ?_);·exact Ei U
 ·rfl
 ·rfl
 ·rfl
 have K7:=J k;replace B:=J<|B.out.trans b;clear k b hrun HA gX K6 Qu lx6;go_wp2_with fail;rw[Ib];go_wp2_with fail;refine(lQ gm 13 _).mono ?_;rintro e x7 ⟨v7,rfl,⟨oc,rfl,lb7,Qv⟩,b7⟩;have lx7:=B.out.size;replace K7:=J<|(K7.out.u b7).u (Er x7 (Ec (EY [(IQ 7,oc)]).toArray 298));have HA:=J<|H.new x7 (EY [(IQ 7,oc)]).toArray 298;have uj:=J<|H.alloc Qv (Ec (EY [(IQ 7,oc)]).toArray 298);replace B:=J<|bt (bt B.out b7) (Er x7 (Ec (EY [(IQ 7,oc)]).toArray 298));clear b7 Qv;unfold ID;go_wp2_with (with_reducible refine JU 23 ?_);apply Et;change Ih _ _ _ _ _ (x7.alloc (Ec (EY [(IQ 7,oc)]).toArray 298));have Fl:w.heap.size<=(x7.alloc (Ec (EY [(IQ 7,oc)]).toArray 298)).heap.size:=B.out.size;obtain⟨A8,cp8,y7,hrun,k,b⟩:=lV _ w.heap.size gm _ _ _ 7 rfl K7.out (IQ 7) oc x7.heap.size 1 D uj.out HA.out D Fl 254;(with_reducible refine Jq ?_ (UU (s:= .tmp 15) (y:= .tmp 22) ?_ ?_ ?_ hrun) ?_);·exact Ei U
 ·rfl
 ·rfl
 ·rfl
 have K8:=J k;replace B:=J<|B.out.trans b;clear k b hrun HA uj K7 Fl lx7;go_wp2_with fail;rw[Ib];go_wp2;go_ret2;obtain⟨gl,hA,hfl⟩:=K8.out.FE Ej;subst hA;exact⟨_,_,_,U,U,hfl,B.out⟩
section
variable{P:Program}
theorem Qw{e:Ez}(he:P.underlying e=X (.int .u8))(d:Nat)(x y:List Int)(n:Nat)(hx:x.length=n)(hy:y.length=n)(W:M): ∀(m j:Nat),j+m<=n-> (Op.eqItems (d+1) e 1 (Em x) (Em y) (List.range' j m)).run P W= .ok ((List.range' j m).all fun i=>x.getD i 0==y.getD i 0) W
 |0,j,_=>by simp only[List.range'_zero,Op.eqItems,Oa,jF]
 |m+1,j,h=>by
  have p1:=yN he (Em x) j _ (jk x j D) W;have p2:=yN he (Em y) j _ (jk y j D) W;rw[List.range'_succ,io];simp only[Op.eqItems,Om,Nat.mul_one,p1,p2,On,run_equalIn_int W d e .u8 .u8 _ _ he];cases hb:(x.getD j 0==y.getD j 0);·exact EnY
  ·simp only[Bool.not_true,jq,if_false,Bool.true_and];exact Qw he d x y n hx hy W m (j+1) D
theorem EZd(x y:List Int)(n:Nat)(hx:x.length=n)(hy:y.length=n):((UM n).all fun i=>x.getD i 0==y.getD i 0)=decide (x=y):=by
 rw[Bool.eq_iff_iff,decide_eq_true_iff,XJ];constructor;·intro h;refine List.ext_getElem D fun i h1 h2=> ?_;have:=h i Jm;simpa[h1,h2] using this
 ·rintro rfl i _;simp
theorem EZf{t e:Ez}{n:Nat}{i:TypeInfo}(hu:P.underlying t=X (.array n e))(he:P.underlying e=X (.int .u8))(hc:P.cellsOf e=1)(hi:P.info? e=X i)(d:Nat)(x y:List Int)(hx:x.length=n)(hy:y.length=n)(W:M): (Op.equalIn (d+1+1) t (EZ (Em x)) (EZ (Em y))).run P W= .ok (decide (x=y)) W:=by rw[run_equalIn_array W (d+1) _ _ hu hi,hc,List.range_eq_range',Qw he d x y n hx hy W n 0 D,<-List.range_eq_range',EZd x y n hx hy]
end
theorem EZg: ∃i,Tryz.prog.info? 5=X i:=by obtain⟨i0,hi,-⟩:=bZ kK;exact⟨i0,hi⟩
theorem EZh(gm:Nat)(l:List Int)(w:M)(k:Int)(hm:H w gm (I7 l) 222)(hk:l.getD 0 0=k)(hn:jH k=Z): Eg Ea 212 #[Y (X ⟨gm,0,Z⟩)] w fun e w'=>e=Eh (Es #[EJ Z 0 0,EU V])/\w=w':=by
 have c0:=hm.cell 0;rw[aK _ _ D,if_neg D,hk] at c0
 have hne:k≠129/\k≠130/\k≠131/\k≠132/\k≠133/\k≠134/\k≠135/\k≠136:=by
  unfold jH at hn;repeat' split at hn
  all_goals first|(cases hn;done)|omega
 obtain⟨n129,n130,n131,n132,n133,n134,n135,n136⟩:=hne;have EiL:(k==129)=V:=by simp[n129]
 have EiM:(k==130)=V:=by simp[n130]
 have EiN:(k==131)=V:=by simp[n131]
 have EiP:(k==132)=V:=by simp[n132]
 have EiQ:(k==133)=V:=by simp[n133]
 have EiR:(k==134)=V:=by simp[n134]
 have EiS:(k==135)=V:=by simp[n135]
 have EiT:(k==136)=V:=by simp[n136]
 clear hm hk hn;go_enter lR,lS;go_wp2;exact Enx
def FP(w:M)(gm:Nat)(k:Int)(e:Uv)(w':M):Prop:=
 match jH k with
 |some ds=>X3 w gm ds e w'
 |none=>e=Eh (Es #[EJ Z 0 0,EU V])/\w=w'
theorem EZi(gm:Nat)(l:List Int)(w:M)(hm:H w gm (I7 l) 222):Eg Ea 212 #[Y (X ⟨gm,0,Z⟩)] w (FP w gm (l.getD 0 0)):=by
 generalize hk:l.getD 0 0=k at*;by_cases EZj:k=129;·subst EZj;exact EZX gm l w hm hk
 by_cases EZk:k=130;·subst EZk;exact EZO gm l w hm hk
 by_cases EZl:k=131;·subst EZl;exact EX2 gm l w hm hk
 by_cases EZm:k=132;·subst EZm;exact EZI gm l w hm hk
 by_cases EZn:k=133;·subst EZn;exact EX3 gm l w hm hk
 by_cases EZo:k=134;·subst EZo;exact EX6 gm l w hm hk
 by_cases EZp:k=135;·subst EZp;exact EX8 gm l w hm hk
 by_cases EZq:k=136;·subst EZq;exact EX_ gm l w hm hk
 have hn:jH k=Z:=by unfold jH;exact Eno
 unfold FP;rw[hn];exact EZh gm l w k hm hk hn
theorem EZr(a0 a1 a2 a3 a4 a5 a6 a7 a8 a9 Un JP a12 oh b0 b1 b2 b3 b4 b5 b6 b7 b8 b9 b10 b11 b12 b13:Int)(W:M): (XG .neq 222 (EZ #[E I a0,E I a1,E I a2,E I a3,E I a4,E I a5,E IT a6,E IT a7,E IT a8,E IT a9,E IT Un,E IT JP,E IT a12,E IT oh]) (EZ #[E I b0,E I b1,E I b2,E I b3,E I b4,E I b5,E IT b6,E IT b7,E IT b8,E IT b9,E IT b10,E IT b11,E IT b12,E IT b13])).run Ea W= .ok (EU (!decide (a0=b0/\a1=b1/\a2=b2/\a3=b3/\a4=b4/\a5=b5/\[a6,a7,a8,a9,Un,JP,a12,oh]=[b6,b7,b8,b9,b10,b11,b12,b13]))) W:=by
 obtain⟨i0,hi⟩:=EZg;have hx:=EZf Tryz.underlying115 Tryz.underlying5 Ef hi 9997 [a6,a7,a8,a9,Un,JP,a12,oh] [b6,b7,b8,b9,b10,b11,b12,b13] U U W;simp only[Em,Xs,Zu,aO] at hx;by_cases e0:a0=b0
 ·by_cases e1:a1=b1
  ·by_cases e2:a2=b2
   ·by_cases e3:a3=b3
    ·by_cases e4:a4=b4
     ·by_cases e5:a5=b5
      ·by_cases e8:[a6,a7,a8,a9,Un,JP,a12,oh]=[b6,b7,b8,b9,b10,b11,b12,b13];·rw[IE e8] at hx;simp only[bK,and_true] at e8;obtain⟨z6,z7,z8,z9,z10,z11,IZ,z13⟩:=e8;subst z6 z7 z8 z9 z10 z11 IZ z13;simp[go_sem,e0,e1,e2,e3,e4,e5,hx]
       ·rw[Ia e8] at hx;have e9:(!decide (a0=b0/\a1=b1/\a2=b2/\a3=b3/\a4=b4/\a5=b5/\[a6,a7,a8,a9,Un,JP,a12,oh]=[b6,b7,b8,b9,b10,b11,b12,b13]))=EI:=by simp only[Bool.not_eq_true',decide_eq_false_iff_not];exact fun h=>e8 h.2.2.2.2.2.2
        rw[e9];simp[go_sem,e0,e1,e2,e3,e4,e5,hx]
      ·simp[go_sem,e0,e1,e2,e3,e4,e5]
     ·simp[go_sem,e0,e1,e2,e3,e4]
    ·simp[go_sem,e0,e1,e2,e3]
   ·simp[go_sem,e0,e1,e2]
  ·simp[go_sem,e0,e1]
 ·simp[go_sem,e0]
theorem EZv(x y:List Int)(hx:cL x)(hy:cL y)(W:M):(XG .neq 222 (EZ (I7 x)) (EZ (I7 y))).run Ea W= .ok (EU (!decide (x=y))) W:=by
 obtain⟨hx,-⟩:=hx;obtain⟨hy,-⟩:=hy;match x,hx with
 |[a0,a1,a2,a3,a4,a5,a6,a7,a8,a9,Un,JP,a12,oh],_=>
  match y,hy with
  |[b0,b1,b2,b3,b4,b5,b6,b7,b8,b9,b10,b11,b12,b13],_=> refine(EZr a0 a1 a2 a3 a4 a5 a6 a7 a8 a9 Un JP a12 oh b0 b1 b2 b3 b4 b5 b6 b7 b8 b9 b10 b11 b12 b13 W).trans ?_;congr 3;rw[decide_eq_decide];simp
def ol(k:Int):List Int:=[k,0,0,0,0,0,0,0,0,0,0,0,0,0]
def lY(l:List Int):Option (List Int):=
 match jH (l.getD 0 0) with
 |none=>Z
 |some ds=>match bG ds l with
  |none=>Z
  |some ps=>if JT ds l=ol (l.getD 0 0) then X (l.getD 0 0::ps) else Z
structure FD.FR(d:FD):Prop where
 ok:d.FN
 off1:1<=d.off
 neg:d.lo<0-> -32768<=d.lo/\d.hi<=32767
 pos:0<=d.lo->1<=d.size/\d.size<=7/\d.hi<256^d.size.toNat
theorem EZw{k:Int}{ds:List FD}(h:jH k=X ds):129<=k/\k<=136/\ds.length<=8/\ ∀d∈ds,d.FR:=by
 unfold jH at h;repeat' split at h
 all_goals first
  |(cases h;done)
  |(injection h with h
    subst h
    refine⟨D,D,Eb,fun d hd=> ?_⟩
    simp only[OY,Uu,or_false] at hd)
 ·rcases hd with rfl|rfl|rfl|rfl|rfl|rfl|rfl|rfl<;>exact⟨⟨Eb,Eb,Eb⟩,Eb,Eb,Eb⟩
 ·rcases hd with rfl|rfl|rfl<;>exact⟨⟨Eb,Eb,Eb⟩,Eb,Eb,Eb⟩
 ·subst hd;exact⟨⟨Eb,Eb,Eb⟩,Eb,Eb,Eb⟩
 ·exact Emg
 ·subst hd;exact⟨⟨Eb,Eb,Eb⟩,Eb,Eb,Eb⟩
 ·exact Emg
 ·exact Emg
theorem EZx{gl:Nat}(h:Xa w base gl gm fs)(hl:cL l)(hm:H w gm (I7 l) 222)(hd: ∀p∈fs,p.1.FR): ∀a∈fs.map (yT l),a.ok/\dj w a.Y5 a.gp a.n:=by intro a ha;obtain⟨p,hp,rfl⟩:=bc.1 ha;have hg:=hd p hp;obtain⟨i,hi,he⟩:=List.getElem_of_mem hp;refine⟨⟨hg.neg,hg.pos⟩,EIL p.1,fun W hW=> ?_⟩;have hb:=(h.2.2 i hi).2;rw[he] at hb;exact EXY p.1 p.2 gm l W hg.ok hl (H.u hb hW) (hm.u hW)
theorem Qx(ds:List FD)(l:List Int)(h:cL l):cL (JT ds l):=by
 refine⟨(yV ds l).trans h.1,fun i h6 jK=> ?_⟩;rcases EUA ds l i with h1|h1;·rw[h1];omega
 ·rw[h1];exact h.2 i h6 jK
theorem EZy(k:Int):cL (ol k):=by exact Ell
theorem EZz(k:Int):Tryz.prog.built 222 [(0,E I k)]=X (I7 (ol k)):=Ef
def uk(l:List Int)(w:M)(e:Uv)(w':M):Prop:=
 (match lY l with
  |none=>e=Eh (Es #[EJ Z 0 0,E I 1])
  |some bs=> ∃A c base,e=Eh (Es #[EJ A bs.length c,E I 0])/\Own w' base A c bs)/\Ek w w'
theorem EZA(l:List Int)(w:M)(hl:cL l):Eg Ea 165 #[EZ (I7 l)] w (uk l w):=by
 have CF:=J<|fun W gm hm=>EZi gm l W hm;have HL:=J hl;have hsz:Ed ((I7 l).size=14):=J<|oO l;have hone:=J<|FM l;clear hl;obtain⟨mv,hmv⟩:=Eo (I7 l);obtain⟨k,hk⟩:=Eo (l.getD 0 0);rw[<-hmv] at hsz hone⊢;replace hmv:=J hmv;rw[<-hk] at CF;replace hk:=J hk;go_enter Tryz.func165,Tryz.ntmps165;go_wp2_with fail;have K1:=J<|H.new w mv 222;have B:=J<|Er w (Ec mv 222);rw[hmv.out] at K1 B⊢;generalize w.alloc (Ec (I7 l) 222)=w0 at*;have l0:=K1.out.lt;refine(CF.out _ _ K1.out).mono ?_;rintro e w1 hf;unfold FP at hf;cases hfo:jH k with
 |none=>
  rw[hfo] at hf;obtain⟨rfl,rfl⟩:=hf;have hp:lY l=Z:=by unfold lY;rw[<-hk.out,hfo]
  replace hp:=J hp;clear hfo;go_wp2;go_ret2;unfold uk;rw[hp.out];exact Env
 |some ds=>
  rw[hfo] at hf;obtain⟨gl,cp,fs,rfl,hds,hfl,b1⟩:=hf;obtain⟨k1,k11,hd7,hgood⟩:=EZw hfo;have Qy:=J hfo;have yW:=J hds;have FL:=J hfl;have HG:=J hgood;replace K1:=J<|K1.out.u b1;replace B:=EW B b1;have hlen:fs.length=ds.length:=by rw[<-hds,List.length_map]
  have HN:=J hlen;have hgl:w.heap.size<gl:=by have:=hfl.1;omega
  have c0:=K1.out.cell 0;rw[aK _ _ D,if_neg D,<-hk.out] at c0;have l1:=K1.out.lt;have FT: ∀p∈fs,p.1.FR:=fun p hp=>hgood _ (by rw[<-hds];exact List.mem_map_of_mem hp);have CP:=J<|EUk k (fs.map (yT l)) ds.length gl cp (by rw[List.length_map,hlen]) D D D w1 (fun W hW=>EUy l (hfl.u hW)) (EZx hfl HL.out K1.out FT);have HG2:=J FT;clear FT;clear hfo hds hfl hgood b1 hlen;generalize hnl:ds.length=n at*;replace hnl:=J hnl;go_wp2_with fail;refine(CP.out).mono ?_;rintro e w2 ⟨l_,b2⟩;clear CP c0;rw[EUx,yW.out] at l_;have Qz:=b2.size;replace K1:=J<|K1.out.u b2;replace FL:=J<|FL.out.u b2;replace B:=EW B b2;clear b2;cases hps:bG ds l with
  |none=>
   rw[hps] at l_;obtain rfl:=l_;have hp:lY l=Z:=by unfold lY;rw[<-hk.out,Qy.out];simp only[hps]
   replace hp:=J hp;clear hps;go_wp2;go_ret2;unfold uk;rw[hp.out];exact Env
  |some ps=>
   rw[hps] at l_;obtain⟨A,c,rfl,ho⟩:=l_;have yM:=J hps;have HO:=J ho;clear hps ho;go_wp2_with fail;go_loopw[26] (fun y wr=> ∃i:Nat,i<=n/\y=E I i/\H wr w.heap.size (I7 (JT (ds.take i) l)) 222/\Xa wr w0.heap.size gl w.heap.size fs/\Own wr w1.heap.size A c (k::ps)/\Ek w wr) (fun y _=>n-(I5 y).toNat);case atStart=>exact⟨0,D,U,K1.out,FL.out,HO.out,B.out⟩
   case round=>
    obtain⟨i,hi,rfl,hm,hfl,ho,hbb⟩:=hrel;have K1:=J hm;have FL:=J hfl;have HO:=J ho;have B:=J hbb;have lr:=hm.lt;have lb:=hbb.size;clear hm hfl ho hbb;by_cases hin:i<n
    ·have hil:i<fs.length:=Fb;have hcell:=fun j hj=>FL.out.cells i hil j hj;have oE:=(FL.out.2.2 i hil).2;have hgd:=HG2.out _ (dW hil);have htk:ds.take (i+1)=ds.take i++[(fs[i]'hil).1]:=by have e1:ds[i]?=X (fs[i]'hil).1:=P2;rw[lL,e1];rfl
     generalize fs[i]'hil=p at*;obtain⟨d,gb⟩:=p;simp only at hcell oE hgd htk;have HT:=J htk;have tR:=J oE;have CS:=J<|fun W (hb:X2 W d w.heap.size gb) (hm:H W w.heap.size (I7 (JT (ds.take i) l)) 222)=>EX1 d gb w.heap.size (JT (ds.take i) l) 0 W hgd.ok (fun _=>D) (Qx _ _ HL.out) hb hm;have HE: ∀(args:Array G) (w:M),(Ji d.set args).run Ea w= .ok (.enter d.set args) w:=Nd d;have c0:=hcell 0 D;have c1:=hcell 1 D;have c2:=hcell 2 D;have c3:=hcell 3 D;have c4:=hcell 4 D;simp only[ID,Nat.add_zero] at c0 c1 c2 c3 c4;clear hcell oE hgd htk;have Fk:=J<|fT d gb;have hsz2:Ed ((ID d gb).size=5):=J U;have t1:decide ((i:Int)<(n:Int))=EI:=IE D;go_wp2_with (with_reducible refine wA fE (Ey.mk ?_));apply Et;clear c0 c1 c2 c3 c4 t1;have K5:=J<|H.new wr Ju 298;have b5:=J<|Er wr (Ec Ju 298);generalize wr.alloc (Ec Ju 298)=w4 at*;go_wp2_with (with_reducible refine wS (cs:=(ID d gb)) Xj K5 (Ey.mk ?_) (hn:=hsz2.out) (h1:=Fk.out));apply Et;replace K5:=J<|K5.out.setRow (ID d gb);replace b5:=J<|E6 (g:=wr.heap.size) b5.out D (ID d gb);generalize w4.setRow wr.heap.size (ID d gb)=w5 at*;replace K1:=J<|K1.out.u b5.out;replace FL:=J<|FL.out.u b5.out;replace HO:=J<|Z8 HO.out b5.out;replace B:=EW B b5.out;have tS:Ed (X2 w5 d w.heap.size gb):=EP tR b5.out;clear tR;clear b5;have k4:=K5.out.cell 4;simp only[ID,J0,List.getElem?_cons_succ,jt] at k4;have HK4:w5.cell? ⟨wr.heap.size,4,Z⟩=X (.func (.func d.set) #[] #[Y (X ⟨gb,0,Z⟩)]):=k4;clear k4 K5;go_wp2_with fail;refine(CS.out _ tS.out K1.out).mono ?_;rintro e w6 ⟨rfl,QA,FW,hs6,b6⟩;clear HK4 HE CS;replace K1:=J QA;replace FL:=J<|FL.out.keep D FW;replace HO:=J<|EUz HO.out D FW;replace B:=J<|B.out.trans b6;clear QA FW b6 tS;go_wp2_with fail;refine⟨⟨i+1,D,Ej,?_,FL.out,HO.out,B.out⟩,J6⟩;rw[HT.out,EUB];exact K1.out
    ·obtain rfl:i=n:=D;have QC:ds.take i=ds:=by rw[<-hnl.out,List.take_length]
     rw[QC] at K1;have c0:=K1.out.cell 0;rw[aK _ _ D,if_neg D,qR _ _ _ (fun d hd=>by have:=(HG.out d hd).off1;omega),<-hk.out] at c0;have NQ:=fun W=>EZv (JT ds l) (ol k) (Qx ds l HL.out) (EZy k) W;have hput:lY l=if JT ds l=ol k then X (k::ps) else Z:=by unfold lY;rw[<-hk.out,Qy.out];simp only[yM.out]
     replace hput:=J hput;have zs:Ed ((I7 (JT ds l)).size=14):=J<|oO _;have BM:=J<|EZz k;have HKP:Ed ((k::ps).length=1+ps.length):=J (by rw[Zw];omega);clear QC;generalize I7 (JT ds l)=mz at*;generalize I7 (ol k)=mk at*;have t1:decide ((i:Int)<(i:Int))=V:=Ia D;by_cases hz:JT ds l=ol k;·rw[IE hz] at NQ;rw[if_pos hz] at hput;clear hz;go_wp2_with (first|(with_reducible refine wL za K1 ?_ (hn:=zs.out))|((with_reducible refine It 37 ?_);refine JO rfl 222 _ rfl mk BM.out ?_));go_ret2;unfold uk;rw[hput.out];exact⟨⟨A,c,_,by rw[HKP.out];rfl,HO.out⟩,B.out⟩
     ·rw[Ia hz] at NQ;rw[if_neg hz] at hput;clear hz;go_wp2_with (first|(with_reducible refine wL za K1 ?_ (hn:=zs.out))|((with_reducible refine It 37 ?_);refine JO rfl 222 _ rfl mk BM.out ?_));go_ret2;unfold uk;rw[hput.out];exact Env
def Zk(n b:Int):Bool:=decide (0<=n/\n<b)
theorem zo{b:Int}(h:Zk n b=EI):0<=n/\n<b:=of_decide_eq_true h
theorem QD(n b:Int)(w:M): Eg Ea 162 #[E I n,E I b] w fun e w'=>e=Eh (EU (Zk n b))/\w=w':=by
 by_cases h:0<=n;·go_enter Tryz.func162,Tryz.ntmps162;go_wp2;go_ret;exact⟨xO (by unfold Zk;simp[h]),U⟩
 ·go_enter Tryz.func162,Tryz.ntmps162;go_wp2;go_ret;exact⟨xO (by unfold Zk;simp;omega),U⟩
theorem fh(n b:Int)(w:M)(h:Zk n b=EI): Eg Ea 162 #[E I n,E I b] w fun e w'=>e=Eh (EU EI)/\w=w':=by have:=QD n b w;rwa [h] at this
theorem oo(n b:Int)(w:M)(h:Zk n b=V): Eg Ea 162 #[E I n,E I b] w fun e w'=>e=Eh (EU V)/\w=w':=by have:=QD n b w;rwa [h] at this
def pn(g:Nat->G)(i:Nat):Int:=I5 (g i)
def jL(g:Nat->G)(source role:Int):Bool:=Zk source 5&&Zk role 4&&has (pn g (9+source.toNat)) role
def may(g:Nat->G)(mode role QG:Int):Bool:=Zk mode 5&&Zk role 4&&Zk QG 4&&has (pn g (14+mode.toNat*4+role.toNat)) QG
def gZ(g:Nat->G)(from_ al:Int):Bool:=Zk from_ 5&&Zk al 5&&has (pn g (34+from_.toNat)) al
theorem QH(g:Nat->G)(s r:Int)(w:M)(hg: ∀i,9<=i->i<56->ZA (g i)): Eg Ea 119 #[EZ (EN 56 g),E I s,E I r] w fun e w'=>e=Eh (EU (jL g s r))/\Ek w w':=by
 cases h1:Zk s 5;·have N1:=J h1;rw[show jL g s r=V from by simp[jL,h1]];clear h1;go_enter Tryz.func119,Tryz.ntmps119;exact ElX
 ·cases h2:Zk r 4;·have N1:=J h1;have N2:=J h2;rw[show jL g s r=V from by simp[jL,h2]];clear h1 h2;go_enter Tryz.func119,Tryz.ntmps119;go_wp2_with fail;refine(fh _ _ _ N1.out).mono ?_;rintro e w' ⟨rfl,rfl⟩;go_wp2_with fail;refine(oo _ _ _ N2.out).mono ?_;rintro e w' ⟨rfl,rfl⟩;go_wp2;go_ret;exact⟨U,Er _ _⟩
  ·have N1:=J h1;have N2:=J h2;obtain⟨k1,k2⟩:=zo h1;obtain⟨k,rfl⟩:=ib k1;rw[show jL g k r=has (pn g (9+k)) r from by simp[jL,h1,h2]];have hlt:9+k<56:=D;obtain⟨e1,m1,m2⟩:=hg (9+k) D hlt;obtain⟨p1,hp1⟩:=OQ (I5 (g (9+k)));rw[show pn g (9+k)=p1 from hp1];rw[hp1] at e1 m1 m2;obtain⟨b,hb⟩:=OQ (has p1 r);have hh:=Co p1 r;rw[hb] at hh;have HH:=J hh;rw[hb];clear h1 h2 hp1 hg hb hh;go_enter Tryz.func119,Tryz.ntmps119;exact Eob
theorem QK(g:Nat->G)(s r:Int)(w:M)(hg: ∀i,9<=i->i<56->ZA (g i)): Eg Ea 183 #[EZ (EN 56 g),E I s,E I r] w fun e w'=>e=Eh (EU (gZ g s r))/\Ek w w':=by
 cases h1:Zk s 5;·have N1:=J h1;rw[show gZ g s r=V from by simp[gZ,h1]];clear h1;go_enter Tryz.func183,Tryz.ntmps183;exact ElX
 ·cases h2:Zk r 5;·have N1:=J h1;have N2:=J h2;rw[show gZ g s r=V from by simp[gZ,h2]];clear h1 h2;go_enter Tryz.func183,Tryz.ntmps183;go_wp2_with fail;refine(fh _ _ _ N1.out).mono ?_;rintro e w' ⟨rfl,rfl⟩;go_wp2_with fail;refine(oo _ _ _ N2.out).mono ?_;rintro e w' ⟨rfl,rfl⟩;go_wp2;go_ret;exact⟨U,Er _ _⟩
  ·have N1:=J h1;have N2:=J h2;obtain⟨k1,k2⟩:=zo h1;obtain⟨k,rfl⟩:=ib k1;rw[show gZ g k r=has (pn g (34+k)) r from by simp[gZ,h1,h2]];have hlt:34+k<56:=D;obtain⟨e1,m1,m2⟩:=hg (34+k) D hlt;obtain⟨p1,hp1⟩:=OQ (I5 (g (34+k)));rw[show pn g (34+k)=p1 from hp1];rw[hp1] at e1 m1 m2;obtain⟨b,hb⟩:=OQ (has p1 r);have hh:=Co p1 r;rw[hb] at hh;have HH:=J hh;rw[hb];clear h1 h2 hp1 hg hb hh;go_enter Tryz.func183,Tryz.ntmps183;exact Eob
theorem ul(g:Nat->G)(s r c:Int)(w:M)(hg: ∀i,9<=i->i<56->ZA (g i)): Eg Ea 182 #[EZ (EN 56 g),E I s,E I r,E I c] w fun e w'=>e=Eh (EU (may g s r c))/\Ek w w':=by
 cases h1:Zk s 5;·have N1:=J h1;rw[show may g s r c=V from by simp[may,h1]];clear h1;go_enter Tryz.func182,Tryz.ntmps182;exact ElX
 ·cases h2:Zk r 4;·have N1:=J h1;have N2:=J h2;rw[show may g s r c=V from by simp[may,h2]];clear h1 h2;go_enter Tryz.func182,Tryz.ntmps182;go_wp2_with fail;refine(fh _ _ _ N1.out).mono ?_;rintro e w' ⟨rfl,rfl⟩;go_wp2_with fail;refine(oo _ _ _ N2.out).mono ?_;rintro e w' ⟨rfl,rfl⟩;go_wp2;go_ret;exact⟨U,Er _ _⟩
  ·cases h3:Zk c 4;·have N1:=J h1;have N2:=J h2;have N3:=J h3;rw[show may g s r c=V from by simp[may,h3]];clear h1 h2 h3;go_enter Tryz.func182,Tryz.ntmps182;go_wp2_with fail;refine(fh _ _ _ N1.out).mono ?_;rintro e w' ⟨rfl,rfl⟩;go_wp2_with fail;refine(fh _ _ _ N2.out).mono ?_;rintro e w' ⟨rfl,rfl⟩;go_wp2_with fail;refine(oo _ _ _ N3.out).mono ?_;rintro e w' ⟨rfl,rfl⟩;go_wp2;go_ret;exact⟨U,Er _ _⟩
   ·have N1:=J h1;have N2:=J h2;have N3:=J h3;obtain⟨k1,k2⟩:=zo h1;obtain⟨k,rfl⟩:=ib k1;obtain⟨j1,j2⟩:=zo h2;obtain⟨j,rfl⟩:=ib j1;rw[show may g k j c=has (pn g (14+k*4+j)) c from by simp[may,h1,h2,h3]];have hlt:14+k*4+j<56:=D;obtain⟨e1,m1,m2⟩:=hg (14+k*4+j) D hlt;obtain⟨p1,hp1⟩:=OQ (I5 (g (14+k*4+j)));rw[show pn g (14+k*4+j)=p1 from hp1];rw[hp1] at e1 m1 m2;obtain⟨b,hb⟩:=OQ (has p1 c);have hh:=Co p1 c;rw[hb] at hh;have HH:=J hh;rw[hb];clear h1 h2 h3 hp1 hg hb hh;go_enter Tryz.func182,Tryz.ntmps182;go_wp2_with fail;refine(fh _ _ _ N1.out).mono ?_;rintro e w' ⟨rfl,rfl⟩;go_wp2_with fail;refine(fh _ _ _ N2.out).mono ?_;rintro e w' ⟨rfl,rfl⟩;go_wp2_with fail;refine(fh _ _ _ N3.out).mono ?_;exact Ek2
def place(a b c d e s:Int):Int:=if a=s then 0 else if b=s then 1 else if c=s then 2 else if d=s then 3 else if e=s then 4 else-1
def aL(g:Nat->G)(s:Int):Int:=place (pn g 0) (pn g 1) (pn g 2) (pn g 3) (pn g 4) s
def FY(g:Nat->G)(a b:Int):Bool:=aL g a != -1&&aL g b != -1&&decide (aL g a<aL g b)
theorem EZD(a b c d e s:Int)(hp:0<=place a b c d e s\/place a b c d e s= -1)(h:a=s):place a b c d e s=0:=by
 unfold place at*;repeat' split at hp
 all_goals (repeat' split)
 all_goals first|rfl|omega
theorem EZF(a b c d e s:Int)(hp:0<=place a b c d e s\/place a b c d e s= -1)(h: ¬a=s):1<=place a b c d e s\/place a b c d e s= -1:=by
 unfold place at*;repeat' split at hp
 all_goals (repeat' split)
 all_goals omega
theorem EZG(a b c d e s:Int)(hp:1<=place a b c d e s\/place a b c d e s= -1)(h:b=s):place a b c d e s=1:=by
 unfold place at*;repeat' split at hp
 all_goals (repeat' split)
 all_goals first|rfl|omega
theorem EZH(a b c d e s:Int)(hp:1<=place a b c d e s\/place a b c d e s= -1)(h: ¬b=s):2<=place a b c d e s\/place a b c d e s= -1:=by
 unfold place at*;repeat' split at hp
 all_goals (repeat' split)
 all_goals omega
theorem EZK(a b c d e s:Int)(hp:2<=place a b c d e s\/place a b c d e s= -1)(h:c=s):place a b c d e s=2:=by
 unfold place at*;repeat' split at hp
 all_goals (repeat' split)
 all_goals first|rfl|omega
theorem EZL(a b c d e s:Int)(hp:2<=place a b c d e s\/place a b c d e s= -1)(h: ¬c=s):3<=place a b c d e s\/place a b c d e s= -1:=by
 unfold place at*;repeat' split at hp
 all_goals (repeat' split)
 all_goals omega
theorem EZM(a b c d e s:Int)(hp:3<=place a b c d e s\/place a b c d e s= -1)(h:d=s):place a b c d e s=3:=by
 unfold place at*;repeat' split at hp
 all_goals (repeat' split)
 all_goals first|rfl|omega
theorem EZN(a b c d e s:Int)(hp:3<=place a b c d e s\/place a b c d e s= -1)(h: ¬d=s):4<=place a b c d e s\/place a b c d e s= -1:=by
 unfold place at*;repeat' split at hp
 all_goals (repeat' split)
 all_goals omega
theorem EZP(a b c d e s:Int)(hp:4<=place a b c d e s\/place a b c d e s= -1)(h:e=s):place a b c d e s=4:=by
 unfold place at*;repeat' split at hp
 all_goals (repeat' split)
 all_goals first|rfl|omega
theorem EZQ(a b c d e s:Int)(hp:4<=place a b c d e s\/place a b c d e s= -1)(h: ¬e=s):5<=place a b c d e s\/place a b c d e s= -1:=by
 unfold place at*;repeat' split at hp
 all_goals (repeat' split)
 all_goals omega
theorem EZR(a b c d e s:Int)(hp:5<=place a b c d e s\/place a b c d e s= -1):place a b c d e s= -1:=by
 unfold place at*;repeat' split at hp
 all_goals (repeat' split)
 all_goals first|rfl|omega
theorem QL(a b c d e s:Int)(w:M): Eg Ea 245 #[EZ #[E I a,E I b,E I c,E I d,E I e],E I s] w fun e' w'=>e'=Eh (E I (place a b c d e s))/\Ek w w':=by
 have Y4:=J<|Er w;have i0: ∀w,(Ua 337 (EZ #[E I a,E I b,E I c,E I d,E I e]) (E I 0)).run Ea w= .ok (E I a) w:=fun _=>Ef;have i1: ∀w,(Ua 337 (EZ #[E I a,E I b,E I c,E I d,E I e]) (E I 1)).run Ea w= .ok (E I b) w:=fun _=>Ef;have i2: ∀w,(Ua 337 (EZ #[E I a,E I b,E I c,E I d,E I e]) (E I 2)).run Ea w= .ok (E I c) w:=fun _=>Ef;have i3: ∀w,(Ua 337 (EZ #[E I a,E I b,E I c,E I d,E I e]) (E I 3)).run Ea w= .ok (E I d) w:=fun _=>Ef;have i4: ∀w,(Ua 337 (EZ #[E I a,E I b,E I c,E I d,E I e]) (E I 4)).run Ea w= .ok (E I e) w:=fun _=>Ef;go_enter Tryz.func245,Tryz.ntmps245;go_wp2_with fail;go_loop [8] (fun y=> ∃k:Int,y=E I k/\0<=k/\k<=5/\Ed (k<=place a b c d e s\/place a b c d e s= -1)) (fun y=>5-(I5 y).toNat);case atStart=>exact⟨0,U,D,D,J (by unfold place;repeat' split;all_goals omega)⟩
 case round=>
  obtain⟨k,rfl,k0,k5,HK⟩:=hrel;rcases(show k=0\/k=1\/k=2\/k=3\/k=4\/k=5 from D) with rfl|rfl|rfl|rfl|rfl|rfl
  ·by_cases h:a=s;·have HP:=J<|EZD a b c d e s HK.out h;have hb:(a==s)=EI:=UB;clear h;go_wp2;go_ret;exact⟨iJ HP.out.symm,Y4.out _⟩
   ·have HP:=J<|EZF a b c d e s HK.out h;have hb:(a==s)=V:=UB;clear h;go_wp2;exact⟨⟨1,U,D,D,HP⟩,fi⟩
  ·by_cases h:b=s;·have HP:=J<|EZG a b c d e s HK.out h;have hb:(b==s)=EI:=UB;clear h;go_wp2;go_ret;exact⟨iJ HP.out.symm,Y4.out _⟩
   ·have HP:=J<|EZH a b c d e s HK.out h;have hb:(b==s)=V:=UB;clear h;go_wp2;exact⟨⟨2,U,D,D,HP⟩,fi⟩
  ·by_cases h:c=s;·have HP:=J<|EZK a b c d e s HK.out h;have hb:(c==s)=EI:=UB;clear h;go_wp2;go_ret;exact⟨iJ HP.out.symm,Y4.out _⟩
   ·have HP:=J<|EZL a b c d e s HK.out h;have hb:(c==s)=V:=UB;clear h;go_wp2;exact⟨⟨3,U,D,D,HP⟩,fi⟩
  ·by_cases h:d=s;·have HP:=J<|EZM a b c d e s HK.out h;have hb:(d==s)=EI:=UB;clear h;go_wp2;go_ret;exact⟨iJ HP.out.symm,Y4.out _⟩
   ·have HP:=J<|EZN a b c d e s HK.out h;have hb:(d==s)=V:=UB;clear h;go_wp2;exact⟨⟨4,U,D,D,HP⟩,fi⟩
  ·by_cases h:e=s;·have HP:=J<|EZP a b c d e s HK.out h;have hb:(e==s)=EI:=UB;clear h;go_wp2;go_ret;exact⟨iJ HP.out.symm,Y4.out _⟩
   ·have HP:=J<|EZQ a b c d e s HK.out h;have hb:(e==s)=V:=UB;clear h;go_wp2;exact⟨⟨5,U,D,D,HP⟩,fi⟩
  ·have HP:=J<|EZR a b c d e s HK.out;go_wp2;go_ret;exact⟨iJ HP.out.symm,Y4.out _⟩
theorem iz{v:G}(h:ZA v): ∃n,v=E I n/\I5 v=n:=⟨_,h.1,U⟩
theorem EZS(g:Nat->G)(s:Int)(w:M)(hg: ∀i,i<5->ZA (g i)): Eg Ea 219 #[EZ (EN 56 g),E I s] w fun e' w'=>e'=Eh (E I (aL g s))/\Ek w w':=by obtain⟨a,e0,p0⟩:=iz (hg 0 D);obtain⟨b,e1,p1⟩:=iz (hg 1 D);obtain⟨c,e2,p2⟩:=iz (hg 2 D);obtain⟨d,e3,p3⟩:=iz (hg 3 D);obtain⟨e,e4,p4⟩:=iz (hg 4 D);rw[show aL g s=place a b c d e s from QN];clear hg p0 p1 p2 p3 p4;go_enter Tryz.func219,Tryz.ntmps219;go_wp2_with fail;refine(QL a b c d e s _).mono ?_;rintro e' w1 ⟨rfl,b1⟩;go_wp2;go_ret;exact⟨U,MX b1⟩
theorem EZT(g:Nat->G)(s t:Int)(w:M)(hg: ∀i,i<5->ZA (g i)): Eg Ea 217 #[EZ (EN 56 g),E I s,E I t] w fun e' w'=>e'=Eh (EU (FY g s t))/\Ek w w':=by
 obtain⟨a,e0,p0⟩:=iz (hg 0 D);obtain⟨b,e1,p1⟩:=iz (hg 1 D);obtain⟨c,e2,p2⟩:=iz (hg 2 D);obtain⟨d,e3,p3⟩:=iz (hg 3 D);obtain⟨e,e4,p4⟩:=iz (hg 4 D);have hr: ∀s,aL g s=place a b c d e s:=fun s=>QN;unfold FY;rw[hr,hr];have C:=J<|QL a b c d e;have B0:=J<|Er w (Ec (EN 56 g) 28);clear hg p0 p1 p2 p3 p4 hr;go_enter Tryz.func217,Tryz.ntmps217;go_wp2_with fail;go_cut[8,9] (fun Y3 v wx=>Y3=E I (place a b c d e s)/\v=E I (place a b c d e t)/\Ek w wx)
 case first=>
  go_region_with (go_at_call 245;refine(C.out _ _).mono ?_;rintro e' w1 ⟨rfl,b1⟩;(first|(have cc:=MO b1;have b2:=J b1;clear b1)|(have cc:=MO (MZ b1);have b2:=J (MZ b1);clear b1)|skip))
  all_goals
   go_wp2
   go_meet
   refine⟨U,U,?_⟩
  all_goals exact MJ (MX b2.out) b1 (E9 _)
 case rest=>
  obtain⟨rfl,rfl,hb⟩:=hcut;have HB:=J hb;clear hb;go_wp2_with fail
  all_goals
   go_ret
   refine⟨xO ?_,HB.out⟩
   first|rfl|simp_all
section
open Go.ChangeShapes Go.WideShapes
def X5(w:M):Prop:= ∀i:Nat,i<12->w.cell? ⟨1,i,Z⟩=X (EU (i==10||i==11))
theorem X5.u(h:X5 w)(hb:Ek w w'):X5 w':=fun i hi=>by rw[hb.cell (UV _ _ (h i hi))];exact h i hi
def QP(g:Nat->G)(holder OE source role mode kind Jz Oh Oi:Int):Int:=
 if¬(kind=10\/kind=11) then 1 else if¬source=holder then 20 else if¬Jz=OE then 21
 else if may g mode role (if kind=10 then 0 else Oi)=V then 22 else if kind=10/\gZ g mode Oh=V then 23 else 0
theorem EZV(g:Nat->G)(holder OE source role mode kind Jz Oh Oi:Int)(t2 t3 t4 t5 t6 t7 m1 m2 m3 m7 m8 m9 m10 m11:G)(w:M)(hg: ∀i,9<=i->i<56->ZA (g i))(hc:X5 w)(hk: ¬(kind=10\/kind=11)): Eg Ea 138 #[EZ (EN 56 g),EZ #[E I holder,E I OE,t2,t3,t4,t5,t6,t7],E I source,E I role,E I mode,EZ #[E I kind,m1,m2,m3,E I Jz,E I Oh,E I Oi,m7,m8,m9,m10,m11]] w fun e w'=>e=Eh (E I 1)/\Ek w w':=by
 have Y4:=J<|aq w;by_cases h0:kind<0;·exact Enq
 ·by_cases h1:12<=kind;·clear hc hg;go_enter jM,jN;go_wp2;go_ret;exact⟨U,Y4.out _ _ _⟩
  ·obtain⟨k,rfl⟩:=ib (show 0<=kind from D);have hcell:=hc k D;rw[show(k==10||k==11)=V from Jm] at hcell;have hlt:1<w.heap.size:=UV _ _ hcell;have hz0:0<w.heap.size:=D;have hlt2:k<12:=D;exact Enq
theorem EZW(g:Nat->G)(holder OE source role mode kind Jz Oh Oi:Int)(t2 t3 t4 t5 t6 t7 m1 m2 m3 m7 m8 m9 m10 m11:G)(w:M)(hg: ∀i,9<=i->i<56->ZA (g i))(hc:X5 w)(hk:kind=10\/kind=11)(hs: ¬source=holder): Eg Ea 138 #[EZ (EN 56 g),EZ #[E I holder,E I OE,t2,t3,t4,t5,t6,t7],E I source,E I role,E I mode,EZ #[E I kind,m1,m2,m3,E I Jz,E I Oh,E I Oi,m7,m8,m9,m10,m11]] w fun e w'=>e=Eh (E I 20)/\Ek w w':=by
 have Y4:=J<|aq w;have HG:=J hg;have hcell:=hc 10 D;have hcell2:=hc 11 D;rw[show((10:Nat)==10||(10:Nat)==11)=EI from rfl] at hcell;rw[show((11:Nat)==10||(11:Nat)==11)=EI from rfl] at hcell2;have hlt:1<w.heap.size:=UV _ _ hcell;have hz0:0<w.heap.size:=D;clear hc hg;have hs':(source !=holder)=EI:=nm;clear hs;rcases hk with rfl|rfl
 all_goals
  go_enter jM,jN
  go_wp2
  go_ret
  exact⟨U,Y4.out _ _ _⟩
theorem EZY(g:Nat->G)(holder OE source role mode kind Jz Oh Oi:Int)(t2 t3 t4 t5 t6 t7 m1 m2 m3 m7 m8 m9 m10 m11:G)(w:M)(hg: ∀i,9<=i->i<56->ZA (g i))(hc:X5 w)(hk:kind=10\/kind=11)(hs:source=holder)(he: ¬Jz=OE): Eg Ea 138 #[EZ (EN 56 g),EZ #[E I holder,E I OE,t2,t3,t4,t5,t6,t7],E I source,E I role,E I mode,EZ #[E I kind,m1,m2,m3,E I Jz,E I Oh,E I Oi,m7,m8,m9,m10,m11]] w fun e w'=>e=Eh (E I 21)/\Ek w w':=by
 have Y4:=J<|aq w;have HG:=J hg;have hcell:=hc 10 D;have hcell2:=hc 11 D;rw[show((10:Nat)==10||(10:Nat)==11)=EI from rfl] at hcell;rw[show((11:Nat)==10||(11:Nat)==11)=EI from rfl] at hcell2;have hlt:1<w.heap.size:=UV _ _ hcell;have hz0:0<w.heap.size:=D;clear hc hg;have hs':(Jz !=OE)=EI:=by simpa using he
 clear he;subst hs;rcases hk with rfl|rfl
 all_goals
  go_enter jM,jN
  go_wp2
  go_ret
  exact⟨U,Y4.out _ _ _⟩
theorem F0{a b c:Obj}(h:Ir (((w.alloc a).alloc b).alloc c).heap.size (((w.alloc a).alloc b).alloc c) w'): w'.heap[w.heap.size]?=X a/\w'.heap[w.heap.size+1]?=X b/\w'.heap[w.heap.size+2]?=X c/\Ek w w':=by
 refine⟨ZE ?_ h,ZE ?_ h,ZE ?_ h,bt (aq w a b c) h⟩;·exact ZE (heap_alloc2_old w a b) (Er _ _)
 ·exact ZE (heap_alloc2_new w a b) (Er _ _)
 ·have:=heap_alloc_new ((w.alloc a).alloc b) c;exact Emu
theorem EZ0(g:Nat->G)(holder OE source role mode kind Jz Oh Oi:Int)(t2 t3 t4 t5 t6 t7 m1 m2 m3 m7 m8 m9 m10 m11:G)(w:M)(hg: ∀i,9<=i->i<56->ZA (g i))(hc:X5 w)(hk:kind=10)(hs:source=holder)(he:Jz=OE)(hm:may g mode role 0=V): Eg Ea 138 #[EZ (EN 56 g),EZ #[E I holder,E I OE,t2,t3,t4,t5,t6,t7],E I source,E I role,E I mode,EZ #[E I kind,m1,m2,m3,E I Jz,E I Oh,E I Oi,m7,m8,m9,m10,m11]] w fun e w'=>e=Eh (E I 22)/\Ek w w':=by
 have Y4:=J<|aq w;have HG:=J hg;have hcell:=hc 10 D;have hcell2:=hc 11 D;rw[show((10:Nat)==10||(10:Nat)==11)=EI from rfl] at hcell;rw[show((11:Nat)==10||(11:Nat)==11)=EI from rfl] at hcell2;have hlt:1<w.heap.size:=UV _ _ hcell;have hz0:0<w.heap.size:=D;clear hc hg;have HM:=J hm;clear hm;subst hs he hk;have Q0:=J<|show(((w.alloc (Ec (EN 56 g) 28)).alloc (Ec #[E I source,E I Jz,t2,t3,t4,t5,t6,t7] 109)).alloc (Ec #[E I 10,m1,m2,m3,E I Jz,E I Oh,E I Oi,m7,m8,m9,m10,m11] 183)).heap[w.heap.size]?=X (Ec (EN 56 g) 28 (0,0)) from ZE (heap_alloc2_old w _ _) (Er _ _);go_enter jM,jN
 go_wp2_with (first
  |((with_reducible refine jj 28 ?_);refine nG rfl _ rfl w.heap.size g Q0 rfl ?_)
  |fail)
 refine(ul _ _ _ _ _ HG.out).mono ?_;exact EmG
theorem EZ1(g:Nat->G)(holder OE source role mode kind Jz Oh Oi:Int)(t2 t3 t4 t5 t6 t7 m1 m2 m3 m7 m8 m9 m10 m11:G)(w:M)(hg: ∀i,9<=i->i<56->ZA (g i))(hc:X5 w)(hk:kind=11)(hs:source=holder)(he:Jz=OE)(hm:may g mode role Oi=V): Eg Ea 138 #[EZ (EN 56 g),EZ #[E I holder,E I OE,t2,t3,t4,t5,t6,t7],E I source,E I role,E I mode,EZ #[E I kind,m1,m2,m3,E I Jz,E I Oh,E I Oi,m7,m8,m9,m10,m11]] w fun e w'=>e=Eh (E I 22)/\Ek w w':=by
 have Y4:=J<|aq w;have HG:=J hg;have hcell:=hc 10 D;have hcell2:=hc 11 D;rw[show((10:Nat)==10||(10:Nat)==11)=EI from rfl] at hcell;rw[show((11:Nat)==10||(11:Nat)==11)=EI from rfl] at hcell2;have hlt:1<w.heap.size:=UV _ _ hcell;have hz0:0<w.heap.size:=D;clear hc hg;have HM:=J hm;clear hm;subst hs he hk;have Q0:=J<|show(((w.alloc (Ec (EN 56 g) 28)).alloc (Ec #[E I source,E I Jz,t2,t3,t4,t5,t6,t7] 109)).alloc (Ec #[E I 11,m1,m2,m3,E I Jz,E I Oh,E I Oi,m7,m8,m9,m10,m11] 183)).heap[w.heap.size]?=X (Ec (EN 56 g) 28 (0,0)) from ZE (heap_alloc2_old w _ _) (Er _ _);go_enter jM,jN
 go_wp2_with (first
  |((with_reducible refine jj 28 ?_);refine nG rfl _ rfl w.heap.size g Q0 rfl ?_)
  |fail)
 refine(ul _ _ _ _ _ HG.out).mono ?_;exact EmG
theorem EZ2(g:Nat->G)(holder OE source role mode kind Jz Oh Oi:Int)(t2 t3 t4 t5 t6 t7 m1 m2 m3 m7 m8 m9 m10 m11:G)(w:M)(hg: ∀i,9<=i->i<56->ZA (g i))(hc:X5 w)(hk:kind=11)(hs:source=holder)(he:Jz=OE)(hm:may g mode role Oi=EI): Eg Ea 138 #[EZ (EN 56 g),EZ #[E I holder,E I OE,t2,t3,t4,t5,t6,t7],E I source,E I role,E I mode,EZ #[E I kind,m1,m2,m3,E I Jz,E I Oh,E I Oi,m7,m8,m9,m10,m11]] w fun e w'=>e=Eh (E I 0)/\Ek w w':=by
 have Y4:=J<|aq w;have HG:=J hg;have hcell:=hc 10 D;have hcell2:=hc 11 D;rw[show((10:Nat)==10||(10:Nat)==11)=EI from rfl] at hcell;rw[show((11:Nat)==10||(11:Nat)==11)=EI from rfl] at hcell2;have hlt:1<w.heap.size:=UV _ _ hcell;have hz0:0<w.heap.size:=D;clear hc hg;have HM:=J hm;clear hm;subst hs he hk;have Q0:=J<|show(((w.alloc (Ec (EN 56 g) 28)).alloc (Ec #[E I source,E I Jz,t2,t3,t4,t5,t6,t7] 109)).alloc (Ec #[E I 11,m1,m2,m3,E I Jz,E I Oh,E I Oi,m7,m8,m9,m10,m11] 183)).heap[w.heap.size]?=X (Ec (EN 56 g) 28 (0,0)) from ZE (heap_alloc2_old w _ _) (Er _ _);go_enter jM,jN
 go_wp2_with (first
  |((with_reducible refine jj 28 ?_);refine nG rfl _ rfl w.heap.size g Q0 rfl ?_)
  |fail)
 refine(ul _ _ _ _ _ HG.out).mono ?_;rintro e w1 ⟨rfl,b1⟩;rw[HM.out];clear Q0;obtain⟨q0,q1,q2,b2⟩:=F0 b1;obtain⟨c2,-⟩:=XW q2;have B:=J b2;clear q0 q1 q2 b1 b2;go_wp2;go_ret;exact Env
theorem EZ3(g:Nat->G)(holder OE source role mode kind Jz Oh Oi:Int)(t2 t3 t4 t5 t6 t7 m1 m2 m3 m7 m8 m9 m10 m11:G)(w:M)(hg: ∀i,9<=i->i<56->ZA (g i))(hc:X5 w)(hk:kind=10)(hs:source=holder)(he:Jz=OE)(hm:may g mode role 0=EI)(hn:gZ g mode Oh=V): Eg Ea 138 #[EZ (EN 56 g),EZ #[E I holder,E I OE,t2,t3,t4,t5,t6,t7],E I source,E I role,E I mode,EZ #[E I kind,m1,m2,m3,E I Jz,E I Oh,E I Oi,m7,m8,m9,m10,m11]] w fun e w'=>e=Eh (E I 23)/\Ek w w':=by
 have Y4:=J<|aq w;have HG:=J hg;have hcell:=hc 10 D;have hcell2:=hc 11 D;rw[show((10:Nat)==10||(10:Nat)==11)=EI from rfl] at hcell;rw[show((11:Nat)==10||(11:Nat)==11)=EI from rfl] at hcell2;have hlt:1<w.heap.size:=UV _ _ hcell;have hz0:0<w.heap.size:=D;clear hc hg;have HM:=J hm;have HN:=J hn;clear hm hn;subst hs he hk;have Q0:=J<|show(((w.alloc (Ec (EN 56 g) 28)).alloc (Ec #[E I source,E I Jz,t2,t3,t4,t5,t6,t7] 109)).alloc (Ec #[E I 10,m1,m2,m3,E I Jz,E I Oh,E I Oi,m7,m8,m9,m10,m11] 183)).heap[w.heap.size]?=X (Ec (EN 56 g) 28 (0,0)) from ZE (heap_alloc2_old w _ _) (Er _ _);go_enter jM,jN
 go_wp2_with (first
  |((with_reducible refine jj 28 ?_);refine nG rfl _ rfl w.heap.size g Q0 rfl ?_)
  |fail)
 refine(ul _ _ _ _ _ HG.out).mono ?_;rintro e w1 ⟨rfl,b1⟩;rw[HM.out];clear Q0;obtain⟨q0,q1,q2,b2⟩:=F0 b1;obtain⟨c2,-⟩:=XW q2;have B:=J b2;have Q0:=J q0;clear q0 q1 q2 b1 b2
 go_wp2_with (first
  |((with_reducible refine jj 28 ?_);refine nG rfl _ rfl w.heap.size g Q0 rfl ?_)
  |(go_at_call 183;refine(QK _ _ _ _ HG.out).mono ?_;rintro e w2 ⟨rfl,b2⟩;have B:=EW B b2;clear b2;rw[HN.out]))
 go_ret;exact Env
theorem EZ4(g:Nat->G)(holder OE source role mode kind Jz Oh Oi:Int)(t2 t3 t4 t5 t6 t7 m1 m2 m3 m7 m8 m9 m10 m11:G)(w:M)(hg: ∀i,9<=i->i<56->ZA (g i))(hc:X5 w)(hk:kind=10)(hs:source=holder)(he:Jz=OE)(hm:may g mode role 0=EI)(hn:gZ g mode Oh=EI): Eg Ea 138 #[EZ (EN 56 g),EZ #[E I holder,E I OE,t2,t3,t4,t5,t6,t7],E I source,E I role,E I mode,EZ #[E I kind,m1,m2,m3,E I Jz,E I Oh,E I Oi,m7,m8,m9,m10,m11]] w fun e w'=>e=Eh (E I 0)/\Ek w w':=by
 have Y4:=J<|aq w;have HG:=J hg;have hcell:=hc 10 D;have hcell2:=hc 11 D;rw[show((10:Nat)==10||(10:Nat)==11)=EI from rfl] at hcell;rw[show((11:Nat)==10||(11:Nat)==11)=EI from rfl] at hcell2;have hlt:1<w.heap.size:=UV _ _ hcell;have hz0:0<w.heap.size:=D;clear hc hg;have HM:=J hm;have HN:=J hn;clear hm hn;subst hs he hk;have Q0:=J<|show(((w.alloc (Ec (EN 56 g) 28)).alloc (Ec #[E I source,E I Jz,t2,t3,t4,t5,t6,t7] 109)).alloc (Ec #[E I 10,m1,m2,m3,E I Jz,E I Oh,E I Oi,m7,m8,m9,m10,m11] 183)).heap[w.heap.size]?=X (Ec (EN 56 g) 28 (0,0)) from ZE (heap_alloc2_old w _ _) (Er _ _);go_enter jM,jN
 go_wp2_with (first
  |((with_reducible refine jj 28 ?_);refine nG rfl _ rfl w.heap.size g Q0 rfl ?_)
  |fail)
 refine(ul _ _ _ _ _ HG.out).mono ?_;rintro e w1 ⟨rfl,b1⟩;rw[HM.out];clear Q0;obtain⟨q0,q1,q2,b2⟩:=F0 b1;obtain⟨c2,-⟩:=XW q2;have B:=J b2;have Q0:=J q0;clear q0 q1 q2 b1 b2
 go_wp2_with (first
  |((with_reducible refine jj 28 ?_);refine nG rfl _ rfl w.heap.size g Q0 rfl ?_)
  |(go_at_call 183;refine(QK _ _ _ _ HG.out).mono ?_;rintro e w2 ⟨rfl,b2⟩;have B:=EW B b2;clear b2;rw[HN.out]))
 go_ret;exact Env
theorem QQ(g:Nat->G)(holder OE source role mode kind Jz Oh Oi:Int)(t2 t3 t4 t5 t6 t7 m1 m2 m3 m7 m8 m9 m10 m11:G)(w:M)(hg: ∀i,9<=i->i<56->ZA (g i))(hc:X5 w): Eg Ea 138 #[EZ (EN 56 g),EZ #[E I holder,E I OE,t2,t3,t4,t5,t6,t7],E I source,E I role,E I mode,EZ #[E I kind,m1,m2,m3,E I Jz,E I Oh,E I Oi,m7,m8,m9,m10,m11]] w fun e w'=>e=Eh (E I (QP g holder OE source role mode kind Jz Oh Oi))/\Ek w w':=by
 unfold QP;by_cases hk:kind=10\/kind=11
 ·rw[if_neg (fun h=>h hk)];by_cases hs:source=holder
  ·rw[if_neg (fun h=>h hs)];by_cases he:Jz=OE
   ·rw[if_neg (fun h=>h he)];rcases hk with hk|hk
    ·rw[if_pos hk];cases hm:may g mode role 0;·rw[if_pos U];exact EZ0 g holder OE source role mode kind Jz Oh Oi t2 t3 t4 t5 t6 t7 m1 m2 m3 m7 m8 m9 m10 m11 w hg hc hk hs he hm
     ·rw[if_neg Ej];cases hn:gZ g mode Oh;·rw[if_pos ⟨hk,U⟩];exact EZ3 g holder OE source role mode kind Jz Oh Oi t2 t3 t4 t5 t6 t7 m1 m2 m3 m7 m8 m9 m10 m11 w hg hc hk hs he hm hn
      ·rw[if_neg Ej];exact EZ4 g holder OE source role mode kind Jz Oh Oi t2 t3 t4 t5 t6 t7 m1 m2 m3 m7 m8 m9 m10 m11 w hg hc hk hs he hm hn
    ·rw[if_neg (show¬kind=10 from D)];cases hm:may g mode role Oi;·rw[if_pos U];exact EZ1 g holder OE source role mode kind Jz Oh Oi t2 t3 t4 t5 t6 t7 m1 m2 m3 m7 m8 m9 m10 m11 w hg hc hk hs he hm
     ·rw[if_neg Ej,if_neg D];exact EZ2 g holder OE source role mode kind Jz Oh Oi t2 t3 t4 t5 t6 t7 m1 m2 m3 m7 m8 m9 m10 m11 w hg hc hk hs he hm
   ·rw[if_pos he];exact EZY g holder OE source role mode kind Jz Oh Oi t2 t3 t4 t5 t6 t7 m1 m2 m3 m7 m8 m9 m10 m11 w hg hc hk hs he
  ·rw[if_pos hs];exact EZW g holder OE source role mode kind Jz Oh Oi t2 t3 t4 t5 t6 t7 m1 m2 m3 m7 m8 m9 m10 m11 w hg hc hk hs
 ·rw[if_pos hk];exact EZV g holder OE source role mode kind Jz Oh Oi t2 t3 t4 t5 t6 t7 m1 m2 m3 m7 m8 m9 m10 m11 w hg hc hk
end
def aU(n:Int):Prop:= -9223372036854775808<=n/\n<=9223372036854775807
theorem zp{a r:Int}(hn:aU n)(ha:aU a)(hr:aU r):aU (Jp n a r):=by
 unfold aU Jp at*;repeat' split
 all_goals omega
theorem zq:IF Ea 50 12:=⟨⟨_,Tryz.underlying50,U⟩,Ef⟩
theorem EZ5(f:Nat->G)(c a0 a1 a2 a3 n0 n1 n2 n3 ru so se r:Int)(w:M)(hr:f 54=E I r)(ir:aU r)(F1:aU a0)(F2:aU a1)(F3:aU a2)(F4:aU a3)(F5:aU n0)(F6:aU n1)(F7:aU n2)(F8:aU n3)(b:Bool)(hm:decide ((Jp n0 a0 r)=n0/\(Jp n1 a1 r)=n1/\(Jp n2 a2 r)=n2/\(Jp n3 a3 r)=n3)=b): Eg Ea 107 #[EZ (EN 56 f),EZ #[E I c,E I a0,E I a1,E I a2,E I a3,E I n0,E I n1,E I n2,E I n3,E I ru,E I so,E I se]] w fun e w'=>e=Eh (EZ #[E I c,E I a0,E I a1,E I a2,E I a3,E I (Jp n0 a0 r),E I (Jp n1 a1 r),E I (Jp n2 a2 r),E I (Jp n3 a3 r),E I (if b then ru else 4),E I so,E I se])/\Ek w w':=by
 have j0: ∀w,(Ua 25 (EZ #[E I a0,E I a1,E I a2,E I a3]) (E I 0)).run Ea w= .ok (E I a0) w:=fun _=>Ef;have j1: ∀w,(Ua 25 (EZ #[E I a0,E I a1,E I a2,E I a3]) (E I 1)).run Ea w= .ok (E I a1) w:=fun _=>Ef;have j2: ∀w,(Ua 25 (EZ #[E I a0,E I a1,E I a2,E I a3]) (E I 2)).run Ea w= .ok (E I a2) w:=fun _=>Ef;have j3: ∀w,(Ua 25 (EZ #[E I a0,E I a1,E I a2,E I a3]) (E I 3)).run Ea w= .ok (E I a3) w:=fun _=>Ef;have C0:=J (xU n0 a0 r · F5.1 F5.2 F1.1 F1.2 ir.1 ir.2);have C1:=J (xU n1 a1 r · F6.1 F6.2 F2.1 F2.2 ir.1 ir.2);have C2:=J (xU n2 a2 r · F7.1 F7.2 F3.1 F3.2 ir.1 ir.2);have C3:=J (xU n3 a3 r · F8.1 F8.2 F4.1 F4.2 ir.1 ir.2);have HM:=J hm;have hneq:=EUp (Jp n0 a0 r) (Jp n1 a1 r) (Jp n2 a2 r) (Jp n3 a3 r) n0 n1 n2 n3;rw[hm] at hneq;clear hm;have hl:(54:Nat)<56:=D;clear ir F1 F2 F3 F4 F5 F6 F7 F8;go_enter Tryz.func107,Tryz.ntmps107;go_wp2_with fail;go_loopw[12] (fun y wr=> ∃k:Int,y=E I k/\0<=k/\k<=4/\wr.heap[w.heap.size]?=X (Ec (EN 56 f) 28 (0,0))/\wr.heap[w.heap.size+1]?=X (Ec (if k=0 then#[E I c,E I a0,E I a1,E I a2,E I a3,E I n0,E I n1,E I n2,E I n3,E I ru,E I so,E I se] else if k=1 then#[E I c,E I a0,E I a1,E I a2,E I a3,E I (Jp n0 a0 r),E I n1,E I n2,E I n3,E I ru,E I so,E I se] else if k=2 then#[E I c,E I a0,E I a1,E I a2,E I a3,E I (Jp n0 a0 r),E I (Jp n1 a1 r),E I n2,E I n3,E I ru,E I so,E I se] else if k=3 then#[E I c,E I a0,E I a1,E I a2,E I a3,E I (Jp n0 a0 r),E I (Jp n1 a1 r),E I (Jp n2 a2 r),E I n3,E I ru,E I so,E I se] else#[E I c,E I a0,E I a1,E I a2,E I a3,E I (Jp n0 a0 r),E I (Jp n1 a1 r),E I (Jp n2 a2 r),E I (Jp n3 a3 r),E I ru,E I so,E I se]) 50 (0,0))/\wr.heap[w.heap.size+1+1]?=X (Ec #[E I 0,E I 0,E I 0,E I 0,E I 0,E I 0,E I 0,E I 0,E I 0,E I 0,E I 0,E I 0] 50 (0,0))/\wr.heap[w.heap.size+1+1+1]?=X (Ec #[E I n0,E I n1,E I n2,E I n3] 25 (0,0))/\Ek w wr) (fun y _=>4-(I5 y).toNat)
 case atStart=>
  refine⟨0,U,D,D,?_,?_,?_,?_,?_⟩;·exact ZE (ZE (heap_alloc2_old w _ _) (Er _ _)) (Er _ _)
  ·exact ZE (ZE (heap_alloc2_new w _ _) (Er _ _)) (Er _ _)
  ·exact ZE (by have:=heap_alloc_new ((w.alloc (Ec (EN 56 f) 28)).alloc (Ec #[E I c,E I a0,E I a1,E I a2,E I a3,E I n0,E I n1,E I n2,E I n3,E I ru,E I so,E I se] 50)) (Ec #[E I 0,E I 0,E I 0,E I 0,E I 0,E I 0,E I 0,E I 0,E I 0,E I 0,E I 0,E I 0] 50);simpa using this) (Er _ _)
  ·have:=heap_alloc_new (((w.alloc (Ec (EN 56 f) 28)).alloc (Ec #[E I c,E I a0,E I a1,E I a2,E I a3,E I n0,E I n1,E I n2,E I n3,E I ru,E I so,E I se] 50)).alloc (Ec #[E I 0,E I 0,E I 0,E I 0,E I 0,E I 0,E I 0,E I 0,E I 0,E I 0,E I 0,E I 0] 50)) (Ec #[E I n0,E I n1,E I n2,E I n3] 25);exact Emu
  ·exact bt (aq w _ _ _) (Er _ _)
 case round=>
  obtain⟨k,rfl,k0,k4,hp,hq,hz,hn,hb⟩:=hrel;have HP:=J hp;have HN:=J hn;have HB:=J hb;have HZ:=J hz;obtain⟨cP,-⟩:=XW hp;obtain⟨cN,-⟩:=XW hn;clear hp hn hb hz;rcases(show k=0\/k=1\/k=2\/k=3\/k=4 from D) with rfl|rfl|rfl|rfl|rfl
  ·simp only[if_true,reduceIte] at hq;obtain⟨cQ,fQ⟩:=XW hq;have HQ:=J hq;clear hq hneq;go_wp2_with fail;go_region_with (go_at_call 152;(with_reducible refine(C0.out _).mono ?_);rintro e w1 ⟨rfl,rfl⟩);go_wp2_with fail
   all_goals
    refine⟨⟨1,U,D,D,?_,?_,?_,?_,?_⟩,fi⟩
    ·exact Els
    ·show(wr.setCell _ _).heap[_]?=_;rw[sK HQ.out 5 _];rfl
    ·exact Elr
    ·exact Elt
    ·exact(HB.out.setCell (p:=⟨w.heap.size+1,5,Z⟩) ZB _).drew
  ·simp only[show¬((1:Int)=0) from D,if_false,if_true,reduceIte] at hq;obtain⟨cQ,fQ⟩:=XW hq;have HQ:=J hq;clear hq hneq;go_wp2_with fail;go_region_with (go_at_call 152;(with_reducible refine(C1.out _).mono ?_);rintro e w1 ⟨rfl,rfl⟩);go_wp2_with fail
   all_goals
    refine⟨⟨2,U,D,D,?_,?_,?_,?_,?_⟩,fi⟩
    ·exact Els
    ·show(wr.setCell _ _).heap[_]?=_;rw[sK HQ.out 6 _];rfl
    ·exact Elr
    ·exact Elt
    ·exact(HB.out.setCell (p:=⟨w.heap.size+1,6,Z⟩) ZB _).drew
  ·simp only[show¬((2:Int)=0) from D,show¬((2:Int)=1) from D,if_false,if_true,reduceIte] at hq;obtain⟨cQ,fQ⟩:=XW hq;have HQ:=J hq;clear hq hneq;go_wp2_with fail;go_region_with (go_at_call 152;(with_reducible refine(C2.out _).mono ?_);rintro e w1 ⟨rfl,rfl⟩);go_wp2_with fail
   all_goals
    refine⟨⟨3,U,D,D,?_,?_,?_,?_,?_⟩,fi⟩
    ·exact Els
    ·show(wr.setCell _ _).heap[_]?=_;rw[sK HQ.out 7 _];rfl
    ·exact Elr
    ·exact Elt
    ·exact(HB.out.setCell (p:=⟨w.heap.size+1,7,Z⟩) ZB _).drew
  ·simp only[show¬((3:Int)=0) from D,show¬((3:Int)=1) from D,show¬((3:Int)=2) from D,if_false,if_true,reduceIte] at hq;obtain⟨cQ,fQ⟩:=XW hq;have HQ:=J hq;clear hq hneq;go_wp2_with fail;go_region_with (go_at_call 152;(with_reducible refine(C3.out _).mono ?_);rintro e w1 ⟨rfl,rfl⟩);go_wp2_with fail
   all_goals
    refine⟨⟨4,U,D,D,?_,?_,?_,?_,?_⟩,fi⟩
    ·exact Els
    ·show(wr.setCell _ _).heap[_]?=_;rw[sK HQ.out 8 _];rfl
    ·exact Elr
    ·exact Elt
    ·exact(HB.out.setCell (p:=⟨w.heap.size+1,8,Z⟩) ZB _).drew
  ·simp only[show¬((4:Int)=0) from D,show¬((4:Int)=1) from D,show¬((4:Int)=2) from D,show¬((4:Int)=3) from D,if_false,if_true,reduceIte] at hq;obtain⟨cQ,fQ⟩:=XW hq;have HQ:=J hq;clear hq j0 j1 j2 j3 C0 C1 C2 C3;cases b;·have hz':(wr.setCell ⟨w.heap.size+1,9,Z⟩ (E I 4)).heap[w.heap.size+1+1]?=_:=(ax _ _ _ _ ZB).trans HZ.out;have HZ:=J hz';have HB:=J<|HB.out.setCell (p:=⟨w.heap.size+1,9,Z⟩) ZB (E I 4);clear hz';go_wp2_with ((with_reducible show Ih _ _ _ (⟨Z,.store 50 (.tmp 4) _,_,_,_,_⟩::_) _ _);(with_reducible refine Cq (cs:= #[E I c,E I a0,E I a1,E I a2,E I a3,E I (Jp n0 a0 r),E I (Jp n1 a1 r),E I (Jp n2 a2 r),E I (Jp n3 a3 r),E I 4,E I so,E I se]) zq ?_ ?_ HZ ?_ ?_ ?_ ?_);(·exact Ei U);(·exact⟨U,U,U⟩);(·rfl);(·rfl);(·(simp[Ov];done)));refine EV (v:=EZ #[E I c,E I a0,E I a1,E I a2,E I a3,E I (Jp n0 a0 r),E I (Jp n1 a1 r),E I (Jp n2 a2 r),E I (Jp n3 a3 r),E I 4,E I so,E I se]) ?_ U ⟨U,E6 HB.out D _⟩;exact Cr zq U _ _ (w.heap.size+1+1) _ U (setRow_heap _ _ _ _ _ _ HZ.out) U
   ·go_wp2_with ((with_reducible show Ih _ _ _ (⟨Z,.store 50 (.tmp 4) _,_,_,_,_⟩::_) _ _);(with_reducible refine Cq (cs:= #[E I c,E I a0,E I a1,E I a2,E I a3,E I (Jp n0 a0 r),E I (Jp n1 a1 r),E I (Jp n2 a2 r),E I (Jp n3 a3 r),E I ru,E I so,E I se]) zq ?_ ?_ HZ ?_ ?_ ?_ ?_);(·exact Ei U);(·exact⟨U,U,U⟩);(·rfl);(·rfl);(·(simp[Ov];done)));refine EV (v:=EZ #[E I c,E I a0,E I a1,E I a2,E I a3,E I (Jp n0 a0 r),E I (Jp n1 a1 r),E I (Jp n2 a2 r),E I (Jp n3 a3 r),E I ru,E I so,E I se]) ?_ U ⟨U,E6 HB.out D _⟩;exact Cr zq U _ _ (w.heap.size+1+1) _ U (setRow_heap _ _ _ _ _ _ HZ.out) U
section
open Go.ChangeShapes Go.WideShapes
theorem QR{xs:List Int}(h:Own w base A cap xs)(hp:0<xs.length): ∃g cur,A=X ⟨g,0,Z⟩/\base<=g/\H w g cur 5/\cur.toList.take xs.length=xs.map (E .u8)/\xs.length<=cap:=by
 rcases h.1.2 with⟨hv,hn⟩|⟨g,cap',cur,hv,hg,hh,hl,hm,hs,ht⟩;·omega
 ·injection hv with h1 h2 h3;rw[Nat.mul_one] at ht;exact⟨g,cur,h1,hg,hh,ht,D⟩
theorem EZ6{cur:Array G}{T:Ez}{P:List Int}(hk:H w g cur T)(ht:cur.toList.take P.length=P.map (E .u8))(hb: ∀x∈P,0<=x/\x<=255)(off n:Nat): Row w (X ⟨g,off,Z⟩) ((P.drop off).take n):=by refine⟨.inr ⟨g,off,U,fun i hi=> ?_⟩,fun x hx=>hb x (List.mem_of_mem_drop (fC hx))⟩;have hi2:off+i<P.length:=qJ;rw[hk.cell (off+i),<-Array.getElem?_toList,<-bU hi2,ht];simp[hi2]
theorem EZ7{Y9:Type}{enc:Ez×G->Y9}{fuel:Nat}{a:Option Ev}{l c:Nat}{x:DataW Y9×List MemPlace}(hf:Zr enc Ea w 0 (fun _=>EI) EI fuel 23 [EJ a l c]=X x):L9 .u8 w (EJ a l c):=by
 rcases open_ints ba Tryz.underlying5 Ef hf with⟨hcs,_⟩|⟨x,l',c',zs,hcs,_,hl,hm,hz,hx,hcell,hwz⟩;·simp at hcs;obtain⟨rfl,rfl,rfl⟩:=hcs;exact .inl U
 ·simp at hcs;obtain⟨rfl,rfl,rfl⟩:=hcs;have hzc:zs.length=c:=by simpa using hz
  refine .inr ⟨x,l,c,zs,U,fun h0=> ?_,hl,by unfold maxLen at hm;omega,hzc,hcell,hwz⟩;have h1:=hcell 0 D;have e0:x.add 0=x:=by simp[Addr.add]
  rw[e0] at h1;refine⟨?_,World.cell?_spot h1⟩;rcases JW x.block w.heap.size with h2|h2;·exact h2
  ·rw[iA,fD h2] at h1;simp at h1
end
end Go.Proofs.YtclmichaaiohjaaGreatDoor
