import Derived.Test.YtclmichaaiohjaaGreatDoorP05
import Derived.ChangeSlices
import Derived.Deep.DeepCutAuto
set_option maxRecDepth 100000
set_option linter.unusedVariables false
set_option linter.unusedSimpArgs false
set_option maxHeartbeats 6400000
namespace Go.Proofs.YtclmichaaiohjaaGreatDoor
open RowKit
open Bool renaming true->G,false->Y
open Go renaming World->H,Calls->Ef,TypeId->Ez,Value->M,Addr->Et,bodyPost_ret->EQ,Oper->EK,below_setRow->E2,rounds_succ->Ib
open Act renaming put->Ic
open Ending renaming returned->Eg
open IntKind renaming i64->I,u8->IB,u64->Ip
open Lib renaming hid->J
open Obj renaming cells->EI
open Go.Proofs.Tryz renaming prog->EJ
open RowKit renaming Hid->Ea
open RowKit.Below renaming refl->E6
open Value renaming bool->Eb,int->E,agg->EU,slice->u,tuple->Es,pointer->V
open List renaming take_succ_cons->Il,take_zero->Ij,setIfInBounds_toArray->Ig,length_append->IL,set_cons_succ->IJ,set_cons_zero->IU,drop_succ_cons->Iz,drop_zero->Ix
open Nat renaming le_trans->Ey,le_refl->E5
open Option renaming some->X,none->Z
open KQ
variable{w w' W W':H}{base gm cap g lo hi N gq gt gc gs g2:Nat}{A:Option Et}{fs:List (FD×Nat)}{b a:M}{c:EA}{xs hd:List Int}{cs cs2:Array M}{S S2:Ez}{ys:List M}
def Xq:FD:=⟨2,1,0,255,5⟩
def IF(i:Nat):FD:=⟨3,1,0,255,6+i⟩
def hO(k:Int):Option (List FD):=
 if k=129 then X [IF 0,IF 1,IF 2,IF 3,IF 4,IF 5,IF 6,IF 7] else if k=130 then X [Ui,I9,IC] else if k=131 then X [Ih] else if k=132 then X [Ih,Xq]
 else if k=133 then X [IC] else if k=134\/k=135 then X [I9,IC] else if k=136 then X [I9,Xq] else Z
theorem EUq(gm:Nat)(l:List Int)(w:H)(hm:D w gm (IW l) 222)(hk:l.getD 0 0=131): Ef EJ 212 #[V (X ⟨gm,0,Z⟩)] w (XX w gm [Ih]):=by have c0:=hm.cell 0;rw[Zs _ _ U,if_neg U,hk] at c0;have CF:=J<|fun W=>dl gm 1 W;have BB:=J<|E6 w.heap.size w;clear hm hk;go_enter Tryz.func212,Tryz.ntmps212;go_wp2_with fail;(with_reducible refine(CF.out _).mono ?_);rintro e w1 ⟨v,rfl,⟨gb,rfl,lb,kb⟩,b1⟩;have FB:Ea (Eh w (w1.alloc (EI (EY [(Ih,gb)]).toArray 298))):=J<|b1.alloc b1.size _;have FK:Ea (Uy (w1.alloc (EI (EY [(Ih,gb)]).toArray 298)) w.heap.size w1.heap.size gm [(Ih,gb)]):=J (X_ (D.new w1 _ 298) (fun i hi=>by have:i=0:=Om;subst this;exact⟨lb,D.alloc kb _⟩) b1.size);exact Eii
theorem EUr(gm:Nat)(l:List Int)(w:H)(hm:D w gm (IW l) 222)(hk:l.getD 0 0=133): Ef EJ 212 #[V (X ⟨gm,0,Z⟩)] w (XX w gm [IC]):=by have c0:=hm.cell 0;rw[Zs _ _ U,if_neg U,hk] at c0;have CF:=J<|fun W=>lO gm 4 W;have BB:=J<|E6 w.heap.size w;clear hm hk;go_enter Tryz.func212,Tryz.ntmps212;go_wp2_with fail;(with_reducible refine(CF.out _).mono ?_);rintro e w1 ⟨v,rfl,⟨gb,rfl,lb,kb⟩,b1⟩;have FB:Ea (Eh w (w1.alloc (EI (EY [(IC,gb)]).toArray 298))):=J<|b1.alloc b1.size _;have FK:Ea (Uy (w1.alloc (EI (EY [(IC,gb)]).toArray 298)) w.heap.size w1.heap.size gm [(IC,gb)]):=J (X_ (D.new w1 _ 298) (fun i hi=>by have:i=0:=Om;subst this;exact⟨lb,D.alloc kb _⟩) b1.size);exact Eii
def wF(base gm:Nat)(i:Nat)(v:M)(w:H):Prop:=match i with
 |0=>v=V (X ⟨gm,0,Z⟩)
 |1=>v=V (X ⟨gm,0,Z⟩)
 |2=>v=V (X ⟨gm,3,Z⟩)
 |3=>FV w base gm I9 v
 |4=>v=V (X ⟨gm,0,Z⟩)
 |5=>v=V (X ⟨gm,0,Z⟩)
 |6=>v=V (X ⟨gm,4,Z⟩)
 |7=>FV w base gm IC v
 |8=> ∃(gl:Nat) (fs:List (FD×Nat)),v=u (X ⟨gl,0,Z⟩) 2 2/\fs.map (·.1)=[I9,IC]/\base<=gl/\Ji w base gm fs/\D w gl (EY fs).toArray 298
 |9=> ∃(gl:Nat) (fs:List (FD×Nat)),v=u (X ⟨gl,0,Z⟩) 2 2/\fs.map (·.1)=[I9,IC]/\base<=gl/\Ji w base gm fs/\D w gl (EY fs).toArray 298
 |_=>v=Eb G
theorem EUs(base gm:Nat): ∀i v w w',i<11->wF base gm i v w->Jr w w'->wF base gm i v w':=by
 intro i v w w' hi h hb;unfold wF at*;split at h;case h_4|h_8=>exact h.B hb
 case h_9|h_10=> exact Eif
 all_goals exact h
theorem EUt(gm:Nat)(l:List Int)(w:H)(hm:D w gm (IW l) 222)(hk:l.getD 0 0=134): Ef EJ 212 #[V (X ⟨gm,0,Z⟩)] w (XX w gm [I9,IC]):=by
 have c0:=hm.cell 0;rw[Zs _ _ U,if_neg U,hk] at c0;have BB:=J<|E6 w.heap.size w;clear hm hk;go_enter Tryz.func212,Tryz.ntmps212;go_wp2_with fail;clear c0;refine Zj EF Ec 11 Ec Ek EZ (wF w.heap.size gm) (EUs _ _) ?_ ?_
 ·simp only[U6,Il,Ij,EB,Ic,Ig,IJ,IU,and_true];refine⟨?_,?_,?_,?_,?_,?_,?_,?_,?_,?_,?_⟩;all_goals intro v w' hb hd
  ·exact EiU
  ·exact Eiq
  ·exact Eip
  ·exact EmL
  ·exact EiU
  ·exact Eio
  ·exact Ein
  ·exact Eh_
  ·obtain⟨g0,d3,l0,k0⟩:FV w' w.heap.size gm I9 (v 3):=hd.at 3 rfl;obtain⟨g1,d7,l1,k1⟩:FV w' w.heap.size gm IC (v 7):=hd.at 7 rfl;refine ZG (w':=w'.alloc (EI (EY [(I9,g0),(IC,g1)]).toArray 298)) (v:=u (X ⟨w'.heap.size,0,Z⟩) 2 2) (Ei O) lU (Eo w' _) ⟨w'.heap.size,[(I9,g0),(IC,g1)],O,O,Ey BB.out.size hb.size,fun i hi=> ?_,D.new _ _ _⟩;match i,hi with
   |0,_=>exact⟨l0,D.alloc k0 _⟩
   |1,_=>exact⟨l1,D.alloc k1 _⟩
  ·exact EmK
  ·exact EiU
 ·exact EmF
def wG(base gm:Nat)(i:Nat)(v:M)(w:H):Prop:=match i with
 |0=>v=V (X ⟨gm,0,Z⟩)
 |1=>v=V (X ⟨gm,0,Z⟩)
 |2=>v=V (X ⟨gm,3,Z⟩)
 |3=>FV w base gm I9 v
 |4=>v=V (X ⟨gm,0,Z⟩)
 |5=>v=V (X ⟨gm,0,Z⟩)
 |6=>v=V (X ⟨gm,4,Z⟩)
 |7=>FV w base gm IC v
 |8=> ∃(gl:Nat) (fs:List (FD×Nat)),v=u (X ⟨gl,0,Z⟩) 2 2/\fs.map (·.1)=[I9,IC]/\base<=gl/\Ji w base gm fs/\D w gl (EY fs).toArray 298
 |9=> ∃(gl:Nat) (fs:List (FD×Nat)),v=u (X ⟨gl,0,Z⟩) 2 2/\fs.map (·.1)=[I9,IC]/\base<=gl/\Ji w base gm fs/\D w gl (EY fs).toArray 298
 |_=>v=Eb G
theorem EUu(base gm:Nat): ∀i v w w',i<11->wG base gm i v w->Jr w w'->wG base gm i v w':=by
 intro i v w w' hi h hb;unfold wG at*;split at h;case h_4|h_8=>exact h.B hb
 case h_9|h_10=> exact Eif
 all_goals exact h
theorem EUv(gm:Nat)(l:List Int)(w:H)(hm:D w gm (IW l) 222)(hk:l.getD 0 0=135): Ef EJ 212 #[V (X ⟨gm,0,Z⟩)] w (XX w gm [I9,IC]):=by
 have c0:=hm.cell 0;rw[Zs _ _ U,if_neg U,hk] at c0;have BB:=J<|E6 w.heap.size w;clear hm hk;go_enter Tryz.func212,Tryz.ntmps212;go_wp2_with fail;clear c0;refine Zj EF Ec 11 Ec Ek EZ (wG w.heap.size gm) (EUu _ _) ?_ ?_
 ·simp only[U6,Il,Ij,EB,Ic,Ig,IJ,IU,and_true];refine⟨?_,?_,?_,?_,?_,?_,?_,?_,?_,?_,?_⟩;all_goals intro v w' hb hd
  ·exact EiU
  ·exact Eiq
  ·exact Eip
  ·exact EmL
  ·exact EiU
  ·exact Eio
  ·exact Ein
  ·exact Eh_
  ·obtain⟨g0,d3,l0,k0⟩:FV w' w.heap.size gm I9 (v 3):=hd.at 3 rfl;obtain⟨g1,d7,l1,k1⟩:FV w' w.heap.size gm IC (v 7):=hd.at 7 rfl;refine ZG (w':=w'.alloc (EI (EY [(I9,g0),(IC,g1)]).toArray 298)) (v:=u (X ⟨w'.heap.size,0,Z⟩) 2 2) (Ei O) lU (Eo w' _) ⟨w'.heap.size,[(I9,g0),(IC,g1)],O,O,Ey BB.out.size hb.size,fun i hi=> ?_,D.new _ _ _⟩;match i,hi with
   |0,_=>exact⟨l0,D.alloc k0 _⟩
   |1,_=>exact⟨l1,D.alloc k1 _⟩
  ·exact EmK
  ·exact EiU
 ·exact EmF
def wH(base gm:Nat)(i:Nat)(v:M)(w:H):Prop:=match i with
 |0=>v=V (X ⟨gm,0,Z⟩)
 |1=>v=V (X ⟨gm,0,Z⟩)
 |2=>v=V (X ⟨gm,3,Z⟩)
 |3=>FV w base gm I9 v
 |4=>v=V (X ⟨gm,0,Z⟩)
 |5=>v=V (X ⟨gm,0,Z⟩)
 |6=>v=V (X ⟨gm,5,Z⟩)
 |7=>FV w base gm Xq v
 |8=> ∃(gl:Nat) (fs:List (FD×Nat)),v=u (X ⟨gl,0,Z⟩) 2 2/\fs.map (·.1)=[I9,Xq]/\base<=gl/\Ji w base gm fs/\D w gl (EY fs).toArray 298
 |9=> ∃(gl:Nat) (fs:List (FD×Nat)),v=u (X ⟨gl,0,Z⟩) 2 2/\fs.map (·.1)=[I9,Xq]/\base<=gl/\Ji w base gm fs/\D w gl (EY fs).toArray 298
 |_=>v=Eb G
theorem EUw(base gm:Nat): ∀i v w w',i<11->wH base gm i v w->Jr w w'->wH base gm i v w':=by
 intro i v w w' hi h hb;unfold wH at*;split at h;case h_4|h_8=>exact h.B hb
 case h_9|h_10=> exact Eif
 all_goals exact h
theorem EUx(gm:Nat)(l:List Int)(w:H)(hm:D w gm (IW l) 222)(hk:l.getD 0 0=136): Ef EJ 212 #[V (X ⟨gm,0,Z⟩)] w (XX w gm [I9,Xq]):=by
 have c0:=hm.cell 0;rw[Zs _ _ U,if_neg U,hk] at c0;have BB:=J<|E6 w.heap.size w;clear hm hk;go_enter Tryz.func212,Tryz.ntmps212;go_wp2_with fail;clear c0;refine Zj EF Ec 11 Ec Ek EZ (wH w.heap.size gm) (EUw _ _) ?_ ?_
 ·simp only[U6,Il,Ij,EB,Ic,Ig,IJ,IU,and_true];refine⟨?_,?_,?_,?_,?_,?_,?_,?_,?_,?_,?_⟩;all_goals intro v w' hb hd
  ·exact EiU
  ·exact Eiq
  ·exact Eip
  ·exact EmL
  ·exact EiU
  ·exact Eio
  ·exact Ein
  ·exact Ejx
  ·obtain⟨g0,d3,l0,k0⟩:FV w' w.heap.size gm I9 (v 3):=hd.at 3 rfl;obtain⟨g1,d7,l1,k1⟩:FV w' w.heap.size gm Xq (v 7):=hd.at 7 rfl;refine ZG (w':=w'.alloc (EI (EY [(I9,g0),(Xq,g1)]).toArray 298)) (v:=u (X ⟨w'.heap.size,0,Z⟩) 2 2) (Ei O) lU (Eo w' _) ⟨w'.heap.size,[(I9,g0),(Xq,g1)],O,O,Ey BB.out.size hb.size,fun i hi=> ?_,D.new _ _ _⟩;match i,hi with
   |0,_=>exact⟨l0,D.alloc k0 _⟩
   |1,_=>exact⟨l1,D.alloc k1 _⟩
  ·obtain⟨gl,fs,e,m,lg,bx,kk⟩: ∃(gl:Nat) (fs:List (FD×Nat)),v 8=u (X ⟨gl,0,Z⟩) 2 2/\fs.map (·.1)=[I9,Xq]/\w.heap.size<=gl/\Ji w' w.heap.size gm fs/\D w' gl (EY fs).toArray 298:=hd.at 8 rfl;exact EiT
  ·exact EiU
 ·intro v w' hb hr;obtain⟨gl,fs,e,m,lg,bx,kk⟩: ∃(gl:Nat) (fs:List (FD×Nat)),v 9=u (X ⟨gl,0,Z⟩) 2 2/\fs.map (·.1)=[I9,Xq]/\w.heap.size<=gl/\Ji w' w.heap.size gm fs/\D w' gl (EY fs).toArray 298:=hr 9 U;exact EmH
def wK(base gm:Nat)(i:Nat)(v:M)(w:H):Prop:=match i with
 |0=>v=V (X ⟨gm,0,Z⟩)
 |1=>v=V (X ⟨gm,0,Z⟩)
 |2=>v=V (X ⟨gm,1,Z⟩)
 |3=>FV w base gm Ih v
 |4=>v=V (X ⟨gm,0,Z⟩)
 |5=>v=V (X ⟨gm,0,Z⟩)
 |6=>v=V (X ⟨gm,5,Z⟩)
 |7=>FV w base gm Xq v
 |8=> ∃(gl:Nat) (fs:List (FD×Nat)),v=u (X ⟨gl,0,Z⟩) 2 2/\fs.map (·.1)=[Ih,Xq]/\base<=gl/\Ji w base gm fs/\D w gl (EY fs).toArray 298
 |9=> ∃(gl:Nat) (fs:List (FD×Nat)),v=u (X ⟨gl,0,Z⟩) 2 2/\fs.map (·.1)=[Ih,Xq]/\base<=gl/\Ji w base gm fs/\D w gl (EY fs).toArray 298
 |_=>v=Eb G
theorem EUy(base gm:Nat): ∀i v w w',i<11->wK base gm i v w->Jr w w'->wK base gm i v w':=by
 intro i v w w' hi h hb;unfold wK at*;split at h;case h_4|h_8=>exact h.B hb
 case h_9|h_10=> exact Eif
 all_goals exact h
theorem EUz(gm:Nat)(l:List Int)(w:H)(hm:D w gm (IW l) 222)(hk:l.getD 0 0=132): Ef EJ 212 #[V (X ⟨gm,0,Z⟩)] w (XX w gm [Ih,Xq]):=by
 have c0:=hm.cell 0;rw[Zs _ _ U,if_neg U,hk] at c0;have BB:=J<|E6 w.heap.size w;clear hm hk;go_enter Tryz.func212,Tryz.ntmps212;go_wp2_with fail;clear c0;refine Zj EF Ec 11 Ec Ek EZ (wK w.heap.size gm) (EUy _ _) ?_ ?_
 ·simp only[U6,Il,Ij,EB,Ic,Ig,IJ,IU,and_true];refine⟨?_,?_,?_,?_,?_,?_,?_,?_,?_,?_,?_⟩;all_goals intro v w' hb hd
  ·exact EiU
  ·exact Eiq
  ·exact Eip
  ·exact Eh6
  ·exact EiU
  ·exact Eio
  ·exact Ein
  ·exact Ejx
  ·obtain⟨g0,d3,l0,k0⟩:FV w' w.heap.size gm Ih (v 3):=hd.at 3 rfl;obtain⟨g1,d7,l1,k1⟩:FV w' w.heap.size gm Xq (v 7):=hd.at 7 rfl;refine ZG (w':=w'.alloc (EI (EY [(Ih,g0),(Xq,g1)]).toArray 298)) (v:=u (X ⟨w'.heap.size,0,Z⟩) 2 2) (Ei O) lU (Eo w' _) ⟨w'.heap.size,[(Ih,g0),(Xq,g1)],O,O,Ey BB.out.size hb.size,fun i hi=> ?_,D.new _ _ _⟩;match i,hi with
   |0,_=>exact⟨l0,D.alloc k0 _⟩
   |1,_=>exact⟨l1,D.alloc k1 _⟩
  ·obtain⟨gl,fs,e,m,lg,bx,kk⟩: ∃(gl:Nat) (fs:List (FD×Nat)),v 8=u (X ⟨gl,0,Z⟩) 2 2/\fs.map (·.1)=[Ih,Xq]/\w.heap.size<=gl/\Ji w' w.heap.size gm fs/\D w' gl (EY fs).toArray 298:=hd.at 8 rfl;exact EiT
  ·exact EiU
 ·intro v w' hb hr;obtain⟨gl,fs,e,m,lg,bx,kk⟩: ∃(gl:Nat) (fs:List (FD×Nat)),v 9=u (X ⟨gl,0,Z⟩) 2 2/\fs.map (·.1)=[Ih,Xq]/\w.heap.size<=gl/\Ji w' w.heap.size gm fs/\D w' gl (EY fs).toArray 298:=hr 9 U;exact EmH
def wN(base gm:Nat)(i:Nat)(v:M)(w:H):Prop:=match i with
 |0=>v=V (X ⟨gm,0,Z⟩)
 |1=>v=V (X ⟨gm,0,Z⟩)
 |2=>v=V (X ⟨gm,2,Z⟩)
 |3=>FV w base gm Ui v
 |4=>v=V (X ⟨gm,0,Z⟩)
 |5=>v=V (X ⟨gm,0,Z⟩)
 |6=>v=V (X ⟨gm,3,Z⟩)
 |7=>FV w base gm I9 v
 |8=>v=V (X ⟨gm,0,Z⟩)
 |9=>v=V (X ⟨gm,0,Z⟩)
 |10=>v=V (X ⟨gm,4,Z⟩)
 |11=>FV w base gm IC v
 |12=> ∃(gl:Nat) (fs:List (FD×Nat)),v=u (X ⟨gl,0,Z⟩) 3 3/\fs.map (·.1)=[Ui,I9,IC]/\base<=gl/\Ji w base gm fs/\D w gl (EY fs).toArray 298
 |13=> ∃(gl:Nat) (fs:List (FD×Nat)),v=u (X ⟨gl,0,Z⟩) 3 3/\fs.map (·.1)=[Ui,I9,IC]/\base<=gl/\Ji w base gm fs/\D w gl (EY fs).toArray 298
 |_=>v=Eb G
theorem EUA(base gm:Nat): ∀i v w w',i<15->wN base gm i v w->Jr w w'->wN base gm i v w':=by
 intro i v w w' hi h hb;unfold wN at*;split at h;case h_4|h_8|h_12=>exact h.B hb
 case h_13|h_14=> exact Eif
 all_goals exact h
theorem EUB(gm:Nat)(l:List Int)(w:H)(hm:D w gm (IW l) 222)(hk:l.getD 0 0=130): Ef EJ 212 #[V (X ⟨gm,0,Z⟩)] w (XX w gm [Ui,I9,IC]):=by
 have c0:=hm.cell 0;rw[Zs _ _ U,if_neg U,hk] at c0;have BB:=J<|E6 w.heap.size w;clear hm hk;go_enter Tryz.func212,Tryz.ntmps212;go_wp2_with fail;clear c0;refine Zj EF Ec 15 Ec Ek EZ (wN w.heap.size gm) (EUA _ _) ?_ ?_
 ·simp only[U6,Il,Ij,EB,Ic,Ig,IJ,IU,and_true];refine⟨?_,?_,?_,?_,?_,?_,?_,?_,?_,?_,?_,?_,?_,?_,?_⟩;all_goals intro v w' hb hd
  ·exact EiU
  ·exact Eiq
  ·exact Eip
  ·have d2:v 2=V (X ⟨gm,2,Z⟩):=hd.at 2 rfl;refine JY (f:=202) (args:= #[v 2]) (Ei O) Ew ?_;rw[d2];exact(Bo gm 2 w').mono fun e w'' ⟨v,he,⟨gb,e2,lb,kb⟩,hb'⟩=>⟨v,he,hb',gb,e2,Ey (Ey BB.out.size hb.size) lb,kb⟩
  ·exact EiU
  ·exact Eio
  ·exact Ein
  ·exact EmV
  ·exact EiU
  ·exact EkP
  ·exact EkN
  ·have d10:v 10=V (X ⟨gm,4,Z⟩):=hd.at 10 rfl;refine JY (f:=206) (args:= #[v 10]) (Ei O) Ew ?_;rw[d10];exact(lO gm 4 w').mono fun e w'' ⟨v,he,⟨gb,e2,lb,kb⟩,hb'⟩=>⟨v,he,hb',gb,e2,Ey (Ey BB.out.size hb.size) lb,kb⟩
  ·obtain⟨g0,d3,l0,k0⟩:FV w' w.heap.size gm Ui (v 3):=hd.at 3 rfl;obtain⟨g1,d7,l1,k1⟩:FV w' w.heap.size gm I9 (v 7):=hd.at 7 rfl;obtain⟨g2,d11,l2,k2⟩:FV w' w.heap.size gm IC (v 11):=hd.at 11 rfl;refine ZG (w':=w'.alloc (EI (EY [(Ui,g0),(I9,g1),(IC,g2)]).toArray 298)) (v:=u (X ⟨w'.heap.size,0,Z⟩) 3 3) (Ei O) Br (Eo w' _) ⟨w'.heap.size,[(Ui,g0),(I9,g1),(IC,g2)],O,O,Ey BB.out.size hb.size,fun i hi=> ?_,D.new _ _ _⟩;match i,hi with
   |0,_=>exact⟨l0,D.alloc k0 _⟩
   |1,_=>exact⟨l1,D.alloc k1 _⟩
   |2,_=>exact⟨l2,D.alloc k2 _⟩
  ·obtain⟨gl,fs,e,m,lg,bx,kk⟩: ∃(gl:Nat) (fs:List (FD×Nat)),v 12=u (X ⟨gl,0,Z⟩) 3 3/\fs.map (·.1)=[Ui,I9,IC]/\w.heap.size<=gl/\Ji w' w.heap.size gm fs/\D w' gl (EY fs).toArray 298:=hd.at 12 rfl;exact EiT
  ·exact EiU
 ·intro v w' hb hr;obtain⟨gl,fs,e,m,lg,bx,kk⟩: ∃(gl:Nat) (fs:List (FD×Nat)),v 13=u (X ⟨gl,0,Z⟩) 3 3/\fs.map (·.1)=[Ui,I9,IC]/\w.heap.size<=gl/\Ji w' w.heap.size gm fs/\D w' gl (EY fs).toArray 298:=hr 13 U;have dt:v 14=Value.bool G:=hr 14 U;exact Eh2
def jl(w:H)(base:Nat)(A:Option Et)(gm cap:Nat)(fs:List (FD×Nat)):Prop:=w.ownsRow base 298 5 (u A fs.length cap) fs.length (EY fs)/\Ji w base gm fs
theorem jl.B(h:jl w base A gm cap fs)(hb:Eh w w'):jl w' base A gm cap fs:=
 ⟨jE (qZ (b0:=0) (T:=298) (N:=0) (ys:=[]) hb) h.1 fun j _ hj hlt=>absurd hj MP,h.2.B hb⟩
theorem EUC(w:H)(base gm:Nat):jl w base Z gm 0 []:=⟨⟨O,.inl ⟨O,O⟩⟩,fun i hi=>absurd hi Ek⟩
theorem jl.Bq(h:jl w base A gm cap fs)(hf:fs≠[]): ∃gl,A=X ⟨gl,0,Z⟩/\Uy w base gl gm fs:=by
 rcases h.1.2 with⟨h1,h2⟩|⟨g,cp,cur,hv,hbg,-⟩;·exact absurd (List.eq_nil_of_length_eq_zero h2) hf
 ·injection hv with e1 e2 e3;subst e1;exact⟨g,O,hbg,fun j Y3 hu=>by have:=h.1.cells (g:=g) O j Y3 hu;rwa [Bp] at this,h.2⟩
theorem jm(w:H)(base gm cap:Nat)(A:Option Et)(fs:List (FD×Nat))(n:Nat)(hn:fs.length=n)(h:jl w base A gm cap fs)(d:FD)(gb g1 c1:Nat)(hgb:base<=gb)(hbx:XO w d gm gb)(hk:D w g1 (EY [(d,gb)]).toArray 298)(hs:n<=1000)(hbase:base<=w.heap.size)(ty:Ez): ∃A' cap' w',(Builtin.append_ #[254,254] ty #[u A n cap,u (X ⟨g1,0,Z⟩) 1 c1]).run EJ w= .ok (u A' (n+1) cap') w'/\jl w' base A' gm cap' (fs++[(d,gb)])/\Below base w w':=by
 subst hn;obtain⟨i0,hi,hz0,hz1,hz2⟩:=info_parts MN
 obtain⟨A',cap',w',hrun,h2,h3,h4,-⟩:=a_ (P:=EJ) w base base 254 ty 298 i0 _ 5 40 Tryz.underlying254 hi hz0 hz1 hz2 O A cap fs.length _ h.1 ⟨g1,0,Z⟩ 1 c1 (EY [(d,gb)]) (qH _)
  (fun j Y3 hu=>MR) (ML _) (fun _=>U) Ob U hbase (E5 _)
 rw[<-MH] at h2;refine⟨A',cap',w',hrun,⟨MS,fun i hi=> ?_⟩,h3.2.1 hbase⟩;rcases Nat.lt_or_ge i fs.length with hlt|hge;·rw[List.getElem_append_left hlt];exact⟨(h.2 i hlt).1,XQ h3 (h.2 i hlt).2 (vT _)⟩
 ·exact Ekj
theorem EUD(gm:Nat)(l:List Int)(w:H)(hm:D w gm (IW l) 222)(hk:l.getD 0 0=129): Ef EJ 212 #[V (X ⟨gm,0,Z⟩)] w (XX w gm [IF 0,IF 1,IF 2,IF 3,IF 4,IF 5,IF 6,IF 7]):=by
 have c0:=hm.cell 0;rw[Zs _ _ U,if_neg U,hk] at c0;have BB:=J<|E6 w.heap.size w;have K0:=J<|EUC w w.heap.size gm;clear hm hk;go_enter Tryz.func212,Tryz.ntmps212;go_wp2_with fail;refine wp_loop_rounds 9 ?_;rw[Ib];go_wp2_with fail;(with_reducible refine(jk gm 6 _).mono ?_);rintro e x0 ⟨v0,rfl,⟨Z1,rfl,lb0,qK⟩,b0⟩;have Bs:=BB.out.size;replace K0:=J<|(K0.out.B b0).B (Eo x0 (EI (EY [(IF 0,Z1)]).toArray 298));have HA:=J<|D.new x0 (EY [(IF 0,Z1)]).toArray 298;have HB0:=J<|D.alloc qK (EI (EY [(IF 0,Z1)]).toArray 298);replace BB:=J<|bt (bt BB.out b0) (Eo x0 (EI (EY [(IF 0,Z1)]).toArray 298));clear b0 qK;unfold Iw;go_wp2_with (with_reducible refine I2 23 ?_);refine Ed.in ?_;change wpList _ _ _ _ _ (x0.alloc (EI (EY [(IF 0,Z1)]).toArray 298));have hz0:w.heap.size<=(x0.alloc (EI (EY [(IF 0,Z1)]).toArray 298)).heap.size:=BB.out.size;obtain⟨A1,cp1,y0,hrun,k,b⟩:=jm _ w.heap.size gm _ _ _ 0 rfl K0.out (IF 0) Z1 x0.heap.size 1 U HB0.out HA.out U hz0 254;(with_reducible refine JT ?_ (Ov (s:= .tmp 15) (y:= .tmp 22) ?_ ?_ ?_ hrun) ?_);·exact Ei O
 ·rfl
 ·rfl
 ·rfl
 have K1:=J k;replace BB:=J<|BB.out.trans b;clear k b hrun HA HB0 K0 hz0 Bs;go_wp2_with fail;rw[Ib];go_wp2_with fail;(with_reducible refine(jk gm 7 _).mono ?_);rintro e x1 ⟨v1,rfl,⟨Z3,rfl,lb1,qL⟩,b1⟩;have Bt:=BB.out.size;replace K1:=J<|(K1.out.B b1).B (Eo x1 (EI (EY [(IF 1,Z3)]).toArray 298));have HA:=J<|D.new x1 (EY [(IF 1,Z3)]).toArray 298;have HB1:=J<|D.alloc qL (EI (EY [(IF 1,Z3)]).toArray 298);replace BB:=J<|bt (bt BB.out b1) (Eo x1 (EI (EY [(IF 1,Z3)]).toArray 298));clear b1 qL;unfold Iw;go_wp2_with (with_reducible refine I2 23 ?_);refine Ed.in ?_;change wpList _ _ _ _ _ (x1.alloc (EI (EY [(IF 1,Z3)]).toArray 298));have hz1:w.heap.size<=(x1.alloc (EI (EY [(IF 1,Z3)]).toArray 298)).heap.size:=BB.out.size;obtain⟨A2,cp2,y1,hrun,k,b⟩:=jm _ w.heap.size gm _ _ _ 1 rfl K1.out (IF 1) Z3 x1.heap.size 1 U HB1.out HA.out U hz1 254;(with_reducible refine JT ?_ (Ov (s:= .tmp 15) (y:= .tmp 22) ?_ ?_ ?_ hrun) ?_);·exact Ei O
 ·rfl
 ·rfl
 ·rfl
 have K2:=J k;replace BB:=J<|BB.out.trans b;clear k b hrun HA HB1 K1 hz1 Bt;go_wp2_with fail;rw[Ib];go_wp2_with fail;(with_reducible refine(jk gm 8 _).mono ?_);rintro e x2 ⟨v2,rfl,⟨Z4,rfl,lb2,jg⟩,b2⟩;have Bu:=BB.out.size;replace K2:=J<|(K2.out.B b2).B (Eo x2 (EI (EY [(IF 2,Z4)]).toArray 298));have HA:=J<|D.new x2 (EY [(IF 2,Z4)]).toArray 298;have HB2:=J<|D.alloc jg (EI (EY [(IF 2,Z4)]).toArray 298);replace BB:=J<|bt (bt BB.out b2) (Eo x2 (EI (EY [(IF 2,Z4)]).toArray 298));clear b2 jg;unfold Iw;go_wp2_with (with_reducible refine I2 23 ?_);refine Ed.in ?_;change wpList _ _ _ _ _ (x2.alloc (EI (EY [(IF 2,Z4)]).toArray 298));have hz2:w.heap.size<=(x2.alloc (EI (EY [(IF 2,Z4)]).toArray 298)).heap.size:=BB.out.size;obtain⟨A3,cp3,y2,hrun,k,b⟩:=jm _ w.heap.size gm _ _ _ 2 rfl K2.out (IF 2) Z4 x2.heap.size 1 U HB2.out HA.out U hz2 254;(with_reducible refine JT ?_ (Ov (s:= .tmp 15) (y:= .tmp 22) ?_ ?_ ?_ hrun) ?_);·exact Ei O
 ·rfl
 ·rfl
 ·rfl
 have K3:=J k;replace BB:=J<|BB.out.trans b;clear k b hrun HA HB2 K2 hz2 Bu;go_wp2_with fail;rw[Ib];go_wp2_with fail;(with_reducible refine(jk gm 9 _).mono ?_);rintro e x3 ⟨v3,rfl,⟨Z5,rfl,lb3,qM⟩,b3⟩;have Bv:=BB.out.size;replace K3:=J<|(K3.out.B b3).B (Eo x3 (EI (EY [(IF 3,Z5)]).toArray 298));have HA:=J<|D.new x3 (EY [(IF 3,Z5)]).toArray 298;have HB3:=J<|D.alloc qM (EI (EY [(IF 3,Z5)]).toArray 298);replace BB:=J<|bt (bt BB.out b3) (Eo x3 (EI (EY [(IF 3,Z5)]).toArray 298));clear b3 qM;unfold Iw;go_wp2_with (with_reducible refine I2 23 ?_);refine Ed.in ?_;change wpList _ _ _ _ _ (x3.alloc (EI (EY [(IF 3,Z5)]).toArray 298));have hz3:w.heap.size<=(x3.alloc (EI (EY [(IF 3,Z5)]).toArray 298)).heap.size:=BB.out.size;obtain⟨A4,cp4,y3,hrun,k,b⟩:=jm _ w.heap.size gm _ _ _ 3 rfl K3.out (IF 3) Z5 x3.heap.size 1 U HB3.out HA.out U hz3 254;(with_reducible refine JT ?_ (Ov (s:= .tmp 15) (y:= .tmp 22) ?_ ?_ ?_ hrun) ?_);·exact Ei O
 ·rfl
 ·rfl
 ·rfl
 have K4:=J k;replace BB:=J<|BB.out.trans b;clear k b hrun HA HB3 K3 hz3 Bv;go_wp2_with fail;rw[Ib];go_wp2_with fail;(with_reducible refine(jk gm 10 _).mono ?_);rintro e x4 ⟨v4,rfl,⟨lu,rfl,lb4,NT⟩,b4⟩;have lx4:=BB.out.size;replace K4:=J<|(K4.out.B b4).B (Eo x4 (EI (EY [(IF 4,lu)]).toArray 298));have HA:=J<|D.new x4 (EY [(IF 4,lu)]).toArray 298;have NV:=J<|D.alloc NT (EI (EY [(IF 4,lu)]).toArray 298);replace BB:=J<|bt (bt BB.out b4) (Eo x4 (EI (EY [(IF 4,lu)]).toArray 298));clear b4 NT;unfold Iw;go_wp2_with (with_reducible refine I2 23 ?_);refine Ed.in ?_;change wpList _ _ _ _ _ (x4.alloc (EI (EY [(IF 4,lu)]).toArray 298));have cX:w.heap.size<=(x4.alloc (EI (EY [(IF 4,lu)]).toArray 298)).heap.size:=BB.out.size;obtain⟨A5,cp5,y4,hrun,k,b⟩:=jm _ w.heap.size gm _ _ _ 4 rfl K4.out (IF 4) lu x4.heap.size 1 U NV.out HA.out U cX 254;(with_reducible refine JT ?_ (Ov (s:= .tmp 15) (y:= .tmp 22) ?_ ?_ ?_ hrun) ?_);·exact Ei O
 ·rfl
 ·rfl
 ·rfl
 have K5:=J k;replace BB:=J<|BB.out.trans b;clear k b hrun HA NV K4 cX lx4;go_wp2_with fail;rw[Ib];go_wp2_with fail;(with_reducible refine(jk gm 11 _).mono ?_);rintro e x5 ⟨v5,rfl,⟨lv,rfl,lb5,NW⟩,b5⟩;have lx5:=BB.out.size;replace K5:=J<|(K5.out.B b5).B (Eo x5 (EI (EY [(IF 5,lv)]).toArray 298));have HA:=J<|D.new x5 (EY [(IF 5,lv)]).toArray 298;have rm:=J<|D.alloc NW (EI (EY [(IF 5,lv)]).toArray 298);replace BB:=J<|bt (bt BB.out b5) (Eo x5 (EI (EY [(IF 5,lv)]).toArray 298));clear b5 NW;unfold Iw;go_wp2_with (with_reducible refine I2 23 ?_);refine Ed.in ?_;change wpList _ _ _ _ _ (x5.alloc (EI (EY [(IF 5,lv)]).toArray 298));have cZ:w.heap.size<=(x5.alloc (EI (EY [(IF 5,lv)]).toArray 298)).heap.size:=BB.out.size;obtain⟨A6,cp6,y5,hrun,k,b⟩:=jm _ w.heap.size gm _ _ _ 5 rfl K5.out (IF 5) lv x5.heap.size 1 U rm.out HA.out U cZ 254;(with_reducible refine JT ?_ (Ov (s:= .tmp 15) (y:= .tmp 22) ?_ ?_ ?_ hrun) ?_);·exact Ei O
 ·rfl
 ·rfl
 ·rfl
 have K6:=J k;replace BB:=J<|BB.out.trans b;clear k b hrun HA rm K5 cZ lx5;go_wp2_with fail;rw[Ib];go_wp2_with fail;(with_reducible refine(jk gm 12 _).mono ?_);rintro e x6 ⟨v6,rfl,⟨lx,rfl,lb6,NY⟩,b6⟩;have lx6:=BB.out.size;replace K6:=J<|(K6.out.B b6).B (Eo x6 (EI (EY [(IF 6,lx)]).toArray 298));have HA:=J<|D.new x6 (EY [(IF 6,lx)]).toArray 298;have rp:=J<|D.alloc NY (EI (EY [(IF 6,lx)]).toArray 298);replace BB:=J<|bt (bt BB.out b6) (Eo x6 (EI (EY [(IF 6,lx)]).toArray 298));clear b6 NY;unfold Iw;go_wp2_with (with_reducible refine I2 23 ?_);refine Ed.in ?_;change wpList _ _ _ _ _ (x6.alloc (EI (EY [(IF 6,lx)]).toArray 298));have N0:w.heap.size<=(x6.alloc (EI (EY [(IF 6,lx)]).toArray 298)).heap.size:=BB.out.size;obtain⟨A7,cp7,y6,hrun,k,b⟩:=jm _ w.heap.size gm _ _ _ 6 rfl K6.out (IF 6) lx x6.heap.size 1 U rp.out HA.out U N0 254;(with_reducible refine JT ?_ (Ov (s:= .tmp 15) (y:= .tmp 22) ?_ ?_ ?_ hrun) ?_);·exact Ei O
 ·rfl
 ·rfl
 ·rfl
 have K7:=J k;replace BB:=J<|BB.out.trans b;clear k b hrun HA rp K6 N0 lx6;go_wp2_with fail;rw[Ib];go_wp2_with fail;(with_reducible refine(jk gm 13 _).mono ?_);rintro e x7 ⟨v7,rfl,⟨ly,rfl,lb7,N4⟩,b7⟩;have lx7:=BB.out.size;replace K7:=J<|(K7.out.B b7).B (Eo x7 (EI (EY [(IF 7,ly)]).toArray 298));have HA:=J<|D.new x7 (EY [(IF 7,ly)]).toArray 298;have rq:=J<|D.alloc N4 (EI (EY [(IF 7,ly)]).toArray 298);replace BB:=J<|bt (bt BB.out b7) (Eo x7 (EI (EY [(IF 7,ly)]).toArray 298));clear b7 N4;unfold Iw;go_wp2_with (with_reducible refine I2 23 ?_);refine Ed.in ?_;change wpList _ _ _ _ _ (x7.alloc (EI (EY [(IF 7,ly)]).toArray 298));have Ca:w.heap.size<=(x7.alloc (EI (EY [(IF 7,ly)]).toArray 298)).heap.size:=BB.out.size;obtain⟨A8,cp8,y7,hrun,k,b⟩:=jm _ w.heap.size gm _ _ _ 7 rfl K7.out (IF 7) ly x7.heap.size 1 U rq.out HA.out U Ca 254;(with_reducible refine JT ?_ (Ov (s:= .tmp 15) (y:= .tmp 22) ?_ ?_ ?_ hrun) ?_);·exact Ei O
 ·rfl
 ·rfl
 ·rfl
 have K8:=J k;replace BB:=J<|BB.out.trans b;clear k b hrun HA rq K7 Ca lx7;go_wp2_with fail;rw[Ib];go_wp2_with fail;go_ret2;obtain⟨gl,hA,hfl⟩:=K8.out.Bq Ek;subst hA;exact⟨_,_,_,O,O,hfl,BB.out⟩
section
variable{P:Program}
theorem N5{e:Ez}(he:P.underlying e=X (.int .u8))(d:Nat)(x y:List Int)(n:Nat)(hx:x.length=n)(hy:y.length=n)(W:H): ∀(m j:Nat),j+m<=n-> (Op.eqItems (d+1) e 1 (Ej x) (Ej y) (List.range' j m)).run P W= .ok ((List.range' j m).all fun i=>x.getD i 0==y.getD i 0) W
 |0,j,_=>by simp only[List.range'_zero,Op.eqItems,Sem.run_pure,List.all_nil]
 |m+1,j,h=>by
  have p1:=wU he (Ej x) j _ (gB x j U) W;have p2:=wU he (Ej y) j _ (gB y j U) W;rw[List.range'_succ,List.all_cons];simp only[Op.eqItems,Sem.run_bind,Nat.mul_one,p1,p2,Result.andThen_ok,run_equalIn_int W d e .u8 .u8 _ _ he];cases hb:(x.getD j 0==y.getD j 0);·exact Emn
  ·simp only[Bool.not_true,Bool.false_eq_true,if_false,Bool.true_and];exact N5 he d x y n hx hy W m (j+1) U
theorem EUL(x y:List Int)(n:Nat)(hx:x.length=n)(hy:y.length=n):((List.range n).all fun i=>x.getD i 0==y.getD i 0)=decide (x=y):=by
 rw[Bool.eq_iff_iff,decide_eq_true_iff,List.all_eq_true];constructor;·intro h;refine List.ext_getElem U fun i h1 h2=> ?_;have:=h i JJ;simpa[h1,h2] using this
 ·rintro rfl i _;simp
theorem EUM{t e:Ez}{n:Nat}{i:TypeInfo}(hu:P.underlying t=X (.array n e))(he:P.underlying e=X (.int .u8))(hc:P.cellsOf e=1)(hi:P.info? e=X i)(d:Nat)(x y:List Int)(hx:x.length=n)(hy:y.length=n)(W:H): (Op.equalIn (d+1+1) t (EU (Ej x)) (EU (Ej y))).run P W= .ok (decide (x=y)) W:=by rw[run_equalIn_array W (d+1) _ _ hu hi,hc,List.range_eq_range',N5 he d x y n hx hy W n 0 U,<-List.range_eq_range',EUL x y n hx hy]
end
theorem EUN: ∃i,Tryz.prog.info? 5=X i:=by obtain⟨i0,hi,-⟩:=info_parts iS;exact⟨i0,hi⟩
theorem EUP(gm:Nat)(l:List Int)(w:H)(k:Int)(hm:D w gm (IW l) 222)(hk:l.getD 0 0=k)(hn:hO k=Z): Ef EJ 212 #[V (X ⟨gm,0,Z⟩)] w fun e w'=>e=Eg (Es #[u Z 0 0,Eb Y])/\w=w':=by
 have c0:=hm.cell 0;rw[Zs _ _ U,if_neg U,hk] at c0
 have hne:k≠129/\k≠130/\k≠131/\k≠132/\k≠133/\k≠134/\k≠135/\k≠136:=by
  unfold hO at hn;repeat' split at hn
  all_goals first|(cases hn;done)|omega
 obtain⟨n129,n130,n131,n132,n133,n134,n135,n136⟩:=hne;have EgV:(k==129)=Y:=by simp[n129]
 have EgW:(k==130)=Y:=by simp[n130]
 have EgY:(k==131)=Y:=by simp[n131]
 have Eg0:(k==132)=Y:=by simp[n132]
 have Eg1:(k==133)=Y:=by simp[n133]
 have Eg2:(k==134)=Y:=by simp[n134]
 have Eg3:(k==135)=Y:=by simp[n135]
 have Eg4:(k==136)=Y:=by simp[n136]
 clear hm hk hn;go_enter Tryz.func212,Tryz.ntmps212;go_wp2_with fail;exact Emm
def Cv(w:H)(gm:Nat)(k:Int)(e:Ending)(w':H):Prop:=
 match hO k with
 |some ds=>XX w gm ds e w'
 |none=>e=Eg (Es #[u Z 0 0,Eb Y])/\w=w'
theorem EUQ(gm:Nat)(l:List Int)(w:H)(hm:D w gm (IW l) 222):Ef EJ 212 #[V (X ⟨gm,0,Z⟩)] w (Cv w gm (l.getD 0 0)):=by
 generalize hk:l.getD 0 0=k at*;by_cases EUR:k=129;·subst EUR;exact EUD gm l w hm hk
 by_cases EUS:k=130;·subst EUS;exact EUB gm l w hm hk
 by_cases EUT:k=131;·subst EUT;exact EUq gm l w hm hk
 by_cases EUV:k=132;·subst EUV;exact EUz gm l w hm hk
 by_cases EUW:k=133;·subst EUW;exact EUr gm l w hm hk
 by_cases EUY:k=134;·subst EUY;exact EUt gm l w hm hk
 by_cases EU0:k=135;·subst EU0;exact EUv gm l w hm hk
 by_cases EU1:k=136;·subst EU1;exact EUx gm l w hm hk
 have hn:hO k=Z:=by unfold hO;exact EmZ
 unfold Cv;rw[hn];exact EUP gm l w k hm hk hn
theorem EU2(a0 a1 a2 a3 a4 a5 a6 a7 a8 a9 Oq Jt a12 lA b0 b1 b2 b3 b4 b5 b6 b7 b8 b9 b10 b11 b12 b13:Int)(W:H): (binOp .neq 222 (EU #[E I a0,E I a1,E I a2,E I a3,E I a4,E I a5,E IB a6,E IB a7,E IB a8,E IB a9,E IB Oq,E IB Jt,E IB a12,E IB lA]) (EU #[E I b0,E I b1,E I b2,E I b3,E I b4,E I b5,E IB b6,E IB b7,E IB b8,E IB b9,E IB b10,E IB b11,E IB b12,E IB b13])).run EJ W= .ok (Eb (!decide (a0=b0/\a1=b1/\a2=b2/\a3=b3/\a4=b4/\a5=b5/\[a6,a7,a8,a9,Oq,Jt,a12,lA]=[b6,b7,b8,b9,b10,b11,b12,b13]))) W:=by
 obtain⟨i0,hi⟩:=EUN;have hx:=EUM Tryz.underlying115 Tryz.underlying5 Ec hi 9997 [a6,a7,a8,a9,Oq,Jt,a12,lA] [b6,b7,b8,b9,b10,b11,b12,b13] O O W;simp only[Ej,List.map_cons,List.map_nil,Nat.reduceAdd] at hx;by_cases e0:a0=b0
 ·by_cases e1:a1=b1
  ·by_cases e2:a2=b2
   ·by_cases e3:a3=b3
    ·by_cases e4:a4=b4
     ·by_cases e5:a5=b5
      ·by_cases e8:[a6,a7,a8,a9,Oq,Jt,a12,lA]=[b6,b7,b8,b9,b10,b11,b12,b13];·rw[Ia e8] at hx;simp only[List.cons.injEq,and_true] at e8;obtain⟨z6,z7,z8,z9,z10,z11,IZ,z13⟩:=e8;subst z6 z7 z8 z9 z10 z11 IZ z13;simp[go_sem,e0,e1,e2,e3,e4,e5,hx]
       ·rw[E9 e8] at hx;have e9:(!decide (a0=b0/\a1=b1/\a2=b2/\a3=b3/\a4=b4/\a5=b5/\[a6,a7,a8,a9,Oq,Jt,a12,lA]=[b6,b7,b8,b9,b10,b11,b12,b13]))=G:=by simp only[Bool.not_eq_true',decide_eq_false_iff_not];exact fun h=>e8 h.2.2.2.2.2.2
        rw[e9];simp[go_sem,e0,e1,e2,e3,e4,e5,hx]
      ·simp[go_sem,e0,e1,e2,e3,e4,e5]
     ·simp[go_sem,e0,e1,e2,e3,e4]
    ·simp[go_sem,e0,e1,e2,e3]
   ·simp[go_sem,e0,e1,e2]
  ·simp[go_sem,e0,e1]
 ·simp[go_sem,e0]
theorem EU6(x y:List Int)(hx:ay x)(hy:ay y)(W:H):(binOp .neq 222 (EU (IW x)) (EU (IW y))).run EJ W= .ok (Eb (!decide (x=y))) W:=by
 obtain⟨hx,-⟩:=hx;obtain⟨hy,-⟩:=hy;match x,hx with
 |[a0,a1,a2,a3,a4,a5,a6,a7,a8,a9,Oq,Jt,a12,lA],_=>
  match y,hy with
  |[b0,b1,b2,b3,b4,b5,b6,b7,b8,b9,b10,b11,b12,b13],_=> refine(EU2 a0 a1 a2 a3 a4 a5 a6 a7 a8 a9 Oq Jt a12 lA b0 b1 b2 b3 b4 b5 b6 b7 b8 b9 b10 b11 b12 b13 W).trans ?_;congr 3;rw[decide_eq_decide];simp
def lB(k:Int):List Int:=[k,0,0,0,0,0,0,0,0,0,0,0,0,0]
def jn(l:List Int):Option (List Int):=
 match hO (l.getD 0 0) with
 |none=>Z
 |some ds=>match Z6 ds l with
  |none=>Z
  |some ps=>if JH ds l=lB (l.getD 0 0) then X (l.getD 0 0::ps) else Z
structure FD.Cw(d:FD):Prop where
 ok:d.Cu
 off1:1<=d.off
 neg:d.lo<0-> -32768<=d.lo/\d.hi<=32767
 pos:0<=d.lo->1<=d.size/\d.size<=7/\d.hi<256^d.size.toNat
theorem EU7{k:Int}{ds:List FD}(h:hO k=X ds):129<=k/\k<=136/\ds.length<=8/\ ∀d∈ds,d.Cw:=by
 unfold hO at h;repeat' split at h
 all_goals first
  |(cases h;done)
  |(injection h with h
    subst h
    refine⟨U,U,EZ,fun d hd=> ?_⟩
    simp only[List.mem_cons,List.not_mem_nil,or_false] at hd)
 ·rcases hd with rfl|rfl|rfl|rfl|rfl|rfl|rfl|rfl<;>exact⟨⟨EZ,EZ,EZ⟩,EZ,EZ,EZ⟩
 ·rcases hd with rfl|rfl|rfl<;>exact⟨⟨EZ,EZ,EZ⟩,EZ,EZ,EZ⟩
 ·subst hd;exact⟨⟨EZ,EZ,EZ⟩,EZ,EZ,EZ⟩
 ·exact Ek8
 ·subst hd;exact⟨⟨EZ,EZ,EZ⟩,EZ,EZ,EZ⟩
 ·exact Ek8
 ·exact Ek8
theorem EU8{gl:Nat}{l:List Int}(h:Uy w base gl gm fs)(hl:ay l)(hm:D w gm (IW l) 222)(hd: ∀p∈fs,p.1.Cw): ∀a∈fs.map (wh l),a.ok/\bE w a.Y5 a.gp a.n:=by intro a ha;obtain⟨p,hp,rfl⟩:=List.mem_map.1 ha;have hg:=hd p hp;obtain⟨i,hi,he⟩:=List.getElem_of_mem hp;refine⟨⟨hg.neg,hg.pos⟩,YQ p.1,fun W hW=> ?_⟩;have hb:=(h.2.2 i hi).2;rw[he] at hb;exact EUo p.1 p.2 gm l W hg.ok hl (D.B hb hW) (hm.B hW)
theorem N6(ds:List FD)(l:List Int)(h:ay l):ay (JH ds l):=by
 refine⟨(wi ds l).trans h.1,fun i h6 hU=> ?_⟩;rcases EOU ds l i with h1|h1;·rw[h1];omega
 ·rw[h1];exact h.2 i h6 hU
theorem EU9(k:Int):ay (lB k):=by exact EjR
theorem EU_(k:Int):Tryz.prog.built 222 [(0,E I k)]=X (IW (lB k)):=Ec
def ry(l:List Int)(w:H)(e:Ending)(w':H):Prop:=
 (match jn l with
  |none=>e=Eg (Es #[u Z 0 0,E I 1])
  |some bs=> ∃A c base,e=Eg (Es #[u A bs.length c,E I 0])/\Own w' base A c bs)/\Eh w w'
theorem EXE(l:List Int)(w:H)(hl:ay l):Ef EJ 165 #[EU (IW l)] w (ry l w):=by
 have CF:=J<|fun W gm hm=>EUQ gm l W hm;have HL:=J hl;have hsz:Ea ((IW l).size=14):=J<|ls l;have hone:=J<|Ct l;clear hl;obtain⟨mv,hmv⟩:=En (IW l);obtain⟨k,hk⟩:=En (l.getD 0 0);rw[<-hmv] at hsz hone⊢;replace hmv:=J hmv;rw[<-hk] at CF;replace hk:=J hk;go_enter Tryz.func165,Tryz.ntmps165;go_wp2_with fail;have K1:=J<|D.new w mv 222;have BB:=J<|Eo w (EI mv 222);rw[hmv.out] at K1 BB⊢;generalize w.alloc (EI (IW l) 222)=w0 at*;have l0:=K1.out.lt;(with_reducible refine(CF.out _ _ K1.out).mono ?_);rintro e w1 hf;unfold Cv at hf;cases hfo:hO k with
 |none=>
  rw[hfo] at hf;obtain⟨rfl,rfl⟩:=hf;have hp:jn l=Z:=by unfold jn;rw[<-hk.out,hfo]
  replace hp:=J hp;clear hfo;exact Ena
 |some ds=>
  rw[hfo] at hf;obtain⟨gl,cp,fs,rfl,hds,hfl,b1⟩:=hf;obtain⟨k1,k11,hd7,hgood⟩:=EU7 hfo;have N7:=J hfo;have wj:=J hds;have FL:=J hfl;have HG:=J hgood;replace K1:=J<|K1.out.B b1;replace BB:=ET BB b1;have hlen:fs.length=ds.length:=Ng;have HN:=J hlen;have hgl:w.heap.size<gl:=by have:=hfl.1;omega
  have c0:=K1.out.cell 0;rw[Zs _ _ U,if_neg U,<-hk.out] at c0;have l1:=K1.out.lt;have Cx: ∀p∈fs,p.1.Cw:=fun p hp=>hgood _ (by rw[<-hds];exact List.mem_map_of_mem hp);have CP:=J<|EJY k (fs.map (wh l)) ds.length gl cp (by rw[List.length_map,hlen]) U U U w1 (fun W hW=>EOJ l (hfl.B hW)) (EU8 hfl HL.out K1.out Cx);have HG2:=J Cx;clear Cx;clear hfo hds hfl hgood b1 hlen;generalize hnl:ds.length=n at*;replace hnl:=J hnl;go_wp2_with fail;(with_reducible refine(CP.out).mono ?_);rintro e w2 ⟨rz,b2⟩;clear CP c0;rw[EOI,wj.out] at rz;have N8:=b2.size;replace K1:=J<|K1.out.B b2;replace FL:=J<|FL.out.B b2;replace BB:=ET BB b2;clear b2;cases hps:Z6 ds l with
  |none=>
   rw[hps] at rz;obtain rfl:=rz;have hp:jn l=Z:=by unfold jn;rw[<-hk.out,N7.out];simp only[hps]
   replace hp:=J hp;clear hps;exact Ena
  |some ps=>
   rw[hps] at rz;obtain⟨A,c,rfl,ho⟩:=rz;have wO:=J hps;have HO:=J ho;clear hps ho;go_wp2_with fail;go_loopw[26] (fun y wr=> ∃i:Nat,i<=n/\y=E I i/\D wr w.heap.size (IW (JH (ds.take i) l)) 222/\Uy wr w0.heap.size gl w.heap.size fs/\Own wr w1.heap.size A c (k::ps)/\Eh w wr) (fun y _=>n-(intOf y).toNat);case atStart=>exact⟨0,U,O,K1.out,FL.out,HO.out,BB.out⟩
   case round=>
    obtain⟨i,hi,rfl,hm,hfl,ho,hbb⟩:=hrel;have K1:=J hm;have FL:=J hfl;have HO:=J ho;have BB:=J hbb;have lr:=hm.lt;have lb:=hbb.size;clear hm hfl ho hbb;by_cases hin:i<n
    ·have hil:i<fs.length:=By;have hcell:=fun j hj=>FL.out.cells i hil j hj;have ld:=(FL.out.2.2 i hil).2;have hgd:=HG2.out _ (List.getElem_mem hil);have htk:ds.take (i+1)=ds.take i++[(fs[i]'hil).1]:=by have e1:ds[i]?=X (fs[i]'hil).1:=NZ;rw[List.take_add_one,e1];rfl
     generalize fs[i]'hil=p at*;obtain⟨d,gb⟩:=p;simp only at hcell ld hgd htk;have HT:=J htk;have qQ:=J ld;have CS:=J<|fun W (hb:XO W d w.heap.size gb) (hm:D W w.heap.size (IW (JH (ds.take i) l)) 222)=>EUp d gb w.heap.size (JH (ds.take i) l) 0 W hgd.ok (fun _=>U) (N6 _ _ HL.out) hb hm;have HE: ∀(args:Array M) (w:H),(callFunc d.set args).run EJ w= .ok (.enter d.set args) w:=Lm d;have c0:=hcell 0 U;have c1:=hcell 1 U;have c2:=hcell 2 U;have c3:=hcell 3 U;have c4:=hcell 4 U;simp only[Iw,Nat.add_zero] at c0 c1 c2 c3 c4;clear hcell ld hgd htk;have CU:=J<|da d gb;have hsz2:Ea ((Iw d gb).size=5):=J O;have t1:decide ((i:Int)<(n:Int))=G:=Ia U;go_wp2_with (with_reducible refine wA bS (Ed.mk ?_));refine Ed.in ?_;clear c0 c1 c2 c3 c4 t1;have K5:=J<|D.new wr Jh 298;have b5:=J<|Eo wr (EI Jh 298);generalize wr.alloc (EI Jh 298)=w4 at*;go_wp2_with (with_reducible refine wS (cs:=(Iw d gb)) UF K5 (Ed.mk ?_) (hn:=hsz2.out) (h1:=CU.out));refine Ed.in ?_;replace K5:=J<|K5.out.setRow (Iw d gb);replace b5:=J<|E2 (g:=wr.heap.size) b5.out U (Iw d gb);generalize w4.setRow wr.heap.size (Iw d gb)=w5 at*;replace K1:=J<|K1.out.B b5.out;replace FL:=J<|FL.out.B b5.out;replace HO:=J<|XF HO.out b5.out;replace BB:=ET BB b5.out;have qR:Ea (XO w5 d w.heap.size gb):=EN qQ b5.out;clear qQ;clear b5;have k4:=K5.out.cell 4;simp only[Iw,List.getElem?_toArray,List.getElem?_cons_succ,List.getElem?_cons_zero] at k4;have HK4:w5.cell? ⟨wr.heap.size,4,Z⟩=X (.func (.func d.set) #[] #[V (X ⟨gb,0,Z⟩)]):=k4;clear k4 K5;go_wp2_with fail;(with_reducible refine(CS.out _ qR.out K1.out).mono ?_);rintro e w6 ⟨rfl,N9,Cy,hs6,b6⟩;clear HK4 HE CS;replace K1:=J N9;replace FL:=J<|FL.out.keep U Cy;replace HO:=J<|EOO HO.out U Cy;replace BB:=J<|BB.out.trans b6;clear N9 Cy b6 qR;go_wp2_with fail;refine⟨⟨i+1,U,Ek,?_,FL.out,HO.out,BB.out⟩,JN⟩;rw[HT.out,EOX];exact K1.out
    ·obtain rfl:i=n:=U;have N_:ds.take i=ds:=by rw[<-hnl.out,List.take_length]
     rw[N_] at K1;have c0:=K1.out.cell 0;rw[Zs _ _ U,if_neg U,nT _ _ _ (fun d hd=>by have:=(HG.out d hd).off1;omega),<-hk.out] at c0;have NQ:=fun W=>EU6 (JH ds l) (lB k) (N6 ds l HL.out) (EU9 k) W;have hput:jn l=if JH ds l=lB k then X (k::ps) else Z:=by unfold jn;rw[<-hk.out,N7.out];simp only[wO.out]
     replace hput:=J hput;have zs:Ea ((IW (JH ds l)).size=14):=J<|ls _;have BM:=J<|EU_ k;have HKP:Ea ((k::ps).length=1+ps.length):=J (by rw[List.length_cons];omega);clear N_;generalize IW (JH ds l)=mz at*;generalize IW (lB k)=mk at*;have t1:decide ((i:Int)<(i:Int))=Y:=E9 U;by_cases hz:JH ds l=lB k;·rw[Ia hz] at NQ;rw[if_pos hz] at hput;clear hz;go_wp2_with (first|(with_reducible refine wL wC K1 ?_ (hn:=zs.out))|((with_reducible refine In 37 ?_);refine IP rfl 222 _ rfl mk BM.out ?_));go_ret2;unfold ry;rw[hput.out];exact⟨⟨A,c,_,by rw[HKP.out];rfl,HO.out⟩,BB.out⟩
     ·rw[E9 hz] at NQ;rw[if_neg hz] at hput;clear hz;go_wp2_with (first|(with_reducible refine wL wC K1 ?_ (hn:=zs.out))|((with_reducible refine In 37 ?_);refine IP rfl 222 _ rfl mk BM.out ?_));go_ret2;unfold ry;rw[hput.out];exact Elr
def Xr(n b:Int):Bool:=decide (0<=n/\n<b)
theorem wP{n b:Int}(h:Xr n b=G):0<=n/\n<b:=of_decide_eq_true h
theorem PJ(n b:Int)(w:H): Ef EJ 162 #[E I n,E I b] w fun e w'=>e=Eg (Eb (Xr n b))/\w=w':=by
 by_cases h:0<=n;·go_enter Tryz.func162,Tryz.ntmps162;go_wp2;go_ret;exact⟨ur (by unfold Xr;simp[h]),O⟩
 ·go_enter Tryz.func162,Tryz.ntmps162;go_wp2;go_ret;exact⟨ur (by unfold Xr;simp;omega),O⟩
theorem cg(n b:Int)(w:H)(h:Xr n b=G): Ef EJ 162 #[E I n,E I b] w fun e w'=>e=Eg (Eb G)/\w=w':=by have:=PJ n b w;rwa [h] at this
theorem lC(n b:Int)(w:H)(h:Xr n b=Y): Ef EJ 162 #[E I n,E I b] w fun e w'=>e=Eg (Eb Y)/\w=w':=by have:=PJ n b w;rwa [h] at this
def pn(g:Nat->M)(i:Nat):Int:=intOf (g i)
def hX(g:Nat->M)(source role:Int):Bool:=Xr source 5&&Xr role 4&&has (pn g (9+source.toNat)) role
def may(g:Nat->M)(mode role PU:Int):Bool:=Xr mode 5&&Xr role 4&&Xr PU 4&&has (pn g (14+mode.toNat*4+role.toNat)) PU
def dq(g:Nat->M)(from_ Zi:Int):Bool:=Xr from_ 5&&Xr Zi 5&&has (pn g (34+from_.toNat)) Zi
theorem PX(g:Nat->M)(s r:Int)(w:H)(hg: ∀i,9<=i->i<56->XH (g i)): Ef EJ 119 #[EU (EH 56 g),E I s,E I r] w fun e w'=>e=Eg (Eb (hX g s r))/\Eh w w':=by
 cases h1:Xr s 5;·have N1:=J h1;rw[show hX g s r=Y from by simp[hX,h1]];clear h1;go_enter Tryz.func119,Tryz.ntmps119;exact Ejz
 ·cases h2:Xr r 4;·have N1:=J h1;have N2:=J h2;rw[show hX g s r=Y from by simp[hX,h2]];clear h1 h2;go_enter Tryz.func119,Tryz.ntmps119;go_wp2_with fail;refine(cg _ _ _ N1.out).mono ?_;rintro e w' ⟨rfl,rfl⟩;go_wp2_with fail;refine(lC _ _ _ N2.out).mono ?_;rintro e w' ⟨rfl,rfl⟩;go_wp2;go_ret;exact⟨O,Eo _ _⟩
  ·have N1:=J h1;have N2:=J h2;obtain⟨k1,k2⟩:=wP h1;obtain⟨k,rfl⟩:=Int.eq_ofNat_of_zero_le k1;rw[show hX g k r=has (pn g (9+k)) r from by simp[hX,h1,h2]];have hlt:9+k<56:=U;obtain⟨e1,m1,m2⟩:=hg (9+k) U hlt;obtain⟨p1,hp1⟩:=JO (intOf (g (9+k)));rw[show pn g (9+k)=p1 from hp1];rw[hp1] at e1 m1 m2;obtain⟨b,hb⟩:=JO (has p1 r);have hh:=zr p1 r;rw[hb] at hh;have HH:=J hh;rw[hb];clear h1 h2 hp1 hg hb hh;go_enter Tryz.func119,Tryz.ntmps119;exact EmQ
theorem PZ(g:Nat->M)(s r:Int)(w:H)(hg: ∀i,9<=i->i<56->XH (g i)): Ef EJ 183 #[EU (EH 56 g),E I s,E I r] w fun e w'=>e=Eg (Eb (dq g s r))/\Eh w w':=by
 cases h1:Xr s 5;·have N1:=J h1;rw[show dq g s r=Y from by simp[dq,h1]];clear h1;go_enter Tryz.func183,Tryz.ntmps183;exact Ejz
 ·cases h2:Xr r 5;·have N1:=J h1;have N2:=J h2;rw[show dq g s r=Y from by simp[dq,h2]];clear h1 h2;go_enter Tryz.func183,Tryz.ntmps183;go_wp2_with fail;refine(cg _ _ _ N1.out).mono ?_;rintro e w' ⟨rfl,rfl⟩;go_wp2_with fail;refine(lC _ _ _ N2.out).mono ?_;rintro e w' ⟨rfl,rfl⟩;go_wp2;go_ret;exact⟨O,Eo _ _⟩
  ·have N1:=J h1;have N2:=J h2;obtain⟨k1,k2⟩:=wP h1;obtain⟨k,rfl⟩:=Int.eq_ofNat_of_zero_le k1;rw[show dq g k r=has (pn g (34+k)) r from by simp[dq,h1,h2]];have hlt:34+k<56:=U;obtain⟨e1,m1,m2⟩:=hg (34+k) U hlt;obtain⟨p1,hp1⟩:=JO (intOf (g (34+k)));rw[show pn g (34+k)=p1 from hp1];rw[hp1] at e1 m1 m2;obtain⟨b,hb⟩:=JO (has p1 r);have hh:=zr p1 r;rw[hb] at hh;have HH:=J hh;rw[hb];clear h1 h2 hp1 hg hb hh;go_enter Tryz.func183,Tryz.ntmps183;exact EmQ
theorem rA(g:Nat->M)(s r c:Int)(w:H)(hg: ∀i,9<=i->i<56->XH (g i)): Ef EJ 182 #[EU (EH 56 g),E I s,E I r,E I c] w fun e w'=>e=Eg (Eb (may g s r c))/\Eh w w':=by
 cases h1:Xr s 5;·have N1:=J h1;rw[show may g s r c=Y from by simp[may,h1]];clear h1;go_enter Tryz.func182,Tryz.ntmps182;exact Ejz
 ·cases h2:Xr r 4;·have N1:=J h1;have N2:=J h2;rw[show may g s r c=Y from by simp[may,h2]];clear h1 h2;go_enter Tryz.func182,Tryz.ntmps182;go_wp2_with fail;refine(cg _ _ _ N1.out).mono ?_;rintro e w' ⟨rfl,rfl⟩;go_wp2_with fail;refine(lC _ _ _ N2.out).mono ?_;rintro e w' ⟨rfl,rfl⟩;go_wp2;go_ret;exact⟨O,Eo _ _⟩
  ·cases h3:Xr c 4;·have N1:=J h1;have N2:=J h2;have N3:=J h3;rw[show may g s r c=Y from by simp[may,h3]];clear h1 h2 h3;go_enter Tryz.func182,Tryz.ntmps182;go_wp2_with fail;refine(cg _ _ _ N1.out).mono ?_;rintro e w' ⟨rfl,rfl⟩;go_wp2_with fail;refine(cg _ _ _ N2.out).mono ?_;rintro e w' ⟨rfl,rfl⟩;go_wp2_with fail;refine(lC _ _ _ N3.out).mono ?_;rintro e w' ⟨rfl,rfl⟩;go_wp2;go_ret;exact⟨O,Eo _ _⟩
   ·have N1:=J h1;have N2:=J h2;have N3:=J h3;obtain⟨k1,k2⟩:=wP h1;obtain⟨k,rfl⟩:=Int.eq_ofNat_of_zero_le k1;obtain⟨j1,j2⟩:=wP h2;obtain⟨j,rfl⟩:=Int.eq_ofNat_of_zero_le j1;rw[show may g k j c=has (pn g (14+k*4+j)) c from by simp[may,h1,h2,h3]];have hlt:14+k*4+j<56:=U;obtain⟨e1,m1,m2⟩:=hg (14+k*4+j) U hlt;obtain⟨p1,hp1⟩:=JO (intOf (g (14+k*4+j)));rw[show pn g (14+k*4+j)=p1 from hp1];rw[hp1] at e1 m1 m2;obtain⟨b,hb⟩:=JO (has p1 c);have hh:=zr p1 c;rw[hb] at hh;have HH:=J hh;rw[hb];clear h1 h2 h3 hp1 hg hb hh;go_enter Tryz.func182,Tryz.ntmps182;go_wp2_with fail;refine(cg _ _ _ N1.out).mono ?_;rintro e w' ⟨rfl,rfl⟩;go_wp2_with fail;refine(cg _ _ _ N2.out).mono ?_;rintro e w' ⟨rfl,rfl⟩;go_wp2_with fail;refine(cg _ _ _ N3.out).mono ?_;exact Ejd
def place(a b c d e s:Int):Int:=if a=s then 0 else if b=s then 1 else if c=s then 2 else if d=s then 3 else if e=s then 4 else-1
def Zt(g:Nat->M)(s:Int):Int:=place (pn g 0) (pn g 1) (pn g 2) (pn g 3) (pn g 4) s
def Cz(g:Nat->M)(a b:Int):Bool:=Zt g a != -1&&Zt g b != -1&&decide (Zt g a<Zt g b)
theorem EXO(a b c d e s:Int)(hp:0<=place a b c d e s\/place a b c d e s= -1)(h:a=s):place a b c d e s=0:=by
 unfold place at*;repeat' split at hp
 all_goals (repeat' split)
 all_goals first|rfl|omega
theorem EXU(a b c d e s:Int)(hp:0<=place a b c d e s\/place a b c d e s= -1)(h: ¬a=s):1<=place a b c d e s\/place a b c d e s= -1:=by
 unfold place at*;repeat' split at hp
 all_goals (repeat' split)
 all_goals omega
theorem EXX(a b c d e s:Int)(hp:1<=place a b c d e s\/place a b c d e s= -1)(h:b=s):place a b c d e s=1:=by
 unfold place at*;repeat' split at hp
 all_goals (repeat' split)
 all_goals first|rfl|omega
theorem EXZ(a b c d e s:Int)(hp:1<=place a b c d e s\/place a b c d e s= -1)(h: ¬b=s):2<=place a b c d e s\/place a b c d e s= -1:=by
 unfold place at*;repeat' split at hp
 all_goals (repeat' split)
 all_goals omega
theorem EXa(a b c d e s:Int)(hp:2<=place a b c d e s\/place a b c d e s= -1)(h:c=s):place a b c d e s=2:=by
 unfold place at*;repeat' split at hp
 all_goals (repeat' split)
 all_goals first|rfl|omega
theorem EXb(a b c d e s:Int)(hp:2<=place a b c d e s\/place a b c d e s= -1)(h: ¬c=s):3<=place a b c d e s\/place a b c d e s= -1:=by
 unfold place at*;repeat' split at hp
 all_goals (repeat' split)
 all_goals omega
theorem EXc(a b c d e s:Int)(hp:3<=place a b c d e s\/place a b c d e s= -1)(h:d=s):place a b c d e s=3:=by
 unfold place at*;repeat' split at hp
 all_goals (repeat' split)
 all_goals first|rfl|omega
theorem EXd(a b c d e s:Int)(hp:3<=place a b c d e s\/place a b c d e s= -1)(h: ¬d=s):4<=place a b c d e s\/place a b c d e s= -1:=by
 unfold place at*;repeat' split at hp
 all_goals (repeat' split)
 all_goals omega
theorem EXf(a b c d e s:Int)(hp:4<=place a b c d e s\/place a b c d e s= -1)(h:e=s):place a b c d e s=4:=by
 unfold place at*;repeat' split at hp
 all_goals (repeat' split)
 all_goals first|rfl|omega
theorem EXg(a b c d e s:Int)(hp:4<=place a b c d e s\/place a b c d e s= -1)(h: ¬e=s):5<=place a b c d e s\/place a b c d e s= -1:=by
 unfold place at*;repeat' split at hp
 all_goals (repeat' split)
 all_goals omega
theorem EXh(a b c d e s:Int)(hp:5<=place a b c d e s\/place a b c d e s= -1):place a b c d e s= -1:=by
 unfold place at*;repeat' split at hp
 all_goals (repeat' split)
 all_goals first|rfl|omega
theorem Pa(a b c d e s:Int)(w:H): Ef EJ 245 #[EU #[E I a,E I b,E I c,E I d,E I e],E I s] w fun e' w'=>e'=Eg (E I (place a b c d e s))/\Eh w w':=by
 have Y4:=J<|Eo w;have i0: ∀w,(Instr.index 337 (EU #[E I a,E I b,E I c,E I d,E I e]) (E I 0)).run EJ w= .ok (E I a) w:=fun _=>Ec;have i1: ∀w,(Instr.index 337 (EU #[E I a,E I b,E I c,E I d,E I e]) (E I 1)).run EJ w= .ok (E I b) w:=fun _=>Ec;have i2: ∀w,(Instr.index 337 (EU #[E I a,E I b,E I c,E I d,E I e]) (E I 2)).run EJ w= .ok (E I c) w:=fun _=>Ec;have i3: ∀w,(Instr.index 337 (EU #[E I a,E I b,E I c,E I d,E I e]) (E I 3)).run EJ w= .ok (E I d) w:=fun _=>Ec;have i4: ∀w,(Instr.index 337 (EU #[E I a,E I b,E I c,E I d,E I e]) (E I 4)).run EJ w= .ok (E I e) w:=fun _=>Ec;go_enter Tryz.func245,Tryz.ntmps245;go_wp2_with fail;go_loop [8] (fun y=> ∃k:Int,y=E I k/\0<=k/\k<=5/\Ea (k<=place a b c d e s\/place a b c d e s= -1)) (fun y=>5-(intOf y).toNat);case atStart=>exact⟨0,O,U,U,J (by unfold place;repeat' split;all_goals omega)⟩
 case round=>
  obtain⟨k,rfl,k0,k5,HK⟩:=hrel;rcases(show k=0\/k=1\/k=2\/k=3\/k=4\/k=5 from U) with rfl|rfl|rfl|rfl|rfl|rfl
  ·by_cases h:a=s;·have HP:=J<|EXO a b c d e s HK.out h;have hb:(a==s)=G:=Ou;clear h;go_wp2;go_ret;exact⟨fa HP.out.symm,Y4.out _⟩
   ·have HP:=J<|EXU a b c d e s HK.out h;have hb:(a==s)=Y:=Ou;clear h;go_wp2;exact⟨⟨1,O,U,U,HP⟩,Xl⟩
  ·by_cases h:b=s;·have HP:=J<|EXX a b c d e s HK.out h;have hb:(b==s)=G:=Ou;clear h;go_wp2;go_ret;exact⟨fa HP.out.symm,Y4.out _⟩
   ·have HP:=J<|EXZ a b c d e s HK.out h;have hb:(b==s)=Y:=Ou;clear h;go_wp2;exact⟨⟨2,O,U,U,HP⟩,Xl⟩
  ·by_cases h:c=s;·have HP:=J<|EXa a b c d e s HK.out h;have hb:(c==s)=G:=Ou;clear h;go_wp2;go_ret;exact⟨fa HP.out.symm,Y4.out _⟩
   ·have HP:=J<|EXb a b c d e s HK.out h;have hb:(c==s)=Y:=Ou;clear h;go_wp2;exact⟨⟨3,O,U,U,HP⟩,Xl⟩
  ·by_cases h:d=s;·have HP:=J<|EXc a b c d e s HK.out h;have hb:(d==s)=G:=Ou;clear h;go_wp2;go_ret;exact⟨fa HP.out.symm,Y4.out _⟩
   ·have HP:=J<|EXd a b c d e s HK.out h;have hb:(d==s)=Y:=Ou;clear h;go_wp2;exact⟨⟨4,O,U,U,HP⟩,Xl⟩
  ·by_cases h:e=s;·have HP:=J<|EXf a b c d e s HK.out h;have hb:(e==s)=G:=Ou;clear h;go_wp2;go_ret;exact⟨fa HP.out.symm,Y4.out _⟩
   ·have HP:=J<|EXg a b c d e s HK.out h;have hb:(e==s)=Y:=Ou;clear h;go_wp2;exact⟨⟨5,O,U,U,HP⟩,Xl⟩
  ·have HP:=J<|EXh a b c d e s HK.out;go_wp2;go_ret;exact⟨fa HP.out.symm,Y4.out _⟩
theorem fH{v:M}(h:XH v): ∃n,v=E I n/\intOf v=n:=⟨_,h.1,O⟩
theorem EXi(g:Nat->M)(s:Int)(w:H)(hg: ∀i,i<5->XH (g i)): Ef EJ 219 #[EU (EH 56 g),E I s] w fun e' w'=>e'=Eg (E I (Zt g s))/\Eh w w':=by obtain⟨a,e0,p0⟩:=fH (hg 0 U);obtain⟨b,e1,p1⟩:=fH (hg 1 U);obtain⟨c,e2,p2⟩:=fH (hg 2 U);obtain⟨d,e3,p3⟩:=fH (hg 3 U);obtain⟨e,e4,p4⟩:=fH (hg 4 U);rw[show Zt g s=place a b c d e s from Pb];clear hg p0 p1 p2 p3 p4;go_enter Tryz.func219,Tryz.ntmps219;go_wp2_with fail;refine(Pa a b c d e s _).mono ?_;rintro e' w1 ⟨rfl,b1⟩;go_wp2;go_ret;exact⟨O,Hg b1⟩
theorem EXj(g:Nat->M)(s t:Int)(w:H)(hg: ∀i,i<5->XH (g i)): Ef EJ 217 #[EU (EH 56 g),E I s,E I t] w fun e' w'=>e'=Eg (Eb (Cz g s t))/\Eh w w':=by
 obtain⟨a,e0,p0⟩:=fH (hg 0 U);obtain⟨b,e1,p1⟩:=fH (hg 1 U);obtain⟨c,e2,p2⟩:=fH (hg 2 U);obtain⟨d,e3,p3⟩:=fH (hg 3 U);obtain⟨e,e4,p4⟩:=fH (hg 4 U);have hr: ∀s,Zt g s=place a b c d e s:=fun s=>Pb;unfold Cz;rw[hr,hr];have C:=J<|Pa a b c d e;have B0:=J<|Eo w (EI (EH 56 g) 28);clear hg p0 p1 p2 p3 p4 hr;go_enter Tryz.func217,Tryz.ntmps217;go_wp2_with fail;go_cut[8,9] (fun Y3 v wx=>Y3=E I (place a b c d e s)/\v=E I (place a b c d e t)/\Eh w wx)
 case first=>
  go_region_with (go_at_call 245;refine(C.out _ _).mono ?_;rintro e' w1 ⟨rfl,b1⟩;(first|(have cc:=Hf b1;have b2:=J b1;clear b1)|(have cc:=Hf (Hh b1);have b2:=J (Hh b1);clear b1)|skip))
  all_goals
   go_wp2_with fail
   go_meet
   refine⟨O,O,?_⟩
  all_goals exact uw (Hg b2.out) b1 (E5 _)
 case rest=>
  obtain⟨rfl,rfl,hb⟩:=hcut;have HB:=J hb;clear hb;go_wp2_with fail
  all_goals
   go_ret
   refine⟨ur ?_,HB.out⟩
   first|rfl|simp_all
section
open Go.ChangeShapes Go.WideShapes
def Uz(w:H):Prop:= ∀i:Nat,i<12->w.cell? ⟨1,i,Z⟩=X (Eb (i==10||i==11))
theorem Uz.B(h:Uz w)(hb:Eh w w'):Uz w':=fun i hi=>by rw[hb.cell (World.block_lt_of_cell? _ _ (h i hi))];exact h i hi
def Pc(g:Nat->M)(holder JR source role mode kind Jn J2 J3:Int):Int:=
 if¬(kind=10\/kind=11) then 1 else if¬source=holder then 20 else if¬Jn=JR then 21
 else if may g mode role (if kind=10 then 0 else J3)=Y then 22 else if kind=10/\dq g mode J2=Y then 23 else 0
theorem EXk(g:Nat->M)(holder JR source role mode kind Jn J2 J3:Int)(t2 t3 t4 t5 t6 t7 m1 m2 m3 m7 m8 m9 m10 m11:M)(w:H)(hg: ∀i,9<=i->i<56->XH (g i))(hc:Uz w)(hk: ¬(kind=10\/kind=11)): Ef EJ 138 #[EU (EH 56 g),EU #[E I holder,E I JR,t2,t3,t4,t5,t6,t7],E I source,E I role,E I mode,EU #[E I kind,m1,m2,m3,E I Jn,E I J2,E I J3,m7,m8,m9,m10,m11]] w fun e w'=>e=Eg (E I 1)/\Eh w w':=by
 have Y4:=J<|X5 w;by_cases h0:kind<0;·exact Elu
 ·by_cases h1:12<=kind;·clear hc hg;go_enter Tryz.func138,Tryz.ntmps138;go_wp2;go_ret;exact⟨O,Y4.out _ _ _⟩
  ·obtain⟨k,rfl⟩:=Int.eq_ofNat_of_zero_le (show 0<=kind from U);have hcell:=hc k U;rw[show(k==10||k==11)=Y from JJ] at hcell;have hlt:1<w.heap.size:=World.block_lt_of_cell? _ _ hcell;have hz0:0<w.heap.size:=U;have hlt2:k<12:=U;exact Elu
theorem EXl(g:Nat->M)(holder JR source role mode kind Jn J2 J3:Int)(t2 t3 t4 t5 t6 t7 m1 m2 m3 m7 m8 m9 m10 m11:M)(w:H)(hg: ∀i,9<=i->i<56->XH (g i))(hc:Uz w)(hk:kind=10\/kind=11)(hs: ¬source=holder): Ef EJ 138 #[EU (EH 56 g),EU #[E I holder,E I JR,t2,t3,t4,t5,t6,t7],E I source,E I role,E I mode,EU #[E I kind,m1,m2,m3,E I Jn,E I J2,E I J3,m7,m8,m9,m10,m11]] w fun e w'=>e=Eg (E I 20)/\Eh w w':=by
 have Y4:=J<|X5 w;have HG:=J hg;have hcell:=hc 10 U;have hcell2:=hc 11 U;rw[show((10:Nat)==10||(10:Nat)==11)=G from rfl] at hcell;rw[show((11:Nat)==10||(11:Nat)==11)=G from rfl] at hcell2;have hlt:1<w.heap.size:=World.block_lt_of_cell? _ _ hcell;have hz0:0<w.heap.size:=U;clear hc hg;have hs':(source !=holder)=G:=dE;clear hs;rcases hk with rfl|rfl
 all_goals
  go_enter Tryz.func138,Tryz.ntmps138
  go_wp2
  go_ret
  exact⟨O,Y4.out _ _ _⟩
theorem EXm(g:Nat->M)(holder JR source role mode kind Jn J2 J3:Int)(t2 t3 t4 t5 t6 t7 m1 m2 m3 m7 m8 m9 m10 m11:M)(w:H)(hg: ∀i,9<=i->i<56->XH (g i))(hc:Uz w)(hk:kind=10\/kind=11)(hs:source=holder)(he: ¬Jn=JR): Ef EJ 138 #[EU (EH 56 g),EU #[E I holder,E I JR,t2,t3,t4,t5,t6,t7],E I source,E I role,E I mode,EU #[E I kind,m1,m2,m3,E I Jn,E I J2,E I J3,m7,m8,m9,m10,m11]] w fun e w'=>e=Eg (E I 21)/\Eh w w':=by
 have Y4:=J<|X5 w;have HG:=J hg;have hcell:=hc 10 U;have hcell2:=hc 11 U;rw[show((10:Nat)==10||(10:Nat)==11)=G from rfl] at hcell;rw[show((11:Nat)==10||(11:Nat)==11)=G from rfl] at hcell2;have hlt:1<w.heap.size:=World.block_lt_of_cell? _ _ hcell;have hz0:0<w.heap.size:=U;clear hc hg;have hs':(Jn !=JR)=G:=by simpa using he
 clear he;subst hs;rcases hk with rfl|rfl
 all_goals
  go_enter Tryz.func138,Tryz.ntmps138
  go_wp2
  go_ret
  exact⟨O,Y4.out _ _ _⟩
theorem CY{a b c:Obj}(h:Below (((w.alloc a).alloc b).alloc c).heap.size (((w.alloc a).alloc b).alloc c) w'): w'.heap[w.heap.size]?=X a/\w'.heap[w.heap.size+1]?=X b/\w'.heap[w.heap.size+2]?=X c/\Eh w w':=by
 refine⟨Uu ?_ h,Uu ?_ h,Uu ?_ h,bt (X5 w a b c) h⟩;·exact Uu (heap_alloc2_old w a b) (Eo _ _)
 ·exact Uu (heap_alloc2_new w a b) (Eo _ _)
 ·have:=heap_alloc_new ((w.alloc a).alloc b) c;exact Ek_
theorem EXn(g:Nat->M)(holder JR source role mode kind Jn J2 J3:Int)(t2 t3 t4 t5 t6 t7 m1 m2 m3 m7 m8 m9 m10 m11:M)(w:H)(hg: ∀i,9<=i->i<56->XH (g i))(hc:Uz w)(hk:kind=10)(hs:source=holder)(he:Jn=JR)(hm:may g mode role 0=Y): Ef EJ 138 #[EU (EH 56 g),EU #[E I holder,E I JR,t2,t3,t4,t5,t6,t7],E I source,E I role,E I mode,EU #[E I kind,m1,m2,m3,E I Jn,E I J2,E I J3,m7,m8,m9,m10,m11]] w fun e w'=>e=Eg (E I 22)/\Eh w w':=by
 have Y4:=J<|X5 w;have HG:=J hg;have hcell:=hc 10 U;have hcell2:=hc 11 U;rw[show((10:Nat)==10||(10:Nat)==11)=G from rfl] at hcell;rw[show((11:Nat)==10||(11:Nat)==11)=G from rfl] at hcell2;have hlt:1<w.heap.size:=World.block_lt_of_cell? _ _ hcell;have hz0:0<w.heap.size:=U;clear hc hg;have HM:=J hm;clear hm;subst hs he hk;have Q0:=J<|show(((w.alloc (EI (EH 56 g) 28)).alloc (EI #[E I source,E I Jn,t2,t3,t4,t5,t6,t7] 109)).alloc (EI #[E I 10,m1,m2,m3,E I Jn,E I J2,E I J3,m7,m8,m9,m10,m11] 183)).heap[w.heap.size]?=X (EI (EH 56 g) 28 (0,0)) from Uu (heap_alloc2_old w _ _) (Eo _ _);go_enter Tryz.func138,Tryz.ntmps138
 go_wp2_with (first
  |((with_reducible refine dI 28 ?_);refine kC rfl _ rfl w.heap.size g Q0 rfl ?_)
  |fail)
 refine(rA _ _ _ _ _ HG.out).mono ?_;exact Eln
theorem EXo(g:Nat->M)(holder JR source role mode kind Jn J2 J3:Int)(t2 t3 t4 t5 t6 t7 m1 m2 m3 m7 m8 m9 m10 m11:M)(w:H)(hg: ∀i,9<=i->i<56->XH (g i))(hc:Uz w)(hk:kind=11)(hs:source=holder)(he:Jn=JR)(hm:may g mode role J3=Y): Ef EJ 138 #[EU (EH 56 g),EU #[E I holder,E I JR,t2,t3,t4,t5,t6,t7],E I source,E I role,E I mode,EU #[E I kind,m1,m2,m3,E I Jn,E I J2,E I J3,m7,m8,m9,m10,m11]] w fun e w'=>e=Eg (E I 22)/\Eh w w':=by
 have Y4:=J<|X5 w;have HG:=J hg;have hcell:=hc 10 U;have hcell2:=hc 11 U;rw[show((10:Nat)==10||(10:Nat)==11)=G from rfl] at hcell;rw[show((11:Nat)==10||(11:Nat)==11)=G from rfl] at hcell2;have hlt:1<w.heap.size:=World.block_lt_of_cell? _ _ hcell;have hz0:0<w.heap.size:=U;clear hc hg;have HM:=J hm;clear hm;subst hs he hk;have Q0:=J<|show(((w.alloc (EI (EH 56 g) 28)).alloc (EI #[E I source,E I Jn,t2,t3,t4,t5,t6,t7] 109)).alloc (EI #[E I 11,m1,m2,m3,E I Jn,E I J2,E I J3,m7,m8,m9,m10,m11] 183)).heap[w.heap.size]?=X (EI (EH 56 g) 28 (0,0)) from Uu (heap_alloc2_old w _ _) (Eo _ _);go_enter Tryz.func138,Tryz.ntmps138
 go_wp2_with (first
  |((with_reducible refine dI 28 ?_);refine kC rfl _ rfl w.heap.size g Q0 rfl ?_)
  |fail)
 refine(rA _ _ _ _ _ HG.out).mono ?_;exact Eln
theorem EXp(g:Nat->M)(holder JR source role mode kind Jn J2 J3:Int)(t2 t3 t4 t5 t6 t7 m1 m2 m3 m7 m8 m9 m10 m11:M)(w:H)(hg: ∀i,9<=i->i<56->XH (g i))(hc:Uz w)(hk:kind=11)(hs:source=holder)(he:Jn=JR)(hm:may g mode role J3=G): Ef EJ 138 #[EU (EH 56 g),EU #[E I holder,E I JR,t2,t3,t4,t5,t6,t7],E I source,E I role,E I mode,EU #[E I kind,m1,m2,m3,E I Jn,E I J2,E I J3,m7,m8,m9,m10,m11]] w fun e w'=>e=Eg (E I 0)/\Eh w w':=by
 have Y4:=J<|X5 w;have HG:=J hg;have hcell:=hc 10 U;have hcell2:=hc 11 U;rw[show((10:Nat)==10||(10:Nat)==11)=G from rfl] at hcell;rw[show((11:Nat)==10||(11:Nat)==11)=G from rfl] at hcell2;have hlt:1<w.heap.size:=World.block_lt_of_cell? _ _ hcell;have hz0:0<w.heap.size:=U;clear hc hg;have HM:=J hm;clear hm;subst hs he hk;have Q0:=J<|show(((w.alloc (EI (EH 56 g) 28)).alloc (EI #[E I source,E I Jn,t2,t3,t4,t5,t6,t7] 109)).alloc (EI #[E I 11,m1,m2,m3,E I Jn,E I J2,E I J3,m7,m8,m9,m10,m11] 183)).heap[w.heap.size]?=X (EI (EH 56 g) 28 (0,0)) from Uu (heap_alloc2_old w _ _) (Eo _ _);go_enter Tryz.func138,Tryz.ntmps138
 go_wp2_with (first
  |((with_reducible refine dI 28 ?_);refine kC rfl _ rfl w.heap.size g Q0 rfl ?_)
  |fail)
 refine(rA _ _ _ _ _ HG.out).mono ?_;rintro e w1 ⟨rfl,b1⟩;rw[HM.out];clear Q0;obtain⟨q0,q1,q2,b2⟩:=CY b1;obtain⟨c2,-⟩:=I6 q2;have BB:=J b2;clear q0 q1 q2 b1 b2;go_wp2;go_ret;exact Elr
theorem EXq(g:Nat->M)(holder JR source role mode kind Jn J2 J3:Int)(t2 t3 t4 t5 t6 t7 m1 m2 m3 m7 m8 m9 m10 m11:M)(w:H)(hg: ∀i,9<=i->i<56->XH (g i))(hc:Uz w)(hk:kind=10)(hs:source=holder)(he:Jn=JR)(hm:may g mode role 0=G)(hn:dq g mode J2=Y): Ef EJ 138 #[EU (EH 56 g),EU #[E I holder,E I JR,t2,t3,t4,t5,t6,t7],E I source,E I role,E I mode,EU #[E I kind,m1,m2,m3,E I Jn,E I J2,E I J3,m7,m8,m9,m10,m11]] w fun e w'=>e=Eg (E I 23)/\Eh w w':=by
 have Y4:=J<|X5 w;have HG:=J hg;have hcell:=hc 10 U;have hcell2:=hc 11 U;rw[show((10:Nat)==10||(10:Nat)==11)=G from rfl] at hcell;rw[show((11:Nat)==10||(11:Nat)==11)=G from rfl] at hcell2;have hlt:1<w.heap.size:=World.block_lt_of_cell? _ _ hcell;have hz0:0<w.heap.size:=U;clear hc hg;have HM:=J hm;have HN:=J hn;clear hm hn;subst hs he hk;have Q0:=J<|show(((w.alloc (EI (EH 56 g) 28)).alloc (EI #[E I source,E I Jn,t2,t3,t4,t5,t6,t7] 109)).alloc (EI #[E I 10,m1,m2,m3,E I Jn,E I J2,E I J3,m7,m8,m9,m10,m11] 183)).heap[w.heap.size]?=X (EI (EH 56 g) 28 (0,0)) from Uu (heap_alloc2_old w _ _) (Eo _ _);go_enter Tryz.func138,Tryz.ntmps138
 go_wp2_with (first
  |((with_reducible refine dI 28 ?_);refine kC rfl _ rfl w.heap.size g Q0 rfl ?_)
  |fail)
 refine(rA _ _ _ _ _ HG.out).mono ?_;rintro e w1 ⟨rfl,b1⟩;rw[HM.out];clear Q0;obtain⟨q0,q1,q2,b2⟩:=CY b1;obtain⟨c2,-⟩:=I6 q2;have BB:=J b2;have Q0:=J q0;clear q0 q1 q2 b1 b2
 go_wp2_with (first
  |((with_reducible refine dI 28 ?_);refine kC rfl _ rfl w.heap.size g Q0 rfl ?_)
  |(go_at_call 183;refine(PZ _ _ _ _ HG.out).mono ?_;rintro e w2 ⟨rfl,b2⟩;have BB:=ET BB b2;clear b2;rw[HN.out]))
 go_ret;exact Elr
theorem EXr(g:Nat->M)(holder JR source role mode kind Jn J2 J3:Int)(t2 t3 t4 t5 t6 t7 m1 m2 m3 m7 m8 m9 m10 m11:M)(w:H)(hg: ∀i,9<=i->i<56->XH (g i))(hc:Uz w)(hk:kind=10)(hs:source=holder)(he:Jn=JR)(hm:may g mode role 0=G)(hn:dq g mode J2=G): Ef EJ 138 #[EU (EH 56 g),EU #[E I holder,E I JR,t2,t3,t4,t5,t6,t7],E I source,E I role,E I mode,EU #[E I kind,m1,m2,m3,E I Jn,E I J2,E I J3,m7,m8,m9,m10,m11]] w fun e w'=>e=Eg (E I 0)/\Eh w w':=by
 have Y4:=J<|X5 w;have HG:=J hg;have hcell:=hc 10 U;have hcell2:=hc 11 U;rw[show((10:Nat)==10||(10:Nat)==11)=G from rfl] at hcell;rw[show((11:Nat)==10||(11:Nat)==11)=G from rfl] at hcell2;have hlt:1<w.heap.size:=World.block_lt_of_cell? _ _ hcell;have hz0:0<w.heap.size:=U;clear hc hg;have HM:=J hm;have HN:=J hn;clear hm hn;subst hs he hk;have Q0:=J<|show(((w.alloc (EI (EH 56 g) 28)).alloc (EI #[E I source,E I Jn,t2,t3,t4,t5,t6,t7] 109)).alloc (EI #[E I 10,m1,m2,m3,E I Jn,E I J2,E I J3,m7,m8,m9,m10,m11] 183)).heap[w.heap.size]?=X (EI (EH 56 g) 28 (0,0)) from Uu (heap_alloc2_old w _ _) (Eo _ _);go_enter Tryz.func138,Tryz.ntmps138
 go_wp2_with (first
  |((with_reducible refine dI 28 ?_);refine kC rfl _ rfl w.heap.size g Q0 rfl ?_)
  |fail)
 refine(rA _ _ _ _ _ HG.out).mono ?_;rintro e w1 ⟨rfl,b1⟩;rw[HM.out];clear Q0;obtain⟨q0,q1,q2,b2⟩:=CY b1;obtain⟨c2,-⟩:=I6 q2;have BB:=J b2;have Q0:=J q0;clear q0 q1 q2 b1 b2
 go_wp2_with (first
  |((with_reducible refine dI 28 ?_);refine kC rfl _ rfl w.heap.size g Q0 rfl ?_)
  |(go_at_call 183;refine(PZ _ _ _ _ HG.out).mono ?_;rintro e w2 ⟨rfl,b2⟩;have BB:=ET BB b2;clear b2;rw[HN.out]))
 go_ret;exact Elr
theorem Pd(g:Nat->M)(holder JR source role mode kind Jn J2 J3:Int)(t2 t3 t4 t5 t6 t7 m1 m2 m3 m7 m8 m9 m10 m11:M)(w:H)(hg: ∀i,9<=i->i<56->XH (g i))(hc:Uz w): Ef EJ 138 #[EU (EH 56 g),EU #[E I holder,E I JR,t2,t3,t4,t5,t6,t7],E I source,E I role,E I mode,EU #[E I kind,m1,m2,m3,E I Jn,E I J2,E I J3,m7,m8,m9,m10,m11]] w fun e w'=>e=Eg (E I (Pc g holder JR source role mode kind Jn J2 J3))/\Eh w w':=by
 unfold Pc;by_cases hk:kind=10\/kind=11
 ·rw[if_neg (fun h=>h hk)];by_cases hs:source=holder
  ·rw[if_neg (fun h=>h hs)];by_cases he:Jn=JR
   ·rw[if_neg (fun h=>h he)];rcases hk with hk|hk
    ·rw[if_pos hk];cases hm:may g mode role 0;·rw[if_pos O];exact EXn g holder JR source role mode kind Jn J2 J3 t2 t3 t4 t5 t6 t7 m1 m2 m3 m7 m8 m9 m10 m11 w hg hc hk hs he hm
     ·rw[if_neg Ek];cases hn:dq g mode J2;·rw[if_pos ⟨hk,O⟩];exact EXq g holder JR source role mode kind Jn J2 J3 t2 t3 t4 t5 t6 t7 m1 m2 m3 m7 m8 m9 m10 m11 w hg hc hk hs he hm hn
      ·rw[if_neg Ek];exact EXr g holder JR source role mode kind Jn J2 J3 t2 t3 t4 t5 t6 t7 m1 m2 m3 m7 m8 m9 m10 m11 w hg hc hk hs he hm hn
    ·rw[if_neg (show¬kind=10 from U)];cases hm:may g mode role J3;·rw[if_pos O];exact EXo g holder JR source role mode kind Jn J2 J3 t2 t3 t4 t5 t6 t7 m1 m2 m3 m7 m8 m9 m10 m11 w hg hc hk hs he hm
     ·rw[if_neg Ek,if_neg U];exact EXp g holder JR source role mode kind Jn J2 J3 t2 t3 t4 t5 t6 t7 m1 m2 m3 m7 m8 m9 m10 m11 w hg hc hk hs he hm
   ·rw[if_pos he];exact EXm g holder JR source role mode kind Jn J2 J3 t2 t3 t4 t5 t6 t7 m1 m2 m3 m7 m8 m9 m10 m11 w hg hc hk hs he
  ·rw[if_pos hs];exact EXl g holder JR source role mode kind Jn J2 J3 t2 t3 t4 t5 t6 t7 m1 m2 m3 m7 m8 m9 m10 m11 w hg hc hk hs
 ·rw[if_pos hk];exact EXk g holder JR source role mode kind Jn J2 J3 t2 t3 t4 t5 t6 t7 m1 m2 m3 m7 m8 m9 m10 m11 w hg hc hk
end
def ZI(n:Int):Prop:= -9223372036854775808<=n/\n<=9223372036854775807
theorem wQ{n a r:Int}(hn:ZI n)(ha:ZI a)(hr:ZI r):ZI (Jf n a r):=by
 unfold ZI Jf at*;repeat' split
 all_goals omega
theorem wR:ID EJ 50 12:=⟨⟨_,Tryz.underlying50,O⟩,Ec⟩
theorem EXs(f:Nat->M)(c a0 a1 a2 a3 n0 n1 n2 n3 ru so se r:Int)(w:H)(hr:f 54=E I r)(ir:ZI r)(C_:ZI a0)(DE:ZI a1)(DI:ZI a2)(DJ:ZI a3)(DO:ZI n0)(DU:ZI n1)(DX:ZI n2)(DZ:ZI n3)(b:Bool)(hm:decide ((Jf n0 a0 r)=n0/\(Jf n1 a1 r)=n1/\(Jf n2 a2 r)=n2/\(Jf n3 a3 r)=n3)=b): Ef EJ 107 #[EU (EH 56 f),EU #[E I c,E I a0,E I a1,E I a2,E I a3,E I n0,E I n1,E I n2,E I n3,E I ru,E I so,E I se]] w fun e w'=>e=Eg (EU #[E I c,E I a0,E I a1,E I a2,E I a3,E I (Jf n0 a0 r),E I (Jf n1 a1 r),E I (Jf n2 a2 r),E I (Jf n3 a3 r),E I (if b then ru else 4),E I so,E I se])/\Eh w w':=by
 have j0: ∀w,(Instr.index 25 (EU #[E I a0,E I a1,E I a2,E I a3]) (E I 0)).run EJ w= .ok (E I a0) w:=fun _=>Ec;have j1: ∀w,(Instr.index 25 (EU #[E I a0,E I a1,E I a2,E I a3]) (E I 1)).run EJ w= .ok (E I a1) w:=fun _=>Ec;have j2: ∀w,(Instr.index 25 (EU #[E I a0,E I a1,E I a2,E I a3]) (E I 2)).run EJ w= .ok (E I a2) w:=fun _=>Ec;have j3: ∀w,(Instr.index 25 (EU #[E I a0,E I a1,E I a2,E I a3]) (E I 3)).run EJ w= .ok (E I a3) w:=fun _=>Ec;have C0:=J (us n0 a0 r · DO.1 DO.2 C_.1 C_.2 ir.1 ir.2);have C1:=J (us n1 a1 r · DU.1 DU.2 DE.1 DE.2 ir.1 ir.2);have C2:=J (us n2 a2 r · DX.1 DX.2 DI.1 DI.2 ir.1 ir.2);have C3:=J (us n3 a3 r · DZ.1 DZ.2 DJ.1 DJ.2 ir.1 ir.2);have HM:=J hm;have hneq:=EJ4 (Jf n0 a0 r) (Jf n1 a1 r) (Jf n2 a2 r) (Jf n3 a3 r) n0 n1 n2 n3;rw[hm] at hneq;clear hm;have hl:(54:Nat)<56:=U;clear ir C_ DE DI DJ DO DU DX DZ;go_enter Tryz.func107,Tryz.ntmps107;go_wp2_with fail;go_loopw[12] (fun y wr=> ∃k:Int,y=E I k/\0<=k/\k<=4/\wr.heap[w.heap.size]?=X (EI (EH 56 f) 28 (0,0))/\wr.heap[w.heap.size+1]?=X (EI (if k=0 then#[E I c,E I a0,E I a1,E I a2,E I a3,E I n0,E I n1,E I n2,E I n3,E I ru,E I so,E I se] else if k=1 then#[E I c,E I a0,E I a1,E I a2,E I a3,E I (Jf n0 a0 r),E I n1,E I n2,E I n3,E I ru,E I so,E I se] else if k=2 then#[E I c,E I a0,E I a1,E I a2,E I a3,E I (Jf n0 a0 r),E I (Jf n1 a1 r),E I n2,E I n3,E I ru,E I so,E I se] else if k=3 then#[E I c,E I a0,E I a1,E I a2,E I a3,E I (Jf n0 a0 r),E I (Jf n1 a1 r),E I (Jf n2 a2 r),E I n3,E I ru,E I so,E I se] else#[E I c,E I a0,E I a1,E I a2,E I a3,E I (Jf n0 a0 r),E I (Jf n1 a1 r),E I (Jf n2 a2 r),E I (Jf n3 a3 r),E I ru,E I so,E I se]) 50 (0,0))/\wr.heap[w.heap.size+1+1]?=X (EI #[E I 0,E I 0,E I 0,E I 0,E I 0,E I 0,E I 0,E I 0,E I 0,E I 0,E I 0,E I 0] 50 (0,0))/\wr.heap[w.heap.size+1+1+1]?=X (EI #[E I n0,E I n1,E I n2,E I n3] 25 (0,0))/\Eh w wr) (fun y _=>4-(intOf y).toNat)
 case atStart=>
  refine⟨0,O,U,U,?_,?_,?_,?_,?_⟩;·exact Uu (Uu (heap_alloc2_old w _ _) (Eo _ _)) (Eo _ _)
  ·exact Uu (Uu (heap_alloc2_new w _ _) (Eo _ _)) (Eo _ _)
  ·exact Uu (by have:=heap_alloc_new ((w.alloc (EI (EH 56 f) 28)).alloc (EI #[E I c,E I a0,E I a1,E I a2,E I a3,E I n0,E I n1,E I n2,E I n3,E I ru,E I so,E I se] 50)) (EI #[E I 0,E I 0,E I 0,E I 0,E I 0,E I 0,E I 0,E I 0,E I 0,E I 0,E I 0,E I 0] 50);simpa using this) (Eo _ _)
  ·have:=heap_alloc_new (((w.alloc (EI (EH 56 f) 28)).alloc (EI #[E I c,E I a0,E I a1,E I a2,E I a3,E I n0,E I n1,E I n2,E I n3,E I ru,E I so,E I se] 50)).alloc (EI #[E I 0,E I 0,E I 0,E I 0,E I 0,E I 0,E I 0,E I 0,E I 0,E I 0,E I 0,E I 0] 50)) (EI #[E I n0,E I n1,E I n2,E I n3] 25);exact Ek_
  ·exact bt (X5 w _ _ _) (Eo _ _)
 case round=>
  obtain⟨k,rfl,k0,k4,hp,hq,hz,hn,hb⟩:=hrel;have HP:=J hp;have HN:=J hn;have HB:=J hb;have HZ:=J hz;obtain⟨cP,-⟩:=I6 hp;obtain⟨cN,-⟩:=I6 hn;clear hp hn hb hz;rcases(show k=0\/k=1\/k=2\/k=3\/k=4 from U) with rfl|rfl|rfl|rfl|rfl
  ·simp only[if_true,reduceIte] at hq;obtain⟨cQ,fQ⟩:=I6 hq;have HQ:=J hq;clear hq hneq;go_wp2_with fail;go_region_with (go_at_call 152;(with_reducible refine(C0.out _).mono ?_);rintro e w1 ⟨rfl,rfl⟩);go_wp2_with fail
   all_goals
    refine⟨⟨1,O,U,U,?_,?_,?_,?_,?_⟩,Xl⟩
    ·exact EjC
    ·show(wr.setCell _ _).heap[_]?=_;rw[iR HQ.out 5 _];rfl
    ·exact EjB
    ·exact EjD
    ·exact(HB.out.setCell (p:=⟨w.heap.size+1,5,Z⟩) UX _).drew
  ·simp only[show¬((1:Int)=0) from U,if_false,if_true,reduceIte] at hq;obtain⟨cQ,fQ⟩:=I6 hq;have HQ:=J hq;clear hq hneq;go_wp2_with fail;go_region_with (go_at_call 152;(with_reducible refine(C1.out _).mono ?_);rintro e w1 ⟨rfl,rfl⟩);go_wp2_with fail
   all_goals
    refine⟨⟨2,O,U,U,?_,?_,?_,?_,?_⟩,Xl⟩
    ·exact EjC
    ·show(wr.setCell _ _).heap[_]?=_;rw[iR HQ.out 6 _];rfl
    ·exact EjB
    ·exact EjD
    ·exact(HB.out.setCell (p:=⟨w.heap.size+1,6,Z⟩) UX _).drew
  ·simp only[show¬((2:Int)=0) from U,show¬((2:Int)=1) from U,if_false,if_true,reduceIte] at hq;obtain⟨cQ,fQ⟩:=I6 hq;have HQ:=J hq;clear hq hneq;go_wp2_with fail;go_region_with (go_at_call 152;(with_reducible refine(C2.out _).mono ?_);rintro e w1 ⟨rfl,rfl⟩);go_wp2_with fail
   all_goals
    refine⟨⟨3,O,U,U,?_,?_,?_,?_,?_⟩,Xl⟩
    ·exact EjC
    ·show(wr.setCell _ _).heap[_]?=_;rw[iR HQ.out 7 _];rfl
    ·exact EjB
    ·exact EjD
    ·exact(HB.out.setCell (p:=⟨w.heap.size+1,7,Z⟩) UX _).drew
  ·simp only[show¬((3:Int)=0) from U,show¬((3:Int)=1) from U,show¬((3:Int)=2) from U,if_false,if_true,reduceIte] at hq;obtain⟨cQ,fQ⟩:=I6 hq;have HQ:=J hq;clear hq hneq;go_wp2_with fail;go_region_with (go_at_call 152;(with_reducible refine(C3.out _).mono ?_);rintro e w1 ⟨rfl,rfl⟩);go_wp2_with fail
   all_goals
    refine⟨⟨4,O,U,U,?_,?_,?_,?_,?_⟩,Xl⟩
    ·exact EjC
    ·show(wr.setCell _ _).heap[_]?=_;rw[iR HQ.out 8 _];rfl
    ·exact EjB
    ·exact EjD
    ·exact(HB.out.setCell (p:=⟨w.heap.size+1,8,Z⟩) UX _).drew
  ·simp only[show¬((4:Int)=0) from U,show¬((4:Int)=1) from U,show¬((4:Int)=2) from U,show¬((4:Int)=3) from U,if_false,if_true,reduceIte] at hq;obtain⟨cQ,fQ⟩:=I6 hq;have HQ:=J hq;clear hq j0 j1 j2 j3 C0 C1 C2 C3;cases b;·have hz':(wr.setCell ⟨w.heap.size+1,9,Z⟩ (E I 4)).heap[w.heap.size+1+1]?=_:=(Below.heap_setCell _ _ _ _ UX).trans HZ.out;have HZ:=J hz';have HB:=J<|HB.out.setCell (p:=⟨w.heap.size+1,9,Z⟩) UX (E I 4);clear hz';go_wp2_with ((with_reducible show wpList _ _ _ (⟨Z,.store 50 (.tmp 4) _,_,_,_,_⟩::_) _ _);(with_reducible refine zx (cs:= #[E I c,E I a0,E I a1,E I a2,E I a3,E I (Jf n0 a0 r),E I (Jf n1 a1 r),E I (Jf n2 a2 r),E I (Jf n3 a3 r),E I 4,E I so,E I se]) wR ?_ ?_ HZ ?_ ?_ ?_ ?_);(·exact Ei O);(·exact⟨O,O,O⟩);(·rfl);(·rfl);(·(simp[Value.oneCell'];done)));refine EQ (v:=EU #[E I c,E I a0,E I a1,E I a2,E I a3,E I (Jf n0 a0 r),E I (Jf n1 a1 r),E I (Jf n2 a2 r),E I (Jf n3 a3 r),E I 4,E I so,E I se]) ?_ O ⟨O,E2 HB.out U _⟩;exact zy wR O _ _ (w.heap.size+1+1) _ O (setRow_heap _ _ _ _ _ _ HZ.out) O
   ·go_wp2_with ((with_reducible show wpList _ _ _ (⟨Z,.store 50 (.tmp 4) _,_,_,_,_⟩::_) _ _);(with_reducible refine zx (cs:= #[E I c,E I a0,E I a1,E I a2,E I a3,E I (Jf n0 a0 r),E I (Jf n1 a1 r),E I (Jf n2 a2 r),E I (Jf n3 a3 r),E I ru,E I so,E I se]) wR ?_ ?_ HZ ?_ ?_ ?_ ?_);(·exact Ei O);(·exact⟨O,O,O⟩);(·rfl);(·rfl);(·(simp[Value.oneCell'];done)));refine EQ (v:=EU #[E I c,E I a0,E I a1,E I a2,E I a3,E I (Jf n0 a0 r),E I (Jf n1 a1 r),E I (Jf n2 a2 r),E I (Jf n3 a3 r),E I ru,E I so,E I se]) ?_ O ⟨O,E2 HB.out U _⟩;exact zy wR O _ _ (w.heap.size+1+1) _ O (setRow_heap _ _ _ _ _ _ HZ.out) O
section
open Go.ChangeShapes Go.WideShapes
theorem Pf(h:Own w base A cap xs)(hp:0<xs.length): ∃g cur,A=X ⟨g,0,Z⟩/\base<=g/\D w g cur 5/\cur.toList.take xs.length=xs.map (E .u8)/\xs.length<=cap:=by
 rcases h.1.2 with⟨hv,hn⟩|⟨g,cap',cur,hv,hg,hh,hl,hm,hs,ht⟩;·omega
 ·injection hv with h1 h2 h3;rw[Nat.mul_one] at ht;exact⟨g,cur,h1,hg,hh,ht,U⟩
theorem EXt{cur:Array M}{T:Ez}{P:List Int}(hk:D w g cur T)(ht:cur.toList.take P.length=P.map (E .u8))(hb: ∀x∈P,0<=x/\x<=255)(off n:Nat): Row w (X ⟨g,off,Z⟩) ((P.drop off).take n):=by refine⟨.inr ⟨g,off,O,fun i hi=> ?_⟩,fun x hx=>hb x (List.mem_of_mem_drop (List.mem_of_mem_take hx))⟩;have hi2:off+i<P.length:=nO;rw[hk.cell (off+i),<-Array.getElem?_toList,<-List.getElem?_take_of_lt hi2,ht];simp[hi2]
theorem EXu{Y9:Type}{enc:Ez×M->Y9}{fuel:Nat}{a:Option Et}{l c:Nat}{x:DataW Y9×List MemPlace}(hf:DataW.trod enc EJ w 0 (fun _=>G) G fuel 23 [u a l c]=X x):HU .u8 w (u a l c):=by
 rcases open_ints Tryz.underlying23 Tryz.underlying5 Ec hf with⟨hcs,_⟩|⟨x,l',c',zs,hcs,_,hl,hm,hz,hx,hcell,hwz⟩;·simp at hcs;obtain⟨rfl,rfl,rfl⟩:=hcs;exact .inl O
 ·simp at hcs;obtain⟨rfl,rfl,rfl⟩:=hcs;have hzc:zs.length=c:=by simpa using hz
  refine .inr ⟨x,l,c,zs,O,fun h0=> ?_,hl,Hc,hzc,hcell,hwz⟩;have h1:=hcell 0 U;have e0:x.add 0=x:=zu;rw[e0] at h1;refine⟨?_,World.cell?_spot h1⟩;rcases Nat.lt_or_ge x.block w.heap.size with h2|h2;·exact h2
  ·rw[World.cell?,Array.getElem?_eq_none h2] at h1;simp at h1
end
def Da:List Ez:=[58,264]
def du(lo hi k:Nat)(T:Ez):Bool:=(decide (lo<=k)&&gF.contains T)||(decide (hi<=k)&&Da.contains T)
structure Ev(lo hi:Nat)(w w':H):Prop where
 os:w'.os=w.os
 tape:w'.tape=w.tape
 output:w'.output=w.output
 size:w.heap.size<=w'.heap.size
 low: ∀k,k<hi->k<w.heap.size->(∀c T p,w.heap[k]?=X (EI c T p)->du lo hi k T=Y)->w'.heap[k]?=w.heap[k]?
 high: ∀k c T,D w k c T->du lo hi k T=Y->D w' k c T
 stay: ∀k c T,D w k c T-> ∃c',D w' k c' T
 wT: ∀k c T p,k<hi->w.heap[k]?=X (EI c T p)-> ∃c' p',w'.heap[k]?=X (EI c' T p')
theorem Ev.refl(lo hi:Nat)(w:H):Ev lo hi w w:=⟨O,O,O,E5 _,fun _ _ _ _=>rfl,fun _ _ _ h _=>h,fun _ c _ h=>⟨c,h⟩,fun _ c _ p _ h=>⟨c,p,h⟩⟩
theorem Ev.trans{a b c:H}(h:Ev lo hi a b)(k:Ev lo hi b c):Ev lo hi a c:=by
 refine⟨k.os.trans h.os,k.tape.trans h.tape,k.output.trans h.output,Ey h.size k.size,fun i hi' hl hm=> ?_,fun i d T hb hm=>k.high i d T (h.high i d T hb hm) hm,fun i d T hb=> ?_,fun i d T p hi' hb=> ?_⟩;·have e:=h.low i hi' hl hm;refine(k.low i hi' (Nat.lt_of_lt_of_le hl h.size) fun d T p hb=>hm d T p ?_).trans e;rw[<-e];exact hb
 ·obtain⟨d',hd⟩:=h.stay i d T hb;exact k.stay i d' T hd
 ·obtain⟨d',p',hd⟩:=h.wT i d T p hi' hb;exact k.wT i d' T p' hi' hd
theorem Ev.Eu(h:Eh w w'):Ev lo hi w w':=
 ⟨h.os,h.tape,h.output,h.size,fun k _ hl _=>h.block k hl,fun _ _ _ hb _=>hb.B h,fun _ c _ hb=>⟨c,hb.B h⟩,fun _ c _ p _ hb=>⟨c,p,Uu hb h⟩⟩
theorem Ev.Em(h:Ev lo hi w w')(K:D w g cs S)(hS:gF.contains S=Y)(hR:Da.contains S=Y):D w' g cs S:=
 h.high g cs S K (by unfold du;rw[hS,hR];simp)
theorem Ev.old(h:Ev lo hi w w')(K:D w g cs S)(hS:gF.contains S=Y)(hg:g<hi):D w' g cs S:=
 h.high g cs S K (by unfold du;rw[hS,E9 (show¬hi<=g from U)];simp)
theorem Ev.rB{cs':Array M}(h:EG g w w')(K:D w g cs S)(K':D w' g cs' S)(hS:gF.contains S=G)(hl:lo<=g):Ev lo hi w w':=by
 have hb:=h.bel 0 (Nat.zero_le _) (Nat.zero_le _);refine⟨hb.os,hb.tape,hb.output,h.size,fun k _ hk hm=> ?_,fun k c T hk hm=> ?_,fun k c T hk=> ?_,fun k c T p _ hk=> ?_⟩;·refine h.keep k (fun e=> ?_) hk;subst e;have:=hm cs S (0,0) K;unfold du at this;rw[hS,Ia hl] at this;simp at this
 ·refine h.Em hk (fun e=> ?_);subst e;have e2:=(show X (Obj.cells c T (0,0))=X (Obj.cells cs S (0,0)) from hk.symm.trans K);injection e2 with e2;injection e2 with e3 e4;subst e4;unfold du at hm;rw[hS,Ia hl] at hm;simp at hm
 ·by_cases e:k=g;·subst e;have e2:=(show X (Obj.cells c T (0,0))=X (Obj.cells cs S (0,0)) from hk.symm.trans K);injection e2 with e2;injection e2 with e3 e4;subst e4;exact⟨cs',K'⟩
  ·exact⟨c,h.Em hk e⟩
 ·by_cases e:k=g;·subst e;have e2:=(show X (Obj.cells c T p)=X (Obj.cells cs S (0,0)) from hk.symm.trans K);injection e2 with e2;injection e2 with e3 e4 e5;subst e4;exact⟨cs',(0,0),K'⟩
  ·exact⟨c,p,(h.keep k e (j_ hk)).trans hk⟩
theorem Ev.Pg{T:Ez}(h:fm hi T N ys w w')(hT:Da.contains T=G)(hh:hi<=w.heap.size):Ev lo hi w w':=by
 have hb:=h.2.1 hh;refine⟨hb.os,hb.tape,hb.output,hb.size,fun k hk _ _=>hb.block k hk,fun k c S hk hm=> ?_,fun k c S hk=> ?_,fun k c S p hlt hk=>⟨c,p,(hb.block k hlt).trans hk⟩⟩
 ·by_cases hkh:k<hi;·exact(hb.block k hkh).trans hk
  ·obtain⟨c',e,-,hS,-⟩:=h.2.2 k c S hk;by_cases eS:S=T;·subst eS;unfold du at hm;rw[hT,Ia (U:hi<=k)] at hm;simp at hm
   ·rw[hS eS] at e;exact e
 ·obtain⟨c',e,-⟩:=h.2.2 k c S hk;exact⟨c',e⟩
theorem Ev.EXv(h:Ev lo hi w w')(hh:hi<=w.heap.size):z_ lo hi w w':=by
 refine⟨h.os,h.tape,h.output,h.size,fun k hk hm=> ?_,fun k h1 h2 h3=> ?_⟩
 ·refine h.low k hk U fun c T p hc=> ?_;unfold du;rw[E9 (U: ¬hi<=k)];by_cases hl:lo<=k;·have:=hm hl;unfold pW z5 at this;rw[hc] at this;simp at this⊢;exact fun _=>this
  ·simp;omega
 ·unfold pW z5 at h3⊢;cases e:w.heap[k]? with
  |none=>rw[e] at h3;cases h3
  |some o=>
   rw[e] at h3;cases o with
   |cells c T p=> obtain⟨c',p',hc'⟩:=h.wT k c T p h2 e;rw[hc'];exact h3
   |_=>cases h3
structure Dr where
 n:Int
 op:Bool
 nc:List Int
def Dr.v(d:Dr):List M:=[E I d.n,Eb d.op]++d.nc.map (E .u8)
structure Dr.ok(d:Dr):Prop where
 n:0<=d.n/\d.n<=4294967295
 len:d.nc.length=8
 bytes: ∀x∈d.nc,0<=x/\x<=255
theorem Dr.len'{d:Dr}(h:d.ok):d.v.length=10:=by simp[Dr.v,h.len]
def ZJ(p:List M)(c:EA)(gq gt:Nat)(d0 d1 d2:Dr)(hd:List Int):List (List M):=
 [p,c.tok.v,[V (X ⟨gq,0,Z⟩)],d0.v,d1.v,d2.v,[V (X ⟨gt,0,Z⟩)],[E I c.samples],[E I c.beyond],[E I c.mode],c.El.v,c.pt.v,hd.map (E .u8)]
def hZ(k:Nat):Nat:=[0,56,64,65,75,85,95,96,97,98,99,102,114].getD k 146
theorem J4{p:List M}{d0 d1 d2:Dr}(hp:p.length=56)(h0:d0.ok)(h1:d1.ok)(h2:d2.ok)(k:Nat)(hk:k<13):aV (ZJ p c gq gt d0 d1 d2 hd) k=hZ k:=by have e0:=Dr.len' h0;have e1:=Dr.len' h1;have e2:=Dr.len' h2;rcases(show k=0\/k=1\/k=2\/k=3\/k=4\/k=5\/k=6\/k=7\/k=8\/k=9\/k=10\/k=11\/k=12 from U) with rfl|rfl|rfl|rfl|rfl|rfl|rfl|rfl|rfl|rfl|rfl|rfl|rfl<;>simp[aV,ZJ,hZ,hp,e0,e1,e2,EL.v,Oa.v,Pt.v]
def TM(a m:Int):Prop:=0<=a/\a<=1000/\0<=m/\m<=1000
structure EM.Uk(T:EM):Prop where
 E3:0<=T.E3/\T.E3<=1000
 st:TM T.sa T.sm
 ER: ∀i,TM (T.ER i).a (T.ER i).m
theorem EM.Uk.put{T:EM}(h:T.Uk)(k:Nat){s:IM}(hs:TM s.a s.m):(T.put k s).Uk:=by
 match k with
 |0=>exact⟨h.E3,h.st,fun i=>match i with|0=>hs|1=>h.ER 1|_+2=>h.ER 2⟩
 |1=>exact⟨h.E3,h.st,fun i=>match i with|0=>h.ER 0|1=>hs|_+2=>h.ER 2⟩
 |_+2=>exact⟨h.E3,h.st,fun i=>match i with|0=>h.ER 0|1=>h.ER 1|_+2=>hs⟩
theorem TM.start{T:EM}(h:T.Uk):TM 0 (max T.E3 0):=by have:=h.E3;exact⟨Int.le_refl _,U,U,U⟩
structure EA.ok(c:EA):Prop where
 tok:c.tok.ok
 T:c.T.ok
 q:c.q.length<=3
 ones: ∀x∈c.q,x.ok
 src: ∀x∈c.q,1<=x.s/\x.s<=3
 nd:(c.q.map One.s).Nodup
 bU:0<=c.samples/\c.samples<=4294967295
 fK:0<=c.beyond/\c.beyond<=1000
 mode:0<=c.mode/\c.mode<=4
 El:c.El.ok
 pt:c.pt.ok
 E3:c.T.Uk
def dw(W:H)(lo:Nat)(v:M):Prop:= ∃(gk n cap:Nat) (cur:Array M) (ys:List Int),v=u (X ⟨gk,0,Z⟩) n cap/\lo<=gk/\ys.length=n/\1<=n/\n<=64/\n<=cap/\cap<=9223372036854775807/\D W gk cur 5/\cur.toList.take n=ys.map (E .u8)/\ ∀x∈ys,0<=x/\x<=255
theorem dw.Em{v:M}(h:dw W lo v)(hb: ∀g cs,D W g cs 5->D W' g cs 5):dw W' lo v:=by obtain⟨gk,n,cap,cur,ys,h1,h2,h3,h4,h5,h6,h7,h8,h9⟩:=h;exact⟨gk,n,cap,cur,ys,h1,h2,h3,h4,h5,h6,h7,hb _ _ h8,h9⟩
theorem dw.row{v:M}(h:dw W lo v): ∃(A:Option Et) (n cap:Nat) (ys:List Int),v=u A n cap/\ys.length=n/\1<=n/\n<=64/\n<=cap/\cap<=9223372036854775807/\Row W A ys:=by obtain⟨gk,n,cap,cur,ys,h1,-,h3,h4,h5,h6,h7,h8,h9,h10⟩:=h;subst h3;have:=EXt h8 h9 h10 0 ys.length;rw[Ix,List.take_of_length_le (E5 _)] at this;exact⟨_,_,cap,ys,h1,O,h4,h5,h6,h7,this⟩
def JZ(W:H)(lo gq:Nat)(L:List One)(most:Int):Prop:= ∃(v:M) (came:Nat),D W gq #[v,E I most,E Ip came] 152/\came<18446744073709551616/\W.ownsRow lo 171 5 v L.length (Iv L)
structure EXw(g:Nat->M):Prop where
 int: ∀i,i<56->i<5\/8<i->XH (g i)
 fit: ∀i,9<=i->i<56-> ∃n:Nat,g i=E I n/\ZQ i n
structure Jz(lo:Nat)(g:Nat->M)(gc gq gt:Nat)(c:EA)(W:H):Prop where
 lo2:2<=lo
 U8:EXw g
 ok:c.ok
 lc:lo<=gc
 lq:lo<=gq
 lt:lo<=gt
 Em: ∃(d0 d1 d2:Dr) (hd:List Int),OZ W gc (ZJ (EH 56 g).toList c gq gt d0 d1 d2 hd) 120/\d0.ok/\d1.ok/\d2.ok/\hd.length=32/\ ∀x∈hd,0<=x/\x<=255
 tab:EV W gt c.T
 XV:JZ W lo gq c.q (pn g 48)
 keys: ∀i,5<=i->i<=8->dw W lo (g i)
 roots:Jc W
 cmds:Uz W
structure oU where
 l:List M
 one: ∀Y3∈l,Y3.oneCell'=G
structure E4(lo hi:Nat)(g:Nat->M)(gc gq gt gs:Nat)(c:EA)(ns:Nat)(rs:List Rec)(W:H):Prop where
 core:Jz lo g gc gq gt c W
 hc:gc<hi
 hq:gq<hi
 ht:gt<hi
 Z8:lo<=hi
 his:hi<=gs
 bX: ∃(sv rv:M) (sc:oU),D W gs #[V (X ⟨gc,0,Z⟩),sv,rv] 124/\W.ownsRow hi 264 2 sv ns sc.l/\W.ownsRow hi 58 6 rv rs.length (J1 rs)
theorem EW{T:Ez}{size n:Nat}{v:M}{xs:List M}(h:W.ownsRow base T size v n xs)(hb: ∀g cs,D W g cs T->D W' g cs T):W'.ownsRow base T size v n xs:=by
 obtain⟨h1,h2|⟨gg,cap,cur,hv,hg,hh,r⟩⟩:=h;·exact⟨h1,.inl h2⟩
 ·exact⟨h1,.inr ⟨gg,cap,cur,hv,hg,hb _ _ hh,r⟩⟩
theorem Jz.B{g:Nat->M}(h:Jz lo g gc gq gt c W)(hb:Eh W W'):Jz lo g gc gq gt c W':=by obtain⟨d0,d1,d2,hd,k,r⟩:=h.Em;obtain⟨v,came,k2,r2,r3⟩:=h.XV;exact⟨h.lo2,h.U8,h.ok,h.lc,h.lq,h.lt,⟨d0,d1,d2,hd,k.B hb,r⟩,h.tab.B hb,⟨v,came,k2.B hb,r2,EW r3 fun _ _ hk=>hk.B hb⟩,fun i h1 h2=>(h.keys i h1 h2).Em fun _ _ hk=>hk.B hb,h.roots.B hb,h.cmds.B hb⟩
theorem E4.B{g:Nat->M}{ns:Nat}{rs:List Rec}(h:E4 lo hi g gc gq gt gs c ns rs W)(hb:Eh W W'):E4 lo hi g gc gq gt gs c ns rs W':=by obtain⟨sv,rv,sc,k,r1,r2⟩:=h.bX;exact⟨h.core.B hb,h.hc,h.hq,h.ht,h.Z8,h.his,sv,rv,sc,k.B hb,EW r1 fun _ _ hk=>hk.B hb,EW r2 fun _ _ hk=>hk.B hb⟩
def wV:List Ez:=[120,152,171,163,5]
theorem Jz.via{g:Nat->M}(h:Jz lo g gc gq gt c W)(hb: ∀k cs S,wV.contains S=G->D W k cs S->D W' k cs S)(hl:Below lo W W'):Jz lo g gc gq gt c W':=by
 obtain⟨d0,d1,d2,hd,k,r⟩:=h.Em;obtain⟨v,came,k2,r2,r3⟩:=h.XV;refine⟨h.lo2,h.U8,h.ok,h.lc,h.lq,h.lt,⟨d0,d1,d2,hd,hb _ _ _ EZ k,r⟩,hb _ _ _ EZ h.tab,⟨v,came,hb _ _ _ EZ k2,r2,EW r3 fun _ _ hk=>hb _ _ _ EZ hk⟩,fun i h1 h2=>(h.keys i h1 h2).Em fun _ _ hk=>hb _ _ _ EZ hk,fun i hi=> ?_,fun i hi=> ?_⟩;·exact Elp
 ·exact Els
theorem E7(h:D W g cs S)(k:D W g2 cs2 S2)(hne:S≠S2):g≠g2:=fun e=>by subst e;have e2:=(show X (Obj.cells cs S (0,0))=X (Obj.cells cs2 S2 (0,0)) from h.symm.trans k);injection e2 with e2;injection e2 with e3 e4;exact hne e4
theorem Jz.set{g:Nat->M}{c':EA}(h:Jz lo g gc gq gt c W)(ho:EG gc W W')(hT:c'.T=c.T)(hq:c'.q=c.q)(hok:c'.ok) (hb: ∃(d0 d1 d2:Dr) (hd:List Int),OZ W' gc (ZJ (EH 56 g).toList c' gq gt d0 d1 d2 hd) 120/\d0.ok/\d1.ok/\d2.ok/\hd.length=32/\ ∀x∈hd,0<=x/\x<=255):Jz lo g gc gq gt c' W':=by
 obtain⟨e0,e1,e2,ehd,k,r⟩:=h.Em;obtain⟨v,came,k2,r2,r3⟩:=h.XV;have hl:=ho.bel lo h.lc (Ey h.lc (Nat.le_of_lt k.lt));refine⟨h.lo2,h.U8,hok,h.lc,h.lq,h.lt,hb,?_,⟨v,came,ho.Em k2 (E7 k2 k EZ),r2,?_⟩,fun i h1 h2=>(h.keys i h1 h2).Em fun _ _ hk=>ho.Em hk (E7 hk k EZ),fun i hi=> ?_,fun i hi=> ?_⟩;·rw[hT];exact ho.Em h.tab (E7 h.tab k EZ)
 ·rw[hq];exact EW r3 fun _ _ hk=>ho.Em hk (E7 hk k EZ)
 ·exact Elp
 ·exact Els
theorem Xa{P:Program}{a:Act}{o:EK}{K:Act->Prop}{T TB:Ez}{off n:Nat}{Gs:List (List M)}{old:List M}(hT:ID P T n)(x:Operand)(ho:o.op= .load T x)(hx:a.eval x=V (X ⟨g,off,Z⟩))(hg:Ea (OZ W g Gs TB))(k:Nat)(hk:Gs[k]?=X old)(hf:aV Gs k=off)(hn:old.length=n) (h:K (a.put o.dst (EU old.toArray))):o.quiet P a (fun w'=> ∃x,w'=Ex W x) K:=by obtain⟨⟨d,hu,hd⟩,hi⟩:=hT;refine⟨_,fun w hw=> ?_,h⟩;obtain⟨y,rfl⟩:=hw;have hb:(Ex W y).heap[g]?=X (EI Gs.flatten.toArray TB (0,0)):=hg.out.B (EC y);have hrun:=run_loadVar_mid (Ex W y) g off T _ d (World.rangeAt_of_block hb off n) hu kf (by rw[hi,Array.length_toList,OZ.extract k hk hf n hn];simp[hn]);rw[Array.toArray_toList,OZ.extract k hk hf n hn] at hrun;unfold Oper.quietAt execOp;simp only[ho,hx,Instr.loadAt,Instr.sureAddr,Sem.run_bind,Sem.run_pure,Result.andThen_ok,hrun];first|exact⟨rfl,rfl⟩|exact⟨rfl,y,rfl⟩
theorem Jj(g:Nat->M):(EH 56 g).toList.length=56:=Ek
theorem Db{g:Nat->M}{d0 d1 d2:Dr}(K:OZ W gc (ZJ (EH 56 g).toList c gq gt d0 d1 d2 hd) 120)(h0:d0.ok)(h1:d1.ok)(h2:d2.ok)(k:Nat)(hk:k<13){old:List M}(ho:(ZJ (EH 56 g).toList c gq gt d0 d1 d2 hd)[k]?=X old)(j:Nat)(hj:j<old.length):W.cell? ⟨gc,hZ k+j,Z⟩=old[j]?:=
 K.cell k ho (J4 (Jj g) h0 h1 h2 k hk) j hj
theorem rC{b0:Nat}{T:Ez}(h:fm b0 T N ys w w')(hk:D w g ys.toArray S)(hN:N=0\/ys.length<=N):D w' g ys.toArray S:=by
 obtain⟨cs',e,s,-,hj⟩:=h.2.2 g ys.toArray S hk
 have:cs'=ys.toArray:=by
  apply Array.ext_getElem?;intro j;rcases hj j with h1|⟨h1,h2,h3⟩;·exact h1
  ·rcases hN with rfl|hN;·rw[h3];simp
   ·rw[h3];have hl:cs'.size=ys.length:=by simpa using s
    rw[List.getElem?_toArray];by_cases hlt:j<ys.length;·omega
    ·have e1:cs'[j]?=Z:=Array.getElem?_eq_none U;rw[<-h3,e1,List.getElem?_eq_none U]
 rw[this] at e;exact e
theorem EXy:(Tryz.prog.info? 58).map (fun i=>(i.zero,i.size,i.bytes))=X (X (EU #[E I 0,E I 0,E I 0,E I 0,E I 0,E I 0]),6,48):=Ec
theorem Pi:ID EJ 58 6:=⟨⟨_,Tryz.underlying58,O⟩,Ec⟩
theorem rD:ID EJ 124 3:=⟨⟨_,Tryz.underlying124,O⟩,Ec⟩
def wW(hi:Nat)(T:Ez)(size n:Nat)(xs:List M)(v:M)(w:H):Prop:= ∃(A:Option Et) (c:Nat),v=u A n c/\w.ownsRow hi T size v n xs
theorem UL{T:Ez}{size n:Nat}{v:M}{xs:List M}(h:w.ownsRow base T size v n xs): ∃(A:Option Et) (c:Nat),v=u A n c/\(A=Z->n=0):=by
 rcases h.2 with⟨e,hn⟩|⟨g,cap,cur,hv,-⟩;·exact⟨Z,0,by rw[e,hn],fun _=>hn⟩
 ·exact⟨_,cap,hv,fun h=>Uf⟩
theorem az(h:D W g cs S)(k:D W g2 cs2 S2)(hne:S≠S2):g≠g2:=fun e=>by subst e;have e2:=(show X (Obj.cells cs S (0,0))=X (Obj.cells cs2 S2 (0,0)) from h.symm.trans k);injection e2 with e2;injection e2 with e3 e4;exact hne e4
theorem EXz{c:M}(K:D w gs #[a,b,c] S)(v:M):D (w.setCell ⟨gs,2,Z⟩ v) gs #[a,b,v] S:=by have:=K.set 2 v;exact Ek_
theorem EXC{c:M}(K:D w gs #[a,b,c] S)(v:M):D (w.setCell ⟨gs,1,Z⟩ v) gs #[a,v,c] S:=by have:=K.set 1 v;exact Ek_
theorem Pj{i:Nat}(h:lo<=g)(v:M):Below lo w (w.setCell ⟨g,i,Z⟩ v):=(E6 lo w).setCell (p:=⟨g,i,Z⟩) h v
theorem Ev.setCell(K:D w g cs S)(hS:gF.contains S=G)(hl:lo<=g)(i:Nat)(v:M):Ev lo hi w (w.setCell ⟨g,i,Z⟩ v):=
 Ev.rB (OH i v) K (K.set i v) hS hl
theorem Dc: ∃i,Tryz.prog.info? 58=X i/\i.zero=X (EU #[E I 0,E I 0,E I 0,E I 0,E I 0,E I 0])/\i.size=6/\i.bytes=48:=by obtain⟨i,h1,h2,h3,h4⟩:=info_parts EXy;exact⟨i,h1,h2,h3,h4⟩
theorem Xs(lo hi:Nat)(g:Nat->M)(gc gq gt gs:Nat)(c:EA)(ns:Nat)(rs:List Rec)(k s q cd hw:Int)(w:H)(S:E4 lo hi g gc gq gt gs c ns rs w)(hl:rs.length<1000000): Ef EJ 102 #[V (X ⟨gs,0,Z⟩),E I k,E I s,E I q,E I cd,E I hw] w fun e w'=>e=Eg (Es #[])/\E4 lo hi g gc gq gt gs c ns (rs++[⟨k,s,q,c.tok.e,cd,hw⟩]) w'/\Ev lo hi w w':=by
 obtain⟨sv,rv,sc,KS,OS,OR⟩:=S.bX;obtain⟨A0,c0,rfl,hnil⟩:=UL OR;obtain⟨d0,d1,d2,hd,KG,o0,o1,o2,JA,J5⟩:=S.core.Em;have c0':w.cell? ⟨gs,0,Z⟩=X (V (X ⟨gc,0,Z⟩)):=(D.cell KS 0).trans O;have c1':w.cell? ⟨gc,57,Z⟩=X (E I c.tok.e):=Db KG o0 o1 o2 1 U O 1 XW;have HL:=J hl;have HH:=J (show hi<=w.heap.size by have:=S.his;have:=KS.lt;omega);have rF:=J<|show lo<=gs from Ey S.Z8 S.his;have IR:=J Dc;have Pk:=J S;have CB:=J S.core;have KS:=J KS;have OS:=J OS;have OR:=J OR;have Eg5:=J hnil;clear S hl hnil KG o0 o1 o2 JA J5;generalize c.tok.e=ep at*;go_enter Tryz.func102,Tryz.ntmps102;go_wp2_with fail;have fG:=J<|D.new w #[E I k,E I s,E I q,E I ep,E I cd,E I hw] 58;have b1:=Eo w (EI #[E I k,E I s,E I q,E I ep,E I cd,E I hw] 58);replace KS:=J<|KS.out.B b1;replace OS:=J<|EW OS.out fun _ _ h=>D.B h b1;replace OR:=J<|EW OR.out fun _ _ h=>D.B h b1;replace CB:=J<|CB.out.B b1;have MM:Ea (Ev lo hi w (w.alloc (EI #[E I k,E I s,E I q,E I ep,E I cd,E I hw] 58))):=J<|Ev.Eu b1;clear b1 c0' c1';generalize w.alloc (EI #[E I k,E I s,E I q,E I ep,E I cd,E I hw] 58)=w1 at*;obtain⟨gr,hgr⟩:=En w.heap.size;rw[<-hgr] at fG⊢;replace hgr:=J hgr;have HN:Ea (rs.length*6=0\/(Rec.mk k s q ep cd hw).v.length<=rs.length*6):=J wY;have HX:Ea (∀j,rs.length*6<=j->j<rs.length*6+(Rec.mk k s q ep cd hw).v.length->j<(J1 rs++(Rec.mk k s q ep cd hw).v).length->(J1 rs++(Rec.mk k s q ep cd hw).v)[j]?=((Rec.mk k s q ep cd hw).v)[j-rs.length*6]?):=J (fun j h1 h2 h3=>by rw[List.getElem?_append_right (by rw[uM];exact h1),uM]);refine uV (Ph:=fun p wq=>match p with|0=>(D wq gs #[V (X ⟨gc,0,Z⟩),sv,u A0 rs.length c0] 124/\D wq gr (Rec.mk k s q ep cd hw).v.toArray 58/\World.ownsRow wq hi 58 6 (u A0 rs.length c0) rs.length (J1 rs)/\(Jz lo g gc gq gt c wq/\World.ownsRow wq hi 264 2 sv ns sc.l/\Ev lo hi w wq))|_=>(∃(A:Option Et) (cp:Nat),D wq gs #[V (X ⟨gc,0,Z⟩),sv,u A (rs.length+1) cp] 124/\D wq gr (Rec.mk k s q ep cd hw).v.toArray 58/\World.ownsRow wq hi 58 6 (u A (rs.length+1) cp) (rs.length+1) (J1 rs++(Rec.mk k s q ep cd hw).v)/\(Jz lo g gc gq gt c wq/\World.ownsRow wq hi 264 2 sv ns sc.l/\Ev lo hi w wq))) (Rel:=(fm hi 58 (rs.length*6) (Rec.mk k s q ep cd hw).v)) (If:=(fun w w'=> ∀g2 c2,D w g2 c2 58->D w' g2 c2 58)) [kp gs 0,kp gs 0,kp gs 0,kp gs 2,kq (u A0 rs.length c0),kq (EU (Rec.mk k s q ep cd hw).v.toArray),.dep (fun v w=> ∃b:Nat,v=u (X ⟨b,0,Z⟩) 1 1/\D w b (Rec.mk k s q ep cd hw).v.toArray 58) (fun v w w' h hr=>by obtain⟨b,e,hk⟩:=h;exact⟨b,e,rC hr hk HN.out⟩) (fun v w w' h hr=>Pm),.dep (wW hi 58 6 (rs.length+1) (J1 rs++(Rec.mk k s q ep cd hw).v)) (fun v w w' h hr=>by obtain⟨A,c,e,ho⟩:=h;exact⟨A,c,e,jE hr ho HX.out⟩) (fun v w w' h hr=>Pn),kp gs 0,kp gs 2,.val (fun _=>True)] [10] [(0,0),(0,0),(0,0),(0,0),(0,0),(0,0),(0,0),(0,0),(0,0),(0,0),(0,0)] Ec Ec Ec Ec On Ec ?hPh ?h0 ?hstep ?hend
 case hPh=>
  intro p w2 w3 h hr;have keep: ∀g2 c2 S2,S2≠58->D w2 g2 c2 S2->D w3 g2 c2 S2:=fun g2 c2 S2 hS k2=>XQ hr k2 hS;have rest:(Jz lo g gc gq gt c w2/\World.ownsRow w2 hi 264 2 sv ns sc.l/\Ev lo hi w w2)->(Jz lo g gc gq gt c w3/\World.ownsRow w3 hi 264 2 sv ns sc.l/\Ev lo hi w w3):=fun⟨a1,a2,a3⟩=>⟨a1.via (fun k2 c2 S hS h2=>keep _ _ _ hG h2) ((hr.2.1 (Ey HH.out a3.size)).mono (Ey (by exact Pk.out.Z8) (E5 _))),EW a2 (fun g2 c2 h2=>keep _ _ _ EZ h2),a3.trans (Ev.Pg hr EZ (Ey HH.out a3.size))⟩;match p,h with
  |0,h=>exact⟨keep _ _ _ EZ h.1,rC hr h.2.1 HN.out,jE hr h.2.2.1 (fun j h1 h2 h3=>by rw[uM] at h3;omega),rest h.2.2.2⟩
  |_+1,h=> obtain⟨A,cp,h1,h2,h3,h4⟩:=h;exact⟨A,cp,keep _ _ _ EZ h1,rC hr h2 HN.out,jE hr h3 HX.out,rest h4⟩
 case h0=> exact⟨KS.out.drew,fG.out.drew,OR.out,CB.out.B (I1 _),OS.out,MM.out.trans (Ev.Eu (I1 _))⟩
 case hstep=>
  refine⟨?_,?_,?_,?_,?_,?_,?_,?_,?_,?_,?_,trivial⟩;all_goals first|intro xv wq p hlo hhi hp hd|intro xv wq hp hd
  all_goals try obtain rfl:p=0:=U
  all_goals simp only[EB,Ic,Ig,IJ,IU]
  ·exact Ir dZ (Ei O) Ew O
  ·exact Ir dZ (Ei O) Ew O
  ·have d1:xv 1=V (X ⟨gs,0,Z⟩):=hd.at 1 rfl;exact Ir dZ (Ei O) UK O
  ·have d2:xv 2=V (X ⟨gs,0,Z⟩):=hd.at 2 rfl;exact Ir dZ (Ei O) (by simp[go_sem,d2]) O
  ·have d3:xv 3=V (X ⟨gs,2,Z⟩):=hd.at 3 rfl;have cc:wq.cell? ⟨gs,2,Z⟩=X (u A0 rs.length c0):=(D.cell hp.1 2).trans O;exact Ir dZ (Ei O) (by simp[go_sem,d3,cc]) O
  ·exact fi dZ Pi (Ei O) ⟨O,O⟩ (hp.2.1) O O
  ·have d5:xv 5=EU (Rec.mk k s q ep cd hw).v.toArray:=hd.at 5 rfl;exact XD (Ei O) (by simp[go_sem,d5];rfl) (qZ (Eo wq _)) ⟨wq.heap.size,O,D.new _ _ _⟩
  ·have d4:xv 4=u A0 rs.length c0:=hd.at 4 rfl;obtain⟨b,e6,k6⟩: ∃b:Nat,xv 6=u (X ⟨b,0,Z⟩) 1 1/\D wq b (Rec.mk k s q ep cd hw).v.toArray 58:=hd.at 6 rfl;obtain⟨A',c',w',hrun,hown,hgr,-,-⟩:=a_ (P:=EJ) wq hi hi 40 _ 58 IR.out.choose _ 6 48 Tryz.underlying40 IR.out.choose_spec.1 IR.out.choose_spec.2.1 IR.out.choose_spec.2.2.1 IR.out.choose_spec.2.2.2 rfl A0 c0 rs.length (J1 rs) hp.2.2.1 ⟨b,0,Z⟩ 1 1 (Rec.mk k s q ep cd hw).v O (fun j Y3 hu=>by rw[show(⟨b,0,Z⟩:Et).add j=⟨b,j,Z⟩ from U4];rw[D.cell k6,List.getElem?_toArray];exact hu) (by simp[Rec.v,Value.oneCell']) (fun _=>U) (by have:=HL.out;unfold maxLen;omega) Ju (Ey HH.out hp.2.2.2.2.2.size) (E5 _);exact XD (Ei O) (Ov O (show xv 4=_ from d4) (show xv 6=_ from e6) hrun) hgr ⟨A',c',O,hown⟩
  ·have d0:xv 0=V (X ⟨gs,0,Z⟩):=hd.at 0 rfl;exact Ir dZ (Ei O) OQ O
  ·have d8:xv 8=V (X ⟨gs,0,Z⟩):=hd.at 8 rfl;exact Ir dZ (Ei O) am O
  ·have d9:xv 9=V (X ⟨gs,2,Z⟩):=hd.at 9 rfl;obtain⟨A,cp,e7,ho⟩:wW hi 58 6 (rs.length+1) (J1 rs++(Rec.mk k s q ep cd hw).v) (xv 7) wq:=hd.at 7 rfl;have cc:wq.cell? ⟨gs,2,Z⟩=X (u A0 rs.length c0):=(D.cell hp.1 2).trans O;have ff:wq.frozen? ⟨gs,2,Z⟩=Y:=D.Jw hp.1 2;rw[e7] at ho;have kk:=EXz hp.1 (u A (rs.length+1) cp);refine AZ (w':=wq.setCell ⟨gs,2,Z⟩ (u A (rs.length+1) cp)) (Ei O) (by simp[go_sem,d9,e7,cc,ff]) ⟨fun g2 c2 h2=>h2.other gs 2 _ (az h2 hp.1 EZ),?_⟩ trivial;exact⟨A,cp,kk,hp.2.1.other gs 2 _ (az hp.2.1 hp.1 EZ),EW ho (fun g2 c2 h2=>h2.other gs 2 _ (az h2 hp.1 EZ)),hp.2.2.2.1.via (fun k2 c2 S hS h2=>h2.other gs 2 _ (az h2 hp.1 hG)) (Pj rF.out _),EW hp.2.2.2.2.1 (fun g2 c2 h2=>h2.other gs 2 _ (az h2 hp.1 EZ)),hp.2.2.2.2.2.trans (Ev.setCell hp.1 EZ rF.out 2 _)⟩
 case hend=>
  intro xv W6 hp hr;clear hr;simp only[EB,Ic,Ig,IJ,IU];obtain⟨A,cp,h1,h2,h3,h4,h5,h6⟩:=hp;replace KS:=J h1;replace fG:=J h2;replace OR:=J h3;replace CB:=J h4;replace OS:=J h5;replace MM:=J h6;clear h1 h2 h3 h4 h5 h6 HN HX;obtain⟨d0,d1,d2,hd,KG,o0,o1,o2,JA,J5⟩:=CB.out.Em;have KG:=J KG;have HF:=J<|J4 (c:=c) (gq:=gq) (gt:=gt) (hd:=hd) (Jj g) o0 o1 o2 12 U;have CN:Ea (∀W,Jc W->Ef EJ 68 #[EU (hd.map (E .u8)).toArray,EU (Rec.mk k s q ep cd hw).v.toArray] W fun e' w'=>e'=Eg (EU (Ej (Ux (hd++cU k s q ep cd hw))))/\Eh W w'):=J<|fun W (r:Jc W)=>EUd hd k s q ep cd hw JA J5 W r;have RT:=J CB.out.roots;have cs: ∀y:Ext W6,(Ex W6 y).cell? ⟨gs,0,Z⟩=X (V (X ⟨gc,0,Z⟩)):=fun y=>(D.cell (KS.out.B (EC y)) 0).trans O;obtain⟨nh,Dd⟩:=En (Ux (hd++cU k s q ep cd hw));rw[<-Dd] at CN;have lD:=J (show nh.length=32/\ ∀x∈nh,0<=x/\x<=255 by rw[Dd];exact⟨gS _,nG _⟩);have lF:=J (show(hd.map (E .u8)).length=32 by simp[JA]);clear Dd JA J5;go_wp2_with fail;refine JB 15 Ec Ec ?_;simp only[Il,Ij,Iz,Ix]
  repeat (first
   |go_big_quiet_skip
   |(go_big_quiet_want
     first
      |(refine Oj (T:=58) (g:=gr) Pi _ rfl rfl fG ?_ ?_;(·rfl);go_simp;go_big_quiet_on)
      |(refine Xa (T:=41) (g:=gc) (off:=114) JC _ rfl rfl KG 12 rfl HF.out lF.out ?_;go_simp;go_big_quiet_on)
      |(go_big_quiet_op
        first
         |go_big_quiet_on
         |go_big_quiet_call (with_reducible refine X6 (CN.out _ (RT.out.B (EC _)))))))
  refine wpQuiet_nil ?_;intro _ hw';obtain⟨y9,rfl⟩:=hw';have El:=EC y9;replace KS:=J<|KS.out.B El;replace OR:=J<|EW OR.out fun _ _ h=>D.B h El;replace OS:=J<|EW OS.out fun _ _ h=>D.B h El;replace CB:=J<|CB.out.B El;replace KG:=J<|KG.out.B El;replace MM:=J<|MM.out.trans (Ev.Eu El);clear cs El fG;generalize Ex W6 y9=W7 at*;have KF:=J<|KG.out.set 12 rfl HF.out (nh.map (E .u8)) (by rw[lF.out];simp[lD.out.1]);have TH:=J<|KG.out.there 12 rfl HF.out 32 (Nat.le_of_eq lF.out.symm);have ON:=J<|JX (g:=gc) (nh.map (E .u8)) 114 W7;go_wp2_with ((with_reducible refine JI 41 ?_);(with_reducible refine wpList_store_mid O 41 _ _ O gc 114 (Ej nh) ?_ ?_ ?_ ?_ ?_ ?_);(·rfl);(·rfl);(·rw[JV,lD.out.1];exact TH.out);(·rw[JV,lD.out.1];exact JC.2);(·exact Uw _));go_end0;have CB2:=CB.out.set ON.out O O CB.out.ok ⟨d0,d1,d2,nh,KF.out,o0,o1,o2,lD.out.1,lD.out.2⟩;have S2:=Pk.out;refine⟨O,⟨CB2,S2.hc,S2.hq,S2.ht,S2.Z8,S2.his,sv,u A (rs.length+1) cp,sc,ON.out.Em KS.out (E7 KS.out KG.out EZ),EW OS.out fun _ _ h=>ON.out.Em h (E7 h KG.out EZ),?_⟩,MM.out.trans (Ev.rB ON.out KG.out KF.out EZ CB.out.lc)⟩;have:=EW OR.out fun _ _ h=>ON.out.Em h (E7 h KG.out EZ);rw[AU,IL,show J1 [Rec.mk k s q ep cd hw]=(Rec.mk k s q ep cd hw).v from by simp[J1]];exact this
def lG(z:Int):Int:=if(bits .and .u16 z 32768 !=0)=G then bits .xor .u16 (IntKind.u16.wrap (z*2)) 4129 else IntKind.u16.wrap (z*2)
def oZ:Nat->Int->Int
 |0,z=>z
 |k+1,z=>lG (oZ k z)
def lH(s c:Int):Int:=oZ 8 (bits .xor .u16 s (c*256))
def UY(xs:List Int):Int:=xs.foldl lH 65535
theorem EXF(op:BinOp)(a b:Int):0<=bits op .u16 a b/\bits op .u16 a b<=65535:=by
 unfold bits;have h: ∀x:Int,0<=IntKind.u16.wrap x/\IntKind.u16.wrap x<=65535:=fun x=>by exact Ekq
 exact h _
theorem EXG(x:Int):0<=IntKind.u16.wrap x/\IntKind.u16.wrap x<=65535:=by exact Ekq
theorem EXH(z:Int):0<=lG z/\lG z<=65535:=by
 unfold lG;split;·exact EXF _ _ _
 ·exact EXG _
theorem EXK(s c:Int):0<=lH s c/\lH s c<=65535:=EXH _
theorem Po(xs:List Int)(x:Int):UY (xs++[x])=lH (UY xs) x:=by unfold UY;rw[List.foldl_append];rfl
theorem Pp(xs:List Int):0<=UY xs/\UY xs<=65535:=by refine Lg (P:=fun xs=>0<=UY xs/\UY xs<=65535) EZ (fun l x _=> ?_) xs;rw[Po];exact EXK _ _
theorem EXL(s c:Int)(w:H)(h1:0<=s/\s<=65535)(h2:0<=c/\c<=255): Ef EJ 200 #[.int .u16 s,E IB c] w fun e w'=>e=Eg (.int .u16 (lH s c))/\w=w':=by
 obtain⟨r,hr⟩:=En (lH s c);rw[<-hr];replace hr:=J hr;go_enter Tryz.func200,Tryz.ntmps200;go_wp2_with fail;go_loop [0,10] (fun x y=> ∃i:Nat,i<=8/\y=E I i/\x= .int .u16 (oZ i (bits .xor .u16 s (c*256)))) (fun _ y=>8-(intOf y).toNat);case atStart=>exact⟨0,U,O,O⟩
 case round=>
  obtain⟨i,hi,rfl,rfl⟩:=hrel;by_cases hlt:i<8
  ·have t1:decide ((i:Int)<8)=G:=Ia U;obtain⟨z,hz⟩: ∃z,z=oZ i (bits .xor .u16 s (c*256)):=⟨_,O⟩;rw[<-hz];have HZ:Ea (oZ (i+1) (bits .xor .u16 s (c*256))=lG z):=J (by rw[hz];rfl);clear hz;cases hb:(bits .and .u16 z 32768 !=0) with
   |true=> go_wp2_with fail;refine⟨⟨i+1,U,Ek,?_⟩,JN⟩;rw[HZ.out];unfold lG;rw[if_pos hb]
   |false=> go_wp2_with fail;refine⟨⟨i+1,U,Ek,?_⟩,JN⟩;rw[HZ.out];unfold lG;rw[if_neg (by rw[hb];decide)]
  ·have t1:decide ((i:Int)<8)=Y:=E9 U;obtain rfl:i=8:=U;rw[show oZ 8 (bits .xor .u16 s (c*256))=r from hr.out.symm];exact Eh9
theorem Pq(a:Option Et)(xs:List Int)(n c:Nat)(w:H)(hn:xs.length=n)(hr:Row w a xs)(hm:n<=9223372036854775807): Ef EJ 157 #[u a n c] w fun e w'=>e=Eg (.int .u16 (UY xs))/\w=w':=by
 obtain⟨hr,hb⟩:=hr;have HR:=J hr;have HB:=J hb;have HN:=J hn;clear hr hb hn;obtain⟨r,hr⟩:=En (UY xs);rw[<-hr];replace hr:=J hr;go_enter Tryz.func157,Tryz.ntmps157;go_wp2_with fail;go_loop [3,8] (fun x y=> ∃i:Nat,i<=n/\y=E I i/\x= .int .u16 (UY (xs.take i))) (fun _ y=>n-(intOf y).toNat);case atStart=>exact⟨0,U,O,O⟩
 case round=>
  obtain⟨i,hi,rfl,rfl⟩:=hrel;by_cases hlt:i<n
  ·have t1:decide ((i:Int)<(n:Int))=G:=Ia U;rcases HR.out with e|⟨b,off,rfl,hc⟩;·have:=HN.out;rw[e] at this;simp at this;omega
   ·have hil:i<xs.length:=gH;have hc:=hc i hil;have hx:=HB.out xs[i] (List.getElem_mem _);have HS:Ea (UY (xs.take (i+1))=lH (UY (xs.take i)) xs[i]):=J (by rw[<-Po,List.take_append_getElem hil]);have hin:=Pp (xs.take i);generalize UY (xs.take i)=z at*;go_wp2_with fail;(with_reducible refine(EXL z xs[i] _ hin hx).mono ?_);rintro e w2 ⟨rfl,rfl⟩;go_wp2_with fail;exact⟨⟨i+1,U,Ek,by rw[HS.out]⟩,JN⟩
  ·obtain rfl:i=n:=U;have t1:decide ((i:Int)<(i:Int))=Y:=E9 U;rw[show xs.take i=xs from List.take_of_length_le w_,show UY xs=r from hr.out.symm];exact Eh9
theorem Pr(x:Int)(k:Nat)(hx:x=k)(hk:k<=1000000000000)(W:H): (Instr.makeSlice 23 (E I 0) (E I x)).run EJ W= .ok (u (X ⟨W.heap.size,0,Z⟩) 0 k) (W.alloc (EI (madeCells #[E .u8 0] k) 5)):=by subst hx;obtain⟨i0,hi,hz0,hz1,hz2⟩:=info_parts iS;have h:=run_make (P:=EJ) W 23 5 i0 _ Tryz.underlying23 hi hz0 .i64 .i64 0 k U U zV U;rw[h,hz1,Int.toNat_natCast,Nat.mul_one];rfl
theorem Ps(w:H)(base k:Nat)(hb:base<=w.heap.size)(hk:k<=1000000000000):Own (w.alloc (EI (madeCells #[E .u8 0] k) 5)) base (X ⟨w.heap.size,0,Z⟩) k []:=by refine⟨⟨O,.inr ⟨w.heap.size,k,madeCells #[E .u8 0] k,O,hb,?_,Nat.zero_le _,Ob,by simp[madeCells],Ek⟩⟩,fun x hx=>pK⟩;exact D.new w _ _
theorem Pu(w:H)(xs:List Int)(h: ∀x∈xs,0<=x/\x<=255)(cs:Array M)(hc:cs=(xs.map (E .u8)).toArray):Row (w.alloc (EI cs 5)) (X ⟨w.heap.size,0,Z⟩) xs:=by subst hc;refine⟨.inr ⟨w.heap.size,0,O,fun i hi=> ?_⟩,h⟩;rw[D.cell (D.new w (xs.map (E .u8)).toArray 5),List.getElem?_toArray,Nat.zero_add];simp[hi]
theorem EXM(h:Row w A xs)(g:Nat)(hg:A=X ⟨g,0,Z⟩)(k:Nat):Row w (X ⟨g,k,Z⟩) (xs.drop k):=by
 obtain⟨h1,h2⟩:=h;refine⟨?_,fun x hx=>h2 x (List.mem_of_mem_drop hx)⟩;rcases h1 with e|⟨b,off,e,hc⟩;·left;rw[e];simp
 ·right;rw[hg] at e;injection e with e;injection e with e1 e2 e3;subst e1 e2;refine⟨g,k,O,fun i hi=> ?_⟩;have hil:i<xs.length-k:=Om;have hh:=hc (k+i) U;rw[show 0+(k+i)=k+i from U] at hh;rw[hh];simp
theorem EXN(n:Nat)(h:n<=255):IntKind.u8.wrap (n:Int)=n:=nz
theorem EXP(A:Option Et)(xs:List Int)(n c:Nat)(w:H)(hn:xs.length=n)(hr:Row w A xs)(hm:n<=9223372036854775807): Ef EJ 166 #[u A n c] w fun e w'=>(∃A' n' c' x,e=Eg (Es #[u A' n' c',E I x]))/\Eh w w':=by
 have HR:=J hr;have HN:=J hn;clear hr hn;by_cases h:n<=32
 ·have t1:decide ((32:Int)<(n:Int))=Y:=E9 U;have hmk: ∀W:H,(Instr.makeSlice 23 (E I 0) (E I (3+(n:Int)+2))).run EJ W= .ok (u (X ⟨W.heap.size,0,Z⟩) 0 (n+5)) (W.alloc (EI (madeCells #[E .u8 0] (n+5)) 5)):=Pr _ _ U U;have cv:IntKind.u8.wrap (n:Int)=n:=EXN n U;have O1:=J<|Ps w w.heap.size (n+5) (E5 _) U;have B1:=J<|Eo w (EI (madeCells #[E .u8 0] (n+5)) 5);go_enter Tryz.func166,Tryz.ntmps166;go_wp2_with (with_reducible refine I2 18 ?_);refine Ed.in ?_;generalize w.alloc (EI (madeCells #[E .u8 0] (n+5)) 5)=w1 at*;have R2:=J<|Pu w1 [165,1,(n:Int)] Pv _ O;have BL:=J<|Eo w1 (EI ([165,1,(n:Int)].map (E .u8)).toArray 5);replace O1:=J<|XF O1.out BL.out;replace B1:=ET B1 BL.out;simp only[List.map_cons,List.map_nil] at O1 R2 B1;clear BL;go_wp2_with ((with_reducible refine In 19 ?_);(with_reducible refine i_ _ (Ei O) (.tmp 14) (.tmp 18) O w.heap.size (X ⟨w.heap.size,0,Z⟩) (n+5) 0 [] O ?_ O1.out (X ⟨w1.heap.size,0,Z⟩) 3 3 [165,1,(n:Int)] O ?_ R2.out U B1.out.size ?_);(·rfl);(·rfl);intro A2 c2 w3 o3 b3 k3;refine Ed.mk ?_);refine Ed.in ?_;replace O1:Ea (Own w3 w.heap.size A2 c2 [165,1,(n:Int)]):=J o3;replace B1:=J<|B1.out.trans b3;clear b3 k3 o3 R2;go_wp2_with ((with_reducible refine In 22 ?_);(with_reducible refine i_ _ (Ei O) (.tmp 20) (.tmp 21) O w.heap.size A2 c2 3 [165,1,(n:Int)] O ?_ O1.out A c n xs HN.out ?_ (HR.out.B B1.out) U B1.out.size ?_);(·rfl);(·rfl);intro A3 c3 w4 o4 b4 k4;refine Ed.mk ?_);refine Ed.in ?_;replace O1:=J o4;replace B1:=J<|B1.out.trans b4;clear b4 k4 o4;have HL:Ea (([165,1,(n:Int)]++xs).length=n+3):=J oc;rw[show 3+n=n+3 from U];generalize [165,1,(n:Int)]++xs=ys at*;obtain⟨g3,Eg6,rfl,lg3,kg3,cu3,Pw⟩:=Pf O1.out AN;have hc3:n+3<=c3:=by rw[<-HL.out];exact Pw
  have HRW:=J<|EXM O1.out.row g3 O 1;have lF:Ea ((ys.drop 1).length=n+2):=J (by rw[List.length_drop,HL.out];omega);generalize ys.drop 1=zs at*;clear kg3 cu3 Pw;go_wp2_with fail;(with_reducible refine(Pq (X ⟨g3,1,Z⟩) zs (n+2) _ _ lF.out HRW.out U).mono ?_);rintro e w5 ⟨rfl,rfl⟩;have hci:=Pp zs;generalize UY zs=s at*;go_wp2_with (with_reducible refine I2 32 ?_);refine Ed.in ?_;have R5:=J<|Pu w4 [s/256,s%256] Pv _ O;have BL:=J<|Eo w4 (EI ([s/256,s%256].map (E .u8)).toArray 5);replace O1:=J<|XF O1.out BL.out;replace B1:=ET B1 BL.out;simp only[List.map_cons,List.map_nil] at O1 R5 B1;clear BL;go_wp2_with ((with_reducible refine In 33 ?_);(with_reducible refine i_ _ (Ei O) (.tmp 26) (.tmp 32) O w.heap.size (X ⟨g3,0,Z⟩) c3 (n+3) ys HL.out ?_ O1.out (X ⟨w4.heap.size,0,Z⟩) 2 2 [s/256,s%256] O ?_ R5.out U B1.out.size ?_);(·rfl);(·rfl);intro A6 c6 w6 o6 b6 k6;refine Ed.mk ?_);refine Ed.in ?_;replace B1:=J<|B1.out.trans b6;clear b6 k6 o6;go_wp2_with fail;go_ret2;exact⟨⟨_,_,_,_,O⟩,B1.out⟩
 ·have t1:decide ((32:Int)<(n:Int))=G:=Ia U;go_enter Tryz.func166,Tryz.ntmps166;go_wp2_with fail;go_ret2;exact⟨⟨_,_,_,_,O⟩,E6 _ _⟩
def JD(c:EA):List M:=[E I c.mode,E I c.pt.c,E I c.pt.n0,E I c.pt.n1,E I c.pt.n2,E I c.pt.n3,E I c.El.r,E I c.El.s,E I c.El.q,E I c.pt.b.r,E I c.pt.b.s,E I c.pt.b.q]
def I7(act:List M)(sv rv:M)(hd:List Int):List M:=act++([sv,rv]++hd.map (E .u8))
theorem Xt:ID EJ 43 46:=⟨⟨_,Tryz.underlying43,O⟩,Ec⟩
theorem EXS(c:EA)(A Y4:Option Et)(n m d f:Nat)(h0 h1 h2 h3 h4 h5 h6 h7 h8 h9 h10 h11 h12 bZ hU xE h16 jo h18 h19 h20 h21 h22 h23 xI xJ xO h27 xU xX xZ h31:Int):Tryz.prog.built 43 [(0,EU #[E I c.mode,E I c.pt.c,E I c.pt.n0,E I c.pt.n1,E I c.pt.n2,E I c.pt.n3,E I c.El.r,E I c.El.s,E I c.El.q,E I c.pt.b.r,E I c.pt.b.s,E I c.pt.b.q]),(1,u A n d),(2,u Y4 m f),(3,EU ([h0,h1,h2,h3,h4,h5,h6,h7,h8,h9,h10,h11,h12,bZ,hU,xE,h16,jo,h18,h19,h20,h21,h22,h23,xI,xJ,xO,h27,xU,xX,xZ,h31].map (E .u8)).toArray)]=X (I7 (JD c) (u A n d) (u Y4 m f) [h0,h1,h2,h3,h4,h5,h6,h7,h8,h9,h10,h11,h12,bZ,hU,xE,h16,jo,h18,h19,h20,h21,h22,h23,xI,xJ,xO,h27,xU,xX,xZ,h31]).toArray:=Ec
theorem EXT(c:EA)(A Y4:Option Et)(n m d f:Nat)(hd:List Int)(h:hd.length=32):Tryz.prog.built 43 [(0,EU #[E I c.mode,E I c.pt.c,E I c.pt.n0,E I c.pt.n1,E I c.pt.n2,E I c.pt.n3,E I c.El.r,E I c.El.s,E I c.El.q,E I c.pt.b.r,E I c.pt.b.s,E I c.pt.b.q]),(1,u A n d),(2,u Y4 m f),(3,EU (hd.map (E .u8)).toArray)]=X (I7 (JD c) (u A n d) (u Y4 m f) hd).toArray:=by
 match hd,h with
 |[h0,h1,h2,h3,h4,h5,h6,h7,h8,h9,h10,h11,h12,bZ,hU,xE,h16,jo,h18,h19,h20,h21,h22,h23,xI,xJ,xO,h27,xU,xX,xZ,h31],_=>exact EXS c A Y4 n m d f h0 h1 h2 h3 h4 h5 h6 h7 h8 h9 h10 h11 h12 bZ hU xE h16 jo h18 h19 h20 h21 h22 h23 xI xJ xO h27 xU xX xZ h31
theorem rG(lo hi:Nat)(g:Nat->M)(gc gq gt gs:Nat)(c:EA)(ns:Nat)(rs:List Rec)(w:H)(S:E4 lo hi g gc gq gt gs c ns rs w): Ef EJ 46 #[V (X ⟨gs,0,Z⟩)] w fun e w'=> ∃(sv rv:M) (sc:oU) (hd:List Int),e=Eg (EU (I7 (JD c) sv rv hd).toArray)/\hd.length=32/\(∀x∈hd,0<=x/\x<=255)/\w'.ownsRow hi 264 2 sv ns sc.l/\w'.ownsRow hi 58 6 rv rs.length (J1 rs)/\Eh w w':=by
 obtain⟨sv,rv,sc,KS,OS,OR⟩:=S.bX;obtain⟨d0,d1,d2,hd,KG,o0,o1,o2,JA,J5⟩:=S.core.Em;have HF:=J<|J4 (c:=c) (gq:=gq) (gt:=gt) (hd:=hd) (Jj g) o0 o1 o2 12 U;have lF:=J (show(hd.map (E .u8)).length=32 by simp[JA]);obtain⟨A1,e1,rfl,-⟩:=UL OS;obtain⟨A2,e2,rfl,-⟩:=UL OR;have BT:=J<|EXT c A1 A2 ns rs.length e1 e2 hd JA;have SZ:=J (show(I7 (JD c) (u A1 ns e1) (u A2 rs.length e2) hd).toArray.size=46 by simp[I7,JD,JA]);have ONE:=J<|show(I7 (JD c) (u A1 ns e1) (u A2 rs.length e2) hd).toArray.all (·.oneCell')=G from all_oneCell_toArray (by intro v hv;simp only[I7,JD,List.mem_append,List.mem_cons,List.not_mem_nil,or_false,List.mem_map] at hv;rcases hv with hv|(rfl|rfl)|⟨x,-,rfl⟩<;>first|rfl|(rcases hv with rfl|rfl|rfl|rfl|rfl|rfl|rfl|rfl|rfl|rfl|rfl|rfl<;>rfl));have KS:=J KS;have KG:=J KG;have CC:=J<|fun(W:H) (K:OZ W gc (ZJ (EH 56 g).toList c gq gt d0 d1 d2 hd) 120) (k:Nat) (hk:k<13) (old:List M) (ho:(ZJ (EH 56 g).toList c gq gt d0 d1 d2 hd)[k]?=X old) (j:Nat) (hj:j<old.length)=>Db K o0 o1 o2 k hk ho j hj;have HB:=J (show hd.length=32/\ ∀x∈hd,0<=x/\x<=255 from⟨JA,J5⟩);have OS:=J OS;have OR:=J OR;clear S o0 o1 o2 JA J5;go_enter Tryz.func46,Tryz.ntmps46;go_wp2_with fail;generalize hW:World.alloc _ _=w1 at*;have K2:Ea (∃z:Array M,z.size=46/\D w1 w.heap.size z 43):=J ⟨_,O,hW▸D.new _ _ _⟩;have b1:Eh w w1:=hW▸Eo w _;replace KS:=J<|KS.out.B b1;replace KG:=J<|KG.out.B b1;replace OS:=J<|EW OS.out fun _ _ h=>D.B h b1;replace OR:=J<|EW OR.out fun _ _ h=>D.B h b1;have BB:=J b1;clear hW b1;have cs0: ∀y:Ext w1,(Ex w1 y).cell? ⟨gs,0,Z⟩=X (V (X ⟨gc,0,Z⟩)):=fun y=>(D.cell (KS.out.B (EC y)) 0).trans O;have cs1: ∀y:Ext w1,(Ex w1 y).cell? ⟨gs,1,Z⟩=X (u A1 ns e1):=fun y=>(D.cell (KS.out.B (EC y)) 1).trans O;have cs2: ∀y:Ext w1,(Ex w1 y).cell? ⟨gs,2,Z⟩=X (u A2 rs.length e2):=fun y=>(D.cell (KS.out.B (EC y)) 2).trans O;have EXV: ∀y:Ext w1,(Ex w1 y).cell? ⟨gc,98,Z⟩=X (E I c.mode):=fun y=>CC.out _ (KG.out.B (EC y)) 9 U _ O 0 co;have EXW: ∀y:Ext w1,(Ex w1 y).cell? ⟨gc,99,Z⟩=X (E I c.El.r):=fun y=>CC.out _ (KG.out.B (EC y)) 10 U _ O 0 co;have EXY: ∀y:Ext w1,(Ex w1 y).cell? ⟨gc,100,Z⟩=X (E I c.El.s):=fun y=>CC.out _ (KG.out.B (EC y)) 10 U _ O 1 co;have EX1: ∀y:Ext w1,(Ex w1 y).cell? ⟨gc,101,Z⟩=X (E I c.El.q):=fun y=>CC.out _ (KG.out.B (EC y)) 10 U _ O 2 co;have EX2: ∀y:Ext w1,(Ex w1 y).cell? ⟨gc,102,Z⟩=X (E I c.pt.c):=fun y=>CC.out _ (KG.out.B (EC y)) 11 U _ O 0 co;have EX3: ∀y:Ext w1,(Ex w1 y).cell? ⟨gc,107,Z⟩=X (E I c.pt.n0):=fun y=>CC.out _ (KG.out.B (EC y)) 11 U _ O 5 co;have EX4: ∀y:Ext w1,(Ex w1 y).cell? ⟨gc,108,Z⟩=X (E I c.pt.n1):=fun y=>CC.out _ (KG.out.B (EC y)) 11 U _ O 6 co;have EX6: ∀y:Ext w1,(Ex w1 y).cell? ⟨gc,109,Z⟩=X (E I c.pt.n2):=fun y=>CC.out _ (KG.out.B (EC y)) 11 U _ O 7 co;have EX7: ∀y:Ext w1,(Ex w1 y).cell? ⟨gc,110,Z⟩=X (E I c.pt.n3):=fun y=>CC.out _ (KG.out.B (EC y)) 11 U _ O 8 co;have EX8: ∀y:Ext w1,(Ex w1 y).cell? ⟨gc,111,Z⟩=X (E I c.pt.b.r):=fun y=>CC.out _ (KG.out.B (EC y)) 11 U _ O 9 co;have EX9: ∀y:Ext w1,(Ex w1 y).cell? ⟨gc,112,Z⟩=X (E I c.pt.b.s):=fun y=>CC.out _ (KG.out.B (EC y)) 11 U _ O 10 co;have EX_: ∀y:Ext w1,(Ex w1 y).cell? ⟨gc,113,Z⟩=X (E I c.pt.b.q):=fun y=>CC.out _ (KG.out.B (EC y)) 11 U _ O 11 co;refine JB 54 Ec Ec ?_;simp only[Il,Ij,Iz,Ix]
 repeat (first
  |go_big_quiet_skip
  |(go_big_quiet_want
    first
     |(refine Xa (T:=41) (g:=gc) (off:=114) JC _ rfl rfl KG 12 rfl HF.out lF.out ?_;go_simp;go_big_quiet_on)
     |(go_big_quiet_op
       first
        |go_big_quiet_on
        |go_big_quiet_call (fail))))
 refine wpQuiet_nil ?_;intro _ hw';obtain⟨y9,rfl⟩:=hw';have El:=EC y9;replace OS:=J<|EW OS.out fun _ _ h=>D.B h El;replace OR:=J<|EW OR.out fun _ _ h=>D.B h El;replace BB:=ET BB El;obtain⟨z,hz,kz⟩:=K2.out;have KZ:=J<|D.B kz El;have HZ:=J hz;clear cs0 cs1 cs2 El kz hz K2 KG KS EXV EXW EXY EX1 EX2 EX3 EX4 EX6 EX7 EX8 EX9 EX_;generalize Ex w1 y9=w2 at*;obtain⟨tv,IE⟩: ∃tv,tv=(I7 (JD c) (u A1 ns e1) (u A2 rs.length e2) hd).toArray:=⟨_,O⟩;rw[<-IE] at BT SZ ONE;replace IE:=J IE;go_wp2_with (first|((with_reducible refine In 57 ?_);refine IP rfl 43 _ rfl tv BT.out ?_)|(with_reducible refine wS (cs:=tv) Xt KZ ?_ (ho:=HZ.out) (hn:=SZ.out) (h1:=ONE.out)));refine EQ (Jb Xt O _ _ w.heap.size tv O (KZ.out.setRow tv) SZ.out) O ?_;refine⟨u A1 ns e1,u A2 rs.length e2,sc,hd,by rw[IE.out],HB.out.1,HB.out.2,?_,?_,E2 (g:=w.heap.size) BB.out (E5 _) tv⟩;·exact EW OS.out fun _ _ h=>D.setRow_other h _ _ (E7 h KZ.out EZ)
 ·exact EW OR.out fun _ _ h=>D.setRow_other h _ _ (E7 h KZ.out EZ)
end Go.Proofs.YtclmichaaiohjaaGreatDoor
