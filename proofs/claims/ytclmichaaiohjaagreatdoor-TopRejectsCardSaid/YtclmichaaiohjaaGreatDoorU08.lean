import Derived.Test.YtclmichaaiohjaaGreatDoorU07
set_option maxRecDepth 100000
set_option linter.unusedVariables false
set_option linter.unusedSimpArgs false
set_option maxHeartbeats 6400000
namespace Go.Proofs.YtclmichaaiohjaaGreatDoor
open RowKit
open _root_.Array renaming getElem?_eq_some_iff->J6
open Bool renaming true->EI,false->B,or_eq_true->mf
open Go renaming World->H,Calls->Ef,Value->Y,Addr->Eu,heap_alloc_new->fz,bodyPost_ret->EV,results->UL,Act->E6,Oper->EL,execOp->If,wpList->Ic,below_setRow->E2,wpQuiet_nil->I1,wp_loop_rounds->Ud,rounds_succ->Ij,results_none->UQ,Ending->Uh,wpList_store_mid->Ui
open Act renaming put->Ig
open Code renaming region->aG
open Ending renaming returned->Eg
open Instr renaming index->Uj,mapUpdate->jB,lookup->gu
open IntKind renaming wrap->oI,bits->jV,signed->jW,i64->I,u8->IL
open Lib renaming hid->J
open Obj renaming cells->EJ
open Go.Proofs.Tryz renaming prog->Eb
open Region renaming binds->UN
open Result renaming andThen_ok->OC
open RowKit renaming Hid->Ec
open RowKit.Below renaming refl->E9,alloc->JQ,setCell->JR,size->U8
open Sem renaming run_bind->Oz,run_pure->Og,run->Us
open Value renaming bool->EU,int->E,agg->EZ,slice->G,tuple->Et,pointer->M,oneCell'->OF
open World renaming alloc->Uz
open Int renaming le_refl->Zo
open List renaming getElem?_eq_none->bf,getElem?_eq_getElem->J5,range->U4,mem_range->aH,nodup_cons->mc,all_eq_true->Xk,take_succ_cons->Iq,getD_eq_getElem?_getD->Uq,take_zero->Io,mem_map->dU,setIfInBounds_toArray->Ii,length_append->IY,mem_cons->UJ,set_cons_succ->Ia,set_cons_zero->Ib,mem_append->XM,map_append->kU,not_mem_nil->UA,drop_succ_cons->IP,drop_zero->IH,append_nil->fS
open Nat renaming lt_or_ge->JY,le_trans->Ez,le_refl->E7,zero_le->bG,add_assoc->jj,le_of_lt->am,le_of_eq->Om
open Option renaming some->Z,none->X,map_some->jY
open KQ
variable{lo hi gc gq gt gs ns b gm n0:Nat}{g:Nat->Y}{rs:List Rec}{w W W' w':H}{L':List One}{s:Int}{t t2:EK}{p:Pt}{T:EQ}{l:List Int}{v:Y}{o:Obj}
theorem E5.gd{c:Ey}(S:E5 lo hi g gc gq gt gs c ns rs w):hi<=w.heap.size:=by obtain⟨_,_,_,KS,_⟩:=S.fU;have:=S.his;have:=KS.lt;omega
theorem JE.gh{c:Ey}(h:JE lo g gc gq gt c W)(m:Iy lo W W')(L':List One)(q:Jn W' lo gq L' (pn g 48))(hok:({c with q:=L'}:Ey).ok):JE lo g gc gq gt {c with q:=L'} W':=by
 obtain⟨d0,d1,d2,hd,k,r⟩:=h.Ek;have hl:=m.bel;refine⟨h.lo2,h.X2,hok,h.lc,h.lq,h.lt,⟨d0,d1,d2,hd,m.Ek k Ea Ea,r⟩,m.Ek h.tab Ea Ea,q,fun i h1 h2=>(h.keys i h1 h2).Ek fun _ _ hk=>m.Ek hk Ea Ea,fun i hi=> ?_,fun i hi=> ?_⟩;·exact En4
 ·exact En6
theorem E5.gh{c:Ey}(h:E5 lo hi g gc gq gt gs c ns rs W)(m:Iy lo W W')(L':List One)(q:Jn W' lo gq L' (pn g 48))(hok:({c with q:=L'}:Ey).ok):E5 lo hi g gc gq gt gs {c with q:=L'} ns rs W':=by obtain⟨sv,rv,sc,k,r1,r2⟩:=h.fU;exact⟨h.core.gh m L' q hok,h.hc,h.hq,h.ht,h.ct,h.his,sv,rv,sc,m.Ek k Ea Ea,EP r1 fun _ _ hk=>m.Ek hk Ea Ea,EP r2 fun _ _ hk=>m.Ek hk Ea Ea⟩
theorem Ey.ok.sub{c:Ey}(h:c.ok)(s:UC L' c.q):({c with q:=L'}:Ey).ok:=
 ⟨h.tok,h.T,Ez s.len h.q,fun x hx=>h.ones x (s.mem x hx),fun x hx=>h.src x (s.mem x hx),s.nd h.nd,h.ic,h.jp,h.mode,h.Em,h.pt,h.In⟩
theorem Vb{L:List Int}(h1: ∀x∈L,1<=x/\x<=3)(h2:L.Nodup):L.length<=3:=by have h:=List.Nodup.length_le_of_subset (l₂:=[1,2,3]) h2 (fun x hx=>by have:=h1 x hx;simp only[UJ,UA,or_false];omega);simpa using h
theorem Ey.ok.push{c:Ey}(h:c.ok){x:One}(p:L'.Perm (c.q++[x]))(hx:x.ok)(h1:1<=x.s/\x.s<=3)(h2: ∀y∈c.q,y.s≠x.s):({c with q:=L'}:Ey).ok:=by
 have hs: ∀y∈L',1<=y.s/\y.s<=3:=fun y hy=>by
  rcases XM.1 (p.mem_iff.1 hy) with h'|h';·exact h.src y h'
  ·simp at h';subst h';exact h1
 have hn:(L'.map One.s).Nodup:=by rw[(p.map One.s).nodup_iff,kU,List.nodup_append];refine⟨h.nd,Eh,?_⟩;intro a ha b hb;simp at hb;subst hb;obtain⟨y,hy,rfl⟩:=dU.1 ha;exact h2 y hy
 refine⟨h.tok,h.T,?_,fun y hy=> ?_,hs,hn,h.ic,h.jp,h.mode,h.Em,h.pt,h.In⟩;·have:=Vb (L:=L'.map One.s) (fun z hz=>by obtain⟨y,hy,rfl⟩:=dU.1 hz;exact hs y hy) hn;exact EnV
 ·rcases XM.1 (p.mem_iff.1 hy) with h'|h';·exact h.ones y h'
  ·simp at h';subst h';exact hx
theorem Ey.ok.room{c:Ey}(h:c.ok)(h1:1<=s/\s<=3)(h2: ∀x∈c.q,x.s≠s):c.q.length<=2:=by
 have:=Vb (L:=s::c.q.map One.s) (fun z hz=>by
  rcases UJ.1 hz with rfl|hz;·exact h1
  ·obtain⟨y,hy,rfl⟩:=dU.1 hz;exact h.src y hy) (mc.2 ⟨fun hm=>by obtain⟨y,hy,e⟩:=dU.1 hm;exact h2 y hy e,h.nd⟩)
 simp at this;omega
theorem E5.set{c:Ey}{c':Ey}(S:E5 lo hi g gc gq gt gs c ns rs W)(ho:E3 gc W W')(hT:c'.T=c.T)(hq:c'.q=c.q)(hok:c'.ok) (hb: ∀(d0 d1 d2:Dr) (hd:List Int),Jc W gc (ak (EG 56 g).toList c gq gt d0 d1 d2 hd) 120->d0.ok->d1.ok->d2.ok->Jc W' gc (ak (EG 56 g).toList c' gq gt d0 d1 d2 hd) 120):E5 lo hi g gc gq gt gs c' ns rs W'/\Ew lo hi W W':=by obtain⟨d0,d1,d2,hd,k,o0,o1,o2,r⟩:=S.core.Ek;obtain⟨sv,rv,sc,ks,r1,r2⟩:=S.fU;have k':=hb d0 d1 d2 hd k o0 o1 o2;exact⟨⟨S.core.set ho hT hq hok ⟨d0,d1,d2,hd,k',o0,o1,o2,r⟩,S.hc,S.hq,S.ht,S.ct,S.his,sv,rv,sc,ho.Ek ks (EW ks k Ea),EP r1 fun _ _ hk=>ho.Ek hk (EW hk k Ea),EP r2 fun _ _ hk=>ho.Ek hk (EW hk k Ea)⟩,Ew.vO ho k k' Ea S.core.lc⟩
theorem E5.ar{c:Ey}(S:E5 lo hi g gc gq gt gs c ns rs W)(x:EK)(hok:({c with tok:=x}:Ey).ok):E5 lo hi g gc gq gt gs {c with tok:=x} ns rs (W.setCells gc 56 x.v)/\Ew lo hi W (W.setCells gc 56 x.v):=
 S.set (JG _ _ _) O O hok fun d0 d1 d2 hd K o0 o1 o2=>K.set 1 rfl (Ok (Jz g) o0 o1 o2 1 U) x.v O
theorem E5.K_{c:Ey}(S:E5 lo hi g gc gq gt gs c ns rs W)(x:Int)(hok:({c with samples:=x}:Ey).ok):E5 lo hi g gc gq gt gs {c with samples:=x} ns rs (W.setCells gc 96 [E I x])/\Ew lo hi W (W.setCells gc 96 [E I x]):=
 S.set (JG _ _ _) O O hok fun d0 d1 d2 hd K o0 o1 o2=>K.set 7 rfl (Ok (Jz g) o0 o1 o2 7 U) [E I x] O
theorem E5.vH{c:Ey}(S:E5 lo hi g gc gq gt gs c ns rs W)(x:Int)(hok:({c with beyond:=x}:Ey).ok):E5 lo hi g gc gq gt gs {c with beyond:=x} ns rs (W.setCells gc 97 [E I x])/\Ew lo hi W (W.setCells gc 97 [E I x]):=
 S.set (JG _ _ _) O O hok fun d0 d1 d2 hd K o0 o1 o2=>K.set 8 rfl (Ok (Jz g) o0 o1 o2 8 U) [E I x] O
theorem E5.vK{c:Ey}(S:E5 lo hi g gc gq gt gs c ns rs W)(x:Int)(hok:({c with mode:=x}:Ey).ok):E5 lo hi g gc gq gt gs {c with mode:=x} ns rs (W.setCells gc 98 [E I x])/\Ew lo hi W (W.setCells gc 98 [E I x]):=
 S.set (JG _ _ _) O O hok fun d0 d1 d2 hd K o0 o1 o2=>K.set 9 rfl (Ok (Jz g) o0 o1 o2 9 U) [E I x] O
theorem E5.vL{c:Ey}(S:E5 lo hi g gc gq gt gs c ns rs W)(x:Xz)(hok:({c with Em:=x}:Ey).ok):E5 lo hi g gc gq gt gs {c with Em:=x} ns rs (W.setCells gc 99 x.v)/\Ew lo hi W (W.setCells gc 99 x.v):=
 S.set (JG _ _ _) O O hok fun d0 d1 d2 hd K o0 o1 o2=>K.set 10 rfl (Ok (Jz g) o0 o1 o2 10 U) x.v O
theorem E5.il{c:Ey}(S:E5 lo hi g gc gq gt gs c ns rs W)(x:Pt)(hok:({c with pt:=x}:Ey).ok):E5 lo hi g gc gq gt gs {c with pt:=x} ns rs (W.setCells gc 102 x.v)/\Ew lo hi W (W.setCells gc 102 x.v):=
 S.set (JG _ _ _) O O hok fun d0 d1 d2 hd K o0 o1 o2=>K.set 11 rfl (Ok (Jz g) o0 o1 o2 11 U) x.v O
theorem cD{c:Ey}(C:JE lo g gc gq gt c w)(k:Nat){old:List Y}(ho:coreC (EG 56 g).toList c gq gt k=Z old)(n:Nat)(hn:n<=old.length):w.there gc (kL k) n:=by
 obtain⟨d0,d1,d2,hd,KG,o0,o1,o2,-,-⟩:=C.Ek
 have hk:k<13:=by
  rcases JY k 13 with h|h;·exact h
  ·unfold coreC at ho;split at ho<;>first|omega|cases ho
 refine KG.there k (old:=old) ?_ (Ok (Jz g) o0 o1 o2 k hk) n hn;unfold coreC at ho;split at ho<;>first|exact ho|cases ho
theorem sC{c:Ey}(C:JE lo g gc gq gt c w)(i:Nat):w.frozen? ⟨gc,i,X⟩=B:=by obtain⟨d0,d1,d2,hd,KG,-⟩:=C.Ek;exact KG.JX i
theorem bI{c:Ey}(C:JE lo g gc gq gt c w): ∃big:Array Y,D w gc big 120/\ ∀(k:Nat) (old:List Y),coreC (EG 56 g).toList c gq gt k=Z old->big.extract (kL k) (kL k+old.length)=old.toArray:=by
 obtain⟨d0,d1,d2,hd,KG,o0,o1,o2,-,-⟩:=C.Ek;refine⟨_,KG,fun k old ho=> ?_⟩
 have hk:k<13:=by
  rcases JY k 13 with h|h;·exact h
  ·unfold coreC at ho;split at ho<;>first|omega|cases ho
 refine Jc.extract k (old:=old) ?_ (Ok (Jz g) o0 o1 o2 k hk) _ O;unfold coreC at ho;split at ho<;>first|exact ho|cases ho
theorem Ec0(c0 a0 a1 a2 a3 n0 n1 n2 n3 r0 s0 q0 r s q:Int)(w:H): Ef Eb 144 #[EZ #[E I c0,E I a0,E I a1,E I a2,E I a3,E I n0,E I n1,E I n2,E I n3,E I r0,E I s0,E I q0],EZ #[E I r,E I s,E I q]] w fun e w'=>e=Eg (EZ #[E I c0,E I 0,E I 0,E I 0,E I 0,E I n0,E I n1,E I n2,E I n3,E I r,E I s,E I q])/\El w w':=by go_enter Tryz.func144,Tryz.ntmps144;go_wp2_with fail;refine EV (v:=EZ #[E I c0,E I 0,E I 0,E I 0,E I 0,E I n0,E I n1,E I n2,E I n3,E I r,E I s,E I q]) (by simp[UL,Tryz.results144,go_sem]) O ⟨O,?_⟩;exact Elx
theorem Br(g:Nat->Y)(m:Int)(i:Int)(k:Nat)(hik:(i=0/\k=50)\/(i=1/\k=51)\/(i=2/\k=52)\/(i=3/\k=53))(hm:g k=E I m)(h0:0<=m/\m<=32767)(c0 a0 a1 a2 a3 n0 n1 n2 n3 r0 s0 q0 r s q:Int)(x0 x1 x2 x3:Int)(w:H): Ef Eb 139 #[EZ (EG 56 g),EZ #[E I c0,E I a0,E I a1,E I a2,E I a3,E I n0,E I n1,E I n2,E I n3,E I r0,E I s0,E I q0],E I i,EZ #[E I x0,E I x1,E I x2,E I x3],EZ #[E I r,E I s,E I q]] w fun e w'=>e=Eg (EZ #[E I i,E I (aC x0 (-m) m),E I (aC x1 (-m) m),E I (aC x2 (-m) m),E I (aC x3 (-m) m),E I n0,E I n1,E I n2,E I n3,E I r,E I s,E I q])/\El w w':=by
 have j0: ∀w,(Uj 25 (EZ #[E I x0,E I x1,E I x2,E I x3]) (E I 0)).run Eb w= .ok (E I x0) w:=fun _=>Ed;have j1: ∀w,(Uj 25 (EZ #[E I x0,E I x1,E I x2,E I x3]) (E I 1)).run Eb w= .ok (E I x1) w:=fun _=>Ed;have j2: ∀w,(Uj 25 (EZ #[E I x0,E I x1,E I x2,E I x3]) (E I 2)).run Eb w= .ok (E I x2) w:=fun _=>Ed;have j3: ∀w,(Uj 25 (EZ #[E I x0,E I x1,E I x2,E I x3]) (E I 3)).run Eb w= .ok (E I x3) w:=fun _=>Ed;have hl:k<56:=U;have hneg:IntKind.i64.wrap (-m)= -m:=FH;rcases hik with⟨rfl,rfl⟩|⟨rfl,rfl⟩|⟨rfl,rfl⟩|⟨rfl,rfl⟩
 all_goals
  go_enter Tryz.func139,Tryz.ntmps139
  go_wp2_with fail
  refine Ud 5 ?_
  rw[Ij]
  go_wp2_with (go_at_call 184;(with_reducible refine(tL _ _ _ _).mono ?_);rintro e w1 ⟨rfl,rfl⟩)
  rw[Ij]
  go_wp2_with (go_at_call 184;(with_reducible refine(tL _ _ _ _).mono ?_);rintro e w1 ⟨rfl,rfl⟩)
  rw[Ij]
  go_wp2_with (go_at_call 184;(with_reducible refine(tL _ _ _ _).mono ?_);rintro e w1 ⟨rfl,rfl⟩)
  rw[Ij]
  go_wp2_with (go_at_call 184;(with_reducible refine(tL _ _ _ _).mono ?_);rintro e w1 ⟨rfl,rfl⟩)
  rw[Ij]
  go_wp2_with (go_at_call 184;(with_reducible refine(tL _ _ _ _).mono ?_);rintro e w1 ⟨rfl,rfl⟩)
  refine EV (v:=EZ #[E I _,E I (aC x0 (-m) m),E I (aC x1 (-m) m),E I (aC x2 (-m) m),E I (aC x3 (-m) m),E I n0,E I n1,E I n2,E I n3,E I r,E I s,E I q]) (by simp[UL,Tryz.results139,go_sem]) O ⟨O,?_⟩
  (repeat (first|exact E9 _ _|(refine JQ ?_ Iv _)|(refine JR ?_ Iv _)))
theorem fc:IG Eb 36 3:=⟨⟨_,Tryz.underlying36,O⟩,Ed⟩
theorem im:IG Eb 50 12:=⟨⟨_,Tryz.underlying50,O⟩,Ed⟩
theorem Ey.ok.ar{c:Ey}(h:c.ok)(ht:t.ok):({c with tok:=t}:Ey).ok:=⟨ht,h.T,h.q,h.ones,h.src,h.nd,h.ic,h.jp,h.mode,h.Em,h.pt,h.In⟩
theorem nr(lo hi:Nat)(g:Nat->Y)(gc gq gt gs:Nat)(c:Ey)(ns:Nat)(rs:List Rec)(t:EK)(how n:Int)(w:H)(S:E5 lo hi g gc gq gt gs c ns rs w)(ht:t.ok)(hn:ns<900000)(hl:rs.length<900000): Ef Eb 97 #[M (Z ⟨gs,0,X⟩),t.a,E I how,E I n] w fun e w'=>e=Eg (Et #[])/\(∃L' m,m<=2/\UC L' c.q/\E5 lo hi g gc gq gt gs {c with tok:=t,q:=L'} (ns+m) (rs++[⟨8,t.h,n,t.e,0,how⟩]) w')/\Ew lo hi w w':=by
 obtain⟨tv,IE,TS,TO,Z4,gZ⟩: ∃tv,t.a=EZ tv/\Ec (tv.size=8)/\Ec (tv.all (·.oneCell')=EI)/\Ec (tv.toList=t.v)/\Ec (∀W g,D W g tv 109->W.cell? ⟨g,0,X⟩=Z (E I t.h)/\W.cell? ⟨g,1,X⟩=Z (E I t.e)):=⟨_,O,J O,J (fK _ _ _ _ _ _ _ _),J O,J fun W g K=>⟨(D.cell K 0).trans O,(D.cell K 1).trans O⟩⟩;rw[IE];have kP:=J S;have HT:=J ht;have HN:=J hn;have HL:=J hl;clear S ht hn hl IE;obtain⟨h2,Vc⟩:=En t.h;obtain⟨e2,he2⟩:=En t.e;rw[<-Vc,<-he2] at gZ⊢;replace he2:=J he2;clear Vc;have BR1:Tryz.prog.built 222 [(0,E I 134),(3,E I h2),(4,E I e2)]=Z (I6 [134,0,0,h2,e2,0,0,0,0,0,0,0,0,0]):=Ed;have BR2:Tryz.prog.built 222 [(0,E I 133),(4,E I e2)]=Z (I6 [133,0,0,0,e2,0,0,0,0,0,0,0,0,0]):=Ed;go_enter Tryz.func97,Tryz.ntmps97;have KT:=J<|D.new w tv 109;have b1:=Er w (EJ tv 109);have S1:=J<|kP.out.V b1;have MM:=J<|Ew.EA (lo:=lo) (hi:=hi) b1;go_wp2_with fail;clear b1;generalize w.alloc (EJ tv 109)=w1 at*;obtain⟨gk,Zu⟩:=En w.heap.size;rw[<-Zu] at KT⊢;clear Zu;have y0: ∀y:Ext w1,(EC w1 y).cell? ⟨gs,0,X⟩=Z (M (Z ⟨gc,0,X⟩)):=fun y=>(S1.out.V (EN y)).IB;have y1: ∀y:Ext w1,(EC w1 y).cell? ⟨gc,56,X⟩=Z (E I c.tok.h):=fun y=>(S1.out.V (EN y)).core.cell 1 rfl 0 XR;have y2: ∀y:Ext w1,(EC w1 y).cell? ⟨gk,0,X⟩=Z (E I h2):=fun y=>(gZ.out _ _ (D.V KT.out (EN y))).1;refine Zy Ed Ed ?_
 repeat (first
  |go_big_quiet_skip
  |(go_big_quiet_want
    first
     |(go_big_quiet_op
       first
        |go_big_quiet_on
        |go_big_quiet_call (fail))))
 refine I1 ?_;intro _ hw';obtain⟨y9,rfl⟩:=hw';have Em:=EN y9;replace KT:=EM KT Em;replace S1:=J<|S1.out.V Em;replace MM:=J<|MM.out.trans (Ew.EA Em);clear y0 y1 y2 Em;generalize EC w1 y9=w2 at*;go_wp2_with fail;have y0: ∀y:Ext w2,(EC w2 y).cell? ⟨gs,0,X⟩=Z (M (Z ⟨gc,0,X⟩)):=fun y=>(S1.out.V (EN y)).IB;refine J_ 7 Ed Ed ?_;simp only[Iq,Io,IP,IH]
 repeat (first
  |go_big_quiet_skip
  |(go_big_quiet_want
    first
     |(refine UB (T:=109) (g:=gk) ER _ rfl rfl KT ?_ ?_;(·exact TS.out);go_simp;go_big_quiet_on)
     |(go_big_quiet_op
       first
        |go_big_quiet_on
        |go_big_quiet_call (fail))))
 refine I1 ?_;intro _ hw';obtain⟨y9,rfl⟩:=hw';have Em:=EN y9;replace KT:=EM KT Em;replace S1:=J<|S1.out.V Em;replace MM:=J<|MM.out.trans (Ew.EA Em);clear y0 Em;generalize EC w2 y9=w3 at*;have TH:=J<|cD S1.out.core 1 rfl 8 XR;go_wp2_with ((with_reducible refine JB 109 ?_);(with_reducible refine Ui O 109 _ _ O gc 56 tv ?_ ?_ ?_ ?_ ?_ ?_);(·rfl);(·rfl);(·rw[TS.out];exact TH.out);(·rw[TS.out];exact ER.2);(·exact TO.out);refine Ev.mk ?_);apply Eo;rw[Z4.out];have S4:=S1.out.ar t (S1.out.core.ok.ar HT.out);obtain⟨d0,d1,d2,hd,KG,-⟩:=S1.out.core.Ek;replace KT:=J<|(JG (g:=gc) t.v 56 w3).Ek KT.out (EW KT.out KG Ea);replace S1:=J S4.1;replace MM:=J<|MM.out.trans S4.2;clear S4 TH KG;generalize w3.setCells gc 56 t.v=w4 at*;have z0:=S1.out.IB;have z64:w4.cell? ⟨gc,64,X⟩=Z (M (Z ⟨gq,0,X⟩)):=S1.out.core.cell 2 rfl 0 Eh;go_wp2_with fail;refine(pL lo gq c.q (pn g 48) h2 _ S1.out.core.lq S1.out.core.ZL S1.out.core.ok.q).mono ?_;rintro e5 w5 ⟨⟨b5,rfl⟩,⟨L',q5,sq⟩,m5⟩;replace KT:=J<|m5.Ek KT.out Ea Ea;replace S1:=J<|S1.out.gh m5 L' q5 (S1.out.core.ok.sub sq);replace MM:=J<|MM.out.trans (m5.js hi);have SQ:=J sq;clear m5 q5 sq z0 z64;have c1:=(gZ.out _ _ KT.out).2;go_wp2_with ((with_reducible refine It 41 ?_);refine I3 O 222 _ O (I6 [134,0,0,h2,e2,0,0,0,0,0,0,0,0,0]) BR1 ?_);refine(Bf lo hi g gc gq gt gs _ ns rs [134,0,0,h2,e2,0,0,0,0,0,0,0,0,0] c.tok.h _ S1.out (pD _ _ _ _ _ _) J9).mono ?_;rintro e6 w6 ⟨rfl,⟨m1,hm1,s6⟩,m6⟩;replace KT:=J<|m6.Ek KT.out Ea Ea;replace S1:=J s6;replace MM:=J<|MM.out.trans m6;have jx:=J hm1;clear m6 s6 hm1 c1;have c1:=(gZ.out _ _ KT.out).2;go_wp2_with ((with_reducible refine It 47 ?_);refine I3 O 222 _ O (I6 [133,0,0,0,e2,0,0,0,0,0,0,0,0,0]) BR2 ?_);refine(Bf lo hi g gc gq gt gs _ (ns+m1) rs [133,0,0,0,e2,0,0,0,0,0,0,0,0,0] h2 _ S1.out (pD _ _ _ _ _ _) vM).mono ?_;rintro e7 w7 ⟨rfl,⟨m2,hm2,s7⟩,m7⟩;replace S1:=J s7;replace MM:=J<|MM.out.trans m7;have jy:=J hm2;clear m7 s7 hm2 c1 KT;go_wp2_with fail;refine(Zp lo hi g gc gq gt gs _ (ns+m1+m2) rs 8 h2 n 0 how _ S1.out JN).mono ?_;rintro e8 w8 ⟨rfl,s8,m8⟩;have S8:=J s8;replace MM:=J<|MM.out.trans m8;clear m8 s8;go_wp2_with fail;go_end0;refine⟨O,⟨L',m1+m2,by have:=jx.out;have:=jy.out;omega,SQ.out,?_⟩,MM.out⟩;rw[he2.out,<-jj];exact S8.out
theorem Ec3(h:t.ok)(s:Int):(t.drop s).1.ok:=by
 unfold EK.drop;split;·exact h
 ·exact⟨h.h,h.e,fd,fd,fd,h.la,h.lm,fd⟩
theorem Vd(lo hi:Nat)(g:Nat->Y)(gc gq gt gs:Nat)(c:Ey)(ns:Nat)(rs:List Rec)(s:Int)(w:H)(S:E5 lo hi g gc gq gt gs c ns rs w)(hn:ns<900000)(hl:rs.length<900000): Ef Eb 103 #[M (Z ⟨gs,0,X⟩),E I s] w fun e w'=>e=Eg (Et #[])/\(∃L' m,m<=2/\UC L' c.q/\E5 lo hi g gc gq gt gs {c with tok:=(c.tok.drop s).1,q:=L'} (ns+m) (rs++if(c.tok.drop s).2 then [⟨12,s,0,c.tok.e,16,0⟩] else []) w')/\Ew lo hi w w':=by
 have S1:=J S;have HN:=J hn;have HL:=J hl;have MM:=J<|Ew.refl lo hi w;clear S hn hl;obtain⟨N,hN⟩:=En (if(c.tok.drop s).2 then [⟨12,s,0,c.tok.e,16,0⟩] else []:List Rec);rw[<-hN];replace hN:=J hN;have z0:=S1.out.IB;have z64:w.cell? ⟨gc,64,X⟩=Z (M (Z ⟨gq,0,X⟩)):=S1.out.core.cell 2 rfl 0 Eh;go_enter Tryz.func103,Tryz.ntmps103;go_wp2_with fail;refine(pL lo gq c.q (pn g 48) s _ S1.out.core.lq S1.out.core.ZL S1.out.core.ok.q).mono ?_;rintro e5 w5 ⟨⟨b5,rfl⟩,⟨L',q5,sq⟩,m5⟩;replace S1:=J<|S1.out.gh m5 L' q5 (S1.out.core.ok.sub sq);replace MM:=J<|MM.out.trans (m5.js hi);have SQ:=J sq;clear m5 q5 sq z0 z64;have z0:=S1.out.IB;obtain⟨big,KB,OV⟩:=bI S1.out.core;have KB:=J KB;have EX:=J<|OV 1 c.tok.v O;have CD:=J<|fun W=>EJy c.tok s W;obtain⟨Ip,Ul,Xb,TO0⟩:=Zt c.tok;have dC:Ec (big.extract 56 (56+8)=Ip):=J (by have e:=EX.out;have h:=Ul;unfold EK.a at h;injection h with h;rw[<-h];exact e);rw[Ul] at CD;have Xb:=J Xb;clear OV EX Ul;go_wp2_with (with_reducible refine wM (off:=56) (cs:=Ip) ER KB ?_ (hn:=Xb.out) (he:=dC.out));refine(CD.out _).mono ?_;rintro e6 w6 ⟨rfl,b6⟩;replace S1:=J<|S1.out.V b6;replace MM:=J<|MM.out.trans (Ew.EA b6);clear b6 z0 KB;have Vf:=J<|Ec3 S1.out.core.ok.tok s;have HD1:Ec ((c.tok.drop s).2=B->(c.tok.drop s).1=c.tok):=J (by unfold EK.drop;split;exact fun _=>rfl;intro h;cases h);have Vg:Ec ((c.tok.drop s).1.e=c.tok.e):=J (by unfold EK.drop;split<;>rfl);obtain⟨t,ht⟩:=En ((c.tok.drop s).1);rw[<-ht] at Vf HD1 Vg⊢;have HT:=J ht;clear ht;obtain⟨tv,IE,TS,TO,Z4,gZ⟩: ∃tv,t.a=EZ tv/\Ec (tv.size=8)/\Ec (tv.all (·.oneCell')=EI)/\Ec (tv.toList=t.v)/\Ec (∀W g,D W g tv 109->W.cell? ⟨g,0,X⟩=Z (E I t.h)/\W.cell? ⟨g,1,X⟩=Z (E I t.e)):=⟨_,O,J O,J (fK _ _ _ _ _ _ _ _),J O,J fun W g K=>⟨(D.cell K 0).trans O,(D.cell K 1).trans O⟩⟩;rw[IE];go_wp2_with (with_reducible refine dS 109 ?_);apply Eo;generalize hW:Uz _ _=w7 at*;have KT:Ec (D w7 (w6.heap.size) #[E I 0,E I 0,E I 0,E I 0,E I 0,E I 0,E I 0,EU B] 109):=J (by subst hW;repeat (first|exact D.new _ _ _|exact D.new' _ _ _ Eh|refine D.alloc ?_ _));have b7:Ec (El w6 w7):=J Vh;clear hW;obtain⟨gk,Zu⟩:=En w6.heap.size;rw[<-Zu] at KT⊢;have LK:=J (show w6.heap.size<=gk from U);clear Zu;go_wp2_with (with_reducible refine wS (cs:=tv) ER KT (Ev.mk ?_) (hn:=TS.out) (h1:=TO.out));apply Eo;replace KT:=J<|KT.out.setRow tv;replace b7:=J<|E2 (g:=gk) b7.out LK.out tv;generalize w7.setRow gk tv=w8 at*;replace S1:=J<|S1.out.V b7.out;replace MM:=J<|MM.out.trans (Ew.EA b7.out);clear b7 LK;cases hop:(c.tok.drop s).2 with
 |false=>
  have Bs:=J hop;clear hop;go_wp2_with fail;refine EV (UQ O _ _ _) O ?_;refine⟨O,⟨L',0,U,SQ.out,?_⟩,MM.out⟩;have e1:(c.tok.drop s).1=c.tok:=HT.out.symm.trans (HD1.out Bs.out);have eN:N=[]:=by rw[hN.out,Bs.out];rfl
  rw[e1,eN,fS];exact S1.out
 |true=>
  have Bs:=J hop;clear hop;go_wp2_with fail;have y0: ∀y:Ext w8,(EC w8 y).cell? ⟨gs,0,X⟩=Z (M (Z ⟨gc,0,X⟩)):=fun y=>(S1.out.V (EN y)).IB;refine J_ 7 Ed Ed ?_;simp only[Iq,Io,IP,IH]
  repeat (first
   |go_big_quiet_skip
   |(go_big_quiet_want
     first
      |(refine UB (T:=109) (g:=gk) ER _ rfl rfl KT ?_ ?_;(·exact TS.out);go_simp;go_big_quiet_on)
      |(go_big_quiet_op
        first
         |go_big_quiet_on
         |go_big_quiet_call (fail))))
  refine I1 ?_;intro _ hw';obtain⟨y9,rfl⟩:=hw';have Em:=EN y9;replace KT:=EM KT Em;replace S1:=J<|S1.out.V Em;replace MM:=J<|MM.out.trans (Ew.EA Em);clear y0 Em;generalize EC w8 y9=w9 at*;have TH:=J<|cD S1.out.core 1 rfl 8 XR;go_wp2_with ((with_reducible refine JB 109 ?_);(with_reducible refine Ui O 109 _ _ O gc 56 tv ?_ ?_ ?_ ?_ ?_ ?_);(·rfl);(·rfl);(·rw[TS.out];exact TH.out);(·rw[TS.out];exact ER.2);(·exact TO.out);refine Ev.mk ?_);apply Eo;rw[Z4.out];have S4:=S1.out.ar t (S1.out.core.ok.ar Vf.out);obtain⟨d0,d1,d2,hd,KG,-⟩:=S1.out.core.Ek;replace KT:=J<|(JG (g:=gc) t.v 56 w9).Ek KT.out (EW KT.out KG Ea);replace S1:=J S4.1;replace MM:=J<|MM.out.trans S4.2;clear S4 TH KG;generalize w9.setCells gc 56 t.v=Uy at*;have c0:=(gZ.out _ _ KT.out).1;go_wp2_with fail;refine(pF lo hi g gc gq gt gs _ ns rs t.h s 16 _ S1.out J9).mono ?_;rintro e11 bY ⟨rfl,⟨m1,hm1,s11⟩,m11⟩;replace S1:=J s11;replace MM:=J<|MM.out.trans m11;have jx:=J hm1;clear m11 s11 hm1 c0 KT;go_wp2_with fail;refine(Zp lo hi g gc gq gt gs _ (ns+m1) rs 12 s 0 16 0 _ S1.out JN).mono ?_;rintro e12 Xc ⟨rfl,s12,m12⟩;have S8:=J s12;replace MM:=J<|MM.out.trans m12;clear m12 s12;go_wp2_with fail;go_end0;refine⟨O,⟨L',m1,sD,SQ.out,?_⟩,MM.out⟩;have eN:N=[⟨12,s,0,t.e,16,0⟩]:=by rw[hN.out,Bs.out,Vg.out];rfl
  rw[<-HT.out,eN];exact S8.out
theorem Ey.ok.vK{c:Ey}(h:c.ok){m:Int}(hm:0<=m/\m<=4):({c with mode:=m}:Ey).ok:=⟨h.tok,h.T,h.q,h.ones,h.src,h.nd,h.ic,h.jp,hm,h.Em,h.pt,h.In⟩
theorem Ey.ok.vL{c:Ey}(h:c.ok){b:Xz}(hb:b.ok):({c with Em:=b}:Ey).ok:=⟨h.tok,h.T,h.q,h.ones,h.src,h.nd,h.ic,h.jp,h.mode,hb,h.pt,h.In⟩
theorem Ey.ok.il{c:Ey}(h:c.ok)(hp:p.ok):({c with pt:=p}:Ey).ok:=⟨h.tok,h.T,h.q,h.ones,h.src,h.nd,h.ic,h.jp,h.mode,h.Em,hp,h.In⟩
def Pt.hold(p:Pt)(b:Xz):Pt:=⟨p.c,0,0,0,0,p.n0,p.n1,p.n2,p.n3,b⟩
theorem Pt.ok.hold(h:p.ok)(b:Xz):(p.hold b).ok:=⟨h.c,Bt,Bt,Bt,Bt,h.n0,h.n1,h.n2,h.n3⟩
theorem Bu(lo hi:Nat)(g:Nat->Y)(gc gq gt gs:Nat)(c:Ey)(ns:Nat)(rs:List Rec)(m:Int)(b:Xz)(w:H)(S:E5 lo hi g gc gq gt gs c ns rs w)(hm:0<=m/\m<=4)(hb:b.ok): Ef Eb 100 #[M (Z ⟨gs,0,X⟩),E I m,EZ #[E I b.r,E I b.s,E I b.q]] w fun e w'=>e=Eg (Et #[])/\E5 lo hi g gc gq gt gs {c with mode:=m,Em:=b,pt:=c.pt.hold b} ns rs w'/\Ew lo hi w w':=by
 have kP:=J S;have HM:=J hm;have HB:=J hb;have KL:=J<|D.new w #[E I b.r,E I b.s,E I b.q] 36;have b1:=Er w (EJ #[E I b.r,E I b.s,E I b.q] 36);have S1:=J<|kP.out.V b1;have MM:=J<|Ew.EA (lo:=lo) (hi:=hi) b1;have CH:Ec (∀W,Ef Eb 144 #[EZ c.pt.v.toArray,EZ #[E I b.r,E I b.s,E I b.q]] W fun e w'=>e=Eg (EZ (c.pt.hold b).v.toArray)/\El W w'):=J<|fun W=>Ec0 c.pt.c c.pt.a0 c.pt.a1 c.pt.a2 c.pt.a3 c.pt.n0 c.pt.n1 c.pt.n2 c.pt.n3 c.pt.b.r c.pt.b.s c.pt.b.q b.r b.s b.q W;clear S hm hb;go_enter Tryz.func100,Tryz.ntmps100;go_wp2_with (with_reducible refine I7 9 ?_);apply Eo;clear b1;generalize w.alloc (EJ #[E I b.r,E I b.s,E I b.q] 36)=w1 at*;obtain⟨gl,hgl⟩:=En w.heap.size;rw[<-hgl] at KL⊢;clear hgl;have z0:=S1.out.IB;have zm:w1.cell? ⟨gc,98,X⟩=Z (E I c.mode):=S1.out.core.cell 9 rfl 0 Eh;have zf:=sC S1.out.core 98;go_wp2_with fail;have S4:=S1.out.vK m (S1.out.core.ok.vK HM.out);obtain⟨d0,d1,d2,hd,KG,-⟩:=S1.out.core.Ek;replace KL:Ec (D (w1.setCell ⟨gc,98,X⟩ (E I m)) gl #[E I b.r,E I b.s,E I b.q] 36):=J<|(J1 (g:=gc) (W:=w1) 98 (E I m)).Ek KL.out (EW KL.out KG Ea);replace S1:Ec (E5 lo hi g gc gq gt gs {c with mode:=m} ns rs (w1.setCell ⟨gc,98,X⟩ (E I m))):=J S4.1;replace MM:Ec (Ew lo hi w (w1.setCell ⟨gc,98,X⟩ (E I m))):=J<|MM.out.trans S4.2;clear S4 z0 zm zf KG;generalize w1.setCell ⟨gc,98,X⟩ (E I m)=w2 at*;have y0: ∀y:Ext w2,(EC w2 y).cell? ⟨gs,0,X⟩=Z (M (Z ⟨gc,0,X⟩)):=fun y=>(S1.out.V (EN y)).IB;refine J_ 7 Ed Ed ?_;simp only[Iq,Io,IP,IH]
 repeat (first
  |go_big_quiet_skip
  |(go_big_quiet_want
    first
     |(refine UB (T:=36) (g:=gl) fc _ rfl rfl KL ?_ ?_;(·rfl);go_simp;go_big_quiet_on)
     |(go_big_quiet_op
       first
        |go_big_quiet_on
        |go_big_quiet_call (fail))))
 refine I1 ?_;intro _ hw';obtain⟨y9,rfl⟩:=hw';have Em:=EN y9;replace KL:=EM KL Em;replace S1:=J<|S1.out.V Em;replace MM:=J<|MM.out.trans (Ew.EA Em);clear y0 Em;generalize EC w2 y9=w3 at*;have TH:=J<|cD S1.out.core 10 rfl 3 (by simp[Xz.v]);go_wp2_with ((with_reducible refine JB 36 ?_);(with_reducible refine Ui O 36 _ _ O gc 99 #[E I b.r,E I b.s,E I b.q] ?_ ?_ ?_ ?_ ?_ ?_);(·rfl);(·rfl);(·exact TH.out);(·exact fc.2);(·simp[OF]);refine Ev.mk ?_);apply Eo;have S4:=S1.out.vL b (S1.out.core.ok.vL HB.out);obtain⟨d0,d1,d2,hd,KG,-⟩:=S1.out.core.Ek;replace KL:Ec (D (w3.setCells gc 99 b.v) gl #[E I b.r,E I b.s,E I b.q] 36):=J<|(JG (g:=gc) b.v 99 w3).Ek KL.out (EW KL.out KG Ea);replace S1:=J S4.1;replace MM:=J<|MM.out.trans S4.2;clear S4 TH KG;change Ic _ _ _ _ _ (w3.setCells gc 99 b.v);generalize w3.setCells gc 99 b.v=w4 at*;go_wp2_with fail;obtain⟨d0,d1,d2,hd,KG,o0,o1,o2,-,-⟩:=S1.out.core.Ek;have HF:=J<|Ok (c:={c with mode:=m,Em:=b}) (gq:=gq) (gt:=gt) (hd:=hd) (Jz g) o0 o1 o2 11 U;have KG:=J KG;clear o0 o1 o2;have y0: ∀y:Ext w4,(EC w4 y).cell? ⟨gs,0,X⟩=Z (M (Z ⟨gc,0,X⟩)):=fun y=>(S1.out.V (EN y)).IB;refine J_ 15 Ed Ed ?_;simp only[Iq,Io,IP,IH]
 repeat (first
  |go_big_quiet_skip
  |(go_big_quiet_want
    first
     |(refine UB (T:=36) (g:=gl) fc _ rfl rfl KL ?_ ?_;(·rfl);go_simp;go_big_quiet_on)
     |(refine ZZ (T:=50) (g:=gc) (off:=102) im _ rfl rfl KG 11 rfl HF.out rfl ?_;go_simp;go_big_quiet_on)
     |(go_big_quiet_op
       first
        |go_big_quiet_on
        |go_big_quiet_call (with_reducible refine aE (CH.out _)))))
 refine I1 ?_;intro _ hw';obtain⟨y9,rfl⟩:=hw';have Em:=EN y9;replace KL:=EM KL Em;replace S1:=J<|S1.out.V Em;replace MM:=J<|MM.out.trans (Ew.EA Em);clear y0 Em KG HF;generalize EC w4 y9=w5 at*;have TH:=J<|cD S1.out.core 11 rfl 12 vN;have io:=J<|S1.out.core.ok.pt.hold b;go_wp2_with ((with_reducible refine JB 50 ?_);(with_reducible refine Ui O 50 _ _ O gc 102 (c.pt.hold b).v.toArray ?_ ?_ ?_ ?_ ?_ ?_);(·rfl);(·rfl);(·exact TH.out);(·exact im.2);(·simp[Pt.v,OF]);refine Ev.mk ?_);apply Eo;have S4:=S1.out.il (c.pt.hold b) (S1.out.core.ok.il io.out);replace S1:=J S4.1;replace MM:=J<|MM.out.trans S4.2;clear S4 TH;change Ic _ _ _ _ _ (w5.setCells gc 102 (c.pt.hold b).v);generalize w5.setCells gc 102 (c.pt.hold b).v=w6 at*;go_wp2_with fail;go_end0;exact⟨O,S1.out,MM.out⟩
def EQ.lO(T:EQ)(s:Int):EQ:=if s=1\/s=2\/s=3 then(if(T.E4 (s-1).toNat).on then T.put (s-1).toNat Ub else T) else T
theorem EQ.Ec4(h:T.ok)(s:Int):(T.lO s).ok:=by
 unfold EQ.lO;split
 ·split;·exact h.put _ tT
  ·exact h
 ·exact h
theorem EQ.Ec5(h:T.XX)(s:Int):(T.lO s).XX:=by
 unfold EQ.lO;split
 ·split;·exact h.put _ ⟨Ea,Ea,Ea,Ea⟩
  ·exact h
 ·exact h
theorem Ec6{e:Uh}(h:ul T gt s w e w'):(∃b,e=Eg (EU b))/\Il w' gt (T.lO s)/\E3 gt w w':=by
 unfold ul at h;unfold EQ.lO;obtain⟨h1,h2⟩:=h;split at h1
 ·rename_i h3;rw[if_pos h3];split at h1;·rename_i h4;rw[if_pos h4];exact⟨⟨_,h1.1⟩,h1.2,h2⟩
  ·rename_i h4;rw[if_neg h4];exact⟨⟨_,h1.1⟩,h1.2,h2⟩
 ·rename_i h3;rw[if_neg h3];exact⟨⟨_,h1.1⟩,h1.2,h2⟩
theorem Ey.ok.vP{c:Ey}(h:c.ok)(hT:T.ok)(hb:T.XX):({c with T:=T}:Ey).ok:=⟨h.tok,hT,h.q,h.ones,h.src,h.nd,h.ic,h.jp,h.mode,h.Em,h.pt,hb⟩
theorem E5.vQ{c:Ey}(S:E5 lo hi g gc gq gt gs c ns rs W)(ho:E3 gt W W')(T:EQ)(k:Il W' gt T)(hok:({c with T:=T}:Ey).ok):E5 lo hi g gc gq gt gs {c with T:=T} ns rs W'/\Ew lo hi W W':=by
 obtain⟨d0,d1,d2,hd,kg,r⟩:=S.core.Ek;obtain⟨sv,rv,sc,ks,r1,r2⟩:=S.fU;obtain⟨v,came,k2,q2,q3⟩:=S.core.ZL;have kt:D W gt c.T.v.toArray 163:=S.core.tab;have hl:=ho.bel lo S.core.lt (Ez S.core.lt (am kt.lt));refine⟨⟨⟨S.core.lo2,S.core.X2,hok,S.core.lc,S.core.lq,S.core.lt,⟨d0,d1,d2,hd,ho.Ek kg (EW kg kt Ea),r⟩,k,⟨v,came,ho.Ek k2 (EW k2 kt Ea),q2,EP q3 fun _ _ hk=>ho.Ek hk (EW hk kt Ea)⟩,fun i h1 h2=>(S.core.keys i h1 h2).Ek fun _ _ hk=>ho.Ek hk (EW hk kt Ea),fun i hi=> ?_,fun i hi=> ?_⟩,S.hc,S.hq,S.ht,S.ct,S.his,sv,rv,sc,ho.Ek ks (EW ks kt Ea),EP r1 fun _ _ hk=>ho.Ek hk (EW hk kt Ea),EP r2 fun _ _ hk=>ho.Ek hk (EW hk kt Ea)⟩,Ew.vO ho kt k Ea S.core.lt⟩;·rw[hl.cell (p:=⟨0,i,X⟩) (by have:=S.core.lo2;simp;omega)];exact S.core.roots i hi
 ·rw[hl.cell (p:=⟨1,i,X⟩) (by have:=S.core.lo2;simp;omega)];exact S.core.cmds i hi
theorem X6(K:D W gm (ED l) 183)(i:Nat)(h:i<12)(h7:i≠7):W.cell? ⟨gm,i,X⟩=Z (E I (l.getD i 0)):=by rw[D.cell K,Zh l i h,if_neg h7]
theorem Ec7(lo hi:Nat)(g:Nat->Y)(gc gq gt gs:Nat)(c:Ey)(ns:Nat)(rs:List Rec)(l:List Int)(k:Int)(w:H)(S:E5 lo hi g gc gq gt gs c ns rs w)(hn:ns<800000)(hl:rs.length<800000): Ef Eb 128 #[M (Z ⟨gs,0,X⟩),E I k,EZ (ED l)] w fun e w'=>e=Eg (Et #[])/\E5 lo hi g gc gq gt gs c (ns+1) rs w'/\Ew lo hi w w':=by
 have S0:=J S;have HN:=J hn;have HL:=J hl;have KM:=J<|D.new w (ED l) 183;have b1:=Er w (EJ (ED l) 183);have S1:=J<|S0.out.V b1;have MM:=J<|Ew.EA (lo:=lo) (hi:=hi) b1;obtain⟨v1,hv1⟩:=En (l.getD 1 0);have Of:Ec (∀W g,D W g (ED l) 183->W.cell? ⟨g,1,X⟩=Z (E I v1)):=J (fun W g K=>by rw[hv1];exact X6 K 1 U U);try rw[<-hv1]
 replace hv1:=J hv1;clear S hn hl S0;obtain⟨mv,hmv⟩:=En (ED l);rw[<-hmv] at KM b1 S1 MM Of⊢;clear hmv;go_enter Tryz.func128,Tryz.ntmps128;go_wp2_with (with_reducible refine I7 9 ?_);apply Eo;clear b1;generalize w.alloc (EJ mv 183)=w1 at*;obtain⟨gm,hgm⟩:=En w.heap.size;rw[<-hgm] at KM⊢;clear hgm;have c1:=Of.out _ _ KM.out;go_wp2_with fail;refine(jq lo hi g gc gq gt gs c ns rs k v1 _ S1.out J9).mono ?_;rintro e2 w2 ⟨rfl,s2,m2⟩;go_wp2_with fail;go_end0;exact⟨O,s2,MM.out.trans m2⟩
theorem Ec8(lo hi:Nat)(g:Nat->Y)(gc gq gt gs:Nat)(c:Ey)(ns:Nat)(rs:List Rec)(l:List Int)(k:Int)(w:H)(S:E5 lo hi g gc gq gt gs c ns rs w)(hn:ns<800000)(hl:rs.length<800000): Ef Eb 129 #[M (Z ⟨gs,0,X⟩),E I k,EZ (ED l)] w fun e w'=>e=Eg (Et #[])/\(∃L' m,m<=3/\UC L' c.q/\E5 lo hi g gc gq gt gs {c with T:=c.T.lO k,tok:=(c.tok.drop k).1,q:=L'} (ns+m) ((rs++if(c.tok.drop k).2 then [⟨12,k,0,c.tok.e,16,0⟩] else [])++[⟨4,k,l.getD 1 0,(c.tok.drop k).1.e,0,0⟩]) w')/\Ew lo hi w w':=by
 obtain⟨N,hN⟩:=En (if(c.tok.drop k).2 then [⟨12,k,0,c.tok.e,16,0⟩] else []:List Rec);rw[<-hN];replace hN:=J hN;have pu:=J (show N.length<=1 by rw[hN.out];split<;>simp);have S0:=J S;have HN:=J hn;have HL:=J hl;have KM:=J<|D.new w (ED l) 183;have b1:=Er w (EJ (ED l) 183);have S1:=J<|S0.out.V b1;have MM:=J<|Ew.EA (lo:=lo) (hi:=hi) b1;obtain⟨v1,hv1⟩:=En (l.getD 1 0);have Of:Ec (∀W g,D W g (ED l) 183->W.cell? ⟨g,1,X⟩=Z (E I v1)):=J (fun W g K=>by rw[hv1];exact X6 K 1 U U);try rw[<-hv1]
 replace hv1:=J hv1;clear S hn hl S0;obtain⟨mv,hmv⟩:=En (ED l);rw[<-hmv] at KM b1 S1 MM Of⊢;clear hmv;go_enter Tryz.func129,Tryz.ntmps129;go_wp2_with (with_reducible refine I7 9 ?_);apply Eo;clear b1;generalize w.alloc (EJ mv 183)=w1 at*;obtain⟨gm,hgm⟩:=En w.heap.size;rw[<-hgm] at KM⊢;clear hgm;have z0:=S1.out.IB;have U2:w1.cell? ⟨gc,95,X⟩=Z (M (Z ⟨gt,0,X⟩)):=S1.out.core.cell 6 rfl 0 Eh;go_wp2_with fail;refine(EO6 gt c.T k _ S1.out.core.tab S1.out.core.ok.T).mono ?_;intro e2 w2 h2;obtain⟨⟨b2,rfl⟩,Vi,o2⟩:=Ec6 h2;have hS:=S1.out.vQ o2 (c.T.lO k) Vi (S1.out.core.ok.vP (EQ.Ec4 S1.out.core.ok.T k) (EQ.Ec5 S1.out.core.ok.In _));replace KM:=J<|o2.Ek KM.out (EW KM.out S1.out.core.tab Ea);replace S1:=J hS.1;replace MM:=J<|MM.out.trans hS.2;clear h2 hS Vi o2 z0 U2;go_wp2_with fail;refine(Vd lo hi g gc gq gt gs _ ns rs k _ S1.out J9 JN).mono ?_;rintro e3 w3 ⟨rfl,⟨L',m3,nt,sq,s3⟩,pY⟩;rw[show(if(c.tok.drop k).2=EI then [(⟨12,k,0,c.tok.e,16,0⟩:Rec)] else [])=N from hN.out.symm] at s3;replace KM:=J<|pY.Ek KM.out Ea Ea;replace S1:=J s3;replace MM:=J<|MM.out.trans pY;have SQ:=J sq;have p6:=J nt;clear s3 pY sq nt;have c1:=Of.out _ _ KM.out;go_wp2_with fail;refine(Zp lo hi g gc gq gt gs _ (ns+m3) _ 4 k v1 0 0 _ S1.out (by have:=HL.out;have:=pu.out;rw[IY];omega)).mono ?_;rintro e4 w4 ⟨rfl,s4,m4⟩;replace KM:=J<|m4.Ek KM.out Ea Ea;replace S1:=J s4;replace MM:=J<|MM.out.trans m4;clear s4 m4 c1;have c1:=Of.out _ _ KM.out;go_wp2_with fail;refine(jq lo hi g gc gq gt gs _ (ns+m3) _ k v1 _ S1.out (by have:=HN.out;have:=p6.out;omega)).mono ?_;rintro e5 w5 ⟨rfl,s5,m5⟩;have S5:=J s5;replace MM:=J<|MM.out.trans m5;clear s5 m5;go_wp2_with fail;go_end0;exact⟨O,⟨L',m3+1,by have:=p6.out;omega,SQ.out,S5.out⟩,MM.out⟩
section
variable{P:Program}{Q:Exit->Act->World->Prop}
inductive bJ(Rel Is:H->H->Prop) where
 |val (p:Y->Prop)
 |dep (s:Y->H->Prop) (h1: ∀v w w',s v w->Rel w w'->s v w') (h2: ∀v w w',s v w->Is w w'->s v w')
 |late (s:Y->H->Prop) (h1: ∀v w w',s v w->Rel w w'->s v w')
 |tie (ds:List Nat) (s:(Nat->Y)->H->Prop) (h1: ∀x w w',s x w->Rel w w'->s x w') (hx: ∀x y w,(∀k∈ds,x k=y k)->s x w->s y w)
 |tied (ds:List Nat) (s:(Nat->Y)->H->Prop) (h1: ∀x w w',s x w->Rel w w'->s x w') (h2: ∀x w w',s x w->Is w w'->s x w') (hx: ∀x y w,(∀k∈ds,x k=y k)->s x w->s y w)
 |bO (ds:List Nat) (s:(Nat->Y)->Prop) (hx: ∀x y,(∀k∈ds,x k=y k)->s x->s y)
instance{Rel Is}(x):CoeDep KQ (KQ.kq x) (bJ Rel Is):=⟨.val fun v=>v=x⟩
instance{Rel Is}(g i):CoeDep KQ (KQ.kp g i) (bJ Rel Is):=⟨.val fun v=>v=M (Z ⟨g,i,X⟩)⟩
def bJ.mw{Rel Is:H->H->Prop}:bJ Rel Is->Bool
 | .late _ _=>EI
 | .tie _ _ _ _=>EI
 |_=>B
def bJ.ds{Rel Is:H->H->Prop}:bJ Rel Is->List Nat
 | .tie ds _ _ _=>ds
 | .tied ds _ _ _ _=>ds
 | .bO ds _ _=>ds
 |_=>[]
def RT{Rel Is:H->H->Prop}(K:Nat->bJ Rel Is)(i:Nat)(x:Nat->Y)(w:H):Prop:=match K i with
 | .val p=>p (x i)
 | .dep s _ _=>s (x i) w
 | .late s _=>s (x i) w
 | .tie _ s _ _=>s x w
 | .tied _ s _ _ _=>s x w
 | .bO _ s _=>s x
def kT{Rel Is:H->H->Prop}(Ks:List (bJ Rel Is))(i:Nat):bJ Rel Is:=Ks.getD i (.val fun _=>True)
def Ec9(ops:Array EL)(lU:List (List Nat)):Bool:=(U4 lU.length).all fun i=>(lU.getD i []).all fun k=>decide (k=i)||(match ops[i]? with|some o=>o.after.toList.any (fun e=>UN .any e&&e.on==k)|none=>false)
theorem Ec_{Rel Is:H->H->Prop}{Ks:List (bJ Rel Is)}{tags:List Bool}(h:Ks.map bJ.mw=tags)(i:Nat)(hl:(kT Ks i).mw=EI):i<tags.length/\tags.getD i B=EI:=by
 subst h;unfold kT at hl;by_cases hi:i<Ks.length;·exact En1
 ·rw[Uq,bf U] at hl;cases hl
theorem LO{Rel Is:H->H->Prop}{Ks:List (bJ Rel Is)}{lU:List (List Nat)}(h:Ks.map bJ.ds=lU)(i:Nat)(k:Nat)(hk:k∈(kT Ks i).ds):i<lU.length/\k∈lU.getD i []:=by
 subst h;unfold kT at hk;by_cases hi:i<Ks.length;·refine⟨U5,?_⟩;simp only[Uq,List.getElem?_map,J5 hi,jY,Option.getD_some] at hk⊢;exact hk
 ·rw[Uq,bf U] at hk;cases hk
theorem ip{Ph:Nat->H->Prop}{Rel Is:H->H->Prop}{id:Nat}{l:List EL}{a0:E6}{w0:H}(Ks:List (bJ Rel Is))(tags:List Bool)(htag:Ks.map bJ.mw=tags)(lU:List (List Nat))(hds:Ks.map bJ.ds=lU)(cs:List Nat)(ks:List (Nat×Nat))(hm:P.follows .mixedOrders=EI)(hB:mn l.toArray=EI)(hK:kJ l.toArray cs ks=EI)(hlt:Pw l.toArray cs tags=EI)(htie:Ec9 l.toArray lU=EI)(hlk:(ks.all fun p=>decide (p.1<=cs.length))=EI)(hnd:(O9 l).Nodup) (hcg:(cs.all fun c=>match l[c]? with|some o=>o.guard.isNone|none=>false)=EI) (hPh: ∀b w w',Ph b w->Rel w w'->Ph b w') (h0:Ph 0 w0.drew) (hstep:gW Ph Rel Is P l.toArray Q (fun x=>EH l 0 x a0) (RT (kT Ks)) cs 0 l ks) (hend: ∀x w,Ph cs.length w->(∀i,i<l.length->RT (kT Ks) i x w)->Ic P l.toArray Q [] (EH l 0 x a0) w):(aG id l.toArray EI).wp P Q a0 w0:=by
 refine yQ cs ks hm hB hK hlk hnd (RT (kT Ks)) hcg hPh ?_ ?_ ?_ h0 hstep hend
 ·intro i x w w' _ h hr;unfold RT at*;split at h;·exact h
  ·rename_i s h1 h2 _;exact EoT
  ·rename_i s h1 _;exact EoT
  ·rename_i ds s h1 hx _;exact EoT
  ·rename_i ds s h1 h2 hx _;exact EoT
  ·exact h
 ·intro i x w w' c hi hc hne hrb h hr;have nl:(kT Ks i).mw=true->False:=fun he=>by obtain⟨h3,h4⟩:=Ec_ htag i he;have h5:=Xk.1 hlt i (aH.2 h3);rw[h4] at h5;simp only[Bool.not_true,Bool.false_or] at h5;have h6:=Xk.1 h5 c hc;rw[hrb] at h6;simp at h6;exact hne h6
  unfold RT at*;split at h;·exact h
  ·rename_i s h1 h2 _;exact h2 _ _ _ h hr
  ·rename_i s h1 he;exact(nl mr).elim
  ·rename_i ds s h1 hx he;exact(nl mr).elim
  ·rename_i ds s h1 h2 hx _;exact h2 _ _ _ h hr
  ·exact h
 ·intro i x y w _ hq h;unfold RT at*;split at h;·rw[hq i (.inl rfl)] at h;exact h
  ·exact Eo2
  ·exact Eo2
  ·rename_i ds s h1 hx he;refine hx x y w (fun k hk=>hq k ?_) h;obtain⟨h3,h4⟩:=LO hds i k LU;have h5:=Xk.1 htie i (aH.2 h3);have h6:=Xk.1 h5 k h4;simp only[mf,decide_eq_true_eq] at h6;rcases h6 with h6|h6;·exact .inl h6
   ·exact .inr (uE h6)
  ·rename_i ds s h1 h2 hx he;refine hx x y w (fun k hk=>hq k ?_) h;obtain⟨h3,h4⟩:=LO hds i k LU;have h5:=Xk.1 htie i (aH.2 h3);have h6:=Xk.1 h5 k h4;simp only[mf,decide_eq_true_eq] at h6;rcases h6 with h6|h6;·exact .inl h6
   ·exact .inr (uE h6)
  ·rename_i ds s hx he;refine hx x y (fun k hk=>hq k ?_) h;obtain⟨h3,h4⟩:=LO hds i k LU;have h5:=Xk.1 htie i (aH.2 h3);have h6:=Xk.1 h5 k h4;simp only[mf,decide_eq_true_eq] at h6;rcases h6 with h6|h6;·exact .inl h6
   ·exact .inr (uE h6)
end
def lX(w w':H):Prop:= ∀b c,D w b c 109->c.size=8-> ∃c':Array Y,c'.size=8/\D w' b c' 109
theorem sF{c cs:Array Y}(_:D w b c 109)(hs:cs.size=8):lX w (w.setRow b cs):=fun k d h h8=>by
 by_cases e:k=b;·subst e;exact⟨cs,hs,h.setRow cs⟩
 ·exact⟨d,h8,D.setRow_other h b cs e⟩
def Z5(n0:Nat)(v:Y)(w:H):Prop:= ∃(b:Nat) (c:Array Y),v=M (Z ⟨b,0,X⟩)/\n0<=b/\c.size=8/\D w b c 109
theorem Z5.V(h:Z5 n0 v w)(hb:El w w'):Z5 n0 v w':=by exact EoA
theorem Z5.iq(h:Z5 n0 v w)(hb:lX w w'):Z5 n0 v w':=by obtain⟨b,c,h1,h2,h3,h4⟩:=h;obtain⟨c',h5,h6⟩:=hb b c h4 h3;exact⟨b,c',h1,h2,h5,h6⟩
theorem E5.only{c:Ey}(S:E5 lo hi g gc gq gt gs c ns rs W)(ho:E3 b W W'){d:Array Y}(K:D W b d 109)(h1:lo<=b):E5 lo hi g gc gq gt gs c ns rs W':=by obtain⟨sv,rv,sc,ks,r1,r2⟩:=S.fU;have kp: ∀k cs T,T≠109->D W k cs T->D W' k cs T:=fun k cs T hT hb=>ho.Ek hb (EW hb K hT);exact⟨S.core.via (fun k cs T hT hb=>kp k cs T (by intro e;subst e;revert hT;decide) hb) (ho.bel lo h1 Kj),S.hc,S.hq,S.ht,S.ct,S.his,sv,rv,sc,kp _ _ _ Ea ks,EP r1 fun _ _ hk=>kp _ _ _ Ea hk,EP r2 fun _ _ hk=>kp _ _ _ Ea hk⟩
theorem Ew.only(m:Ew lo hi w W)(ho:E3 b W W')(h1:w.heap.size<=b)(h2:hi<=b)(h3:b<W.heap.size):Ew lo hi w W':=by
 have bb:=ho.bel 0 (bG _) (bG _);refine⟨bb.os.trans m.os,bb.tape.trans m.tape,bb.output.trans m.output,Ez m.size ho.size,fun k hk hl hm=>(ho.keep k U U).trans (m.low k hk hl hm),fun k c T hb hm=> ?_,fun k c T hb=> ?_,fun k c T p hk hb=> ?_⟩;·exact ho.Ek (m.high k c T hb hm) Bk
 ·obtain⟨c',hc⟩:=m.stay k c T hb;exact⟨c',ho.Ek hc Bk⟩
 ·obtain⟨c',p',hc⟩:=m.AW k c T p hk hb;exact⟨c',p',(ho.keep k U U).trans hc⟩
theorem lZ:Oq Eb 109 #[E I 0,E I 0,E I 0,E I 0,E I 0,E I 0,E I 0,EU B]:=by exact ElR
theorem EdE(h:t.ok)(k e:Int)(hr:t.accept k e=(t2,0)):0<=t.o/\t.o=k/\t.Uc k=(t2,0):=by
 unfold EK.accept at hr;split at hr;·simp at hr
 ·split at hr;·simp at hr
  ·rename_i h1 h2;exact⟨U,U,hr⟩
theorem LZ(h:t.ok){e:Int}(hs:0<=s/\s<=4)(he:0<=e/\e<=65535):(t.pass s e).ok:=⟨hs,he,sG,sG,sG,sG,sG,sG⟩
theorem gj(h:t.ok)(hr:t.Uc s=(t2,0)):t2.ok/\t2.e=t.e+1/\t2.h=s/\t2.o= -1:=by obtain⟨h1,h2,h3,h4,rfl⟩:=Kw hr;exact⟨LZ h ⟨h1,U⟩ ⟨by have:=h.e;omega,U⟩,O,O,O⟩
theorem EdI(lo hi:Nat)(g:Nat->Y)(gc gq gt gs:Nat)(c:Ey)(ns:Nat)(rs:List Rec)(l:List Int)(k:Int)(w:H)(S:E5 lo hi g gc gq gt gs c ns rs w)(hn:ns<800000)(hl:rs.length<800000): Ef Eb 132 #[M (Z ⟨gs,0,X⟩),E I k,EZ (ED l)] w fun e w'=>e=Eg (Et #[])/\(∃c' m new,m<=3/\E5 lo hi g gc gq gt gs c' (ns+m) (rs++new) w'/\((∃cd,c'=c/\new=[⟨7,k,l.getD 1 0,c.tok.e,cd,0⟩])\/(∃t2 L',c.tok.Uc k=(t2,0)/\UC L' c.q/\c'={c with tok:=t2,q:=L'}/\new=[⟨8,t2.h,l.getD 1 0,t2.e,0,1⟩])))/\Ew lo hi w w':=by
 have Zv:=fun W e=>EOd c.tok k e W Bv;obtain⟨Ip,Ul,Xb,X7⟩: ∃Ip,c.tok.a=EZ Ip/\Ec (Ip.size=8)/\Ec (c.tok.v.toArray=Ip):=⟨_,O,J O,J O⟩;have S0:=J S;have HN:=J hn;have HL:=J hl;have KM:=J<|D.new w (ED l) 183;have b1:=Er w (EJ (ED l) 183);have S1:=J<|S0.out.V b1;have MM:=J<|Ew.EA (lo:=lo) (hi:=hi) b1;obtain⟨v1,hv1⟩:=En (l.getD 1 0);have Of:Ec (∀W g,D W g (ED l) 183->W.cell? ⟨g,1,X⟩=Z (E I v1)):=J (fun W g K=>by rw[hv1];exact X6 K 1 U U);try rw[<-hv1]
 replace hv1:=J hv1;obtain⟨v4,hv4⟩:=En (l.getD 4 0);have Vj:Ec (∀W g,D W g (ED l) 183->W.cell? ⟨g,4,X⟩=Z (E I v4)):=J (fun W g K=>by rw[hv4];exact X6 K 4 U U);try rw[<-hv4]
 replace hv4:=J hv4;clear S hn hl S0;obtain⟨mv,hmv⟩:=En (ED l);rw[<-hmv] at KM b1 S1 MM Of Vj⊢;clear hmv;cases hr:c.tok.accept k v4 with|mk t2 cd=>
 obtain⟨rv,IF,RS,RO⟩:=Zt t2;have RS:=J RS;have RO:=J RO;have Uk:=J IF;have HR:=J hr;have CA:Ec (∀W,Ef Eb 179 #[EZ Ip,E I k,E I v4] W fun x w'=>x=Eg (Et #[EZ rv,E I cd])/\El W w'):=J (fun W=>by have h:=Zv W v4;rw[hr,Ul] at h;rw[<-IF];exact h);clear hr IF Zv Ul;go_enter Tryz.func132,Tryz.ntmps132;go_wp2_with fail;clear b1;generalize w.alloc (EJ mv 183)=w1 at*;obtain⟨gm,hgm⟩:=En w.heap.size;rw[<-hgm] at KM⊢;clear hgm;obtain⟨n0,hn0⟩:=En w1.heap.size;have Xt:=J (show lo<=n0/\hi<=n0/\w.heap.size<=n0 from nu);refine ip (Ph:=fun _ wq=>(E5 lo hi g gc gq gt gs c ns rs wq/\Ew lo hi w wq/\D wq gm mv 183/\n0<=wq.heap.size)) (Rel:=J0) (Is:=lX) [kp gs 0,kp gs 0,kp gs 0,kp gc 0,kp gc 0,kp gc 56,kq (EZ Ip),kq (E I k),kp gm 4,kq (E I v4),kq (Et #[EZ rv,E I cd]),kq (Et #[EZ rv,E I cd]),kq (EZ rv),kq (E I cd),.dep (Z5 n0) (fun v w w' h hr=>h.V hr) (fun v w w' h hr=>h.iq hr),.tie [14] (fun x w=> ∃b:Nat,x 14=M (Z ⟨b,0,X⟩)/\n0<=b/\D w b rv 109) (fun x w w' h hr=>p8) (fun x y w hq h=>by rw[hq 14 Eh] at h;exact h),kq (E I cd)] [B,B,B,B,B,B,B,B,B,B,B,B,B,B,B,EI,B] O [[],[],[],[],[],[],[],[],[],[],[],[],[],[],[],[14],[]] O [15] [(0,0),(0,0),(0,0),(0,0),(0,0),(0,0),(0,0),(0,0),(0,0),(0,0),(0,0),(0,0),(0,0),(0,1),(0,0),(0,0),(1,1)] Ed Ed Ed Ed Ed Ed UP Ed ?hPh ?h0 ?hstep ?hend;case hPh=> intro p w2 w3 h hr;exact⟨h.1.V hr,h.2.1.trans (Ew.EA hr),D.V h.2.2.1 hr,Ez h.2.2.2 (U8 hr)⟩
 case h0=> exact EnQ
 case hstep=>
  refine⟨?_,?_,?_,?_,?_,?_,?_,?_,?_,?_,?_,?_,?_,?_,?_,?_,?_,trivial⟩;all_goals first|intro xv wq p hlo hhi hp hd|intro xv wq hp hd
  all_goals simp only[EH,Ig,Ii,Ia,Ib]
  ·exact Elk
  ·exact ElA
  ·exact Elz
  ·exact Em8
  ·exact Ely
  ·exact ElS
  ·obtain rfl:p=0:=U;have d5:xv 5=M (Z ⟨gc,56,X⟩):=hd.at 5 rfl;obtain⟨big,KB,OV⟩:=bI hp.1.core;exact Emq
  ·exact Elk
  ·exact Elk
  ·obtain rfl:p=0:=U;have d8:xv 8=M (Z ⟨gm,4,X⟩):=hd.at 8 rfl;have cc:wq.cell? ⟨gm,4,X⟩=Z (E I v4):=Vj.out _ _ hp.2.2.1;exact Es Bw O
  ·obtain rfl:p=0:=U;have d6:xv 6=EZ Ip:=hd.at 6 rfl;have d7:xv 7=E I k:=hd.at 7 rfl;have d9:xv 9=E I v4:=hd.at 9 rfl;refine JH (f:=179) (args:= #[xv 6,xv 7,xv 9]) (Ei O) Ex ?_;rw[d6,d7,d9];exact EpJ
  ·obtain rfl:p=0:=U;have d10:xv 10=Et #[EZ rv,E I cd]:=hd.at 10 rfl;exact Eo5
  ·obtain rfl:p=0:=U;exact Epz
  ·exact Epz
  ·exact EnF
  ·have d12:xv 12=EZ rv:=hd.at 12 rfl;obtain⟨b,d0,eA,lb,h8,kb⟩:Z5 n0 (xv 14) wq:=hd.at 14 rfl;have nh:=Xt.out;refine bF ER (Ei O) ⟨O,eA,d12⟩ kb h8 RS.out RO.out ⟨sF kb RS.out,?_⟩ ⟨b,eA,lb,kb.setRow _⟩;exact Em9
  ·obtain rfl:p=1:=U;exact EpX
 case hend=>
  intro xv W6 hp hd;clear S1 MM KM;simp only[EH,Ig,Ii,Ia,Ib];obtain⟨b,eA,lb,kb⟩: ∃b:Nat,xv 14=M (Z ⟨b,0,X⟩)/\n0<=b/\D W6 b rv 109:=hd 15 Ea;have d16:xv 16=E I cd:=hd 16 Ea;obtain⟨s6,m6,dF,-⟩:=hp;have S1:=J s6;have MM:=J m6;have KM:=J dF;have KB:=J kb;rw[eA,d16];clear s6 m6 dF kb hd eA d16 CA;have c1:=Of.out _ _ KM.out;by_cases hcd:cd=0;·subst hcd;obtain⟨ha1,ha2,La⟩:=EdE S1.out.core.ok.tok k v4 HR.out;have HT2:=J (gj S1.out.core.ok.tok La).1;have HG:=J La;clear ha1 ha2 La;go_wp2_with (with_reducible refine wL ER KB ?_ (hn:=RS.out));rw[<-Uk.out];refine(nr lo hi g gc gq gt gs c ns rs t2 1 v1 _ S1.out HT2.out J9 JN).mono ?_;rintro e7 w7 ⟨rfl,⟨L',m7,XP,sq,s7⟩,Xd⟩;replace KM:=J<|Xd.Ek KM.out Ea Ea;replace S1:=J s7;replace MM:=J<|MM.out.trans Xd;have SQ:=J sq;have ny:=J XP;clear s7 Xd sq XP c1;have c1:=Of.out _ _ KM.out;go_wp2_with fail;refine(jq lo hi g gc gq gt gs _ (ns+m7) _ k v1 _ S1.out Lb).mono ?_;rintro e8 w8 ⟨rfl,s8,m8⟩;have S8:=J s8;replace MM:=J<|MM.out.trans m8;clear s8 m8;go_wp2_with fail;go_end0;exact⟨O,⟨_,m7+1,_,qE,S8.out,.inr ⟨t2,L',HG.out,SQ.out,O,O⟩⟩,MM.out⟩
  ·have t9:(cd !=0)=EI:=dA;exact EmX
theorem Iy.iq(m:Iy lo W W'):lX W W':=fun b c h h8=>⟨c,h8,m.Ek h Ea Ea⟩
theorem EdJ(lo hi:Nat)(g:Nat->Y)(gc gq gt gs:Nat)(c:Ey)(ns:Nat)(rs:List Rec)(l:List Int)(k:Int)(w:H)(S:E5 lo hi g gc gq gt gs c ns rs w)(hn:ns<800000)(hl:rs.length<800000): Ef Eb 134 #[M (Z ⟨gs,0,X⟩),E I k,EZ (ED l)] w fun e w'=>e=Eg (Et #[])/\(∃c' m new,m<=3/\E5 lo hi g gc gq gt gs c' (ns+m) (rs++new) w'/\ ∃L',((∃cd,c'={c with q:=L'}/\new=[⟨7,k,l.getD 1 0,c.tok.e,cd,0⟩])\/(∃t2,t2.ok/\t2.e=c.tok.e+1/\t2.o= -1/\c'={c with tok:=t2,q:=L'}/\new=[⟨8,t2.h,l.getD 1 0,t2.e,0,2⟩])))/\Ew lo hi w w':=by
 have Zv:=fun W q=>TY lo gq c.q (pn g 48) k c.tok W S.core.lq q S.core.ok.q Bv;obtain⟨Ip,Ul,Xb,X7⟩: ∃Ip,c.tok.a=EZ Ip/\Ec (Ip.size=8)/\Ec (c.tok.v.toArray=Ip):=⟨_,O,J O,J O⟩;have S0:=J S;have HN:=J hn;have HL:=J hl;have KM:=J<|D.new w (ED l) 183;have b1:=Er w (EJ (ED l) 183);have S1:=J<|S0.out.V b1;have MM:=J<|Ew.EA (lo:=lo) (hi:=hi) b1;obtain⟨v1,hv1⟩:=En (l.getD 1 0);have Of:Ec (∀W g,D W g (ED l) 183->W.cell? ⟨g,1,X⟩=Z (E I v1)):=J (fun W g K=>by rw[hv1];exact X6 K 1 U U);try rw[<-hv1]
 replace hv1:=J hv1;clear S hn hl S0;obtain⟨mv,hmv⟩:=En (ED l);rw[<-hmv] at KM b1 S1 MM Of⊢;clear hmv;have CA:Ec (∀W,Jn W lo gq c.q (pn g 48)->Ef Eb 137 #[EZ Ip,M (Z ⟨gq,0,X⟩),E I k] W _):=J (fun W q=>Vk);obtain⟨PQ,hPQ⟩: ∃PQ:Array Y->Int->Prop,PQ=fun rv cd=> ∃t2:EK,t2.a=EZ rv/\rv.size=8/\rv.all (·.oneCell')=EI/\sx c.tok c.q k t2 cd:=⟨_,O⟩;have qI:Ec (∀(t2:EK) (rv:Array Y) (cd:Int),t2.a=EZ rv->rv.size=8->rv.all (·.oneCell')=EI->sx c.tok c.q k t2 cd->PQ rv cd):=J (fun t2 rv cd h1 h2 h3 h4=>By);have qJ:Ec (∀rv cd,PQ rv cd->rv.size=8/\rv.all (·.oneCell')=EI):=J (fun rv cd h=>Bz);replace hPQ:=J hPQ;clear Zv Ul;go_enter Tryz.func134,Tryz.ntmps134;go_wp2_with fail;clear b1;generalize w.alloc (EJ mv 183)=w1 at*;obtain⟨gm,hgm⟩:=En w.heap.size;rw[<-hgm] at KM⊢;clear hgm;obtain⟨n0,hn0⟩:=En w1.heap.size;have Xt:=J (show lo<=n0/\hi<=n0/\w.heap.size<=n0 from nu);refine ip (Ph:=fun p wq=>n0<=wq.heap.size/\(match p with|0=>(E5 lo hi g gc gq gt gs c ns rs wq/\Ew lo hi w wq/\D wq gm mv 183)|_=>(∃L':List One,E5 lo hi g gc gq gt gs {c with q:=L'} ns rs wq/\Ew lo hi w wq/\D wq gm mv 183))) (Rel:=J0) (Is:=lX) [kp gs 0,kp gs 0,kp gs 0,kp gc 0,kp gc 0,kp gc 56,kq (EZ Ip),kp gs 0,kp gs 0,kp gs 0,kp gc 0,kp gc 0,kp gc 64,kp gq 0,kq (E I k),.val (fun v=> ∃(rv:Array Y) (cd:Int),PQ rv cd/\v=Et #[EZ rv,E I cd]),.val (fun v=> ∃(rv:Array Y) (cd:Int),PQ rv cd/\v=Et #[EZ rv,E I cd]),.bO [16,17] (fun x=> ∃(rv:Array Y) (cd:Int),PQ rv cd/\x 16=Et #[EZ rv,E I cd]/\x 17=EZ rv) (fun x y hq h=>by simpa only[hq 16 Eh,hq 17 Eh] using h),.bO [16,18] (fun x=> ∃(rv:Array Y) (cd:Int),PQ rv cd/\x 16=Et #[EZ rv,E I cd]/\x 18=E I cd) (fun x y hq h=>by simpa only[hq 16 Eh,hq 18 Eh] using h),.dep (Z5 n0) (fun v w w' h hr=>h.V hr) (fun v w w' h hr=>h.iq hr),.tie [19,17] (fun x w=> ∃(b:Nat) (rv:Array Y),x 19=M (Z ⟨b,0,X⟩)/\x 17=EZ rv/\n0<=b/\D w b rv 109) (fun x w w' h hr=>BH) (fun x y w hq h=>by rw[hq 19 Eh,hq 17 Eh] at h;exact h),.bO [18,21] (fun x=>x 21=x 18) (fun x y hq h=>by simpa only[hq 18 Eh,hq 21 Eh] using h)] [B,B,B,B,B,B,B,B,B,B,B,B,B,B,B,B,B,B,B,B,EI,B] O [[],[],[],[],[],[],[],[],[],[],[],[],[],[],[],[],[],[16,17],[16,18],[],[19,17],[18,21]] O [15,20] [(0,0),(0,0),(0,0),(0,0),(0,0),(0,0),(0,0),(0,0),(0,0),(0,0),(0,0),(0,0),(0,0),(0,0),(0,0),(0,0),(1,1),(1,1),(1,2),(0,1),(1,1),(2,2)] Ed Ed Ed Ed Ed Ed UP Ed ?hPh ?h0 ?hstep ?hend
 case hPh=>
  intro p w2 w3 h hr;match p,h with
  |0,h=>exact⟨Ez h.1 (U8 hr),h.2.1.V hr,h.2.2.1.trans (Ew.EA hr),D.V h.2.2.2 hr⟩
  |_+1,h=> obtain⟨nn,L',s,m,km⟩:=h;exact⟨Ez nn (U8 hr),L',s.V hr,m.trans (Ew.EA hr),D.V km hr⟩
 case h0=> exact EnR
 case hstep=>
  refine⟨?_,?_,?_,?_,?_,?_,?_,?_,?_,?_,?_,?_,?_,?_,?_,?_,?_,?_,?_,?_,?_,?_,trivial⟩;all_goals first|intro xv wq p hlo hhi hp hd|intro xv wq hp hd
  all_goals simp only[EH,Ig,Ii,Ia,Ib]
  ·exact Elk
  ·exact ElA
  ·exact Elz
  ·exact Elm
  ·exact Ely
  ·exact ElS
  ·exact Epm
  ·exact Elk
  ·exact EmU
  ·exact EmO
  ·exact ElV
  ·exact EmE
  ·exact El_
  ·exact EmK
  ·exact Elk
  ·have d6:xv 6=EZ Ip:=hd.at 6 rfl;have d13:xv 13=M (Z ⟨gq,0,X⟩):=hd.at 13 rfl;have d14:xv 14=E I k:=hd.at 14 rfl;refine JH (f:=137) (args:= #[xv 6,xv 13,xv 14]) (Ei O) Ex ?_;rw[d6,d13,d14];refine(CA.out wq hp.2.1.core.ZL).mono fun e w2 h=> ?_;obtain⟨⟨t2,cd,L2,he,hf,sq,q2⟩,m2⟩:=h;obtain⟨rv,IF,hs,ho⟩:=Zt t2;exact⟨_,he,⟨m2.iq,Ez hp.1 m2.bel.size,L2,hp.2.1.gh m2 L2 q2 (hp.2.1.core.ok.sub sq),hp.2.2.1.trans (m2.js hi),m2.Ek hp.2.2.2 Ea Ea⟩,rv,cd,qI.out t2 rv cd IF hs ho hf,congrArg (fun v=>Value.tuple #[v,E I cd]) IF⟩
  ·obtain rfl:p=1:=U;obtain⟨rv,cd,hpq,e15⟩: ∃(rv:Array Y) (cd:Int),PQ rv cd/\xv 15=Et #[EZ rv,E I cd]:=hd.at 15 rfl;exact Es Lc ⟨rv,cd,hpq,O⟩
  ·obtain rfl:p=1:=U;exact EmS
  ·exact EmS
  ·exact Emk
  ·obtain⟨b,d0,eA,lb,h8,kb⟩:Z5 n0 (xv 19) wq:=hd.at 19 rfl;have nh:=Xt.out;obtain⟨rv,cd,hpq,-,e17⟩: ∃(rv:Array Y) (cd:Int),PQ rv cd/\xv 16=Et #[EZ rv,E I cd]/\xv 17=EZ rv:=hd.at 17 rfl;have hsz:=qJ.out _ _ hpq;obtain⟨nn,L',s,m,km⟩:=hp;refine bF ER (Ei O) ⟨O,eA,e17⟩ kb h8 hsz.1 hsz.2 ⟨sF kb hsz.1,?_⟩ ⟨b,rv,eA,e17,lb,kb.setRow _⟩;exact EnP
  ·obtain rfl:p=2:=U;obtain⟨rv,cd,hpq,-,e18⟩: ∃(rv:Array Y) (cd:Int),PQ rv cd/\xv 16=Et #[EZ rv,E I cd]/\xv 18=E I cd:=hd.at 18 rfl;exact Es (by simp[go_sem,e18]) (e18.symm)
 case hend=>
  intro xv W6 hp hd;clear S1 MM KM;simp only[EH,Ig,Ii,Ia,Ib];obtain⟨rv,cd,hpq,eM,e17⟩: ∃(rv:Array Y) (cd:Int),PQ rv cd/\xv 16=Et #[EZ rv,E I cd]/\xv 17=EZ rv:=hd 17 Ea;obtain⟨b,iu,eA,eE,lb,kb⟩: ∃(b:Nat) (rv:Array Y),xv 19=M (Z ⟨b,0,X⟩)/\xv 17=EZ rv/\n0<=b/\D W6 b rv 109:=hd 20 Ea;have qO:iu=rv:=by rw[eE] at e17;injection e17
  subst qO;have a21:xv 21=E I cd:=by have h1:xv 21=xv 18:=hd 21 Ea;obtain⟨BY,Ld,-,f1,f2⟩: ∃(rv:Array Y) (cd:Int),PQ rv cd/\xv 16=Et #[EZ rv,E I cd]/\xv 18=E I cd:=hd 18 Ea;exact Em5
  obtain⟨-,L',s6,m6,dF⟩:=hp;have S1:=J s6;have MM:=J m6;have KM:=J dF;have KB:=J kb;rw[eA,a21];rw[hPQ.out] at hpq;obtain⟨t2,IF,hs,ho,hf⟩:=hpq;have Uk:=J IF;have RS:=J hs;have HF:=J hf;clear s6 m6 dF kb hd eA a21 CA IF hs ho hf eM eE;have c1:=Of.out _ _ KM.out;by_cases hcd:cd=0
  ·subst hcd
   have HT2:Ec (t2.ok/\t2.e=c.tok.e+1/\t2.o= -1):=J (by
    rcases HF.out with⟨a1,-⟩|⟨-,-,-,x,-,a2⟩;·exact absurd O a1
    ·exact⟨(gj S1.out.core.ok.tok a2).1,(gj S1.out.core.ok.tok a2).2.1,(gj S1.out.core.ok.tok a2).2.2.2⟩)
   go_wp2_with (with_reducible refine wL ER KB ?_ (hn:=RS.out));rw[<-Uk.out];refine(nr lo hi g gc gq gt gs _ ns rs t2 2 v1 _ S1.out HT2.out.1 J9 JN).mono ?_;rintro e7 w7 ⟨rfl,⟨L2,m7,XP,sq,s7⟩,Xd⟩;replace KM:=J<|Xd.Ek KM.out Ea Ea;replace S1:=J s7;replace MM:=J<|MM.out.trans Xd;have ny:=J XP;clear s7 Xd sq XP c1;have c1:=Of.out _ _ KM.out;go_wp2_with fail;refine(jq lo hi g gc gq gt gs _ (ns+m7) _ k v1 _ S1.out Lb).mono ?_;rintro e8 w8 ⟨rfl,s8,m8⟩;have S8:=J s8;replace MM:=J<|MM.out.trans m8;clear s8 m8;go_wp2_with fail;go_end0;exact⟨O,⟨_,m7+1,_,qE,S8.out,L2,.inr ⟨t2,HT2.out.1,HT2.out.2.1,HT2.out.2.2,O,O⟩⟩,MM.out⟩
  ·exact El7
theorem EdO(a b c d e s:Int): -1<=place a b c d e s/\place a b c d e s<=4:=by
 unfold place;repeat' split
 all_goals omega
def Lf(t:EK)(k:Int)(t2:EK)(hw cd:Int):Prop:=cd≠0\/(cd=0/\hw=3/\t.Uc k=(t2,0))\/(cd=0/\hw=0/\t2=t)
theorem EdU(K:D W gm (ED l) 183):W.cell? ⟨gm,7,X⟩=Z (EU (l.getD 7 0==1)):=by rw[D.cell K,Zh l 7 U,if_pos O]
theorem EdX(lo hi:Nat)(g:Nat->Y)(gc gq gt gs:Nat)(c:Ey)(ns:Nat)(rs:List Rec)(l:List Int)(k:Int)(w:H)(S:E5 lo hi g gc gq gt gs c ns rs w)(hk:1<=k/\k<=3)(hn:ns<800000)(hl:rs.length<800000): Ef Eb 130 #[M (Z ⟨gs,0,X⟩),E I k,EZ (ED l)] w fun e w'=>e=Eg (Et #[])/\(∃c' m new,m<=3/\E5 lo hi g gc gq gt gs c' (ns+m) (rs++new) w'/\ ∃L',((∃cd,c'={c with q:=L'}/\new=[⟨7,k,l.getD 1 0,c.tok.e,cd,0⟩])\/(∃t2,t2.ok/\t2.e=c.tok.e+1/\t2.o= -1/\c'={c with tok:=t2,q:=L'}/\new=[⟨8,t2.h,l.getD 1 0,t2.e,0,3⟩])\/(c'={c with q:=L'}/\new=[⟨10,k,l.getD 1 0,c.tok.e,0,0⟩])))/\Ew lo hi w w':=by
 obtain⟨pa,hpa,Vl⟩:=S.core.X2.fit 45 U U;have EdZ:(pa:Int)<=1000:=by have:=Vl.2.1;unfold U6 at this;simp at this;omega
 have Zv:=fun W q b=>EcY lo gq c.q (pn g 48) g pa hpa (fun i hi=>S.core.X2.int i U (.inl hi)) c.tok S.core.ok.tok k b W S.core.lq q S.core.ok.q (fun h=>S.core.ok.room hk h)
 have Vm:Ec (∀(wq:H) (t2:EK) (hw cd:Int) (w2:H),c.ok->VZ lo gq c.q (pn g 48) c.tok k (aS g k) (max pa 0) t2 hw cd w2-> ∃L2,Jn w2 lo gq L2 (pn g 48)/\({c with q:=L2}:Ey).ok/\Lf c.tok k t2 hw cd):=J (fun wq t2 hw cd w2 ok h=>by
  rcases h with⟨h1,h2,h3,h4⟩|⟨h1,h2,h3,L',h4,h5⟩|⟨h1,h2,h3,h4,L',came,h5,h6,h7⟩;·exact⟨c.q,h4,ok,.inl h1⟩
  ·exact⟨L',h5,ok.sub h4,.inr (.inl ⟨h1,h2,h3⟩)⟩
  ·refine⟨L',h7,ok.push h6 ⟨⟨by show _<=k;omega,by show k<=_;omega⟩,?_,⟨Zo _,by show(0:Int)<=1000;omega⟩,⟨by show(0:Int)<=max (pa:Int) 0;omega,by show max (pa:Int) 0<=1000;omega⟩,h5⟩ hk h4,.inr (.inr ⟨h1,h2,h3⟩)⟩;have:=EdO (pn g 0) (pn g 1) (pn g 2) (pn g 3) (pn g 4) k;exact⟨by show _<=aS g k;unfold aS;omega,by show aS g k<=_;unfold aS;omega⟩)
 obtain⟨b7,qU⟩:=En ((l.getD 7 0==1));have Vn:Ec (∀W g,D W g (ED l) 183->W.cell? ⟨g,7,X⟩=Z (EU b7)):=J (fun W g K=>by rw[qU];exact EdU K);replace Zv:=fun W q=>Zv W q b7;clear qU hpa Vl EdZ;obtain⟨Ip,Ul,Xb,X7⟩: ∃Ip,c.tok.a=EZ Ip/\Ec (Ip.size=8)/\Ec (c.tok.v.toArray=Ip):=⟨_,O,J O,J O⟩;obtain⟨pv,hpv,vS,Lg⟩: ∃pv,EG 56 g=pv/\Ec (pv.size=56)/\Ec ((EG 56 g).toList.toArray=pv):=⟨_,O,J kf,J Eh⟩;have S0:=J S;have HN:=J hn;have HL:=J hl;have KM:=J<|D.new w (ED l) 183;have b1:=Er w (EJ (ED l) 183);have S1:=J<|S0.out.V b1;have MM:=J<|Ew.EA (lo:=lo) (hi:=hi) b1;obtain⟨v1,hv1⟩:=En (l.getD 1 0);have Of:Ec (∀W g,D W g (ED l) 183->W.cell? ⟨g,1,X⟩=Z (E I v1)):=J (fun W g K=>by rw[hv1];exact X6 K 1 U U);try rw[<-hv1]
 replace hv1:=J hv1;clear S hn hl S0;obtain⟨mv,hmv⟩:=En (ED l);rw[<-hmv] at KM b1 S1 MM Of Vn⊢;clear hmv;have CA:Ec (∀W,Jn W lo gq c.q (pn g 48)->Ef Eb 177 #[EZ pv,EZ Ip,M (Z ⟨gq,0,X⟩),E I k,EU b7] W _):=J (fun W q=>Vo);obtain⟨PQ,hPQ⟩: ∃PQ:Array Y->Int->Int->Prop,PQ=fun rv hw cd=> ∃t2:EK,t2.a=EZ rv/\rv.size=8/\rv.all (·.oneCell')=EI/\Lf c.tok k t2 hw cd:=⟨_,O⟩;have qI:Ec (∀(t2:EK) (rv:Array Y) (hw cd:Int),t2.a=EZ rv->rv.size=8->rv.all (·.oneCell')=EI->Lf c.tok k t2 hw cd->PQ rv hw cd):=J (fun t2 rv hw cd h1 h2 h3 h4=>By);have qJ:Ec (∀rv hw cd,PQ rv hw cd->rv.size=8/\rv.all (·.oneCell')=EI):=J (fun rv hw cd h=>Bz);replace hPQ:=J hPQ;clear Zv Ul hpv;go_enter Tryz.func130,Tryz.ntmps130;go_wp2_with fail;clear b1;generalize w.alloc (EJ mv 183)=w1 at*;obtain⟨gm,hgm⟩:=En w.heap.size;rw[<-hgm] at KM⊢;clear hgm;obtain⟨n0,hn0⟩:=En w1.heap.size;have Xt:=J (show lo<=n0/\hi<=n0/\w.heap.size<=n0 from nu);refine ip (Ph:=fun p wq=>n0<=wq.heap.size/\(match p with|0=>(E5 lo hi g gc gq gt gs c ns rs wq/\Ew lo hi w wq/\D wq gm mv 183)|_=>(∃L':List One,E5 lo hi g gc gq gt gs {c with q:=L'} ns rs wq/\Ew lo hi w wq/\D wq gm mv 183))) (Rel:=J0) (Is:=lX) [.val (fun v=>v=M (Z ⟨gs,0,X⟩)),.val (fun v=>v=M (Z ⟨gs,0,X⟩)),.val (fun v=>v=M (Z ⟨gs,0,X⟩)),.val (fun v=>v=M (Z ⟨gc,0,X⟩)),.val (fun v=>v=M (Z ⟨gc,0,X⟩)),.val (fun v=>v=M (Z ⟨gc,0,X⟩)),.val (fun v=>v=EZ pv),.val (fun v=>v=M (Z ⟨gs,0,X⟩)),.val (fun v=>v=M (Z ⟨gs,0,X⟩)),.val (fun v=>v=M (Z ⟨gs,0,X⟩)),.val (fun v=>v=M (Z ⟨gc,0,X⟩)),.val (fun v=>v=M (Z ⟨gc,0,X⟩)),.val (fun v=>v=M (Z ⟨gc,56,X⟩)),.val (fun v=>v=EZ Ip),.val (fun v=>v=M (Z ⟨gs,0,X⟩)),.val (fun v=>v=M (Z ⟨gs,0,X⟩)),.val (fun v=>v=M (Z ⟨gs,0,X⟩)),.val (fun v=>v=M (Z ⟨gc,0,X⟩)),.val (fun v=>v=M (Z ⟨gc,0,X⟩)),.val (fun v=>v=M (Z ⟨gc,64,X⟩)),.val (fun v=>v=M (Z ⟨gq,0,X⟩)),.val (fun v=>v=E I k),.val (fun v=>v=M (Z ⟨gm,7,X⟩)),.val (fun v=>v=EU b7),.val (fun v=> ∃(rv:Array Y) (hw:Int) (cd:Int),PQ rv hw cd/\v=Et #[EZ rv,E I hw,E I cd]),.val (fun v=> ∃(rv:Array Y) (hw:Int) (cd:Int),PQ rv hw cd/\v=Et #[EZ rv,E I hw,E I cd]),.bO [25,26] (fun x=> ∃(rv:Array Y) (hw:Int) (cd:Int),PQ rv hw cd/\x 25=Et #[EZ rv,E I hw,E I cd]/\x 26=EZ rv) (fun x y hq h=>by simpa only[hq 25 Eh,hq 26 Eh] using h),.bO [25,27] (fun x=> ∃(rv:Array Y) (hw:Int) (cd:Int),PQ rv hw cd/\x 25=Et #[EZ rv,E I hw,E I cd]/\x 27=E I hw) (fun x y hq h=>by simpa only[hq 25 Eh,hq 27 Eh] using h),.bO [25,28] (fun x=> ∃(rv:Array Y) (hw:Int) (cd:Int),PQ rv hw cd/\x 25=Et #[EZ rv,E I hw,E I cd]/\x 28=E I cd) (fun x y hq h=>by simpa only[hq 25 Eh,hq 28 Eh] using h),.dep (Z5 n0) (fun v w w' h hr=>h.V hr) (fun v w w' h hr=>h.iq hr),.tie [29,26] (fun x w=> ∃(b:Nat) (rv:Array Y),x 29=M (Z ⟨b,0,X⟩)/\x 26=EZ rv/\n0<=b/\D w b rv 109) (fun x w w' h hr=>BH) (fun x y w hq h=>by rw[hq 29 Eh,hq 26 Eh] at h;exact h),.bO [27,31] (fun x=>x 31=x 27) (fun x y hq h=>by simpa only[hq 27 Eh,hq 31 Eh] using h),.bO [28,32] (fun x=>x 32=x 28) (fun x y hq h=>by simpa only[hq 28 Eh,hq 32 Eh] using h)] [B,B,B,B,B,B,B,B,B,B,B,B,B,B,B,B,B,B,B,B,B,B,B,B,B,B,B,B,B,B,EI,B,B] O [[],[],[],[],[],[],[],[],[],[],[],[],[],[],[],[],[],[],[],[],[],[],[],[],[],[],[25,26],[25,27],[25,28],[],[29,26],[27,31],[28,32]] O [24,30] [(0,0),(0,0),(0,0),(0,0),(0,0),(0,0),(0,0),(0,0),(0,0),(0,0),(0,0),(0,0),(0,0),(0,0),(0,0),(0,0),(0,0),(0,0),(0,0),(0,0),(0,0),(0,0),(0,0),(0,0),(0,0),(1,1),(1,1),(1,2),(1,2),(0,1),(1,1),(2,2),(2,2)] Ed Ed Ed Ed Ed Ed UP Ed ?hPh ?h0 ?hstep ?hend
 case hPh=>
  intro p w2 w3 h hr;match p,h with
  |0,h=>exact⟨Ez h.1 (U8 hr),h.2.1.V hr,h.2.2.1.trans (Ew.EA hr),D.V h.2.2.2 hr⟩
  |_+1,h=> obtain⟨nn,L',s,m,km⟩:=h;exact⟨Ez nn (U8 hr),L',s.V hr,m.trans (Ew.EA hr),D.V km hr⟩
 case h0=> exact EnR
 case hstep=>
  refine⟨?_,?_,?_,?_,?_,?_,?_,?_,?_,?_,?_,?_,?_,?_,?_,?_,?_,?_,?_,?_,?_,?_,?_,?_,?_,?_,?_,?_,?_,?_,?_,?_,?_,trivial⟩;all_goals first|intro xv wq p hlo hhi hp hd|intro xv wq hp hd
  all_goals simp only[EH,Ig,Ii,Ia,Ib]
  ·exact Elk
  ·exact ElA
  ·exact Elz
  ·exact Elm
  ·exact Ely
  ·exact ElS
  ·exact Emy
  ·exact Elk
  ·exact EmU
  ·exact EmO
  ·exact ElV
  ·exact EmE
  ·exact El_
  ·exact Emo
  ·exact Elk
  ·exact Eob
  ·exact Eoa
  ·exact Em3
  ·exact EmV
  ·exact EoZ
  ·exact EmH
  ·exact Elk
  ·exact Elk
  ·obtain rfl:p=0:=U;have d22:xv 22=M (Z ⟨gm,7,X⟩):=hd.at 22 rfl;have cc:wq.cell? ⟨gm,7,X⟩=Z (EU b7):=Vn.out _ _ hp.2.2.2;exact Es Ll O
  ·have d6:xv 6=EZ pv:=hd.at 6 rfl;have d13:xv 13=EZ Ip:=hd.at 13 rfl;have d20:xv 20=M (Z ⟨gq,0,X⟩):=hd.at 20 rfl;have d21:xv 21=E I k:=hd.at 21 rfl;have d23:xv 23=EU b7:=hd.at 23 rfl;refine JH (f:=177) (args:= #[xv 6,xv 13,xv 20,xv 21,xv 23]) (Ei O) Ex ?_;rw[d6,d13,d20,d21,d23];refine(CA.out wq hp.2.1.core.ZL).mono fun e w2 h=> ?_;obtain⟨⟨t2,hw,cd,he,hf⟩,m2⟩:=h;obtain⟨rv,IF,hs,ho⟩:=Zt t2;obtain⟨L2,q2,okq,hpq⟩:=Vm.out wq t2 hw cd w2 hp.2.1.core.ok hf;exact⟨_,he,⟨m2.iq,Ez hp.1 m2.bel.size,L2,hp.2.1.gh m2 L2 q2 okq,hp.2.2.1.trans (m2.js hi),m2.Ek hp.2.2.2 Ea Ea⟩,rv,hw,cd,qI.out t2 rv hw cd IF hs ho hpq,congrArg (fun v=>Value.tuple #[v,E I hw,E I cd]) IF⟩
  ·obtain rfl:p=1:=U;obtain⟨rv,hw,cd,hpq,e24⟩: ∃(rv:Array Y) (hw:Int) (cd:Int),PQ rv hw cd/\xv 24=Et #[EZ rv,E I hw,E I cd]:=hd.at 24 rfl;exact Es (by simp[go_sem,e24]) ⟨rv,hw,cd,hpq,O⟩
  ·obtain rfl:p=1:=U;exact El4
  ·exact El4
  ·exact El4
  ·exact Emk
  ·obtain⟨b,d0,eA,lb,h8,kb⟩:Z5 n0 (xv 29) wq:=hd.at 29 rfl;have nh:=Xt.out;obtain⟨rv,hw,cd,hpq,-,e26⟩: ∃(rv:Array Y) (hw:Int) (cd:Int),PQ rv hw cd/\xv 25=Et #[EZ rv,E I hw,E I cd]/\xv 26=EZ rv:=hd.at 26 rfl;have hsz:=qJ.out _ _ _ hpq;obtain⟨nn,L',s,m,km⟩:=hp;refine bF ER (Ei O) ⟨O,eA,e26⟩ kb h8 hsz.1 hsz.2 ⟨sF kb hsz.1,?_⟩ ⟨b,rv,eA,e26,lb,kb.setRow _⟩;exact EnP
  ·obtain rfl:p=2:=U;obtain⟨rv,hw,cd,hpq,-,e27⟩: ∃(rv:Array Y) (hw:Int) (cd:Int),PQ rv hw cd/\xv 25=Et #[EZ rv,E I hw,E I cd]/\xv 27=E I hw:=hd.at 27 rfl;exact Es (by simp[go_sem,e27]) (e27.symm)
  ·obtain rfl:p=2:=U;obtain⟨rv,hw,cd,hpq,-,e28⟩: ∃(rv:Array Y) (hw:Int) (cd:Int),PQ rv hw cd/\xv 25=Et #[EZ rv,E I hw,E I cd]/\xv 28=E I cd:=hd.at 28 rfl;exact Es (by simp[go_sem,e28]) (e28.symm)
 case hend=>
  intro xv W6 hp hd;clear S1 MM KM;simp only[EH,Ig,Ii,Ia,Ib];obtain⟨rv,hw,cd,hpq,eM,e26⟩: ∃(rv:Array Y) (hw:Int) (cd:Int),PQ rv hw cd/\xv 25=Et #[EZ rv,E I hw,E I cd]/\xv 26=EZ rv:=hd 26 Ea;obtain⟨b,iu,eA,eE,lb,kb⟩: ∃(b:Nat) (rv:Array Y),xv 29=M (Z ⟨b,0,X⟩)/\xv 26=EZ rv/\n0<=b/\D W6 b rv 109:=hd 30 Ea;have qO:iu=rv:=by rw[eE] at e26;injection e26
  subst qO;have a31:xv 31=E I hw:=by have h1:xv 31=xv 27:=hd 31 Ea;obtain⟨BY,hw9,Ld,-,f1,f2⟩: ∃(rv:Array Y) (hw:Int) (cd:Int),PQ rv hw cd/\xv 25=Et #[EZ rv,E I hw,E I cd]/\xv 27=E I hw:=hd 27 Ea;exact Em5
  have a32:xv 32=E I cd:=by have h1:xv 32=xv 28:=hd 32 Ea;obtain⟨BY,hw9,Ld,-,f1,f2⟩: ∃(rv:Array Y) (hw:Int) (cd:Int),PQ rv hw cd/\xv 25=Et #[EZ rv,E I hw,E I cd]/\xv 28=E I cd:=hd 28 Ea;exact Em5
  obtain⟨-,L',s6,m6,dF⟩:=hp;have S1:=J s6;have MM:=J m6;have KM:=J dF;have KB:=J kb;rw[eA,a31,a32];rw[hPQ.out] at hpq;obtain⟨t2,IF,hs,ho,hf⟩:=hpq;have Uk:=J IF;have RS:=J hs;have RO:=J ho;clear s6 m6 dF kb hd eA a31 a32 CA IF hs ho eM eE Vm;have c1:=Of.out _ _ KM.out;by_cases hcd:cd=0
  ·subst hcd;rcases hf with hf|⟨-,rfl,hf⟩|⟨-,rfl,hf⟩;·exact absurd O hf
   ·have HT2:Ec (t2.ok/\t2.e=c.tok.e+1/\t2.o= -1):=J ⟨(gj S1.out.core.ok.tok hf).1,(gj S1.out.core.ok.tok hf).2.1,(gj S1.out.core.ok.tok hf).2.2.2⟩;clear hf;go_wp2_with (with_reducible refine wL ER KB ?_ (hn:=RS.out));rw[<-Uk.out];refine(nr lo hi g gc gq gt gs _ ns rs t2 3 v1 _ S1.out HT2.out.1 J9 JN).mono ?_;rintro e7 w7 ⟨rfl,⟨L2,m7,XP,sq,s7⟩,Xd⟩;replace KM:=J<|Xd.Ek KM.out Ea Ea;replace S1:=J s7;replace MM:=J<|MM.out.trans Xd;have ny:=J XP;clear s7 Xd sq XP c1;have c1:=Of.out _ _ KM.out;go_wp2_with fail;refine(jq lo hi g gc gq gt gs _ (ns+m7) _ k v1 _ S1.out Lb).mono ?_;rintro e8 w8 ⟨rfl,s8,m8⟩;have S8:=J s8;replace MM:=J<|MM.out.trans m8;clear s8 m8;go_wp2_with fail;go_end0;exact⟨O,⟨_,m7+1,_,qE,S8.out,L2,.inr (.inl ⟨t2,HT2.out.1,HT2.out.2.1,HT2.out.2.2,O,O⟩)⟩,MM.out⟩
   ·subst hf;have Z4:Ec (iu.toList=c.tok.v):=J (by have h:=Uk.out;unfold EK.a at h;injection h with h;rw[<-h];rfl);go_wp2_with fail;have y0: ∀y:Ext W6,(EC W6 y).cell? ⟨gs,0,X⟩=Z (M (Z ⟨gc,0,X⟩)):=fun y=>(S1.out.V (EN y)).IB;refine J_ 7 Ed Ed ?_;simp only[Iq,Io,IP,IH]
    repeat (first
     |go_big_quiet_skip
     |(go_big_quiet_want
       first
        |(refine UB (T:=109) (g:=b) ER _ rfl rfl KB ?_ ?_;(·exact RS.out);go_simp;go_big_quiet_on)
        |(go_big_quiet_op
          first
           |go_big_quiet_on
           |go_big_quiet_call (fail))))
    refine I1 ?_;intro _ hw';obtain⟨y9,rfl⟩:=hw';have Em:=EN y9;replace KM:=EM KM Em;replace S1:=J<|S1.out.V Em;replace MM:=J<|MM.out.trans (Ew.EA Em);clear y0 Em c1;generalize EC W6 y9=w7 at*;have TH:=J<|cD S1.out.core 1 rfl 8 XR;go_wp2_with ((with_reducible refine JB 109 ?_);(with_reducible refine Ui O 109 _ _ O gc 56 iu ?_ ?_ ?_ ?_ ?_ ?_);(·rfl);(·rfl);(·rw[RS.out];exact TH.out);(·rw[RS.out];exact ER.2);(·exact RO.out);refine Ev.mk ?_);apply Eo;rw[Z4.out];have S4:=S1.out.ar c.tok S1.out.core.ok;obtain⟨d0,d1,d2,hd,KG,-⟩:=S1.out.core.Ek;replace KM:=J<|(JG (g:=gc) c.tok.v 56 w7).Ek KM.out (EW KM.out KG Ea);replace S1:=J S4.1;replace MM:=J<|MM.out.trans S4.2;clear S4 TH KG;generalize w7.setCells gc 56 c.tok.v=w8 at*;have c1:=Of.out _ _ KM.out;go_wp2_with fail;refine(Zp lo hi g gc gq gt gs _ ns rs 10 k v1 0 0 _ S1.out JN).mono ?_;rintro e9 w9 ⟨rfl,s9,m9⟩;replace KM:=J<|m9.Ek KM.out Ea Ea;replace S1:=J s9;replace MM:=J<|MM.out.trans m9;clear s9 m9 c1;have c1:=Of.out _ _ KM.out;go_wp2_with fail;refine(jq lo hi g gc gq gt gs _ ns _ k v1 _ S1.out J9).mono ?_;rintro e8 w8 ⟨rfl,s8,m8⟩;have S8:=J s8;replace MM:=J<|MM.out.trans m8;clear s8 m8;go_wp2_with fail;go_end0;exact⟨O,⟨_,1,_,U,S8.out,L',.inr (.inr ⟨O,O⟩)⟩,MM.out⟩
  ·exact El7
theorem Edc(t:EK)(k:Int):(t.oy k=(t,28))\/(0<=t.o/\t.o=k/\t.oy k=(t.end_,0)):=by
 unfold EK.oy;split;·exact .inl O
 ·exact .inr ⟨U,U,O⟩
theorem Vp(h:t.ok):t.end_.ok:=⟨h.h,h.e,fd,fd,fd,h.la,h.lm,fd⟩
theorem Edd(lo hi:Nat)(g:Nat->Y)(gc gq gt gs:Nat)(c:Ey)(ns:Nat)(rs:List Rec)(l:List Int)(k:Int)(w:H)(S:E5 lo hi g gc gq gt gs c ns rs w)(hn:ns<800000)(hl:rs.length<800000): Ef Eb 133 #[M (Z ⟨gs,0,X⟩),E I k,EZ (ED l)] w fun e w'=>e=Eg (Et #[])/\(∃c' m new,m<=3/\E5 lo hi g gc gq gt gs c' (ns+m) (rs++new) w'/\((∃cd,c'=c/\new=[⟨7,k,l.getD 1 0,c.tok.e,cd,0⟩])\/(0<=c.tok.o/\c.tok.o=k/\c'={c with tok:=c.tok.end_}/\new=[⟨11,k,l.getD 1 0,c.tok.e,0,0⟩])))/\Ew lo hi w w':=by
 have Vq:=fun W=>EJz c.tok k W;obtain⟨Ip,Ul,Xb,X7⟩: ∃Ip,c.tok.a=EZ Ip/\Ec (Ip.size=8)/\Ec (c.tok.v.toArray=Ip):=⟨_,O,J O,J O⟩;have S0:=J S;have HN:=J hn;have HL:=J hl;have KM:=J<|D.new w (ED l) 183;have b1:=Er w (EJ (ED l) 183);have S1:=J<|S0.out.V b1;have MM:=J<|Ew.EA (lo:=lo) (hi:=hi) b1;obtain⟨v1,hv1⟩:=En (l.getD 1 0);have Of:Ec (∀W g,D W g (ED l) 183->W.cell? ⟨g,1,X⟩=Z (E I v1)):=J (fun W g K=>by rw[hv1];exact X6 K 1 U U);try rw[<-hv1]
 replace hv1:=J hv1;clear S hn hl S0;obtain⟨mv,hmv⟩:=En (ED l);rw[<-hmv] at KM b1 S1 MM Of⊢;clear hmv;go_enter Tryz.func133,Tryz.ntmps133;go_wp2_with (with_reducible refine I7 12 ?_);apply Eo;clear b1;generalize w.alloc (EJ mv 183)=w1 at*;obtain⟨gm,hgm⟩:=En w.heap.size;rw[<-hgm] at KM⊢;clear hgm;have z0:=S1.out.IB;obtain⟨big,KB,OV⟩:=bI S1.out.core;have KB:=J KB;have dC:Ec (big.extract 56 (56+8)=Ip):=J<|(OV 1 c.tok.v O).trans X7.out;have CD:=J Vq;rw[Ul] at CD;clear OV Vq Ul;go_wp2_with (with_reducible refine wM (off:=56) (cs:=Ip) ER KB ?_ (hn:=Xb.out) (he:=dC.out));refine(CD.out _).mono ?_;rintro e6 w6 ⟨rfl,b6⟩;replace KM:=EM KM b6;replace S1:=J<|S1.out.V b6;replace MM:=J<|MM.out.trans (Ew.EA b6);clear b6 z0 KB CD;cases hr:c.tok.oy k with|mk t cd=>
 have HR:=J hr;rw[show(t,cd).fst.a=t.a from rfl];clear hr;obtain⟨tv,IE,TS,TO,Z4,gZ⟩: ∃tv,t.a=EZ tv/\Ec (tv.size=8)/\Ec (tv.all (·.oneCell')=EI)/\Ec (tv.toList=t.v)/\Ec (∀W g,D W g tv 109->W.cell? ⟨g,0,X⟩=Z (E I t.h)/\W.cell? ⟨g,1,X⟩=Z (E I t.e)):=⟨_,O,J O,J (fK _ _ _ _ _ _ _ _),J O,J fun W g K=>⟨(D.cell K 0).trans O,(D.cell K 1).trans O⟩⟩;rw[IE];go_wp2_with (with_reducible refine dS 109 ?_);apply Eo;generalize hW:Uz _ _=w7 at*;have KT:Ec (D w7 (w6.heap.size) #[E I 0,E I 0,E I 0,E I 0,E I 0,E I 0,E I 0,EU B] 109):=J (by subst hW;repeat (first|exact D.new _ _ _|exact D.new' _ _ _ Eh|refine D.alloc ?_ _));have b7:Ec (El w6 w7):=J Vh;clear hW;obtain⟨gk,Zu⟩:=En w6.heap.size;rw[<-Zu] at KT⊢;have LK:=J (show w6.heap.size<=gk from U);clear Zu;go_wp2_with (with_reducible refine wS (cs:=tv) ER KT (Ev.mk ?_) (hn:=TS.out) (h1:=TO.out));apply Eo;replace KT:=J<|KT.out.setRow tv;replace b7:=J<|E2 (g:=gk) b7.out LK.out tv;generalize w7.setRow gk tv=w8 at*;replace KM:=EM KM b7.out;replace S1:=J<|S1.out.V b7.out;replace MM:=J<|MM.out.trans (Ew.EA b7.out);clear b7 LK IE;have c1:=Of.out _ _ KM.out;rcases Edc c.tok k with hc|⟨ho1,ho2,hc⟩;·have hcd:cd=28:=vW;subst hcd;clear hc;go_wp2_with fail;refine(ij lo hi g gc gq gt gs c ns rs k v1 28 _ S1.out J9 JN).mono ?_;rintro e7 w7 ⟨rfl,s7,m7⟩;have S8:=J s7;replace MM:=J<|MM.out.trans m7;clear s7 m7;go_wp2_with fail;refine EV (UQ O _ _ _) O ?_;exact⟨O,⟨_,1,_,U,S8.out,.inl ⟨28,O,O⟩⟩,MM.out⟩
 ·have hcd:cd=0:=vW;have ht:t=c.tok.end_:=vW;have Lm:=J ht;have HO:=J<|show 0<=c.tok.o/\c.tok.o=k from⟨ho1,ho2⟩;subst hcd;clear hc ho1 ho2 ht;go_wp2_with fail;have y0: ∀y:Ext w8,(EC w8 y).cell? ⟨gs,0,X⟩=Z (M (Z ⟨gc,0,X⟩)):=fun y=>(S1.out.V (EN y)).IB;refine J_ 7 Ed Ed ?_;simp only[Iq,Io,IP,IH]
  repeat (first
   |go_big_quiet_skip
   |(go_big_quiet_want
     first
      |(refine UB (T:=109) (g:=gk) ER _ rfl rfl KT ?_ ?_;(·exact TS.out);go_simp;go_big_quiet_on)
      |(go_big_quiet_op
        first
         |go_big_quiet_on
         |go_big_quiet_call (fail))))
  refine I1 ?_;intro _ hw';obtain⟨y9,rfl⟩:=hw';have Em:=EN y9;replace KT:=EM KT Em;replace KM:=EM KM Em;replace S1:=J<|S1.out.V Em;replace MM:=J<|MM.out.trans (Ew.EA Em);clear y0 Em c1;generalize EC w8 y9=w9 at*;have TH:=J<|cD S1.out.core 1 rfl 8 XR;go_wp2_with ((with_reducible refine JB 109 ?_);(with_reducible refine Ui O 109 _ _ O gc 56 tv ?_ ?_ ?_ ?_ ?_ ?_);(·rfl);(·rfl);(·rw[TS.out];exact TH.out);(·rw[TS.out];exact ER.2);(·exact TO.out);refine Ev.mk ?_);apply Eo;rw[Z4.out];have S4:=S1.out.ar t (S1.out.core.ok.ar (by rw[Lm.out];exact Vp S1.out.core.ok.tok));obtain⟨d0,d1,d2,hd,KG,-⟩:=S1.out.core.Ek;replace KT:=J<|(JG (g:=gc) t.v 56 w9).Ek KT.out (EW KT.out KG Ea);replace KM:=J<|(JG (g:=gc) t.v 56 w9).Ek KM.out (EW KM.out KG Ea);replace S1:=J S4.1;replace MM:=J<|MM.out.trans S4.2;clear S4 TH KG;generalize w9.setCells gc 56 t.v=Uy at*;have c0:=(gZ.out _ _ KT.out).1;go_wp2_with fail;refine(pF lo hi g gc gq gt gs _ ns rs t.h k 0 _ S1.out J9).mono ?_;rintro e11 bY ⟨rfl,⟨m1,hm1,s11⟩,m11⟩;replace KM:=J<|m11.Ek KM.out Ea Ea;replace S1:=J s11;replace MM:=J<|MM.out.trans m11;have jx:=J hm1;clear m11 s11 hm1 c0 KT;have c1:=Of.out _ _ KM.out;go_wp2_with fail;refine(Zp lo hi g gc gq gt gs _ (ns+m1) rs 11 k v1 0 0 _ S1.out JN).mono ?_;rintro e12 Xc ⟨rfl,s12,m12⟩;replace KM:=J<|m12.Ek KM.out Ea Ea;replace S1:=J s12;replace MM:=J<|MM.out.trans m12;clear m12 s12 c1;have c1:=Of.out _ _ KM.out;go_wp2_with fail;refine(jq lo hi g gc gq gt gs _ (ns+m1) _ k v1 _ S1.out vM).mono ?_;rintro e13 JW ⟨rfl,s13,m13⟩;have S8:=J s13;replace MM:=J<|MM.out.trans m13;clear s13 m13;go_wp2_with fail;go_end0;refine⟨O,⟨_,m1+1,_,sD,S8.out,.inr ⟨HO.out.1,HO.out.2,?_,?_⟩⟩,MM.out⟩;·rw[Lm.out]
  ·rw[Lm.out];rfl
theorem Edf(t:EK)(po s d:Int)(th:Bool):((t.make po s d th).2≠0)\/(s=t.h/\t.e<65535/\d≠s/\1<=d/\d<=3/\t.o<0/\t.make po s d th=({t with o:=d,oa:=0,om:=max po 0},0)):=by
 unfold EK.make;by_cases h1:s≠t.h;·rw[if_pos h1];exact .inl Eh
 ·rw[if_neg h1];by_cases h2:65535<=t.e;·rw[if_pos h2];exact .inl Eh
  ·rw[if_neg h2];by_cases h3:d=s;·rw[if_pos h3];exact .inl Eh
   ·rw[if_neg h3];by_cases h4:d<1\/3<d\/th=B;·rw[if_pos h4];exact .inl Eh
    ·rw[if_neg h4];by_cases h5:0<=t.o;·rw[if_pos h5];exact .inl Eh
     ·rw[if_neg h5];exact .inr ⟨U,U,h3,U,U,U,O⟩
theorem Edg(lo hi:Nat)(g:Nat->Y)(gc gq gt gs:Nat)(c:Ey)(ns:Nat)(rs:List Rec)(l:List Int)(k:Int)(w:H)(S:E5 lo hi g gc gq gt gs c ns rs w)(hk:1<=k/\k<=3)(hn:ns<800000)(hl:rs.length<800000): Ef Eb 131 #[M (Z ⟨gs,0,X⟩),E I k,EZ (ED l)] w fun e w'=>e=Eg (Et #[])/\(∃c' m new,m<=3/\E5 lo hi g gc gq gt gs c' (ns+m) (rs++new) w'/\((∃cd,c'=c/\new=[⟨7,k,l.getD 1 0,c.tok.e,cd,0⟩])\/(∃po:Int,g 44=E I po/\k=c.tok.h/\c.tok.o<0/\c'={c with tok:={c.tok with o:=l.getD 3 0,oa:=0,om:=max po 0}}/\new=[⟨9,k,l.getD 1 0,c.tok.e,0,l.getD 3 0⟩])))/\Ew lo hi w w':=by
 obtain⟨po,hpo,Vr⟩:=S.core.X2.fit 44 U U;have io:=J hpo;have ZH:Ec ((po:Int)<=1000):=J (by have:=Vr.2.1;unfold U6 at this;simp at this;omega);have Zv:=fun d th W=>EOL g c.tok k d po th W hpo;have HK:=J hk;clear hpo Vr hk;obtain⟨Ip,Ul,Xb,X7⟩: ∃Ip,c.tok.a=EZ Ip/\Ec (Ip.size=8)/\Ec (c.tok.v.toArray=Ip):=⟨_,O,J O,J O⟩;obtain⟨pv,hpv,vS,Lg⟩: ∃pv,EG 56 g=pv/\Ec (pv.size=56)/\Ec ((EG 56 g).toList.toArray=pv):=⟨_,O,J kf,J Eh⟩;have S0:=J S;have HN:=J hn;have HL:=J hl;have KM:=J<|D.new w (ED l) 183;have b1:=Er w (EJ (ED l) 183);have S1:=J<|S0.out.V b1;have MM:=J<|Ew.EA (lo:=lo) (hi:=hi) b1;obtain⟨v1,hv1⟩:=En (l.getD 1 0);have Of:Ec (∀W g,D W g (ED l) 183->W.cell? ⟨g,1,X⟩=Z (E I v1)):=J (fun W g K=>by rw[hv1];exact X6 K 1 U U);try rw[<-hv1]
 replace hv1:=J hv1;obtain⟨v3,hv3⟩:=En (l.getD 3 0);have vY:Ec (∀W g,D W g (ED l) 183->W.cell? ⟨g,3,X⟩=Z (E I v3)):=J (fun W g K=>by rw[hv3];exact X6 K 3 U U);try rw[<-hv3]
 replace hv3:=J hv3;clear S hn hl S0;obtain⟨mv,hmv⟩:=En (ED l);rw[<-hmv] at KM b1 S1 MM Of vY⊢;clear hmv;cases hr:c.tok.make po k v3 (c.T.UV v3) with|mk t2 cd=>
 obtain⟨rv,IF,RS,RO⟩:=Zt t2;have RS:=J RS;have RO:=J RO;have Uk:=J IF;have HR:=J hr;have CA:Ec (∀W,Ef Eb 178 #[EZ pv,EZ Ip,E I k,E I v3,EU (c.T.UV v3)] W fun x w'=>x=Eg (Et #[EZ rv,E I cd])/\El W w'):=J (fun W=>by have h:=Zv v3 (c.T.UV v3) W;rw[hr,Ul,hpv] at h;rw[<-IF];exact h);clear hr Zv Ul hpv;obtain⟨e2,he2⟩:=En t2.e;have CE:Ec (∀W g,D W g rv 109->W.cell? ⟨g,1,X⟩=Z (E I e2)):=J (fun W g K=>by have e:rv=UU t2.h t2.e t2.o t2.oa t2.om t2.la t2.lm t2.bad:=Vs;subst e;rw[he2];exact(D.cell K 1).trans O);have Z4:Ec (rv.toList=t2.v):=J (by have:=IF;unfold EK.a at this;injection this with this;rw[<-this];rfl);clear IF he2;have BR3:Tryz.prog.built 222 [(0,E I 135),(3,E I k),(4,E I e2)]=Z (I6 [135,0,0,k,e2,0,0,0,0,0,0,0,0,0]):=Ed;go_enter Tryz.func131,Tryz.ntmps131;go_wp2_with fail;clear b1;generalize w.alloc (EJ mv 183)=w1 at*;obtain⟨gm,hgm⟩:=En w.heap.size;rw[<-hgm] at KM⊢;clear hgm;obtain⟨n0,hn0⟩:=En w1.heap.size;have Xt:=J (show lo<=n0/\hi<=n0/\w.heap.size<=n0 from nu);refine ip (Ph:=fun _ wq=>(E5 lo hi g gc gq gt gs c ns rs wq/\Ew lo hi w wq/\D wq gm mv 183/\n0<=wq.heap.size)) (Rel:=J0) (Is:=lX) [.val (fun v=>v=M (Z ⟨gs,0,X⟩)),.val (fun v=>v=M (Z ⟨gs,0,X⟩)),.val (fun v=>v=M (Z ⟨gs,0,X⟩)),.val (fun v=>v=M (Z ⟨gc,0,X⟩)),.val (fun v=>v=M (Z ⟨gc,0,X⟩)),.val (fun v=>v=M (Z ⟨gc,0,X⟩)),.val (fun v=>v=EZ pv),.val (fun v=>v=M (Z ⟨gs,0,X⟩)),.val (fun v=>v=M (Z ⟨gs,0,X⟩)),.val (fun v=>v=M (Z ⟨gs,0,X⟩)),.val (fun v=>v=M (Z ⟨gc,0,X⟩)),.val (fun v=>v=M (Z ⟨gc,0,X⟩)),.val (fun v=>v=M (Z ⟨gc,56,X⟩)),.val (fun v=>v=EZ Ip),.val (fun v=>v=E I k),.val (fun v=>v=M (Z ⟨gm,3,X⟩)),.val (fun v=>v=E I v3),.val (fun v=>v=M (Z ⟨gs,0,X⟩)),.val (fun v=>v=M (Z ⟨gs,0,X⟩)),.val (fun v=>v=M (Z ⟨gs,0,X⟩)),.val (fun v=>v=M (Z ⟨gc,0,X⟩)),.val (fun v=>v=M (Z ⟨gc,0,X⟩)),.val (fun v=>v=M (Z ⟨gc,95,X⟩)),.val (fun v=>v=M (Z ⟨gt,0,X⟩)),.val (fun v=>v=M (Z ⟨gm,3,X⟩)),.val (fun v=>v=E I v3),.val (fun v=>v=EU (c.T.UV v3)),.val (fun v=>v=Et #[EZ rv,E I cd]),.val (fun v=>v=Et #[EZ rv,E I cd]),.val (fun v=>v=EZ rv),.val (fun v=>v=E I cd),.dep (Z5 n0) (fun v w w' h hr=>h.V hr) (fun v w w' h hr=>h.iq hr),.tie [31] (fun x w=> ∃b:Nat,x 31=M (Z ⟨b,0,X⟩)/\n0<=b/\D w b rv 109) (fun x w w' h hr=>p8) (fun x y w hq h=>by rw[hq 31 Eh] at h;exact h),.val (fun v=>v=E I cd)] [B,B,B,B,B,B,B,B,B,B,B,B,B,B,B,B,B,B,B,B,B,B,B,B,B,B,B,B,B,B,B,B,EI,B] O [[],[],[],[],[],[],[],[],[],[],[],[],[],[],[],[],[],[],[],[],[],[],[],[],[],[],[],[],[],[],[],[],[31],[]] O [32] [(0,0),(0,0),(0,0),(0,0),(0,0),(0,0),(0,0),(0,0),(0,0),(0,0),(0,0),(0,0),(0,0),(0,0),(0,0),(0,0),(0,0),(0,0),(0,0),(0,0),(0,0),(0,0),(0,0),(0,0),(0,0),(0,0),(0,0),(0,0),(0,0),(0,0),(0,1),(0,0),(0,0),(1,1)] Ed Ed Ed Ed Ed Ed UP Ed ?hPh ?h0 ?hstep ?hend;case hPh=> intro p w2 w3 h hr;exact⟨h.1.V hr,h.2.1.trans (Ew.EA hr),D.V h.2.2.1 hr,Ez h.2.2.2 (U8 hr)⟩
 case h0=> exact EnQ
 case hstep=>
  refine⟨?_,?_,?_,?_,?_,?_,?_,?_,?_,?_,?_,?_,?_,?_,?_,?_,?_,?_,?_,?_,?_,?_,?_,?_,?_,?_,?_,?_,?_,?_,?_,?_,?_,?_,trivial⟩;all_goals first|intro xv wq p hlo hhi hp hd|intro xv wq hp hd
  all_goals simp only[EH,Ig,Ii,Ia,Ib]
  ·exact Elk
  ·exact ElA
  ·exact Elz
  ·exact Em8
  ·exact Ely
  ·exact ElS
  ·obtain rfl:p=0:=U;have d5:xv 5=M (Z ⟨gc,0,X⟩):=hd.at 5 rfl;obtain⟨big,KB,OV⟩:=bI hp.1.core;exact EmR
  ·exact Elk
  ·exact EmU
  ·exact EmO
  ·obtain rfl:p=0:=U;have d9:xv 9=M (Z ⟨gs,0,X⟩):=hd.at 9 rfl;have cc:wq.cell? ⟨gs,0,X⟩=Z (M (Z ⟨gc,0,X⟩)):=hp.1.IB;exact Es vR O
  ·exact EmE
  ·exact El_
  ·obtain rfl:p=0:=U;have d12:xv 12=M (Z ⟨gc,56,X⟩):=hd.at 12 rfl;obtain⟨big,KB,OV⟩:=bI hp.1.core;exact Emp
  ·exact Elk
  ·exact Elk
  ·obtain rfl:p=0:=U;have d15:xv 15=M (Z ⟨gm,3,X⟩):=hd.at 15 rfl;have cc:wq.cell? ⟨gm,3,X⟩=Z (E I v3):=vY.out _ _ hp.2.2.1;exact Es (by simp[go_sem,d15,cc]) O
  ·exact Elk
  ·obtain rfl:p=0:=U;have d17:xv 17=M (Z ⟨gs,0,X⟩):=hd.at 17 rfl;exact Es vV O
  ·obtain rfl:p=0:=U;have d18:xv 18=M (Z ⟨gs,0,X⟩):=hd.at 18 rfl;exact Es Lk O
  ·obtain rfl:p=0:=U;have d19:xv 19=M (Z ⟨gs,0,X⟩):=hd.at 19 rfl;have cc:wq.cell? ⟨gs,0,X⟩=Z (M (Z ⟨gc,0,X⟩)):=hp.1.IB;exact Es B_ O
  ·obtain rfl:p=0:=U;exact EoM
  ·obtain rfl:p=0:=U;have d21:xv 21=M (Z ⟨gc,0,X⟩):=hd.at 21 rfl;exact Es (by simp[go_sem,d21]) O
  ·obtain rfl:p=0:=U;have d22:xv 22=M (Z ⟨gc,95,X⟩):=hd.at 22 rfl;have cc:wq.cell? ⟨gc,95,X⟩=Z (M (Z ⟨gt,0,X⟩)):=hp.1.core.cell 6 rfl 0 Eh;exact Es Ll O
  ·exact Elk
  ·obtain rfl:p=0:=U;have d24:xv 24=M (Z ⟨gm,3,X⟩):=hd.at 24 rfl;have cc:wq.cell? ⟨gm,3,X⟩=Z (E I v3):=vY.out _ _ hp.2.2.1;exact Es (by simp[go_sem,d24,cc]) O
  ·obtain rfl:p=0:=U;have d23:xv 23=M (Z ⟨gt,0,X⟩):=hd.at 23 rfl;have d25:xv 25=E I v3:=hd.at 25 rfl;refine JH (f:=55) (args:= #[xv 23,xv 25]) (Ei O) Ex ?_;rw[d23,d25];exact(mG gt c.T v3 wq hp.1.core.tab hp.1.core.ok.T).mono fun e w2 h=>⟨_,h.1,h.2▸E9 _ _,O⟩
  ·obtain rfl:p=0:=U;have d6:xv 6=EZ pv:=hd.at 6 rfl;have d13:xv 13=EZ Ip:=hd.at 13 rfl;have d14:xv 14=E I k:=hd.at 14 rfl;have d16:xv 16=E I v3:=hd.at 16 rfl;have d26:xv 26=EU (c.T.UV v3):=hd.at 26 rfl;refine JH (f:=178) (args:= #[xv 6,xv 13,xv 14,xv 16,xv 26]) (Ei O) Ex ?_;rw[d6,d13,d14,d16,d26];exact EpJ
  ·obtain rfl:p=0:=U;have d27:xv 27=Et #[EZ rv,E I cd]:=hd.at 27 rfl;exact Es (by simp[go_sem,d27]) O
  ·obtain rfl:p=0:=U;exact EoL
  ·exact EoL
  ·exact EnF
  ·have d29:xv 29=EZ rv:=hd.at 29 rfl;obtain⟨b,d0,eA,lb,h8,kb⟩:Z5 n0 (xv 31) wq:=hd.at 31 rfl;have nh:=Xt.out;refine bF ER (Ei O) ⟨O,eA,d29⟩ kb h8 RS.out RO.out ⟨sF kb RS.out,?_⟩ ⟨b,eA,lb,kb.setRow _⟩;exact Em9
  ·obtain rfl:p=1:=U;have d30:xv 30=E I cd:=hd.at 30 rfl;exact Es (by simp[go_sem,d30]) O
 case hend=>
  intro xv W6 hp hd;clear S1 MM KM;simp only[EH,Ig,Ii,Ia,Ib];obtain⟨b,eA,lb,kb⟩: ∃b:Nat,xv 31=M (Z ⟨b,0,X⟩)/\n0<=b/\D W6 b rv 109:=hd 32 Ea;have d33:xv 33=E I cd:=hd 33 Ea;obtain⟨s6,m6,dF,-⟩:=hp;have S1:=J s6;have MM:=J m6;have KM:=J dF;have KB:=J kb;rw[eA,d33];clear s6 m6 dF kb hd eA d33 CA;have c1:=Of.out _ _ KM.out;rcases Edf c.tok po k v3 (c.T.UV v3) with hc|⟨q1,q2,q3,q4,q5,q6,hc⟩
  ·have hcd:cd≠0:=by rw[HR.out] at hc;exact hc
   have t9:(cd !=0)=EI:=dA;clear hc hcd;exact EmX
  ·have hcd:cd=0:=vW;have ht:t2={c.tok with o:=v3,oa:=0,om:=max (po:Int) 0}:=vW;have HT:=J ht;have HTO:Ec (t2.ok):=J (by have hh:=S1.out.core.ok.tok;have hb:=ZH.out;have hk:=HK.out;rw[ht];exact⟨hh.h,hh.e,⟨by show(-1:Int)<=v3;omega,q5⟩,⟨Zo _,by show(0:Int)<=1000;omega⟩,⟨by show(0:Int)<=max (po:Int) 0;omega,by show max (po:Int) 0<=1000;omega⟩,hh.la,hh.lm,fun _=>⟨by show 1<=c.tok.h;omega,by show c.tok.h<=3;omega,by show v3≠c.tok.h;omega⟩⟩);have HQ1:=J q1;have HQ6:=J q6;subst hcd;clear hc q1 q2 q3 q4 q5 q6 ht;go_wp2_with fail;have y0: ∀y:Ext W6,(EC W6 y).cell? ⟨gs,0,X⟩=Z (M (Z ⟨gc,0,X⟩)):=fun y=>(S1.out.V (EN y)).IB;refine J_ 7 Ed Ed ?_;simp only[Iq,Io,IP,IH]
   repeat (first
    |go_big_quiet_skip
    |(go_big_quiet_want
      first
       |(refine UB (T:=109) (g:=b) ER _ rfl rfl KB ?_ ?_;(·exact RS.out);go_simp;go_big_quiet_on)
       |(go_big_quiet_op
         first
          |go_big_quiet_on
          |go_big_quiet_call (fail))))
   refine I1 ?_;intro _ hw';obtain⟨y9,rfl⟩:=hw';have Em:=EN y9;replace KB:=EM KB Em;replace KM:=EM KM Em;replace S1:=J<|S1.out.V Em;replace MM:=J<|MM.out.trans (Ew.EA Em);clear y0 Em c1;generalize EC W6 y9=w9 at*;have TH:=J<|cD S1.out.core 1 rfl 8 XR;go_wp2_with ((with_reducible refine JB 109 ?_);(with_reducible refine Ui O 109 _ _ O gc 56 rv ?_ ?_ ?_ ?_ ?_ ?_);(·rfl);(·rfl);(·rw[RS.out];exact TH.out);(·rw[RS.out];exact ER.2);(·exact RO.out);refine Ev.mk ?_);apply Eo;rw[Z4.out];have S4:=S1.out.ar t2 (S1.out.core.ok.ar HTO.out);obtain⟨d0,d1,d2,hd,KG,-⟩:=S1.out.core.Ek;replace KB:=J<|(JG (g:=gc) t2.v 56 w9).Ek KB.out (EW KB.out KG Ea);replace KM:=J<|(JG (g:=gc) t2.v 56 w9).Ek KM.out (EW KM.out KG Ea);replace S1:=J S4.1;replace MM:=J<|MM.out.trans S4.2;clear S4 TH KG;generalize w9.setCells gc 56 t2.v=Uy at*;have c0:=CE.out _ _ KB.out;have c3:=vY.out _ _ KM.out;go_wp2_with ((with_reducible refine It 60 ?_);refine I3 O 222 _ O (I6 [135,0,0,k,e2,0,0,0,0,0,0,0,0,0]) BR3 ?_);refine(Bf lo hi g gc gq gt gs _ ns rs [135,0,0,k,e2,0,0,0,0,0,0,0,0,0] v3 _ S1.out (pD _ _ _ _ _ _) J9).mono ?_;rintro e11 bY ⟨rfl,⟨m1,hm1,s11⟩,m11⟩;replace KM:=J<|m11.Ek KM.out Ea Ea;replace S1:=J s11;replace MM:=J<|MM.out.trans m11;have jx:=J hm1;clear m11 s11 hm1 c0 c3 KB;have c1:=Of.out _ _ KM.out;have c3:=vY.out _ _ KM.out;go_wp2_with fail;refine(Zp lo hi g gc gq gt gs _ (ns+m1) rs 9 k v1 0 v3 _ S1.out JN).mono ?_;rintro e12 Xc ⟨rfl,s12,m12⟩;replace KM:=J<|m12.Ek KM.out Ea Ea;replace S1:=J s12;replace MM:=J<|MM.out.trans m12;clear m12 s12 c1 c3;have c1:=Of.out _ _ KM.out;go_wp2_with fail;refine(jq lo hi g gc gq gt gs _ (ns+m1) _ k v1 _ S1.out vM).mono ?_;rintro e13 JW ⟨rfl,s13,m13⟩;have S8:=J s13;replace MM:=J<|MM.out.trans m13;clear s13 m13;go_wp2_with fail;go_end0;refine⟨O,⟨_,m1+1,_,sD,S8.out,.inr ⟨po,io.out,HQ1.out,HQ6.out,?_,?_⟩⟩,MM.out⟩;·rw[HT.out,hv3.out]
   ·rw[HT.out]
theorem Vt:IG Eb 183 12:=⟨⟨_,Tryz.underlying183,O⟩,Ed⟩
theorem v_:IG Eb 25 4:=⟨⟨_,Tryz.underlying25,O⟩,Ed⟩
theorem Cb{x m:Int}(hx:I9 x)(h0:0<=m/\m<=32767):I9 (aC x (-m) m):=by
 obtain⟨h1,h2⟩:=hx;unfold aC I9;repeat' split
 all_goals omega
theorem Vu(g:Nat->Y)(p0:Pt)(hf: ∀i,9<=i->i<56-> ∃n:Nat,g i=E I n/\bR i n)(hp:p0.ok)(k q cl x0 x1 x2 x3:Int)(hc:0<=cl/\cl<=3)(h0:I9 x0)(h1:I9 x1)(h2:I9 x2)(h3:I9 x3): ∃p:Pt,p.ok/\p.b=⟨1,k,q⟩/\ ∀W,Ef Eb 139 #[EZ (EG 56 g),EZ p0.v.toArray,E I cl,EZ #[E I x0,E I x1,E I x2,E I x3],EZ #[E I 1,E I k,E I q]] W fun e w'=>e=Eg (EZ p.v.toArray)/\El W w':=by
 have hb: ∀i,50<=i->i<54-> ∃n:Int,g i=E I n/\0<=n/\n<=32767:=fun i h4 h5=>by
  obtain⟨n,e,ho⟩:=hf i U U;refine⟨n,e,U,?_⟩;have:=ho.2.1
  have hh:U6 i<=1000:=by
   unfold U6;repeat' split
   all_goals omega
  omega
 have mk: ∀(cl m:Int),0<=cl/\cl<=3->0<=m/\m<=32767->(⟨cl,aC x0 (-m) m,aC x1 (-m) m,aC x2 (-m) m,aC x3 (-m) m,p0.n0,p0.n1,p0.n2,p0.n3,⟨1,k,q⟩⟩:Pt).ok:=fun cl m h4 h5=>⟨⟨by show _<=cl;omega,by show cl<=_;omega⟩,Cb h0 h5,Cb h1 h5,Cb h2 h5,Cb h3 h5,hp.n0,hp.n1,hp.n2,hp.n3⟩;have h:cl=0\/cl=1\/cl=2\/cl=3:=U;rcases h with rfl|rfl|rfl|rfl;·obtain⟨m,e,hm⟩:=hb 50 U U;exact⟨_,mk 0 m U hm,O,fun W=>Br g m 0 50 U e hm p0.c p0.a0 p0.a1 p0.a2 p0.a3 p0.n0 p0.n1 p0.n2 p0.n3 p0.b.r p0.b.s p0.b.q 1 k q x0 x1 x2 x3 W⟩
 ·obtain⟨m,e,hm⟩:=hb 51 U U;exact⟨_,mk 1 m U hm,O,fun W=>Br g m 1 51 U e hm p0.c p0.a0 p0.a1 p0.a2 p0.a3 p0.n0 p0.n1 p0.n2 p0.n3 p0.b.r p0.b.s p0.b.q 1 k q x0 x1 x2 x3 W⟩
 ·obtain⟨m,e,hm⟩:=hb 52 U U;exact⟨_,mk 2 m U hm,O,fun W=>Br g m 2 52 U e hm p0.c p0.a0 p0.a1 p0.a2 p0.a3 p0.n0 p0.n1 p0.n2 p0.n3 p0.b.r p0.b.s p0.b.q 1 k q x0 x1 x2 x3 W⟩
 ·obtain⟨m,e,hm⟩:=hb 53 U U;exact⟨_,mk 3 m U hm,O,fun W=>Br g m 3 53 U e hm p0.c p0.a0 p0.a1 p0.a2 p0.a3 p0.n0 p0.n1 p0.n2 p0.n3 p0.b.r p0.b.s p0.b.q 1 k q x0 x1 x2 x3 W⟩
structure wE(l:List Int):Prop where
 q:0<=l.getD 1 0/\l.getD 1 0<=4294967295
 m:0<=l.getD 5 0/\l.getD 5 0<=4
 c:0<=l.getD 6 0/\l.getD 6 0<=3
 x0:I9 (l.getD 8 0)
 x1:I9 (l.getD 9 0)
 x2:I9 (l.getD 10 0)
 x3:I9 (l.getD 11 0)
theorem Edl(lo hi:Nat)(g:Nat->Y)(gc gq gt gs:Nat)(c:Ey)(ns:Nat)(rs:List Rec)(l:List Int)(k:Int)(w:H)(S:E5 lo hi g gc gq gt gs c ns rs w)(hk:1<=k/\k<=3)(hm:wE l)(hn:ns<800000)(hl:rs.length<800000): Ef Eb 135 #[M (Z ⟨gs,0,X⟩),E I k,EZ (ED l)] w fun e w'=>e=Eg (Et #[])/\(∃c' m new,m<=3/\E5 lo hi g gc gq gt gs c' (ns+m) (rs++new) w'/\((∃cd,c'=c/\new=[⟨7,k,l.getD 1 0,c.tok.e,cd,0⟩])\/(new=[⟨6,k,l.getD 1 0,c.tok.e,0,0⟩]/\(c'={c with mode:=l.getD 5 0,Em:=⟨1,k,l.getD 1 0⟩}\/ ∃p:Pt,p.b=⟨1,k,l.getD 1 0⟩/\c'={c with pt:=p}))))/\Ew lo hi w w':=by
 have HK:=J hk;have jz:=J hm;obtain⟨jd,sH⟩: ∃jd:Int,∀W,Xr W->Ef Eb 138 #[EZ (EG 56 g),EZ c.tok.v.toArray,E I k,E I (c.T.Zk k),E I c.mode,EZ (ED l)] W fun e w'=>e=Eg (E I jd)/\El W w':=⟨_,fun W hc=>SP g c.tok.h c.tok.e k (c.T.Zk k) c.mode (l.getD 0 0) (l.getD 4 0) (l.getD 5 0) (l.getD 6 0) (E I c.tok.o) (E I c.tok.oa) (E I c.tok.om) (E I c.tok.la) (E I c.tok.lm) (EU c.tok.bad) (E I (l.getD 1 0)) (E I (l.getD 2 0)) (E I (l.getD 3 0)) (EU (l.getD 7 0==1)) (E I (l.getD 8 0)) (E I (l.getD 9 0)) (E I (l.getD 10 0)) (E I (l.getD 11 0)) W (fun i h1 h2=>S.core.X2.int i h2 (.inr U)) hc⟩;clear hk hm;have Vv:Ec ((ED l).size=12):=J<|I_ l;have MG:Ec (∃A:List Y,A.length=8/\ ∀W g,D W g (ED l) 183->Jc W g [A,[E I (l.getD 8 0),E I (l.getD 9 0),E I (l.getD 10 0),E I (l.getD 11 0)]] 183):=J ⟨[E I (l.getD 0 0),E I (l.getD 1 0),E I (l.getD 2 0),E I (l.getD 3 0),E I (l.getD 4 0),E I (l.getD 5 0),E I (l.getD 6 0),EU (l.getD 7 0==1)],O,fun W g K=>K⟩;obtain⟨p,hpo,hpb,ld⟩: ∃p:Pt,p.ok/\p.b=⟨1,k,l.getD 1 0⟩/\ ∀W,Ef Eb 139 #[EZ (EG 56 g),EZ c.pt.v.toArray,E I (l.getD 6 0),EZ #[E I (l.getD 8 0),E I (l.getD 9 0),E I (l.getD 10 0),E I (l.getD 11 0)],EZ #[E I 1,E I k,E I (l.getD 1 0)]] W fun e w'=>e=Eg (EZ p.v.toArray)/\El W w':=Vu g c.pt S.core.X2.fit S.core.ok.pt k (l.getD 1 0) (l.getD 6 0) (l.getD 8 0) (l.getD 9 0) (l.getD 10 0) (l.getD 11 0) jz.out.c jz.out.x0 jz.out.x1 jz.out.x2 jz.out.x3;have io:=J hpo;have ZH:=J hpb;have CS:=J ld;clear hpo hpb ld;have S0:=J S;have HN:=J hn;have HL:=J hl;have KM:=J<|D.new w (ED l) 183;have b1:=Er w (EJ (ED l) 183);have S1:=J<|S0.out.V b1;have MM:=J<|Ew.EA (lo:=lo) (hi:=hi) b1;obtain⟨v0,hv0⟩:=En (l.getD 0 0);have Cc:Ec (∀W g,D W g (ED l) 183->W.cell? ⟨g,0,X⟩=Z (E I v0)):=J (fun W g K=>by rw[hv0];exact X6 K 0 U U);try rw[<-hv0]
 replace hv0:=J hv0;obtain⟨v1,hv1⟩:=En (l.getD 1 0);have Of:Ec (∀W g,D W g (ED l) 183->W.cell? ⟨g,1,X⟩=Z (E I v1)):=J (fun W g K=>by rw[hv1];exact X6 K 1 U U);try rw[<-hv1]
 replace hv1:=J hv1;obtain⟨v5,hv5⟩:=En (l.getD 5 0);have Vw:Ec (∀W g,D W g (ED l) 183->W.cell? ⟨g,5,X⟩=Z (E I v5)):=J (fun W g K=>by rw[hv5];exact X6 K 5 U U);try rw[<-hv5]
 replace hv5:=J hv5;obtain⟨v6,hv6⟩:=En (l.getD 6 0);have Vx:Ec (∀W g,D W g (ED l) 183->W.cell? ⟨g,6,X⟩=Z (E I v6)):=J (fun W g K=>by rw[hv6];exact X6 K 6 U U);try rw[<-hv6]
 replace hv6:=J hv6;obtain⟨v8,sK⟩:=En (l.getD 8 0);have MC8:Ec (∀W g,D W g (ED l) 183->W.cell? ⟨g,8,X⟩=Z (E I v8)):=J (fun W g K=>by rw[sK];exact X6 K 8 U U);try rw[<-sK]
 replace sK:=J sK;obtain⟨v9,sL⟩:=En (l.getD 9 0);have MC9:Ec (∀W g,D W g (ED l) 183->W.cell? ⟨g,9,X⟩=Z (E I v9)):=J (fun W g K=>by rw[sL];exact X6 K 9 U U);try rw[<-sL]
 replace sL:=J sL;obtain⟨v10,sM⟩:=En (l.getD 10 0);have Edo:Ec (∀W g,D W g (ED l) 183->W.cell? ⟨g,10,X⟩=Z (E I v10)):=J (fun W g K=>by rw[sM];exact X6 K 10 U U);try rw[<-sM]
 replace sM:=J sM;obtain⟨v11,sN⟩:=En (l.getD 11 0);have Edp:Ec (∀W g,D W g (ED l) 183->W.cell? ⟨g,11,X⟩=Z (E I v11)):=J (fun W g K=>by rw[sN];exact X6 K 11 U U);try rw[<-sN]
 replace sN:=J sN;clear S hn hl S0;obtain⟨mv,hmv⟩:=En (ED l);rw[<-hmv] at KM b1 S1 MM Cc Of Vw Vx MC8 MC9 Edo Edp sH Vv MG⊢;clear hmv;go_enter Tryz.func135,Tryz.ntmps135;go_wp2_with fail;clear b1;generalize w.alloc (EJ mv 183)=w1 at*;obtain⟨gm,hgm⟩:=En w.heap.size;rw[<-hgm] at KM⊢;clear hgm;obtain⟨d0,d1,d2,hd,KG,o0,o1,o2,-,-⟩:=S1.out.core.Ek;have Xf:=J<|Ok (c:=c) (gq:=gq) (gt:=gt) (hd:=hd) (Jz g) o0 o1 o2 0 U;have wI:=J<|Ok (c:=c) (gq:=gq) (gt:=gt) (hd:=hd) (Jz g) o0 o1 o2 1 U;have KG:=J KG;have PL:=J<|Jz g;have CJ:=J sH;have TB:=J S1.out.core.tab;have Cd:=J S1.out.core.ok.T;have Cf:=J S1.out.core.cmds;clear o0 o1 o2 sH;have y0: ∀y:Ext w1,(EC w1 y).cell? ⟨gs,0,X⟩=Z (M (Z ⟨gc,0,X⟩)):=fun y=>(S1.out.V (EN y)).IB;have y95: ∀y:Ext w1,(EC w1 y).cell? ⟨gc,95,X⟩=Z (M (Z ⟨gt,0,X⟩)):=fun y=>(S1.out.V (EN y)).core.cell 6 rfl 0 Eh;have y98: ∀y:Ext w1,(EC w1 y).cell? ⟨gc,98,X⟩=Z (E I c.mode):=fun y=>(S1.out.V (EN y)).core.cell 9 rfl 0 Eh;have U9:Ec ((EG 56 g).toList.toArray=EG 56 g):=J Eh;refine Zy Ed Ed ?_
 repeat (first
  |go_big_quiet_skip
  |(go_big_quiet_want
    first
     |(refine ZZ (T:=28) (g:=gc) (off:=0) U1 _ rfl rfl KG 0 rfl Xf.out PL.out ?_;(try rw[U9.out]);go_simp;go_big_quiet_on)
     |(refine ZZ (T:=109) (g:=gc) (off:=56) ER _ rfl rfl KG 1 rfl wI.out rfl ?_;go_simp;go_big_quiet_on)
     |(refine UB (T:=183) (g:=gm) Vt _ rfl rfl KM ?_ ?_;(·exact Vv.out);go_simp;go_big_quiet_on)
     |(go_big_quiet_op
       first
        |go_big_quiet_on
        |go_big_quiet_call (with_reducible first|refine i_ (rC gt c.T k _ (TB.out.V (EN _)) Cd.out)|refine aE (CJ.out _ (Cf.out.V (EN _)))))))
 refine I1 ?_;intro _ hw';obtain⟨y9,rfl⟩:=hw';have Em:=EN y9;replace KM:=EM KM Em;replace S1:=J<|S1.out.V Em;replace MM:=J<|MM.out.trans (Ew.EA Em);clear y0 y95 y98 Em KG Xf wI PL U9;generalize EC w1 y9=w2 at*;have c1:=Of.out _ _ KM.out;by_cases hjd:jd=0
 ·subst hjd;have Lp:Tryz.prog.built 36 [(0,E I 1),(1,E I k),(2,E I v1)]=Z #[E I 1,E I k,E I v1]:=Ed;go_wp2_with (first|((with_reducible refine It 52 ?_);refine I3 rfl {LT} _ rfl #[E I 1,E I k,E I v1] Lp ?_)|(with_reducible refine I7 54 ?_));apply Eo;generalize hW:Uz _ _=w4 at*;have KL:Ec (D w4 (w2.heap.size) #[E I 1,E I k,E I v1] 36):=J (by subst hW;repeat (first|exact D.new _ _ _|exact D.new' _ _ _ Eh|refine D.alloc ?_ _));have b3:Ec (El w2 w4):=J Ku;clear hW;obtain⟨gl,hgl⟩:=En w2.heap.size;rw[<-hgl] at KL⊢;clear hgl;have w4e:True:=trivial;replace KM:=EM KM b3.out;replace S1:=J<|S1.out.V b3.out;replace MM:=J<|MM.out.trans (Ew.EA b3.out);clear b3 c1;have c0:=Cc.out _ _ KM.out;have ZN:Ec ((⟨1,k,v1⟩:Xz).ok):=J (by have h1:=HK.out;have h2:=jz.out.q;rw[<-hv1.out] at h2;exact⟨go,⟨by show _<=k;omega,by show k<=_;omega⟩,⟨by show _<=v1;omega,by show v1<=_;omega⟩⟩);by_cases hk10:v0=10
  ·have t10:(v0==10)=EI:=by simp[hk10]
   clear hk10;go_wp2_with fail;have y0: ∀y:Ext w4,(EC w4 y).cell? ⟨gs,0,X⟩=Z (M (Z ⟨gc,0,X⟩)):=fun y=>(S1.out.V (EN y)).IB;have y5: ∀y:Ext w4,(EC w4 y).cell? ⟨gm,5,X⟩=Z (E I v5):=fun y=>Vw.out _ _ (D.V KM.out (EN y));refine J_ 8 Ed Ed ?_;simp only[Iq,Io,IP,IH]
   repeat (first
    |go_big_quiet_skip
    |(go_big_quiet_want
      first
       |(go_big_quiet_op
         first
          |go_big_quiet_on
          |go_big_quiet_call (fail))))
   refine I1 ?_;intro _ hw';obtain⟨y9,rfl⟩:=hw';have Em:=EN y9;replace KM:=EM KM Em;replace KL:=EM KL Em;replace S1:=J<|S1.out.V Em;replace MM:=J<|MM.out.trans (Ew.EA Em);clear y0 y5 Em c0;generalize EC w4 y9=w5 at*;have zm:w5.cell? ⟨gc,98,X⟩=Z (E I c.mode):=S1.out.core.cell 9 rfl 0 Eh;have zf:=sC S1.out.core 98;go_wp2_with fail;have S4:=S1.out.vK v5 (S1.out.core.ok.vK (by rw[hv5.out];exact jz.out.m));obtain⟨d0,d1,d2,hd,KG,-⟩:=S1.out.core.Ek;replace KL:Ec (D (w5.setCell ⟨gc,98,X⟩ (E I v5)) gl #[E I 1,E I k,E I v1] 36):=J<|(J1 (g:=gc) (W:=w5) 98 (E I v5)).Ek KL.out (EW KL.out KG Ea);replace KM:Ec (D (w5.setCell ⟨gc,98,X⟩ (E I v5)) gm mv 183):=J<|(J1 (g:=gc) (W:=w5) 98 (E I v5)).Ek KM.out (EW KM.out KG Ea);replace S1:Ec (E5 lo hi g gc gq gt gs {c with mode:=v5} ns rs (w5.setCell ⟨gc,98,X⟩ (E I v5))):=J S4.1;replace MM:Ec (Ew lo hi w (w5.setCell ⟨gc,98,X⟩ (E I v5))):=J<|MM.out.trans S4.2;clear S4 zm zf KG;generalize w5.setCell ⟨gc,98,X⟩ (E I v5)=w6 at*;have y0: ∀y:Ext w6,(EC w6 y).cell? ⟨gs,0,X⟩=Z (M (Z ⟨gc,0,X⟩)):=fun y=>(S1.out.V (EN y)).IB;refine J_ 7 Ed Ed ?_;simp only[Iq,Io,IP,IH]
   repeat (first
    |go_big_quiet_skip
    |(go_big_quiet_want
      first
       |(refine UB (T:=36) (g:=gl) fc _ rfl rfl KL ?_ ?_;(·rfl);go_simp;go_big_quiet_on)
       |(go_big_quiet_op
         first
          |go_big_quiet_on
          |go_big_quiet_call (fail))))
   refine I1 ?_;intro _ hw';obtain⟨y9,rfl⟩:=hw';have Em:=EN y9;replace KM:=EM KM Em;replace KL:=EM KL Em;replace S1:=J<|S1.out.V Em;replace MM:=J<|MM.out.trans (Ew.EA Em);clear y0 Em;generalize EC w6 y9=w7 at*;have TH:=J<|cD S1.out.core 10 rfl 3 (by simp[Xz.v]);go_wp2_with ((with_reducible refine JB 36 ?_);(with_reducible refine Ui O 36 _ _ O gc 99 #[E I 1,E I k,E I v1] ?_ ?_ ?_ ?_ ?_ ?_);(·rfl);(·rfl);(·exact TH.out);(·exact fc.2);(·simp[OF]);refine Ev.mk ?_);apply Eo;have S4:=S1.out.vL ⟨1,k,v1⟩ (S1.out.core.ok.vL ZN.out);obtain⟨d0,d1,d2,hd,KG,-⟩:=S1.out.core.Ek;replace KM:Ec (D (w7.setCells gc 99 (⟨1,k,v1⟩:Xz).v) gm mv 183):=J<|(JG (g:=gc) (⟨1,k,v1⟩:Xz).v 99 w7).Ek KM.out (EW KM.out KG Ea);replace S1:=J S4.1;replace MM:=J<|MM.out.trans S4.2;clear S4 TH KG KL;change Ic _ _ _ _ _ (w7.setCells gc 99 (⟨1,k,v1⟩:Xz).v);generalize w7.setCells gc 99 (⟨1,k,v1⟩:Xz).v=w8 at*;have c1:=Of.out _ _ KM.out;go_wp2_with fail;refine(Zp lo hi g gc gq gt gs _ ns rs 6 k v1 0 0 _ S1.out JN).mono ?_;rintro e12 Xc ⟨rfl,s12,m12⟩;replace KM:=J<|m12.Ek KM.out Ea Ea;replace S1:=J s12;replace MM:=J<|MM.out.trans m12;clear m12 s12 c1;have c1:=Of.out _ _ KM.out;go_wp2_with fail;refine(jq lo hi g gc gq gt gs _ ns _ k v1 _ S1.out J9).mono ?_;rintro e13 JW ⟨rfl,s13,m13⟩;have S8:=J s13;replace MM:=J<|MM.out.trans m13;clear s13 m13;go_wp2_with fail;go_end0;refine⟨O,⟨_,1,_,U,S8.out,.inr ⟨O,.inl ?_⟩⟩,MM.out⟩;rw[hv5.out]
  ·have t10:(v0==10)=B:=by simp[hk10]
   go_wp2_with fail;obtain⟨d0,d1,d2,hd,KG,o0,o1,o2,-,-⟩:=S1.out.core.Ek;have Xf:=J<|Ok (c:=c) (gq:=gq) (gt:=gt) (hd:=hd) (Jz g) o0 o1 o2 0 U;have iw:=J<|Ok (c:=c) (gq:=gq) (gt:=gt) (hd:=hd) (Jz g) o0 o1 o2 11 U;have KG:=J KG;have PL:=J<|Jz g;obtain⟨A8,Vy,Vz⟩:=MG.out;have KX:=J<|Vz _ _ KM.out;have OX:Ec (aM [A8,[E I v8,E I v9,E I v10,E I v11]] 1=8):=J (by simp[aM,Vy]);rw[<-sK.out,<-sL.out,<-sM.out,<-sN.out] at KX;rw[<-hv1.out,<-hv6.out,<-sK.out,<-sL.out,<-sM.out,<-sN.out] at CS;have y0: ∀y:Ext w4,(EC w4 y).cell? ⟨gs,0,X⟩=Z (M (Z ⟨gc,0,X⟩)):=fun y=>(S1.out.V (EN y)).IB;have y6: ∀y:Ext w4,(EC w4 y).cell? ⟨gm,6,X⟩=Z (E I v6):=fun y=>Vx.out _ _ (D.V KM.out (EN y));clear o0 o1 o2 Vy Vz;refine J_ 26 Ed Ed ?_;simp only[Iq,Io,IP,IH]
   repeat (first
    |go_big_quiet_skip
    |(go_big_quiet_want
      first
       |(refine ZZ (T:=28) (g:=gc) (off:=0) U1 _ rfl rfl KG 0 rfl Xf.out PL.out ?_;go_simp;go_big_quiet_on)
       |(refine ZZ (T:=50) (g:=gc) (off:=102) im _ rfl rfl KG 11 rfl iw.out rfl ?_;go_simp;go_big_quiet_on)
       |(refine ZZ (T:=25) (g:=gm) (off:=8) v_ _ rfl rfl KX 1 rfl OX.out rfl ?_;go_simp;go_big_quiet_on)
       |(refine UB (T:=36) (g:=gl) fc _ rfl rfl KL ?_ ?_;(·rfl);go_simp;go_big_quiet_on)
       |(go_big_quiet_op
         first
          |go_big_quiet_on
          |go_big_quiet_call (with_reducible refine aE (CS.out _)))))
   refine I1 ?_;intro _ hw';obtain⟨y9,rfl⟩:=hw';have Em:=EN y9;replace KM:=EM KM Em;replace S1:=J<|S1.out.V Em;replace MM:=J<|MM.out.trans (Ew.EA Em);clear y0 y6 Em KG Xf iw KX OX;generalize EC w4 y9=w5 at*;have TH:=J<|cD S1.out.core 11 rfl 12 vN;go_wp2_with ((with_reducible refine JB 50 ?_);(with_reducible refine Ui O 50 _ _ O gc 102 p.v.toArray ?_ ?_ ?_ ?_ ?_ ?_);(·rfl);(·rfl);(·exact TH.out);(·exact im.2);(·simp[Pt.v,OF]);refine Ev.mk ?_);apply Eo;have S4:=S1.out.il p (S1.out.core.ok.il io.out);obtain⟨d0,d1,d2,hd,KG,-⟩:=S1.out.core.Ek;replace KM:Ec (D (w5.setCells gc 102 p.v) gm mv 183):=J<|(JG (g:=gc) p.v 102 w5).Ek KM.out (EW KM.out KG Ea);replace S1:=J S4.1;replace MM:=J<|MM.out.trans S4.2;clear S4 TH KG;change Ic _ _ _ _ _ (w5.setCells gc 102 p.v);generalize w5.setCells gc 102 p.v=w8 at*;have c1:=Of.out _ _ KM.out;go_wp2_with fail;refine(Zp lo hi g gc gq gt gs _ ns rs 6 k v1 0 0 _ S1.out JN).mono ?_;rintro e12 Xc ⟨rfl,s12,m12⟩;replace KM:=J<|m12.Ek KM.out Ea Ea;replace S1:=J s12;replace MM:=J<|MM.out.trans m12;clear m12 s12 c1;have c1:=Of.out _ _ KM.out;go_wp2_with fail;refine(jq lo hi g gc gq gt gs _ ns _ k v1 _ S1.out J9).mono ?_;rintro e13 JW ⟨rfl,s13,m13⟩;have S8:=J s13;replace MM:=J<|MM.out.trans m13;clear s13 m13;go_wp2_with fail;go_end0;exact⟨O,⟨_,1,_,U,S8.out,.inr ⟨O,.inr ⟨p,by rw[ZH.out,hv1.out],O⟩⟩⟩,MM.out⟩
 ·have t9:(jd !=0)=EI:=by simpa using hjd
  go_wp2_with fail;refine(ij lo hi g gc gq gt gs c ns rs k v1 jd _ S1.out J9 JN).mono ?_;rintro e7 w7 ⟨rfl,s7,m7⟩;have S8:=J s7;replace MM:=J<|MM.out.trans m7;clear s7 m7;go_wp2_with fail;refine EV (UQ O _ _ _) O ?_;exact⟨O,⟨_,1,_,U,S8.out,.inl ⟨jd,O,O⟩⟩,MM.out⟩
def jA(xs:List Int)(k:Int):Bool:=match xs with
 |[]=>B
 |x::_=>x==k
theorem Edq(A:Option Eu)(xs:List Int)(n c:Nat)(k:Int)(w:H)(hn:xs.length=n)(hr:Row w A xs)(hm:n<=9223372036854775807): Ef Eb 85 #[G A n c,E IL k] w fun e w'=>e=Eg (EU (jA xs k))/\w=w':=by
 obtain⟨hr,hb⟩:=hr;cases xs with
 |nil=>
  obtain rfl:n=0:=by rw[<-hn];rfl
  go_enter Tryz.func85,Tryz.ntmps85;exact Eli
 |cons x r=>
  obtain⟨m,rfl⟩: ∃m,n=m+1:=⟨r.length,by rw[<-hn];rfl⟩;rcases hr with e|⟨b,off,rfl,hc⟩;·cases e
  ·have h0:w.cell? ⟨b,off,X⟩=Z (E IL x):=by have:=hc 0 Eh;simpa using this
   have t1:decide (0<((m:Int)+1))=EI:=IU U;have er:jA (x::r) k=(x==k):=rfl;rw[er];clear hc hb hn er;go_enter Tryz.func85,Tryz.ntmps85;exact Eli
theorem Edr{bs:List Int}(hb: ∀x∈bs,0<=x/\x<=255)(h:fJ bs=Z l):wE l:=by
 obtain⟨hp,hl,-⟩:=G5 hb h;match l,hl with
 |[a0,a1,a2,a3,a4,a5,a6,a7,a8,a9,UX,OU],_=>
  obtain⟨hf,-⟩:=RF a0 a1 a2 a3 a4 a5 a6 a7 a8 a9 UX OU bs hp;have h2:=(G8 _ _ _ _ _ _ _ _ _ _ _).1 hf;obtain⟨x8,x9,fN,iy,k0,q,e4,r2,t3,m5,c6⟩:=h2;refine⟨q,m5,⟨?_,c6.2⟩,?_,?_,?_,?_⟩;·show 0<=a6;have:=c6.1;split at this<;>omega
  ·exact⟨by show _<=a8;omega,by show a8<=_;omega⟩
  ·exact⟨by show _<=a9;omega,by show a9<=_;omega⟩
  ·exact⟨by show _<=UX;omega,by show UX<=_;omega⟩
  ·exact⟨by show _<=OU;omega,by show OU<=_;omega⟩
def nz(w:H)(r:Nat)(o:Obj):H:={w with heap:=w.heap.setIfInBounds r o}
theorem lf{g:Nat}{es:Array MapEntry}{clock:Nat}(h:W.heap[g]?=Z (.map es clock))(k:Int)(v:Y)(hf: ∀W,(Instr.findKey 3 (E I k) es.toList).run Eb W= .ok X W): (jB 188 (.map (Z g)) (E I k) v).run Eb W= .ok () (nz W g (.map (es.push {key:=E I k,val:=v,born:=clock}) (clock+1))):=by
 have hu: ∀W,Us Eb (underlying 188) W= .ok (.map 3 186) W:=fun _=>Ed;have hck: ∀W,(Instr.checkKey B 10000 3 (E I k)).run Eb W= .ok () W:=fun _=>Ed;have hg:(Sem.getObj g Sem.pure).run Eb W= .ok (.map es clock) W:=by simp[Us,h]
 have hs: ∀o,(setObj g o).run Eb W= .ok () (nz W g o):=fun o=>by simp[setObj,Us,h,nz]
 unfold jB;simp only[Oz,hu,OC,getObj,hg,hck,hf,hs]
def JK(gs:Nat)(k:Int)(f:Nat)(n:Nat):MapEntry:={key:=E I k,val:= .func (.func f) #[M (Z ⟨gs,0,X⟩)] #[],born:=n}
def Xg(gs:Nat):Nat->Array MapEntry
 |0=> #[]
 |1=> #[JK gs 3 128 0]
 |2=> #[JK gs 3 128 0,JK gs 4 129 1]
 |3=> #[JK gs 3 128 0,JK gs 4 129 1,JK gs 5 130 2]
 |4=> #[JK gs 3 128 0,JK gs 4 129 1,JK gs 5 130 2,JK gs 6 131 3]
 |5=> #[JK gs 3 128 0,JK gs 4 129 1,JK gs 5 130 2,JK gs 6 131 3,JK gs 7 132 4]
 |6=> #[JK gs 3 128 0,JK gs 4 129 1,JK gs 5 130 2,JK gs 6 131 3,JK gs 7 132 4,JK gs 8 133 5]
 |7=> #[JK gs 3 128 0,JK gs 4 129 1,JK gs 5 130 2,JK gs 6 131 3,JK gs 7 132 4,JK gs 8 133 5,JK gs 9 134 6]
 |8=> #[JK gs 3 128 0,JK gs 4 129 1,JK gs 5 130 2,JK gs 6 131 3,JK gs 7 132 4,JK gs 8 133 5,JK gs 9 134 6,JK gs 10 135 7]
 |9=> #[JK gs 3 128 0,JK gs 4 129 1,JK gs 5 130 2,JK gs 6 131 3,JK gs 7 132 4,JK gs 8 133 5,JK gs 9 134 6,JK gs 10 135 7,JK gs 11 135 8]
 |_=> #[]
theorem lj{g:Nat}{o':Obj}(h:W.heap[g]?=Z o):(nz W g o').heap[g]?=Z o':=by have hl:g<W.heap.size:=(J6.1 h).1;simp[nz,hl]
theorem ls{W0:H}{g:Nat}(h:El W0 W)(hg:W0.heap.size<=g):El W0 (nz W g o):=
 ⟨h.os,h.tape,h.output,by simpa[nz] using h.size,fun k hk=>by have:=h.block k hk;simp only[nz];rw[Array.getElem?_setIfInBounds_ne U];exact this⟩
theorem Eds(gs:Nat)(w:H): Ef Eb 89 #[M (Z ⟨gs,0,X⟩)] w fun e w'=>e=Eg (.map (Z w.heap.size))/\w'.heap[w.heap.size]?=Z (.map (Xg gs 9) 9)/\El w w':=by
 obtain⟨W0,hW0⟩: ∃W0,W0=w.alloc (.map #[] 0):=⟨_,O⟩;have hmm:(Instr.makeMap 188 X).run Eb w= .ok (.map (Z w.heap.size)) W0:=by rw[hW0];rfl
 have H0:W0.heap[w.heap.size]?=Z (.map (Xg gs 0) 0):=by rw[hW0];exact fz w _
 have B0:El w W0:=by rw[hW0];exact Er w _
 clear hW0;obtain⟨W1,f0,H1,B1⟩: ∃W',(jB 188 (.map (Z w.heap.size)) (E I 3) (.func (.func 128) #[M (Z ⟨gs,0,X⟩)] #[])).run Eb W0= .ok () W'/\W'.heap[w.heap.size]?=Z (.map (Xg gs 1) 1)/\El w W':=⟨_,lf H0 3 _ (fun _=>Ed),lj H0,ls B0 (E7 _)⟩;clear H0 B0;obtain⟨W2,f1,H2,B2⟩: ∃W',(jB 188 (.map (Z w.heap.size)) (E I 4) (.func (.func 129) #[M (Z ⟨gs,0,X⟩)] #[])).run Eb W1= .ok () W'/\W'.heap[w.heap.size]?=Z (.map (Xg gs 2) 2)/\El w W':=⟨_,lf H1 4 _ (fun _=>Ed),lj H1,ls B1 (E7 _)⟩;clear H1 B1;obtain⟨W3,f2,H3,B3⟩: ∃W',(jB 188 (.map (Z w.heap.size)) (E I 5) (.func (.func 130) #[M (Z ⟨gs,0,X⟩)] #[])).run Eb W2= .ok () W'/\W'.heap[w.heap.size]?=Z (.map (Xg gs 3) 3)/\El w W':=⟨_,lf H2 5 _ (fun _=>Ed),lj H2,ls B2 (E7 _)⟩;clear H2 B2;obtain⟨W4,f3,H4,B4⟩: ∃W',(jB 188 (.map (Z w.heap.size)) (E I 6) (.func (.func 131) #[M (Z ⟨gs,0,X⟩)] #[])).run Eb W3= .ok () W'/\W'.heap[w.heap.size]?=Z (.map (Xg gs 4) 4)/\El w W':=⟨_,lf H3 6 _ (fun _=>Ed),lj H3,ls B3 (E7 _)⟩;clear H3 B3;obtain⟨W5,f4,H5,B5⟩: ∃W',(jB 188 (.map (Z w.heap.size)) (E I 7) (.func (.func 132) #[M (Z ⟨gs,0,X⟩)] #[])).run Eb W4= .ok () W'/\W'.heap[w.heap.size]?=Z (.map (Xg gs 5) 5)/\El w W':=⟨_,lf H4 7 _ (fun _=>Ed),lj H4,ls B4 (E7 _)⟩;clear H4 B4;obtain⟨W6,f5,H6,B6⟩: ∃W',(jB 188 (.map (Z w.heap.size)) (E I 8) (.func (.func 133) #[M (Z ⟨gs,0,X⟩)] #[])).run Eb W5= .ok () W'/\W'.heap[w.heap.size]?=Z (.map (Xg gs 6) 6)/\El w W':=⟨_,lf H5 8 _ (fun _=>Ed),lj H5,ls B5 (E7 _)⟩;clear H5 B5;obtain⟨W7,f6,H7,B7⟩: ∃W',(jB 188 (.map (Z w.heap.size)) (E I 9) (.func (.func 134) #[M (Z ⟨gs,0,X⟩)] #[])).run Eb W6= .ok () W'/\W'.heap[w.heap.size]?=Z (.map (Xg gs 7) 7)/\El w W':=⟨_,lf H6 9 _ (fun _=>Ed),lj H6,ls B6 (E7 _)⟩;clear H6 B6;obtain⟨W8,f7,H8,B8⟩: ∃W',(jB 188 (.map (Z w.heap.size)) (E I 10) (.func (.func 135) #[M (Z ⟨gs,0,X⟩)] #[])).run Eb W7= .ok () W'/\W'.heap[w.heap.size]?=Z (.map (Xg gs 8) 8)/\El w W':=⟨_,lf H7 10 _ (fun _=>Ed),lj H7,ls B7 (E7 _)⟩;clear H7 B7;obtain⟨W9,f8,H9,B9⟩: ∃W',(jB 188 (.map (Z w.heap.size)) (E I 11) (.func (.func 135) #[M (Z ⟨gs,0,X⟩)] #[])).run Eb W8= .ok () W'/\W'.heap[w.heap.size]?=Z (.map (Xg gs 9) 9)/\El w W':=⟨_,lf H8 11 _ (fun _=>Ed),lj H8,ls B8 (E7 _)⟩;clear H8 B8;have H9:=J H9;have B9:=J B9;go_enter Tryz.func89,Tryz.ntmps89;go_wp2_with fail;go_ret;exact⟨O,H9.out,B9.out⟩
theorem lu{g:Nat}(h:W.heap[g]?=Z (.map (Xg gs 9) 9))(k:Int)(f:Nat)(i:Nat)(hf: ∀W,(Instr.findKey 3 (E I k) (Xg gs 9).toList).run Eb W= .ok (Z (i,.func (.func f) #[M (Z ⟨gs,0,X⟩)] #[])) W): (gu 188 (.map (Z g)) (E I k) EI).run Eb W= .ok (Et #[.func (.func f) #[M (Z ⟨gs,0,X⟩)] #[],EU EI]) W:=by
 have hu: ∀W,Us Eb (underlying 188) W= .ok (.map 3 186) W:=fun _=>Ed;have hck: ∀b W,(Instr.checkKey b 10000 3 (E I k)).run Eb W= .ok () W:=fun _ _=>Ed;have hg:(Sem.getObj g Sem.pure).run Eb W= .ok (.map (Xg gs 9) 9) W:=by simp[Us,h]
 unfold gu;simp only[Oz,hu,OC,getObj,hg,hck,hf,Og,if_true]
theorem Edt{g:Nat}(h:W.heap[g]?=Z (.map (Xg gs 9) 9)):(gu 188 (.map (Z g)) (E I 3) EI).run Eb W= .ok (Et #[.func (.func 128) #[M (Z ⟨gs,0,X⟩)] #[],EU EI]) W:=lu h 3 128 0 (fun _=>Ed)
theorem Edu{g:Nat}(h:W.heap[g]?=Z (.map (Xg gs 9) 9)):(gu 188 (.map (Z g)) (E I 4) EI).run Eb W= .ok (Et #[.func (.func 129) #[M (Z ⟨gs,0,X⟩)] #[],EU EI]) W:=lu h 4 129 1 (fun _=>Ed)
theorem Edv{g:Nat}(h:W.heap[g]?=Z (.map (Xg gs 9) 9)):(gu 188 (.map (Z g)) (E I 5) EI).run Eb W= .ok (Et #[.func (.func 130) #[M (Z ⟨gs,0,X⟩)] #[],EU EI]) W:=lu h 5 130 2 (fun _=>Ed)
theorem Edw{g:Nat}(h:W.heap[g]?=Z (.map (Xg gs 9) 9)):(gu 188 (.map (Z g)) (E I 6) EI).run Eb W= .ok (Et #[.func (.func 131) #[M (Z ⟨gs,0,X⟩)] #[],EU EI]) W:=lu h 6 131 3 (fun _=>Ed)
theorem Edx{g:Nat}(h:W.heap[g]?=Z (.map (Xg gs 9) 9)):(gu 188 (.map (Z g)) (E I 7) EI).run Eb W= .ok (Et #[.func (.func 132) #[M (Z ⟨gs,0,X⟩)] #[],EU EI]) W:=lu h 7 132 4 (fun _=>Ed)
theorem Edy{g:Nat}(h:W.heap[g]?=Z (.map (Xg gs 9) 9)):(gu 188 (.map (Z g)) (E I 8) EI).run Eb W= .ok (Et #[.func (.func 133) #[M (Z ⟨gs,0,X⟩)] #[],EU EI]) W:=lu h 8 133 5 (fun _=>Ed)
theorem Edz{g:Nat}(h:W.heap[g]?=Z (.map (Xg gs 9) 9)):(gu 188 (.map (Z g)) (E I 9) EI).run Eb W= .ok (Et #[.func (.func 134) #[M (Z ⟨gs,0,X⟩)] #[],EU EI]) W:=lu h 9 134 6 (fun _=>Ed)
theorem EdA{g:Nat}(h:W.heap[g]?=Z (.map (Xg gs 9) 9)):(gu 188 (.map (Z g)) (E I 10) EI).run Eb W= .ok (Et #[.func (.func 135) #[M (Z ⟨gs,0,X⟩)] #[],EU EI]) W:=lu h 10 135 7 (fun _=>Ed)
theorem EdB{g:Nat}(h:W.heap[g]?=Z (.map (Xg gs 9) 9)):(gu 188 (.map (Z g)) (E I 11) EI).run Eb W= .ok (Et #[.func (.func 135) #[M (Z ⟨gs,0,X⟩)] #[],EU EI]) W:=lu h 11 135 8 (fun _=>Ed)
end Go.Proofs.YtclmichaaiohjaaGreatDoor
