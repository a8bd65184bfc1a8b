import Derived.Test.YtclmichaaiohjaaGreatDoorR05
import Derived.ChangeSlices
import Derived.Deep.DeepCutAuto
set_option maxRecDepth 100000
set_option linter.unusedVariables false
set_option linter.unusedSimpArgs false
set_option maxHeartbeats 6400000
namespace Go.Proofs.YtclmichaaiohjaaGreatDoor
open RowKit
open _root_.Array renaming getElem?_eq_none->g_
open Bool renaming true->u,false->B,false_eq_true->kn
open Go renaming bits->Ix,World->M,Calls->Ef,TypeId->EC,Value->V,Addr->Eu,Program->Js,heap_alloc_new->fL,bodyPost_ret->ET,Act->E6,Oper->EN,execOp->Iw,wpList->IZ,Operand->UH,info_parts->bQ,madeCells->aS,below_setRow->E3,wpQuiet_nil->IM,method->X8,callFunc->Jj,wp_loop_rounds->O9,rounds_succ->Ic,Ending->Ut,wpList_store_mid->OH
open Act renaming put->In
open DataW renaming trod->ZN
open Ending renaming returned->Eg
open Instr renaming loadAt->fN,sureAddr->dU,index->JY
open IntKind renaming wrap->oD,bits->j7,signed->j8,i64->I,u8->IP,u64->Il
open Lib renaming hid->O
open Obj renaming cells->EJ
open Go.Proofs.Tryz renaming prog->EU,underlying23->bR,func212->nu,ntmps212->ny,func138->lO,ntmps138->lU
open Result renaming andThen_ok->Uf
open RowKit renaming Below->Io,Hid->Ea,intOf->Iv
open RowKit.Below renaming refl->IE,heap_setCell->XM
open Sem renaming run_bind->Ud,run_pure->UU,run->UC
open Value renaming bool->Ec,int->E,agg->EZ,slice->EI,tuple->Et,pointer->Y,oneCell'->OC
open World renaming block_lt_of_cell?->XA,alloc->UN,cell?->jx,ownsRow->cK
open Int renaming toNat_natCast->mo,eq_ofNat_of_zero_le->ji,le_refl->ZB
open List renaming getElem?_eq_none->aM,mem_of_mem_take->fK,getElem?_eq_getElem->Ok,range->UA,all_eq_true->UY,take_succ_cons->Ir,take_of_length_le->UZ,getElem?_take_of_lt->bN,getElem?_append_right->ak,map_cons->UL,map_nil->Xu,take_zero->Im,mem_map->da,getElem?_toArray->Og,setIfInBounds_toArray->Ip,length_append->I2,length_cons->ZV,mem_cons->Ui,getElem_mem->hH,set_cons_succ->Ig,set_cons_zero->Ih,mem_append->XP,length_drop->mV,getElem?_cons_zero->kx,not_mem_nil->UP,drop_succ_cons->IL,drop_zero->IG,take_add_one->nm,all_nil->bO,all_cons->ar
open List.Perm renaming refl->bh,swap->bi,cons->vB
open List.cons renaming injEq->cG
open Nat renaming lt_or_ge->JG,le_trans->EA,le_refl->E7,zero_add->JV,zero_le->bY,reduceAdd->bU,le_of_lt->ax,le_of_eq->OQ
open Option renaming some->D,none->Z
open KQ
variable{i base g lo hi N gq gt gc gs ns g2:Nat}{w w' W W':M}{b a:V}{c:EB}{A:Option Eu}{xs hd:List Int}{cs cs2:Array V}{S S2:EC}{ys:List V}{rs:List Rec}
section
variable{P:Program}
theorem S6{e:EC}(he:P.underlying e=D (.int .u8))(d:Nat)(x y:List Int)(n:Nat)(hx:x.length=n)(hy:y.length=n)(W:M): ∀(m j:Nat),j+m<=n-> (Op.eqItems (d+1) e 1 (Ej x) (Ej y) (List.range' j m)).run P W= .ok ((List.range' j m).all fun i=>x.getD i 0==y.getD i 0) W
 |0,j,_=>by simp only[List.range'_zero,Op.eqItems,UU,bO]
 |m+1,j,h=>by
  have p1:=Aq he (Ej x) j _ (kZ x j X) W;have p2:=Aq he (Ej y) j _ (kZ y j X) W;rw[List.range'_succ,ar];simp only[Op.eqItems,Ud,Nat.mul_one,p1,p2,Uf,run_equalIn_int W d e .u8 .u8 _ _ he];cases hb:(x.getD j 0==y.getD j 0);·exact EpA
  ·simp only[Bool.not_true,kn,if_false,Bool.true_and];exact S6 he d x y n hx hy W m (j+1) X
theorem Ea2(x y:List Int)(n:Nat)(hx:x.length=n)(hy:y.length=n):((UA n).all fun i=>x.getD i 0==y.getD i 0)=decide (x=y):=by
 rw[Bool.eq_iff_iff,decide_eq_true_iff,UY];constructor;·intro h;refine List.ext_getElem X fun i h1 h2=> ?_;have:=h i Jn;simpa[h1,h2] using this
 ·rintro rfl i _;simp
theorem Ea3{t e:EC}{n:Nat}{i:TypeInfo}(hu:P.underlying t=D (.array n e))(he:P.underlying e=D (.int .u8))(hc:P.cellsOf e=1)(hi:P.info? e=D i)(d:Nat)(x y:List Int)(hx:x.length=n)(hy:y.length=n)(W:M): (Op.equalIn (d+1+1) t (EZ (Ej x)) (EZ (Ej y))).run P W= .ok (decide (x=y)) W:=by rw[run_equalIn_array W (d+1) _ _ hu hi,hc,List.range_eq_range',S6 he d x y n hx hy W n 0 X,<-List.range_eq_range',Ea2 x y n hx hy]
end
theorem Ea4: ∃i,Tryz.prog.info? 5=D i:=by obtain⟨i0,hi,-⟩:=bQ mn;exact⟨i0,hi⟩
theorem Ea5(gm:Nat)(l:List Int)(w:M)(k:Int)(hm:H w gm (I9 l) 222)(hk:l.getD 0 0=k)(hn:lE k=Z): Ef EU 212 #[Y (D ⟨gm,0,Z⟩)] w fun e w'=>e=Eg (Et #[EI Z 0 0,Ec B])/\w=w':=by
 have c0:=hm.cell 0;rw[bZ _ _ X,if_neg X,hk] at c0
 have hne:k≠129/\k≠130/\k≠131/\k≠132/\k≠133/\k≠134/\k≠135/\k≠136:=by
  unfold lE at hn;repeat' split at hn
  all_goals first|(cases hn;done)|omega
 obtain⟨n129,n130,n131,n132,n133,n134,n135,n136⟩:=hne;have Ekb:(k==129)=B:=by simp[n129]
 have Ekc:(k==130)=B:=by simp[n130]
 have Ekd:(k==131)=B:=by simp[n131]
 have Ekf:(k==132)=B:=by simp[n132]
 have Ekg:(k==133)=B:=by simp[n133]
 have Ekh:(k==134)=B:=by simp[n134]
 have Eki:(k==135)=B:=by simp[n135]
 have Ekj:(k==136)=B:=by simp[n136]
 clear hm hk hn;go_enter nu,ny;go_wp2_with fail;exact EpZ
def Hu(w:M)(gm:Nat)(k:Int)(e:Ut)(w':M):Prop:=
 match lE k with
 |some ds=>Zh w gm ds e w'
 |none=>e=Eg (Et #[EI Z 0 0,Ec B])/\w=w'
theorem Ea6(gm:Nat)(l:List Int)(w:M)(hm:H w gm (I9 l) 222):Ef EU 212 #[Y (D ⟨gm,0,Z⟩)] w (Hu w gm (l.getD 0 0)):=by
 generalize hk:l.getD 0 0=k at*;by_cases Ea7:k=129;·subst Ea7;exact EaV gm l w hm hk
 by_cases Ea8:k=130;·subst Ea8;exact EaS gm l w hm hk
 by_cases Ea9:k=131;·subst Ea9;exact EaD gm l w hm hk
 by_cases Ea_:k=132;·subst Ea_;exact EaQ gm l w hm hk
 by_cases EbE:k=133;·subst EbE;exact EaF gm l w hm hk
 by_cases EbI:k=134;·subst EbI;exact EaH gm l w hm hk
 by_cases EbJ:k=135;·subst EbJ;exact EaL gm l w hm hk
 by_cases EbO:k=136;·subst EbO;exact EaN gm l w hm hk
 have hn:lE k=Z:=by unfold lE;exact Eo6
 unfold Hu;rw[hn];exact Ea5 gm l w k hm hk hn
theorem EbU(a0 a1 a2 a3 a4 a5 a6 a7 a8 a9 Ul Oi a12 pN b0 b1 b2 b3 b4 b5 b6 b7 b8 b9 b10 b11 b12 b13:Int)(W:M): (binOp .neq 222 (EZ #[E I a0,E I a1,E I a2,E I a3,E I a4,E I a5,E IP a6,E IP a7,E IP a8,E IP a9,E IP Ul,E IP Oi,E IP a12,E IP pN]) (EZ #[E I b0,E I b1,E I b2,E I b3,E I b4,E I b5,E IP b6,E IP b7,E IP b8,E IP b9,E IP b10,E IP b11,E IP b12,E IP b13])).run EU W= .ok (Ec (!decide (a0=b0/\a1=b1/\a2=b2/\a3=b3/\a4=b4/\a5=b5/\[a6,a7,a8,a9,Ul,Oi,a12,pN]=[b6,b7,b8,b9,b10,b11,b12,b13]))) W:=by
 obtain⟨i0,hi⟩:=Ea4;have hx:=Ea3 Tryz.underlying115 Tryz.underlying5 Ed hi 9997 [a6,a7,a8,a9,Ul,Oi,a12,pN] [b6,b7,b8,b9,b10,b11,b12,b13] U U W;simp only[Ej,UL,Xu,bU] at hx;by_cases e0:a0=b0
 ·by_cases e1:a1=b1
  ·by_cases e2:a2=b2
   ·by_cases e3:a3=b3
    ·by_cases e4:a4=b4
     ·by_cases e5:a5=b5
      ·by_cases e8:[a6,a7,a8,a9,Ul,Oi,a12,pN]=[b6,b7,b8,b9,b10,b11,b12,b13];·rw[Ib e8] at hx;simp only[cG,and_true] at e8;obtain⟨z6,z7,z8,z9,z10,z11,If,z13⟩:=e8;subst z6 z7 z8 z9 z10 z11 If z13;simp[go_sem,e0,e1,e2,e3,e4,e5,hx]
       ·rw[IJ e8] at hx;have e9:(!decide (a0=b0/\a1=b1/\a2=b2/\a3=b3/\a4=b4/\a5=b5/\[a6,a7,a8,a9,Ul,Oi,a12,pN]=[b6,b7,b8,b9,b10,b11,b12,b13]))=u:=by simp only[Bool.not_eq_true',decide_eq_false_iff_not];exact fun h=>e8 h.2.2.2.2.2.2
        rw[e9];simp[go_sem,e0,e1,e2,e3,e4,e5,hx]
      ·simp[go_sem,e0,e1,e2,e3,e4,e5]
     ·simp[go_sem,e0,e1,e2,e3,e4]
    ·simp[go_sem,e0,e1,e2,e3]
   ·simp[go_sem,e0,e1,e2]
  ·simp[go_sem,e0,e1]
 ·simp[go_sem,e0]
theorem Ebb(x y:List Int)(hx:dz x)(hy:dz y)(W:M):(binOp .neq 222 (EZ (I9 x)) (EZ (I9 y))).run EU W= .ok (Ec (!decide (x=y))) W:=by
 obtain⟨hx,-⟩:=hx;obtain⟨hy,-⟩:=hy;match x,hx with
 |[a0,a1,a2,a3,a4,a5,a6,a7,a8,a9,Ul,Oi,a12,pN],_=>
  match y,hy with
  |[b0,b1,b2,b3,b4,b5,b6,b7,b8,b9,b10,b11,b12,b13],_=> refine(EbU a0 a1 a2 a3 a4 a5 a6 a7 a8 a9 Ul Oi a12 pN b0 b1 b2 b3 b4 b5 b6 b7 b8 b9 b10 b11 b12 b13 W).trans ?_;congr 3;rw[decide_eq_decide];simp
def pP(k:Int):List Int:=[k,0,0,0,0,0,0,0,0,0,0,0,0,0]
def nB(l:List Int):Option (List Int):=
 match lE (l.getD 0 0) with
 |none=>Z
 |some ds=>match cD ds l with
  |none=>Z
  |some ps=>if OE ds l=pP (l.getD 0 0) then D (l.getD 0 0::ps) else Z
structure FD.Hv(d:FD):Prop where
 ok:d.Ht
 off1:1<=d.off
 neg:d.lo<0-> -32768<=d.lo/\d.hi<=32767
 pos:0<=d.lo->1<=d.size/\d.size<=7/\d.hi<256^d.size.toNat
theorem Ebc{k:Int}{ds:List FD}(h:lE k=D ds):129<=k/\k<=136/\ds.length<=8/\ ∀d∈ds,d.Hv:=by
 unfold lE at h;repeat' split at h
 all_goals first
  |(cases h;done)
  |(injection h with h
    subst h
    refine⟨X,X,Eb,fun d hd=> ?_⟩
    simp only[Ui,UP,or_false] at hd)
 ·rcases hd with rfl|rfl|rfl|rfl|rfl|rfl|rfl|rfl<;>exact⟨⟨Eb,Eb,Eb⟩,Eb,Eb,Eb⟩
 ·rcases hd with rfl|rfl|rfl<;>exact⟨⟨Eb,Eb,Eb⟩,Eb,Eb,Eb⟩
 ·subst hd;exact⟨⟨Eb,Eb,Eb⟩,Eb,Eb,Eb⟩
 ·exact En2
 ·subst hd;exact⟨⟨Eb,Eb,Eb⟩,Eb,Eb,Eb⟩
 ·exact En2
 ·exact En2
theorem Ebd{gl gm:Nat}{fs:List (FD×Nat)}{l:List Int}(h:Xx w base gl gm fs)(hl:dz l)(hm:H w gm (I9 l) 222)(hd: ∀p∈fs,p.1.Hv): ∀a∈fs.map (Av l),a.ok/\fa w a.Y5 a.gp a.n:=by intro a ha;obtain⟨p,hp,rfl⟩:=da.1 ha;have hg:=hd p hp;obtain⟨i,hi,he⟩:=List.getElem_of_mem hp;refine⟨⟨hg.neg,hg.pos⟩,EOa p.1,fun W hW=> ?_⟩;have hb:=(h.2.2 i hi).2;rw[he] at hb;exact EaB p.1 p.2 gm l W hg.ok hl (H.G hb hW) (hm.G hW)
theorem S7(ds:List FD)(l:List Int)(h:dz l):dz (OE ds l):=by
 refine⟨(Aw ds l).trans h.1,fun i h6 lI=> ?_⟩;rcases EZl ds l i with h1|h1;·rw[h1];omega
 ·rw[h1];exact h.2 i h6 lI
theorem Ebf(k:Int):dz (pP k):=by exact EmS
theorem Ebg(k:Int):Tryz.prog.built 222 [(0,E I k)]=D (I9 (pP k)):=Ed
def vp(l:List Int)(w:M)(e:Ut)(w':M):Prop:=
 (match nB l with
  |none=>e=Eg (Et #[EI Z 0 0,E I 1])
  |some bs=> ∃A c base,e=Eg (Et #[EI A bs.length c,E I 0])/\Own w' base A c bs)/\El w w'
theorem Ebh(l:List Int)(w:M)(hl:dz l):Ef EU 165 #[EZ (I9 l)] w (vp l w):=by
 have CF:=O<|fun W gm hm=>Ea6 gm l W hm;have HL:=O hl;have hsz:Ea ((I9 l).size=14):=O<|pG l;have hone:=O<|Hs l;clear hl;obtain⟨mv,hmv⟩:=En (I9 l);obtain⟨k,hk⟩:=En (l.getD 0 0);rw[<-hmv] at hsz hone⊢;replace hmv:=O hmv;rw[<-hk] at CF;replace hk:=O hk;go_enter Tryz.func165,Tryz.ntmps165;go_wp2_with fail;have K1:=O<|H.new w mv 222;have BB:=O<|Ep w (EJ mv 222);rw[hmv.out] at K1 BB⊢;generalize w.alloc (EJ (I9 l) 222)=w0 at*;have l0:=K1.out.lt;refine(CF.out _ _ K1.out).mono ?_;rintro e w1 hf;unfold Hu at hf;cases hfo:lE k with
 |none=>
  rw[hfo] at hf;obtain⟨rfl,rfl⟩:=hf;have hp:nB l=Z:=by unfold nB;rw[<-hk.out,hfo]
  replace hp:=O hp;clear hfo;exact EqZ
 |some ds=>
  rw[hfo] at hf;obtain⟨gl,cp,fs,rfl,hds,hfl,b1⟩:=hf;obtain⟨k1,k11,hd7,hgood⟩:=Ebc hfo;have S_:=O hfo;have Ay:=O hds;have FL:=O hfl;have HG:=O hgood;replace K1:=O<|K1.out.G b1;replace BB:=EW BB b1;have hlen:fs.length=ds.length:=by rw[<-hds,List.length_map]
  have HN:=O hlen;have hgl:w.heap.size<gl:=by have:=hfl.1;omega
  have c0:=K1.out.cell 0;rw[bZ _ _ X,if_neg X,<-hk.out] at c0;have l1:=K1.out.lt;have Hw: ∀p∈fs,p.1.Hv:=fun p hp=>hgood _ (by rw[<-hds];exact List.mem_map_of_mem hp);have CP:=O<|EZI k (fs.map (Av l)) ds.length gl cp (by rw[List.length_map,hlen]) X X X w1 (fun W hW=>EZj l (hfl.G hW)) (Ebd hfl HL.out K1.out Hw);have HG2:=O Hw;clear Hw;clear hfo hds hfl hgood b1 hlen;generalize hnl:ds.length=n at*;replace hnl:=O hnl;go_wp2_with fail;refine(CP.out).mono ?_;rintro e w2 ⟨vq,b2⟩;clear CP c0;rw[EZi,Ay.out] at vq;have TE:=b2.size;replace K1:=O<|K1.out.G b2;replace FL:=O<|FL.out.G b2;replace BB:=EW BB b2;clear b2;cases hps:cD ds l with
  |none=>
   rw[hps] at vq;obtain rfl:=vq;have hp:nB l=Z:=by unfold nB;rw[<-hk.out,S_.out];simp only[hps]
   replace hp:=O hp;clear hps;exact EqZ
  |some ps=>
   rw[hps] at vq;obtain⟨A,c,rfl,ho⟩:=vq;have Ap:=O hps;have HO:=O ho;clear hps ho;go_wp2_with fail;go_loopw[26] (fun y wr=> ∃i:Nat,i<=n/\y=E I i/\H wr w.heap.size (I9 (OE (ds.take i) l)) 222/\Xx wr w0.heap.size gl w.heap.size fs/\Own wr w1.heap.size A c (k::ps)/\El w wr) (fun y _=>n-(Iv y).toNat);case atStart=>exact⟨0,X,U,K1.out,FL.out,HO.out,BB.out⟩
   case round=>
    obtain⟨i,hi,rfl,hm,hfl,ho,hbb⟩:=hrel;have K1:=O hm;have FL:=O hfl;have HO:=O ho;have BB:=O hbb;have lr:=hm.lt;have lb:=hbb.size;clear hm hfl ho hbb;by_cases hin:i<n
    ·have hil:i<fs.length:=G1;have hcell:=fun j hj=>FL.out.cells i hil j hj;have pC:=(FL.out.2.2 i hil).2;have hgd:=HG2.out _ (hH hil);have htk:ds.take (i+1)=ds.take i++[(fs[i]'hil).1]:=by have e1:ds[i]?=D (fs[i]'hil).1:=SE;rw[nm,e1];rfl
     generalize fs[i]'hil=p at*;obtain⟨d,gb⟩:=p;simp only at hcell pC hgd htk;have HT:=O htk;have u4:=O pC;have CS:=O<|fun W (hb:Zd W d w.heap.size gb) (hm:H W w.heap.size (I9 (OE (ds.take i) l)) 222)=>EaC d gb w.heap.size (OE (ds.take i) l) 0 W hgd.ok (fun _=>X) (S7 _ _ HL.out) hb hm;have HE: ∀(args:Array V) (w:M),(Jj d.set args).run EU w= .ok (.enter d.set args) w:=Qc d;have c0:=hcell 0 X;have c1:=hcell 1 X;have c2:=hcell 2 X;have c3:=hcell 3 X;have c4:=hcell 4 X;simp only[IF,Nat.add_zero] at c0 c1 c2 c3 c4;clear hcell pC hgd htk;have G9:=O<|iO d gb;have hsz2:Ea ((IF d gb).size=5):=O U;have t1:decide ((i:Int)<(n:Int))=u:=Ib X;go_wp2_with (with_reducible refine wA f_ (Ev.mk ?_));apply Eo;clear c0 c1 c2 c3 c4 t1;have K5:=O<|H.new wr JB 298;have b5:=O<|Ep wr (EJ JB 298);generalize wr.alloc (EJ JB 298)=w4 at*;go_wp2_with (with_reducible refine wS (cs:=(IF d gb)) XF K5 (Ev.mk ?_) (hn:=hsz2.out) (h1:=G9.out));apply Eo;replace K5:=O<|K5.out.setRow (IF d gb);replace b5:=O<|E3 (g:=wr.heap.size) b5.out X (IF d gb);generalize w4.setRow wr.heap.size (IF d gb)=w5 at*;replace K1:=O<|K1.out.G b5.out;replace FL:=O<|FL.out.G b5.out;replace HO:=O<|ZW HO.out b5.out;replace BB:=EW BB b5.out;have u5:Ea (Zd w5 d w.heap.size gb):=EQ u4 b5.out;clear u4;clear b5;have k4:=K5.out.cell 4;simp only[IF,Og,List.getElem?_cons_succ,kx] at k4;have HK4:w5.cell? ⟨wr.heap.size,4,Z⟩=D (.func (.func d.set) #[] #[Y (D ⟨gb,0,Z⟩)]):=k4;clear k4 K5;go_wp2_with fail;refine(CS.out _ u5.out K1.out).mono ?_;rintro e w6 ⟨rfl,TI,Hx,hs6,b6⟩;clear HK4 HE CS;replace K1:=O TI;replace FL:=O<|FL.out.keep X Hx;replace HO:=O<|EZk HO.out X Hx;replace BB:=O<|BB.out.trans b6;clear TI Hx b6 u5;go_wp2_with fail;refine⟨⟨i+1,X,Eh,?_,FL.out,HO.out,BB.out⟩,Jv⟩;rw[HT.out,EZm];exact K1.out
    ·obtain rfl:i=n:=X;have TJ:ds.take i=ds:=by rw[<-hnl.out,List.take_length]
     rw[TJ] at K1;have c0:=K1.out.cell 0;rw[bZ _ _ X,if_neg X,sx _ _ _ (fun d hd=>by have:=(HG.out d hd).off1;omega),<-hk.out] at c0;have NQ:=fun W=>Ebb (OE ds l) (pP k) (S7 ds l HL.out) (Ebf k) W;have hput:nB l=if OE ds l=pP k then D (k::ps) else Z:=by unfold nB;rw[<-hk.out,S_.out];simp only[Ap.out]
     replace hput:=O hput;have zs:Ea ((I9 (OE ds l)).size=14):=O<|pG _;have BM:=O<|Ebg k;have HKP:Ea ((k::ps).length=1+ps.length):=O (by rw[ZV];omega);clear TJ;generalize I9 (OE ds l)=mz at*;generalize I9 (pP k)=mk at*;have t1:decide ((i:Int)<(i:Int))=B:=IJ X;by_cases hz:OE ds l=pP k;·rw[Ib hz] at NQ;rw[if_pos hz] at hput;clear hz;go_wp2_with (first|(with_reducible refine wL AR K1 ?_ (hn:=zs.out))|((with_reducible refine Is 37 ?_);refine I3 rfl 222 _ rfl mk BM.out ?_));go_ret2;unfold vp;rw[hput.out];exact⟨⟨A,c,_,by rw[HKP.out];rfl,HO.out⟩,BB.out⟩
     ·rw[IJ hz] at NQ;rw[if_neg hz] at hput;clear hz;go_wp2_with (first|(with_reducible refine wL AR K1 ?_ (hn:=zs.out))|((with_reducible refine Is 37 ?_);refine I3 rfl 222 _ rfl mk BM.out ?_));go_ret2;unfold vp;rw[hput.out];exact Eoq
def ZA(n b:Int):Bool:=decide (0<=n/\n<b)
theorem BO{n b:Int}(h:ZA n b=u):0<=n/\n<b:=of_decide_eq_true h
theorem TU(n b:Int)(w:M): Ef EU 162 #[E I n,E I b] w fun e w'=>e=Eg (Ec (ZA n b))/\w=w':=by
 by_cases h:0<=n;·go_enter Tryz.func162,Tryz.ntmps162;go_wp2;go_ret;exact⟨yC (by unfold ZA;simp[h]),U⟩
 ·go_enter Tryz.func162,Tryz.ntmps162;go_wp2;go_ret;exact⟨yC (by unfold ZA;simp;omega),U⟩
theorem gB(n b:Int)(w:M)(h:ZA n b=u): Ef EU 162 #[E I n,E I b] w fun e w'=>e=Eg (Ec u)/\w=w':=by have:=TU n b w;rwa [h] at this
theorem pQ(n b:Int)(w:M)(h:ZA n b=B): Ef EU 162 #[E I n,E I b] w fun e w'=>e=Eg (Ec B)/\w=w':=by have:=TU n b w;rwa [h] at this
def pn(g:Nat->V)(i:Nat):Int:=Iv (g i)
def lJ(g:Nat->V)(source role:Int):Bool:=ZA source 5&&ZA role 4&&has (pn g (9+source.toNat)) role
def may(g:Nat->V)(mode role TX:Int):Bool:=ZA mode 5&&ZA role 4&&ZA TX 4&&has (pn g (14+mode.toNat*4+role.toNat)) TX
def im(g:Nat->V)(from_ aL:Int):Bool:=ZA from_ 5&&ZA aL 5&&has (pn g (34+from_.toNat)) aL
theorem TZ(g:Nat->V)(s r:Int)(w:M)(hg: ∀i,9<=i->i<56->Z0 (g i)): Ef EU 119 #[EZ (EK 56 g),E I s,E I r] w fun e w'=>e=Eg (Ec (lJ g s r))/\El w w':=by
 cases h1:ZA s 5;·have N1:=O h1;rw[show lJ g s r=B from by simp[lJ,h1]];clear h1;go_enter Tryz.func119,Tryz.ntmps119;exact EmG
 ·cases h2:ZA r 4;·have N1:=O h1;have N2:=O h2;rw[show lJ g s r=B from by simp[lJ,h2]];clear h1 h2;go_enter Tryz.func119,Tryz.ntmps119;go_wp2_with fail;refine(gB _ _ _ N1.out).mono ?_;rintro e w' ⟨rfl,rfl⟩;go_wp2_with fail;refine(pQ _ _ _ N2.out).mono ?_;rintro e w' ⟨rfl,rfl⟩;go_wp2;go_ret;exact⟨U,Ep _ _⟩
  ·have N1:=O h1;have N2:=O h2;obtain⟨k1,k2⟩:=BO h1;obtain⟨k,rfl⟩:=ji k1;rw[show lJ g k r=has (pn g (9+k)) r from by simp[lJ,h1,h2]];have hlt:9+k<56:=X;obtain⟨e1,m1,m2⟩:=hg (9+k) X hlt;obtain⟨p1,hp1⟩:=Jo (Iv (g (9+k)));rw[show pn g (9+k)=p1 from hp1];rw[hp1] at e1 m1 m2;obtain⟨b,hb⟩:=Jo (has p1 r);have hh:=Fg p1 r;rw[hb] at hh;have HH:=O hh;rw[hb];clear h1 h2 hp1 hg hb hh;go_enter Tryz.func119,Tryz.ntmps119;exact EpW
theorem Ta(g:Nat->V)(s r:Int)(w:M)(hg: ∀i,9<=i->i<56->Z0 (g i)): Ef EU 183 #[EZ (EK 56 g),E I s,E I r] w fun e w'=>e=Eg (Ec (im g s r))/\El w w':=by
 cases h1:ZA s 5;·have N1:=O h1;rw[show im g s r=B from by simp[im,h1]];clear h1;go_enter Tryz.func183,Tryz.ntmps183;exact EmG
 ·cases h2:ZA r 5;·have N1:=O h1;have N2:=O h2;rw[show im g s r=B from by simp[im,h2]];clear h1 h2;go_enter Tryz.func183,Tryz.ntmps183;go_wp2_with fail;refine(gB _ _ _ N1.out).mono ?_;rintro e w' ⟨rfl,rfl⟩;go_wp2_with fail;refine(pQ _ _ _ N2.out).mono ?_;rintro e w' ⟨rfl,rfl⟩;go_wp2;go_ret;exact⟨U,Ep _ _⟩
  ·have N1:=O h1;have N2:=O h2;obtain⟨k1,k2⟩:=BO h1;obtain⟨k,rfl⟩:=ji k1;rw[show im g k r=has (pn g (34+k)) r from by simp[im,h1,h2]];have hlt:34+k<56:=X;obtain⟨e1,m1,m2⟩:=hg (34+k) X hlt;obtain⟨p1,hp1⟩:=Jo (Iv (g (34+k)));rw[show pn g (34+k)=p1 from hp1];rw[hp1] at e1 m1 m2;obtain⟨b,hb⟩:=Jo (has p1 r);have hh:=Fg p1 r;rw[hb] at hh;have HH:=O hh;rw[hb];clear h1 h2 hp1 hg hb hh;go_enter Tryz.func183,Tryz.ntmps183;exact EpW
theorem vr(g:Nat->V)(s r c:Int)(w:M)(hg: ∀i,9<=i->i<56->Z0 (g i)): Ef EU 182 #[EZ (EK 56 g),E I s,E I r,E I c] w fun e w'=>e=Eg (Ec (may g s r c))/\El w w':=by
 cases h1:ZA s 5;·have N1:=O h1;rw[show may g s r c=B from by simp[may,h1]];clear h1;go_enter Tryz.func182,Tryz.ntmps182;exact EmG
 ·cases h2:ZA r 4;·have N1:=O h1;have N2:=O h2;rw[show may g s r c=B from by simp[may,h2]];clear h1 h2;go_enter Tryz.func182,Tryz.ntmps182;go_wp2_with fail;refine(gB _ _ _ N1.out).mono ?_;rintro e w' ⟨rfl,rfl⟩;go_wp2_with fail;refine(pQ _ _ _ N2.out).mono ?_;rintro e w' ⟨rfl,rfl⟩;go_wp2;go_ret;exact⟨U,Ep _ _⟩
  ·cases h3:ZA c 4;·have N1:=O h1;have N2:=O h2;have N3:=O h3;rw[show may g s r c=B from by simp[may,h3]];clear h1 h2 h3;go_enter Tryz.func182,Tryz.ntmps182;go_wp2_with fail;refine(gB _ _ _ N1.out).mono ?_;rintro e w' ⟨rfl,rfl⟩;go_wp2_with fail;refine(gB _ _ _ N2.out).mono ?_;rintro e w' ⟨rfl,rfl⟩;go_wp2_with fail;refine(pQ _ _ _ N3.out).mono ?_;rintro e w' ⟨rfl,rfl⟩;go_wp2;go_ret;exact⟨U,Ep _ _⟩
   ·have N1:=O h1;have N2:=O h2;have N3:=O h3;obtain⟨k1,k2⟩:=BO h1;obtain⟨k,rfl⟩:=ji k1;obtain⟨j1,j2⟩:=BO h2;obtain⟨j,rfl⟩:=ji j1;rw[show may g k j c=has (pn g (14+k*4+j)) c from by simp[may,h1,h2,h3]];have hlt:14+k*4+j<56:=X;obtain⟨e1,m1,m2⟩:=hg (14+k*4+j) X hlt;obtain⟨p1,hp1⟩:=Jo (Iv (g (14+k*4+j)));rw[show pn g (14+k*4+j)=p1 from hp1];rw[hp1] at e1 m1 m2;obtain⟨b,hb⟩:=Jo (has p1 c);have hh:=Fg p1 c;rw[hb] at hh;have HH:=O hh;rw[hb];clear h1 h2 h3 hp1 hg hb hh;go_enter Tryz.func182,Tryz.ntmps182;go_wp2_with fail;refine(gB _ _ _ N1.out).mono ?_;rintro e w' ⟨rfl,rfl⟩;go_wp2_with fail;refine(gB _ _ _ N2.out).mono ?_;rintro e w' ⟨rfl,rfl⟩;go_wp2_with fail;refine(gB _ _ _ N3.out).mono ?_;exact Ems
def place(a b c d e s:Int):Int:=if a=s then 0 else if b=s then 1 else if c=s then 2 else if d=s then 3 else if e=s then 4 else-1
def bf(g:Nat->V)(s:Int):Int:=place (pn g 0) (pn g 1) (pn g 2) (pn g 3) (pn g 4) s
def Hy(g:Nat->V)(a b:Int):Bool:=bf g a != -1&&bf g b != -1&&decide (bf g a<bf g b)
theorem Ebk(a b c d e s:Int)(hp:0<=place a b c d e s\/place a b c d e s= -1)(h:a=s):place a b c d e s=0:=by
 unfold place at*;repeat' split at hp
 all_goals (repeat' split)
 all_goals first|rfl|omega
theorem Ebl(a b c d e s:Int)(hp:0<=place a b c d e s\/place a b c d e s= -1)(h: ¬a=s):1<=place a b c d e s\/place a b c d e s= -1:=by
 unfold place at*;repeat' split at hp
 all_goals (repeat' split)
 all_goals omega
theorem Ebm(a b c d e s:Int)(hp:1<=place a b c d e s\/place a b c d e s= -1)(h:b=s):place a b c d e s=1:=by
 unfold place at*;repeat' split at hp
 all_goals (repeat' split)
 all_goals first|rfl|omega
theorem Ebn(a b c d e s:Int)(hp:1<=place a b c d e s\/place a b c d e s= -1)(h: ¬b=s):2<=place a b c d e s\/place a b c d e s= -1:=by
 unfold place at*;repeat' split at hp
 all_goals (repeat' split)
 all_goals omega
theorem Ebo(a b c d e s:Int)(hp:2<=place a b c d e s\/place a b c d e s= -1)(h:c=s):place a b c d e s=2:=by
 unfold place at*;repeat' split at hp
 all_goals (repeat' split)
 all_goals first|rfl|omega
theorem Ebp(a b c d e s:Int)(hp:2<=place a b c d e s\/place a b c d e s= -1)(h: ¬c=s):3<=place a b c d e s\/place a b c d e s= -1:=by
 unfold place at*;repeat' split at hp
 all_goals (repeat' split)
 all_goals omega
theorem Ebq(a b c d e s:Int)(hp:3<=place a b c d e s\/place a b c d e s= -1)(h:d=s):place a b c d e s=3:=by
 unfold place at*;repeat' split at hp
 all_goals (repeat' split)
 all_goals first|rfl|omega
theorem Ebr(a b c d e s:Int)(hp:3<=place a b c d e s\/place a b c d e s= -1)(h: ¬d=s):4<=place a b c d e s\/place a b c d e s= -1:=by
 unfold place at*;repeat' split at hp
 all_goals (repeat' split)
 all_goals omega
theorem Ebs(a b c d e s:Int)(hp:4<=place a b c d e s\/place a b c d e s= -1)(h:e=s):place a b c d e s=4:=by
 unfold place at*;repeat' split at hp
 all_goals (repeat' split)
 all_goals first|rfl|omega
theorem Ebt(a b c d e s:Int)(hp:4<=place a b c d e s\/place a b c d e s= -1)(h: ¬e=s):5<=place a b c d e s\/place a b c d e s= -1:=by
 unfold place at*;repeat' split at hp
 all_goals (repeat' split)
 all_goals omega
theorem Ebu(a b c d e s:Int)(hp:5<=place a b c d e s\/place a b c d e s= -1):place a b c d e s= -1:=by
 unfold place at*;repeat' split at hp
 all_goals (repeat' split)
 all_goals first|rfl|omega
theorem Tb(a b c d e s:Int)(w:M): Ef EU 245 #[EZ #[E I a,E I b,E I c,E I d,E I e],E I s] w fun e' w'=>e'=Eg (E I (place a b c d e s))/\El w w':=by
 have Y4:=O<|Ep w;have i0: ∀w,(JY 337 (EZ #[E I a,E I b,E I c,E I d,E I e]) (E I 0)).run EU w= .ok (E I a) w:=fun _=>Ed;have i1: ∀w,(JY 337 (EZ #[E I a,E I b,E I c,E I d,E I e]) (E I 1)).run EU w= .ok (E I b) w:=fun _=>Ed;have i2: ∀w,(JY 337 (EZ #[E I a,E I b,E I c,E I d,E I e]) (E I 2)).run EU w= .ok (E I c) w:=fun _=>Ed;have i3: ∀w,(JY 337 (EZ #[E I a,E I b,E I c,E I d,E I e]) (E I 3)).run EU w= .ok (E I d) w:=fun _=>Ed;have i4: ∀w,(JY 337 (EZ #[E I a,E I b,E I c,E I d,E I e]) (E I 4)).run EU w= .ok (E I e) w:=fun _=>Ed;go_enter Tryz.func245,Tryz.ntmps245;go_wp2_with fail;go_loop [8] (fun y=> ∃k:Int,y=E I k/\0<=k/\k<=5/\Ea (k<=place a b c d e s\/place a b c d e s= -1)) (fun y=>5-(Iv y).toNat);case atStart=>exact⟨0,U,X,X,O (by unfold place;repeat' split;all_goals omega)⟩
 case round=>
  obtain⟨k,rfl,k0,k5,HK⟩:=hrel;rcases(show k=0\/k=1\/k=2\/k=3\/k=4\/k=5 from X) with rfl|rfl|rfl|rfl|rfl|rfl
  ·by_cases h:a=s;·have HP:=O<|Ebk a b c d e s HK.out h;have hb:(a==s)=u:=Un;clear h;go_wp2;go_ret;exact⟨jO HP.out.symm,Y4.out _⟩
   ·have HP:=O<|Ebl a b c d e s HK.out h;have hb:(a==s)=B:=Un;clear h;go_wp2;exact⟨⟨1,U,X,X,HP⟩,Zt⟩
  ·by_cases h:b=s;·have HP:=O<|Ebm a b c d e s HK.out h;have hb:(b==s)=u:=Un;clear h;go_wp2;go_ret;exact⟨jO HP.out.symm,Y4.out _⟩
   ·have HP:=O<|Ebn a b c d e s HK.out h;have hb:(b==s)=B:=Un;clear h;go_wp2;exact⟨⟨2,U,X,X,HP⟩,Zt⟩
  ·by_cases h:c=s;·have HP:=O<|Ebo a b c d e s HK.out h;have hb:(c==s)=u:=Un;clear h;go_wp2;go_ret;exact⟨jO HP.out.symm,Y4.out _⟩
   ·have HP:=O<|Ebp a b c d e s HK.out h;have hb:(c==s)=B:=Un;clear h;go_wp2;exact⟨⟨3,U,X,X,HP⟩,Zt⟩
  ·by_cases h:d=s;·have HP:=O<|Ebq a b c d e s HK.out h;have hb:(d==s)=u:=Un;clear h;go_wp2;go_ret;exact⟨jO HP.out.symm,Y4.out _⟩
   ·have HP:=O<|Ebr a b c d e s HK.out h;have hb:(d==s)=B:=Un;clear h;go_wp2;exact⟨⟨4,U,X,X,HP⟩,Zt⟩
  ·by_cases h:e=s;·have HP:=O<|Ebs a b c d e s HK.out h;have hb:(e==s)=u:=Un;clear h;go_wp2;go_ret;exact⟨jO HP.out.symm,Y4.out _⟩
   ·have HP:=O<|Ebt a b c d e s HK.out h;have hb:(e==s)=B:=Un;clear h;go_wp2;exact⟨⟨5,U,X,X,HP⟩,Zt⟩
  ·have HP:=O<|Ebu a b c d e s HK.out;go_wp2;go_ret;exact⟨jO HP.out.symm,Y4.out _⟩
theorem jw{v:V}(h:Z0 v): ∃n,v=E I n/\Iv v=n:=⟨_,h.1,U⟩
theorem Ebv(g:Nat->V)(s:Int)(w:M)(hg: ∀i,i<5->Z0 (g i)): Ef EU 219 #[EZ (EK 56 g),E I s] w fun e' w'=>e'=Eg (E I (bf g s))/\El w w':=by obtain⟨a,e0,p0⟩:=jw (hg 0 X);obtain⟨b,e1,p1⟩:=jw (hg 1 X);obtain⟨c,e2,p2⟩:=jw (hg 2 X);obtain⟨d,e3,p3⟩:=jw (hg 3 X);obtain⟨e,e4,p4⟩:=jw (hg 4 X);rw[show bf g s=place a b c d e s from Tc];clear hg p0 p1 p2 p3 p4;go_enter Tryz.func219,Tryz.ntmps219;go_wp2_with fail;refine(Tb a b c d e s _).mono ?_;rintro e' w1 ⟨rfl,b1⟩;go_wp2;go_ret;exact⟨U,N6 b1⟩
theorem Ebw(g:Nat->V)(s t:Int)(w:M)(hg: ∀i,i<5->Z0 (g i)): Ef EU 217 #[EZ (EK 56 g),E I s,E I t] w fun e' w'=>e'=Eg (Ec (Hy g s t))/\El w w':=by
 obtain⟨a,e0,p0⟩:=jw (hg 0 X);obtain⟨b,e1,p1⟩:=jw (hg 1 X);obtain⟨c,e2,p2⟩:=jw (hg 2 X);obtain⟨d,e3,p3⟩:=jw (hg 3 X);obtain⟨e,e4,p4⟩:=jw (hg 4 X);have hr: ∀s,bf g s=place a b c d e s:=fun s=>Tc;unfold Hy;rw[hr,hr];have C:=O<|Tb a b c d e;have B0:=O<|Ep w (EJ (EK 56 g) 28);clear hg p0 p1 p2 p3 p4 hr;go_enter Tryz.func217,Tryz.ntmps217;go_wp2_with fail;go_cut[8,9] (fun Y3 v wx=>Y3=E I (place a b c d e s)/\v=E I (place a b c d e t)/\El w wx)
 case first=>
  go_region_with (go_at_call 245;refine(C.out _ _).mono ?_;rintro e' w1 ⟨rfl,b1⟩;(first|(have cc:=N5 b1;have b2:=O b1;clear b1)|(have cc:=N5 (N7 b1);have b2:=O (N7 b1);clear b1)|skip))
  all_goals
   go_wp2_with fail
   go_meet
   refine⟨U,U,?_⟩
  all_goals exact yH (N6 b2.out) b1 (E7 _)
 case rest=>
  obtain⟨rfl,rfl,hb⟩:=hcut;have HB:=O hb;clear hb;go_wp2_with fail
  all_goals
   go_ret
   refine⟨yC ?_,HB.out⟩
   first|rfl|simp_all
section
open Go.ChangeShapes Go.WideShapes
def ZI(w:M):Prop:= ∀i:Nat,i<12->w.cell? ⟨1,i,Z⟩=D (Ec (i==10||i==11))
theorem ZI.G(h:ZI w)(hb:El w w'):ZI w':=fun i hi=>by rw[hb.cell (XA _ _ (h i hi))];exact h i hi
def Td(g:Nat->V)(holder Oh source role mode kind JM Ov Ow:Int):Int:=
 if¬(kind=10\/kind=11) then 1 else if¬source=holder then 20 else if¬JM=Oh then 21
 else if may g mode role (if kind=10 then 0 else Ow)=B then 22 else if kind=10/\im g mode Ov=B then 23 else 0
theorem Ebx(g:Nat->V)(holder Oh source role mode kind JM Ov Ow:Int)(t2 t3 t4 t5 t6 t7 m1 m2 m3 m7 m8 m9 m10 m11:V)(w:M)(hg: ∀i,9<=i->i<56->Z0 (g i))(hc:ZI w)(hk: ¬(kind=10\/kind=11)): Ef EU 138 #[EZ (EK 56 g),EZ #[E I holder,E I Oh,t2,t3,t4,t5,t6,t7],E I source,E I role,E I mode,EZ #[E I kind,m1,m2,m3,E I JM,E I Ov,E I Ow,m7,m8,m9,m10,m11]] w fun e w'=>e=Eg (E I 1)/\El w w':=by
 have Y4:=O<|af w;by_cases h0:kind<0;·exact Eo8
 ·by_cases h1:12<=kind;·clear hc hg;go_enter lO,lU;go_wp2;go_ret;exact⟨U,Y4.out _ _ _⟩
  ·obtain⟨k,rfl⟩:=ji (show 0<=kind from X);have hcell:=hc k X;rw[show(k==10||k==11)=B from Jn] at hcell;have hlt:1<w.heap.size:=XA _ _ hcell;have hz0:0<w.heap.size:=X;have hlt2:k<12:=X;exact Eo8
theorem Eby(g:Nat->V)(holder Oh source role mode kind JM Ov Ow:Int)(t2 t3 t4 t5 t6 t7 m1 m2 m3 m7 m8 m9 m10 m11:V)(w:M)(hg: ∀i,9<=i->i<56->Z0 (g i))(hc:ZI w)(hk:kind=10\/kind=11)(hs: ¬source=holder): Ef EU 138 #[EZ (EK 56 g),EZ #[E I holder,E I Oh,t2,t3,t4,t5,t6,t7],E I source,E I role,E I mode,EZ #[E I kind,m1,m2,m3,E I JM,E I Ov,E I Ow,m7,m8,m9,m10,m11]] w fun e w'=>e=Eg (E I 20)/\El w w':=by
 have Y4:=O<|af w;have HG:=O hg;have hcell:=hc 10 X;have hcell2:=hc 11 X;rw[show((10:Nat)==10||(10:Nat)==11)=u from rfl] at hcell;rw[show((11:Nat)==10||(11:Nat)==11)=u from rfl] at hcell2;have hlt:1<w.heap.size:=XA _ _ hcell;have hz0:0<w.heap.size:=X;clear hc hg;have hs':(source !=holder)=u:=hI;clear hs;rcases hk with rfl|rfl
 all_goals
  go_enter lO,lU
  go_wp2
  go_ret
  exact⟨U,Y4.out _ _ _⟩
theorem Ebz(g:Nat->V)(holder Oh source role mode kind JM Ov Ow:Int)(t2 t3 t4 t5 t6 t7 m1 m2 m3 m7 m8 m9 m10 m11:V)(w:M)(hg: ∀i,9<=i->i<56->Z0 (g i))(hc:ZI w)(hk:kind=10\/kind=11)(hs:source=holder)(he: ¬JM=Oh): Ef EU 138 #[EZ (EK 56 g),EZ #[E I holder,E I Oh,t2,t3,t4,t5,t6,t7],E I source,E I role,E I mode,EZ #[E I kind,m1,m2,m3,E I JM,E I Ov,E I Ow,m7,m8,m9,m10,m11]] w fun e w'=>e=Eg (E I 21)/\El w w':=by
 have Y4:=O<|af w;have HG:=O hg;have hcell:=hc 10 X;have hcell2:=hc 11 X;rw[show((10:Nat)==10||(10:Nat)==11)=u from rfl] at hcell;rw[show((11:Nat)==10||(11:Nat)==11)=u from rfl] at hcell2;have hlt:1<w.heap.size:=XA _ _ hcell;have hz0:0<w.heap.size:=X;clear hc hg;have hs':(JM !=Oh)=u:=by simpa using he
 clear he;subst hs;rcases hk with rfl|rfl
 all_goals
  go_enter lO,lU
  go_wp2
  go_ret
  exact⟨U,Y4.out _ _ _⟩
theorem Hz{a b c:Obj}(h:Io (((w.alloc a).alloc b).alloc c).heap.size (((w.alloc a).alloc b).alloc c) w'): w'.heap[w.heap.size]?=D a/\w'.heap[w.heap.size+1]?=D b/\w'.heap[w.heap.size+2]?=D c/\El w w':=by
 refine⟨Xr ?_ h,Xr ?_ h,Xr ?_ h,bt (af w a b c) h⟩;·exact Xr (heap_alloc2_old w a b) (Ep _ _)
 ·exact Xr (heap_alloc2_new w a b) (Ep _ _)
 ·have:=fL ((w.alloc a).alloc b) c;exact En4
theorem EbA(g:Nat->V)(holder Oh source role mode kind JM Ov Ow:Int)(t2 t3 t4 t5 t6 t7 m1 m2 m3 m7 m8 m9 m10 m11:V)(w:M)(hg: ∀i,9<=i->i<56->Z0 (g i))(hc:ZI w)(hk:kind=10)(hs:source=holder)(he:JM=Oh)(hm:may g mode role 0=B): Ef EU 138 #[EZ (EK 56 g),EZ #[E I holder,E I Oh,t2,t3,t4,t5,t6,t7],E I source,E I role,E I mode,EZ #[E I kind,m1,m2,m3,E I JM,E I Ov,E I Ow,m7,m8,m9,m10,m11]] w fun e w'=>e=Eg (E I 22)/\El w w':=by
 have Y4:=O<|af w;have HG:=O hg;have hcell:=hc 10 X;have hcell2:=hc 11 X;rw[show((10:Nat)==10||(10:Nat)==11)=u from rfl] at hcell;rw[show((11:Nat)==10||(11:Nat)==11)=u from rfl] at hcell2;have hlt:1<w.heap.size:=XA _ _ hcell;have hz0:0<w.heap.size:=X;clear hc hg;have HM:=O hm;clear hm;subst hs he hk;have Q0:=O<|show(((w.alloc (EJ (EK 56 g) 28)).alloc (EJ #[E I source,E I JM,t2,t3,t4,t5,t6,t7] 109)).alloc (EJ #[E I 10,m1,m2,m3,E I JM,E I Ov,E I Ow,m7,m8,m9,m10,m11] 183)).heap[w.heap.size]?=D (EJ (EK 56 g) 28 (0,0)) from Xr (heap_alloc2_old w _ _) (Ep _ _);go_enter lO,lU
 go_wp2_with (first
  |((with_reducible refine kX 28 ?_);refine pU rfl _ rfl w.heap.size g Q0 rfl ?_)
  |fail)
 refine(vr _ _ _ _ _ HG.out).mono ?_;exact Eok
theorem EbB(g:Nat->V)(holder Oh source role mode kind JM Ov Ow:Int)(t2 t3 t4 t5 t6 t7 m1 m2 m3 m7 m8 m9 m10 m11:V)(w:M)(hg: ∀i,9<=i->i<56->Z0 (g i))(hc:ZI w)(hk:kind=11)(hs:source=holder)(he:JM=Oh)(hm:may g mode role Ow=B): Ef EU 138 #[EZ (EK 56 g),EZ #[E I holder,E I Oh,t2,t3,t4,t5,t6,t7],E I source,E I role,E I mode,EZ #[E I kind,m1,m2,m3,E I JM,E I Ov,E I Ow,m7,m8,m9,m10,m11]] w fun e w'=>e=Eg (E I 22)/\El w w':=by
 have Y4:=O<|af w;have HG:=O hg;have hcell:=hc 10 X;have hcell2:=hc 11 X;rw[show((10:Nat)==10||(10:Nat)==11)=u from rfl] at hcell;rw[show((11:Nat)==10||(11:Nat)==11)=u from rfl] at hcell2;have hlt:1<w.heap.size:=XA _ _ hcell;have hz0:0<w.heap.size:=X;clear hc hg;have HM:=O hm;clear hm;subst hs he hk;have Q0:=O<|show(((w.alloc (EJ (EK 56 g) 28)).alloc (EJ #[E I source,E I JM,t2,t3,t4,t5,t6,t7] 109)).alloc (EJ #[E I 11,m1,m2,m3,E I JM,E I Ov,E I Ow,m7,m8,m9,m10,m11] 183)).heap[w.heap.size]?=D (EJ (EK 56 g) 28 (0,0)) from Xr (heap_alloc2_old w _ _) (Ep _ _);go_enter lO,lU
 go_wp2_with (first
  |((with_reducible refine kX 28 ?_);refine pU rfl _ rfl w.heap.size g Q0 rfl ?_)
  |fail)
 refine(vr _ _ _ _ _ HG.out).mono ?_;exact Eok
theorem EbC(g:Nat->V)(holder Oh source role mode kind JM Ov Ow:Int)(t2 t3 t4 t5 t6 t7 m1 m2 m3 m7 m8 m9 m10 m11:V)(w:M)(hg: ∀i,9<=i->i<56->Z0 (g i))(hc:ZI w)(hk:kind=11)(hs:source=holder)(he:JM=Oh)(hm:may g mode role Ow=u): Ef EU 138 #[EZ (EK 56 g),EZ #[E I holder,E I Oh,t2,t3,t4,t5,t6,t7],E I source,E I role,E I mode,EZ #[E I kind,m1,m2,m3,E I JM,E I Ov,E I Ow,m7,m8,m9,m10,m11]] w fun e w'=>e=Eg (E I 0)/\El w w':=by
 have Y4:=O<|af w;have HG:=O hg;have hcell:=hc 10 X;have hcell2:=hc 11 X;rw[show((10:Nat)==10||(10:Nat)==11)=u from rfl] at hcell;rw[show((11:Nat)==10||(11:Nat)==11)=u from rfl] at hcell2;have hlt:1<w.heap.size:=XA _ _ hcell;have hz0:0<w.heap.size:=X;clear hc hg;have HM:=O hm;clear hm;subst hs he hk;have Q0:=O<|show(((w.alloc (EJ (EK 56 g) 28)).alloc (EJ #[E I source,E I JM,t2,t3,t4,t5,t6,t7] 109)).alloc (EJ #[E I 11,m1,m2,m3,E I JM,E I Ov,E I Ow,m7,m8,m9,m10,m11] 183)).heap[w.heap.size]?=D (EJ (EK 56 g) 28 (0,0)) from Xr (heap_alloc2_old w _ _) (Ep _ _);go_enter lO,lU
 go_wp2_with (first
  |((with_reducible refine kX 28 ?_);refine pU rfl _ rfl w.heap.size g Q0 rfl ?_)
  |fail)
 refine(vr _ _ _ _ _ HG.out).mono ?_;rintro e w1 ⟨rfl,b1⟩;rw[HM.out];clear Q0;obtain⟨q0,q1,q2,b2⟩:=Hz b1;obtain⟨c2,-⟩:=Ja q2;have BB:=O b2;clear q0 q1 q2 b1 b2;go_wp2;go_ret;exact Eoq
theorem EbD(g:Nat->V)(holder Oh source role mode kind JM Ov Ow:Int)(t2 t3 t4 t5 t6 t7 m1 m2 m3 m7 m8 m9 m10 m11:V)(w:M)(hg: ∀i,9<=i->i<56->Z0 (g i))(hc:ZI w)(hk:kind=10)(hs:source=holder)(he:JM=Oh)(hm:may g mode role 0=u)(hn:im g mode Ov=B): Ef EU 138 #[EZ (EK 56 g),EZ #[E I holder,E I Oh,t2,t3,t4,t5,t6,t7],E I source,E I role,E I mode,EZ #[E I kind,m1,m2,m3,E I JM,E I Ov,E I Ow,m7,m8,m9,m10,m11]] w fun e w'=>e=Eg (E I 23)/\El w w':=by
 have Y4:=O<|af w;have HG:=O hg;have hcell:=hc 10 X;have hcell2:=hc 11 X;rw[show((10:Nat)==10||(10:Nat)==11)=u from rfl] at hcell;rw[show((11:Nat)==10||(11:Nat)==11)=u from rfl] at hcell2;have hlt:1<w.heap.size:=XA _ _ hcell;have hz0:0<w.heap.size:=X;clear hc hg;have HM:=O hm;have HN:=O hn;clear hm hn;subst hs he hk;have Q0:=O<|show(((w.alloc (EJ (EK 56 g) 28)).alloc (EJ #[E I source,E I JM,t2,t3,t4,t5,t6,t7] 109)).alloc (EJ #[E I 10,m1,m2,m3,E I JM,E I Ov,E I Ow,m7,m8,m9,m10,m11] 183)).heap[w.heap.size]?=D (EJ (EK 56 g) 28 (0,0)) from Xr (heap_alloc2_old w _ _) (Ep _ _);go_enter lO,lU
 go_wp2_with (first
  |((with_reducible refine kX 28 ?_);refine pU rfl _ rfl w.heap.size g Q0 rfl ?_)
  |fail)
 refine(vr _ _ _ _ _ HG.out).mono ?_;rintro e w1 ⟨rfl,b1⟩;rw[HM.out];clear Q0;obtain⟨q0,q1,q2,b2⟩:=Hz b1;obtain⟨c2,-⟩:=Ja q2;have BB:=O b2;have Q0:=O q0;clear q0 q1 q2 b1 b2
 go_wp2_with (first
  |((with_reducible refine kX 28 ?_);refine pU rfl _ rfl w.heap.size g Q0 rfl ?_)
  |(go_at_call 183;refine(Ta _ _ _ _ HG.out).mono ?_;rintro e w2 ⟨rfl,b2⟩;have BB:=EW BB b2;clear b2;rw[HN.out]))
 go_ret;exact Eoq
theorem EbF(g:Nat->V)(holder Oh source role mode kind JM Ov Ow:Int)(t2 t3 t4 t5 t6 t7 m1 m2 m3 m7 m8 m9 m10 m11:V)(w:M)(hg: ∀i,9<=i->i<56->Z0 (g i))(hc:ZI w)(hk:kind=10)(hs:source=holder)(he:JM=Oh)(hm:may g mode role 0=u)(hn:im g mode Ov=u): Ef EU 138 #[EZ (EK 56 g),EZ #[E I holder,E I Oh,t2,t3,t4,t5,t6,t7],E I source,E I role,E I mode,EZ #[E I kind,m1,m2,m3,E I JM,E I Ov,E I Ow,m7,m8,m9,m10,m11]] w fun e w'=>e=Eg (E I 0)/\El w w':=by
 have Y4:=O<|af w;have HG:=O hg;have hcell:=hc 10 X;have hcell2:=hc 11 X;rw[show((10:Nat)==10||(10:Nat)==11)=u from rfl] at hcell;rw[show((11:Nat)==10||(11:Nat)==11)=u from rfl] at hcell2;have hlt:1<w.heap.size:=XA _ _ hcell;have hz0:0<w.heap.size:=X;clear hc hg;have HM:=O hm;have HN:=O hn;clear hm hn;subst hs he hk;have Q0:=O<|show(((w.alloc (EJ (EK 56 g) 28)).alloc (EJ #[E I source,E I JM,t2,t3,t4,t5,t6,t7] 109)).alloc (EJ #[E I 10,m1,m2,m3,E I JM,E I Ov,E I Ow,m7,m8,m9,m10,m11] 183)).heap[w.heap.size]?=D (EJ (EK 56 g) 28 (0,0)) from Xr (heap_alloc2_old w _ _) (Ep _ _);go_enter lO,lU
 go_wp2_with (first
  |((with_reducible refine kX 28 ?_);refine pU rfl _ rfl w.heap.size g Q0 rfl ?_)
  |fail)
 refine(vr _ _ _ _ _ HG.out).mono ?_;rintro e w1 ⟨rfl,b1⟩;rw[HM.out];clear Q0;obtain⟨q0,q1,q2,b2⟩:=Hz b1;obtain⟨c2,-⟩:=Ja q2;have BB:=O b2;have Q0:=O q0;clear q0 q1 q2 b1 b2
 go_wp2_with (first
  |((with_reducible refine kX 28 ?_);refine pU rfl _ rfl w.heap.size g Q0 rfl ?_)
  |(go_at_call 183;refine(Ta _ _ _ _ HG.out).mono ?_;rintro e w2 ⟨rfl,b2⟩;have BB:=EW BB b2;clear b2;rw[HN.out]))
 go_ret;exact Eoq
theorem Tf(g:Nat->V)(holder Oh source role mode kind JM Ov Ow:Int)(t2 t3 t4 t5 t6 t7 m1 m2 m3 m7 m8 m9 m10 m11:V)(w:M)(hg: ∀i,9<=i->i<56->Z0 (g i))(hc:ZI w): Ef EU 138 #[EZ (EK 56 g),EZ #[E I holder,E I Oh,t2,t3,t4,t5,t6,t7],E I source,E I role,E I mode,EZ #[E I kind,m1,m2,m3,E I JM,E I Ov,E I Ow,m7,m8,m9,m10,m11]] w fun e w'=>e=Eg (E I (Td g holder Oh source role mode kind JM Ov Ow))/\El w w':=by
 unfold Td;by_cases hk:kind=10\/kind=11
 ·rw[if_neg (fun h=>h hk)];by_cases hs:source=holder
  ·rw[if_neg (fun h=>h hs)];by_cases he:JM=Oh
   ·rw[if_neg (fun h=>h he)];rcases hk with hk|hk
    ·rw[if_pos hk];cases hm:may g mode role 0;·rw[if_pos U];exact EbA g holder Oh source role mode kind JM Ov Ow t2 t3 t4 t5 t6 t7 m1 m2 m3 m7 m8 m9 m10 m11 w hg hc hk hs he hm
     ·rw[if_neg Eh];cases hn:im g mode Ov;·rw[if_pos ⟨hk,U⟩];exact EbD g holder Oh source role mode kind JM Ov Ow t2 t3 t4 t5 t6 t7 m1 m2 m3 m7 m8 m9 m10 m11 w hg hc hk hs he hm hn
      ·rw[if_neg Eh];exact EbF g holder Oh source role mode kind JM Ov Ow t2 t3 t4 t5 t6 t7 m1 m2 m3 m7 m8 m9 m10 m11 w hg hc hk hs he hm hn
    ·rw[if_neg (show¬kind=10 from X)];cases hm:may g mode role Ow;·rw[if_pos U];exact EbB g holder Oh source role mode kind JM Ov Ow t2 t3 t4 t5 t6 t7 m1 m2 m3 m7 m8 m9 m10 m11 w hg hc hk hs he hm
     ·rw[if_neg Eh,if_neg X];exact EbC g holder Oh source role mode kind JM Ov Ow t2 t3 t4 t5 t6 t7 m1 m2 m3 m7 m8 m9 m10 m11 w hg hc hk hs he hm
   ·rw[if_pos he];exact Ebz g holder Oh source role mode kind JM Ov Ow t2 t3 t4 t5 t6 t7 m1 m2 m3 m7 m8 m9 m10 m11 w hg hc hk hs he
  ·rw[if_pos hs];exact Eby g holder Oh source role mode kind JM Ov Ow t2 t3 t4 t5 t6 t7 m1 m2 m3 m7 m8 m9 m10 m11 w hg hc hk hs
 ·rw[if_pos hk];exact Ebx g holder Oh source role mode kind JM Ov Ow t2 t3 t4 t5 t6 t7 m1 m2 m3 m7 m8 m9 m10 m11 w hg hc hk
end
def au(n:Int):Prop:= -9223372036854775808<=n/\n<=9223372036854775807
theorem BU{n a r:Int}(hn:au n)(ha:au a)(hr:au r):au (Jz n a r):=by
 unfold au Jz at*;repeat' split
 all_goals omega
theorem Ba:IW EU 50 12:=⟨⟨_,Tryz.underlying50,U⟩,Ed⟩
theorem EbG(f:Nat->V)(c a0 a1 a2 a3 n0 n1 n2 n3 ru so se r:Int)(w:M)(hr:f 54=E I r)(ir:au r)(H_:au a0)(Ka:au a1)(Kb:au a2)(Kc:au a3)(Kd:au n0)(Kf:au n1)(Kg:au n2)(Kh:au n3)(b:Bool)(hm:decide ((Jz n0 a0 r)=n0/\(Jz n1 a1 r)=n1/\(Jz n2 a2 r)=n2/\(Jz n3 a3 r)=n3)=b): Ef EU 107 #[EZ (EK 56 f),EZ #[E I c,E I a0,E I a1,E I a2,E I a3,E I n0,E I n1,E I n2,E I n3,E I ru,E I so,E I se]] w fun e w'=>e=Eg (EZ #[E I c,E I a0,E I a1,E I a2,E I a3,E I (Jz n0 a0 r),E I (Jz n1 a1 r),E I (Jz n2 a2 r),E I (Jz n3 a3 r),E I (if b then ru else 4),E I so,E I se])/\El w w':=by
 have j0: ∀w,(JY 25 (EZ #[E I a0,E I a1,E I a2,E I a3]) (E I 0)).run EU w= .ok (E I a0) w:=fun _=>Ed;have j1: ∀w,(JY 25 (EZ #[E I a0,E I a1,E I a2,E I a3]) (E I 1)).run EU w= .ok (E I a1) w:=fun _=>Ed;have j2: ∀w,(JY 25 (EZ #[E I a0,E I a1,E I a2,E I a3]) (E I 2)).run EU w= .ok (E I a2) w:=fun _=>Ed;have j3: ∀w,(JY 25 (EZ #[E I a0,E I a1,E I a2,E I a3]) (E I 3)).run EU w= .ok (E I a3) w:=fun _=>Ed;have C0:=O (yD n0 a0 r · Kd.1 Kd.2 H_.1 H_.2 ir.1 ir.2);have C1:=O (yD n1 a1 r · Kf.1 Kf.2 Ka.1 Ka.2 ir.1 ir.2);have C2:=O (yD n2 a2 r · Kg.1 Kg.2 Kb.1 Kb.2 ir.1 ir.2);have C3:=O (yD n3 a3 r · Kh.1 Kh.2 Kc.1 Kc.2 ir.1 ir.2);have HM:=O hm;have hneq:=EZZ (Jz n0 a0 r) (Jz n1 a1 r) (Jz n2 a2 r) (Jz n3 a3 r) n0 n1 n2 n3;rw[hm] at hneq;clear hm;have hl:(54:Nat)<56:=X;clear ir H_ Ka Kb Kc Kd Kf Kg Kh;go_enter Tryz.func107,Tryz.ntmps107;go_wp2_with fail;go_loopw[12] (fun y wr=> ∃k:Int,y=E I k/\0<=k/\k<=4/\wr.heap[w.heap.size]?=D (EJ (EK 56 f) 28 (0,0))/\wr.heap[w.heap.size+1]?=D (EJ (if k=0 then#[E I c,E I a0,E I a1,E I a2,E I a3,E I n0,E I n1,E I n2,E I n3,E I ru,E I so,E I se] else if k=1 then#[E I c,E I a0,E I a1,E I a2,E I a3,E I (Jz n0 a0 r),E I n1,E I n2,E I n3,E I ru,E I so,E I se] else if k=2 then#[E I c,E I a0,E I a1,E I a2,E I a3,E I (Jz n0 a0 r),E I (Jz n1 a1 r),E I n2,E I n3,E I ru,E I so,E I se] else if k=3 then#[E I c,E I a0,E I a1,E I a2,E I a3,E I (Jz n0 a0 r),E I (Jz n1 a1 r),E I (Jz n2 a2 r),E I n3,E I ru,E I so,E I se] else#[E I c,E I a0,E I a1,E I a2,E I a3,E I (Jz n0 a0 r),E I (Jz n1 a1 r),E I (Jz n2 a2 r),E I (Jz n3 a3 r),E I ru,E I so,E I se]) 50 (0,0))/\wr.heap[w.heap.size+1+1]?=D (EJ #[E I 0,E I 0,E I 0,E I 0,E I 0,E I 0,E I 0,E I 0,E I 0,E I 0,E I 0,E I 0] 50 (0,0))/\wr.heap[w.heap.size+1+1+1]?=D (EJ #[E I n0,E I n1,E I n2,E I n3] 25 (0,0))/\El w wr) (fun y _=>4-(Iv y).toNat)
 case atStart=>
  refine⟨0,U,X,X,?_,?_,?_,?_,?_⟩;·exact Xr (Xr (heap_alloc2_old w _ _) (Ep _ _)) (Ep _ _)
  ·exact Xr (Xr (heap_alloc2_new w _ _) (Ep _ _)) (Ep _ _)
  ·exact Xr (by have:=fL ((w.alloc (EJ (EK 56 f) 28)).alloc (EJ #[E I c,E I a0,E I a1,E I a2,E I a3,E I n0,E I n1,E I n2,E I n3,E I ru,E I so,E I se] 50)) (EJ #[E I 0,E I 0,E I 0,E I 0,E I 0,E I 0,E I 0,E I 0,E I 0,E I 0,E I 0,E I 0] 50);simpa using this) (Ep _ _)
  ·have:=fL (((w.alloc (EJ (EK 56 f) 28)).alloc (EJ #[E I c,E I a0,E I a1,E I a2,E I a3,E I n0,E I n1,E I n2,E I n3,E I ru,E I so,E I se] 50)).alloc (EJ #[E I 0,E I 0,E I 0,E I 0,E I 0,E I 0,E I 0,E I 0,E I 0,E I 0,E I 0,E I 0] 50)) (EJ #[E I n0,E I n1,E I n2,E I n3] 25);exact En4
  ·exact bt (af w _ _ _) (Ep _ _)
 case round=>
  obtain⟨k,rfl,k0,k4,hp,hq,hz,hn,hb⟩:=hrel;have HP:=O hp;have HN:=O hn;have HB:=O hb;have HZ:=O hz;obtain⟨cP,-⟩:=Ja hp;obtain⟨cN,-⟩:=Ja hn;clear hp hn hb hz;rcases(show k=0\/k=1\/k=2\/k=3\/k=4 from X) with rfl|rfl|rfl|rfl|rfl
  ·simp only[if_true,reduceIte] at hq;obtain⟨cQ,fQ⟩:=Ja hq;have HQ:=O hq;clear hq hneq;go_wp2_with fail;go_region_with (go_at_call 152;(with_reducible refine(C0.out _).mono ?_);rintro e w1 ⟨rfl,rfl⟩);go_wp2_with fail
   all_goals
    refine⟨⟨1,U,X,X,?_,?_,?_,?_,?_⟩,Zt⟩
    ·exact Em8
    ·show(wr.setCell _ _).heap[_]?=_;rw[mj HQ.out 5 _];rfl
    ·exact Em7
    ·exact Em9
    ·exact(HB.out.setCell (p:=⟨w.heap.size+1,5,Z⟩) U3 _).drew
  ·simp only[show¬((1:Int)=0) from X,if_false,if_true,reduceIte] at hq;obtain⟨cQ,fQ⟩:=Ja hq;have HQ:=O hq;clear hq hneq;go_wp2_with fail;go_region_with (go_at_call 152;(with_reducible refine(C1.out _).mono ?_);rintro e w1 ⟨rfl,rfl⟩);go_wp2_with fail
   all_goals
    refine⟨⟨2,U,X,X,?_,?_,?_,?_,?_⟩,Zt⟩
    ·exact Em8
    ·show(wr.setCell _ _).heap[_]?=_;rw[mj HQ.out 6 _];rfl
    ·exact Em7
    ·exact Em9
    ·exact(HB.out.setCell (p:=⟨w.heap.size+1,6,Z⟩) U3 _).drew
  ·simp only[show¬((2:Int)=0) from X,show¬((2:Int)=1) from X,if_false,if_true,reduceIte] at hq;obtain⟨cQ,fQ⟩:=Ja hq;have HQ:=O hq;clear hq hneq;go_wp2_with fail;go_region_with (go_at_call 152;(with_reducible refine(C2.out _).mono ?_);rintro e w1 ⟨rfl,rfl⟩);go_wp2_with fail
   all_goals
    refine⟨⟨3,U,X,X,?_,?_,?_,?_,?_⟩,Zt⟩
    ·exact Em8
    ·show(wr.setCell _ _).heap[_]?=_;rw[mj HQ.out 7 _];rfl
    ·exact Em7
    ·exact Em9
    ·exact(HB.out.setCell (p:=⟨w.heap.size+1,7,Z⟩) U3 _).drew
  ·simp only[show¬((3:Int)=0) from X,show¬((3:Int)=1) from X,show¬((3:Int)=2) from X,if_false,if_true,reduceIte] at hq;obtain⟨cQ,fQ⟩:=Ja hq;have HQ:=O hq;clear hq hneq;go_wp2_with fail;go_region_with (go_at_call 152;(with_reducible refine(C3.out _).mono ?_);rintro e w1 ⟨rfl,rfl⟩);go_wp2_with fail
   all_goals
    refine⟨⟨4,U,X,X,?_,?_,?_,?_,?_⟩,Zt⟩
    ·exact Em8
    ·show(wr.setCell _ _).heap[_]?=_;rw[mj HQ.out 8 _];rfl
    ·exact Em7
    ·exact Em9
    ·exact(HB.out.setCell (p:=⟨w.heap.size+1,8,Z⟩) U3 _).drew
  ·simp only[show¬((4:Int)=0) from X,show¬((4:Int)=1) from X,show¬((4:Int)=2) from X,show¬((4:Int)=3) from X,if_false,if_true,reduceIte] at hq;obtain⟨cQ,fQ⟩:=Ja hq;have HQ:=O hq;clear hq j0 j1 j2 j3 C0 C1 C2 C3;cases b;·have hz':(wr.setCell ⟨w.heap.size+1,9,Z⟩ (E I 4)).heap[w.heap.size+1+1]?=_:=(XM _ _ _ _ U3).trans HZ.out;have HZ:=O hz';have HB:=O<|HB.out.setCell (p:=⟨w.heap.size+1,9,Z⟩) U3 (E I 4);clear hz';go_wp2_with ((with_reducible show IZ _ _ _ (⟨Z,.store 50 (.tmp 4) _,_,_,_,_⟩::_) _ _);(with_reducible refine Fi (cs:= #[E I c,E I a0,E I a1,E I a2,E I a3,E I (Jz n0 a0 r),E I (Jz n1 a1 r),E I (Jz n2 a2 r),E I (Jz n3 a3 r),E I 4,E I so,E I se]) Ba ?_ ?_ HZ ?_ ?_ ?_ ?_);(·exact Ei U);(·exact⟨U,U,U⟩);(·rfl);(·rfl);(·(simp[OC];done)));refine ET (v:=EZ #[E I c,E I a0,E I a1,E I a2,E I a3,E I (Jz n0 a0 r),E I (Jz n1 a1 r),E I (Jz n2 a2 r),E I (Jz n3 a3 r),E I 4,E I so,E I se]) ?_ U ⟨U,E3 HB.out X _⟩;exact Fj Ba U _ _ (w.heap.size+1+1) _ U (setRow_heap _ _ _ _ _ _ HZ.out) U
   ·go_wp2_with ((with_reducible show IZ _ _ _ (⟨Z,.store 50 (.tmp 4) _,_,_,_,_⟩::_) _ _);(with_reducible refine Fi (cs:= #[E I c,E I a0,E I a1,E I a2,E I a3,E I (Jz n0 a0 r),E I (Jz n1 a1 r),E I (Jz n2 a2 r),E I (Jz n3 a3 r),E I ru,E I so,E I se]) Ba ?_ ?_ HZ ?_ ?_ ?_ ?_);(·exact Ei U);(·exact⟨U,U,U⟩);(·rfl);(·rfl);(·(simp[OC];done)));refine ET (v:=EZ #[E I c,E I a0,E I a1,E I a2,E I a3,E I (Jz n0 a0 r),E I (Jz n1 a1 r),E I (Jz n2 a2 r),E I (Jz n3 a3 r),E I ru,E I so,E I se]) ?_ U ⟨U,E3 HB.out X _⟩;exact Fj Ba U _ _ (w.heap.size+1+1) _ U (setRow_heap _ _ _ _ _ _ HZ.out) U
section
open Go.ChangeShapes Go.WideShapes
theorem Tg{cap:Nat}(h:Own w base A cap xs)(hp:0<xs.length): ∃g cur,A=D ⟨g,0,Z⟩/\base<=g/\H w g cur 5/\cur.toList.take xs.length=xs.map (E .u8)/\xs.length<=cap:=by
 rcases h.1.2 with⟨hv,hn⟩|⟨g,cap',cur,hv,hg,hh,hl,hm,hs,ht⟩;·omega
 ·injection hv with h1 h2 h3;rw[Nat.mul_one] at ht;exact⟨g,cur,h1,hg,hh,ht,X⟩
theorem EbH{cur:Array V}{T:EC}{P:List Int}(hk:H w g cur T)(ht:cur.toList.take P.length=P.map (E .u8))(hb: ∀x∈P,0<=x/\x<=255)(off n:Nat): Row w (D ⟨g,off,Z⟩) ((P.drop off).take n):=by refine⟨.inr ⟨g,off,U,fun i hi=> ?_⟩,fun x hx=>hb x (List.mem_of_mem_drop (fK hx))⟩;have hi2:off+i<P.length:=rB;rw[hk.cell (off+i),<-Array.getElem?_toList,<-bN hi2,ht];simp[hi2]
theorem EbK{Y9:Type}{enc:EC×V->Y9}{fuel:Nat}{a:Option Eu}{l c:Nat}{x:DataW Y9×List MemPlace}(hf:ZN enc EU w 0 (fun _=>u) u fuel 23 [EI a l c]=D x):NW .u8 w (EI a l c):=by
 rcases open_ints bR Tryz.underlying5 Ed hf with⟨hcs,_⟩|⟨x,l',c',zs,hcs,_,hl,hm,hz,hx,hcell,hwz⟩;·simp at hcs;obtain⟨rfl,rfl,rfl⟩:=hcs;exact .inl U
 ·simp at hcs;obtain⟨rfl,rfl,rfl⟩:=hcs;have hzc:zs.length=c:=by simpa using hz
  refine .inr ⟨x,l,c,zs,U,fun h0=> ?_,hl,by unfold maxLen at hm;omega,hzc,hcell,hwz⟩;have h1:=hcell 0 X;have e0:x.add 0=x:=by simp[Addr.add]
  rw[e0] at h1;refine⟨?_,World.cell?_spot h1⟩;rcases JG x.block w.heap.size with h2|h2;·exact h2
  ·rw[jx,g_ h2] at h1;simp at h1
end
def Ki:List EC:=[58,264]
def io(lo hi k:Nat)(T:EC):Bool:=(decide (lo<=k)&&ki.contains T)||(decide (hi<=k)&&Ki.contains T)
structure Ex(lo hi:Nat)(w w':M):Prop where
 os:w'.os=w.os
 tape:w'.tape=w.tape
 output:w'.output=w.output
 size:w.heap.size<=w'.heap.size
 low: ∀k,k<hi->k<w.heap.size->(∀c T p,w.heap[k]?=D (EJ c T p)->io lo hi k T=B)->w'.heap[k]?=w.heap[k]?
 high: ∀k c T,H w k c T->io lo hi k T=B->H w' k c T
 stay: ∀k c T,H w k c T-> ∃c',H w' k c' T
 Bb: ∀k c T p,k<hi->w.heap[k]?=D (EJ c T p)-> ∃c' p',w'.heap[k]?=D (EJ c' T p')
theorem Ex.refl(lo hi:Nat)(w:M):Ex lo hi w w:=⟨U,U,U,E7 _,fun _ _ _ _=>rfl,fun _ _ _ h _=>h,fun _ c _ h=>⟨c,h⟩,fun _ c _ p _ h=>⟨c,p,h⟩⟩
theorem Ex.trans{a b c:M}(h:Ex lo hi a b)(k:Ex lo hi b c):Ex lo hi a c:=by
 refine⟨k.os.trans h.os,k.tape.trans h.tape,k.output.trans h.output,EA h.size k.size,fun i hi' hl hm=> ?_,fun i d T hb hm=>k.high i d T (h.high i d T hb hm) hm,fun i d T hb=> ?_,fun i d T p hi' hb=> ?_⟩;·have e:=h.low i hi' hl hm;refine(k.low i hi' (Nat.lt_of_lt_of_le hl h.size) fun d T p hb=>hm d T p ?_).trans e;rw[<-e];exact hb
 ·obtain⟨d',hd⟩:=h.stay i d T hb;exact k.stay i d' T hd
 ·obtain⟨d',p',hd⟩:=h.Bb i d T p hi' hb;exact k.Bb i d' T p' hi' hd
theorem Ex.Ew(h:El w w'):Ex lo hi w w':=
 ⟨h.os,h.tape,h.output,h.size,fun k _ hl _=>h.block k hl,fun _ _ _ hb _=>hb.G h,fun _ c _ hb=>⟨c,hb.G h⟩,fun _ c _ p _ hb=>⟨c,p,Xr hb h⟩⟩
theorem Ex.Ek(h:Ex lo hi w w')(K:H w g cs S)(hS:ki.contains S=B)(hR:Ki.contains S=B):H w' g cs S:=
 h.high g cs S K (by unfold io;rw[hS,hR];simp)
theorem Ex.old(h:Ex lo hi w w')(K:H w g cs S)(hS:ki.contains S=B)(hg:g<hi):H w' g cs S:=
 h.high g cs S K (by unfold io;rw[hS,IJ (show¬hi<=g from X)];simp)
theorem Ex.vt{cs':Array V}(h:EH g w w')(K:H w g cs S)(K':H w' g cs' S)(hS:ki.contains S=u)(hl:lo<=g):Ex lo hi w w':=by
 have hb:=h.bel 0 (bY _) (bY _);refine⟨hb.os,hb.tape,hb.output,h.size,fun k _ hk hm=> ?_,fun k c T hk hm=> ?_,fun k c T hk=> ?_,fun k c T p _ hk=> ?_⟩;·refine h.keep k (fun e=> ?_) hk;subst e;have:=hm cs S (0,0) K;unfold io at this;rw[hS,Ib hl] at this;simp at this
 ·refine h.Ek hk (fun e=> ?_);subst e;have e2:=(show D (EJ c T (0,0))=D (EJ cs S (0,0)) from hk.symm.trans K);injection e2 with e2;injection e2 with e3 e4;subst e4;unfold io at hm;rw[hS,Ib hl] at hm;simp at hm
 ·by_cases e:k=g;·subst e;have e2:=(show D (EJ c T (0,0))=D (EJ cs S (0,0)) from hk.symm.trans K);injection e2 with e2;injection e2 with e3 e4;subst e4;exact⟨cs',K'⟩
  ·exact⟨c,h.Ek hk e⟩
 ·by_cases e:k=g;·subst e;have e2:=(show D (EJ c T p)=D (EJ cs S (0,0)) from hk.symm.trans K);injection e2 with e2;injection e2 with e3 e4 e5;subst e4;exact⟨cs',(0,0),K'⟩
  ·exact⟨c,p,(h.keep k e (mh hk)).trans hk⟩
theorem Ex.Th{T:EC}(h:jh hi T N ys w w')(hT:Ki.contains T=u)(hh:hi<=w.heap.size):Ex lo hi w w':=by
 have hb:=h.2.1 hh;refine⟨hb.os,hb.tape,hb.output,hb.size,fun k hk _ _=>hb.block k hk,fun k c S hk hm=> ?_,fun k c S hk=> ?_,fun k c S p hlt hk=>⟨c,p,(hb.block k hlt).trans hk⟩⟩
 ·by_cases hkh:k<hi;·exact(hb.block k hkh).trans hk
  ·obtain⟨c',e,-,hS,-⟩:=h.2.2 k c S hk;by_cases eS:S=T;·subst eS;unfold io at hm;rw[hT,Ib (X:hi<=k)] at hm;simp at hm
   ·rw[hS eS] at e;exact e
 ·obtain⟨c',e,-⟩:=h.2.2 k c S hk;exact⟨c',e⟩
theorem Ex.EbL(h:Ex lo hi w w')(hh:hi<=w.heap.size):FN lo hi w w':=by
 refine⟨h.os,h.tape,h.output,h.size,fun k hk hm=> ?_,fun k h1 h2 h3=> ?_⟩
 ·refine h.low k hk X fun c T p hc=> ?_;unfold io;rw[IJ (X: ¬hi<=k)];by_cases hl:lo<=k;·have:=hm hl;unfold uh FM at this;rw[hc] at this;simp at this⊢;exact fun _=>this
  ·simp;omega
 ·unfold uh FM at h3⊢;cases e:w.heap[k]? with
  |none=>rw[e] at h3;cases h3
  |some o=>
   rw[e] at h3;cases o with
   |cells c T p=> obtain⟨c',p',hc'⟩:=h.Bb k c T p h2 e;rw[hc'];exact h3
   |_=>cases h3
structure Dr where
 n:Int
 op:Bool
 nc:List Int
def Dr.v(d:Dr):List V:=[E I d.n,Ec d.op]++d.nc.map (E .u8)
structure Dr.ok(d:Dr):Prop where
 n:0<=d.n/\d.n<=4294967295
 len:d.nc.length=8
 bytes: ∀x∈d.nc,0<=x/\x<=255
theorem Dr.len'{d:Dr}(h:d.ok):d.v.length=10:=by simp[Dr.v,h.len]
def aw(p:List V)(c:EB)(gq gt:Nat)(d0 d1 d2:Dr)(hd:List Int):List (List V):=
 [p,c.tok.v,[Y (D ⟨gq,0,Z⟩)],d0.v,d1.v,d2.v,[Y (D ⟨gt,0,Z⟩)],[E I c.samples],[E I c.beyond],[E I c.mode],c.Em.v,c.pt.v,hd.map (E .u8)]
def lX(k:Nat):Nat:=[0,56,64,65,75,85,95,96,97,98,99,102,114].getD k 146
theorem Ox{p:List V}{d0 d1 d2:Dr}(hp:p.length=56)(h0:d0.ok)(h1:d1.ok)(h2:d2.ok)(k:Nat)(hk:k<13):aT (aw p c gq gt d0 d1 d2 hd) k=lX k:=by have e0:=Dr.len' h0;have e1:=Dr.len' h1;have e2:=Dr.len' h2;rcases(show k=0\/k=1\/k=2\/k=3\/k=4\/k=5\/k=6\/k=7\/k=8\/k=9\/k=10\/k=11\/k=12 from X) with rfl|rfl|rfl|rfl|rfl|rfl|rfl|rfl|rfl|rfl|rfl|rfl|rfl<;>simp[aT,aw,lX,hp,e0,e1,e2,EG.v,XD.v,Pt.v]
def TM(a m:Int):Prop:=0<=a/\a<=1000/\0<=m/\m<=1000
structure EP.Xg(T:EP):Prop where
 E9:0<=T.E9/\T.E9<=1000
 st:TM T.sa T.sm
 EY: ∀i,TM (T.EY i).a (T.EY i).m
theorem EP.Xg.put{T:EP}(h:T.Xg)(k:Nat){s:I4}(hs:TM s.a s.m):(T.put k s).Xg:=by
 match k with
 |0=>exact⟨h.E9,h.st,fun i=>match i with|0=>hs|1=>h.EY 1|_+2=>h.EY 2⟩
 |1=>exact⟨h.E9,h.st,fun i=>match i with|0=>h.EY 0|1=>hs|_+2=>h.EY 2⟩
 |_+2=>exact⟨h.E9,h.st,fun i=>match i with|0=>h.EY 0|1=>h.EY 1|_+2=>hs⟩
theorem TM.start{T:EP}(h:T.Xg):TM 0 (max T.E9 0):=by have:=h.E9;exact⟨ZB _,X,X,X⟩
structure EB.ok(c:EB):Prop where
 tok:c.tok.ok
 T:c.T.ok
 q:c.q.length<=3
 ones: ∀x∈c.q,x.ok
 src: ∀x∈c.q,1<=x.s/\x.s<=3
 nd:(c.q.map One.s).Nodup
 ip:0<=c.samples/\c.samples<=4294967295
 jy:0<=c.beyond/\c.beyond<=1000
 mode:0<=c.mode/\c.mode<=4
 Em:c.Em.ok
 pt:c.pt.ok
 E9:c.T.Xg
def iq(W:M)(lo:Nat)(v:V):Prop:= ∃(gk n cap:Nat) (cur:Array V) (ys:List Int),v=EI (D ⟨gk,0,Z⟩) n cap/\lo<=gk/\ys.length=n/\1<=n/\n<=64/\n<=cap/\cap<=9223372036854775807/\H W gk cur 5/\cur.toList.take n=ys.map (E .u8)/\ ∀x∈ys,0<=x/\x<=255
theorem iq.Ek{v:V}(h:iq W lo v)(hb: ∀g cs,H W g cs 5->H W' g cs 5):iq W' lo v:=by obtain⟨gk,n,cap,cur,ys,h1,h2,h3,h4,h5,h6,h7,h8,h9⟩:=h;exact⟨gk,n,cap,cur,ys,h1,h2,h3,h4,h5,h6,h7,hb _ _ h8,h9⟩
theorem iq.row{v:V}(h:iq W lo v): ∃(A:Option Eu) (n cap:Nat) (ys:List Int),v=EI A n cap/\ys.length=n/\1<=n/\n<=64/\n<=cap/\cap<=9223372036854775807/\Row W A ys:=by obtain⟨gk,n,cap,cur,ys,h1,-,h3,h4,h5,h6,h7,h8,h9,h10⟩:=h;subst h3;have:=EbH h8 h9 h10 0 ys.length;rw[IG,UZ (E7 _)] at this;exact⟨_,_,cap,ys,h1,U,h4,h5,h6,h7,this⟩
def Jr(W:M)(lo gq:Nat)(L:List One)(most:Int):Prop:= ∃(v:V) (came:Nat),H W gq #[v,E I most,E Il came] 152/\came<18446744073709551616/\W.ownsRow lo 171 5 v L.length (ID L)
structure EbM(g:Nat->V):Prop where
 int: ∀i,i<56->i<5\/8<i->Z0 (g i)
 fit: ∀i,9<=i->i<56-> ∃n:Nat,g i=E I n/\aW i n
structure JO(lo:Nat)(g:Nat->V)(gc gq gt:Nat)(c:EB)(W:M):Prop where
 lo2:2<=lo
 ZJ:EbM g
 ok:c.ok
 lc:lo<=gc
 lq:lo<=gq
 lt:lo<=gt
 Ek: ∃(d0 d1 d2:Dr) (hd:List Int),Ji W gc (aw (EK 56 g).toList c gq gt d0 d1 d2 hd) 120/\d0.ok/\d1.ok/\d2.ok/\hd.length=32/\ ∀x∈hd,0<=x/\x<=255
 tab:E2 W gt c.T
 Z2:Jr W lo gq c.q (pn g 48)
 keys: ∀i,5<=i->i<=8->iq W lo (g i)
 roots:JP W
 cmds:ZI W
structure sK where
 l:List V
 one: ∀Y3∈l,Y3.oneCell'=u
structure E_(lo hi:Nat)(g:Nat->V)(gc gq gt gs:Nat)(c:EB)(ns:Nat)(rs:List Rec)(W:M):Prop where
 core:JO lo g gc gq gt c W
 hc:gc<hi
 hq:gq<hi
 ht:gt<hi
 cH:lo<=hi
 his:hi<=gs
 fi: ∃(sv rv:V) (sc:sK),H W gs #[Y (D ⟨gc,0,Z⟩),sv,rv] 124/\W.ownsRow hi 264 2 sv ns sc.l/\W.ownsRow hi 58 6 rv rs.length (Uh rs)
theorem ER{T:EC}{size n:Nat}{v:V}{xs:List V}(h:W.ownsRow base T size v n xs)(hb: ∀g cs,H W g cs T->H W' g cs T):W'.ownsRow base T size v n xs:=by
 obtain⟨h1,h2|⟨gg,cap,cur,hv,hg,hh,r⟩⟩:=h;·exact⟨h1,.inl h2⟩
 ·exact⟨h1,.inr ⟨gg,cap,cur,hv,hg,hb _ _ hh,r⟩⟩
theorem JO.G{g:Nat->V}(h:JO lo g gc gq gt c W)(hb:El W W'):JO lo g gc gq gt c W':=by obtain⟨d0,d1,d2,hd,k,r⟩:=h.Ek;obtain⟨v,came,k2,r2,r3⟩:=h.Z2;exact⟨h.lo2,h.ZJ,h.ok,h.lc,h.lq,h.lt,⟨d0,d1,d2,hd,k.G hb,r⟩,h.tab.G hb,⟨v,came,k2.G hb,r2,ER r3 fun _ _ hk=>hk.G hb⟩,fun i h1 h2=>(h.keys i h1 h2).Ek fun _ _ hk=>hk.G hb,h.roots.G hb,h.cmds.G hb⟩
theorem E_.G{g:Nat->V}(h:E_ lo hi g gc gq gt gs c ns rs W)(hb:El W W'):E_ lo hi g gc gq gt gs c ns rs W':=by obtain⟨sv,rv,sc,k,r1,r2⟩:=h.fi;exact⟨h.core.G hb,h.hc,h.hq,h.ht,h.cH,h.his,sv,rv,sc,k.G hb,ER r1 fun _ _ hk=>hk.G hb,ER r2 fun _ _ hk=>hk.G hb⟩
def Bc:List EC:=[120,152,171,163,5]
theorem JO.via{g:Nat->V}(h:JO lo g gc gq gt c W)(hb: ∀k cs S,Bc.contains S=u->H W k cs S->H W' k cs S)(hl:Io lo W W'):JO lo g gc gq gt c W':=by
 obtain⟨d0,d1,d2,hd,k,r⟩:=h.Ek;obtain⟨v,came,k2,r2,r3⟩:=h.Z2;refine⟨h.lo2,h.ZJ,h.ok,h.lc,h.lq,h.lt,⟨d0,d1,d2,hd,hb _ _ _ Eb k,r⟩,hb _ _ _ Eb h.tab,⟨v,came,hb _ _ _ Eb k2,r2,ER r3 fun _ _ hk=>hb _ _ _ Eb hk⟩,fun i h1 h2=>(h.keys i h1 h2).Ek fun _ _ hk=>hb _ _ _ Eb hk,fun i hi=> ?_,fun i hi=> ?_⟩;·exact Eoo
 ·exact Eor
theorem E5(h:H W g cs S)(k:H W g2 cs2 S2)(hne:S≠S2):g≠g2:=fun e=>by subst e;have e2:=(show D (EJ cs S (0,0))=D (EJ cs2 S2 (0,0)) from h.symm.trans k);injection e2 with e2;injection e2 with e3 e4;exact hne e4
theorem JO.set{g:Nat->V}{c':EB}(h:JO lo g gc gq gt c W)(ho:EH gc W W')(hT:c'.T=c.T)(hq:c'.q=c.q)(hok:c'.ok) (hb: ∃(d0 d1 d2:Dr) (hd:List Int),Ji W' gc (aw (EK 56 g).toList c' gq gt d0 d1 d2 hd) 120/\d0.ok/\d1.ok/\d2.ok/\hd.length=32/\ ∀x∈hd,0<=x/\x<=255):JO lo g gc gq gt c' W':=by
 obtain⟨e0,e1,e2,ehd,k,r⟩:=h.Ek;obtain⟨v,came,k2,r2,r3⟩:=h.Z2;have hl:=ho.bel lo h.lc (EA h.lc (ax k.lt));refine⟨h.lo2,h.ZJ,hok,h.lc,h.lq,h.lt,hb,?_,⟨v,came,ho.Ek k2 (E5 k2 k Eb),r2,?_⟩,fun i h1 h2=>(h.keys i h1 h2).Ek fun _ _ hk=>ho.Ek hk (E5 hk k Eb),fun i hi=> ?_,fun i hi=> ?_⟩;·rw[hT];exact ho.Ek h.tab (E5 h.tab k Eb)
 ·rw[hq];exact ER r3 fun _ _ hk=>ho.Ek hk (E5 hk k Eb)
 ·exact Eoo
 ·exact Eor
theorem Zj{P:Js}{a:E6}{o:EN}{K:E6->Prop}{T TB:EC}{off n:Nat}{Gs:List (List V)}{old:List V}(hT:IW P T n)(x:UH)(ho:o.op= .load T x)(hx:a.eval x=Y (D ⟨g,off,Z⟩))(hg:Ea (Ji W g Gs TB))(k:Nat)(hk:Gs[k]?=D old)(hf:aT Gs k=off)(hn:old.length=n) (h:K (a.put o.dst (EZ old.toArray))):o.quiet P a (fun w'=> ∃x,w'=Ey W x) K:=by obtain⟨⟨d,hu,hd⟩,hi⟩:=hT;refine⟨_,fun w hw=> ?_,h⟩;obtain⟨y,rfl⟩:=hw;have hb:(Ey W y).heap[g]?=D (EJ Gs.flatten.toArray TB (0,0)):=hg.out.G (ED y);have hrun:=run_loadVar_mid (Ey W y) g off T _ d (World.rangeAt_of_block hb off n) hu oS (by rw[hi,Array.length_toList,Ji.extract k hk hf n hn];simp[hn]);rw[Array.toArray_toList,Ji.extract k hk hf n hn] at hrun;unfold Oper.quietAt Iw;simp only[ho,hx,fN,dU,Ud,UU,Uf,hrun];first|exact⟨rfl,rfl⟩|exact⟨rfl,y,rfl⟩
theorem JD(g:Nat->V):(EK 56 g).toList.length=56:=Eh
theorem Kj{g:Nat->V}{d0 d1 d2:Dr}(K:Ji W gc (aw (EK 56 g).toList c gq gt d0 d1 d2 hd) 120)(h0:d0.ok)(h1:d1.ok)(h2:d2.ok)(k:Nat)(hk:k<13){old:List V}(ho:(aw (EK 56 g).toList c gq gt d0 d1 d2 hd)[k]?=D old)(j:Nat)(hj:j<old.length):W.cell? ⟨gc,lX k+j,Z⟩=old[j]?:=
 K.cell k ho (Ox (JD g) h0 h1 h2 k hk) j hj
theorem vu{b0:Nat}{T:EC}(h:jh b0 T N ys w w')(hk:H w g ys.toArray S)(hN:N=0\/ys.length<=N):H w' g ys.toArray S:=by
 obtain⟨cs',e,s,-,hj⟩:=h.2.2 g ys.toArray S hk
 have:cs'=ys.toArray:=by
  apply Array.ext_getElem?;intro j;rcases hj j with h1|⟨h1,h2,h3⟩;·exact h1
  ·rcases hN with rfl|hN;·rw[h3];simp
   ·rw[h3];have hl:cs'.size=ys.length:=by simpa using s
    rw[Og];by_cases hlt:j<ys.length;·omega
    ·have e1:cs'[j]?=Z:=g_ X;rw[<-h3,e1,aM X]
 rw[this] at e;exact e
theorem EbP:(Tryz.prog.info? 58).map (fun i=>(i.zero,i.size,i.bytes))=D (D (EZ #[E I 0,E I 0,E I 0,E I 0,E I 0,E I 0]),6,48):=Ed
theorem Ti:IW EU 58 6:=⟨⟨_,Tryz.underlying58,U⟩,Ed⟩
theorem vw:IW EU 124 3:=⟨⟨_,Tryz.underlying124,U⟩,Ed⟩
def Bd(hi:Nat)(T:EC)(size n:Nat)(xs:List V)(v:V)(w:M):Prop:= ∃(A:Option Eu) (c:Nat),v=EI A n c/\w.ownsRow hi T size v n xs
theorem Xy{T:EC}{size n:Nat}{v:V}{xs:List V}(h:w.ownsRow base T size v n xs): ∃(A:Option Eu) (c:Nat),v=EI A n c/\(A=Z->n=0):=by
 rcases h.2 with⟨e,hn⟩|⟨g,cap,cur,hv,-⟩;·exact⟨Z,0,by rw[e,hn],fun _=>hn⟩
 ·exact⟨_,cap,hv,fun h=>XZ⟩
theorem dA(h:H W g cs S)(k:H W g2 cs2 S2)(hne:S≠S2):g≠g2:=fun e=>by subst e;have e2:=(show D (EJ cs S (0,0))=D (EJ cs2 S2 (0,0)) from h.symm.trans k);injection e2 with e2;injection e2 with e3 e4;exact hne e4
theorem EbQ{c:V}(K:H w gs #[a,b,c] S)(v:V):H (w.setCell ⟨gs,2,Z⟩ v) gs #[a,b,v] S:=by have:=K.set 2 v;exact En4
theorem EbR{c:V}(K:H w gs #[a,b,c] S)(v:V):H (w.setCell ⟨gs,1,Z⟩ v) gs #[a,v,c] S:=by have:=K.set 1 v;exact En4
theorem Tj(h:lo<=g)(v:V):Io lo w (w.setCell ⟨g,i,Z⟩ v):=(IE lo w).setCell (p:=⟨g,i,Z⟩) h v
theorem Ex.setCell(K:H w g cs S)(hS:ki.contains S=u)(hl:lo<=g)(i:Nat)(v:V):Ex lo hi w (w.setCell ⟨g,i,Z⟩ v):=
 Ex.vt (J6 i v) K (K.set i v) hS hl
theorem Tk: ∃i,Tryz.prog.info? 58=D i/\i.zero=D (EZ #[E I 0,E I 0,E I 0,E I 0,E I 0,E I 0])/\i.size=6/\i.bytes=48:=by obtain⟨i,h1,h2,h3,h4⟩:=bQ EbP;exact⟨i,h1,h2,h3,h4⟩
theorem ZC(lo hi:Nat)(g:Nat->V)(gc gq gt gs:Nat)(c:EB)(ns:Nat)(rs:List Rec)(k s q cd hw:Int)(w:M)(S:E_ lo hi g gc gq gt gs c ns rs w)(hl:rs.length<1000000): Ef EU 102 #[Y (D ⟨gs,0,Z⟩),E I k,E I s,E I q,E I cd,E I hw] w fun e w'=>e=Eg (Et #[])/\E_ lo hi g gc gq gt gs c ns (rs++[⟨k,s,q,c.tok.e,cd,hw⟩]) w'/\Ex lo hi w w':=by
 obtain⟨sv,rv,sc,KS,OS,OR⟩:=S.fi;obtain⟨A0,c0,rfl,hnil⟩:=Xy OR;obtain⟨d0,d1,d2,hd,KG,o0,o1,o2,J2,Oy⟩:=S.core.Ek;have c0':w.cell? ⟨gs,0,Z⟩=D (Y (D ⟨gc,0,Z⟩)):=(H.cell KS 0).trans U;have c1':w.cell? ⟨gc,57,Z⟩=D (E I c.tok.e):=Kj KG o0 o1 o2 1 X U 1 XV;have HL:=O hl;have HH:=O (show hi<=w.heap.size by have:=S.his;have:=KS.lt;omega);have vx:=O<|show lo<=gs from EA S.cH S.his;have IR:=O Tk;have Tl:=O S;have CB:=O S.core;have KS:=O KS;have OS:=O OS;have OR:=O OR;have Ekk:=O hnil;clear S hl hnil KG o0 o1 o2 J2 Oy;generalize c.tok.e=ep at*;go_enter Tryz.func102,Tryz.ntmps102;go_wp2_with fail;have jv:=O<|H.new w #[E I k,E I s,E I q,E I ep,E I cd,E I hw] 58;have b1:=Ep w (EJ #[E I k,E I s,E I q,E I ep,E I cd,E I hw] 58);replace KS:=O<|KS.out.G b1;replace OS:=O<|ER OS.out fun _ _ h=>H.G h b1;replace OR:=O<|ER OR.out fun _ _ h=>H.G h b1;replace CB:=O<|CB.out.G b1;have MM:Ea (Ex lo hi w (w.alloc (EJ #[E I k,E I s,E I q,E I ep,E I cd,E I hw] 58))):=O<|Ex.Ew b1;clear b1 c0' c1';generalize w.alloc (EJ #[E I k,E I s,E I q,E I ep,E I cd,E I hw] 58)=w1 at*;obtain⟨gr,hgr⟩:=En w.heap.size;rw[<-hgr] at jv⊢;replace hgr:=O hgr;have HN:Ea (rs.length*6=0\/(Rec.mk k s q ep cd hw).v.length<=rs.length*6):=O Bf;have HX:Ea (∀j,rs.length*6<=j->j<rs.length*6+(Rec.mk k s q ep cd hw).v.length->j<(Uh rs++(Rec.mk k s q ep cd hw).v).length->(Uh rs++(Rec.mk k s q ep cd hw).v)[j]?=((Rec.mk k s q ep cd hw).v)[j-rs.length*6]?):=O (fun j h1 h2 h3=>by rw[ak (by rw[ui];exact h1),ui]);refine FY (Ph:=fun p wq=>match p with|0=>(H wq gs #[Y (D ⟨gc,0,Z⟩),sv,EI A0 rs.length c0] 124/\H wq gr (Rec.mk k s q ep cd hw).v.toArray 58/\cK wq hi 58 6 (EI A0 rs.length c0) rs.length (Uh rs)/\(JO lo g gc gq gt c wq/\cK wq hi 264 2 sv ns sc.l/\Ex lo hi w wq))|_=>(∃(A:Option Eu) (cp:Nat),H wq gs #[Y (D ⟨gc,0,Z⟩),sv,EI A (rs.length+1) cp] 124/\H wq gr (Rec.mk k s q ep cd hw).v.toArray 58/\cK wq hi 58 6 (EI A (rs.length+1) cp) (rs.length+1) (Uh rs++(Rec.mk k s q ep cd hw).v)/\(JO lo g gc gq gt c wq/\cK wq hi 264 2 sv ns sc.l/\Ex lo hi w wq))) (Rel:=(jh hi 58 (rs.length*6) (Rec.mk k s q ep cd hw).v)) (Ij:=(fun w w'=> ∀g2 c2,H w g2 c2 58->H w' g2 c2 58)) [kp gs 0,kp gs 0,kp gs 0,kp gs 2,kq (EI A0 rs.length c0),kq (EZ (Rec.mk k s q ep cd hw).v.toArray),.dep (fun v w=> ∃b:Nat,v=EI (D ⟨b,0,Z⟩) 1 1/\H w b (Rec.mk k s q ep cd hw).v.toArray 58) (fun v w w' h hr=>by obtain⟨b,e,hk⟩:=h;exact⟨b,e,vu hr hk HN.out⟩) (fun v w w' h hr=>Tm),.dep (Bd hi 58 6 (rs.length+1) (Uh rs++(Rec.mk k s q ep cd hw).v)) (fun v w w' h hr=>by obtain⟨A,c,e,ho⟩:=h;exact⟨A,c,e,mT hr ho HX.out⟩) (fun v w w' h hr=>Tn),kp gs 0,kp gs 2,.val (fun _=>True)] [10] [(0,0),(0,0),(0,0),(0,0),(0,0),(0,0),(0,0),(0,0),(0,0),(0,0),(0,0)] Ed Ed Ed Ed U_ Ed ?hPh ?h0 ?hstep ?hend
 case hPh=>
  intro p w2 w3 h hr;have keep: ∀g2 c2 S2,S2≠58->H w2 g2 c2 S2->H w3 g2 c2 S2:=fun g2 c2 S2 hS k2=>X_ hr k2 hS;have rest:(JO lo g gc gq gt c w2/\cK w2 hi 264 2 sv ns sc.l/\Ex lo hi w w2)->(JO lo g gc gq gt c w3/\cK w3 hi 264 2 sv ns sc.l/\Ex lo hi w w3):=fun⟨a1,a2,a3⟩=>⟨a1.via (fun k2 c2 S hS h2=>keep _ _ _ ZU h2) ((hr.2.1 (EA HH.out a3.size)).mono (EA (by exact Tl.out.cH) (E7 _))),ER a2 (fun g2 c2 h2=>keep _ _ _ Eb h2),a3.trans (Ex.Th hr Eb (EA HH.out a3.size))⟩;match p,h with
  |0,h=>exact⟨keep _ _ _ Eb h.1,vu hr h.2.1 HN.out,mT hr h.2.2.1 (fun j h1 h2 h3=>by rw[ui] at h3;omega),rest h.2.2.2⟩
  |_+1,h=> obtain⟨A,cp,h1,h2,h3,h4⟩:=h;exact⟨A,cp,keep _ _ _ Eb h1,vu hr h2 HN.out,mT hr h3 HX.out,rest h4⟩
 case h0=> exact⟨KS.out.drew,jv.out.drew,OR.out,CB.out.G (Jk _),OS.out,MM.out.trans (Ex.Ew (Jk _))⟩
 case hstep=>
  refine⟨?_,?_,?_,?_,?_,?_,?_,?_,?_,?_,?_,trivial⟩;all_goals first|intro xv wq p hlo hhi hp hd|intro xv wq hp hd
  all_goals try obtain rfl:p=0:=X
  all_goals simp only[EL,In,Ip,Ig,Ih]
  ·exact IQ iJ (Ei U) Ez U
  ·exact IQ iJ (Ei U) Ez U
  ·have d1:xv 1=Y (D ⟨gs,0,Z⟩):=hd.at 1 rfl;exact IQ iJ (Ei U) Xw U
  ·have d2:xv 2=Y (D ⟨gs,0,Z⟩):=hd.at 2 rfl;exact IQ iJ (Ei U) Kk U
  ·have d3:xv 3=Y (D ⟨gs,2,Z⟩):=hd.at 3 rfl;have cc:wq.cell? ⟨gs,2,Z⟩=D (EI A0 rs.length c0):=(H.cell hp.1 2).trans U;exact IQ iJ (Ei U) (by simp[go_sem,d3,cc]) U
  ·exact mH iJ Ti (Ei U) ⟨U,U⟩ (hp.2.1) U U
  ·have d5:xv 5=EZ (Rec.mk k s q ep cd hw).v.toArray:=hd.at 5 rfl;exact Zq (Ei U) (by simp[go_sem,d5];rfl) (ut (Ep wq _)) ⟨wq.heap.size,U,H.new _ _ _⟩
  ·have d4:xv 4=EI A0 rs.length c0:=hd.at 4 rfl;obtain⟨b,e6,k6⟩: ∃b:Nat,xv 6=EI (D ⟨b,0,Z⟩) 1 1/\H wq b (Rec.mk k s q ep cd hw).v.toArray 58:=hd.at 6 rfl;obtain⟨A',c',w',hrun,hown,hgr,-,-⟩:=dc (P:=EU) wq hi hi 40 _ 58 IR.out.choose _ 6 48 Tryz.underlying40 IR.out.choose_spec.1 IR.out.choose_spec.2.1 IR.out.choose_spec.2.2.1 IR.out.choose_spec.2.2.2 rfl A0 c0 rs.length (Uh rs) hp.2.2.1 ⟨b,0,Z⟩ 1 1 (Rec.mk k s q ep cd hw).v U (fun j Y3 hu=>by rw[show(⟨b,0,Z⟩:Eu).add j=⟨b,j,Z⟩ from XB];rw[H.cell k6,Og];exact hu) (by simp[Rec.v,OC]) (fun _=>X) (by have:=HL.out;unfold maxLen;omega) JS (EA HH.out hp.2.2.2.2.2.size) (E7 _);exact Zq (Ei U) (Up U (show xv 4=_ from d4) (show xv 6=_ from e6) hrun) hgr ⟨A',c',U,hown⟩
  ·have d0:xv 0=Y (D ⟨gs,0,Z⟩):=hd.at 0 rfl;exact IQ iJ (Ei U) U4 U
  ·have d8:xv 8=Y (D ⟨gs,0,Z⟩):=hd.at 8 rfl;exact IQ iJ (Ei U) gd U
  ·have d9:xv 9=Y (D ⟨gs,2,Z⟩):=hd.at 9 rfl;obtain⟨A,cp,e7,ho⟩:Bd hi 58 6 (rs.length+1) (Uh rs++(Rec.mk k s q ep cd hw).v) (xv 7) wq:=hd.at 7 rfl;have cc:wq.cell? ⟨gs,2,Z⟩=D (EI A0 rs.length c0):=(H.cell hp.1 2).trans U;have ff:wq.frozen? ⟨gs,2,Z⟩=B:=H.JX hp.1 2;rw[e7] at ho;have kk:=EbQ hp.1 (EI A (rs.length+1) cp);refine FW (w':=wq.setCell ⟨gs,2,Z⟩ (EI A (rs.length+1) cp)) (Ei U) (by simp[go_sem,d9,e7,cc,ff]) ⟨fun g2 c2 h2=>h2.other gs 2 _ (dA h2 hp.1 Eb),?_⟩ trivial;exact⟨A,cp,kk,hp.2.1.other gs 2 _ (dA hp.2.1 hp.1 Eb),ER ho (fun g2 c2 h2=>h2.other gs 2 _ (dA h2 hp.1 Eb)),hp.2.2.2.1.via (fun k2 c2 S hS h2=>h2.other gs 2 _ (dA h2 hp.1 ZU)) (Tj vx.out _),ER hp.2.2.2.2.1 (fun g2 c2 h2=>h2.other gs 2 _ (dA h2 hp.1 Eb)),hp.2.2.2.2.2.trans (Ex.setCell hp.1 Eb vx.out 2 _)⟩
 case hend=>
  intro xv W6 hp hr;clear hr;simp only[EL,In,Ip,Ig,Ih];obtain⟨A,cp,h1,h2,h3,h4,h5,h6⟩:=hp;replace KS:=O h1;replace jv:=O h2;replace OR:=O h3;replace CB:=O h4;replace OS:=O h5;replace MM:=O h6;clear h1 h2 h3 h4 h5 h6 HN HX;obtain⟨d0,d1,d2,hd,KG,o0,o1,o2,J2,Oy⟩:=CB.out.Ek;have KG:=O KG;have HF:=O<|Ox (c:=c) (gq:=gq) (gt:=gt) (hd:=hd) (JD g) o0 o1 o2 12 X;have CN:Ea (∀W,JP W->Ef EU 68 #[EZ (hd.map (E .u8)).toArray,EZ (Rec.mk k s q ep cd hw).v.toArray] W fun e' w'=>e'=Eg (EZ (Ej (Xv (hd++gw k s q ep cd hw))))/\El W w'):=O<|fun W (r:JP W)=>Ear hd k s q ep cd hw J2 Oy W r;have RT:=O CB.out.roots;have cs: ∀y:Ext W6,(Ey W6 y).cell? ⟨gs,0,Z⟩=D (Y (D ⟨gc,0,Z⟩)):=fun y=>(H.cell (KS.out.G (ED y)) 0).trans U;obtain⟨nh,Kl⟩:=En (Xv (hd++gw k s q ep cd hw));rw[<-Kl] at CN;have pR:=O (show nh.length=32/\ ∀x∈nh,0<=x/\x<=255 by rw[Kl];exact⟨kH _,sU _⟩);have pS:=O (show(hd.map (E .u8)).length=32 by simp[J2]);clear Kl J2 Oy;go_wp2_with fail;refine J5 15 Ed Ed ?_;simp only[Ir,Im,IL,IG]
  repeat (first
   |go_big_quiet_skip
   |(go_big_quiet_want
     first
      |(refine Ub (T:=58) (g:=gr) Ti _ rfl rfl jv ?_ ?_;(·rfl);go_simp;go_big_quiet_on)
      |(refine Zj (T:=41) (g:=gc) (off:=114) J7 _ rfl rfl KG 12 rfl HF.out pS.out ?_;go_simp;go_big_quiet_on)
      |(go_big_quiet_op
        first
         |go_big_quiet_on
         |go_big_quiet_call (with_reducible refine ag (CN.out _ (RT.out.G (ED _)))))))
  refine IM ?_;intro _ hw';obtain⟨y9,rfl⟩:=hw';have Em:=ED y9;replace KS:=O<|KS.out.G Em;replace OR:=O<|ER OR.out fun _ _ h=>H.G h Em;replace OS:=O<|ER OS.out fun _ _ h=>H.G h Em;replace CB:=O<|CB.out.G Em;replace KG:=O<|KG.out.G Em;replace MM:=O<|MM.out.trans (Ex.Ew Em);clear cs Em jv;generalize Ey W6 y9=W7 at*;have KF:=O<|KG.out.set 12 rfl HF.out (nh.map (E .u8)) (by rw[pS.out];simp[pR.out.1]);have TH:=O<|KG.out.there 12 rfl HF.out 32 (OQ pS.out.symm);have ON:=O<|Jq (g:=gc) (nh.map (E .u8)) 114 W7;go_wp2_with ((with_reducible refine JE 41 ?_);(with_reducible refine OH U 41 _ _ U gc 114 (Ej nh) ?_ ?_ ?_ ?_ ?_ ?_);(·rfl);(·rfl);(·rw[Om,pR.out.1];exact TH.out);(·rw[Om,pR.out.1];exact J7.2);(·exact Xt _));go_end0;have CB2:=CB.out.set ON.out U U CB.out.ok ⟨d0,d1,d2,nh,KF.out,o0,o1,o2,pR.out.1,pR.out.2⟩;have S2:=Tl.out;refine⟨U,⟨CB2,S2.hc,S2.hq,S2.ht,S2.cH,S2.his,sv,EI A (rs.length+1) cp,sc,ON.out.Ek KS.out (E5 KS.out KG.out Eb),ER OS.out fun _ _ h=>ON.out.Ek h (E5 h KG.out Eb),?_⟩,MM.out.trans (Ex.vt ON.out KG.out KF.out Eb CB.out.lc)⟩;have:=ER OR.out fun _ _ h=>ON.out.Ek h (E5 h KG.out Eb);rw[Px,I2,show Uh [Rec.mk k s q ep cd hw]=(Rec.mk k s q ep cd hw).v from by simp[Uh]];exact this
def pT(z:Int):Int:=if(Ix .and .u16 z 32768 !=0)=u then Ix .xor .u16 (IntKind.u16.wrap (z*2)) 4129 else IntKind.u16.wrap (z*2)
def sM:Nat->Int->Int
 |0,z=>z
 |k+1,z=>pT (sM k z)
def pV(s c:Int):Int:=sM 8 (Ix .xor .u16 s (c*256))
def XW(xs:List Int):Int:=xs.foldl pV 65535
theorem EbT(op:BinOp)(a b:Int):0<=Ix op .u16 a b/\Ix op .u16 a b<=65535:=by
 unfold Ix;have h: ∀x:Int,0<=IntKind.u16.wrap x/\IntKind.u16.wrap x<=65535:=fun x=>by exact En6
 exact h _
theorem EbV(x:Int):0<=IntKind.u16.wrap x/\IntKind.u16.wrap x<=65535:=by exact En6
theorem EbW(z:Int):0<=pT z/\pT z<=65535:=by
 unfold pT;split;·exact EbT _ _ _
 ·exact EbV _
theorem EbY(s c:Int):0<=pV s c/\pV s c<=65535:=EbW _
theorem To(xs:List Int)(x:Int):XW (xs++[x])=pV (XW xs) x:=by unfold XW;rw[List.foldl_append];rfl
theorem Tp(xs:List Int):0<=XW xs/\XW xs<=65535:=by refine QO (P:=fun xs=>0<=XW xs/\XW xs<=65535) Eb (fun l x _=> ?_) xs;rw[To];exact EbY _ _
theorem Eb0(s c:Int)(w:M)(h1:0<=s/\s<=65535)(h2:0<=c/\c<=255): Ef EU 200 #[.int .u16 s,E IP c] w fun e w'=>e=Eg (.int .u16 (pV s c))/\w=w':=by
 obtain⟨r,hr⟩:=En (pV s c);rw[<-hr];replace hr:=O hr;go_enter Tryz.func200,Tryz.ntmps200;go_wp2_with fail;go_loop [0,10] (fun x y=> ∃i:Nat,i<=8/\y=E I i/\x= .int .u16 (sM i (Ix .xor .u16 s (c*256)))) (fun _ y=>8-(Iv y).toNat);case atStart=>exact⟨0,X,U,U⟩
 case round=>
  obtain⟨i,hi,rfl,rfl⟩:=hrel;by_cases hlt:i<8
  ·have t1:decide ((i:Int)<8)=u:=Ib X;obtain⟨z,hz⟩: ∃z,z=sM i (Ix .xor .u16 s (c*256)):=⟨_,U⟩;rw[<-hz];have HZ:Ea (sM (i+1) (Ix .xor .u16 s (c*256))=pT z):=O (by rw[hz];rfl);clear hz;cases hb:(Ix .and .u16 z 32768 !=0) with
   |true=> go_wp2_with fail;refine⟨⟨i+1,X,Eh,?_⟩,Jv⟩;rw[HZ.out];unfold pT;rw[if_pos hb]
   |false=> go_wp2_with fail;refine⟨⟨i+1,X,Eh,?_⟩,Jv⟩;rw[HZ.out];unfold pT;rw[if_neg (by rw[hb];decide)]
  ·have t1:decide ((i:Int)<8)=B:=IJ X;obtain rfl:i=8:=X;rw[show sM 8 (Ix .xor .u16 s (c*256))=r from hr.out.symm];exact Els
theorem Tq(a:Option Eu)(xs:List Int)(n c:Nat)(w:M)(hn:xs.length=n)(hr:Row w a xs)(hm:n<=9223372036854775807): Ef EU 157 #[EI a n c] w fun e w'=>e=Eg (.int .u16 (XW xs))/\w=w':=by
 obtain⟨hr,hb⟩:=hr;have HR:=O hr;have HB:=O hb;have HN:=O hn;clear hr hb hn;obtain⟨r,hr⟩:=En (XW xs);rw[<-hr];replace hr:=O hr;go_enter Tryz.func157,Tryz.ntmps157;go_wp2_with fail;go_loop [3,8] (fun x y=> ∃i:Nat,i<=n/\y=E I i/\x= .int .u16 (XW (xs.take i))) (fun _ y=>n-(Iv y).toNat);case atStart=>exact⟨0,X,U,U⟩
 case round=>
  obtain⟨i,hi,rfl,rfl⟩:=hrel;by_cases hlt:i<n
  ·have t1:decide ((i:Int)<(n:Int))=u:=Ib X;rcases HR.out with e|⟨b,off,rfl,hc⟩;·have:=HN.out;rw[e] at this;simp at this;omega
   ·have hil:i<xs.length:=mY;have hc:=hc i hil;have hx:=HB.out xs[i] (hH _);have HS:Ea (XW (xs.take (i+1))=pV (XW (xs.take i)) xs[i]):=O (by rw[<-To,List.take_append_getElem hil]);have hin:=Tp (xs.take i);generalize XW (xs.take i)=z at*;go_wp2_with fail;refine(Eb0 z xs[i] _ hin hx).mono ?_;rintro e w2 ⟨rfl,rfl⟩;go_wp2_with fail;exact⟨⟨i+1,X,Eh,by rw[HS.out]⟩,Jv⟩
  ·obtain rfl:i=n:=X;have t1:decide ((i:Int)<(i:Int))=B:=IJ X;rw[show xs.take i=xs from UZ Bg,show XW xs=r from hr.out.symm];exact Els
theorem Tr(x:Int)(k:Nat)(hx:x=k)(hk:k<=1000000000000)(W:M): (Instr.makeSlice 23 (E I 0) (E I x)).run EU W= .ok (EI (D ⟨W.heap.size,0,Z⟩) 0 k) (W.alloc (EJ (aS #[E .u8 0] k) 5)):=by subst hx;obtain⟨i0,hi,hz0,hz1,hz2⟩:=bQ mn;have h:=run_make (P:=EU) W 23 5 i0 _ bR hi hz0 .i64 .i64 0 k X X (by rw[hz2];omega) X;rw[h,hz1,mo,Nat.mul_one];rfl
theorem Ts(w:M)(base k:Nat)(hb:base<=w.heap.size)(hk:k<=1000000000000):Own (w.alloc (EJ (aS #[E .u8 0] k) 5)) base (D ⟨w.heap.size,0,Z⟩) k []:=by refine⟨⟨U,.inr ⟨w.heap.size,k,aS #[E .u8 0] k,U,hb,?_,bY _,OD,by simp[aS],Eh⟩⟩,fun x hx=>uO⟩;exact H.new w _ _
theorem Tt(w:M)(xs:List Int)(h: ∀x∈xs,0<=x/\x<=255)(cs:Array V)(hc:cs=(xs.map (E .u8)).toArray):Row (w.alloc (EJ cs 5)) (D ⟨w.heap.size,0,Z⟩) xs:=by subst hc;refine⟨.inr ⟨w.heap.size,0,U,fun i hi=> ?_⟩,h⟩;rw[H.cell (H.new w (xs.map (E .u8)).toArray 5),Og,JV];simp[hi]
theorem Eb1(h:Row w A xs)(g:Nat)(hg:A=D ⟨g,0,Z⟩)(k:Nat):Row w (D ⟨g,k,Z⟩) (xs.drop k):=by
 obtain⟨h1,h2⟩:=h;refine⟨?_,fun x hx=>h2 x (List.mem_of_mem_drop hx)⟩;rcases h1 with e|⟨b,off,e,hc⟩;·left;rw[e];simp
 ·right;rw[hg] at e;injection e with e;injection e with e1 e2 e3;subst e1 e2;refine⟨g,k,U,fun i hi=> ?_⟩;have hil:i<xs.length-k:=Ug;have hh:=hc (k+i) X;rw[show 0+(k+i)=k+i from X] at hh;rw[hh];simp
theorem Eb2(n:Nat)(h:n<=255):IntKind.u8.wrap (n:Int)=n:=rW
theorem Eb3(A:Option Eu)(xs:List Int)(n c:Nat)(w:M)(hn:xs.length=n)(hr:Row w A xs)(hm:n<=9223372036854775807): Ef EU 166 #[EI A n c] w fun e w'=>(∃A' n' c' x,e=Eg (Et #[EI A' n' c',E I x]))/\El w w':=by
 have HR:=O hr;have HN:=O hn;clear hr hn;by_cases h:n<=32
 ·have t1:decide ((32:Int)<(n:Int))=B:=IJ X;have hmk: ∀W:M,(Instr.makeSlice 23 (E I 0) (E I (3+(n:Int)+2))).run EU W= .ok (EI (D ⟨W.heap.size,0,Z⟩) 0 (n+5)) (W.alloc (EJ (aS #[E .u8 0] (n+5)) 5)):=Tr _ _ X X;have cv:IntKind.u8.wrap (n:Int)=n:=Eb2 n X;have O1:=O<|Ts w w.heap.size (n+5) (E7 _) X;have B1:=O<|Ep w (EJ (aS #[E .u8 0] (n+5)) 5);go_enter Tryz.func166,Tryz.ntmps166;go_wp2_with (with_reducible refine I7 18 ?_);apply Eo;generalize w.alloc (EJ (aS #[E .u8 0] (n+5)) 5)=w1 at*;have R2:=O<|Tt w1 [165,1,(n:Int)] (by intro x hx;simp at hx;omega) _ U;have BL:=O<|Ep w1 (EJ ([165,1,(n:Int)].map (E .u8)).toArray 5);replace O1:=O<|ZW O1.out BL.out;replace B1:=EW B1 BL.out;simp only[UL,Xu] at O1 R2 B1;clear BL;go_wp2_with ((with_reducible refine Is 19 ?_);(with_reducible refine mR _ (Ei U) (.tmp 14) (.tmp 18) U w.heap.size (D ⟨w.heap.size,0,Z⟩) (n+5) 0 [] U ?_ O1.out (D ⟨w1.heap.size,0,Z⟩) 3 3 [165,1,(n:Int)] U ?_ R2.out X B1.out.size ?_);(·rfl);(·rfl);intro A2 c2 w3 o3 b3 k3;refine Ev.mk ?_);apply Eo;replace O1:Ea (Own w3 w.heap.size A2 c2 [165,1,(n:Int)]):=O o3;replace B1:=O<|B1.out.trans b3;clear b3 k3 o3 R2;go_wp2_with ((with_reducible refine Is 22 ?_);(with_reducible refine mR _ (Ei U) (.tmp 20) (.tmp 21) U w.heap.size A2 c2 3 [165,1,(n:Int)] U ?_ O1.out A c n xs HN.out ?_ (HR.out.G B1.out) X B1.out.size ?_);(·rfl);(·rfl);intro A3 c3 w4 o4 b4 k4;refine Ev.mk ?_);apply Eo;replace O1:=O o4;replace B1:=O<|B1.out.trans b4;clear b4 k4 o4;have HL:Ea (([165,1,(n:Int)]++xs).length=n+3):=O sN;rw[show 3+n=n+3 from X];generalize [165,1,(n:Int)]++xs=ys at*;obtain⟨g3,Ekl,rfl,lg3,kg3,cu3,Tu⟩:=Tg O1.out Gh;have hc3:n+3<=c3:=by rw[<-HL.out];exact Tu
  have HRW:=O<|Eb1 O1.out.row g3 U 1;have pS:Ea ((ys.drop 1).length=n+2):=O (by rw[mV,HL.out];omega);generalize ys.drop 1=zs at*;clear kg3 cu3 Tu;go_wp2_with fail;refine(Tq (D ⟨g3,1,Z⟩) zs (n+2) _ _ pS.out HRW.out X).mono ?_;rintro e w5 ⟨rfl,rfl⟩;have hci:=Tp zs;generalize XW zs=s at*;go_wp2_with (with_reducible refine I7 32 ?_);apply Eo;have R5:=O<|Tt w4 [s/256,s%256] (by intro x hx;simp at hx;omega) _ U;have BL:=O<|Ep w4 (EJ ([s/256,s%256].map (E .u8)).toArray 5);replace O1:=O<|ZW O1.out BL.out;replace B1:=EW B1 BL.out;simp only[UL,Xu] at O1 R5 B1;clear BL;go_wp2_with ((with_reducible refine Is 33 ?_);(with_reducible refine mR _ (Ei U) (.tmp 26) (.tmp 32) U w.heap.size (D ⟨g3,0,Z⟩) c3 (n+3) ys HL.out ?_ O1.out (D ⟨w4.heap.size,0,Z⟩) 2 2 [s/256,s%256] U ?_ R5.out X B1.out.size ?_);(·rfl);(·rfl);intro A6 c6 w6 o6 b6 k6;refine Ev.mk ?_);apply Eo;replace B1:=O<|B1.out.trans b6;clear b6 k6 o6;go_wp2_with fail;go_ret2;exact⟨⟨_,_,_,_,U⟩,B1.out⟩
 ·have t1:decide ((32:Int)<(n:Int))=u:=Ib X;go_enter Tryz.func166,Tryz.ntmps166;go_wp2_with fail;go_ret2;exact⟨⟨_,_,_,_,U⟩,IE _ _⟩
def J8(c:EB):List V:=[E I c.mode,E I c.pt.c,E I c.pt.n0,E I c.pt.n1,E I c.pt.n2,E I c.pt.n3,E I c.Em.r,E I c.Em.s,E I c.Em.q,E I c.pt.b.r,E I c.pt.b.s,E I c.pt.b.q]
def Jb(act:List V)(sv rv:V)(hd:List Int):List V:=act++([sv,rv]++hd.map (E .u8))
theorem ZD:IW EU 43 46:=⟨⟨_,Tryz.underlying43,U⟩,Ed⟩
theorem Eb6(c:EB)(A Y4:Option Eu)(n m d f:Nat)(h0 h1 h2 h3 h4 h5 h6 h7 h8 h9 h10 h11 h12 iu lI Bh h16 nC h18 h19 h20 h21 h22 h23 Bi Bj Bk h27 Bl Bm Bn h31:Int):Tryz.prog.built 43 [(0,EZ #[E I c.mode,E I c.pt.c,E I c.pt.n0,E I c.pt.n1,E I c.pt.n2,E I c.pt.n3,E I c.Em.r,E I c.Em.s,E I c.Em.q,E I c.pt.b.r,E I c.pt.b.s,E I c.pt.b.q]),(1,EI A n d),(2,EI Y4 m f),(3,EZ ([h0,h1,h2,h3,h4,h5,h6,h7,h8,h9,h10,h11,h12,iu,lI,Bh,h16,nC,h18,h19,h20,h21,h22,h23,Bi,Bj,Bk,h27,Bl,Bm,Bn,h31].map (E .u8)).toArray)]=D (Jb (J8 c) (EI A n d) (EI Y4 m f) [h0,h1,h2,h3,h4,h5,h6,h7,h8,h9,h10,h11,h12,iu,lI,Bh,h16,nC,h18,h19,h20,h21,h22,h23,Bi,Bj,Bk,h27,Bl,Bm,Bn,h31]).toArray:=Ed
theorem Eb7(c:EB)(A Y4:Option Eu)(n m d f:Nat)(hd:List Int)(h:hd.length=32):Tryz.prog.built 43 [(0,EZ #[E I c.mode,E I c.pt.c,E I c.pt.n0,E I c.pt.n1,E I c.pt.n2,E I c.pt.n3,E I c.Em.r,E I c.Em.s,E I c.Em.q,E I c.pt.b.r,E I c.pt.b.s,E I c.pt.b.q]),(1,EI A n d),(2,EI Y4 m f),(3,EZ (hd.map (E .u8)).toArray)]=D (Jb (J8 c) (EI A n d) (EI Y4 m f) hd).toArray:=by
 match hd,h with
 |[h0,h1,h2,h3,h4,h5,h6,h7,h8,h9,h10,h11,h12,iu,lI,Bh,h16,nC,h18,h19,h20,h21,h22,h23,Bi,Bj,Bk,h27,Bl,Bm,Bn,h31],_=>exact Eb6 c A Y4 n m d f h0 h1 h2 h3 h4 h5 h6 h7 h8 h9 h10 h11 h12 iu lI Bh h16 nC h18 h19 h20 h21 h22 h23 Bi Bj Bk h27 Bl Bm Bn h31
theorem vy(lo hi:Nat)(g:Nat->V)(gc gq gt gs:Nat)(c:EB)(ns:Nat)(rs:List Rec)(w:M)(S:E_ lo hi g gc gq gt gs c ns rs w): Ef EU 46 #[Y (D ⟨gs,0,Z⟩)] w fun e w'=> ∃(sv rv:V) (sc:sK) (hd:List Int),e=Eg (EZ (Jb (J8 c) sv rv hd).toArray)/\hd.length=32/\(∀x∈hd,0<=x/\x<=255)/\w'.ownsRow hi 264 2 sv ns sc.l/\w'.ownsRow hi 58 6 rv rs.length (Uh rs)/\El w w':=by
 obtain⟨sv,rv,sc,KS,OS,OR⟩:=S.fi;obtain⟨d0,d1,d2,hd,KG,o0,o1,o2,J2,Oy⟩:=S.core.Ek;have HF:=O<|Ox (c:=c) (gq:=gq) (gt:=gt) (hd:=hd) (JD g) o0 o1 o2 12 X;have pS:=O (show(hd.map (E .u8)).length=32 by simp[J2]);obtain⟨A1,e1,rfl,-⟩:=Xy OS;obtain⟨A2,e2,rfl,-⟩:=Xy OR;have BT:=O<|Eb7 c A1 A2 ns rs.length e1 e2 hd J2;have SZ:=O (show(Jb (J8 c) (EI A1 ns e1) (EI A2 rs.length e2) hd).toArray.size=46 by simp[Jb,J8,J2]);have ONE:=O<|show(Jb (J8 c) (EI A1 ns e1) (EI A2 rs.length e2) hd).toArray.all (·.oneCell')=u from all_oneCell_toArray (by intro v hv;simp only[Jb,J8,XP,Ui,UP,or_false,da] at hv;rcases hv with hv|(rfl|rfl)|⟨x,-,rfl⟩<;>first|rfl|(rcases hv with rfl|rfl|rfl|rfl|rfl|rfl|rfl|rfl|rfl|rfl|rfl|rfl<;>rfl));have KS:=O KS;have KG:=O KG;have CC:=O<|fun(W:M) (K:Ji W gc (aw (EK 56 g).toList c gq gt d0 d1 d2 hd) 120) (k:Nat) (hk:k<13) (old:List V) (ho:(aw (EK 56 g).toList c gq gt d0 d1 d2 hd)[k]?=D old) (j:Nat) (hj:j<old.length)=>Kj K o0 o1 o2 k hk ho j hj;have HB:=O (show hd.length=32/\ ∀x∈hd,0<=x/\x<=255 from⟨J2,Oy⟩);have OS:=O OS;have OR:=O OR;clear S o0 o1 o2 J2 Oy;go_enter Tryz.func46,Tryz.ntmps46;go_wp2_with fail;generalize hW:UN _ _=w1 at*;have K2:Ea (∃z:Array V,z.size=46/\H w1 w.heap.size z 43):=O ⟨_,U,hW▸H.new _ _ _⟩;have b1:El w w1:=hW▸Ep w _;replace KS:=O<|KS.out.G b1;replace KG:=O<|KG.out.G b1;replace OS:=O<|ER OS.out fun _ _ h=>H.G h b1;replace OR:=O<|ER OR.out fun _ _ h=>H.G h b1;have BB:=O b1;clear hW b1;have cs0: ∀y:Ext w1,(Ey w1 y).cell? ⟨gs,0,Z⟩=D (Y (D ⟨gc,0,Z⟩)):=fun y=>(H.cell (KS.out.G (ED y)) 0).trans U;have cs1: ∀y:Ext w1,(Ey w1 y).cell? ⟨gs,1,Z⟩=D (EI A1 ns e1):=fun y=>(H.cell (KS.out.G (ED y)) 1).trans U;have cs2: ∀y:Ext w1,(Ey w1 y).cell? ⟨gs,2,Z⟩=D (EI A2 rs.length e2):=fun y=>(H.cell (KS.out.G (ED y)) 2).trans U;have Eb8: ∀y:Ext w1,(Ey w1 y).cell? ⟨gc,98,Z⟩=D (E I c.mode):=fun y=>CC.out _ (KG.out.G (ED y)) 9 X _ U 0 gC;have Eb9: ∀y:Ext w1,(Ey w1 y).cell? ⟨gc,99,Z⟩=D (E I c.Em.r):=fun y=>CC.out _ (KG.out.G (ED y)) 10 X _ U 0 gC;have Eb_: ∀y:Ext w1,(Ey w1 y).cell? ⟨gc,100,Z⟩=D (E I c.Em.s):=fun y=>CC.out _ (KG.out.G (ED y)) 10 X _ U 1 gC;have EcE: ∀y:Ext w1,(Ey w1 y).cell? ⟨gc,101,Z⟩=D (E I c.Em.q):=fun y=>CC.out _ (KG.out.G (ED y)) 10 X _ U 2 gC;have EcI: ∀y:Ext w1,(Ey w1 y).cell? ⟨gc,102,Z⟩=D (E I c.pt.c):=fun y=>CC.out _ (KG.out.G (ED y)) 11 X _ U 0 gC;have EcJ: ∀y:Ext w1,(Ey w1 y).cell? ⟨gc,107,Z⟩=D (E I c.pt.n0):=fun y=>CC.out _ (KG.out.G (ED y)) 11 X _ U 5 gC;have EcO: ∀y:Ext w1,(Ey w1 y).cell? ⟨gc,108,Z⟩=D (E I c.pt.n1):=fun y=>CC.out _ (KG.out.G (ED y)) 11 X _ U 6 gC;have EcU: ∀y:Ext w1,(Ey w1 y).cell? ⟨gc,109,Z⟩=D (E I c.pt.n2):=fun y=>CC.out _ (KG.out.G (ED y)) 11 X _ U 7 gC;have EcX: ∀y:Ext w1,(Ey w1 y).cell? ⟨gc,110,Z⟩=D (E I c.pt.n3):=fun y=>CC.out _ (KG.out.G (ED y)) 11 X _ U 8 gC;have EcZ: ∀y:Ext w1,(Ey w1 y).cell? ⟨gc,111,Z⟩=D (E I c.pt.b.r):=fun y=>CC.out _ (KG.out.G (ED y)) 11 X _ U 9 gC;have Eca: ∀y:Ext w1,(Ey w1 y).cell? ⟨gc,112,Z⟩=D (E I c.pt.b.s):=fun y=>CC.out _ (KG.out.G (ED y)) 11 X _ U 10 gC;have Ecb: ∀y:Ext w1,(Ey w1 y).cell? ⟨gc,113,Z⟩=D (E I c.pt.b.q):=fun y=>CC.out _ (KG.out.G (ED y)) 11 X _ U 11 gC;refine J5 54 Ed Ed ?_;simp only[Ir,Im,IL,IG]
 repeat (first
  |go_big_quiet_skip
  |(go_big_quiet_want
    first
     |(refine Zj (T:=41) (g:=gc) (off:=114) J7 _ rfl rfl KG 12 rfl HF.out pS.out ?_;go_simp;go_big_quiet_on)
     |(go_big_quiet_op
       first
        |go_big_quiet_on
        |go_big_quiet_call (fail))))
 refine IM ?_;intro _ hw';obtain⟨y9,rfl⟩:=hw';have Em:=ED y9;replace OS:=O<|ER OS.out fun _ _ h=>H.G h Em;replace OR:=O<|ER OR.out fun _ _ h=>H.G h Em;replace BB:=EW BB Em;obtain⟨z,hz,kz⟩:=K2.out;have KZ:=O<|H.G kz Em;have HZ:=O hz;clear cs0 cs1 cs2 Em kz hz K2 KG KS Eb8 Eb9 Eb_ EcE EcI EcJ EcO EcU EcX EcZ Eca Ecb;generalize Ey w1 y9=w2 at*;obtain⟨tv,Ia⟩: ∃tv,tv=(Jb (J8 c) (EI A1 ns e1) (EI A2 rs.length e2) hd).toArray:=⟨_,U⟩;rw[<-Ia] at BT SZ ONE;replace Ia:=O Ia;go_wp2_with (first|((with_reducible refine Is 57 ?_);refine I3 rfl 43 _ rfl tv BT.out ?_)|(with_reducible refine wS (cs:=tv) ZD KZ ?_ (ho:=HZ.out) (hn:=SZ.out) (h1:=ONE.out)));refine ET (Jl ZD U _ _ w.heap.size tv U (KZ.out.setRow tv) SZ.out) U ?_;refine⟨EI A1 ns e1,EI A2 rs.length e2,sc,hd,by rw[Ia.out],HB.out.1,HB.out.2,?_,?_,E3 (g:=w.heap.size) BB.out (E7 _) tv⟩;·exact ER OS.out fun _ _ h=>H.setRow_other h _ _ (E5 h KZ.out Eb)
 ·exact ER OR.out fun _ _ h=>H.setRow_other h _ _ (E5 h KZ.out Eb)
theorem Ecc(l:List Int)(w:M)(hl:dz l):Ef EU 165 #[EZ (I9 l)] w fun e w'=> ∃(A:Option Eu) (n c:Nat) (x:Int) (xs:List Int),e=Eg (Et #[EI A n c,E I x])/\xs.length=n/\Row w' A xs/\n<=9223372036854775807/\El w w':=by
 refine(Ebh l w hl).mono fun e w' ⟨h,hb⟩=> ?_;cases hp:nB l with
 |none=> rw[hp] at h;exact⟨Z,0,0,1,[],h,U,⟨.inl U,Eh⟩,X,hb⟩
 |some bs=>
  rw[hp] at h;obtain⟨A,c,base,he,ho⟩:=h;refine⟨A,bs.length,c,0,bs,he,U,ho.row,?_,hb⟩;rcases ho.1.2 with⟨hv,hn⟩|⟨g,cap',cur,hv,hg,hh,hl,hm,hs,ht⟩;·omega
  ·unfold maxLen at hm;omega
theorem Tv: ∃i,Tryz.prog.info? 264=D i/\i.zero=D (EZ #[E I 0,EI Z 0 0])/\i.size=2/\i.bytes=32:=by have h:(Tryz.prog.info? 264).map (fun i=>(i.zero,i.size,i.bytes))=D (D (EZ #[E I 0,EI Z 0 0]),2,32):=Ed;exact EmQ
theorem vz(lo hi:Nat)(g:Nat->V)(gc gq gt gs:Nat)(c:EB)(ns:Nat)(rs:List Rec)(l:List Int)(k:Int)(w:M)(S:E_ lo hi g gc gq gt gs c ns rs w)(hl:dz l)(hn:ns<1000000): Ef EU 122 #[Y (D ⟨gs,0,Z⟩),E I k,EZ (I9 l)] w fun e w'=>e=Eg (Et #[])/\E_ lo hi g gc gq gt gs c (ns+1) rs w'/\Ex lo hi w w':=by have lZ:=O S;have HH:=O (show hi<=w.heap.size by obtain⟨_,_,_,KS,_⟩:=S.fi;have:=S.his;have:=KS.lt;omega);have vx:=O<|show lo<=gs from EA S.cH S.his;have IR:=O Tv;have CP:=O<|fun W=>Ecc l W hl;have hsz:Ea ((I9 l).size=14):=O<|pG l;have hone:=O<|Hs l;clear hl S;obtain⟨mv,hmv⟩:=En (I9 l);rw[<-hmv] at hsz hone CP⊢;clear hmv;go_enter Tryz.func122,Tryz.ntmps122;go_wp2_with (((with_reducible refine U0 222 ?_);(with_reducible refine Zo (g:=w.heap.size) AR ?_ ?_ (O (H.new w mv 222)) ?_ ?_);(·exact Ei U);(·exact⟨U,U⟩);(·exact hsz.out)));have b1:=Ep w (EJ mv 222);generalize w.alloc (EJ mv 222)=w1 at*;refine(CP.out _).mono ?_;rintro e w2 ⟨A,n,cp,x,xs,rfl,hxl,hrow,hnm,b2⟩;replace b2:=b1.trans (b2.mono b1.size);clear b1;go_wp2_with fail;refine(Eb3 A xs n cp _ hxl hrow hnm).mono ?_;rintro e w3 ⟨⟨A',n',c',x',rfl⟩,b3⟩;replace b3:=b2.trans (b3.mono b2.size);clear b2 hxl hrow hnm CP;have S3:=lZ.out.G b3;obtain⟨sv,rv,sc,KS,OS,OR⟩:=S3.fi;obtain⟨A0,c0,rfl,hnil⟩:=Xy OS;have MM:=O<|Ex.Ew (lo:=lo) (hi:=hi) b3;have CB:=O S3.core;have HI3:=O<|EA HH.out b3.size;replace KS:=O KS;replace OS:=O OS;replace OR:=O OR;clear S3 hnil b3;have cs1:w3.cell? ⟨gs,1,Z⟩=D (EI A0 ns c0):=(H.cell KS.out 1).trans U;go_wp2_with (with_reducible refine I7 29 ?_);apply Eo;have KB:=O<|H.new w3 #[E I k,EI A' n' c'] 264;have bl:=Ep w3 (EJ #[E I k,EI A' n' c'] 264);replace KS:=O<|KS.out.G bl;replace OS:=O<|ER OS.out fun _ _ h=>H.G h bl;replace OR:=O<|ER OR.out fun _ _ h=>H.G h bl;replace CB:=O<|CB.out.G bl;replace MM:=O<|MM.out.trans (Ex.Ew bl);replace HI3:=O<|EA HI3.out bl.size;clear cs1 bl;generalize w3.alloc (EJ #[E I k,EI A' n' c'] 264)=w4 at*;generalize w3.heap.size=gb at*;obtain⟨A7,c7,w7,hrun,hown,hgr,-,-⟩:=dc (P:=EU) w4 hi hi 39 39 264 IR.out.choose _ 2 32 Tryz.underlying39 IR.out.choose_spec.1 IR.out.choose_spec.2.1 IR.out.choose_spec.2.2.1 IR.out.choose_spec.2.2.2 rfl A0 c0 ns sc.l OS.out ⟨gb,0,Z⟩ 1 1 [E I k,EI A' n' c'] U (fun j Y3 hu=>by rw[show(⟨gb,0,Z⟩:Eu).add j=⟨gb,j,Z⟩ from XB];rw[H.cell KB.out,Og];exact hu) dB (fun _=>X) OD X HI3.out (E7 _);go_wp2_with ((with_reducible refine Is 29 ?_);(refine Ol (Ei U) (Up U U U hrun) ?_);refine Ev.mk ?_);apply Eo;have keep: ∀g2 c2 S2,S2≠264->H w4 g2 c2 S2->H w7 g2 c2 S2:=fun g2 c2 S2 hS k2=>X_ hgr k2 hS;replace KS:=O<|keep _ _ _ Eb KS.out;replace OR:=O<|ER OR.out fun g2 c2 h2=>keep _ _ _ Eb h2;replace CB:=O<|CB.out.via (fun k2 c2 S hS h2=>keep _ _ _ ZU h2) ((hgr.2.1 HI3.out).mono (by exact lZ.out.cH));replace MM:=O<|MM.out.trans (Ex.Th hgr Eb HI3.out);replace OS:=O hown;clear keep hgr hown hrun KB HI3;have cs1:w7.cell? ⟨gs,1,Z⟩=D (EI A0 ns c0):=(H.cell KS.out 1).trans U;have ff:w7.frozen? ⟨gs,1,Z⟩=B:=H.JX KS.out 1;go_wp2_with fail;go_end0;have kk:=EbR KS.out (EI A7 (ns+1) c7);have S2:=lZ.out;refine⟨U,⟨CB.out.via (fun k2 c2 S hS h2=>h2.other gs 1 _ (dA h2 KS.out ZU)) (Tj vx.out _),S2.hc,S2.hq,S2.ht,S2.cH,S2.his,EI A7 (ns+1) c7,rv,⟨sc.l++[E I k,EI A' n' c'],fun Y3 hu=>by rcases XP.1 hu with hu|hu;(·exact sc.one Y3 hu);(·simp at hu;rcases hu with rfl|rfl<;>rfl)⟩,kk,ER OS.out (fun g2 c2 h2=>h2.other gs 1 _ (dA h2 KS.out Eb)),ER OR.out (fun g2 c2 h2=>h2.other gs 1 _ (dA h2 KS.out Eb))⟩,MM.out.trans (Ex.setCell KS.out Eb vx.out 1 _)⟩
theorem E_.IC{g:Nat->V}(S:E_ lo hi g gc gq gt gs c ns rs w):w.cell? ⟨gs,0,Z⟩=D (Y (D ⟨gc,0,Z⟩)):=by obtain⟨sv,rv,sc,KS,-,-⟩:=S.fi;exact(H.cell KS 0).trans U
def coreC(p:List V)(c:EB)(gq gt:Nat)(k:Nat):Option (List V):=match k with
 |0=>D p
 |1=>D c.tok.v
 |2=>D [Y (D ⟨gq,0,Z⟩)]
 |6=>D [Y (D ⟨gt,0,Z⟩)]
 |7=>D [E I c.samples]
 |8=>D [E I c.beyond]
 |9=>D [E I c.mode]
 |10=>D c.Em.v
 |11=>D c.pt.v
 |_=>Z
theorem JO.cell{g:Nat->V}(C:JO lo g gc gq gt c w)(k:Nat){old:List V}(ho:coreC (EK 56 g).toList c gq gt k=D old)(j:Nat)(hj:j<old.length):w.cell? ⟨gc,lX k+j,Z⟩=old[j]?:=by
 obtain⟨d0,d1,d2,hd,KG,o0,o1,o2,-,-⟩:=C.Ek
 have hk:k<13:=by
  rcases JG k 13 with h|h;·exact h
  ·unfold coreC at ho;split at ho<;>first|omega|cases ho
 refine Kj KG o0 o1 o2 k hk ?_ j hj;unfold coreC at ho;split at ho<;>first|exact ho|cases ho
theorem Km(s:Int)(w:M):Ef EU 70 #[E I s] w fun e w'=>e=Eg (Ec (decide (1<=s/\s<=3)))/\w=w':=by
 by_cases h1:1<=s
 ·by_cases h2:s<=3;·rw[Ib (⟨h1,h2⟩:1<=s/\s<=3)];have t1:decide (1<=s)=u:=Ib h1;have t2:decide (s<=3)=u:=Ib h2;go_enter Tryz.func70,Tryz.ntmps70;go_wp2_with fail;go_ret;exact⟨U,U⟩
  ·rw[IJ (X: ¬(1<=s/\s<=3))];have t1:decide (1<=s)=u:=Ib h1;have t2:decide (s<=3)=B:=IJ h2;go_enter Tryz.func70,Tryz.ntmps70;exact Els
 ·rw[IJ (X: ¬(1<=s/\s<=3))];have t1:decide (1<=s)=B:=IJ h1;go_enter Tryz.func70,Tryz.ntmps70;exact Els
theorem Bo(lo hi:Nat)(g:Nat->V)(gc gq gt gs:Nat)(c:EB)(ns:Nat)(rs:List Rec)(l:List Int)(k:Int)(w:M)(S:E_ lo hi g gc gq gt gs c ns rs w)(hl:dz l)(hn:ns<1000000): Ef EU 141 #[Y (D ⟨gs,0,Z⟩),E I k,EZ (I9 l)] w fun e w'=>e=Eg (Et #[])/\(∃m,m<=1/\E_ lo hi g gc gq gt gs c (ns+m) rs w')/\Ex lo hi w w':=by
 have lZ:=O S;have TL:=O<|fun W (s:E_ lo hi g gc gq gt gs c ns rs W)=>vz lo hi g gc gq gt gs c ns rs l k W s hl hn;have hsz:Ea ((I9 l).size=14):=O<|pG l;have hone:=O<|Hs l;clear hl S;obtain⟨mv,hmv⟩:=En (I9 l);rw[<-hmv] at hsz hone TL⊢;clear hmv;go_enter Tryz.func141,Tryz.ntmps141;go_wp2_with fail;have KM:=O<|H.new w mv 222;have b1:=Ep w (EJ mv 222);have S1:=O<|lZ.out.G b1;have MM:=O<|Ex.Ew (lo:=lo) (hi:=hi) b1;clear b1;generalize w.alloc (EJ mv 222)=w1 at*;generalize w.heap.size=gm at*;have c0:=S1.out.IC;have c95:w1.cell? ⟨gc,95,Z⟩=D (Y (D ⟨gt,0,Z⟩)):=S1.out.core.cell 6 rfl 0 Eh;refine(Km k _).mono ?_;rintro e w2 ⟨rfl,rfl⟩;cases hlk:decide (1<=k/\k<=3) with
 |false=> go_wp2_with fail;go_end0;exact⟨U,⟨0,X,S1.out⟩,MM.out⟩
 |true=>
  go_wp2_with fail;refine(nI gt c.T k _ S1.out.core.tab S1.out.core.ok.T).mono ?_;rintro e w2 ⟨rfl,rfl⟩;cases hon:c.T.Zu k with
  |false=> go_wp2_with fail;go_end0;exact⟨U,⟨0,X,S1.out⟩,MM.out⟩
  |true=> go_wp2_with (with_reducible refine wL AR KM ?_ (hn:=hsz.out));refine(TL.out _ S1.out).mono ?_;rintro e w2 ⟨rfl,S2,M2⟩;go_wp2_with fail;go_end0;exact⟨U,⟨1,X,S2⟩,MM.out.trans M2⟩
theorem pW(a b c d e f:Int):dz [a,b,c,d,e,f,0,0,0,0,0,0,0,0]:=by exact EmS
theorem jz(lo hi:Nat)(g:Nat->V)(gc gq gt gs:Nat)(c:EB)(ns:Nat)(rs:List Rec)(k n:Int)(w:M)(S:E_ lo hi g gc gq gt gs c ns rs w)(hn:ns<1000000): Ef EU 175 #[Y (D ⟨gs,0,Z⟩),E I k,E I n] w fun e w'=>e=Eg (Et #[])/\E_ lo hi g gc gq gt gs c (ns+1) rs w'/\Ex lo hi w w':=by have BR:Tryz.prog.built 222 [(0,E I 131),(1,E I n)]=D (I9 [131,n,0,0,0,0,0,0,0,0,0,0,0,0]):=Ed;have TL:=O<|fun W (s:E_ lo hi g gc gq gt gs c ns rs W)=>vz lo hi g gc gq gt gs c ns rs [131,n,0,0,0,0,0,0,0,0,0,0,0,0] k W s (pW _ _ _ _ _ _) hn;have S:=O S;generalize I9 [131,n,0,0,0,0,0,0,0,0,0,0,0,0]=rv at*;go_enter Tryz.func175,Tryz.ntmps175;go_wp2_with ((with_reducible refine Is 9 ?_);refine I3 U 222 _ U rv BR ?_);refine(TL.out _ S.out).mono ?_;exact Enz
theorem pY(lo hi:Nat)(g:Nat->V)(gc gq gt gs:Nat)(c:EB)(ns:Nat)(rs:List Rec)(k who cd:Int)(w:M)(S:E_ lo hi g gc gq gt gs c ns rs w)(hn:ns<1000000): Ef EU 99 #[Y (D ⟨gs,0,Z⟩),E I k,E I who,E I cd] w fun e w'=>e=Eg (Et #[])/\(∃m,m<=1/\E_ lo hi g gc gq gt gs c (ns+m) rs w')/\Ex lo hi w w':=by have BR:Tryz.prog.built 222 [(0,E I 136),(3,E I who),(5,E I cd)]=D (I9 [136,0,0,who,0,cd,0,0,0,0,0,0,0,0]):=Ed;have TL:=O<|fun W (s:E_ lo hi g gc gq gt gs c ns rs W)=>Bo lo hi g gc gq gt gs c ns rs [136,0,0,who,0,cd,0,0,0,0,0,0,0,0] k W s (pW _ _ _ _ _ _) hn;have S:=O S;generalize I9 [136,0,0,who,0,cd,0,0,0,0,0,0,0,0]=rv at*;go_enter Tryz.func99,Tryz.ntmps99;go_wp2_with ((with_reducible refine Is 12 ?_);refine I3 U 222 _ U rv BR ?_);refine(TL.out _ S.out).mono ?_;exact Enz
theorem sP(lo hi:Nat)(g:Nat->V)(gc gq gt gs:Nat)(c:EB)(ns:Nat)(rs:List Rec)(k cd:Int)(w:M)(S:E_ lo hi g gc gq gt gs c ns rs w)(hl:rs.length<1000000): Ef EU 84 #[Y (D ⟨gs,0,Z⟩),E I k,E I cd] w fun e w'=>e=Eg (Et #[])/\E_ lo hi g gc gq gt gs c ns (rs++[⟨1,k,0,c.tok.e,cd,0⟩]) w'/\Ex lo hi w w':=by have S:=O S;go_enter Tryz.func84,Tryz.ntmps84;go_wp2_with fail;refine(ZC lo hi g gc gq gt gs c ns rs 1 k 0 cd 0 _ S.out hl).mono ?_;exact Enz
theorem iw(lo hi:Nat)(g:Nat->V)(gc gq gt gs:Nat)(c:EB)(ns:Nat)(rs:List Rec)(k n cd:Int)(w:M)(S:E_ lo hi g gc gq gt gs c ns rs w)(hn:ns<1000000)(hl:rs.length<1000000): Ef EU 120 #[Y (D ⟨gs,0,Z⟩),E I k,E I n,E I cd] w fun e w'=>e=Eg (Et #[])/\E_ lo hi g gc gq gt gs c (ns+1) (rs++[⟨7,k,n,c.tok.e,cd,0⟩]) w'/\Ex lo hi w w':=by have BR:Tryz.prog.built 222 [(0,E I 132),(1,E I n),(5,E I cd)]=D (I9 [132,n,0,0,0,cd,0,0,0,0,0,0,0,0]):=Ed;have TL:=O<|fun W (s:E_ lo hi g gc gq gt gs c ns rs W)=>vz lo hi g gc gq gt gs c ns rs [132,n,0,0,0,cd,0,0,0,0,0,0,0,0] k W s (pW _ _ _ _ _ _) hn;have S:=O S;generalize I9 [132,n,0,0,0,cd,0,0,0,0,0,0,0,0]=rv at*;go_enter Tryz.func120,Tryz.ntmps120;go_wp2_with ((with_reducible refine Is 12 ?_);refine I3 U 222 _ U rv BR ?_);refine(TL.out _ S.out).mono ?_;rintro e w2 ⟨rfl,S2,M2⟩;go_wp2_with fail;refine(ZC lo hi g gc gq gt gs c (ns+1) rs 7 k n cd 0 _ S2 hl).mono ?_;rintro e w3 ⟨rfl,S3,M3⟩;go_wp2_with fail;go_end0;exact⟨U,S3,M2.trans M3⟩
theorem Ecd(gq:Nat)(W:M):UC EU (X8 460 236 (Y (D ⟨gq,0,Z⟩)) "Len") W=UC EU (do let v<-load ⟨gq,0,Z⟩;pure (272,v)) W:=Ed
theorem ld(gq:Nat)(v:V)(W:M)(h:W.cell? ⟨gq,0,Z⟩=D v):UC EU (X8 460 236 (Y (D ⟨gq,0,Z⟩)) "Len") W= .ok (272,v) W:=by rw[Ecd];simp[go_sem,h]
theorem Ecf(gq:Nat)(W:M):UC EU (X8 460 236 (Y (D ⟨gq,0,Z⟩)) "Less") W=UC EU (do let v<-load ⟨gq,0,Z⟩;pure (273,v)) W:=Ed
theorem Bp(gq:Nat)(v:V)(W:M)(h:W.cell? ⟨gq,0,Z⟩=D v):UC EU (X8 460 236 (Y (D ⟨gq,0,Z⟩)) "Less") W= .ok (273,v) W:=by rw[Ecf];simp[go_sem,h]
theorem Ecg(gq:Nat)(W:M):UC EU (X8 460 236 (Y (D ⟨gq,0,Z⟩)) "Swap") W=UC EU (do let v<-load ⟨gq,0,Z⟩;pure (274,v)) W:=Ed
theorem p6(gq:Nat)(v:V)(W:M)(h:W.cell? ⟨gq,0,Z⟩=D v):UC EU (X8 460 236 (Y (D ⟨gq,0,Z⟩)) "Swap") W= .ok (274,v) W:=by rw[Ecg];simp[go_sem,h]
theorem EH.cell(h:EH g w w')(hne:g2≠g)(hl:g2<w.heap.size)(i:Nat):w'.cell? ⟨g2,i,Z⟩=w.cell? ⟨g2,i,Z⟩:=by unfold jx;rw[h.keep g2 hne hl]
theorem sQ{v:V}(h:w.cell? ⟨g,i,Z⟩=D v):g<w.heap.size:=by
 rcases JG g w.heap.size with k|k;·exact k
 ·unfold jx at h;rw[g_ k] at h;cases h
theorem Ech(gq g cap:Nat)(a:One)(rest:List V)(w:M)(HC:w.cell? ⟨gq,0,Z⟩=D (EI (D ⟨g,0,Z⟩) 1 cap))(K:Ln w g [a] rest)(hne:gq≠g): Ef EU 188 #[.iface 236 (Y (D ⟨gq,0,Z⟩)),E I 0] w fun e w'=>e=Eg (Et #[])/\(∃L',L'.Perm [a]/\Ln w' g L' rest)/\EH g w w':=by exact EmI
theorem Eci(gq g cap:Nat)(a b:One)(rest:List V)(w:M)(HC:w.cell? ⟨gq,0,Z⟩=D (EI (D ⟨g,0,Z⟩) 2 cap))(K:Ln w g [a,b] rest)(hne:gq≠g): Ef EU 188 #[.iface 236 (Y (D ⟨gq,0,Z⟩)),E I 0] w fun e w'=>e=Eg (Et #[])/\(∃L',L'.Perm [a,b]/\Ln w' g L' rest)/\EH g w w':=by exact EmI
theorem Ecj(gq g cap:Nat)(a b d:One)(rest:List V)(w:M)(HC:w.cell? ⟨gq,0,Z⟩=D (EI (D ⟨g,0,Z⟩) 3 cap))(K:Ln w g [a,b,d] rest)(hne:gq≠g): Ef EU 188 #[.iface 236 (Y (D ⟨gq,0,Z⟩)),E I 0] w fun e w'=>e=Eg (Et #[])/\(∃L',L'.Perm [a,b,d]/\Ln w' g L' rest)/\EH g w w':=by exact EmI
theorem Eck(gq g cap:Nat)(a b:One)(rest:List V)(w:M)(HC:w.cell? ⟨gq,0,Z⟩=D (EI (D ⟨g,0,Z⟩) 2 cap))(K:Ln w g [a,b] rest)(hne:gq≠g): Ef EU 188 #[.iface 236 (Y (D ⟨gq,0,Z⟩)),E I 1] w fun e w'=>e=Eg (Et #[])/\(∃L',L'.Perm [a,b]/\Ln w' g L' rest)/\EH g w w':=by
 have K:=O K;have HC:=O HC;have Jg:=O hne;clear hne;have Ko: ∀(args:Array V) (W:M),(Jj 273 args).run EU W= .ok (.enter 273 args) W:=fun _ _=>Ed;have lf: ∀(args:Array V) (W:M),(Jj 274 args).run EU W= .ok (.enter 274 args) W:=fun _ _=>Ed;have p8:=Bp gq _ w HC.out;have C1:Ef EU 273 #[EI (D ⟨g,0,Z⟩) 2 cap,E I 1,E I 0] w _:=jg g [a,b] rest 2 cap 1 0 b a U U U w K.out;replace C1:=O C1;go_enter Tryz.func188,Tryz.ntmps188;go_wp2_with fail;refine O9 2 ?_;rw[Ic];go_wp2_with fail;refine C1.out.mono ?_;rintro e w1 ⟨rfl,b1⟩;replace K:Ea (Ln w1 g [a,b] rest):=EQ K b1;have ON:=O<|EH.Ew (g:=g) b1;have lq:=sQ HC.out;replace HC:Ea (w1.cell? ⟨gq,0,Z⟩=_):=O<|(ON.out.cell Jg.out lq 0).trans HC.out;clear b1 lq C1 p8;cases l1:less b a with
 |false=> go_wp2_with fail;go_end0;exact⟨U,⟨_,bh _,K.out⟩,ON.out⟩
 |true=> have fj:=p6 gq _ w1 HC.out;have C2:Ef EU 274 #[EI (D ⟨g,0,Z⟩) 2 cap,E I 0,E I 1] w1 _:=fZ g [a,b] rest 2 cap 0 1 a b U U U w1 K.out;replace C2:=O C2;clear l1;go_wp2_with fail;refine C2.out.mono ?_;rintro e w2 ⟨rfl,k2,o2⟩;replace K:Ea (Ln w2 g [b,a] rest):=O k2;replace ON:=O<|ON.out.trans o2;clear C2 fj k2 o2;go_wp2_with fail;rw[Ic];go_wp2_with fail;go_end0;exact⟨U,⟨_,bi _ _ _,K.out⟩,ON.out⟩
theorem Ecl(gq g cap:Nat)(a b d:One)(rest:List V)(w:M)(HC:w.cell? ⟨gq,0,Z⟩=D (EI (D ⟨g,0,Z⟩) 3 cap))(K:Ln w g [a,b,d] rest)(hne:gq≠g): Ef EU 188 #[.iface 236 (Y (D ⟨gq,0,Z⟩)),E I 1] w fun e w'=>e=Eg (Et #[])/\(∃L',L'.Perm [a,b,d]/\Ln w' g L' rest)/\EH g w w':=by
 have K:=O K;have HC:=O HC;have Jg:=O hne;clear hne;have Ko: ∀(args:Array V) (W:M),(Jj 273 args).run EU W= .ok (.enter 273 args) W:=fun _ _=>Ed;have lf: ∀(args:Array V) (W:M),(Jj 274 args).run EU W= .ok (.enter 274 args) W:=fun _ _=>Ed;have p8:=Bp gq _ w HC.out;have C1:Ef EU 273 #[EI (D ⟨g,0,Z⟩) 3 cap,E I 1,E I 0] w _:=jg g [a,b,d] rest 3 cap 1 0 b a U U U w K.out;replace C1:=O C1;go_enter Tryz.func188,Tryz.ntmps188;go_wp2_with fail;refine O9 2 ?_;rw[Ic];go_wp2_with fail;refine C1.out.mono ?_;rintro e w1 ⟨rfl,b1⟩;replace K:Ea (Ln w1 g [a,b,d] rest):=EQ K b1;have ON:=O<|EH.Ew (g:=g) b1;have lq:=sQ HC.out;replace HC:Ea (w1.cell? ⟨gq,0,Z⟩=_):=O<|(ON.out.cell Jg.out lq 0).trans HC.out;clear b1 lq C1 p8;cases l1:less b a with
 |false=> go_wp2_with fail;go_end0;exact⟨U,⟨_,bh _,K.out⟩,ON.out⟩
 |true=> have fj:=p6 gq _ w1 HC.out;have C2:Ef EU 274 #[EI (D ⟨g,0,Z⟩) 3 cap,E I 0,E I 1] w1 _:=fZ g [a,b,d] rest 3 cap 0 1 a b U U U w1 K.out;replace C2:=O C2;clear l1;go_wp2_with fail;refine C2.out.mono ?_;rintro e w2 ⟨rfl,k2,o2⟩;replace K:Ea (Ln w2 g [b,a,d] rest):=O k2;replace ON:=O<|ON.out.trans o2;clear C2 fj k2 o2;go_wp2_with fail;rw[Ic];go_wp2_with fail;go_end0;exact⟨U,⟨_,bi _ _ _,K.out⟩,ON.out⟩
theorem Ecm(gq g cap:Nat)(a b d:One)(rest:List V)(w:M)(HC:w.cell? ⟨gq,0,Z⟩=D (EI (D ⟨g,0,Z⟩) 3 cap))(K:Ln w g [a,b,d] rest)(hne:gq≠g): Ef EU 188 #[.iface 236 (Y (D ⟨gq,0,Z⟩)),E I 2] w fun e w'=>e=Eg (Et #[])/\(∃L',L'.Perm [a,b,d]/\Ln w' g L' rest)/\EH g w w':=by
 have K:=O K;have HC:=O HC;have Jg:=O hne;clear hne;have Ko: ∀(args:Array V) (W:M),(Jj 273 args).run EU W= .ok (.enter 273 args) W:=fun _ _=>Ed;have lf: ∀(args:Array V) (W:M),(Jj 274 args).run EU W= .ok (.enter 274 args) W:=fun _ _=>Ed;have p8:=Bp gq _ w HC.out;have C1:Ef EU 273 #[EI (D ⟨g,0,Z⟩) 3 cap,E I 2,E I 0] w _:=jg g [a,b,d] rest 3 cap 2 0 d a U U U w K.out;replace C1:=O C1;go_enter Tryz.func188,Tryz.ntmps188;go_wp2_with fail;refine O9 2 ?_;rw[Ic];go_wp2_with fail;refine C1.out.mono ?_;rintro e w1 ⟨rfl,b1⟩;replace K:Ea (Ln w1 g [a,b,d] rest):=EQ K b1;have ON:=O<|EH.Ew (g:=g) b1;have lq:=sQ HC.out;replace HC:Ea (w1.cell? ⟨gq,0,Z⟩=_):=O<|(ON.out.cell Jg.out lq 0).trans HC.out;clear b1 lq C1 p8;cases l1:less d a with
 |false=> go_wp2_with fail;go_end0;exact⟨U,⟨_,bh _,K.out⟩,ON.out⟩
 |true=> have fj:=p6 gq _ w1 HC.out;have C2:Ef EU 274 #[EI (D ⟨g,0,Z⟩) 3 cap,E I 0,E I 2] w1 _:=fZ g [a,b,d] rest 3 cap 0 2 a d U U U w1 K.out;replace C2:=O C2;clear l1;go_wp2_with fail;refine C2.out.mono ?_;rintro e w2 ⟨rfl,k2,o2⟩;replace K:Ea (Ln w2 g [d,b,a] rest):=O k2;replace ON:=O<|ON.out.trans o2;clear C2 fj k2 o2;go_wp2_with fail;rw[Ic];go_wp2_with fail;go_end0;exact⟨U,⟨_,(List.Perm.trans (bi b d [a]) (List.Perm.trans (vB b (bi a d [])) (bi a b [d]))),K.out⟩,ON.out⟩
theorem Ecn(gq g cap:Nat)(a b:One)(rest:List V)(w:M)(HC:w.cell? ⟨gq,0,Z⟩=D (EI (D ⟨g,0,Z⟩) 2 cap))(K:Ln w g [a,b] rest)(hne:gq≠g): Ef EU 187 #[.iface 236 (Y (D ⟨gq,0,Z⟩)),E I 0,E I 1] w fun e w'=>(∃b,e=Eg (Ec b))/\(∃L',L'.Perm [a,b]/\Ln w' g L' rest)/\EH g w w':=by exact EmP
theorem Eco(gq g cap:Nat)(a b d:One)(rest:List V)(w:M)(HC:w.cell? ⟨gq,0,Z⟩=D (EI (D ⟨g,0,Z⟩) 3 cap))(K:Ln w g [a,b,d] rest)(hne:gq≠g): Ef EU 187 #[.iface 236 (Y (D ⟨gq,0,Z⟩)),E I 0,E I 2] w fun e w'=>(∃b,e=Eg (Ec b))/\(∃L',L'.Perm [a,b,d]/\Ln w' g L' rest)/\EH g w w':=by
 have K:=O K;have HC:=O HC;have Jg:=O hne;clear hne;have Ko: ∀(args:Array V) (W:M),(Jj 273 args).run EU W= .ok (.enter 273 args) W:=fun _ _=>Ed;have lf: ∀(args:Array V) (W:M),(Jj 274 args).run EU W= .ok (.enter 274 args) W:=fun _ _=>Ed;have p8:=Bp gq _ w HC.out;have C1:Ef EU 273 #[EI (D ⟨g,0,Z⟩) 3 cap,E I 1,E I 0] w _:=jg g [a,b,d] rest 3 cap 1 0 b a U U U w K.out;replace C1:=O C1;go_enter Tryz.func187,Tryz.ntmps187;go_wp2_with fail;refine O9 2 ?_;rw[Ic];go_wp2_with fail;refine C1.out.mono ?_;rintro e w1 ⟨rfl,b1⟩;replace K:Ea (Ln w1 g [a,b,d] rest):=EQ K b1;have ON:=O<|EH.Ew (g:=g) b1;have lq:=sQ HC.out;replace HC:Ea (w1.cell? ⟨gq,0,Z⟩=_):=O<|(ON.out.cell Jg.out lq 0).trans HC.out;clear b1 lq C1 p8;cases l1:less b a with
 |false=> go_wp2_with fail;go_ret;exact⟨⟨_,U⟩,⟨_,bh _,K.out⟩,ON.out⟩
 |true=> have fj:=p6 gq _ w1 HC.out;have C2:Ef EU 274 #[EI (D ⟨g,0,Z⟩) 3 cap,E I 0,E I 1] w1 _:=fZ g [a,b,d] rest 3 cap 0 1 a b U U U w1 K.out;replace C2:=O C2;clear l1;go_wp2_with fail;refine C2.out.mono ?_;rintro e w2 ⟨rfl,k2,o2⟩;replace K:Ea (Ln w2 g [b,a,d] rest):=O k2;replace ON:=O<|ON.out.trans o2;clear C2 fj k2 o2;go_wp2_with fail;rw[Ic];go_wp2_with fail;go_ret;exact⟨⟨_,U⟩,⟨_,bi _ _ _,K.out⟩,ON.out⟩
theorem Ecp(gq g cap:Nat)(a b d:One)(rest:List V)(w:M)(HC:w.cell? ⟨gq,0,Z⟩=D (EI (D ⟨g,0,Z⟩) 3 cap))(K:Ln w g [a,b,d] rest)(hne:gq≠g): Ef EU 187 #[.iface 236 (Y (D ⟨gq,0,Z⟩)),E I 1,E I 2] w fun e w'=>(∃b,e=Eg (Ec b))/\(∃L',L'.Perm [a,b,d]/\Ln w' g L' rest)/\EH g w w':=by exact EmP
end Go.Proofs.YtclmichaaiohjaaGreatDoor
