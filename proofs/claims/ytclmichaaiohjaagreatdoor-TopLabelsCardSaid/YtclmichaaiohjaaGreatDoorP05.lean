import Derived.Test.YtclmichaaiohjaaGreatDoorP04
import Derived.ArgAppend
set_option maxRecDepth 100000
set_option linter.unusedVariables false
set_option linter.unusedSimpArgs false
set_option maxHeartbeats 6400000
namespace Go.Proofs.YtclmichaaiohjaaGreatDoor
open RowKit
open Bool renaming true->G,false->Y
open Go renaming World->H,Calls->Ef,TypeId->Ez,Value->M,Addr->Et,bodyPost_ret->EQ,Oper->EK,below_setRow->E2,rounds_succ->Ib
open Act renaming put->Ic
open Ending renaming returned->Eg
open IntKind renaming i64->I,u8->IB,u64->Ip
open Lib renaming hid->J
open Obj renaming cells->EI
open Go.Proofs.Tryz renaming prog->EJ
open Region renaming wanted->IQ
open RowKit renaming Hid->Ea
open RowKit.Below renaming refl->E6
open Value renaming bool->Eb,int->E,agg->EU,slice->u,tuple->Es,pointer->V
open List renaming take_succ_cons->Il,take_zero->Ij,setIfInBounds_toArray->Ig,length_append->IL,set_cons_succ->IJ,set_cons_zero->IU,drop_succ_cons->Iz,drop_zero->Ix
open Nat renaming le_refl->E5
open Option renaming some->X,none->Z
variable{k:Int}{ds:List FD}{w w':H}{base gm n g:Nat}{A:Option Et}{xs l p bs z:List Int}{d:FD}{T:Ez}
def IZ(k:Int):List Int:=[k,0,0,0,0,0,0,0,0,0,0,0]
def nQ(d:FD)(n:Int):Option (List Int):=if n<d.lo then Z else if d.hi<n then Z else if d.lo<0 then X (be (n%65536) 2) else X (be n d.size.toNat)
def Z6:List FD->List Int->Option (List Int)
 |[],_=>X []
 |d::ds,l=>match nQ d (l.getD d.off 0),Z6 ds l with
  |some x,X y=>X (x++y)
  |_,_=>Z
def JH(ds:List FD)(l:List Int):List Int:=ds.foldl (fun l d=>l.set d.off 0) l
def nR(l:List Int):Option (List Int):=
 match ZE (l.getD 0 0) with
 |none=>Z
 |some ds=>match Z6 ds l with
  |none=>Z
  |some ps=>if JH ds l=IZ (l.getD 0 0) then X (l.getD 0 0::ps) else Z
structure FD.good(d:FD):Prop where
 ok:d.ok
 off1:1<=d.off
 neg:d.lo<0-> -32768<=d.lo/\d.hi<=32767
 pos:0<=d.lo->1<=d.size/\d.size<=7/\d.hi<256^d.size.toNat
theorem EJ7:Ui.good:=⟨⟨EZ,EZ,EZ⟩,EZ,EZ,EZ⟩
theorem nS:Ih.good:=⟨⟨EZ,EZ,EZ⟩,EZ,EZ,EZ⟩
theorem EJ8:aq.good:=⟨⟨EZ,EZ,EZ⟩,EZ,EZ,EZ⟩
theorem EJ9:I9.good:=⟨⟨EZ,EZ,EZ⟩,EZ,EZ,EZ⟩
theorem BY:IC.good:=⟨⟨EZ,EZ,EZ⟩,EZ,EZ,EZ⟩
theorem EJ_:Z0.good:=⟨⟨EZ,EZ,EZ⟩,EZ,EZ,EZ⟩
theorem EOE:ar.good:=⟨⟨EZ,EZ,EZ⟩,EZ,EZ,EZ⟩
theorem wZ(i:Nat)(h:i<4):(Jm i).good:=by have h4:i=0\/i=1\/i=2\/i=3:=U;rcases h4 with rfl|rfl|rfl|rfl<;>exact⟨⟨EZ,EZ,EZ⟩,EZ,EZ,EZ⟩
theorem wg(h:ZE k=X ds):1<=k/\k<=11/\ds.length<=7/\ ∀d∈ds,d.good:=by
 have one: ∀(P:Prop),(P->1<=k/\k<=11/\ds.length<=7/\ ∀d∈ds,d.good)->P->1<=k/\k<=11/\ds.length<=7/\ ∀d∈ds,d.good:=fun _ f p=>f p;unfold ZE at h;repeat' split at h
 all_goals first
  |(cases h;done)
  |(injection h with h
    subst h
    refine⟨U,U,EZ,fun d hd=> ?_⟩
    simp only[List.mem_cons,List.not_mem_nil,or_false] at hd)
 ·subst hd;exact EJ7
 ·subst hd;exact nS
 ·rcases hd with rfl|rfl;·exact nS
  ·exact EJ8
 ·rcases hd with rfl|rfl;·exact nS
  ·exact EJ9
 ·rcases hd with rfl|rfl;·exact nS
  ·exact BY
 ·rcases hd with rfl|rfl|rfl;·exact nS
  ·exact BY
  ·exact EJ_
 ·rcases hd with rfl|rfl|rfl|rfl|rfl|rfl|rfl;·exact nS
  ·exact BY
  ·exact EOE
  ·exact wZ 0 U
  ·exact wZ 1 U
  ·exact wZ 2 U
  ·exact wZ 3 U
def wh(l:List Int)(p:FD×Nat):AF:=⟨p.1.size,p.1.lo,p.1.hi,p.1.get,p.1.set,V (X ⟨p.2,0,Z⟩),l.getD p.1.off 0⟩
theorem EOI(l:List Int)(fs:List (FD×Nat)):au (fs.map (wh l))=Z6 (fs.map (·.1)) l:=by
 induction fs with
 |nil=>rfl
 |cons p ps ih=> simp only[List.map_cons,au,Z6];rw[ih];rfl
theorem EOJ{gl:Nat}{fs:List (FD×Nat)}(l:List Int)(h:Uy w base gl gm fs):MV w gl (fs.map (wh l)):=by intro i hi j hj;rw[List.getElem_map];exact h.cells i Om j hj
theorem EOO{cap:Nat}(h:Own w base A cap xs)(hg:gm<base)(hk: ∀k,k≠gm->w'.heap[k]?=w.heap[k]?):Own w' base A cap xs:=by
 obtain⟨⟨h1,h2⟩,h3⟩:=h;refine⟨⟨h1,?_⟩,h3⟩;rcases h2 with h2|⟨g,cap',cur,e,hb,hh,r⟩;·exact .inl h2
 ·exact .inr ⟨g,cap',cur,e,hb,(hk g U).trans hh,r⟩
theorem wi(ds:List FD)(l:List Int):(JH ds l).length=l.length:=by
 induction ds generalizing l with
 |nil=>rfl
 |cons d ds ih=>show(JH ds (l.set d.off 0)).length=_;rw[ih];simp
theorem nT(ds:List FD)(l:List Int)(o:Nat)(ho: ∀d∈ds,d.off≠o):(JH ds l).getD o 0=l.getD o 0:=by
 induction ds generalizing l with
 |nil=>rfl
 |cons d ds ih=> show(JH ds (l.set d.off 0)).getD o 0=_;rw[ih _ fun e he=>ho e (List.mem_cons_of_mem _ he)];simp[List.getD_eq_getElem?_getD,List.getElem?_set_ne (ho d List.mem_cons_self)]
theorem EOU(ds:List FD)(l:List Int)(o:Nat):(JH ds l).getD o 0=0\/(JH ds l).getD o 0=l.getD o 0:=by
 induction ds generalizing l with
 |nil=>exact .inr O
 |cons d ds ih=>
  show(JH ds (l.set d.off 0)).getD o 0=0\/(JH ds (l.set d.off 0)).getD o 0=_;rcases ih (l.set d.off 0) with h|h;·exact .inl h
  ·by_cases e:d.off=o
   ·left;rw[h,List.getD_eq_getElem?_getD,e];by_cases hl:o<l.length;·simp[hl]
    ·rw[List.getElem?_eq_none JJ];rfl
   ·right;rw[h];simp[List.getD_eq_getElem?_getD,List.getElem?_set_ne e]
theorem EOX(ds:List FD)(d:FD)(l:List Int):JH (ds++[d]) l=(JH ds l).set d.off 0:=by unfold JH;rw[List.foldl_append];rfl
theorem EOZ(k:Int):Tryz.prog.built 183 [(0,E I k)]=X (ED (IZ k)):=Ec
theorem fD:Tryz.prog.built 183 []=X (ED (IZ 0)):=Ec
def wd(d:FD):Nat:=if d.lo<0 then 2 else d.size.toNat
theorem EOa(h:Z6 (d::ds) l=X p): ∃x y,nQ d (l.getD d.off 0)=X x/\Z6 ds l=X y/\p=x++y:=by
 simp only[Z6] at h;cases h1:nQ d (l.getD d.off 0) with
 |none=>rw[h1] at h;cases h
 |some x=>
  cases h2:Z6 ds l with
  |none=>rw[h1,h2] at h;cases h
  |some y=> rw[h1,h2] at h;injection h with h;exact⟨x,y,O,O,h.symm⟩
theorem NE(h:nR l=X bs): ∃ds ps,ZE (l.getD 0 0)=X ds/\Z6 ds l=X ps/\JH ds l=IZ (l.getD 0 0)/\bs=l.getD 0 0::ps:=by
 unfold nR at h;cases h1:ZE (l.getD 0 0) with
 |none=>rw[h1] at h;cases h
 |some ds=>
  rw[h1] at h;simp only at h;cases h2:Z6 ds l with
  |none=>rw[h2] at h;cases h
  |some ps=>
   rw[h2] at h;simp only at h;split at h;·rename_i hz;injection h with h;exact⟨ds,ps,rfl,h2,hz,h.symm⟩
   ·cases h
theorem NI{x y:List Int}(hx:x.length=12)(hy:y.length=12)(h: ∀o,o<12->x.getD o 0=y.getD o 0):x=y:=by apply List.ext_getElem U;intro i h1 h2;have:=h i U;simpa[List.getD_eq_getElem?_getD,h1,h2] using this
theorem EOb(h:nR l=X bs):bs.take 1=[l.getD 0 0]/\1<=l.getD 0 0/\l.getD 0 0<=11:=by obtain⟨ds,ps,f1,o1,z1,rfl⟩:=NE h;obtain⟨h1,h2,-,-⟩:=wg f1;exact⟨O,h1,h2⟩
theorem EOc{c:Nat}(h:Own w base A c xs):xs.length<=c/\c<=9223372036854775807:=by obtain⟨A',ys,cap,e,h1,h2,-⟩:=h.Ym;injection e with e1 e2 e3;omega
section
open Go.ChangeShapes Go.WideShapes
theorem dn:Og EJ 183 (ED (IZ 0)):=YH
theorem EOd(h:Row w A xs)(m:Nat):Row w A (xs.take m):=by
 obtain⟨h1,h2⟩:=h;refine⟨?_,fun z hz=>h2 z (List.mem_of_mem_take hz)⟩;rcases h1 with h1|⟨b,off,e,hc⟩;·subst h1;exact .inl Ek
 ·refine .inr ⟨b,off,e,fun i hi=> ?_⟩;have hi2:i<xs.length:=nO;rw[hc i hi2];simp
end
def XZ(d:FD)(xs:List Int):Int:=if d.lo<0 then sig xs else num xs
def cE:List FD->List Int->List Int->Option (List Int)
 |[],l,xs=>if xs.length=0 then X l else Z
 |d::ds,l,xs=>if xs.length<wd d then Z else if XZ d (xs.take (wd d))<d.lo then Z else if d.hi<XZ d (xs.take (wd d)) then Z else cE ds (l.set d.off (XZ d (xs.take (wd d)))) (xs.drop (wd d))
structure FD.qN(d:FD):Prop where
 good:d.good
 neg:d.lo<0->d.lo= -32768/\d.hi=32767
 size:d.size=(wd d:Int)
 one:1<=wd d/\wd d<=7
 now:d.off=7->d.lo=0/\d.hi=1
theorem NJ(h:ZE k=X ds): ∀d∈ds,d.qN:=by
 intro d hd;have hg:=(wg h).2.2.2 d hd
 have:(d.lo<0->d.lo= -32768/\d.hi=32767)/\d.size=(wd d:Int)/\(1<=wd d/\wd d<=7)/\(d.off=7->d.lo=0/\d.hi=1):=by
  unfold ZE at h;repeat' split at h
  all_goals first
   |(cases h;done)
   |(injection h with h
     subst h
     simp only[List.mem_cons,List.not_mem_nil,or_false] at hd
     first
      |(subst hd;decide)
      |(rcases hd with rfl|rfl<;>decide)
      |(rcases hd with rfl|rfl|rfl<;>decide)
      |(rcases hd with rfl|rfl|rfl|rfl|rfl|rfl|rfl<;>decide))
 exact⟨hg,this.1,this.2.1,this.2.2.1,this.2.2.2⟩
theorem EOf(h: ∀x∈xs,0<=x/\x<=255)(hl:xs.length=2): -32768<=sig xs/\sig xs<=32767:=by have hb:=qj xs h 2 U;rw[List.take_of_length_le U] at hb;have h2:num xs<65536:=hb.2;unfold sig;split<;>omega
def NU(gm:Nat)(l:List Int)(W w':H):Prop:=D w' gm (ED l) 183/\(∀k,k≠gm->w'.heap[k]?=W.heap[k]?)/\w'.heap.size=W.heap.size/\Below gm W w'
def B_(d:FD)(gm:Nat)(l xs:List Int)(w:H)(e:Ending)(w':H):Prop:=
 if XZ d xs<d.lo then e=Eg (Eb Y)/\Eh w w'
 else if d.hi<XZ d xs then e=Eg (Eb Y)/\Eh w w'
 else e=Eg (Eb G)/\ ∃W,Eh w W/\NU gm (l.set d.off (XZ d xs)) W w'
theorem EOg(d:FD)(hd:d.qN)(gb gm:Nat)(l xs:List Int)(hl:jI l)(Y4:Option Et)(c k:Nat)(hk:wd d=k)(w:H)(hr:Row w Y4 xs)(hx:xs.length=k)(hb:XO w d gm gb)(hm:D w gm (ED l) 183): Ef EJ 209 #[EU (Iw d gb),u Y4 k c] w (B_ d gm l xs w):=by
 have hs: ∀v,Sets w d.set (V (X ⟨gb,0,Z⟩)) v (NU gm (l.set d.off v)):=fun v=>⟨Lm d,fun W hW=>(YN d gb gm l v W hd.good.ok hl (D.B hb hW) (hm.B hW)).mono fun e w' ⟨he,h1,h2,h3,h4⟩=>⟨he,h1,h2,h3,h4⟩⟩;have hk7:=hd.one;unfold B_ Iw;by_cases h0:d.lo<0
 ·have e2:k=2:=by rw[<-hk];unfold wd;rw[if_pos h0]
  subst e2;have hv:XZ d xs=sig xs:=by unfold XZ;rw[if_pos h0]
  have hr2:=EOf hr.2 hx;have hn:=hd.neg h0;have g1: ¬sig xs<d.lo:=U;have g2: ¬d.hi<sig xs:=U;rw[hv];simp only[if_neg g1,if_neg g2];exact EJk _ _ _ _ _ _ xs Y4 c (sig xs) _ w hr hx O h0 U U (hs _)
 ·have hv:XZ d xs=num xs:=by unfold XZ;rw[if_neg h0]
  have hb2:=qj xs hr.2 k U;rw[List.take_of_length_le U] at hb2;have Egs:(256:Int)^k<=72057594037927936:=by exact Ek6
  have hhi:d.hi<256^k:=by have:=(hd.good.pos U).2.2;rw[hd.size,hk,Int.toNat_natCast] at this;exact this
  rw[hv];by_cases h1:num xs<d.lo;·simp only[if_pos h1];exact EJm _ _ _ _ _ _ xs Y4 k c (num xs) w hr hx U O U U U h1
  by_cases h2:d.hi<num xs;·simp only[if_neg h1,if_pos h2];exact EJn _ _ _ _ _ _ xs Y4 k c (num xs) w hr hx U O U U U U h2
  ·simp only[if_neg h1,if_neg h2];exact EJl _ _ _ _ _ _ xs Y4 k c (num xs) _ w hr hx U O U U U U (hs _)
theorem NX{Y4:Option Et}(h:Row w Y4 xs)(hB: ∀a,Y4=X a->a.block<gm)(hb:Below gm w w'):Row w' Y4 xs:=by
 obtain⟨h1,h2⟩:=h;refine⟨?_,h2⟩;rcases h1 with h1|⟨b,off,e,hc⟩;·exact .inl h1
 ·refine .inr ⟨b,off,e,fun i hi=> ?_⟩;have h3:=hb.cell (p:=⟨b,off+i,Z⟩) (show b<gm from hB ⟨b,off,Z⟩ e);rw[h3];exact hc i hi
theorem ji{b off:Nat}(h:Row w (X ⟨b,off,Z⟩) xs)(m:Nat):Row w (X ⟨b,off+m,Z⟩) (xs.drop m):=by
 obtain⟨h1,h2⟩:=h;refine⟨?_,fun z hz=>h2 z (List.mem_of_mem_drop hz)⟩;rcases h1 with h1|⟨b',off',e,hc⟩;·subst h1;exact .inl Ek
 ·injection e with e;injection e with e1 e2;subst e1 e2;refine .inr ⟨b,off+m,O,fun i hi=> ?_⟩;have hi2:m+i<xs.length:=nO;have:=hc (m+i) hi2;rw[<-Nat.add_assoc] at this;rw[this];simp
theorem EOh(h:jI l)(o:Nat)(v:Int)(hv:o=7->v=0\/v=1):jI (l.set o v):=by
 refine⟨by rw[List.length_set];exact h.1,?_⟩;by_cases e:o=7
 ·subst e;have hl:=h.1;have:(l.set 7 v).getD 7 0=v:=by simp[List.getD_eq_getElem?_getD,hl]
  rw[this];exact hv O
 ·have e2:(l.set o v).getD 7 0=l.getD 7 0:=by simp[List.getD_eq_getElem?_getD,List.getElem?_set_ne e]
  rw[e2];exact h.2
def EOi(R:Option (List Int))(gm:Nat)(w:H)(e:Ending)(w':H):Prop:=
 Below gm w w'/\match R with
  |none=>e=Eg (Eb Y)
  |some l'=>e=Eg (Eb G)/\D w' gm (ED l') 183
theorem EOj(fs:List (FD×Nat))(ds:List FD)(hds:fs.map (·.1)=ds)(hf: ∀d∈ds,d.qN)(n:Nat)(hn:fs.length=n)(hn9:n<=100)(gl cp gm base:Nat)(l:List Int)(hl:jI l)(xs:List Int)(Y4:Option Et)(m c:Nat)(hm:xs.length=m)(hmc:m<=c)(hc:c<=9223372036854775807) (w:H) (hr:Row w Y4 xs) (hB: ∀a,Y4=X a->a.block<gm) (hfl:Uy w base gl gm fs) (hgb:gm<base) (hgw:base<=w.heap.size) (hk:D w gm (ED l) 183): Ef EJ 161 #[u Y4 m c,u (X ⟨gl,0,Z⟩) n cp] w (EOi (cE ds l xs) gm w):=by
 have wj:=J hds;have HF:=J hf;have HN:=J hn;obtain⟨R,hR⟩:=En (cE ds l xs);rw[<-hR];have nV:=J hR;have HM:=J hm;have HRW:=J hr;have wl:=J hB;have Zm:=J hfl;have HK:=J hk;have HL:=J hl;clear hds hf hn hR hm hr hB hfl hk hl;go_enter Tryz.func161,Tryz.ntmps161;go_wp2_with fail;go_loopw[0,9] (fun x y wr=> ∃(i:Nat) (A:Option Et) (k e:Nat) (li rs:List Int),i<=n/\y=E I i/\x=u A k e/\rs.length=k/\k<=e/\e<=9223372036854775807/\Row wr A rs/\(∀a,A=X a->a.block<gm)/\jI li/\D wr gm (ED li) 183/\Uy wr base gl gm fs/\base<=wr.heap.size/\cE (ds.drop i) li rs=R/\Below gm w wr) (fun _ y _=>n-(intOf y).toNat);case atStart=>exact⟨0,Y4,m,c,l,xs,U,O,O,HM.out,hmc,hc,HRW.out,wl.out,HL.out,HK.out,Zm.out,hgw,by rw[nV.out];rfl,E6 _ _⟩
 case round=>
  obtain⟨i,A,k,e,li,rs,hi,rfl,rfl,hrs,hke,he,hrw,hA,qP,hkm,hfl,hbw,hR,hbb⟩:=hrel;have Z7:=J hrs;have RW:=J hrw;have HA:=J hA;have lZ:=J qP;have KM:=J hkm;have FL:=J hfl;have HR:=J hR;have BB:=J hbb;have lm:=hkm.lt;clear hrs hrw hA qP hkm hfl hR hbb HRW Zm HK HL nV wl;by_cases hin:i<n
  ·have hil:i<fs.length:=By;have hcell:=fun j hj=>FL.out.cells i hil j hj;have ld:=(FL.out.2.2 i hil).2;have e1:ds[i]?=X (fs[i]'hil).1:=NZ;have hmem:(fs[i]'hil).1∈ds:=List.mem_of_getElem? e1;have hdf:=HF.out _ hmem;have hdr:ds.drop i=(fs[i]'hil).1::ds.drop (i+1):=by obtain⟨h1,h2⟩:=List.getElem?_eq_some_iff.1 e1;rw[<-h2];exact List.drop_eq_getElem_cons h1
   generalize fs[i]'hil=p at*;obtain⟨d,gb⟩:=p;simp only at hcell ld hdf hdr;have hRR:=HR.out;rw[hdr] at hRR;simp only[cE] at hRR;replace hRR:=J hRR;have qQ:=J ld;have HD:=J hdf;have c0:=hcell 0 U;have c1:=hcell 1 U;have c2:=hcell 2 U;have c3:=hcell 3 U;have c4:=hcell 4 U;simp only[Iw,Nat.add_zero] at c0 c1 c2 c3 c4;clear hcell ld e1 hmem hdf hdr;have CU:=J<|da d gb;have hsz2:Ea ((Iw d gb).size=5):=J O;have t1:decide ((i:Int)<(n:Int))=G:=Ia U;go_wp2_with (with_reducible refine wA bS (Ed.mk ?_));refine Ed.in ?_;clear c0 c1 c2 c3 c4 t1;have K5:=J<|D.new wr Jh 298;have b5:=J<|Eo wr (EI Jh 298);generalize wr.alloc (EI Jh 298)=w4 at*;go_wp2_with (with_reducible refine wS (cs:=(Iw d gb)) UF K5 (Ed.mk ?_) (hn:=hsz2.out) (h1:=CU.out));refine Ed.in ?_;replace K5:=J<|K5.out.setRow (Iw d gb);replace b5:=J<|E2 (g:=wr.heap.size) b5.out U (Iw d gb);generalize w4.setRow wr.heap.size (Iw d gb)=w5 at*;replace KM:=J<|KM.out.B b5.out;replace FL:=J<|FL.out.B b5.out;replace RW:=J<|Iq RW.out b5.out;replace BB:=J<|BB.out.trans (b5.out.mono U);have qR:Ea (XO w5 d gm gb):=EN qQ b5.out;have l5:=b5.out.size;clear b5 qQ;obtain⟨z,hz⟩:=En (wd d);have hzs:d.size=(z:Int):=by rw[hz];exact HD.out.size
   have hz1:1<=z:=by rw[hz];exact HD.out.one.1
   have Ca:z<=7:=by rw[hz];exact HD.out.one.2
   have HZ:=J hz;have ZS:=J hzs;have c0: ∀y:Ext w5,(Ex w5 y).cell? ⟨wr.heap.size,0,Z⟩=X (E I z):=fun y=>by rw[(K5.out.B (EC y)).cell 0,<-ZS.out];rfl
   clear hz hzs;go_wp2_with fail;by_cases hkz:k<z
   ·have t2:decide ((k:Int)<(z:Int))=G:=Ia U;refine Uv Ec Ec ?_
    repeat (first
     |go_big_quiet_skip
     |(go_big_quiet_want
       first
        |(refine Oj (T:=298) (g:=wr.heap.size) UF _ rfl rfl K5 ?_ ?_;(·exact hsz2.out);go_simp;go_big_quiet_on)
        |(go_big_quiet_op
          first
           |go_big_quiet_on
           |go_big_quiet_call ((fail)))))
    refine wpQuiet_nil ?_;intro _ hw';obtain⟨y9,rfl⟩:=hw';replace BB:=J<|BB.out.trans ((EC y9).mono U);generalize Ex w5 y9=w6 at*;go_wp2_with fail;go_ret;refine⟨BB.out,?_⟩;rw[<-hRR.out,if_pos (by rw[Z7.out,<-HZ.out];exact hkz)];rfl
   ·have t2:decide ((k:Int)<(z:Int))=Y:=E9 U;have q1:z<=k:=U;have q2:z<=e:=U
    obtain⟨b0,off,hAe⟩: ∃b off,A=X ⟨b,off,Z⟩:=by
     obtain⟨h|⟨b,off,h,-⟩,-⟩:=RW.out;·have:=Z7.out;rw[h] at this;simp at this;omega
     ·exact⟨b,off,h⟩
    subst hAe;refine JB 11 Ec Ec ?_;simp only[Il,Ij,Iz,Ix]
    repeat (first
     |go_big_quiet_skip
     |(go_big_quiet_want
       first
        |(refine Oj (T:=298) (g:=wr.heap.size) UF _ rfl rfl K5 ?_ ?_;(·exact hsz2.out);go_simp;go_big_quiet_on)
        |(go_big_quiet_op
          first
           |go_big_quiet_on
           |go_big_quiet_call ((fail)))))
    refine wpQuiet_nil ?_;intro _ hw';obtain⟨y9,rfl⟩:=hw';have El:=EC y9;replace K5:=J<|K5.out.B El;replace KM:=J<|KM.out.B El;replace FL:=J<|FL.out.B El;replace RW:=J<|Iq RW.out El;have Na:Ea (XO (Ex w5 y9) d gm gb):=EN qR El;replace BB:=J<|BB.out.trans (El.mono U);have l6:=El.size;clear El c0 qR;generalize Ex w5 y9=w6 at*;have hlt:(rs.take z).length=z:=by rw[List.length_take,Z7.out];omega
    have CT:=J<|EOg d HD.out gb gm li (rs.take z) lZ.out (X ⟨b0,off,Z⟩) e z HZ.out.symm w6 (EOd RW.out z) hlt Na.out KM.out;clear hlt Na;go_wp2_with fail;(with_reducible refine(CT.out).mono ?_);rintro e' w7 ht;unfold B_ at ht;have hif: ¬rs.length<wd d:=by rw[Z7.out,<-HZ.out];omega
    have hI:=hRR.out;rw[if_neg hif,<-HZ.out] at hI;replace hI:=J hI;clear hif CT hRR;by_cases hlow:XZ d (rs.take z)<d.lo;·rw[if_pos hlow] at ht;obtain⟨rfl,b7⟩:=ht;have aw:=hI.out;rw[if_pos hlow] at aw;replace aw:=J aw;replace BB:=J<|BB.out.trans (b7.mono U);clear hlow b7 hI;exact Emi
    by_cases hhigh:d.hi<XZ d (rs.take z);·rw[if_neg hlow,if_pos hhigh] at ht;obtain⟨rfl,b7⟩:=ht;have aw:=hI.out;rw[if_neg hlow,if_pos hhigh] at aw;replace aw:=J aw;replace BB:=J<|BB.out.trans (b7.mono U);clear hlow hhigh b7 hI;exact Emi
    ·rw[if_neg hlow,if_neg hhigh] at ht;obtain⟨rfl,W,bW,hq1,hq2,hq3,hq4⟩:=ht;have aw:=hI.out;rw[if_neg hlow,if_neg hhigh] at aw;have Nb:jI (li.set d.off (XZ d (rs.take z))):=EOh lZ.out _ _ (fun h7=>by have:=HD.out.now h7;omega);have EOl:=J Nb;replace aw:=J aw;have lW:=bW.size;have Cb:b0<gm:=HA.out _ O;have c0:w7.cell? ⟨wr.heap.size,0,Z⟩=X (E I z):=by rw[World.cell?_of_block (w:=W) (hq2 wr.heap.size U),(K5.out.B bW).cell 0,<-ZS.out];rfl
     replace BB:=J<|(BB.out.trans (bW.mono U)).trans hq4;replace FL:=J<|(FL.out.B bW).keep hgb hq2;have RW7:=J<|NX (ji (Iq RW.out bW) z) (fun a ha=>by injection ha with ha;subst ha;exact Cb) hq4;have KM7:=J hq1;have l7:base<=w7.heap.size:=U;generalize XZ d (rs.take z)=vv at*;clear hlow hhigh Nb bW hq1 hq2 hq4 hI KM RW K5;go_wp2_with fail;refine⟨⟨i+1,_,k-z,e-z,li.set d.off vv,rs.drop z,U,Ek,O,by rw[List.length_drop,Z7.out],U,U,?_,?_,EOl.out,KM7.out,FL.out,l7,aw.out,BB.out⟩,JN⟩
     ·split;·have h0:rs.drop z=[]:=List.drop_eq_nil_of_le (by rw[Z7.out];omega);rw[h0];exact⟨.inl O,fun x hx=>by cases hx⟩
      ·exact RW7.out
     ·intro a ha;split at ha;·injection ha with ha;subst ha;exact Cb
      ·injection ha with ha;subst ha;exact Cb
  ·obtain rfl:i=n:=U;have hdrop:ds.drop i=[]:=List.drop_eq_nil_of_le (by rw[<-wj.out,List.length_map,HN.out];omega);have hR:=HR.out;rw[hdrop] at hR;simp only[cE] at hR;replace hR:=J hR;have t1:decide ((i:Int)<(i:Int))=Y:=E9 U;clear hdrop;by_cases hk0:k=0;·subst hk0;go_wp2_with fail;go_ret;refine⟨BB.out,?_⟩;rw[<-hR.out,if_pos Z7.out];exact⟨O,KM.out⟩
   ·have t2:((k:Int)==0)=Y:=JJ;go_wp2_with fail;go_ret;refine⟨BB.out,?_⟩;rw[<-hR.out,if_neg (by rw[Z7.out];exact hk0)];rfl
section
variable{P:Program}
theorem qS{cs:Array M}(hA:ID P T n)(hg:D w g cs T)(hn:cs.size=n):(loadVar T ⟨g,0,Z⟩).run P w= .ok (EU cs) w:=by obtain⟨⟨d,hu,hd⟩,hi⟩:=hA;cases d<;>first|(cases hd;done)|exact run_loadVar_row w g T T cs (0,0) _ hg hu rfl bG
theorem ax{fn:Func}{p q:Tmp}(hT:ID P T n)(h:fn.results= #[.cell p T,.tmp q])(tmps:Array M)(w:H)(g:Nat)(cs:Array M)(v:M) (hp:tmps.getD p undef=V (X ⟨g,0,Z⟩)) (hq:tmps.getD q undef=v) (hg:D w g cs T) (hn:cs.size=n):(results fn tmps).run P w= .ok (Es #[EU cs,v]) w:=by exact EkG
end
def cI(bs:List Int):Option (List Int):=match bs with
 |[]=>Z
 |k::xs=>match ZE k with
  |none=>Z
  |some ds=>cE ds (IZ k) xs
def EOo(bs:List Int)(w:H)(e:Ending)(w':H):Prop:=
 (match cI bs with
  |none=>e=Eg (Es #[EU (ED (IZ 0)),E I 13])
  |some l=>e=Eg (Es #[EU (ED l),E I 0]))/\Eh w w'
theorem Cc(bs:List Int)(Y4:Option Et)(m c:Nat)(hm:bs.length=m)(hmc:m<=c)(hc:c<=9223372036854775807)(w:H)(hr:Row w Y4 bs):Ef EJ 118 #[u Y4 m c] w (EOo bs w):=by
 cases bs with
 |nil=>
  obtain rfl:m=0:=by rw[<-hm];rfl
  clear hr;go_enter Tryz.func118,Tryz.ntmps118;go_wp2_with (with_reducible refine wA dn (Ed.mk ?_));refine Ed.in ?_;have K2:=J<|D.new w (ED (IZ 0)) 183;have BB:=J<|Eo w (EI (ED (IZ 0)) 183);generalize w.alloc (EI (ED (IZ 0)) 183)=w1 at*;go_wp2_with (first|((with_reducible refine In 10 ?_);refine IP rfl 183 _ rfl (ED (IZ 0)) fD ?_)|(with_reducible refine wS (cs:=(ED (IZ 0))) Oc K2 ?_ (ho:=I4 _) (hn:=I4 _) (h1:=XG _)));refine EQ (v:=Es #[EU (ED (IZ 0)),E I 13]) (ax Oc O _ _ w.heap.size _ _ O O (K2.out.setRow _) (I4 _)) O ⟨?_,E2 BB.out U _⟩;rfl
 |cons k xs=>
  obtain⟨b0,off,rfl,hc0⟩: ∃b off,Y4=X ⟨b,off,Z⟩/\w.cell? ⟨b,off,Z⟩=X (E IB k):=by
   obtain⟨h|⟨b,off,h,hcc⟩,-⟩:=hr;·cases h
   ·exact⟨b,off,h,hcc 0 Ek⟩
  have hb0:b0<w.heap.size:=World.block_lt_of_cell? _ _ hc0;have hkb:=hr.2 k List.mem_cons_self;obtain⟨k0,k9⟩:=hkb;have HR:=J hr;have m1:1<=m:=by rw[<-hm];simp
  have HM:=J hm;have t1:((m:Int)==0)=Y:=JJ;clear hr hm;go_enter Tryz.func118,Tryz.ntmps118;go_wp2_with (with_reducible refine wA dn (Ed.mk ?_));refine Ed.in ?_;have K2:=J<|D.new w (ED (IZ 0)) 183;have BB:=J<|Eo w (EI (ED (IZ 0)) 183);replace HR:=J<|Iq HR.out BB.out;have c1:(w.alloc (EI (ED (IZ 0)) 183)).cell? ⟨b0,off,Z⟩=X (E IB k):=by rw[BB.out.cell hb0];exact hc0
  generalize w.alloc (EI (ED (IZ 0)) 183)=w1 at*;clear hc0;go_wp2_with (first|((with_reducible refine In 15 ?_);refine IP rfl 183 _ rfl (ED (IZ k)) (EOZ k) ?_)|(with_reducible refine wA dn (Ed.mk ?_)));refine Ed.in ?_;have l1:=K2.out.lt;have bel:=Eo w1 (EI (ED (IZ 0)) 183);have K4:=J<|D.new w1 (ED (IZ 0)) 183;replace K2:=J<|K2.out.B bel;replace HR:=J<|Iq HR.out bel;replace BB:=ET BB bel;clear bel c1;generalize w1.alloc (EI (ED (IZ 0)) 183)=w2 at*;have lw:=BB.out.size;generalize hg4:w1.heap.size=g4 at*;clear hg4;go_wp2_with (with_reducible refine wS (cs:=(ED (IZ k))) Oc K4 (Ed.mk ?_) (ho:=I4 _) (hn:=I4 _) (h1:=XG _));refine Ed.in ?_;have Nc:=E2 (g:=g4) (E6 g4 w2) (E5 _) (ED (IZ k));replace K2:=J<|K2.out.setRow_other g4 (ED (IZ k)) U;replace K4:=J<|K4.out.setRow (ED (IZ k));replace BB:=J<|E2 (g:=g4) BB.out U (ED (IZ k));replace HR:=J<|NX HR.out (fun a ha=>by injection ha with ha;subst ha;show b0<g4;omega) Nc;clear Nc;generalize w2.setRow g4 (ED (IZ k))=w3 at*;have l3:=K4.out.lt;go_wp2_with fail;(with_reducible refine(EJ6 g4 (IZ k) w3 K4.out).mono ?_);rintro e w4 hf;unfold BW at hf;have hkk:(IZ k).getD 0 0=k:=rfl;rw[hkk] at hf;cases hfo:ZE k with
  |none=> rw[hfo] at hf;obtain⟨rfl,rfl⟩:=hf;have hp:cI (k::xs)=Z:=Nd;replace hp:=J hp;clear hfo hkk;go_wp2_with (first|((with_reducible refine In 29 ?_);refine IP rfl 183 _ rfl (ED (IZ 0)) fD ?_)|(with_reducible refine wS (cs:=(ED (IZ 0))) Oc K2 ?_ (ho:=I4 _) (hn:=I4 _) (h1:=XG _)));refine EQ (v:=Es #[EU (ED (IZ 0)),E I 13]) (ax Oc O _ _ w.heap.size _ _ O O (K2.out.setRow _) (I4 _)) O ⟨?_,E2 BB.out U _⟩;rw[hp.out]
  |some ds=>
   rw[hfo] at hf;obtain⟨gl,cp,fs,rfl,hds,hfl,b4⟩:=hf;have Nf:=NJ hfo;have hd7:=(wg hfo).2.2.1;have hp:cI (k::xs)=cE ds (IZ k) xs:=Nd;have HP:=J hp;have l4:=b4.size;replace K2:=J<|K2.out.B b4;replace K4:=J<|K4.out.B b4;replace HR:=J<|Iq HR.out b4;replace BB:=ET BB b4;obtain⟨A2,hA2⟩: ∃A:Option Et,A=if c=1 then X ⟨b0,off,Z⟩ else X ⟨b0,off+1,Z⟩:=⟨_,O⟩
   have hx:xs.length=m-1:=by have:=HM.out;rw[List.length_cons] at this;omega
   have hrow:Row w4 A2 xs:=by
    rw[hA2];split;·have h0:xs=[]:=List.eq_nil_of_length_eq_zero U;rw[h0];exact⟨.inl O,fun x hx=>by cases hx⟩
    ·exact ji HR.out 1
   have hA3: ∀a,A2=X a->a.block<g4:=by
    intro a ha;rw[hA2] at ha;split at ha;·injection ha with ha;subst ha;show b0<g4;omega
    ·injection ha with ha;subst ha;show b0<g4;omega
   have CT:=J<|EOj fs ds hds Nf ds.length Ng U gl cp g4 w3.heap.size (IZ k) ⟨O,.inl O⟩ xs A2 (m-1) (c-1) hx U U w4 hrow hA3 hfl l3 l4 K4.out;generalize ds.length=n at*;clear hds hfl Nf hfo hkk b4 hx hrow hA3 hp;have Egu:=hA2.symm;replace hA2:=J hA2;go_wp2_with fail;(with_reducible refine(CT.out).mono ?_);rintro e' w5 ⟨b5,hpost⟩;have k2:D w5 w.heap.size (ED (IZ 0)) 183:=(b5.block _ U).trans K2.out;replace K2:=J k2;replace BB:=J<|BB.out.trans (b5.mono U);clear k2 b5 K4 CT;cases hR:cE ds (IZ k) xs with
   |none=> rw[hR] at hpost;obtain rfl:=hpost;have HRR:=J hR;clear hR;go_wp2_with (first|((with_reducible refine In 29 ?_);refine IP rfl 183 _ rfl (ED (IZ 0)) fD ?_)|(with_reducible refine wS (cs:=(ED (IZ 0))) Oc K2 ?_ (ho:=I4 _) (hn:=I4 _) (h1:=XG _)));refine EQ (v:=Es #[EU (ED (IZ 0)),E I 13]) (ax Oc O _ _ w.heap.size _ _ O O (K2.out.setRow _) (I4 _)) O ⟨?_,E2 BB.out U _⟩;rw[HP.out,HRR.out]
   |some l'=> rw[hR] at hpost;obtain⟨rfl,hk4⟩:=hpost;have HRR:=J hR;have K4:=J hk4;clear hR hk4;go_wp2_with (with_reducible first|refine wL Oc K4 ?_ (hn:=I4 _)|refine wS (cs:=(ED l')) Oc K2 ?_ (ho:=I4 _) (hn:=I4 _) (h1:=XG _));refine EQ (v:=Es #[EU (ED l'),E I 0]) (ax Oc O _ _ w.heap.size _ _ O O (K2.out.setRow _) (I4 _)) O ⟨?_,E2 BB.out U _⟩;rw[HP.out,HRR.out]
theorem EOp(hd:d.qN)(hb: ∀x∈bs,0<=x/\x<=255)(hl:bs.length=wd d)(h1: ¬XZ d bs<d.lo)(h2: ¬d.hi<XZ d bs):nQ d (XZ d bs)=X bs:=by
 unfold nQ;rw[if_neg h1,if_neg h2];have e:=YB bs hb;have hn:=qj bs hb bs.length U;rw[List.take_length] at hn;by_cases h3:d.lo<0
 ·rw[if_pos h3];have h2':bs.length=2:=by rw[hl];unfold wd;rw[if_pos h3]
  unfold XZ;rw[if_pos h3];rw[h2'] at e hn;have h65:num bs<65536:=hn.2;have:sig bs%65536=num bs:=by unfold sig;split<;>omega
  rw[this,e]
 ·rw[if_neg h3];have hk:d.size.toNat=bs.length:=by rw[hl,hd.size];simp
  unfold XZ;rw[if_neg h3,hk,e]
theorem Nh(ds:List FD)(l:List Int)(hl:l.length=12)(hd: ∀d∈ds,d.off<12)(o:Nat)(h: ∃d∈ds,d.off=o):(JH ds l).getD o 0=0:=by
 induction ds generalizing l with
 |nil=>obtain⟨d,hd,_⟩:=h;cases hd
 |cons d ds ih=>
  show(JH ds (l.set d.off 0)).getD o 0=0;by_cases hex: ∃e∈ds,e.off=o;·exact ih _ Ni (fun d h=>hd d (List.mem_cons_of_mem _ h)) hex
  ·rw[nT ds _ o (fun e he hh=>hex ⟨e,he,hh⟩)];obtain⟨e,he,qT⟩:=h;rcases List.mem_cons.1 he with rfl|he;·subst qT;have h12:=hd e List.mem_cons_self;simp[List.getD_eq_getElem?_getD,hl,h12]
   ·exact absurd ⟨e,he,qT⟩ hex
theorem Nj(h:Z6 ds l=X p): ∀d∈ds,d.lo<=l.getD d.off 0/\l.getD d.off 0<=d.hi:=by
 induction ds generalizing p with
 |nil=>intro d hd;cases hd
 |cons e ds ih=>
  obtain⟨a,b,h1,h2,rfl⟩:=EOa h;intro d hd;rcases List.mem_cons.1 hd with rfl|hd
  ·unfold nQ at h1;split at h1;·cases h1
   split at h1;·cases h1
   omega
  ·exact ih h2 d hd
theorem EOq(hf: ∀d∈ds,d.qN)(hnd:(ds.map (·.off)).Nodup)(hl:l.length=12)(hb: ∀x∈xs,0<=x/\x<=255)(h:cE ds l xs=X z): Z6 ds z=X xs/\JH ds z=JH ds l/\z.length=12/\(∀o,(∀d∈ds,d.off≠o)->z.getD o 0=l.getD o 0):=by
 induction ds generalizing l xs with
 |nil=>
  simp only[cE] at h;split at h;·rename_i h0;injection h with h;subst h;refine⟨?_,rfl,hl,fun _ _=>rfl⟩;rw[List.eq_nil_of_length_eq_zero h0];rfl
  ·cases h
 |cons d ds ih=>
  simp only[cE] at h;split at h;·cases h
  split at h;·cases h
  split at h;·cases h
  rename_i g1 g2 g3;rw[List.map_cons,List.nodup_cons] at hnd;have hd:=hf d List.mem_cons_self;have h12:=hd.good.ok.1;obtain⟨r1,r2,r3,r4⟩:=ih (fun d h=>hf d (List.mem_cons_of_mem _ h)) hnd.2 Ni (fun x hx=>hb x (List.mem_of_mem_drop hx)) h;have hno: ∀e∈ds,e.off≠d.off:=fun e he hh=>hnd.1 (by rw[<-hh];exact List.mem_map_of_mem he);have hz:=r4 d.off hno;have hset:(l.set d.off (XZ d (xs.take (wd d)))).getD d.off 0=XZ d (xs.take (wd d)):=by simp[List.getD_eq_getElem?_getD,hl,h12]
  rw[hset] at hz;have ho:=EOp hd (fun x hx=>hb x (List.mem_of_mem_take hx)) iQ g2 g3;refine⟨?_,?_,r3,fun o ho'=> ?_⟩;·simp only[Z6];rw[hz,ho,r1];simp only[List.take_append_drop]
  ·apply NI (by rw[wi];exact r3) (by rw[wi];exact hl);intro o Egw;by_cases hh: ∃e∈d::ds,e.off=o
   ·have zz: ∀l':List Int,l'.length=12->(JH (d::ds) l').getD o 0=0:=by
     intro l' hl';show(JH ds (l'.set d.off 0)).getD o 0=0;obtain⟨e,he,qT⟩:=hh;by_cases hex: ∃e∈ds,e.off=o;·have:=Nh ds (l'.set d.off 0) (by rw[List.length_set];exact hl') (fun d h=>(hf d (List.mem_cons_of_mem _ h)).good.ok.1) o hex;exact this
     ·rw[nT ds _ o (fun e he hh=>hex ⟨e,he,hh⟩)];rcases List.mem_cons.1 he with rfl|he;·subst qT;simp[List.getD_eq_getElem?_getD,hl',h12]
      ·exact absurd ⟨e,he,qT⟩ hex
    rw[zz z r3,zz l hl]
   ·have hn: ∀e∈d::ds,e.off≠o:=fun e he hh'=>hh ⟨e,he,hh'⟩;rw[nT _ _ o hn,nT _ _ o hn,r4 o fun e he=>hn e (List.mem_cons_of_mem _ he)];simp[List.getD_eq_getElem?_getD,List.getElem?_set_ne (hn d List.mem_cons_self)]
  ·rw[r4 o fun e he=>ho' e (List.mem_cons_of_mem _ he)];simp[List.getD_eq_getElem?_getD,List.getElem?_set_ne (ho' d List.mem_cons_self)]
theorem EOr(h:ZE k=X ds):(ds.map (·.off)).Nodup:=by
 unfold ZE at h;repeat' split at h
 all_goals first
  |(cases h;done)
  |(injection h with h
    subst h
    decide)
theorem Cd(hb: ∀x∈bs,0<=x/\x<=255)(h:cI bs=X z):nR z=X bs/\jI z:=by
 unfold cI at h;cases bs with
 |nil=>cases h
 |cons k xs=>
  simp only at h;cases hf:ZE k with
  |none=>rw[hf] at h;cases h
  |some ds=>
   rw[hf] at h;simp only at h;have qV:=NJ hf;obtain⟨r1,r2,r3,r4⟩:=EOq qV (EOr hf) (show(IZ k).length=12 from rfl) (fun x hx=>hb x (List.mem_cons_of_mem _ hx)) h;have h0:z.getD 0 0=k:=(r4 0 fun d hd=>by have:=(qV d hd).good.off1;omega).trans O
   have hzz:JH ds (IZ k)=IZ k:=by
    apply NI (by rw[wi];rfl) O;intro o ho;by_cases hh: ∃e∈ds,e.off=o;·rw[Nh ds (IZ k) O (fun d h=>(qV d h).good.ok.1) o hh];obtain⟨e,he,rfl⟩:=hh;have h1:=(qV e he).good.off1;have ho':e.off=1\/e.off=2\/e.off=3\/e.off=4\/e.off=5\/e.off=6\/e.off=7\/e.off=8\/e.off=9\/e.off=10\/e.off=11:=U;rcases ho' with h|h|h|h|h|h|h|h|h|h|h<;>rw[h]<;>rfl
    ·exact nT ds _ o fun e he hh'=>hh ⟨e,he,hh'⟩
   refine⟨?_,r3,?_⟩;·unfold nR;rw[h0,hf];simp only[r1];rw[if_pos (r2.trans hzz)]
   ·by_cases hh: ∃d∈ds,d.off=7;·obtain⟨d,hd,h7⟩:=hh;have hfd:=qV d hd;have hin:=Nj r1 d hd;have:=hfd.now h7;rw[h7] at hin;omega
    ·left;rw[r4 7 fun d hd e=>hh ⟨d,hd,e⟩];rfl
def cJ(n lo hi:Int):Bool:=decide (lo<=n)&&decide (n<=hi)
def EOt(k s r t e m c n x0 x1 x2 x3:Int):List Int:=
 if k=1\/k=2 then [k,0,r,0,0,0,0,0,0,0,0,0] else if k=5 then [k,s,0,0,0,0,0,n,0,0,0,0] else if k=6 then [k,s,0,t,0,0,0,0,0,0,0,0] else if k=7 then [k,s,0,0,e,0,0,0,0,0,0,0]
 else if k=10 then [k,s,0,0,e,m,0,0,0,0,0,0] else if k=11 then [k,s,0,0,e,0,c,0,x0,x1,x2,x3] else [k,s,0,0,0,0,0,0,0,0,0,0]
def Cf(a0 a1 a2 a3 a4 a5 a6 a8 a9 Oq Jt:Int):Bool:=cJ a8 (-32768) 32767&&cJ a9 (-32768) 32767&&cJ Oq (-32768) 32767&&cJ Jt (-32768) 32767&&cJ a0 1 11&&cJ a1 0 4294967295&&cJ a4 0 65535&&cJ a2 0 3&&cJ a3 0 4&&cJ a5 0 4&&cJ a6 (if a0=11 then 1 else 0) 3
theorem Cg(a0 a1 a2 a3 a4 a5 a6 a8 a9 Oq Jt:Int):Cf a0 a1 a2 a3 a4 a5 a6 a8 a9 Oq Jt=G↔(-32768<=a8/\a8<=32767)/\(-32768<=a9/\a9<=32767)/\(-32768<=Oq/\Oq<=32767)/\(-32768<=Jt/\Jt<=32767)/\(1<=a0/\a0<=11)/\(0<=a1/\a1<=4294967295)/\(0<=a4/\a4<=65535)/\(0<=a2/\a2<=3)/\(0<=a3/\a3<=4)/\(0<=a5/\a5<=4)/\((if a0=11 then 1 else 0)<=a6/\a6<=3):=by
 unfold Cf cJ;simp only[Bool.and_eq_true,decide_eq_true_iff];constructor;·rintro⟨⟨⟨⟨⟨⟨⟨⟨⟨⟨h1,h2⟩,h3⟩,h4⟩,h5⟩,h6⟩,h7⟩,h8⟩,h9⟩,h10⟩,h11⟩;exact⟨h1,h2,h3,h4,h5,h6,h7,h8,h9,h10,h11⟩
 ·rintro⟨h1,h2,h3,h4,h5,h6,h7,h8,h9,h10,h11⟩;exact⟨⟨⟨⟨⟨⟨⟨⟨⟨⟨h1,h2⟩,h3⟩,h4⟩,h5⟩,h6⟩,h7⟩,h8⟩,h9⟩,h10⟩,h11⟩
theorem Nk(a0 a1 a2 a3 a4 a5 a6 a7 a8 a9 Oq Jt:Int)(bs:List Int)(h:nR [a0,a1,a2,a3,a4,a5,a6,a7,a8,a9,Oq,Jt]=X bs):Cf a0 a1 a2 a3 a4 a5 a6 a8 a9 Oq Jt=G/\EOt a0 a1 a2 a3 a4 a5 a6 a7 a8 a9 Oq Jt=[a0,a1,a2,a3,a4,a5,a6,a7,a8,a9,Oq,Jt]:=by
 obtain⟨ds,ps,f1,o1,z1,-⟩:=NE h;have hin:=Nj o1;rw[show([a0,a1,a2,a3,a4,a5,a6,a7,a8,a9,Oq,Jt]:List Int).getD 0 0=a0 from rfl] at f1 z1;obtain⟨k1,k11,-,-⟩:=wg f1;have hk:a0=1\/a0=2\/a0=3\/a0=4\/a0=5\/a0=6\/a0=7\/a0=8\/a0=9\/a0=10\/a0=11:=U;rw[Cg];rcases hk with rfl|rfl|rfl|rfl|rfl|rfl|rfl|rfl|rfl|rfl|rfl;·obtain rfl:[Ui]=ds:=Option.some.inj f1;simp only[JH,IZ,List.foldl_cons,List.foldl_nil,Ui,IJ,IU,Nat.reduceAdd,List.cons.injEq,true_and,and_true] at z1;obtain⟨rfl,rfl,rfl,rfl,rfl,rfl,rfl,rfl,rfl,rfl⟩:=z1;have gr:=hin (Ui) Ek;replace gr:(0:Int)<=a2/\a2<=3:=gr;refine⟨?_,O⟩;simp only[if_true,show¬(1:Int)=11 from EZ,if_false];omega
 ·obtain rfl:[Ui]=ds:=Option.some.inj f1;simp only[JH,IZ,List.foldl_cons,List.foldl_nil,Ui,IJ,IU,Nat.reduceAdd,List.cons.injEq,true_and,and_true] at z1;obtain⟨rfl,rfl,rfl,rfl,rfl,rfl,rfl,rfl,rfl,rfl⟩:=z1;have gr:=hin (Ui) Ek;replace gr:(0:Int)<=a2/\a2<=3:=gr;refine⟨?_,O⟩;simp only[if_true,show¬(2:Int)=11 from EZ,if_false];omega
 ·obtain rfl:[Ih]=ds:=Option.some.inj f1;simp only[JH,IZ,List.foldl_cons,List.foldl_nil,Ih,IJ,IU,Nat.reduceAdd,List.cons.injEq,true_and,and_true] at z1;obtain⟨rfl,rfl,rfl,rfl,rfl,rfl,rfl,rfl,rfl,rfl⟩:=z1;have gs:=hin (Ih) Ek;replace gs:(0:Int)<=a1/\a1<=4294967295:=gs;refine⟨?_,O⟩;simp only[if_true,show¬(3:Int)=11 from EZ,if_false];omega
 ·obtain rfl:[Ih]=ds:=Option.some.inj f1;simp only[JH,IZ,List.foldl_cons,List.foldl_nil,Ih,IJ,IU,Nat.reduceAdd,List.cons.injEq,true_and,and_true] at z1;obtain⟨rfl,rfl,rfl,rfl,rfl,rfl,rfl,rfl,rfl,rfl⟩:=z1;have gs:=hin (Ih) Ek;replace gs:(0:Int)<=a1/\a1<=4294967295:=gs;refine⟨?_,O⟩;simp only[if_true,show¬(4:Int)=11 from EZ,if_false];omega
 ·obtain rfl:[Ih,aq]=ds:=Option.some.inj f1;simp only[JH,IZ,List.foldl_cons,List.foldl_nil,aq,Ih,IJ,IU,Nat.reduceAdd,List.cons.injEq,true_and,and_true] at z1;obtain⟨rfl,rfl,rfl,rfl,rfl,rfl,rfl,rfl,rfl⟩:=z1;have gs:=hin (Ih) Ek;replace gs:(0:Int)<=a1/\a1<=4294967295:=gs;have gn:=hin (aq) Ek;replace gn:(0:Int)<=a7/\a7<=1:=gn;refine⟨?_,O⟩;simp only[if_true,show¬(5:Int)=11 from EZ,if_false];omega
 ·obtain rfl:[Ih,I9]=ds:=Option.some.inj f1;simp only[JH,IZ,List.foldl_cons,List.foldl_nil,Ih,I9,IJ,IU,Nat.reduceAdd,List.cons.injEq,true_and,and_true] at z1;obtain⟨rfl,rfl,rfl,rfl,rfl,rfl,rfl,rfl,rfl⟩:=z1;have gs:=hin (Ih) Ek;replace gs:(0:Int)<=a1/\a1<=4294967295:=gs;have gt:=hin (I9) Ek;replace gt:(0:Int)<=a3/\a3<=4:=gt;refine⟨?_,O⟩;simp only[if_true,show¬(6:Int)=11 from EZ,if_false];omega
 ·obtain rfl:[Ih,IC]=ds:=Option.some.inj f1;simp only[JH,IZ,List.foldl_cons,List.foldl_nil,IC,Ih,IJ,IU,Nat.reduceAdd,List.cons.injEq,true_and,and_true] at z1;obtain⟨rfl,rfl,rfl,rfl,rfl,rfl,rfl,rfl,rfl⟩:=z1;have gs:=hin (Ih) Ek;replace gs:(0:Int)<=a1/\a1<=4294967295:=gs;have ge:=hin (IC) Ek;replace ge:(0:Int)<=a4/\a4<=65535:=ge;refine⟨?_,O⟩;simp only[if_true,show¬(7:Int)=11 from EZ,if_false];omega
 ·obtain rfl:[Ih]=ds:=Option.some.inj f1;simp only[JH,IZ,List.foldl_cons,List.foldl_nil,Ih,IJ,IU,Nat.reduceAdd,List.cons.injEq,true_and,and_true] at z1;obtain⟨rfl,rfl,rfl,rfl,rfl,rfl,rfl,rfl,rfl,rfl⟩:=z1;have gs:=hin (Ih) Ek;replace gs:(0:Int)<=a1/\a1<=4294967295:=gs;refine⟨?_,O⟩;simp only[if_true,show¬(8:Int)=11 from EZ,if_false];omega
 ·obtain rfl:[Ih]=ds:=Option.some.inj f1;simp only[JH,IZ,List.foldl_cons,List.foldl_nil,Ih,IJ,IU,Nat.reduceAdd,List.cons.injEq,true_and,and_true] at z1;obtain⟨rfl,rfl,rfl,rfl,rfl,rfl,rfl,rfl,rfl,rfl⟩:=z1;have gs:=hin (Ih) Ek;replace gs:(0:Int)<=a1/\a1<=4294967295:=gs;refine⟨?_,O⟩;simp only[if_true,show¬(9:Int)=11 from EZ,if_false];omega
 ·obtain rfl:[Ih,IC,Z0]=ds:=Option.some.inj f1;simp only[JH,IZ,List.foldl_cons,List.foldl_nil,IC,Z0,Ih,IJ,IU,Nat.reduceAdd,List.cons.injEq,true_and,and_true] at z1;obtain⟨rfl,rfl,rfl,rfl,rfl,rfl,rfl,rfl⟩:=z1;have gs:=hin (Ih) Ek;replace gs:(0:Int)<=a1/\a1<=4294967295:=gs;have ge:=hin (IC) Ek;replace ge:(0:Int)<=a4/\a4<=65535:=ge;have gm:=hin (Z0) Ek;replace gm:(0:Int)<=a5/\a5<=4:=gm;refine⟨?_,O⟩;simp only[if_true,show¬(10:Int)=11 from EZ,if_false];omega
 ·obtain rfl:[Ih,IC,ar,Jm 0,Jm 1,Jm 2,Jm 3]=ds:=Option.some.inj f1;simp only[JH,IZ,List.foldl_cons,List.foldl_nil,Jm,ar,IC,Ih,IJ,IU,Nat.reduceAdd,List.cons.injEq,true_and,and_true] at z1;obtain⟨rfl,rfl,rfl,rfl⟩:=z1;have gs:=hin (Ih) Ek;replace gs:(0:Int)<=a1/\a1<=4294967295:=gs;have ge:=hin (IC) Ek;replace ge:(0:Int)<=a4/\a4<=65535:=ge;have gc:=hin (ar) Ek;replace gc:(1:Int)<=a6/\a6<=3:=gc;have Nl:=hin (Jm 0) Ek;replace Nl:(-32768:Int)<=a8/\a8<=32767:=Nl;have Nm:=hin (Jm 1) Ek;replace Nm:(-32768:Int)<=a9/\a9<=32767:=Nm;have Nn:=hin (Jm 2) Ek;replace Nn:(-32768:Int)<=Oq/\Oq<=32767:=Nn;have Np:=hin (Jm 3) Ek;replace Np:(-32768:Int)<=Jt/\Jt<=32767:=Np;refine⟨?_,O⟩;simp only[if_true];omega
structure Ch where
 tab:EM
 msg:List Int
 code:Int
def Zr(T:EM)(i:Nat)(bs:List Int):Ch:=match cI bs with
 |none=>⟨T,IZ 0,13⟩
 |some l=>if l.getD 0 0=1\/l.getD 0 0=2 then⟨T,IZ 0,13⟩
  else if(Xc (T.ER i).win (l.getD 1 0).toNat).2 then⟨T.put i ⟨G,0,max T.E3 0,(T.ER i).r,(T.ER i).key,(Xc (T.ER i).win (l.getD 1 0).toNat).1⟩,l,0⟩
  else⟨T,IZ 0,15⟩
def qW(key:List Int)(src:Int)(xs:List Int):Prop:=8<=xs.length/\xs=xs.take (xs.length-8)++ao key src (xs.take (xs.length-8))
instance(key:List Int)(src:Int)(xs:List Int):Decidable (qW key src xs):=by unfold qW;exact inferInstance
def EM.take(T:EM)(src:Int)(xs:List Int):Ch:=
 if(src=1\/src=2\/src=3)/\(T.ER (src-1).toNat).on=G then
  (if qW (T.ER (src-1).toNat).key src xs then Zr T (src-1).toNat (xs.take (xs.length-8)) else⟨T,IZ 0,14⟩)
 else⟨T,IZ 0,16⟩
def Nq(o:Ch)(g:Nat)(w:H)(e:Ending)(w':H):Prop:=e=Eg (Es #[EU (ED o.msg),E I o.code])/\EV w' g o.tab/\EG g w w'
theorem Nr(hb: ∀x∈bs,0<=x/\x<=255)(h:cI bs=X l):0<=l.getD 1 0/\l.getD 1 0<=4294967295:=by
 obtain⟨hp,hl,-⟩:=Cd hb h;match l,hl with
 |[a0,a1,a2,a3,a4,a5,a6,a7,a8,a9,Oq,Jt],_=> obtain⟨hf,-⟩:=Nk a0 a1 a2 a3 a4 a5 a6 a7 a8 a9 Oq Jt bs hp;exact((Cg _ _ _ _ _ _ _ _ _ _ _).1 hf).2.2.2.2.2.1
theorem Ci(pre old post:List M)(o n:Nat)(ho:pre.length=o)(hn:old.length=n):(pre++(old++post)).toArray.extract o (o+n)=old.toArray:=by subst ho hn;simp
theorem EOu(T:EM)(h:T.ok)(i:Nat):T.v.toArray.extract (so i+4) (so i+4+32)=Ej (T.ER i).key:=by rw[T.nm i];have e:T.pre i++((T.ER i).v++T.post i)=(T.pre i++(Oh (T.ER i).on (T.ER i).a (T.ER i).m++[E I (T.ER i).r]))++((T.ER i).key.map (E .u8)++(JQ (T.ER i).win++T.post i)):=wn;rw[e];exact Ci _ _ _ _ _ (by simp[EM.kh h i,Oh]) (by simp[(h.ER i).len])
theorem EOv(T:EM)(h:T.ok)(i:Nat):T.v.toArray.extract (so i+36) (so i+36+3)=(JQ (T.ER i).win).toArray:=by rw[T.nm i];have e:T.pre i++((T.ER i).v++T.post i)=(T.pre i++(Oh (T.ER i).on (T.ER i).a (T.ER i).m++([E I (T.ER i).r]++(T.ER i).key.map (E .u8))))++(JQ (T.ER i).win++T.post i):=wn;rw[e];exact Ci _ _ _ _ _ Ns (nk _)
theorem EOw{W:H}{T:EM}(K:EV W g T)(h:T.ok)(i:Nat)(v:Option (Nat×Nat)): EV (W.setCells g (so i+36) (JQ v)) g (T.put i {T.ER i with win:=v}):=by unfold EV at*;rw[T.nm i] at K;rw[T.pT i];have e1:T.pre i++((T.ER i).v++T.post i)=(T.pre i++(Oh (T.ER i).on (T.ER i).a (T.ER i).m++([E I (T.ER i).r]++(T.ER i).key.map (E .u8))))++(JQ (T.ER i).win++T.post i):=wn;have e2:T.pre i++(({T.ER i with win:=v}:IM).v++T.post i)=(T.pre i++(Oh (T.ER i).on (T.ER i).a (T.ER i).m++([E I (T.ER i).r]++(T.ER i).key.map (E .u8))))++(JQ v++T.post i):=wn;rw[e1] at K;rw[e2];exact Xg _ _ _ _ W K (by rw[nk,nk]) Ns
theorem EM.EOx(T:EM)(i:Nat)(a:IM):(T.put i a).E3=T.E3/\(T.put i a).most=T.most:=by
 match i with
 |0=>exact⟨O,O⟩
 |1=>exact⟨O,O⟩
 |_+2=>exact⟨O,O⟩
theorem wt:ID EJ 158 3:=⟨⟨_,Tryz.underlying158,O⟩,Ec⟩
theorem EOy:Og EJ 158 (JQ Z).toArray:=by intro ev o w ho;unfold execOp;simp only[ho];simp[go_sem];exact congrArg (fun c=>w.alloc (EI c 158)) Ec
theorem EOz(v:Option (Nat×Nat))(q:Int)(h0:0<=q)(h1:q<=4294967295)(hv:nU v)(W:H): Ef EJ 126 #[EU (JQ v).toArray,E I q] W fun e w'=>e=Eg (Es #[EU (JQ (Xc v q.toNat).1).toArray,Eb (Xc v q.toNat).2])/\Eh W w':=by have h:=Wq v q.toNat W hv U;rw[Kd,Kd,Int.toNat_of_nonneg h0] at h;exact h
def wu(b0 g o g11:Nat)(wc OV:Array M)(q:Int)(f:Bool)(i:Nat)(v:M)(w:H):Prop:=match i with
 |0=>v=V (X ⟨g,o,Z⟩)
 |1=>v=V (X ⟨g,o,Z⟩)
 |2=>v=V (X ⟨g,o+36,Z⟩)
 |3=>v=EU wc
 |4=>v=V (X ⟨g11,1,Z⟩)
 |5=>v=E I q
 |6=>v=Es #[EU OV,Eb f]
 |7=>v=Es #[EU OV,Eb f]
 |8=>v=EU OV
 |9=>v=Eb f
 |10=> ∃(g12:Nat) (c:Array M),v=V (X ⟨g12,0,Z⟩)/\b0<=g12/\c.size=OV.size/\D w g12 c 158
 |_=>v=Eb f
theorem EOA(b0 g o g11:Nat)(wc OV:Array M)(q:Int)(f:Bool): ∀i v w w',i<13->wu b0 g o g11 wc OV q f i v w->i7 b0 158 OV w w'->wu b0 g o g11 wc OV q f i v w':=by
 intro i v w w' hi h hb;unfold wu at*;split at h;case h_11=> obtain⟨g12,c,e,l1,hs,k⟩:=h;obtain⟨c',hs',k'⟩:=WY hb k hs;exact⟨g12,c',e,l1,hs',k'⟩
 all_goals exact h
def Cj(b0:Nat)(OV:Array M)(v:M)(w:H):Prop:= ∃g12:Nat,v=V (X ⟨g12,0,Z⟩)/\b0<=g12/\D w g12 OV 158
theorem EOB(b0:Nat)(OV:Array M): ∀v w w',Cj b0 OV v w->i7 b0 158 OV w w'->Cj b0 OV v w':=by rintro v w w' ⟨g12,e,l,k⟩ hb;exact⟨g12,e,l,W_ hb k⟩
theorem Nt(v:Option (Nat×Nat)):(JQ v).toArray.all (·.oneCell')=G:=by rcases v with _|⟨h,q⟩<;>simp[JQ,Value.oneCell']
theorem Nu{v:Option (Nat×Nat)}{q:Nat}(hv:nU v)(hq:q<=4294967295):nU (Xc v q).1:=by
 rcases v with _|⟨h,s⟩;·exact⟨hq,EZ⟩
 ·obtain⟨h1,h2⟩:=hv;by_cases c1:h<q
  ·have e:Xc (X (h,s)) q=(X (q,(s*2^(q-h))%2^64|||1),G):=by simp only[Xc,if_pos c1]
   rw[e];exact⟨hq,Nat.or_lt_two_pow (Nat.mod_lt _ EZ) EZ⟩
  ·by_cases c2:h-q<64
   ·have e:Xc (X (h,s)) q=(X (h,s|||2^(h-q)),!s.testBit (h-q)):=by simp only[Xc,if_neg c1,if_pos c2]
    rw[e];exact⟨h1,Nat.or_lt_two_pow h2 (Nat.pow_lt_pow_right EZ c2)⟩
   ·have e:Xc (X (h,s)) q=(X (h,s),Y):=by simp only[Xc,if_neg c1,if_neg c2]
    rw[e];exact⟨h1,h2⟩
theorem EOC(g:Nat)(T:EM)(src:Int)(xs:List Int)(Y4:Option Et)(n c:Nat)(w:H)(K:EV w g T)(h:T.ok)(hn:xs.length=n)(hnc:n<=c)(hc:c<=9223372036854775807)(hs:n<=1000)(hr:Row w Y4 xs)(hR:Jc w): Ef EJ 88 #[V (X ⟨g,0,Z⟩),E I src,u Y4 n c] w (Nq (T.take src xs) g w):=by
 have lg0:=D.lt K;have CO:=J<|fun W (k:D W g T.v.toArray 163)=>kD g T src W k h;have KT:Ea (D w g T.v.toArray 163):=J K;have RT:=J hR;have HR:=J hr;have HH:=J h;obtain⟨R,hRR⟩:=En (T.take src xs);rw[<-hRR];have PO:Ea (∀(e:Ending) (w':H) (l:List Int) (k:Int) (T2:EM),R=⟨T2,l,k⟩->e=Eg (Es #[EU (ED l),E I k])->EV w' g T2->EG g w w'->Nq R g w e w'):=J (by intro e w' l k T2 hR he hk ho;subst hR;exact⟨he,hk,ho⟩);rcases vq T g src with⟨e1,e2,-⟩|⟨i,hi,es,hon,e1,-,-⟩
 ·have hR0:R=⟨T,IZ 0,16⟩:=by rw[hRR];unfold EM.take;rw[if_neg];rintro⟨hs,ho⟩;have:=e2 U U;unfold EM.ZW at this;rw[if_neg U,if_neg U,if_pos hs,ho] at this;cases this
  rw[e1] at CO;have PF:=J<|fun e w' he hk ho=>PO.out e w' _ _ _ hR0 he hk ho;clear hR0 hRR e1 e2 K h hr hR PO;go_enter Tryz.func88,Tryz.ntmps88;go_wp2_with (with_reducible refine wA dn (Ed.mk ?_));refine Ed.in ?_;have K2:=J<|D.new w (ED (IZ 0)) 183;have b1:=Eo w (EI (ED (IZ 0)) 183);replace KT:=J<|KT.out.B b1;replace RT:=J<|RT.out.B b1;replace HR:=J<|Iq HR.out b1;have ON:Ea (EG g w (w.alloc (EI (ED (IZ 0)) 183))):=J<|EG.Eu b1;generalize w.alloc (EI (ED (IZ 0)) 183)=w1 at*;clear b1;go_wp2_with fail;(with_reducible refine(CO.out _ KT.out).mono ?_);rintro e w' ⟨rfl,rfl⟩;clear CO;go_wp2_with (first|((with_reducible refine In 19 ?_);refine IP rfl 183 _ rfl (ED (IZ 0)) fD ?_)|(with_reducible refine wS (cs:=(ED (IZ 0))) Oc K2 ?_ (ho:=I4 _) (hn:=I4 _) (h1:=XG _)));refine EQ (v:=Es #[EU (ED (IZ 0)),E I 16]) (ax Oc O _ _ w.heap.size _ _ O O (K2.out.setRow _) (I4 _)) O ?_;exact EiO
 ·have e2:(src-1).toNat=i:=U;have hs3:src=1\/src=2\/src=3:=U;have hR0:R=if qW (T.ER i).key src xs then Zr T i (xs.take (xs.length-8)) else⟨T,IZ 0,14⟩:=by rw[hRR];unfold EM.take;rw[e2,if_pos ⟨hs3,hon⟩]
  rw[e1] at CO;have hso:=h.ER i;obtain⟨key,hkey⟩:=En ((T.ER i).key);have TK:=EOu T h i;rw[<-hkey] at hR0 TK;have hkl:key.length=32:=by rw[hkey];exact hso.len
  have hkb: ∀x∈key,0<=x/\x<=255:=by rw[hkey];exact hso.bytes
  replace TK:=J TK;have nV:=J hR0;have aj:=J hkl;have jc:=J hkb;have HKEY:=J hkey;have HN:=J hn;have hks:Ea ((Ej key).size=32):=J (by rw[JV,hkl]);obtain⟨o,ho⟩:=En (so i);rw[<-ho] at CO TK;have HO:=J ho;have HON:=J hon;clear hRR e1 e2 hs3 K h hr hR hkl hkb hkey hn hR0 ho hon hso es;go_enter Tryz.func88,Tryz.ntmps88;go_wp2_with (with_reducible refine wA dn (Ed.mk ?_));refine Ed.in ?_;have K2:=J<|D.new w (ED (IZ 0)) 183;have b1:=Eo w (EI (ED (IZ 0)) 183);replace KT:=J<|KT.out.B b1;replace RT:=J<|RT.out.B b1;replace HR:=J<|Iq HR.out b1;have ON:Ea (EG g w (w.alloc (EI (ED (IZ 0)) 183))):=J<|EG.Eu b1;generalize w.alloc (EI (ED (IZ 0)) 183)=w1 at*;clear b1;go_wp2_with fail;(with_reducible refine(CO.out _ KT.out).mono ?_);rintro e w' ⟨rfl,rfl⟩;clear CO;obtain⟨kv,hkv⟩:=En (Ej key);rw[<-hkv] at hks TK;replace hkv:=J hkv;by_cases hn8:n<8
  ·have jj:R=⟨T,IZ 0,14⟩:=by rw[nV.out,if_neg];rintro⟨h8,-⟩;rw[HN.out] at h8;omega
   have PF:=J<|fun e w' he hk ho=>PO.out e w' _ _ _ jj he hk ho;clear jj;go_wp2_with (with_reducible refine wM (off:=(o+4)) (cs:=kv) JC KT ?_ (hn:=hks.out) (he:=TK.out));rw[hkv.out];(with_reducible refine(EJh key Y4 n c src _ hn8).mono ?_);exact EmB
  obtain⟨m,rfl⟩: ∃m,n=m+8:=⟨n-8,U⟩;have em:xs.length-8=m:=ky;by_cases hx:xs=xs.take m++ao key src (xs.take m)
  ·have jj:R=Zr T i (xs.take m):=by rw[nV.out,if_pos,em];unfold qW;rw[em,HN.out];exact⟨U,hx⟩
   have HR1:=J jj;clear jj;go_wp2_with (with_reducible refine wM (off:=(o+4)) (cs:=kv) JC KT ?_ (hn:=hks.out) (he:=TK.out));rw[hkv.out];(with_reducible refine(EJj key xs Y4 m c src _ aj.out jc.out HN.out HR.out U U RT.out hx).mono ?_);rintro e w2 ⟨⟨A3,d3,rfl,o3⟩,b2⟩;have O3:=J o3;have Ck:Ea ((xs.take m).length=m):=J (by rw[List.length_take,HN.out];omega);clear hx o3;replace K2:=J<|K2.out.B b2;replace KT:=J<|KT.out.B b2;replace ON:=J<|ON.out.trans (EG.Eu b2);replace RT:=J<|RT.out.B b2;clear b2;obtain⟨bs,hbs⟩:=En (xs.take m);rw[<-hbs] at O3 Ck HR1;clear hbs;have hcap:=EOc O3.out;rw[Ck.out] at hcap;have CT:=J<|Cc bs A3 m d3 Ck.out hcap.1 hcap.2 _ O3.out.row;have wl:=J O3.out.2;clear hcap;go_wp2_with fail;(with_reducible refine(CT.out).mono ?_);rintro e w3 ⟨hpost,b3⟩;clear CT O3;replace K2:=J<|K2.out.B b3;replace KT:=J<|KT.out.B b3;replace ON:=J<|ON.out.trans (EG.Eu b3);replace RT:=J<|RT.out.B b3;clear b3;cases htk:cI bs with
   |none=>
    rw[htk] at hpost;obtain rfl:=hpost;have hR2:R=⟨T,IZ 0,13⟩:=by rw[HR1.out];unfold Zr;rw[htk]
    have PF:=J<|fun e w' he hk ho=>PO.out e w' _ _ _ hR2 he hk ho;clear htk hR2;go_wp2_with (with_reducible refine wA dn (Ed.mk ?_));refine Ed.in ?_;have l2:=K2.out.lt;have lt:=KT.out.lt;have lr:=RT.out.lt;have b4:=Eo w3 (EI (ED (IZ 0)) 183);replace K2:=J<|K2.out.B b4;replace KT:=J<|KT.out.B b4;replace ON:=J<|ON.out.trans (EG.Eu b4);replace RT:=J<|RT.out.B b4;have IH:=J<|D.new w3 (ED (IZ 0)) 183;clear b4;generalize w3.alloc (EI (ED (IZ 0)) 183)=w4 at*;generalize w3.heap.size=g11 at*;have qY:=ON.out.size;have Cl:w.heap.size<=g11:=U;go_wp2_with (with_reducible refine wS (cs:=(ED (IZ 0))) Oc IH (Ed.mk ?_) (ho:=I4 _) (hn:=I4 _) (h1:=XG _));refine Ed.in ?_;replace K2:=J<|K2.out.setRow_other g11 (ED (IZ 0)) U;replace KT:=J<|KT.out.setRow_other g11 (ED (IZ 0)) U;replace IH:=J<|IH.out.setRow (ED (IZ 0));replace RT:=J<|RT.out.setRow g11 (ED (IZ 0)) U;replace ON:=J<|ON.out.U7 (g2:=g11) Cl (Zo (ED (IZ 0))) qY;generalize w4.setRow g11 (ED (IZ 0))=w5 at*;clear qY;exact EiI
   |some l=>
    rw[htk] at hpost;obtain rfl:=hpost;have wv:=Nr wl.out htk;have fF:=J htk;clear htk;go_wp2_with (with_reducible refine wA dn (Ed.mk ?_));refine Ed.in ?_;have l2:=K2.out.lt;have lt:=KT.out.lt;have lr:=RT.out.lt;have b4:=Eo w3 (EI (ED (IZ 0)) 183);replace K2:=J<|K2.out.B b4;replace KT:=J<|KT.out.B b4;replace ON:=J<|ON.out.trans (EG.Eu b4);replace RT:=J<|RT.out.B b4;have IH:=J<|D.new w3 (ED (IZ 0)) 183;clear b4;generalize w3.alloc (EI (ED (IZ 0)) 183)=w4 at*;generalize w3.heap.size=g11 at*;have qY:=ON.out.size;have Cl:w.heap.size<=g11:=U;go_wp2_with (with_reducible refine wS (cs:=(ED l)) Oc IH (Ed.mk ?_) (ho:=I4 _) (hn:=I4 _) (h1:=XG _));refine Ed.in ?_;replace K2:=J<|K2.out.setRow_other g11 (ED l) U;replace KT:=J<|KT.out.setRow_other g11 (ED l) U;replace IH:=J<|IH.out.setRow (ED l);replace RT:=J<|RT.out.setRow g11 (ED l) U;replace ON:=J<|ON.out.U7 (g2:=g11) Cl (Zo (ED l)) qY;generalize w4.setRow g11 (ED l)=w5 at*;clear qY;have c0:w5.cell? ⟨g11,0,Z⟩=X (E I (l.getD 0 0)):=(IH.out.cell 0).trans (Xj l 0 U);obtain⟨kd,hkd⟩:=En (l.getD 0 0);rw[<-hkd] at c0;by_cases h12:kd=1\/kd=2
    ·have hR2:R=⟨T,IZ 0,13⟩:=by rw[HR1.out];unfold Zr;rw[fF.out];simp only;rw[<-hkd,if_pos h12]
     have PF:=J<|fun e w' he hk ho=>PO.out e w' _ _ _ hR2 he hk ho;clear hR2 hkd;rcases h12 with rfl|rfl;·exact EiI
     ·exact EiI
    have n1:(kd==1)=Y:=beq_eq_false_iff_ne.2 (fun h=>h12 (.inl h));have n2:(kd==2)=Y:=beq_eq_false_iff_ne.2 (fun h=>h12 (.inr h));have hR2:R=if(Xc (T.ER i).win (l.getD 1 0).toNat).2 then⟨T.put i ⟨G,0,max T.E3 0,(T.ER i).r,(T.ER i).key,(Xc (T.ER i).win (l.getD 1 0).toNat).1⟩,l,0⟩ else⟨T,IZ 0,15⟩:=by rw[HR1.out];unfold Zr;rw[fF.out];simp only;rw[<-hkd,if_neg h12]
    obtain⟨q,hq⟩:=En (l.getD 1 0);rw[<-hq] at hR2 wv;have c1:Ea ((ED l)[1]?=X (E I q)):=J (by rw[hq];exact Xj l 1 U);have CW:=J<|fun W=>EOz (T.ER i).win q wv.1 wv.2 (HH.out.ER i).win W;have TW:=J<|EOv T HH.out i;rw[<-HO.out] at TW;obtain⟨v2,hv2⟩:=En (Xc (T.ER i).win q.toNat);rw[<-hv2] at hR2 CW;have Nv:nU v2.1:=by rw[hv2];exact Nu (HH.out.ER i).win U
    obtain⟨nw,fr⟩:=v2;have EOF:=J Nv;clear Nv;obtain⟨wc,hwc⟩:=En ((JQ (T.ER i).win).toArray);obtain⟨OV,ww⟩:=En ((JQ nw).toArray);simp only at hR2 CW;rw[<-hwc,<-ww] at CW;rw[<-hwc] at TW;have SW:Ea (wc.size=3):=J (by rw[hwc];exact nk _);have nW:Ea (OV.size=3):=J (by rw[ww];exact nk _);have Cm:=J ww;have HR2:=J hR2;clear hkd wv hq hv2 hwc ww hR2 h12;go_wp2_with fail;clear c0 n1 n2;have EOG:=IH.out.lt;have ltg:=KT.out.lt;have W1:=J<|Nt nw;rw[<-Cm.out] at W1;refine WV (dO (b0:=w5.heap.size) (T:=158) (cs:=OV)) Ec 13 Ec Ek EZ (RX (wu w5.heap.size g o g11 wc OV q fr) 11 10 (Cj w5.heap.size OV)) (RX.keep (EOA _ _ _ _ _ _ _ _) (EOB _ _)) (RX.dep (p6 Ec)) ?_ ?_
    ·simp only[ku,Il,Ij,EB,Ic,Ig,IJ,IU,and_true];refine⟨?_,?_,?_,?_,?_,?_,?_,?_,?_,?_,?_,?_,?_⟩;all_goals intro v w' hb hd
     ·exact Ir dO (Ei O) Ew O
     ·have d0:v 0=V (X ⟨g,o,Z⟩):=hd.at 0 rfl;exact Ir dO (Ei O) OQ O
     ·have d1:v 1=V (X ⟨g,o,Z⟩):=hd.at 1 rfl;exact Ir dO (Ei O) UK O
     ·have d2:v 2=V (X ⟨g,o+36,Z⟩):=hd.at 2 rfl;exact ah dO wt (Ei O) ⟨O,d2⟩ (Kl hb KT.out (.inl ltg)) SW.out TW.out O
     ·exact Ir dO (Ei O) Ew O
     ·have d4:v 4=V (X ⟨g11,1,Z⟩):=hd.at 4 rfl;have cc:w'.cell? ⟨g11,1,Z⟩=X (E I q):=(D.cell (Kl hb IH.out (.inl EOG)) 1).trans c1.out;exact Ir dO (Ei O) Cn O
     ·have d3:v 3=EU wc:=hd.at 3 rfl;have d5:v 5=E I q:=hd.at 5 rfl;refine IY (f:=126) (args:= #[v 3,v 5]) (Ei O) Ew ?_;rw[d3,d5];exact(CW.out w').mono fun e w'' ⟨he,hb'⟩=>⟨_,he,Kk hb',O⟩
     ·have d6:v 6=Es #[EU OV,Eb fr]:=hd.at 6 rfl;exact Ir dO (Ei O) lJ O
     ·exact Ema
     ·exact Ema
     ·exact XD (Ei O) (EOy _ _ _ O) (Kk (Eo w' _)) ⟨_,_,O,hb.1,(show(JQ Z).toArray.size=OV.size by rw[nW.out];rfl),D.new _ _ _⟩
     ·obtain⟨g12,c,d10,Co,hs,k12⟩: ∃(g12:Nat) (c:Array M),v 10=V (X ⟨g12,0,Z⟩)/\w5.heap.size<=g12/\c.size=OV.size/\D w' g12 c 158:=hd.at 10 rfl;have d8:v 8=EU OV:=hd.at 8 rfl;exact ag wt (Ei O) ⟨O,d10,d8⟩ k12 (hs.trans nW.out) nW.out W1.out (WW k12 Co hs) ⟨g12,d10,Co,k12.setRow OV⟩
     ·have d9:v 9=Eb fr:=hd.at 9 rfl;exact Ir dO (Ei O) lX O
    ·intro v w7 hb hr;obtain⟨g12,d10,Co,fG⟩: ∃g12:Nat,v 10=V (X ⟨g12,0,Z⟩)/\w5.heap.size<=g12/\D w7 g12 OV 158:=hr 11 U;have d8:v 8=EU OV:=hr 8 U;have d12:v 12=Eb fr:=hr 12 U;simp only[Il,Ij,Iz,Ix,EB,Ic,Ig,IJ,IU];rw[d10,d12];replace fG:=J fG;have hb5:=hb.2.1 (E5 _);replace K2:=J<|K2.out.B hb5;replace KT:=J<|KT.out.B hb5;replace ON:=J<|ON.out.trans (EG.Eu hb5);replace RT:=J<|RT.out.B hb5;replace IH:=J<|IH.out.B hb5;clear hr hb hb5 d8 d10 d12 CW c1 TW RT W1;cases fr with
     |false=>
      have q_:R=⟨T,IZ 0,15⟩:=by rw[HR2.out];rfl
      have PF:=J<|fun e w' he hk ho=>PO.out e w' _ _ _ q_ he hk ho;clear q_;go_wp2_with (first|((with_reducible refine In 63 ?_);refine IP rfl 183 _ rfl (ED (IZ 0)) fD ?_)|(with_reducible refine wS (cs:=(ED (IZ 0))) Oc K2 ?_ (ho:=I4 _) (hn:=I4 _) (h1:=XG _)));refine EQ (v:=Es #[EU (ED (IZ 0)),E I 15]) (ax Oc O _ _ w.heap.size _ _ O O (K2.out.setRow _) (I4 _)) O ?_;exact EiO
     |true=>
      have q_:R=⟨T.put i ⟨G,0,max T.E3 0,(T.ER i).r,(T.ER i).key,nw⟩,l,0⟩:=by rw[HR2.out];rfl
      have PF:=J<|fun e w' he hk ho=>PO.out e w' _ _ _ q_ he hk ho;clear q_;have TH:Ea (w7.there g (o+36) 3):=J<|UR KT.out (by rw[qp KT.out HH.out,HO.out];have:=AG i;omega);have K8:=J<|EOw KT.out HH.out i nw;have rE:=J<|ON.out.trans (JX (g:=g) (JQ nw) (so i+36) w7);have rI:Ea (D (w7.setCells g (so i+36) (JQ nw)) w.heap.size (ED (IZ 0)) 183):=J<|(JX (g:=g) (JQ nw) (so i+36) w7).Em K2.out U;have rJ:Ea (D (w7.setCells g (so i+36) (JQ nw)) g11 (ED l) 183):=J<|(JX (g:=g) (JQ nw) (so i+36) w7).Em IH.out U;rw[<-HO.out] at K8 rE rI rJ;have ew:OV.toList=JQ nw:=by rw[Cm.out]
      replace ew:=J ew;go_wp2_with (first|(with_reducible refine wL wt fG ?_ (hn:=nW.out))|((with_reducible refine JI 158 ?_);(with_reducible refine wpList_store_mid rfl 158 _ _ rfl g (o+36) OV ?_ ?_ ?_ ?_ ?_ ?_);(·rfl);(·rfl);(·rw[nW.out];exact TH.out);(·rw[nW.out];exact wt.2);(·rw[Cm.out];exact Nt nw);refine Ed.mk ?_));refine Ed.in ?_;rw[ew.out];generalize w7.setCells g (o+36) (JQ nw)=w8 at*;clear fG TH KT K2 IH ON;have hok2:=(HH.out).put i (s:={T.ER i with win:=nw}) ⟨(HH.out.ER i).len,(HH.out.ER i).bytes,EOF.out⟩;have cb: ∀y:Ext w8,(Ex w8 y).cell? ⟨g,120,Z⟩=X (E I T.E3):=fun y=>by have:=(dg (EV.B K8.out (EC y)) hok2).1;rwa [(EM.EOx _ _ _).1] at this
      have KH:Ea (D w8 g (T.pre i++([Value.bool (T.ER i).on,E I (T.ER i).a,E I (T.ER i).m]++(([E .i64 (T.ER i).r]++((T.ER i).key.map (E .u8)++JQ nw))++T.post i))).toArray 163):=J (by have:=K8.out;unfold EV at this;rw[T.pT i] at this;simpa[IM.v,Oh] using this);have CH:=J<|fun W (k:D W g (T.pre i++([Value.bool (T.ER i).on,E I (T.ER i).a,E I (T.ER i).m]++(([E .i64 (T.ER i).r]++((T.ER i).key.map (E .u8)++JQ nw))++T.post i))).toArray 163)=>dJ g o (T.pre i) _ _ _ _ 163 T.E3 W k (by rw[HO.out];exact EM.kh HH.out i);have HP:Ea (∀w',D w' g (T.pre i++(Oh G 0 (max T.E3 0)++(([E .i64 (T.ER i).r]++((T.ER i).key.map (E .u8)++JQ nw))++T.post i))).toArray 163->EV w' g (T.put i ⟨G,0,max T.E3 0,(T.ER i).r,(T.ER i).key,nw⟩)):=J (fun w' k=>by unfold EV;rw[T.pT i];simpa[IM.v] using k);generalize T.E3=E3 at*;go_wp2_with fail;refine JB 7 Ec Ec ?_;simp only[Il,Ij,Iz,Ix]
      repeat (first
       |go_big_quiet_skip
       |(go_big_quiet_want
         first
          |(go_big_quiet_op
            first
             |go_big_quiet_on
             |go_big_quiet_call ((fail)))))
      refine wpQuiet_nil ?_;intro _ hw';obtain⟨y9,rfl⟩:=hw';have El:=EC y9;replace KH:=J<|KH.out.B El;replace rI:=J<|rI.out.B El;replace rJ:=J<|rJ.out.B El;replace rE:=J<|rE.out.trans (EG.Eu El);clear cb El K8;generalize Ex w8 y9=w9 at*;go_wp2_with fail;(with_reducible refine(CH.out _ KH.out).mono ?_);rintro e UD ⟨rfl,k10,kw⟩;have KT:=J<|HP.out _ k10;have K2:=J<|kw.Em rI.out U;have IH:=J<|kw.Em rJ.out U;have ON:=J<|rE.out.trans kw;clear CH KH rI rJ rE kw k10 HP;go_wp2_with (with_reducible first|refine wL Oc IH ?_ (hn:=I4 _)|refine wS (cs:=(ED l)) Oc K2 ?_ (ho:=I4 _) (hn:=I4 _) (h1:=XG _));refine EQ (v:=Es #[EU (ED l),E I 0]) (ax Oc O _ _ w.heap.size _ _ O O (K2.out.setRow _) (I4 _)) O ?_;exact EiO
  ·have jj:R=⟨T,IZ 0,14⟩:=by rw[nV.out,if_neg];rintro⟨-,h8⟩;rw[em] at h8;exact hx h8
   have PF:=J<|fun e w' he hk ho=>PO.out e w' _ _ _ jj he hk ho;clear jj;go_wp2_with (with_reducible refine wM (off:=(o+4)) (cs:=kv) JC KT ?_ (hn:=hks.out) (he:=TK.out));rw[hkv.out];(with_reducible refine(EJi key xs Y4 m c src _ aj.out jc.out HN.out HR.out U U RT.out hx).mono ?_);exact EmB
def dp(E3 most:Int):EM:=⟨Y,0,0,JU,JU,JU,E3,most⟩
theorem EOK(E3 most:Int):(dp E3 most).ok:=⟨pS,pS,pS⟩
theorem EOL(E3 most:Int):Tryz.prog.built 163 [(2,E I E3),(3,E I most)]=X (dp E3 most).v.toArray:=Ec
theorem EOM(pv:Array M)(E3 most:Int)(w:H)(hs:pv.size=56)(hb:pv[42]?=X (E I E3))(hm:pv[49]?=X (E I most)): Ef EJ 43 #[EU pv] w fun e w'=> ∃g,w.heap.size<=g/\e=Eg (V (X ⟨g,0,Z⟩))/\EV w' g (dp E3 most)/\Eh w w':=by
 have BT:=J<|EOL E3 most;have K0:=J<|D.new w pv 28;have c1:(w.alloc (EI pv 28)).cell? ⟨w.heap.size,42,Z⟩=X (E I E3):=by rw[K0.out.cell,hb]
 have c2:(w.alloc (EI pv 28)).cell? ⟨w.heap.size,49,Z⟩=X (E I most):=by rw[K0.out.cell,hm]
 have HE:Ea (∀x,x=(dp E3 most).v.toArray-> ∀W g,D W g x 163->EV W g (dp E3 most)):=J fun x hx W g k=>by rw[hx] at k;exact k
 obtain⟨tv,IE⟩:=En ((dp E3 most).v.toArray);rw[<-IE] at BT;replace HE:=J<|HE.out tv IE;clear IE hb hm;go_enter Tryz.func43,Tryz.ntmps43;go_wp2_with (first|((with_reducible refine In 7 ?_);refine IP rfl 163 _ rfl tv BT.out ?_));go_ret;exact⟨w.heap.size+1,U,O,HE.out _ _ (D.new' _ _ _ Ek),JF w _ _⟩
def IS(l:List Int):Array M:=(l.map (E .i64)).toArray
theorem nY(l:List Int):(IS l).all (·.oneCell')=G:=by simp[IS,Value.oneCell']
theorem wy:ID EJ 176 10:=⟨⟨_,Tryz.underlying176,O⟩,Ec⟩
theorem n_:ID EJ 206 2:=⟨⟨_,Tryz.underlying206,O⟩,Ec⟩
theorem Nw:ID EJ 207 12:=⟨⟨_,Tryz.underlying207,O⟩,Ec⟩
theorem EON:ID EJ 58 6:=⟨⟨_,Tryz.underlying58,O⟩,Ec⟩
theorem Cp:Og EJ 176 (Ej (Er 10)):=by intro ev o w ho;unfold execOp;simp only[ho];simp[go_sem];exact congrArg (fun c=>w.alloc (EI c 176)) Ec
theorem oE:Og EJ 206 (IS (Er 2)):=by intro ev o w ho;unfold execOp;simp only[ho];simp[go_sem];exact congrArg (fun c=>w.alloc (EI c 206)) Ec
theorem EOP:Og EJ 207 (IS (Er 12)):=by intro ev o w ho;unfold execOp;simp only[ho];simp[go_sem];exact congrArg (fun c=>w.alloc (EI c 207)) Ec
theorem EOQ: ∃i,Tryz.prog.info? 206=X i/\i.size=2:=by
 have h:(Tryz.prog.info? 206).map (·.size)=X 2:=Ec;cases hi:Tryz.prog.info? 206 with
 |none=>rw[hi] at h;cases h
 |some i=>rw[hi] at h;exact⟨i,O,Ou⟩
theorem oI(cs:Array M)(i:Nat)(h:i<6)(W:H):(Instr.index 207 (EU cs) (E I (i:Int))).run EJ W= .ok (EU (cs.extract (i*2) (i*2+2))) W:=by obtain⟨i0,hi,h1⟩:=EOQ;unfold Instr.index;have c1:(0:Int)<=(i:Int)/\(i:Int)<(6:Int):=U;simp[asIntOf,run_underlying Tryz.underlying207,c1,sizeOf,typeInfo,hi,h1,Go.part,isAgg,run_underlying Tryz.underlying206];omega
def cU(k s q e c h:Int):List Int:=be (k%256) 1++be (s%256) 1++be (q%4294967296) 4++be (e%65536) 2++be (c%256) 1++be (h%256) 1
theorem EOR(k s q e c h:Int):(cU k s q e c h).length=10:=by simp[cU,Oi]
theorem EOS(k s q e c h:Int): ∀x∈cU k s q e c h,0<=x/\x<=255:=by intro x hx;simp only[cU,List.mem_append] at hx;rcases hx with((((h|h)|h)|h)|h)|h<;>exact qk _ _ x h
theorem Cq(n:Int)(k:Nat)(m:Int)(hk:k<=63)(hm:IntKind.u64.wrap (IntKind.u64.wrap (2^k)-1)=m)(hd:(2:Int)^k∣18446744073709551616):bits .and .u64 (IntKind.u64.wrap n) m=n%2^k:=by
 have e:IntKind.u64.wrap n=n%18446744073709551616:=by unfold IntKind.wrap;rfl
 rw[e,<-hm,Lh k hk _ U U];exact Int.emod_emod_of_dvd n hd
theorem wz(n:Int):bits .and .u64 (IntKind.u64.wrap n) 255=n%256:=Cq n 8 255 U EZ EZ
theorem EOT(n:Int):bits .and .u64 (IntKind.u64.wrap n) 65535=n%65536:=Cq n 16 65535 U EZ EZ
theorem EOV(n:Int):bits .and .u64 (IntKind.u64.wrap n) 4294967295=n%4294967296:=Cq n 32 4294967295 U EZ EZ
theorem lf(p y:List Int)(n at_:Nat)(hp:p.length=at_):putAt (p++Er n) at_ y=(p++y)++Er (n-y.length):=by subst hp;unfold putAt Er;simp[List.drop_append]
theorem EOW(k s q e c h:Int)(w:H): Ef EJ 81 #[EU #[E I k,E I s,E I q,E I e,E I c,E I h]] w fun e' w'=>e'=Eg (EU (Ej (cU k s q e c h)))/\Eh w w':=by
 have BB:=J<|E6 w.heap.size w;go_enter Tryz.func81,Tryz.ntmps81;go_wp2_with (with_reducible refine wA Cp (Ed.mk ?_));refine Ed.in ?_;have KR:=J<|(D.new w #[E I k,E I s,E I q,E I e,E I c,E I h] 58).alloc (EI (Ej (Er 10)) 176);have K2:=J<|D.new' (w.alloc (EI #[E I k,E I s,E I q,E I e,E I c,E I h] 58)) (Ej (Er 10)) 176 (g:=w.heap.size+1) Ek;replace BB:=J<|JF w (EI #[E I k,E I s,E I q,E I e,E I c,E I h] 58) (EI (Ej (Er 10)) 176);generalize (w.alloc (EI #[E I k,E I s,E I q,E I e,E I c,E I h] 58)).alloc (EI (Ej (Er 10)) 176)=w1 at*;have g2e:w.heap.size<=w.heap.size+1:=Nat.le_succ _;generalize w.heap.size+1=g2 at*;have ck:=(I6 KR.out).1;have l1:=K2.out.lt;go_wp2_with (with_reducible refine wA EOP (Ed.mk ?_));refine Ed.in ?_;have bel:=Eo w1 (EI (IS (Er 12)) 207);replace KR:=J<|KR.out.B bel;replace K2:=J<|K2.out.B bel;replace BB:=ET BB bel;have K3:=J<|D.new w1 (IS (Er 12)) 207;clear bel;generalize w1.alloc (EI (IS (Er 12)) 207)=w2 at*;generalize w1.heap.size=g3 at*;clear ck;go_wp2_with (with_reducible refine wS (cs:= #[E I k,E I 1,E I s,E I 1,E I q,E I 4,E I e,E I 2,E I c,E I 1,E I h,E I 1]) Nw K3 (Ed.mk ?_) (h1:=OP));refine Ed.in ?_;replace KR:=J<|KR.out.setRow_other g3 (#[E I k,E I 1,E I s,E I 1,E I q,E I 4,E I e,E I 2,E I c,E I 1,E I h,E I 1]) U;replace K2:=J<|K2.out.setRow_other g3 (#[E I k,E I 1,E I s,E I 1,E I q,E I 4,E I e,E I 2,E I c,E I 1,E I h,E I 1]) U;replace K3:=J<|K3.out.setRow (#[E I k,E I 1,E I s,E I 1,E I q,E I 4,E I e,E I 2,E I c,E I 1,E I h,E I 1]);replace BB:=J<|E2 (g:=g3) BB.out U (#[E I k,E I 1,E I s,E I 1,E I q,E I 4,E I e,E I 2,E I c,E I 1,E I h,E I 1]);generalize w2.setRow g3 (#[E I k,E I 1,E I s,E I 1,E I q,E I 4,E I e,E I 2,E I c,E I 1,E I h,E I 1])=w3 at*;have l3:=K3.out.lt;go_wp2_with (with_reducible refine wA Cp (Ed.mk ?_));refine Ed.in ?_;have bel:=Eo w3 (EI (Ej (Er 10)) 176);replace KR:=J<|KR.out.B bel;replace K2:=J<|K2.out.B bel;replace K3:=J<|K3.out.B bel;replace BB:=ET BB bel;have K4:=J<|D.new w3 (Ej (Er 10)) 176;clear bel;generalize w3.alloc (EI (Ej (Er 10)) 176)=w4 at*;generalize w3.heap.size=g4 at*;clear KR;have K3c:Ea (D w4 g3 (#[E I k,E I 1,E I s,E I 1,E I q,E I 4,E I e,E I 2,E I c,E I 1,E I h,E I 1]) 207):=K3;go_wp2_with (with_reducible refine wL Nw K3 ?_);refine wp_loop_rounds 7 ?_;have l4:=K4.out.lt;have P0L:Ea ((([]:List Int)++Er 10).length=10):=J lj;have P0E:Ea (putAt (([]:List Int)++Er 10) 0 (be (k%256) 1)=(([]:List Int)++be (k%256) 1)++Er 9):=J (by rw[lf _ _ _ _ oJ,Oi]);have P1L:Ea (((([]:List Int)++be (k%256) 1)++Er 9).length=10):=J lj;have P1E:Ea (putAt ((([]:List Int)++be (k%256) 1)++Er 9) 1 (be (s%256) 1)=((([]:List Int)++be (k%256) 1)++be (s%256) 1)++Er 8):=J (by rw[lf _ _ _ _ oJ,Oi]);have P2L:Ea ((((([]:List Int)++be (k%256) 1)++be (s%256) 1)++Er 8).length=10):=J lj;have P2E:Ea (putAt (((([]:List Int)++be (k%256) 1)++be (s%256) 1)++Er 8) 2 (be (q%4294967296) 4)=(((([]:List Int)++be (k%256) 1)++be (s%256) 1)++be (q%4294967296) 4)++Er 4):=J (by rw[lf _ _ _ _ oJ,Oi]);have P3L:Ea (((((([]:List Int)++be (k%256) 1)++be (s%256) 1)++be (q%4294967296) 4)++Er 4).length=10):=J lj;have P3E:Ea (putAt ((((([]:List Int)++be (k%256) 1)++be (s%256) 1)++be (q%4294967296) 4)++Er 4) 6 (be (e%65536) 2)=((((([]:List Int)++be (k%256) 1)++be (s%256) 1)++be (q%4294967296) 4)++be (e%65536) 2)++Er 2):=J (by rw[lf _ _ _ _ oJ,Oi]);have P4L:Ea ((((((([]:List Int)++be (k%256) 1)++be (s%256) 1)++be (q%4294967296) 4)++be (e%65536) 2)++Er 2).length=10):=J lj;have P4E:Ea (putAt (((((([]:List Int)++be (k%256) 1)++be (s%256) 1)++be (q%4294967296) 4)++be (e%65536) 2)++Er 2) 8 (be (c%256) 1)=(((((([]:List Int)++be (k%256) 1)++be (s%256) 1)++be (q%4294967296) 4)++be (e%65536) 2)++be (c%256) 1)++Er 1):=J (by rw[lf _ _ _ _ oJ,Oi]);have P5L:Ea (((((((([]:List Int)++be (k%256) 1)++be (s%256) 1)++be (q%4294967296) 4)++be (e%65536) 2)++be (c%256) 1)++Er 1).length=10):=J lj;have P5E:Ea (putAt ((((((([]:List Int)++be (k%256) 1)++be (s%256) 1)++be (q%4294967296) 4)++be (e%65536) 2)++be (c%256) 1)++Er 1) 9 (be (h%256) 1)=((((((([]:List Int)++be (k%256) 1)++be (s%256) 1)++be (q%4294967296) 4)++be (e%65536) 2)++be (c%256) 1)++be (h%256) 1)++Er 0):=J (by rw[lf _ _ _ _ oJ,Oi]);replace K4:Ea (D w4 g4 (Ej (([]:List Int)++Er 10)) 176):=K4;clear K3c K3;rw[Ib];have IX: ∀W,(Instr.index 207 (EU #[E I k,E I 1,E I s,E I 1,E I q,E I 4,E I e,E I 2,E I c,E I 1,E I h,E I 1]) (E I 0)).run EJ W= .ok (EU #[E I k,E I 1]) W:=fun W=>oI _ 0 U W;go_wp2_with (with_reducible refine wA oE (Ed.mk ?_));refine Ed.in ?_;have bel:=Eo w4 (EI (IS (Er 2)) 206);replace K2:=J<|K2.out.B bel;replace K4:=J<|K4.out.B bel;replace BB:=ET BB bel;have K7:=J<|D.new w4 (IS (Er 2)) 206;clear bel;generalize w4.alloc (EI (IS (Er 2)) 206)=w0a at*;generalize w4.heap.size=rO at*;go_wp2_with (with_reducible refine wS (cs:=IS [k,1]) n_ K7 (Ed.mk ?_) (h1:=nY _));refine Ed.in ?_;replace K2:=J<|K2.out.setRow_other rO (IS [k,1]) U;replace K4:=J<|K4.out.setRow_other rO (IS [k,1]) U;replace K7:=J<|K7.out.setRow (IS [k,1]);replace BB:=J<|E2 (g:=rO) BB.out U (IS [k,1]);generalize w0a.setRow rO (IS [k,1])=Nx at*;have cf: ∀i,Nx.cell? ⟨rO,i,Z⟩=(#[E I k,E I 1]:Array M)[i]?:=(I6 K7.out).1;clear IX;have PUT: ∀W:H,Ef EJ 111 #[E Ip (k%256),E I 1] W fun en w'=>en=Eg (Es #[u (X ⟨W.heap.size,0,Z⟩) 1 1,E I 0])/\Row w' (X ⟨W.heap.size,0,Z⟩) (be (k%256) 1)/\Eh W w':=fun W=>gG (k%256) 1 W U U U (by show(k%256)/256=0;omega);go_wp2_with fail;rw[wz];(with_reducible refine(PUT _).mono ?_);rintro e' w0c ⟨rfl,RP,bp⟩;clear PUT cf;replace K2:=J<|K2.out.B bp;replace K4:=J<|K4.out.B bp;replace K7:=J<|K7.out.B bp;replace BB:=ET BB bp;clear bp K7;replace RP:=J RP;go_wp2_with (with_reducible refine I2 60 ?_);refine Ed.in ?_;(with_reducible refine gD ?_ g4 0 1 1 (([]:List Int)++Er 10) 176 (X ⟨Nx.heap.size,0,Z⟩) 1 1 (be (k%256) 1) 1 (X ⟨g4,0,Z⟩) ?_ K4 (Oi _ _) RP ?_ ?_ ?_ ?_);·exact Ei O
 ·exact Ek4
 ·rfl
 ·rw[P0L.out];omega
 ·exact Emc
 intro rU UW b5 o5 s5;rw[List.take_of_length_le oO,P0E.out] at UW;replace BB:=J<|BB.out.trans (b5.mono U);replace K2:=J<|show D rU g2 (Ej (Er 10)) 176 from(o5 _ U).trans K2.out;clear K4 o5 s5 b5 RP;replace K4:=J UW;clear UW;have l4:=K4.out.lt;go_wp2_with fail;rw[Ib];have IX: ∀W,(Instr.index 207 (EU #[E I k,E I 1,E I s,E I 1,E I q,E I 4,E I e,E I 2,E I c,E I 1,E I h,E I 1]) (E I 1)).run EJ W= .ok (EU #[E I s,E I 1]) W:=fun W=>oI _ 1 U W;go_wp2_with (with_reducible refine wA oE (Ed.mk ?_));refine Ed.in ?_;have bel:=Eo rU (EI (IS (Er 2)) 206);replace K2:=J<|K2.out.B bel;replace K4:=J<|K4.out.B bel;replace BB:=ET BB bel;have K7:=J<|D.new rU (IS (Er 2)) 206;clear bel;generalize rU.alloc (EI (IS (Er 2)) 206)=w1a at*;generalize rU.heap.size=rX at*;go_wp2_with (with_reducible refine wS (cs:=IS [s,1]) n_ K7 (Ed.mk ?_) (h1:=nY _));refine Ed.in ?_;replace K2:=J<|K2.out.setRow_other rX (IS [s,1]) U;replace K4:=J<|K4.out.setRow_other rX (IS [s,1]) U;replace K7:=J<|K7.out.setRow (IS [s,1]);replace BB:=J<|E2 (g:=rX) BB.out U (IS [s,1]);generalize w1a.setRow rX (IS [s,1])=Ny at*;have cf: ∀i,Ny.cell? ⟨rX,i,Z⟩=(#[E I s,E I 1]:Array M)[i]?:=(I6 K7.out).1;clear IX;have PUT: ∀W:H,Ef EJ 111 #[E Ip (s%256),E I 1] W fun en w'=>en=Eg (Es #[u (X ⟨W.heap.size,0,Z⟩) 1 1,E I 0])/\Row w' (X ⟨W.heap.size,0,Z⟩) (be (s%256) 1)/\Eh W w':=fun W=>gG (s%256) 1 W U U U (by show(s%256)/256=0;omega);go_wp2_with fail;rw[wz];(with_reducible refine(PUT _).mono ?_);rintro e' w1c ⟨rfl,RP,bp⟩;clear PUT cf;replace K2:=J<|K2.out.B bp;replace K4:=J<|K4.out.B bp;replace K7:=J<|K7.out.B bp;replace BB:=ET BB bp;clear bp K7;replace RP:=J RP;go_wp2_with (with_reducible refine I2 60 ?_);refine Ed.in ?_;(with_reducible refine gD ?_ g4 1 1 1 ((([]:List Int)++be (k%256) 1)++Er 9) 176 (X ⟨Ny.heap.size,0,Z⟩) 1 1 (be (s%256) 1) 1 (X ⟨g4,1,Z⟩) ?_ K4 (Oi _ _) RP ?_ ?_ ?_ ?_);·exact Ei O
 ·exact Ek4
 ·rfl
 ·rw[P1L.out];omega
 ·exact Emc
 intro rZ UW b5 o5 s5;rw[List.take_of_length_le oO,P1E.out] at UW;replace BB:=J<|BB.out.trans (b5.mono U);replace K2:=J<|show D rZ g2 (Ej (Er 10)) 176 from(o5 _ U).trans K2.out;clear K4 o5 s5 b5 RP;replace K4:=J UW;clear UW;have l4:=K4.out.lt;go_wp2_with fail;rw[Ib];have IX: ∀W,(Instr.index 207 (EU #[E I k,E I 1,E I s,E I 1,E I q,E I 4,E I e,E I 2,E I c,E I 1,E I h,E I 1]) (E I 2)).run EJ W= .ok (EU #[E I q,E I 4]) W:=fun W=>oI _ 2 U W;go_wp2_with (with_reducible refine wA oE (Ed.mk ?_));refine Ed.in ?_;have bel:=Eo rZ (EI (IS (Er 2)) 206);replace K2:=J<|K2.out.B bel;replace K4:=J<|K4.out.B bel;replace BB:=ET BB bel;have K7:=J<|D.new rZ (IS (Er 2)) 206;clear bel;generalize rZ.alloc (EI (IS (Er 2)) 206)=w2a at*;generalize rZ.heap.size=ra at*;go_wp2_with (with_reducible refine wS (cs:=IS [q,4]) n_ K7 (Ed.mk ?_) (h1:=nY _));refine Ed.in ?_;replace K2:=J<|K2.out.setRow_other ra (IS [q,4]) U;replace K4:=J<|K4.out.setRow_other ra (IS [q,4]) U;replace K7:=J<|K7.out.setRow (IS [q,4]);replace BB:=J<|E2 (g:=ra) BB.out U (IS [q,4]);generalize w2a.setRow ra (IS [q,4])=Nz at*;have cf: ∀i,Nz.cell? ⟨ra,i,Z⟩=(#[E I q,E I 4]:Array M)[i]?:=(I6 K7.out).1;clear IX;have PUT: ∀W:H,Ef EJ 111 #[E Ip (q%4294967296),E I 4] W fun en w'=>en=Eg (Es #[u (X ⟨W.heap.size,0,Z⟩) 4 4,E I 0])/\Row w' (X ⟨W.heap.size,0,Z⟩) (be (q%4294967296) 4)/\Eh W w':=fun W=>gG (q%4294967296) 4 W U U U (by show(q%4294967296)/4294967296=0;omega);go_wp2_with fail;rw[EOV];(with_reducible refine(PUT _).mono ?_);rintro e' w2c ⟨rfl,RP,bp⟩;clear PUT cf;replace K2:=J<|K2.out.B bp;replace K4:=J<|K4.out.B bp;replace K7:=J<|K7.out.B bp;replace BB:=ET BB bp;clear bp K7;replace RP:=J RP;go_wp2_with (with_reducible refine I2 60 ?_);refine Ed.in ?_;(with_reducible refine gD ?_ g4 2 4 4 (((([]:List Int)++be (k%256) 1)++be (s%256) 1)++Er 8) 176 (X ⟨Nz.heap.size,0,Z⟩) 4 4 (be (q%4294967296) 4) 4 (X ⟨g4,2,Z⟩) ?_ K4 (Oi _ _) RP ?_ ?_ ?_ ?_);·exact Ei O
 ·exact Ek4
 ·rfl
 ·rw[P2L.out];omega
 ·exact Emc
 intro rd UW b5 o5 s5;rw[List.take_of_length_le oO,P2E.out] at UW;replace BB:=J<|BB.out.trans (b5.mono U);replace K2:=J<|show D rd g2 (Ej (Er 10)) 176 from(o5 _ U).trans K2.out;clear K4 o5 s5 b5 RP;replace K4:=J UW;clear UW;have l4:=K4.out.lt;go_wp2_with fail;rw[Ib];have IX: ∀W,(Instr.index 207 (EU #[E I k,E I 1,E I s,E I 1,E I q,E I 4,E I e,E I 2,E I c,E I 1,E I h,E I 1]) (E I 3)).run EJ W= .ok (EU #[E I e,E I 2]) W:=fun W=>oI _ 3 U W;go_wp2_with (with_reducible refine wA oE (Ed.mk ?_));refine Ed.in ?_;have bel:=Eo rd (EI (IS (Er 2)) 206);replace K2:=J<|K2.out.B bel;replace K4:=J<|K4.out.B bel;replace BB:=ET BB bel;have K7:=J<|D.new rd (IS (Er 2)) 206;clear bel;generalize rd.alloc (EI (IS (Er 2)) 206)=w3a at*;generalize rd.heap.size=rf at*;go_wp2_with (with_reducible refine wS (cs:=IS [e,2]) n_ K7 (Ed.mk ?_) (h1:=nY _));refine Ed.in ?_;replace K2:=J<|K2.out.setRow_other rf (IS [e,2]) U;replace K4:=J<|K4.out.setRow_other rf (IS [e,2]) U;replace K7:=J<|K7.out.setRow (IS [e,2]);replace BB:=J<|E2 (g:=rf) BB.out U (IS [e,2]);generalize w3a.setRow rf (IS [e,2])=wB at*;have cf: ∀i,wB.cell? ⟨rf,i,Z⟩=(#[E I e,E I 2]:Array M)[i]?:=(I6 K7.out).1;clear IX;have PUT: ∀W:H,Ef EJ 111 #[E Ip (e%65536),E I 2] W fun en w'=>en=Eg (Es #[u (X ⟨W.heap.size,0,Z⟩) 2 2,E I 0])/\Row w' (X ⟨W.heap.size,0,Z⟩) (be (e%65536) 2)/\Eh W w':=fun W=>gG (e%65536) 2 W U U U (by show(e%65536)/65536=0;omega);go_wp2_with fail;rw[EOT];(with_reducible refine(PUT _).mono ?_);rintro e' w3c ⟨rfl,RP,bp⟩;clear PUT cf;replace K2:=J<|K2.out.B bp;replace K4:=J<|K4.out.B bp;replace K7:=J<|K7.out.B bp;replace BB:=ET BB bp;clear bp K7;replace RP:=J RP;go_wp2_with (with_reducible refine I2 60 ?_);refine Ed.in ?_;(with_reducible refine gD ?_ g4 6 2 2 ((((([]:List Int)++be (k%256) 1)++be (s%256) 1)++be (q%4294967296) 4)++Er 4) 176 (X ⟨wB.heap.size,0,Z⟩) 2 2 (be (e%65536) 2) 2 (X ⟨g4,6,Z⟩) ?_ K4 (Oi _ _) RP ?_ ?_ ?_ ?_);·exact Ei O
 ·exact Ek4
 ·rfl
 ·rw[P3L.out];omega
 ·exact Emc
 intro rg UW b5 o5 s5;rw[List.take_of_length_le oO,P3E.out] at UW;replace BB:=J<|BB.out.trans (b5.mono U);replace K2:=J<|show D rg g2 (Ej (Er 10)) 176 from(o5 _ U).trans K2.out;clear K4 o5 s5 b5 RP;replace K4:=J UW;clear UW;have l4:=K4.out.lt;go_wp2_with fail;rw[Ib];have IX: ∀W,(Instr.index 207 (EU #[E I k,E I 1,E I s,E I 1,E I q,E I 4,E I e,E I 2,E I c,E I 1,E I h,E I 1]) (E I 4)).run EJ W= .ok (EU #[E I c,E I 1]) W:=fun W=>oI _ 4 U W;go_wp2_with (with_reducible refine wA oE (Ed.mk ?_));refine Ed.in ?_;have bel:=Eo rg (EI (IS (Er 2)) 206);replace K2:=J<|K2.out.B bel;replace K4:=J<|K4.out.B bel;replace BB:=ET BB bel;have K7:=J<|D.new rg (IS (Er 2)) 206;clear bel;generalize rg.alloc (EI (IS (Er 2)) 206)=w4a at*;generalize rg.heap.size=rh at*;go_wp2_with (with_reducible refine wS (cs:=IS [c,1]) n_ K7 (Ed.mk ?_) (h1:=nY _));refine Ed.in ?_;replace K2:=J<|K2.out.setRow_other rh (IS [c,1]) U;replace K4:=J<|K4.out.setRow_other rh (IS [c,1]) U;replace K7:=J<|K7.out.setRow (IS [c,1]);replace BB:=J<|E2 (g:=rh) BB.out U (IS [c,1]);generalize w4a.setRow rh (IS [c,1])=ND at*;have cf: ∀i,ND.cell? ⟨rh,i,Z⟩=(#[E I c,E I 1]:Array M)[i]?:=(I6 K7.out).1;clear IX;have PUT: ∀W:H,Ef EJ 111 #[E Ip (c%256),E I 1] W fun en w'=>en=Eg (Es #[u (X ⟨W.heap.size,0,Z⟩) 1 1,E I 0])/\Row w' (X ⟨W.heap.size,0,Z⟩) (be (c%256) 1)/\Eh W w':=fun W=>gG (c%256) 1 W U U U (by show(c%256)/256=0;omega);go_wp2_with fail;rw[wz];(with_reducible refine(PUT _).mono ?_);rintro e' w4c ⟨rfl,RP,bp⟩;clear PUT cf;replace K2:=J<|K2.out.B bp;replace K4:=J<|K4.out.B bp;replace K7:=J<|K7.out.B bp;replace BB:=ET BB bp;clear bp K7;replace RP:=J RP;go_wp2_with (with_reducible refine I2 60 ?_);refine Ed.in ?_;(with_reducible refine gD ?_ g4 8 1 1 (((((([]:List Int)++be (k%256) 1)++be (s%256) 1)++be (q%4294967296) 4)++be (e%65536) 2)++Er 2) 176 (X ⟨ND.heap.size,0,Z⟩) 1 1 (be (c%256) 1) 1 (X ⟨g4,8,Z⟩) ?_ K4 (Oi _ _) RP ?_ ?_ ?_ ?_);·exact Ei O
 ·exact Ek4
 ·rfl
 ·rw[P4L.out];omega
 ·exact Emc
 intro ri UW b5 o5 s5;rw[List.take_of_length_le oO,P4E.out] at UW;replace BB:=J<|BB.out.trans (b5.mono U);replace K2:=J<|show D ri g2 (Ej (Er 10)) 176 from(o5 _ U).trans K2.out;clear K4 o5 s5 b5 RP;replace K4:=J UW;clear UW;have l4:=K4.out.lt;go_wp2_with fail;rw[Ib];have IX: ∀W,(Instr.index 207 (EU #[E I k,E I 1,E I s,E I 1,E I q,E I 4,E I e,E I 2,E I c,E I 1,E I h,E I 1]) (E I 5)).run EJ W= .ok (EU #[E I h,E I 1]) W:=fun W=>oI _ 5 U W;go_wp2_with (with_reducible refine wA oE (Ed.mk ?_));refine Ed.in ?_;have bel:=Eo ri (EI (IS (Er 2)) 206);replace K2:=J<|K2.out.B bel;replace K4:=J<|K4.out.B bel;replace BB:=ET BB bel;have K7:=J<|D.new ri (IS (Er 2)) 206;clear bel;generalize ri.alloc (EI (IS (Er 2)) 206)=w5a at*;generalize ri.heap.size=rj at*;go_wp2_with (with_reducible refine wS (cs:=IS [h,1]) n_ K7 (Ed.mk ?_) (h1:=nY _));refine Ed.in ?_;replace K2:=J<|K2.out.setRow_other rj (IS [h,1]) U;replace K4:=J<|K4.out.setRow_other rj (IS [h,1]) U;replace K7:=J<|K7.out.setRow (IS [h,1]);replace BB:=J<|E2 (g:=rj) BB.out U (IS [h,1]);generalize w5a.setRow rj (IS [h,1])=NF at*;have cf: ∀i,NF.cell? ⟨rj,i,Z⟩=(#[E I h,E I 1]:Array M)[i]?:=(I6 K7.out).1;clear IX;have PUT: ∀W:H,Ef EJ 111 #[E Ip (h%256),E I 1] W fun en w'=>en=Eg (Es #[u (X ⟨W.heap.size,0,Z⟩) 1 1,E I 0])/\Row w' (X ⟨W.heap.size,0,Z⟩) (be (h%256) 1)/\Eh W w':=fun W=>gG (h%256) 1 W U U U (by show(h%256)/256=0;omega);go_wp2_with fail;rw[wz];(with_reducible refine(PUT _).mono ?_);rintro e' w5c ⟨rfl,RP,bp⟩;clear PUT cf;replace K2:=J<|K2.out.B bp;replace K4:=J<|K4.out.B bp;replace K7:=J<|K7.out.B bp;replace BB:=ET BB bp;clear bp K7;replace RP:=J RP;go_wp2_with (with_reducible refine I2 60 ?_);refine Ed.in ?_;(with_reducible refine gD ?_ g4 9 1 1 ((((((([]:List Int)++be (k%256) 1)++be (s%256) 1)++be (q%4294967296) 4)++be (e%65536) 2)++be (c%256) 1)++Er 1) 176 (X ⟨NF.heap.size,0,Z⟩) 1 1 (be (h%256) 1) 1 (X ⟨g4,9,Z⟩) ?_ K4 (Oi _ _) RP ?_ ?_ ?_ ?_);·exact Ei O
 ·exact Ek4
 ·rfl
 ·rw[P5L.out];omega
 ·exact Emc
 intro w5d UW b5 o5 s5;rw[List.take_of_length_le oO,P5E.out] at UW;replace BB:=J<|BB.out.trans (b5.mono U);replace K2:=J<|show D w5d g2 (Ej (Er 10)) 176 from(o5 _ U).trans K2.out;clear K4 o5 s5 b5 RP;replace K4:=J UW;clear UW;have l4:=K4.out.lt;go_wp2_with fail;rw[Ib];have NG:cU k s q e c h=((((((([]:List Int)++be (k%256) 1)++be (s%256) 1)++be (q%4294967296) 4)++be (e%65536) 2)++be (c%256) 1)++be (h%256) 1):=rfl;have PL:(((((((([]:List Int)++be (k%256) 1)++be (s%256) 1)++be (q%4294967296) 4)++be (e%65536) 2)++be (c%256) 1)++be (h%256) 1)++Er 0).length=10:=lj;have PE:((((((([]:List Int)++be (k%256) 1)++be (s%256) 1)++be (q%4294967296) 4)++be (e%65536) 2)++be (c%256) 1)++be (h%256) 1)++Er 0=cU k s q e c h:=by rw[NG];exact List.append_nil _
 rw[PE] at K4 PL;clear PE NG;generalize hrb:cU k s q e c h=rb at*;replace hrb:=J hrb;replace PL:=J PL;go_wp2_with (with_reducible first|refine wL wy K4 ?_ (hn:=NH)|refine wS (cs:=Ej rb) wy K2 (Ed.mk ?_) (ho:=Uh) (hn:=NH) (h1:=Uw _));refine Ed.in ?_;replace K2:=J<|K2.out.setRow (Ej rb);replace BB:=J<|E2 (g:=g2) BB.out U (Ej rb);go_wp2_with fail;refine EQ (v:=EU (Ej rb)) (Jb wy O _ _ g2 _ O K2.out (by rw[JV,PL.out])) O ⟨by rw[hrb.out],BB.out⟩
theorem of_nil(w:H):Ef EJ 45 #[u Z 0 0] w fun e w'=>e=Eg (EU (Ej (Er 32)))/\Eh w w':=by have BB:=J<|E6 w.heap.size w;go_enter Tryz.func45,Tryz.ntmps45;go_wp2_with (with_reducible refine wA Zl (Ed.mk ?_));refine Ed.in ?_;have K2:=J<|D.new w (Ej (Er 32)) 41;replace BB:=J<|Eo w (EI (Ej (Er 32)) 41);generalize w.alloc (EI (Ej (Er 32)) 41)=w1 at*;have l1:=K2.out.lt;go_wp2_with (with_reducible refine wA Zl (Ed.mk ?_));refine Ed.in ?_;have bel:=Eo w1 (EI (Ej (Er 32)) 41);replace K2:=J<|K2.out.B bel;replace BB:=ET BB bel;have K3:=J<|D.new w1 (Ej (Er 32)) 41;clear bel;generalize w1.alloc (EI (Ej (Er 32)) 41)=w2 at*;generalize w1.heap.size=g3 at*;go_wp2_with fail;refine wp_loop_rounds 1 ?_;rw[Ib];go_wp2_with (with_reducible first|refine wL JC K3 ?_ (hn:=Uh)|refine wS (cs:=Ej (Er 32)) JC K2 (Ed.mk ?_) (ho:=Uh) (hn:=Uh) (h1:=Uw _));refine Ed.in ?_;go_wp2_with fail;refine EQ (v:=EU (Ej (Er 32))) (Jb JC O _ _ w.heap.size _ O (K2.out.setRow (Ej (Er 32))) Cr) O ⟨O,E2 BB.out U _⟩
theorem EUb(w:H)(g:Nat)(xs:List Int)(hr0:Row w (X ⟨g,0,Z⟩) xs)(g' c:Nat)(ys:List Int)(hr:Row w (X ⟨g',0,Z⟩) ys)(hpos:0<ys.length)(hsmall:xs.length+ys.length<=1000000000)(ty:Ez): ∃A' cap' w',(Builtin.append_ #[23,23] ty #[u (X ⟨g,0,Z⟩) xs.length xs.length,u (X ⟨g',0,Z⟩) ys.length c]).run EJ w= .ok (u A' (xs.length+ys.length) cap') w'/\ Own w' w.heap.size A' cap' (xs++ys)/\Eh w w':=by
 obtain⟨i0,hi,hz0,hz1,hz2⟩:=info_parts iS
 have cells: ∀(g:Nat) (l:List Int),Row w (X ⟨g,0,Z⟩) l-> ∀(j:Nat) Y3,(l.map (E .u8))[j]?=X Y3->w.cell? ((⟨g,0,Z⟩:Et).add j)=X Y3:=by
  intro g l hl j Y3 hu
  have hj:j<l.length:=by
   rcases Nat.lt_or_ge j l.length with h|h;·exact h
   ·exact ElQ
  rcases hl.1 with h|⟨b,off,h,hc⟩;·subst h;simp at hj
  ·injection h with h;have e:((⟨g,0,Z⟩:Et)).add j=⟨b,off+j,Z⟩:=by rw[h];unfold Addr.add;split<;>simp_all
   rw[e,hc j hj];simpa[hj] using hu
 have hbb: ∀x∈xs++ys,0<=x/\x<=255:=by
  intro x hx;rcases List.mem_append.1 hx with h|h;·exact hr0.2 x h
  ·exact hr.2 x h
 obtain⟨v',w',hrun,h2,h3⟩:=run_append_arg_grows (P:=EJ) w 23 ty 5 i0 (E IB 0) 1 1 Tryz.underlying23 hi hz0 hz1 hz2 O U ⟨g,0,Z⟩ xs.length xs.length (xs.map (E .u8)) Ek (cells g xs hr0) ⟨g',0,Z⟩ ys.length c (ys.map (E .u8)) Ek (cells g' ys hr) U Ob U;have hbel:Eh w w':=(E6 _ _).grown h3 (E5 _) (fun k hk=>by cases hk);rcases h2.2 with⟨hv,hn⟩|⟨g2,cap',cur,hv,hrest⟩;·omega
 ·refine⟨X ⟨g2,0,Z⟩,cap',w',by rw[hrun,hv],⟨?_,hbb⟩,hbel⟩;rw[hv] at h2;rw[IL,List.map_append];exact h2
theorem EUc{ops:Array EK}{rest:List EK}{o:EK}{a:Act}{Q:Exit->Act->H->Prop}(w:H)(hgd:IQ o (yielded ops a.tmps)=G)(s x:Operand) (ho:o.op= .call {callee:= .builtin .append,args:= #[s,x],argTypes:= #[23,23]}) (g n:Nat) (xs:List Int) (hn:xs.length=n) (hs:a.eval s=u (X ⟨g,0,Z⟩) n n) (hr0:Row w (X ⟨g,0,Z⟩) xs) (g' c m:Nat) (ys:List Int) (hm:ys.length=m) (hx:a.eval x=u (X ⟨g',0,Z⟩) m c) (hr:Row w (X ⟨g',0,Z⟩) ys) (hpos:0<m) (hsmall:n+m<=1000000000) (h: ∀A' cap' w',Own w' w.heap.size A' cap' (xs++ys)->Eh w w'->wpList EJ ops Q rest (a.put o.dst (u A' (n+m) cap')) w'):wpList EJ ops Q (o::rest) a w:=by subst hn hm;obtain⟨A',cap',w',hrun,hown,hbel⟩:=EUb w g xs hr0 g' c ys hr hpos hsmall o.type;refine JT hgd (v:=u A' (xs.length+ys.length) cap') (w':=w') ?_ (h _ _ _ hown hbel);exact Ekg
theorem EUd(hd:List Int)(k s q e c h:Int)(hl:hd.length=32)(hb: ∀x∈hd,0<=x/\x<=255)(w:H)(hR:Jc w): Ef EJ 68 #[EU (Ej hd),EU #[E I k,E I s,E I q,E I e,E I c,E I h]] w fun e' w'=>e'=Eg (EU (Ej (Ux (hd++cU k s q e c h))))/\Eh w w':=by
 have RT:=J hR;have HL:=J hl;have HB:=J hb;have CR:=fun W:H=>EOW k s q e c h W;have RL:=EOR k s q e c h;have RB:=EOS k s q e c h;generalize cU k s q e c h=rb at*;replace RL:=J RL;replace RB:=J RB;replace CR:=J CR;clear hl hb hR;have CS:=fun(A:Option Et) (cp:Nat) (W:H) (hr:Row W A (hd++rb)) (hb:Eh w W)=>nL A (hd++rb) 42 cp W (by rw[IL,HL.out,RL.out]) hr U (RT.out.B hb);have AL:=gS (hd++rb);generalize Ux (hd++rb)=ans at*;replace AL:=J AL;replace CS:=J CS;go_enter Tryz.func68,Tryz.ntmps68;go_wp2_with (with_reducible refine wA Zl (Ed.mk ?_));refine Ed.in ?_;have K2:=J<|((D.new w (Ej hd) 41).alloc (EI #[E I k,E I s,E I q,E I e,E I c,E I h] 58)).alloc (EI (Ej (Er 32)) 41);have K3:=J<|(D.new' (w.alloc (EI (Ej hd) 41)) #[E I k,E I s,E I q,E I e,E I c,E I h] 58 (g:=w.heap.size+1) Ek).alloc (EI (Ej (Er 32)) 41);have K4:=J<|D.new' ((w.alloc (EI (Ej hd) 41)).alloc (EI #[E I k,E I s,E I q,E I e,E I c,E I h] 58)) (Ej (Er 32)) 41 (g:=w.heap.size+1+1) Ek;have BB:=J<|X5 w (EI (Ej hd) 41) (EI #[E I k,E I s,E I q,E I e,E I c,E I h] 58) (EI (Ej (Er 32)) 41);generalize ((w.alloc (EI (Ej hd) 41)).alloc (EI #[E I k,E I s,E I q,E I e,E I c,E I h] 58)).alloc (EI (Ej (Er 32)) 41)=w1 at*;obtain⟨g3,hg3⟩:=JO (w.heap.size+1);rw[hg3] at K3 K4;simp only[hg3];obtain⟨g4,hg4⟩:=JO (g3+1);rw[hg4] at K4;simp only[hg4];have lo4:w.heap.size<g4:=U;clear hg3 hg4;go_wp2_with (with_reducible refine wL EON K3 ?_);(with_reducible refine(CR.out _).mono ?_);rintro e' w2 ⟨rfl,b2⟩;clear CR K3;replace K2:=J<|K2.out.B b2;replace K4:=J<|K4.out.B b2;replace BB:=ET BB b2;clear b2;have l4:=K4.out.lt;go_wp2_with (with_reducible refine wA Cp (Ed.mk ?_));refine Ed.in ?_;have bel:=Eo w2 (EI (Ej (Er 10)) 176);replace K2:=J<|K2.out.B bel;replace K4:=J<|K4.out.B bel;replace BB:=ET BB bel;have K5:=J<|D.new w2 (Ej (Er 10)) 176;clear bel;generalize w2.alloc (EI (Ej (Er 10)) 176)=w3 at*;generalize w2.heap.size=g5 at*;go_wp2_with (with_reducible refine wS (cs:=Ej rb) wy K5 (Ed.mk ?_) (ho:=Uh) (hn:=Cs) (h1:=Uw _));refine Ed.in ?_;replace K2:=J<|K2.out.setRow_other g5 (Ej rb) U;replace K4:=J<|K4.out.setRow_other g5 (Ej rb) U;replace K5:=J<|K5.out.setRow (Ej rb);replace BB:=J<|E2 (g:=g5) BB.out U (Ej rb);generalize w3.setRow g5 (Ej rb)=w4 at*;go_wp2_with fail;refine pP 2 Ec Ec ?_;simp only[Il,Ij,Iz,Ix];repeat (go_big_quiet_step (fail))
 refine wpQuiet_nil ?_;intro _ hw';obtain⟨nq,rfl⟩:=hw';replace BB:=J<|aQ BB.out nq;replace K2:=J<|K2.out.drewN nq;replace K4:=J<|K4.out.drewN nq;replace K5:=J<|K5.out.drewN nq;generalize w4.drewN nq=w5 at*;have r2:=J<|Zk K2.out HB.out;have r5:=J<|Zk K5.out RB.out;(with_reducible refine EUc _ ?_ (.tmp 8) (.tmp 9) O w.heap.size 32 hd HL.out ?_ r2.out g5 10 10 rb RL.out ?_ r5.out U U ?_);·exact Ei O
 ·rfl
 ·rfl
 intro A1 jJ w6 o6 b6;have r6:=J o6.row;clear r2 r5 o6 K2 K5;replace K4:=J<|K4.out.B b6;replace BB:=ET BB b6;clear b6;go_wp2_with fail;(with_reducible refine(CS.out _ _ _ r6.out BB.out).mono ?_);rintro e' w7 ⟨rfl,b7⟩;replace K4:=J<|K4.out.B b7;replace BB:=ET BB b7;clear b7 r6 CS;go_wp2_with (with_reducible refine wS (cs:=Ej ans) JC K4 (Ed.mk ?_) (ho:=Uh) (hn:=BO) (h1:=Uw _));refine Ed.in ?_;go_wp2_with fail;refine EQ (v:=EU (Ej ans)) (Jb JC O _ _ g4 _ O (K4.out.setRow _) BU) O ⟨O,E2 BB.out U _⟩
def IW(l:List Int):Array M:=((List.range 14).map fun i=>if 6<=i then E .u8 (l.getD i 0) else E I (l.getD i 0)).toArray
theorem ls(l:List Int):(IW l).size=14:=by simp[IW]
theorem Zs(l:List Int)(i:Nat)(h:i<14):(IW l)[i]?=X (if 6<=i then E .u8 (l.getD i 0) else E I (l.getD i 0)):=by simp[IW,h]
theorem Ct(l:List Int):(IW l).all (·.oneCell')=G:=by rw[Array.all_eq_true];intro i hi;simp only[IW,List.getElem_toArray,List.getElem_map];split<;>rfl
theorem EUf(l:List Int)(hl:l.length=14)(o:Nat)(ho:o<14)(n:Int):(IW l).setIfInBounds o (if 6<=o then E .u8 n else E I n)=IW (l.set o n):=by
 apply Array.ext_getElem?;intro j;rw[Array.getElem?_setIfInBounds];by_cases h:o=j
 ·subst h;rw[if_pos O,if_pos (by rw[ls];exact ho),Zs _ _ ho];have e:(l.set o n).getD o 0=n:=by simp[hl,ho]
  rw[e]
 ·rw[if_neg h];by_cases hj:j<14
  ·rw[Zs _ _ hj,Zs _ _ hj];have e1:(l.set o n).getD j 0=l.getD j 0:=by simp[List.getD_eq_getElem?_getD,List.getElem?_set_ne h]
   rw[e1]
  ·rw[Array.getElem?_eq_none (by rw[ls];omega),Array.getElem?_eq_none (by rw[ls];omega)]
theorem wC:ID EJ 222 14:=⟨⟨_,Tryz.underlying222,O⟩,Ec⟩
def ay(l:List Int):Prop:=l.length=14/\ ∀i,6<=i->i<14->0<=l.getD i 0/\l.getD i 0<=255
def FD.Cu(d:FD):Prop:=d.off<14/\(d.kd=0\/d.kd=2\/d.kd=3)/\(d.kd=3↔6<=d.off)
theorem FD.EUg(h:d.kd=2):d.get=250:=Au
theorem FD.EUh(h:d.kd=2):d.set=251:=u6
theorem FD.NK(h:d.kd=2):d.box=333:=u9
theorem FD.EUi(h:d.kd=3):d.get=248:=Au
theorem FD.EUj(h:d.kd=3):d.set=249:=u6
theorem FD.NM(h:d.kd=3):d.box=331:=u9
theorem EUk(gb gm o:Nat)(n:Int)(w:H)(hb:D w gb #[V (X ⟨gm,o,Z⟩)] 333)(hc:w.cell? ⟨gm,o,Z⟩=X (E I n)): Ef EJ 250 #[V (X ⟨gb,0,Z⟩)] w fun e w'=>e=Eg (E I n)/\w=w':=by have c0:=hb.cell 0;simp only[List.getElem?_toArray,List.getElem?_cons_zero] at c0;clear hb;go_enter Tryz.func250,Tryz.ntmps250;exact Eh9
theorem EUl(gb gm o:Nat)(n m:Int)(w:H)(hb:D w gb #[V (X ⟨gm,o,Z⟩)] 333)(hc:w.cell? ⟨gm,o,Z⟩=X (E I m))(hf:w.frozen? ⟨gm,o,Z⟩=Y): Ef EJ 251 #[E I n,V (X ⟨gb,0,Z⟩)] w fun e w'=>e=Eg (Es #[])/\w.setCell ⟨gm,o,Z⟩ (E I n)=w':=by have c0:=hb.cell 0;simp only[List.getElem?_toArray,List.getElem?_cons_zero] at c0;clear hb;go_enter Tryz.func251,Tryz.ntmps251;exact Elb
theorem EUm(gb gm o:Nat)(n:Int)(w:H)(h0:0<=n)(h1:n<=255)(hb:D w gb #[V (X ⟨gm,o,Z⟩)] 331)(hc:w.cell? ⟨gm,o,Z⟩=X (E IB n)): Ef EJ 248 #[V (X ⟨gb,0,Z⟩)] w fun e w'=>e=Eg (E I n)/\w=w':=by have c0:=hb.cell 0;simp only[List.getElem?_toArray,List.getElem?_cons_zero] at c0;clear hb;go_enter Tryz.func248,Tryz.ntmps248;exact Eh9
theorem EUn(gb gm o:Nat)(n m:Int)(w:H)(h0:0<=n)(h1:n<=255)(hb:D w gb #[V (X ⟨gm,o,Z⟩)] 331)(hc:w.cell? ⟨gm,o,Z⟩=X (E IB m))(hf:w.frozen? ⟨gm,o,Z⟩=Y): Ef EJ 249 #[E I n,V (X ⟨gb,0,Z⟩)] w fun e w'=>e=Eg (Es #[])/\w.setCell ⟨gm,o,Z⟩ (E IB n)=w':=by have c0:=hb.cell 0;simp only[List.getElem?_toArray,List.getElem?_cons_zero] at c0;clear hb;go_enter Tryz.func249,Tryz.ntmps249;exact Elb
theorem EUo(d:FD)(gb gm:Nat)(l:List Int)(w:H)(hd:d.Cu)(hl:ay l)(hb:XO w d gm gb)(hm:D w gm (IW l) 222): Ef EJ d.get #[V (X ⟨gb,0,Z⟩)] w fun e w'=>e=Eg (E I (l.getD d.off 0))/\w=w':=by
 obtain⟨ho,hk,h3⟩:=hd;have hc:=hm.cell d.off;rw[Zs _ _ ho] at hc;unfold XO at hb;rcases hk with hk|hk|hk;·rw[if_neg (fun h=>wD)] at hc;rw[FD.u7 hk] at hb;rw[FD.Lj hk];exact YK gb gm d.off _ w hb hc
 ·rw[if_neg (fun h=>wD)] at hc;rw[FD.NK hk] at hb;rw[FD.EUg hk];exact EUk gb gm d.off _ w hb hc
 ·rw[if_pos (h3.1 hk)] at hc;rw[FD.NM hk] at hb;rw[FD.EUi hk];have h8:=hl.2 d.off (h3.1 hk) ho;exact EUm gb gm d.off _ w h8.1 h8.2 hb hc
theorem EUp(d:FD)(gb gm:Nat)(l:List Int)(n:Int)(w:H)(hd:d.Cu)(hn:d.kd=3->0<=n/\n<=255)(hl:ay l)(hb:XO w d gm gb)(hm:D w gm (IW l) 222): Ef EJ d.set #[E I n,V (X ⟨gb,0,Z⟩)] w fun e w'=>e=Eg (Es #[])/\D w' gm (IW (l.set d.off n)) 222/\(∀k,k≠gm->w'.heap[k]?=w.heap[k]?)/\w'.heap.size=w.heap.size/\Below gm w w':=by
 obtain⟨ho,hk,h3⟩:=hd;have hc:=hm.cell d.off;have hf:=hm.Jw d.off;rw[Zs _ _ ho] at hc;have fin: ∀v,v=(if 6<=d.off then E .u8 n else E I n)->D (w.setCell ⟨gm,d.off,Z⟩ v) gm (IW (l.set d.off n)) 222/\(∀k,k≠gm->(w.setCell ⟨gm,d.off,Z⟩ v).heap[k]?=w.heap[k]?)/\(w.setCell ⟨gm,d.off,Z⟩ v).heap.size=w.heap.size/\Below gm w (w.setCell ⟨gm,d.off,Z⟩ v):=by intro v hv;subst hv;refine⟨?_,fun k hk=>Below.heap_setCell _ _ _ _ hk,zW,(E6 gm w).setCell (p:=⟨gm,d.off,Z⟩) (E5 _) _⟩;have h:=hm.set d.off (if 6<=d.off then E .u8 n else E I n);rw[EUf l hl.1 _ ho] at h;exact h
 unfold XO at hb;rcases hk with hk|hk|hk;·have h6: ¬6<=d.off:=fun h=>wD;rw[if_neg h6] at hc;rw[FD.u7 hk] at hb;rw[FD.Av hk];have u_:=fin (E I n) (by rw[if_neg h6]);exact El1
 ·have h6: ¬6<=d.off:=fun h=>wD;rw[if_neg h6] at hc;rw[FD.NK hk] at hb;rw[FD.EUh hk];have u_:=fin (E I n) (by rw[if_neg h6]);exact(EUl gb gm d.off n _ w hb hc hf).mono fun e w' ⟨he,hw⟩=>⟨he,vE⟩
 ·have h6:=h3.1 hk;rw[if_pos h6] at hc;rw[FD.NM hk] at hb;rw[FD.EUj hk];have u_:=fin (E IB n) (by rw[if_pos h6]);have h8:=hn hk;exact(EUn gb gm d.off n _ w h8.1 h8.2 hb hc hf).mono fun e w' ⟨he,hw⟩=>⟨he,vE⟩
theorem NP(gm o:Nat)(w:H): Ef EJ 241 #[V (X ⟨gm,o,Z⟩)] w fun e w'=> ∃v,e=Eg v/\FV w' w.heap.size gm ⟨2,1,0,255,o⟩ v/\Eh w w':=by have BF:Tryz.prog.built 298 [(0,E I 1),(2,E I 255),(3,.func (.func 250) #[] #[V (X ⟨w.heap.size,0,Z⟩)]),(4,.func (.func 251) #[] #[V (X ⟨w.heap.size,0,Z⟩)])]=X (Iw ⟨2,1,0,255,o⟩ w.heap.size):=Aw ⟨2,1,0,255,o⟩ w.heap.size O;have O1:=J<|da ⟨2,1,0,255,o⟩ w.heap.size;have FSq:Ea ((Iw ⟨2,1,0,255,o⟩ w.heap.size).size=5):=J O;generalize Ox:Iw ⟨2,1,0,255,o⟩ w.heap.size=fv at*;replace BF:=J BF;have HB:Ea (∀W:H,D W w.heap.size #[V (X ⟨gm,o,Z⟩)] 333->FV W w.heap.size gm ⟨2,1,0,255,o⟩ (EU fv)):=J fun W h=>⟨w.heap.size,by rw[Ox],E5 _,h⟩;clear Ox;go_enter Tryz.func241,Tryz.ntmps241;go_wp2_with (with_reducible refine wA bS (Ed.mk ?_));refine Ed.in ?_;have K4:=J<|(D.new w #[V (X ⟨gm,o,Z⟩)] 333).alloc (EI Jh 298);have K8:=J<|D.new' (w.alloc (EI #[V (X ⟨gm,o,Z⟩)] 333)) Jh 298 (g:=w.heap.size+1) Ek;have BB:=J<|JF w (EI #[V (X ⟨gm,o,Z⟩)] 333) (EI Jh 298);generalize (w.alloc (EI #[V (X ⟨gm,o,Z⟩)] 333)).alloc (EI Jh 298)=w1 at*;exact Eic
theorem jk(gm o:Nat)(w:H): Ef EJ 240 #[V (X ⟨gm,o,Z⟩)] w fun e w'=> ∃v,e=Eg v/\FV w' w.heap.size gm ⟨3,1,0,255,o⟩ v/\Eh w w':=by have BF:Tryz.prog.built 298 [(0,E I 1),(2,E I 255),(3,.func (.func 248) #[] #[V (X ⟨w.heap.size,0,Z⟩)]),(4,.func (.func 249) #[] #[V (X ⟨w.heap.size,0,Z⟩)])]=X (Iw ⟨3,1,0,255,o⟩ w.heap.size):=Aw ⟨3,1,0,255,o⟩ w.heap.size O;have O1:=J<|da ⟨3,1,0,255,o⟩ w.heap.size;have FSq:Ea ((Iw ⟨3,1,0,255,o⟩ w.heap.size).size=5):=J O;generalize Ox:Iw ⟨3,1,0,255,o⟩ w.heap.size=fv at*;replace BF:=J BF;have HB:Ea (∀W:H,D W w.heap.size #[V (X ⟨gm,o,Z⟩)] 331->FV W w.heap.size gm ⟨3,1,0,255,o⟩ (EU fv)):=J fun W h=>⟨w.heap.size,by rw[Ox],E5 _,h⟩;clear Ox;go_enter Tryz.func240,Tryz.ntmps240;go_wp2_with (with_reducible refine wA bS (Ed.mk ?_));refine Ed.in ?_;have K4:=J<|(D.new w #[V (X ⟨gm,o,Z⟩)] 331).alloc (EI Jh 298);have K8:=J<|D.new' (w.alloc (EI #[V (X ⟨gm,o,Z⟩)] 331)) Jh 298 (g:=w.heap.size+1) Ek;have BB:=J<|JF w (EI #[V (X ⟨gm,o,Z⟩)] 331) (EI Jh 298);generalize (w.alloc (EI #[V (X ⟨gm,o,Z⟩)] 331)).alloc (EI Jh 298)=w1 at*;exact Eic
end Go.Proofs.YtclmichaaiohjaaGreatDoor
