import Derived.Test.YtclmichaaiohjaaGreatDoorR04
import Derived.ArgAppend
set_option maxRecDepth 100000
set_option linter.unusedVariables false
set_option linter.unusedSimpArgs false
set_option maxHeartbeats 6400000
namespace Go.Proofs.YtclmichaaiohjaaGreatDoor
open RowKit
open _root_.Array renaming getElem?_eq_none->g_
open Bool renaming true->u,false->B,and_eq_true->Oc
open Go renaming bits->Ix,World->M,Calls->Ef,TypeId->EC,Value->V,Addr->Eu,bodyPost_ret->ET,results->Xa,Exit->UW,Act->E6,Oper->EN,yielded->Jd,execOp->Iw,wpList->IZ,undef->I6,Operand->UH,info_parts->bQ,below_setRow->E3,wpQuiet_nil->IM,wp_loop_rounds->O9,rounds_succ->Ic,Ending->Ut,wpList_store_mid->OH
open Act renaming put->In
open Builtin renaming append_->bP
open Ending renaming returned->Eg
open Instr renaming index->JY
open IntKind renaming wrap->oD,i64->I,u8->IP,u64->Il
open Lib renaming hid->O
open Obj renaming cells->EJ
open Go.Proofs.Tryz renaming prog->EU,underlying23->bR,func212->nu,ntmps212->ny
open Region renaming wanted->I_
open Result renaming andThen_ok->Uf
open RowKit renaming Below->Io,Hid->Ea,intOf->Iv
open RowKit.Below renaming refl->IE,heap_setCell->XM
open Sem renaming run_bind->Ud,run_pure->UU
open Value renaming bool->Ec,int->E,agg->EZ,slice->EI,tuple->Et,pointer->Y,oneCell'->OC
open World renaming block_lt_of_cell?->XA,setCell->dW
open Int renaming toNat_natCast->mo
open List renaming getElem?_eq_none->aM,mem_of_mem_take->fK,eq_nil_of_length_eq_zero->aN,getElem?_eq_getElem->Ok,range->UA,drop_eq_getElem_cons->kJ,mem_cons_of_mem->ai,mem_cons_self->hO,nodup_cons->mC,getElem?_eq_some_iff->UG,take_append_drop->hU,take_succ_cons->Ir,length_take->aj,take_of_length_le->UZ,getD_eq_getElem?_getD->UK,map_cons->UL,map_nil->Xu,take_zero->Im,getElem?_toArray->Og,setIfInBounds_toArray->Ip,length_append->I2,length_cons->ZV,mem_cons->Ui,set_cons_succ->Ig,set_cons_zero->Ih,mem_append->XP,map_append->ku,length_drop->mV,getElem?_cons_zero->kx,not_mem_nil->UP,drop_succ_cons->IL,drop_zero->IG,append_nil->fc,mem_of_getElem?->dw,foldl_cons->jt,foldl_nil->ju
open List.cons renaming injEq->cG
open Nat renaming lt_or_ge->JG,le_trans->EA,le_refl->E7,add_assoc->js,reduceAdd->bU
open Option renaming some->D,none->Z
open Option.some renaming inj->fI
variable{d:FD}{ds:List FD}{l p bs xs z:List Int}{w w':M}{base gm n g cap:Nat}{A:Option Eu}{k:Int}{T:EC}{fs:List (FD×Nat)}
def wd(d:FD):Nat:=if d.lo<0 then 2 else d.size.toNat
theorem EZo(h:cD (d::ds) l=D p): ∃x y,sj d (l.getD d.off 0)=D x/\cD ds l=D y/\p=x++y:=by
 simp only[cD] at h;cases h1:sj d (l.getD d.off 0) with
 |none=>rw[h1] at h;cases h
 |some x=>
  cases h2:cD ds l with
  |none=>rw[h1,h2] at h;cases h
  |some y=> rw[h1,h2] at h;injection h with h;exact⟨x,y,U,U,h.symm⟩
theorem RM(h:su l=D bs): ∃ds ps,aq (l.getD 0 0)=D ds/\cD ds l=D ps/\OE ds l=If (l.getD 0 0)/\bs=l.getD 0 0::ps:=by
 unfold su at h;cases h1:aq (l.getD 0 0) with
 |none=>rw[h1] at h;cases h
 |some ds=>
  rw[h1] at h;simp only at h;cases h2:cD ds l with
  |none=>rw[h2] at h;cases h
  |some ps=>
   rw[h2] at h;simp only at h;split at h;·rename_i hz;injection h with h;exact⟨ds,ps,rfl,h2,hz,h.symm⟩
   ·cases h
theorem RV{x y:List Int}(hx:x.length=12)(hy:y.length=12)(h: ∀o,o<12->x.getD o 0=y.getD o 0):x=y:=by apply List.ext_getElem X;intro i h1 h2;have:=h i X;simpa[UK,h1,h2] using this
theorem EZp(h:su l=D bs):bs.take 1=[l.getD 0 0]/\1<=l.getD 0 0/\l.getD 0 0<=11:=by obtain⟨ds,ps,f1,o1,z1,rfl⟩:=RM h;obtain⟨h1,h2,-,-⟩:=Au f1;exact⟨U,h1,h2⟩
theorem EZq{c:Nat}(h:Own w base A c xs):xs.length<=c/\c<=9223372036854775807:=by obtain⟨A',ys,cap,e,h1,h2,-⟩:=h.EJP;injection e with e1 e2 e3;omega
section
open Go.ChangeShapes Go.WideShapes
theorem ik:Od EU 183 (EF (If 0)):=EOJ
theorem EZr(h:Row w A xs)(m:Nat):Row w A (xs.take m):=by
 obtain⟨h1,h2⟩:=h;refine⟨?_,fun z hz=>h2 z (fK hz)⟩;rcases h1 with h1|⟨b,off,e,hc⟩;·subst h1;exact .inl Eh
 ·refine .inr ⟨b,off,e,fun i hi=> ?_⟩;have hi2:i<xs.length:=rB;rw[hc i hi2];simp
end
def Zi(d:FD)(xs:List Int):Int:=if d.lo<0 then sig xs else num xs
def gj:List FD->List Int->List Int->Option (List Int)
 |[],l,xs=>if xs.length=0 then D l else Z
 |d::ds,l,xs=>if xs.length<wd d then Z else if Zi d (xs.take (wd d))<d.lo then Z else if d.hi<Zi d (xs.take (wd d)) then Z else gj ds (l.set d.off (Zi d (xs.take (wd d)))) (xs.drop (wd d))
structure FD.u2(d:FD):Prop where
 good:d.good
 neg:d.lo<0->d.lo= -32768/\d.hi=32767
 size:d.size=(wd d:Int)
 one:1<=wd d/\wd d<=7
 now:d.off=7->d.lo=0/\d.hi=1
theorem R4(h:aq k=D ds): ∀d∈ds,d.u2:=by
 intro d hd;have hg:=(Au h).2.2.2 d hd
 have:(d.lo<0->d.lo= -32768/\d.hi=32767)/\d.size=(wd d:Int)/\(1<=wd d/\wd d<=7)/\(d.off=7->d.lo=0/\d.hi=1):=by
  unfold aq at h;repeat' split at h
  all_goals first
   |(cases h;done)
   |(injection h with h
     subst h
     simp only[Ui,UP,or_false] at hd
     first
      |(subst hd;decide)
      |(rcases hd with rfl|rfl<;>decide)
      |(rcases hd with rfl|rfl|rfl<;>decide)
      |(rcases hd with rfl|rfl|rfl|rfl|rfl|rfl|rfl<;>decide))
 exact⟨hg,this.1,this.2.1,this.2.2.1,this.2.2.2⟩
theorem EZs(h: ∀x∈xs,0<=x/\x<=255)(hl:xs.length=2): -32768<=sig xs/\sig xs<=32767:=by have hb:=uu xs h 2 X;rw[UZ X] at hb;have h2:num xs<65536:=hb.2;unfold sig;split<;>omega
def R9(gm:Nat)(l:List Int)(W w':M):Prop:=H w' gm (EF l) 183/\(∀k,k≠gm->w'.heap[k]?=W.heap[k]?)/\w'.heap.size=W.heap.size/\Io gm W w'
def G8(d:FD)(gm:Nat)(l xs:List Int)(w:M)(e:Ut)(w':M):Prop:=
 if Zi d xs<d.lo then e=Eg (Ec B)/\El w w'
 else if d.hi<Zi d xs then e=Eg (Ec B)/\El w w'
 else e=Eg (Ec u)/\ ∃W,El w W/\R9 gm (l.set d.off (Zi d xs)) W w'
theorem EZt(d:FD)(hd:d.u2)(gb gm:Nat)(l xs:List Int)(hl:mW l)(Y4:Option Eu)(c k:Nat)(hk:wd d=k)(w:M)(hr:Row w Y4 xs)(hx:xs.length=k)(hb:Zd w d gm gb)(hm:H w gm (EF l) 183): Ef EU 209 #[EZ (IF d gb),EI Y4 k c] w (G8 d gm l xs w):=by
 have hs: ∀v,Sets w d.set (Y (D ⟨gb,0,Z⟩)) v (R9 gm (l.set d.off v)):=fun v=>⟨Qc d,fun W hW=>(EOX d gb gm l v W hd.good.ok hl (H.G hb hW) (hm.G hW)).mono fun e w' ⟨he,h1,h2,h3,h4⟩=>⟨he,h1,h2,h3,h4⟩⟩;have hk7:=hd.one;unfold G8 IF;by_cases h0:d.lo<0
 ·have e2:k=2:=by rw[<-hk];unfold wd;rw[if_pos h0]
  subst e2;have hv:Zi d xs=sig xs:=by unfold Zi;rw[if_pos h0]
  have hr2:=EZs hr.2 hx;have hn:=hd.neg h0;have g1: ¬sig xs<d.lo:=X;have g2: ¬d.hi<sig xs:=X;rw[hv];simp only[if_neg g1,if_neg g2];exact EXt _ _ _ _ _ _ xs Y4 c (sig xs) _ w hr hx U h0 X X (hs _)
 ·have hv:Zi d xs=num xs:=by unfold Zi;rw[if_neg h0]
  have hb2:=uu xs hr.2 k X;rw[UZ X] at hb2;have EjS:(256:Int)^k<=72057594037927936:=by exact En0
  have hhi:d.hi<256^k:=by have:=(hd.good.pos X).2.2;rw[hd.size,hk,mo] at this;exact this
  rw[hv];by_cases h1:num xs<d.lo;·simp only[if_pos h1];exact EXv _ _ _ _ _ _ xs Y4 k c (num xs) w hr hx X U X X X h1
  by_cases h2:d.hi<num xs;·simp only[if_neg h1,if_pos h2];exact EXw _ _ _ _ _ _ xs Y4 k c (num xs) w hr hx X U X X X X h2
  ·simp only[if_neg h1,if_neg h2];exact EXu _ _ _ _ _ _ xs Y4 k c (num xs) _ w hr hx X U X X X X (hs _)
theorem R_{Y4:Option Eu}(h:Row w Y4 xs)(hB: ∀a,Y4=D a->a.block<gm)(hb:Io gm w w'):Row w' Y4 xs:=by
 obtain⟨h1,h2⟩:=h;refine⟨?_,h2⟩;rcases h1 with h1|⟨b,off,e,hc⟩;·exact .inl h1
 ·refine .inr ⟨b,off,e,fun i hi=> ?_⟩;have h3:=hb.cell (p:=⟨b,off+i,Z⟩) (show b<gm from hB ⟨b,off,Z⟩ e);rw[h3];exact hc i hi
theorem np{b off:Nat}(h:Row w (D ⟨b,off,Z⟩) xs)(m:Nat):Row w (D ⟨b,off+m,Z⟩) (xs.drop m):=by
 obtain⟨h1,h2⟩:=h;refine⟨?_,fun z hz=>h2 z (List.mem_of_mem_drop hz)⟩;rcases h1 with h1|⟨b',off',e,hc⟩;·subst h1;exact .inl Eh
 ·injection e with e;injection e with e1 e2;subst e1 e2;refine .inr ⟨b,off+m,U,fun i hi=> ?_⟩;have hi2:m+i<xs.length:=rB;have:=hc (m+i) hi2;rw[<-js] at this;rw[this];simp
theorem EZu(h:mW l)(o:Nat)(v:Int)(hv:o=7->v=0\/v=1):mW (l.set o v):=by
 refine⟨by rw[List.length_set];exact h.1,?_⟩;by_cases e:o=7
 ·subst e;have hl:=h.1;have:(l.set 7 v).getD 7 0=v:=by simp[UK,hl]
  rw[this];exact hv U
 ·have e2:(l.set o v).getD 7 0=l.getD 7 0:=by simp[UK,List.getElem?_set_ne e]
  rw[e2];exact h.2
def EZv(R:Option (List Int))(gm:Nat)(w:M)(e:Ut)(w':M):Prop:=
 Io gm w w'/\match R with
  |none=>e=Eg (Ec B)
  |some l'=>e=Eg (Ec u)/\H w' gm (EF l') 183
theorem EZw(fs:List (FD×Nat))(ds:List FD)(hds:fs.map (·.1)=ds)(hf: ∀d∈ds,d.u2)(n:Nat)(hn:fs.length=n)(hn9:n<=100)(gl cp gm base:Nat)(l:List Int)(hl:mW l)(xs:List Int)(Y4:Option Eu)(m c:Nat)(hm:xs.length=m)(hmc:m<=c)(hc:c<=9223372036854775807) (w:M) (hr:Row w Y4 xs) (hB: ∀a,Y4=D a->a.block<gm) (hfl:Xx w base gl gm fs) (hgb:gm<base) (hgw:base<=w.heap.size) (hk:H w gm (EF l) 183): Ef EU 161 #[EI Y4 m c,EI (D ⟨gl,0,Z⟩) n cp] w (EZv (gj ds l xs) gm w):=by
 have Ay:=O hds;have HF:=O hf;have HN:=O hn;obtain⟨R,hR⟩:=En (gj ds l xs);rw[<-hR];have sy:=O hR;have HM:=O hm;have HRW:=O hr;have Az:=O hB;have bE:=O hfl;have HK:=O hk;have HL:=O hl;clear hds hf hn hR hm hr hB hfl hk hl;go_enter Tryz.func161,Tryz.ntmps161;go_wp2_with fail;go_loopw[0,9] (fun x y wr=> ∃(i:Nat) (A:Option Eu) (k e:Nat) (li rs:List Int),i<=n/\y=E I i/\x=EI A k e/\rs.length=k/\k<=e/\e<=9223372036854775807/\Row wr A rs/\(∀a,A=D a->a.block<gm)/\mW li/\H wr gm (EF li) 183/\Xx wr base gl gm fs/\base<=wr.heap.size/\gj (ds.drop i) li rs=R/\Io gm w wr) (fun _ y _=>n-(Iv y).toNat);case atStart=>exact⟨0,Y4,m,c,l,xs,X,U,U,HM.out,hmc,hc,HRW.out,Az.out,HL.out,HK.out,bE.out,hgw,by rw[sy.out];rfl,IE _ _⟩
 case round=>
  obtain⟨i,A,k,e,li,rs,hi,rfl,rfl,hrs,hke,he,hrw,hA,u3,hkm,hfl,hbw,hR,hbb⟩:=hrel;have cF:=O hrs;have RW:=O hrw;have HA:=O hA;have pB:=O u3;have KM:=O hkm;have FL:=O hfl;have HR:=O hR;have BB:=O hbb;have lm:=hkm.lt;clear hrs hrw hA u3 hkm hfl hR hbb HRW bE HK HL sy Az;by_cases hin:i<n
  ·have hil:i<fs.length:=G1;have hcell:=fun j hj=>FL.out.cells i hil j hj;have pC:=(FL.out.2.2 i hil).2;have e1:ds[i]?=D (fs[i]'hil).1:=SE;have hmem:(fs[i]'hil).1∈ds:=dw e1;have hdf:=HF.out _ hmem;have hdr:ds.drop i=(fs[i]'hil).1::ds.drop (i+1):=by obtain⟨h1,h2⟩:=UG.1 e1;rw[<-h2];exact kJ h1
   generalize fs[i]'hil=p at*;obtain⟨d,gb⟩:=p;simp only at hcell pC hdf hdr;have hRR:=HR.out;rw[hdr] at hRR;simp only[gj] at hRR;replace hRR:=O hRR;have u4:=O pC;have HD:=O hdf;have c0:=hcell 0 X;have c1:=hcell 1 X;have c2:=hcell 2 X;have c3:=hcell 3 X;have c4:=hcell 4 X;simp only[IF,Nat.add_zero] at c0 c1 c2 c3 c4;clear hcell pC e1 hmem hdf hdr;have G9:=O<|iO d gb;have hsz2:Ea ((IF d gb).size=5):=O U;have t1:decide ((i:Int)<(n:Int))=u:=Ib X;go_wp2_with (with_reducible refine wA f_ (Ev.mk ?_));apply Eo;clear c0 c1 c2 c3 c4 t1;have K5:=O<|H.new wr JB 298;have b5:=O<|Ep wr (EJ JB 298);generalize wr.alloc (EJ JB 298)=w4 at*;go_wp2_with (with_reducible refine wS (cs:=(IF d gb)) XF K5 (Ev.mk ?_) (hn:=hsz2.out) (h1:=G9.out));apply Eo;replace K5:=O<|K5.out.setRow (IF d gb);replace b5:=O<|E3 (g:=wr.heap.size) b5.out X (IF d gb);generalize w4.setRow wr.heap.size (IF d gb)=w5 at*;replace KM:=O<|KM.out.G b5.out;replace FL:=O<|FL.out.G b5.out;replace RW:=O<|Iy RW.out b5.out;replace BB:=O<|BB.out.trans (b5.out.mono X);have u5:Ea (Zd w5 d gm gb):=EQ u4 b5.out;have l5:=b5.out.size;clear b5 u4;obtain⟨z,hz⟩:=En (wd d);have hzs:d.size=(z:Int):=by rw[hz];exact HD.out.size
   have hz1:1<=z:=by rw[hz];exact HD.out.one.1
   have G_:z<=7:=by rw[hz];exact HD.out.one.2
   have HZ:=O hz;have ZS:=O hzs;have c0: ∀y:Ext w5,(Ey w5 y).cell? ⟨wr.heap.size,0,Z⟩=D (E I z):=fun y=>by rw[(K5.out.G (ED y)).cell 0,<-ZS.out];rfl
   clear hz hzs;go_wp2_with fail;by_cases hkz:k<z
   ·have t2:decide ((k:Int)<(z:Int))=u:=Ib X;refine Xs Ed Ed ?_
    repeat (first
     |go_big_quiet_skip
     |(go_big_quiet_want
       first
        |(refine Ub (T:=298) (g:=wr.heap.size) XF _ rfl rfl K5 ?_ ?_;(·exact hsz2.out);go_simp;go_big_quiet_on)
        |(go_big_quiet_op
          first
           |go_big_quiet_on
           |go_big_quiet_call ((fail)))))
    refine IM ?_;intro _ hw';obtain⟨y9,rfl⟩:=hw';replace BB:=O<|BB.out.trans ((ED y9).mono X);generalize Ey w5 y9=w6 at*;go_wp2_with fail;go_ret;refine⟨BB.out,?_⟩;rw[<-hRR.out,if_pos (by rw[cF.out,<-HZ.out];exact hkz)];rfl
   ·have t2:decide ((k:Int)<(z:Int))=B:=IJ X;have q1:z<=k:=X;have q2:z<=e:=X
    obtain⟨b0,off,hAe⟩: ∃b off,A=D ⟨b,off,Z⟩:=by
     obtain⟨h|⟨b,off,h,-⟩,-⟩:=RW.out;·have:=cF.out;rw[h] at this;simp at this;omega
     ·exact⟨b,off,h⟩
    subst hAe;refine J5 11 Ed Ed ?_;simp only[Ir,Im,IL,IG]
    repeat (first
     |go_big_quiet_skip
     |(go_big_quiet_want
       first
        |(refine Ub (T:=298) (g:=wr.heap.size) XF _ rfl rfl K5 ?_ ?_;(·exact hsz2.out);go_simp;go_big_quiet_on)
        |(go_big_quiet_op
          first
           |go_big_quiet_on
           |go_big_quiet_call ((fail)))))
    refine IM ?_;intro _ hw';obtain⟨y9,rfl⟩:=hw';have Em:=ED y9;replace K5:=O<|K5.out.G Em;replace KM:=O<|KM.out.G Em;replace FL:=O<|FL.out.G Em;replace RW:=O<|Iy RW.out Em;have SI:Ea (Zd (Ey w5 y9) d gm gb):=EQ u5 Em;replace BB:=O<|BB.out.trans (Em.mono X);have l6:=Em.size;clear Em c0 u5;generalize Ey w5 y9=w6 at*;have hlt:(rs.take z).length=z:=by rw[aj,cF.out];omega
    have CT:=O<|EZt d HD.out gb gm li (rs.take z) pB.out (D ⟨b0,off,Z⟩) e z HZ.out.symm w6 (EZr RW.out z) hlt SI.out KM.out;clear hlt SI;go_wp2_with fail;refine(CT.out).mono ?_;rintro e' w7 ht;unfold G8 at ht;have hif: ¬rs.length<wd d:=by rw[cF.out,<-HZ.out];omega
    have k_:=hRR.out;rw[if_neg hif,<-HZ.out] at k_;replace k_:=O k_;clear hif CT hRR;by_cases hlow:Zi d (rs.take z)<d.lo;·rw[if_pos hlow] at ht;obtain⟨rfl,b7⟩:=ht;have dx:=k_.out;rw[if_pos hlow] at dx;replace dx:=O dx;replace BB:=O<|BB.out.trans (b7.mono X);clear hlow b7 k_;exact EpI
    by_cases hhigh:d.hi<Zi d (rs.take z);·rw[if_neg hlow,if_pos hhigh] at ht;obtain⟨rfl,b7⟩:=ht;have dx:=k_.out;rw[if_neg hlow,if_pos hhigh] at dx;replace dx:=O dx;replace BB:=O<|BB.out.trans (b7.mono X);clear hlow hhigh b7 k_;exact EpI
    ·rw[if_neg hlow,if_neg hhigh] at ht;obtain⟨rfl,W,bW,hq1,hq2,hq3,hq4⟩:=ht;have dx:=k_.out;rw[if_neg hlow,if_neg hhigh] at dx;have SJ:mW (li.set d.off (Zi d (rs.take z))):=EZu pB.out _ _ (fun h7=>by have:=HD.out.now h7;omega);have EZy:=O SJ;replace dx:=O dx;have lW:=bW.size;have HU:b0<gm:=HA.out _ U;have c0:w7.cell? ⟨wr.heap.size,0,Z⟩=D (E I z):=by rw[World.cell?_of_block (w:=W) (hq2 wr.heap.size X),(K5.out.G bW).cell 0,<-ZS.out];rfl
     replace BB:=O<|(BB.out.trans (bW.mono X)).trans hq4;replace FL:=O<|(FL.out.G bW).keep hgb hq2;have RW7:=O<|R_ (np (Iy RW.out bW) z) (fun a ha=>by injection ha with ha;subst ha;exact HU) hq4;have KM7:=O hq1;have l7:base<=w7.heap.size:=X;generalize Zi d (rs.take z)=vv at*;clear hlow hhigh SJ bW hq1 hq2 hq4 k_ KM RW K5;go_wp2_with fail;refine⟨⟨i+1,_,k-z,e-z,li.set d.off vv,rs.drop z,X,Eh,U,by rw[mV,cF.out],X,X,?_,?_,EZy.out,KM7.out,FL.out,l7,dx.out,BB.out⟩,Jv⟩
     ·split;·have h0:rs.drop z=[]:=List.drop_eq_nil_of_le (by rw[cF.out];omega);rw[h0];exact⟨.inl U,fun x hx=>by cases hx⟩
      ·exact RW7.out
     ·intro a ha;split at ha;·injection ha with ha;subst ha;exact HU
      ·injection ha with ha;subst ha;exact HU
  ·obtain rfl:i=n:=X;have hdrop:ds.drop i=[]:=List.drop_eq_nil_of_le (by rw[<-Ay.out,List.length_map,HN.out];omega);have hR:=HR.out;rw[hdrop] at hR;simp only[gj] at hR;replace hR:=O hR;have t1:decide ((i:Int)<(i:Int))=B:=IJ X;clear hdrop;by_cases hk0:k=0;·subst hk0;go_wp2_with fail;go_ret;refine⟨BB.out,?_⟩;rw[<-hR.out,if_pos cF.out];exact⟨U,KM.out⟩
   ·have t2:((k:Int)==0)=B:=Jn;go_wp2_with fail;go_ret;refine⟨BB.out,?_⟩;rw[<-hR.out,if_neg (by rw[cF.out];exact hk0)];rfl
section
variable{P:Program}
theorem AA{cs:Array V}(hA:IW P T n)(hg:H w g cs T)(hn:cs.size=n):(loadVar T ⟨g,0,Z⟩).run P w= .ok (EZ cs) w:=by obtain⟨⟨d,hu,hd⟩,hi⟩:=hA;cases d<;>first|(cases hd;done)|exact run_loadVar_row w g T T cs (0,0) _ hg hu rfl fM
theorem dy{fn:Func}{p q:Tmp}(hT:IW P T n)(h:fn.results= #[.cell p T,.tmp q])(tmps:Array V)(w:M)(g:Nat)(cs:Array V)(v:V) (hp:tmps.getD p I6=Y (D ⟨g,0,Z⟩)) (hq:tmps.getD q I6=v) (hg:H w g cs T) (hn:cs.size=n):(Xa fn tmps).run P w= .ok (Et #[EZ cs,v]) w:=by have hp':tmps[p]?.getD I6=Y (D ⟨g,0,Z⟩):=mF;have hq':tmps[q]?.getD I6=v:=rP;simp[Xa,h,hp',hq',asAddr,AA hT hg hn]
end
def fh(bs:List Int):Option (List Int):=match bs with
 |[]=>Z
 |k::xs=>match aq k with
  |none=>Z
  |some ds=>gj ds (If k) xs
def EZB(bs:List Int)(w:M)(e:Ut)(w':M):Prop:=
 (match fh bs with
  |none=>e=Eg (Et #[EZ (EF (If 0)),E I 13])
  |some l=>e=Eg (Et #[EZ (EF l),E I 0]))/\El w w'
theorem Ha(bs:List Int)(Y4:Option Eu)(m c:Nat)(hm:bs.length=m)(hmc:m<=c)(hc:c<=9223372036854775807)(w:M)(hr:Row w Y4 bs):Ef EU 118 #[EI Y4 m c] w (EZB bs w):=by
 cases bs with
 |nil=>
  obtain rfl:m=0:=by rw[<-hm];rfl
  clear hr;go_enter Tryz.func118,Tryz.ntmps118;go_wp2_with (with_reducible refine wA ik (Ev.mk ?_));apply Eo;have K2:=O<|H.new w (EF (If 0)) 183;have BB:=O<|Ep w (EJ (EF (If 0)) 183);generalize w.alloc (EJ (EF (If 0)) 183)=w1 at*;go_wp2_with (first|((with_reducible refine Is 10 ?_);refine I3 rfl 183 _ rfl (EF (If 0)) jr ?_)|(with_reducible refine wS (cs:=(EF (If 0))) O_ K2 ?_ (ho:=JJ _) (hn:=JJ _) (h1:=ZY _)));refine ET (v:=Et #[EZ (EF (If 0)),E I 13]) (dy O_ U _ _ w.heap.size _ _ U U (K2.out.setRow _) (JJ _)) U ⟨?_,E3 BB.out X _⟩;rfl
 |cons k xs=>
  obtain⟨b0,off,rfl,hc0⟩: ∃b off,Y4=D ⟨b,off,Z⟩/\w.cell? ⟨b,off,Z⟩=D (E IP k):=by
   obtain⟨h|⟨b,off,h,hcc⟩,-⟩:=hr;·cases h
   ·exact⟨b,off,h,hcc 0 Eh⟩
  have hb0:b0<w.heap.size:=XA _ _ hc0;have hkb:=hr.2 k hO;obtain⟨k0,k9⟩:=hkb;have HR:=O hr;have m1:1<=m:=by rw[<-hm];simp
  have HM:=O hm;have t1:((m:Int)==0)=B:=Jn;clear hr hm;go_enter Tryz.func118,Tryz.ntmps118;go_wp2_with (with_reducible refine wA ik (Ev.mk ?_));apply Eo;have K2:=O<|H.new w (EF (If 0)) 183;have BB:=O<|Ep w (EJ (EF (If 0)) 183);replace HR:=O<|Iy HR.out BB.out;have c1:(w.alloc (EJ (EF (If 0)) 183)).cell? ⟨b0,off,Z⟩=D (E IP k):=by rw[BB.out.cell hb0];exact hc0
  generalize w.alloc (EJ (EF (If 0)) 183)=w1 at*;clear hc0;go_wp2_with (first|((with_reducible refine Is 15 ?_);refine I3 rfl 183 _ rfl (EF (If k)) (EZn k) ?_)|(with_reducible refine wA ik (Ev.mk ?_)));apply Eo;have l1:=K2.out.lt;have bel:=Ep w1 (EJ (EF (If 0)) 183);have K4:=O<|H.new w1 (EF (If 0)) 183;replace K2:=O<|K2.out.G bel;replace HR:=O<|Iy HR.out bel;replace BB:=EW BB bel;clear bel c1;generalize w1.alloc (EJ (EF (If 0)) 183)=w2 at*;have lw:=BB.out.size;generalize hg4:w1.heap.size=g4 at*;clear hg4;go_wp2_with (with_reducible refine wS (cs:=(EF (If k))) O_ K4 (Ev.mk ?_) (ho:=JJ _) (hn:=JJ _) (h1:=ZY _));apply Eo;have SU:=E3 (g:=g4) (IE g4 w2) (E7 _) (EF (If k));replace K2:=O<|K2.out.setRow_other g4 (EF (If k)) X;replace K4:=O<|K4.out.setRow (EF (If k));replace BB:=O<|E3 (g:=g4) BB.out X (EF (If k));replace HR:=O<|R_ HR.out (fun a ha=>by injection ha with ha;subst ha;show b0<g4;omega) SU;clear SU;generalize w2.setRow g4 (EF (If k))=w3 at*;have l3:=K4.out.lt;go_wp2_with fail;refine(EZb g4 (If k) w3 K4.out).mono ?_;rintro e w4 hf;unfold G6 at hf;have hkk:(If k).getD 0 0=k:=rfl;rw[hkk] at hf;cases hfo:aq k with
  |none=>
   rw[hfo] at hf;obtain⟨rfl,rfl⟩:=hf;have hp:fh (k::xs)=Z:=by unfold fh;simp only[hfo]
   replace hp:=O hp;clear hfo hkk;go_wp2_with (first|((with_reducible refine Is 29 ?_);refine I3 rfl 183 _ rfl (EF (If 0)) jr ?_)|(with_reducible refine wS (cs:=(EF (If 0))) O_ K2 ?_ (ho:=JJ _) (hn:=JJ _) (h1:=ZY _)));refine ET (v:=Et #[EZ (EF (If 0)),E I 13]) (dy O_ U _ _ w.heap.size _ _ U U (K2.out.setRow _) (JJ _)) U ⟨?_,E3 BB.out X _⟩;rw[hp.out]
  |some ds=>
   rw[hfo] at hf;obtain⟨gl,cp,fs,rfl,hds,hfl,b4⟩:=hf;have SX:=R4 hfo;have hd7:=(Au hfo).2.2.1;have hp:fh (k::xs)=gj ds (If k) xs:=by unfold fh;simp only[hfo]
   have HP:=O hp;have l4:=b4.size;replace K2:=O<|K2.out.G b4;replace K4:=O<|K4.out.G b4;replace HR:=O<|Iy HR.out b4;replace BB:=EW BB b4;obtain⟨A2,hA2⟩: ∃A:Option Eu,A=if c=1 then D ⟨b0,off,Z⟩ else D ⟨b0,off+1,Z⟩:=⟨_,U⟩
   have hx:xs.length=m-1:=by have:=HM.out;rw[ZV] at this;omega
   have hrow:Row w4 A2 xs:=by
    rw[hA2];split;·have h0:xs=[]:=aN X;rw[h0];exact⟨.inl U,fun x hx=>by cases hx⟩
    ·exact np HR.out 1
   have hA3: ∀a,A2=D a->a.block<g4:=by
    intro a ha;rw[hA2] at ha;split at ha;·injection ha with ha;subst ha;show b0<g4;omega
    ·injection ha with ha;subst ha;show b0<g4;omega
   have CT:=O<|EZw fs ds hds SX ds.length (by rw[<-hds,List.length_map]) X gl cp g4 w3.heap.size (If k) ⟨U,.inl U⟩ xs A2 (m-1) (c-1) hx X X w4 hrow hA3 hfl l3 l4 K4.out;generalize ds.length=n at*;clear hds hfl SX hfo hkk b4 hx hrow hA3 hp;have EjV:=hA2.symm;replace hA2:=O hA2;go_wp2_with fail;refine(CT.out).mono ?_;rintro e' w5 ⟨b5,hpost⟩;have k2:H w5 w.heap.size (EF (If 0)) 183:=(b5.block _ X).trans K2.out;replace K2:=O k2;replace BB:=O<|BB.out.trans (b5.mono X);clear k2 b5 K4 CT;cases hR:gj ds (If k) xs with
   |none=> rw[hR] at hpost;obtain rfl:=hpost;have HRR:=O hR;clear hR;go_wp2_with (first|((with_reducible refine Is 29 ?_);refine I3 rfl 183 _ rfl (EF (If 0)) jr ?_)|(with_reducible refine wS (cs:=(EF (If 0))) O_ K2 ?_ (ho:=JJ _) (hn:=JJ _) (h1:=ZY _)));refine ET (v:=Et #[EZ (EF (If 0)),E I 13]) (dy O_ U _ _ w.heap.size _ _ U U (K2.out.setRow _) (JJ _)) U ⟨?_,E3 BB.out X _⟩;rw[HP.out,HRR.out]
   |some l'=> rw[hR] at hpost;obtain⟨rfl,hk4⟩:=hpost;have HRR:=O hR;have K4:=O hk4;clear hR hk4;go_wp2_with (with_reducible first|refine wL O_ K4 ?_ (hn:=JJ _)|refine wS (cs:=(EF l')) O_ K2 ?_ (ho:=JJ _) (hn:=JJ _) (h1:=ZY _));refine ET (v:=Et #[EZ (EF l'),E I 0]) (dy O_ U _ _ w.heap.size _ _ U U (K2.out.setRow _) (JJ _)) U ⟨?_,E3 BB.out X _⟩;rw[HP.out,HRR.out]
theorem EZC(hd:d.u2)(hb: ∀x∈bs,0<=x/\x<=255)(hl:bs.length=wd d)(h1: ¬Zi d bs<d.lo)(h2: ¬d.hi<Zi d bs):sj d (Zi d bs)=D bs:=by
 unfold sj;rw[if_neg h1,if_neg h2];have e:=EJ8 bs hb;have hn:=uu bs hb bs.length X;rw[List.take_length] at hn;by_cases h3:d.lo<0
 ·rw[if_pos h3];have h2':bs.length=2:=by rw[hl];unfold wd;rw[if_pos h3]
  unfold Zi;rw[if_pos h3];rw[h2'] at e hn;have h65:num bs<65536:=hn.2;have:sig bs%65536=num bs:=by unfold sig;split<;>omega
  rw[this,e]
 ·rw[if_neg h3];have hk:d.size.toNat=bs.length:=by rw[hl,hd.size];simp
  unfold Zi;rw[if_neg h3,hk,e]
theorem Sa(ds:List FD)(l:List Int)(hl:l.length=12)(hd: ∀d∈ds,d.off<12)(o:Nat)(h: ∃d∈ds,d.off=o):(OE ds l).getD o 0=0:=by
 induction ds generalizing l with
 |nil=>obtain⟨d,hd,_⟩:=h;cases hd
 |cons d ds ih=>
  show(OE ds (l.set d.off 0)).getD o 0=0;by_cases hex: ∃e∈ds,e.off=o;·exact ih _ (by rw[List.length_set];exact hl) (fun d h=>hd d (ai _ h)) hex
  ·rw[sx ds _ o (fun e he hh=>hex ⟨e,he,hh⟩)];obtain⟨e,he,u6⟩:=h;rcases Ui.1 he with rfl|he;·subst u6;have h12:=hd e hO;simp[UK,hl,h12]
   ·exact absurd ⟨e,he,u6⟩ hex
theorem Sb(h:cD ds l=D p): ∀d∈ds,d.lo<=l.getD d.off 0/\l.getD d.off 0<=d.hi:=by
 induction ds generalizing p with
 |nil=>intro d hd;cases hd
 |cons e ds ih=>
  obtain⟨a,b,h1,h2,rfl⟩:=EZo h;intro d hd;rcases Ui.1 hd with rfl|hd
  ·unfold sj at h1;split at h1;·cases h1
   split at h1;·cases h1
   omega
  ·exact ih h2 d hd
theorem EZD(hf: ∀d∈ds,d.u2)(hnd:(ds.map (·.off)).Nodup)(hl:l.length=12)(hb: ∀x∈xs,0<=x/\x<=255)(h:gj ds l xs=D z): cD ds z=D xs/\OE ds z=OE ds l/\z.length=12/\(∀o,(∀d∈ds,d.off≠o)->z.getD o 0=l.getD o 0):=by
 induction ds generalizing l xs with
 |nil=>
  simp only[gj] at h;split at h;·rename_i h0;injection h with h;subst h;refine⟨?_,rfl,hl,fun _ _=>rfl⟩;rw[aN h0];rfl
  ·cases h
 |cons d ds ih=>
  simp only[gj] at h;split at h;·cases h
  split at h;·cases h
  split at h;·cases h
  rename_i g1 g2 g3;rw[UL,mC] at hnd;have hd:=hf d hO;have h12:=hd.good.ok.1;obtain⟨r1,r2,r3,r4⟩:=ih (fun d h=>hf d (ai _ h)) hnd.2 (by rw[List.length_set];exact hl) (fun x hx=>hb x (List.mem_of_mem_drop hx)) h;have hno: ∀e∈ds,e.off≠d.off:=fun e he hh=>hnd.1 (by rw[<-hh];exact List.mem_map_of_mem he);have hz:=r4 d.off hno;have hset:(l.set d.off (Zi d (xs.take (wd d)))).getD d.off 0=Zi d (xs.take (wd d)):=by simp[UK,hl,h12]
  rw[hset] at hz;have ho:=EZC hd (fun x hx=>hb x (fK hx)) mg g2 g3;refine⟨?_,?_,r3,fun o ho'=> ?_⟩;·simp only[cD];rw[hz,ho,r1];simp only[hU]
  ·apply RV (by rw[Aw];exact r3) (by rw[Aw];exact hl);intro o EjY;by_cases hh: ∃e∈d::ds,e.off=o
   ·have zz: ∀l':List Int,l'.length=12->(OE (d::ds) l').getD o 0=0:=by
     intro l' hl';show(OE ds (l'.set d.off 0)).getD o 0=0;obtain⟨e,he,u6⟩:=hh;by_cases hex: ∃e∈ds,e.off=o;·have:=Sa ds (l'.set d.off 0) (by rw[List.length_set];exact hl') (fun d h=>(hf d (ai _ h)).good.ok.1) o hex;exact this
     ·rw[sx ds _ o (fun e he hh=>hex ⟨e,he,hh⟩)];rcases Ui.1 he with rfl|he;·subst u6;simp[UK,hl',h12]
      ·exact absurd ⟨e,he,u6⟩ hex
    rw[zz z r3,zz l hl]
   ·have hn: ∀e∈d::ds,e.off≠o:=fun e he hh'=>hh ⟨e,he,hh'⟩;rw[sx _ _ o hn,sx _ _ o hn,r4 o fun e he=>hn e (ai _ he)];simp[UK,List.getElem?_set_ne (hn d hO)]
  ·rw[r4 o fun e he=>ho' e (ai _ he)];simp[UK,List.getElem?_set_ne (ho' d hO)]
theorem EZF(h:aq k=D ds):(ds.map (·.off)).Nodup:=by
 unfold aq at h;repeat' split at h
 all_goals first
  |(cases h;done)
  |(injection h with h
    subst h
    decide)
theorem Hb(hb: ∀x∈bs,0<=x/\x<=255)(h:fh bs=D z):su z=D bs/\mW z:=by
 unfold fh at h;cases bs with
 |nil=>cases h
 |cons k xs=>
  simp only at h;cases hf:aq k with
  |none=>rw[hf] at h;cases h
  |some ds=>
   rw[hf] at h;simp only at h;have u7:=R4 hf;obtain⟨r1,r2,r3,r4⟩:=EZD u7 (EZF hf) (show(If k).length=12 from rfl) (fun x hx=>hb x (ai _ hx)) h;have h0:z.getD 0 0=k:=(r4 0 fun d hd=>by have:=(u7 d hd).good.off1;omega).trans U
   have hzz:OE ds (If k)=If k:=by
    apply RV (by rw[Aw];rfl) U;intro o ho;by_cases hh: ∃e∈ds,e.off=o;·rw[Sa ds (If k) U (fun d h=>(u7 d h).good.ok.1) o hh];obtain⟨e,he,rfl⟩:=hh;have h1:=(u7 e he).good.off1;have ho':e.off=1\/e.off=2\/e.off=3\/e.off=4\/e.off=5\/e.off=6\/e.off=7\/e.off=8\/e.off=9\/e.off=10\/e.off=11:=X;rcases ho' with h|h|h|h|h|h|h|h|h|h|h<;>rw[h]<;>rfl
    ·exact sx ds _ o fun e he hh'=>hh ⟨e,he,hh'⟩
   refine⟨?_,r3,?_⟩;·unfold su;rw[h0,hf];simp only[r1];rw[if_pos (r2.trans hzz)]
   ·by_cases hh: ∃d∈ds,d.off=7;·obtain⟨d,hd,h7⟩:=hh;have hfd:=u7 d hd;have hin:=Sb r1 d hd;have:=hfd.now h7;rw[h7] at hin;omega
    ·left;rw[r4 7 fun d hd e=>hh ⟨d,hd,e⟩];rfl
def go(n lo hi:Int):Bool:=decide (lo<=n)&&decide (n<=hi)
def EZH(k s r t e m c n x0 x1 x2 x3:Int):List Int:=
 if k=1\/k=2 then [k,0,r,0,0,0,0,0,0,0,0,0] else if k=5 then [k,s,0,0,0,0,0,n,0,0,0,0] else if k=6 then [k,s,0,t,0,0,0,0,0,0,0,0] else if k=7 then [k,s,0,0,e,0,0,0,0,0,0,0]
 else if k=10 then [k,s,0,0,e,m,0,0,0,0,0,0] else if k=11 then [k,s,0,0,e,0,c,0,x0,x1,x2,x3] else [k,s,0,0,0,0,0,0,0,0,0,0]
def Hc(a0 a1 a2 a3 a4 a5 a6 a8 a9 Ul Oi:Int):Bool:=go a8 (-32768) 32767&&go a9 (-32768) 32767&&go Ul (-32768) 32767&&go Oi (-32768) 32767&&go a0 1 11&&go a1 0 4294967295&&go a4 0 65535&&go a2 0 3&&go a3 0 4&&go a5 0 4&&go a6 (if a0=11 then 1 else 0) 3
theorem Hd(a0 a1 a2 a3 a4 a5 a6 a8 a9 Ul Oi:Int):Hc a0 a1 a2 a3 a4 a5 a6 a8 a9 Ul Oi=u↔(-32768<=a8/\a8<=32767)/\(-32768<=a9/\a9<=32767)/\(-32768<=Ul/\Ul<=32767)/\(-32768<=Oi/\Oi<=32767)/\(1<=a0/\a0<=11)/\(0<=a1/\a1<=4294967295)/\(0<=a4/\a4<=65535)/\(0<=a2/\a2<=3)/\(0<=a3/\a3<=4)/\(0<=a5/\a5<=4)/\((if a0=11 then 1 else 0)<=a6/\a6<=3):=by
 unfold Hc go;simp only[Oc,decide_eq_true_iff];constructor;·rintro⟨⟨⟨⟨⟨⟨⟨⟨⟨⟨h1,h2⟩,h3⟩,h4⟩,h5⟩,h6⟩,h7⟩,h8⟩,h9⟩,h10⟩,h11⟩;exact⟨h1,h2,h3,h4,h5,h6,h7,h8,h9,h10,h11⟩
 ·rintro⟨h1,h2,h3,h4,h5,h6,h7,h8,h9,h10,h11⟩;exact⟨⟨⟨⟨⟨⟨⟨⟨⟨⟨h1,h2⟩,h3⟩,h4⟩,h5⟩,h6⟩,h7⟩,h8⟩,h9⟩,h10⟩,h11⟩
theorem Sc(a0 a1 a2 a3 a4 a5 a6 a7 a8 a9 Ul Oi:Int)(bs:List Int)(h:su [a0,a1,a2,a3,a4,a5,a6,a7,a8,a9,Ul,Oi]=D bs):Hc a0 a1 a2 a3 a4 a5 a6 a8 a9 Ul Oi=u/\EZH a0 a1 a2 a3 a4 a5 a6 a7 a8 a9 Ul Oi=[a0,a1,a2,a3,a4,a5,a6,a7,a8,a9,Ul,Oi]:=by
 obtain⟨ds,ps,f1,o1,z1,-⟩:=RM h;have hin:=Sb o1;rw[show([a0,a1,a2,a3,a4,a5,a6,a7,a8,a9,Ul,Oi]:List Int).getD 0 0=a0 from rfl] at f1 z1;obtain⟨k1,k11,-,-⟩:=Au f1;have hk:a0=1\/a0=2\/a0=3\/a0=4\/a0=5\/a0=6\/a0=7\/a0=8\/a0=9\/a0=10\/a0=11:=X;rw[Hd];rcases hk with rfl|rfl|rfl|rfl|rfl|rfl|rfl|rfl|rfl|rfl|rfl;·obtain rfl:[Xf]=ds:=fI f1;simp only[OE,If,jt,ju,Xf,Ig,Ih,bU,cG,true_and,and_true] at z1;obtain⟨rfl,rfl,rfl,rfl,rfl,rfl,rfl,rfl,rfl,rfl⟩:=z1;have gr:=hin (Xf) Eh;replace gr:(0:Int)<=a2/\a2<=3:=gr;refine⟨?_,U⟩;simp only[if_true,show¬(1:Int)=11 from Eb,if_false];omega
 ·obtain rfl:[Xf]=ds:=fI f1;simp only[OE,If,jt,ju,Xf,Ig,Ih,bU,cG,true_and,and_true] at z1;obtain⟨rfl,rfl,rfl,rfl,rfl,rfl,rfl,rfl,rfl,rfl⟩:=z1;have gr:=hin (Xf) Eh;replace gr:(0:Int)<=a2/\a2<=3:=gr;refine⟨?_,U⟩;simp only[if_true,show¬(2:Int)=11 from Eb,if_false];omega
 ·obtain rfl:[Ii]=ds:=fI f1;simp only[OE,If,jt,ju,Ii,Ig,Ih,bU,cG,true_and,and_true] at z1;obtain⟨rfl,rfl,rfl,rfl,rfl,rfl,rfl,rfl,rfl,rfl⟩:=z1;have gs:=hin (Ii) Eh;replace gs:(0:Int)<=a1/\a1<=4294967295:=gs;refine⟨?_,U⟩;simp only[if_true,show¬(3:Int)=11 from Eb,if_false];omega
 ·obtain rfl:[Ii]=ds:=fI f1;simp only[OE,If,jt,ju,Ii,Ig,Ih,bU,cG,true_and,and_true] at z1;obtain⟨rfl,rfl,rfl,rfl,rfl,rfl,rfl,rfl,rfl,rfl⟩:=z1;have gs:=hin (Ii) Eh;replace gs:(0:Int)<=a1/\a1<=4294967295:=gs;refine⟨?_,U⟩;simp only[if_true,show¬(4:Int)=11 from Eb,if_false];omega
 ·obtain rfl:[Ii,dn]=ds:=fI f1;simp only[OE,If,jt,ju,dn,Ii,Ig,Ih,bU,cG,true_and,and_true] at z1;obtain⟨rfl,rfl,rfl,rfl,rfl,rfl,rfl,rfl,rfl⟩:=z1;have gs:=hin (Ii) Eh;replace gs:(0:Int)<=a1/\a1<=4294967295:=gs;have gn:=hin (dn) Eh;replace gn:(0:Int)<=a7/\a7<=1:=gn;refine⟨?_,U⟩;simp only[if_true,show¬(5:Int)=11 from Eb,if_false];omega
 ·obtain rfl:[Ii,Jf]=ds:=fI f1;simp only[OE,If,jt,ju,Ii,Jf,Ig,Ih,bU,cG,true_and,and_true] at z1;obtain⟨rfl,rfl,rfl,rfl,rfl,rfl,rfl,rfl,rfl⟩:=z1;have gs:=hin (Ii) Eh;replace gs:(0:Int)<=a1/\a1<=4294967295:=gs;have gt:=hin (Jf) Eh;replace gt:(0:Int)<=a3/\a3<=4:=gt;refine⟨?_,U⟩;simp only[if_true,show¬(6:Int)=11 from Eb,if_false];omega
 ·obtain rfl:[Ii,IS]=ds:=fI f1;simp only[OE,If,jt,ju,IS,Ii,Ig,Ih,bU,cG,true_and,and_true] at z1;obtain⟨rfl,rfl,rfl,rfl,rfl,rfl,rfl,rfl,rfl⟩:=z1;have gs:=hin (Ii) Eh;replace gs:(0:Int)<=a1/\a1<=4294967295:=gs;have ge:=hin (IS) Eh;replace ge:(0:Int)<=a4/\a4<=65535:=ge;refine⟨?_,U⟩;simp only[if_true,show¬(7:Int)=11 from Eb,if_false];omega
 ·obtain rfl:[Ii]=ds:=fI f1;simp only[OE,If,jt,ju,Ii,Ig,Ih,bU,cG,true_and,and_true] at z1;obtain⟨rfl,rfl,rfl,rfl,rfl,rfl,rfl,rfl,rfl,rfl⟩:=z1;have gs:=hin (Ii) Eh;replace gs:(0:Int)<=a1/\a1<=4294967295:=gs;refine⟨?_,U⟩;simp only[if_true,show¬(8:Int)=11 from Eb,if_false];omega
 ·obtain rfl:[Ii]=ds:=fI f1;simp only[OE,If,jt,ju,Ii,Ig,Ih,bU,cG,true_and,and_true] at z1;obtain⟨rfl,rfl,rfl,rfl,rfl,rfl,rfl,rfl,rfl,rfl⟩:=z1;have gs:=hin (Ii) Eh;replace gs:(0:Int)<=a1/\a1<=4294967295:=gs;refine⟨?_,U⟩;simp only[if_true,show¬(9:Int)=11 from Eb,if_false];omega
 ·obtain rfl:[Ii,IS,ct]=ds:=fI f1;simp only[OE,If,jt,ju,IS,ct,Ii,Ig,Ih,bU,cG,true_and,and_true] at z1;obtain⟨rfl,rfl,rfl,rfl,rfl,rfl,rfl,rfl⟩:=z1;have gs:=hin (Ii) Eh;replace gs:(0:Int)<=a1/\a1<=4294967295:=gs;have ge:=hin (IS) Eh;replace ge:(0:Int)<=a4/\a4<=65535:=ge;have gm:=hin (ct) Eh;replace gm:(0:Int)<=a5/\a5<=4:=gm;refine⟨?_,U⟩;simp only[if_true,show¬(10:Int)=11 from Eb,if_false];omega
 ·obtain rfl:[Ii,IS,dp,JL 0,JL 1,JL 2,JL 3]=ds:=fI f1;simp only[OE,If,jt,ju,JL,dp,IS,Ii,Ig,Ih,bU,cG,true_and,and_true] at z1;obtain⟨rfl,rfl,rfl,rfl⟩:=z1;have gs:=hin (Ii) Eh;replace gs:(0:Int)<=a1/\a1<=4294967295:=gs;have ge:=hin (IS) Eh;replace ge:(0:Int)<=a4/\a4<=65535:=ge;have gc:=hin (dp) Eh;replace gc:(1:Int)<=a6/\a6<=3:=gc;have Sd:=hin (JL 0) Eh;replace Sd:(-32768:Int)<=a8/\a8<=32767:=Sd;have Sf:=hin (JL 1) Eh;replace Sf:(-32768:Int)<=a9/\a9<=32767:=Sf;have Sg:=hin (JL 2) Eh;replace Sg:(-32768:Int)<=Ul/\Ul<=32767:=Sg;have Sh:=hin (JL 3) Eh;replace Sh:(-32768:Int)<=Oi/\Oi<=32767:=Sh;refine⟨?_,U⟩;simp only[if_true];omega
structure Hf where
 tab:EP
 msg:List Int
 code:Int
def bX(T:EP)(i:Nat)(bs:List Int):Hf:=match fh bs with
 |none=>⟨T,If 0,13⟩
 |some l=>if l.getD 0 0=1\/l.getD 0 0=2 then⟨T,If 0,13⟩
  else if(Zm (T.EY i).win (l.getD 1 0).toNat).2 then⟨T.put i ⟨u,0,max T.E9 0,(T.EY i).r,(T.EY i).key,(Zm (T.EY i).win (l.getD 1 0).toNat).1⟩,l,0⟩
  else⟨T,If 0,15⟩
def u9(key:List Int)(src:Int)(xs:List Int):Prop:=8<=xs.length/\xs=xs.take (xs.length-8)++dk key src (xs.take (xs.length-8))
instance(key:List Int)(src:Int)(xs:List Int):Decidable (u9 key src xs):=by unfold u9;exact inferInstance
def EP.take(T:EP)(src:Int)(xs:List Int):Hf:=
 if(src=1\/src=2\/src=3)/\(T.EY (src-1).toNat).on=u then
  (if u9 (T.EY (src-1).toNat).key src xs then bX T (src-1).toNat (xs.take (xs.length-8)) else⟨T,If 0,14⟩)
 else⟨T,If 0,16⟩
def Si(o:Hf)(g:Nat)(w:M)(e:Ut)(w':M):Prop:=e=Eg (Et #[EZ (EF o.msg),E I o.code])/\E2 w' g o.tab/\EH g w w'
theorem Sj(hb: ∀x∈bs,0<=x/\x<=255)(h:fh bs=D l):0<=l.getD 1 0/\l.getD 1 0<=4294967295:=by
 obtain⟨hp,hl,-⟩:=Hb hb h;match l,hl with
 |[a0,a1,a2,a3,a4,a5,a6,a7,a8,a9,Ul,Oi],_=> obtain⟨hf,-⟩:=Sc a0 a1 a2 a3 a4 a5 a6 a7 a8 a9 Ul Oi bs hp;exact((Hd _ _ _ _ _ _ _ _ _ _ _).1 hf).2.2.2.2.2.1
theorem Hg(pre old post:List V)(o n:Nat)(ho:pre.length=o)(hn:old.length=n):(pre++(old++post)).toArray.extract o (o+n)=old.toArray:=by subst ho hn;simp
theorem EZK(T:EP)(h:T.ok)(i:Nat):T.v.toArray.extract (so i+4) (so i+4+32)=Ej (T.EY i).key:=by rw[T.rN i];have e:T.pre i++((T.EY i).v++T.post i)=(T.pre i++(O8 (T.EY i).on (T.EY i).a (T.EY i).m++[E I (T.EY i).r]))++((T.EY i).key.map (E .u8)++(Of (T.EY i).win++T.post i)):=AB;rw[e];exact Hg _ _ _ _ _ (by simp[EP.oT h i,O8]) (by simp[(h.EY i).len])
theorem EZL(T:EP)(h:T.ok)(i:Nat):T.v.toArray.extract (so i+36) (so i+36+3)=(Of (T.EY i).win).toArray:=by rw[T.rN i];have e:T.pre i++((T.EY i).v++T.post i)=(T.pre i++(O8 (T.EY i).on (T.EY i).a (T.EY i).m++([E I (T.EY i).r]++(T.EY i).key.map (E .u8))))++(Of (T.EY i).win++T.post i):=AB;rw[e];exact Hg _ _ _ _ _ Sk (rM _)
theorem EZM{W:M}{T:EP}(K:E2 W g T)(h:T.ok)(i:Nat)(v:Option (Nat×Nat)): E2 (W.setCells g (so i+36) (Of v)) g (T.put i {T.EY i with win:=v}):=by unfold E2 at*;rw[T.rN i] at K;rw[T.uf i];have e1:T.pre i++((T.EY i).v++T.post i)=(T.pre i++(O8 (T.EY i).on (T.EY i).a (T.EY i).m++([E I (T.EY i).r]++(T.EY i).key.map (E .u8))))++(Of (T.EY i).win++T.post i):=AB;have e2:T.pre i++(({T.EY i with win:=v}:I4).v++T.post i)=(T.pre i++(O8 (T.EY i).on (T.EY i).a (T.EY i).m++([E I (T.EY i).r]++(T.EY i).key.map (E .u8))))++(Of v++T.post i):=AB;rw[e1] at K;rw[e2];exact Zp _ _ _ _ W K (by rw[rM,rM]) Sk
theorem EP.EZN(T:EP)(i:Nat)(a:I4):(T.put i a).E9=T.E9/\(T.put i a).most=T.most:=by
 match i with
 |0=>exact⟨U,U⟩
 |1=>exact⟨U,U⟩
 |_+2=>exact⟨U,U⟩
theorem AC:IW EU 158 3:=⟨⟨_,Tryz.underlying158,U⟩,Ed⟩
theorem EZP:Od EU 158 (Of Z).toArray:=by intro ev o w ho;unfold Iw;simp only[ho];simp[go_sem];exact congrArg (fun c=>w.alloc (EJ c 158)) Ed
theorem EZQ(v:Option (Nat×Nat))(q:Int)(h0:0<=q)(h1:q<=4294967295)(hv:rC v)(W:M): Ef EU 126 #[EZ (Of v).toArray,E I q] W fun e w'=>e=Eg (Et #[EZ (Of (Zm v q.toNat).1).toArray,Ec (Zm v q.toNat).2])/\El W w':=by have h:=EI8 v q.toNat W hv X;rw[Ps,Ps,Int.toNat_of_nonneg h0] at h;exact h
def AG(b0 g o g11:Nat)(wc UF:Array V)(q:Int)(f:Bool)(i:Nat)(v:V)(w:M):Prop:=match i with
 |0=>v=Y (D ⟨g,o,Z⟩)
 |1=>v=Y (D ⟨g,o,Z⟩)
 |2=>v=Y (D ⟨g,o+36,Z⟩)
 |3=>v=EZ wc
 |4=>v=Y (D ⟨g11,1,Z⟩)
 |5=>v=E I q
 |6=>v=Et #[EZ UF,Ec f]
 |7=>v=Et #[EZ UF,Ec f]
 |8=>v=EZ UF
 |9=>v=Ec f
 |10=> ∃(g12:Nat) (c:Array V),v=Y (D ⟨g12,0,Z⟩)/\b0<=g12/\c.size=UF.size/\H w g12 c 158
 |_=>v=Ec f
theorem EZR(b0 g o g11:Nat)(wc UF:Array V)(q:Int)(f:Bool): ∀i v w w',i<13->AG b0 g o g11 wc UF q f i v w->mK b0 158 UF w w'->AG b0 g o g11 wc UF q f i v w':=by
 intro i v w w' hi h hb;unfold AG at*;split at h;case h_11=> obtain⟨g12,c,e,l1,hs,k⟩:=h;obtain⟨c',hs',k'⟩:=EJr hb k hs;exact⟨g12,c',e,l1,hs',k'⟩
 all_goals exact h
def Hh(b0:Nat)(UF:Array V)(v:V)(w:M):Prop:= ∃g12:Nat,v=Y (D ⟨g12,0,Z⟩)/\b0<=g12/\H w g12 UF 158
theorem EZS(b0:Nat)(UF:Array V): ∀v w w',Hh b0 UF v w->mK b0 158 UF w w'->Hh b0 UF v w':=by rintro v w w' ⟨g12,e,l,k⟩ hb;exact⟨g12,e,l,EJs hb k⟩
theorem Sl(v:Option (Nat×Nat)):(Of v).toArray.all (·.oneCell')=u:=by rcases v with _|⟨h,q⟩<;>simp[Of,OC]
theorem Sm{v:Option (Nat×Nat)}{q:Nat}(hv:rC v)(hq:q<=4294967295):rC (Zm v q).1:=by
 rcases v with _|⟨h,s⟩;·exact⟨hq,Eb⟩
 ·obtain⟨h1,h2⟩:=hv;by_cases c1:h<q
  ·have e:Zm (D (h,s)) q=(D (q,(s*2^(q-h))%2^64|||1),u):=by simp only[Zm,if_pos c1]
   rw[e];exact⟨hq,Nat.or_lt_two_pow (Nat.mod_lt _ Eb) Eb⟩
  ·by_cases c2:h-q<64
   ·have e:Zm (D (h,s)) q=(D (h,s|||2^(h-q)),!s.testBit (h-q)):=by simp only[Zm,if_neg c1,if_pos c2]
    rw[e];exact⟨h1,Nat.or_lt_two_pow h2 (Nat.pow_lt_pow_right Eb c2)⟩
   ·have e:Zm (D (h,s)) q=(D (h,s),B):=by simp only[Zm,if_neg c1,if_neg c2]
    rw[e];exact⟨h1,h2⟩
theorem EZT(g:Nat)(T:EP)(src:Int)(xs:List Int)(Y4:Option Eu)(n c:Nat)(w:M)(K:E2 w g T)(h:T.ok)(hn:xs.length=n)(hnc:n<=c)(hc:c<=9223372036854775807)(hs:n<=1000)(hr:Row w Y4 xs)(hR:JP w): Ef EU 88 #[Y (D ⟨g,0,Z⟩),E I src,EI Y4 n c] w (Si (T.take src xs) g w):=by
 have lg0:=H.lt K;have CO:=O<|fun W (k:H W g T.v.toArray 163)=>pX g T src W k h;have KT:Ea (H w g T.v.toArray 163):=O K;have RT:=O hR;have HR:=O hr;have HH:=O h;obtain⟨R,hRR⟩:=En (T.take src xs);rw[<-hRR];have PO:Ea (∀(e:Ut) (w':M) (l:List Int) (k:Int) (T2:EP),R=⟨T2,l,k⟩->e=Eg (Et #[EZ (EF l),E I k])->E2 w' g T2->EH g w w'->Si R g w e w'):=O (by intro e w' l k T2 hR he hk ho;subst hR;exact⟨he,hk,ho⟩);rcases zN T g src with⟨e1,e2,-⟩|⟨i,hi,es,hon,e1,-,-⟩
 ·have hR0:R=⟨T,If 0,16⟩:=by rw[hRR];unfold EP.take;rw[if_neg];rintro⟨hs,ho⟩;have:=e2 X X;unfold EP.Zu at this;rw[if_neg X,if_neg X,if_pos hs,ho] at this;cases this
  rw[e1] at CO;have PF:=O<|fun e w' he hk ho=>PO.out e w' _ _ _ hR0 he hk ho;clear hR0 hRR e1 e2 K h hr hR PO;go_enter Tryz.func88,Tryz.ntmps88;go_wp2_with (with_reducible refine wA ik (Ev.mk ?_));apply Eo;have K2:=O<|H.new w (EF (If 0)) 183;have b1:=Ep w (EJ (EF (If 0)) 183);replace KT:=O<|KT.out.G b1;replace RT:=O<|RT.out.G b1;replace HR:=O<|Iy HR.out b1;have ON:Ea (EH g w (w.alloc (EJ (EF (If 0)) 183))):=O<|EH.Ew b1;generalize w.alloc (EJ (EF (If 0)) 183)=w1 at*;clear b1;go_wp2_with fail;refine(CO.out _ KT.out).mono ?_;rintro e w' ⟨rfl,rfl⟩;clear CO;go_wp2_with (first|((with_reducible refine Is 19 ?_);refine I3 rfl 183 _ rfl (EF (If 0)) jr ?_)|(with_reducible refine wS (cs:=(EF (If 0))) O_ K2 ?_ (ho:=JJ _) (hn:=JJ _) (h1:=ZY _)));refine ET (v:=Et #[EZ (EF (If 0)),E I 16]) (dy O_ U _ _ w.heap.size _ _ U U (K2.out.setRow _) (JJ _)) U ?_;exact Ely
 ·have e2:(src-1).toNat=i:=X;have hs3:src=1\/src=2\/src=3:=X;have hR0:R=if u9 (T.EY i).key src xs then bX T i (xs.take (xs.length-8)) else⟨T,If 0,14⟩:=by rw[hRR];unfold EP.take;rw[e2,if_pos ⟨hs3,hon⟩]
  rw[e1] at CO;have hso:=h.EY i;obtain⟨key,hkey⟩:=En ((T.EY i).key);have TK:=EZK T h i;rw[<-hkey] at hR0 TK;have hkl:key.length=32:=by rw[hkey];exact hso.len
  have hkb: ∀x∈key,0<=x/\x<=255:=by rw[hkey];exact hso.bytes
  replace TK:=O TK;have sy:=O hR0;have dh:=O hkl;have na:=O hkb;have HKEY:=O hkey;have HN:=O hn;have hks:Ea ((Ej key).size=32):=O (by rw[Om,hkl]);obtain⟨o,ho⟩:=En (so i);rw[<-ho] at CO TK;have HO:=O ho;have HON:=O hon;clear hRR e1 e2 hs3 K h hr hR hkl hkb hkey hn hR0 ho hon hso es;go_enter Tryz.func88,Tryz.ntmps88;go_wp2_with (with_reducible refine wA ik (Ev.mk ?_));apply Eo;have K2:=O<|H.new w (EF (If 0)) 183;have b1:=Ep w (EJ (EF (If 0)) 183);replace KT:=O<|KT.out.G b1;replace RT:=O<|RT.out.G b1;replace HR:=O<|Iy HR.out b1;have ON:Ea (EH g w (w.alloc (EJ (EF (If 0)) 183))):=O<|EH.Ew b1;generalize w.alloc (EJ (EF (If 0)) 183)=w1 at*;clear b1;go_wp2_with fail;refine(CO.out _ KT.out).mono ?_;rintro e w' ⟨rfl,rfl⟩;clear CO;obtain⟨kv,hkv⟩:=En (Ej key);rw[<-hkv] at hks TK;replace hkv:=O hkv;by_cases hn8:n<8
  ·have nr:R=⟨T,If 0,14⟩:=by rw[sy.out,if_neg];rintro⟨h8,-⟩;rw[HN.out] at h8;omega
   have PF:=O<|fun e w' he hk ho=>PO.out e w' _ _ _ nr he hk ho;clear nr;go_wp2_with (with_reducible refine wM (off:=(o+4)) (cs:=kv) J7 KT ?_ (hn:=hks.out) (he:=TK.out));rw[hkv.out];refine(EXq key Y4 n c src _ hn8).mono ?_;exact EpK
  obtain⟨m,rfl⟩: ∃m,n=m+8:=⟨n-8,X⟩;have em:xs.length-8=m:=rY;by_cases hx:xs=xs.take m++dk key src (xs.take m)
  ·have nr:R=bX T i (xs.take m):=by rw[sy.out,if_pos,em];unfold u9;rw[em,HN.out];exact⟨X,hx⟩
   have HR1:=O nr;clear nr;go_wp2_with (with_reducible refine wM (off:=(o+4)) (cs:=kv) J7 KT ?_ (hn:=hks.out) (he:=TK.out));rw[hkv.out];refine(EXs key xs Y4 m c src _ dh.out na.out HN.out HR.out X X RT.out hx).mono ?_;rintro e w2 ⟨⟨A3,d3,rfl,o3⟩,b2⟩;have O3:=O o3;have Hi:Ea ((xs.take m).length=m):=O (by rw[aj,HN.out];omega);clear hx o3;replace K2:=O<|K2.out.G b2;replace KT:=O<|KT.out.G b2;replace ON:=O<|ON.out.trans (EH.Ew b2);replace RT:=O<|RT.out.G b2;clear b2;obtain⟨bs,hbs⟩:=En (xs.take m);rw[<-hbs] at O3 Hi HR1;clear hbs;have hcap:=EZq O3.out;rw[Hi.out] at hcap;have CT:=O<|Ha bs A3 m d3 Hi.out hcap.1 hcap.2 _ O3.out.row;have Az:=O O3.out.2;clear hcap;go_wp2_with fail;refine(CT.out).mono ?_;rintro e w3 ⟨hpost,b3⟩;clear CT O3;replace K2:=O<|K2.out.G b3;replace KT:=O<|KT.out.G b3;replace ON:=O<|ON.out.trans (EH.Ew b3);replace RT:=O<|RT.out.G b3;clear b3;cases htk:fh bs with
   |none=>
    rw[htk] at hpost;obtain rfl:=hpost;have hR2:R=⟨T,If 0,13⟩:=by rw[HR1.out];unfold bX;rw[htk]
    have PF:=O<|fun e w' he hk ho=>PO.out e w' _ _ _ hR2 he hk ho;clear htk hR2;go_wp2_with (with_reducible refine wA ik (Ev.mk ?_));apply Eo;have l2:=K2.out.lt;have lt:=KT.out.lt;have lr:=RT.out.lt;have b4:=Ep w3 (EJ (EF (If 0)) 183);replace K2:=O<|K2.out.G b4;replace KT:=O<|KT.out.G b4;replace ON:=O<|ON.out.trans (EH.Ew b4);replace RT:=O<|RT.out.G b4;have I1:=O<|H.new w3 (EF (If 0)) 183;clear b4;generalize w3.alloc (EJ (EF (If 0)) 183)=w4 at*;generalize w3.heap.size=g11 at*;have u_:=ON.out.size;have Hj:w.heap.size<=g11:=X;go_wp2_with (with_reducible refine wS (cs:=(EF (If 0))) O_ I1 (Ev.mk ?_) (ho:=JJ _) (hn:=JJ _) (h1:=ZY _));apply Eo;replace K2:=O<|K2.out.setRow_other g11 (EF (If 0)) X;replace KT:=O<|KT.out.setRow_other g11 (EF (If 0)) X;replace I1:=O<|I1.out.setRow (EF (If 0));replace RT:=O<|RT.out.setRow g11 (EF (If 0)) X;replace ON:=O<|ON.out.ZE (g2:=g11) Hj (bI (EF (If 0))) u_;generalize w4.setRow g11 (EF (If 0))=w5 at*;clear u_;exact Elv
   |some l=>
    rw[htk] at hpost;obtain rfl:=hpost;have AH:=Sj Az.out htk;have gu:=O htk;clear htk;go_wp2_with (with_reducible refine wA ik (Ev.mk ?_));apply Eo;have l2:=K2.out.lt;have lt:=KT.out.lt;have lr:=RT.out.lt;have b4:=Ep w3 (EJ (EF (If 0)) 183);replace K2:=O<|K2.out.G b4;replace KT:=O<|KT.out.G b4;replace ON:=O<|ON.out.trans (EH.Ew b4);replace RT:=O<|RT.out.G b4;have I1:=O<|H.new w3 (EF (If 0)) 183;clear b4;generalize w3.alloc (EJ (EF (If 0)) 183)=w4 at*;generalize w3.heap.size=g11 at*;have u_:=ON.out.size;have Hj:w.heap.size<=g11:=X;go_wp2_with (with_reducible refine wS (cs:=(EF l)) O_ I1 (Ev.mk ?_) (ho:=JJ _) (hn:=JJ _) (h1:=ZY _));apply Eo;replace K2:=O<|K2.out.setRow_other g11 (EF l) X;replace KT:=O<|KT.out.setRow_other g11 (EF l) X;replace I1:=O<|I1.out.setRow (EF l);replace RT:=O<|RT.out.setRow g11 (EF l) X;replace ON:=O<|ON.out.ZE (g2:=g11) Hj (bI (EF l)) u_;generalize w4.setRow g11 (EF l)=w5 at*;clear u_;have c0:w5.cell? ⟨g11,0,Z⟩=D (E I (l.getD 0 0)):=(I1.out.cell 0).trans (Zs l 0 X);obtain⟨kd,hkd⟩:=En (l.getD 0 0);rw[<-hkd] at c0;by_cases h12:kd=1\/kd=2
    ·have hR2:R=⟨T,If 0,13⟩:=by rw[HR1.out];unfold bX;rw[gu.out];simp only;rw[<-hkd,if_pos h12]
     have PF:=O<|fun e w' he hk ho=>PO.out e w' _ _ _ hR2 he hk ho;clear hR2 hkd;rcases h12 with rfl|rfl;·exact Elv
     ·exact Elv
    have n1:(kd==1)=B:=beq_eq_false_iff_ne.2 (fun h=>h12 (.inl h));have n2:(kd==2)=B:=beq_eq_false_iff_ne.2 (fun h=>h12 (.inr h));have hR2:R=if(Zm (T.EY i).win (l.getD 1 0).toNat).2 then⟨T.put i ⟨u,0,max T.E9 0,(T.EY i).r,(T.EY i).key,(Zm (T.EY i).win (l.getD 1 0).toNat).1⟩,l,0⟩ else⟨T,If 0,15⟩:=by rw[HR1.out];unfold bX;rw[gu.out];simp only;rw[<-hkd,if_neg h12]
    obtain⟨q,hq⟩:=En (l.getD 1 0);rw[<-hq] at hR2 AH;have c1:Ea ((EF l)[1]?=D (E I q)):=O (by rw[hq];exact Zs l 1 X);have CW:=O<|fun W=>EZQ (T.EY i).win q AH.1 AH.2 (HH.out.EY i).win W;have TW:=O<|EZL T HH.out i;rw[<-HO.out] at TW;obtain⟨v2,hv2⟩:=En (Zm (T.EY i).win q.toNat);rw[<-hv2] at hR2 CW;have Sn:rC v2.1:=by rw[hv2];exact Sm (HH.out.EY i).win X
    obtain⟨nw,fr⟩:=v2;have EZW:=O Sn;clear Sn;obtain⟨wc,hwc⟩:=En ((Of (T.EY i).win).toArray);obtain⟨UF,AK⟩:=En ((Of nw).toArray);simp only at hR2 CW;rw[<-hwc,<-AK] at CW;rw[<-hwc] at TW;have SW:Ea (wc.size=3):=O (by rw[hwc];exact rM _);have sA:Ea (UF.size=3):=O (by rw[AK];exact rM _);have Hk:=O AK;have HR2:=O hR2;clear hkd AH hq hv2 hwc AK hR2 h12;go_wp2_with fail;clear c0 n1 n2;have EZY:=I1.out.lt;have ltg:=KT.out.lt;have W1:=O<|Sl nw;rw[<-Hk.out] at W1;refine EJp (hG (b0:=w5.heap.size) (T:=158) (cs:=UF)) Ed 13 Ed Eh Eb (RX (AG w5.heap.size g o g11 wc UF q fr) 11 10 (Hh w5.heap.size UF)) (RX.keep (EZR _ _ _ _ _ _ _ _) (EZS _ _)) (RX.dep (uk Ed)) ?_ ?_
    ·simp only[oY,Ir,Im,EL,In,Ip,Ig,Ih,and_true];refine⟨?_,?_,?_,?_,?_,?_,?_,?_,?_,?_,?_,?_,?_⟩;all_goals intro v w' hb hd
     ·exact IQ hG (Ei U) Ez U
     ·have d0:v 0=Y (D ⟨g,o,Z⟩):=hd.at 0 rfl;exact IQ hG (Ei U) U4 U
     ·have d1:v 1=Y (D ⟨g,o,Z⟩):=hd.at 1 rfl;exact IQ hG (Ei U) Xw U
     ·have d2:v 2=Y (D ⟨g,o+36,Z⟩):=hd.at 2 rfl;exact aV hG AC (Ei U) ⟨U,d2⟩ (PA hb KT.out (.inl ltg)) SW.out TW.out U
     ·exact IQ hG (Ei U) Ez U
     ·have d4:v 4=Y (D ⟨g11,1,Z⟩):=hd.at 4 rfl;have cc:w'.cell? ⟨g11,1,Z⟩=D (E I q):=(H.cell (PA hb I1.out (.inl EZY)) 1).trans c1.out;exact IQ hG (Ei U) Hl U
     ·have d3:v 3=EZ wc:=hd.at 3 rfl;have d5:v 5=E I q:=hd.at 5 rfl;refine JR (f:=126) (args:= #[v 3,v 5]) (Ei U) Ez ?_;rw[d3,d5];exact(CW.out w').mono fun e w'' ⟨he,hb'⟩=>⟨_,he,Pz hb',U⟩
     ·have d6:v 6=Et #[EZ UF,Ec fr]:=hd.at 6 rfl;exact IQ hG (Ei U) nf U
     ·exact Eo7
     ·exact Eo7
     ·exact Zq (Ei U) (EZP _ _ _ U) (Pz (Ep w' _)) ⟨_,_,U,hb.1,(show(Of Z).toArray.size=UF.size by rw[sA.out];rfl),H.new _ _ _⟩
     ·obtain⟨g12,c,d10,Hm,hs,k12⟩: ∃(g12:Nat) (c:Array V),v 10=Y (D ⟨g12,0,Z⟩)/\w5.heap.size<=g12/\c.size=UF.size/\H w' g12 c 158:=hd.at 10 rfl;have d8:v 8=EZ UF:=hd.at 8 rfl;exact db AC (Ei U) ⟨U,d10,d8⟩ k12 (hs.trans sA.out) sA.out W1.out (EJq k12 Hm hs) ⟨g12,d10,Hm,k12.setRow UF⟩
     ·have d9:v 9=Ec fr:=hd.at 9 rfl;exact IQ hG (Ei U) sh U
    ·intro v w7 hb hr;obtain⟨g12,d10,Hm,jv⟩: ∃g12:Nat,v 10=Y (D ⟨g12,0,Z⟩)/\w5.heap.size<=g12/\H w7 g12 UF 158:=hr 11 X;have d8:v 8=EZ UF:=hr 8 X;have d12:v 12=Ec fr:=hr 12 X;simp only[Ir,Im,IL,IG,EL,In,Ip,Ig,Ih];rw[d10,d12];replace jv:=O jv;have hb5:=hb.2.1 (E7 _);replace K2:=O<|K2.out.G hb5;replace KT:=O<|KT.out.G hb5;replace ON:=O<|ON.out.trans (EH.Ew hb5);replace RT:=O<|RT.out.G hb5;replace I1:=O<|I1.out.G hb5;clear hr hb hb5 d8 d10 d12 CW c1 TW RT W1;cases fr with
     |false=>
      have vE:R=⟨T,If 0,15⟩:=by rw[HR2.out];rfl
      have PF:=O<|fun e w' he hk ho=>PO.out e w' _ _ _ vE he hk ho;clear vE;go_wp2_with (first|((with_reducible refine Is 63 ?_);refine I3 rfl 183 _ rfl (EF (If 0)) jr ?_)|(with_reducible refine wS (cs:=(EF (If 0))) O_ K2 ?_ (ho:=JJ _) (hn:=JJ _) (h1:=ZY _)));refine ET (v:=Et #[EZ (EF (If 0)),E I 15]) (dy O_ U _ _ w.heap.size _ _ U U (K2.out.setRow _) (JJ _)) U ?_;exact Ely
     |true=>
      have vE:R=⟨T.put i ⟨u,0,max T.E9 0,(T.EY i).r,(T.EY i).key,nw⟩,l,0⟩:=by rw[HR2.out];rfl
      have PF:=O<|fun e w' he hk ho=>PO.out e w' _ _ _ vE he hk ho;clear vE;have TH:Ea (w7.there g (o+36) 3):=O<|XN KT.out (by rw[uF KT.out HH.out,HO.out];have:=Gc i;omega);have K8:=O<|EZM KT.out HH.out i nw;have vI:=O<|ON.out.trans (Jq (g:=g) (Of nw) (so i+36) w7);have vJ:Ea (H (w7.setCells g (so i+36) (Of nw)) w.heap.size (EF (If 0)) 183):=O<|(Jq (g:=g) (Of nw) (so i+36) w7).Ek K2.out X;have vO:Ea (H (w7.setCells g (so i+36) (Of nw)) g11 (EF l) 183):=O<|(Jq (g:=g) (Of nw) (so i+36) w7).Ek I1.out X;rw[<-HO.out] at K8 vI vJ vO;have ew:UF.toList=Of nw:=by rw[Hk.out]
      replace ew:=O ew;go_wp2_with (first|(with_reducible refine wL AC jv ?_ (hn:=sA.out))|((with_reducible refine JE 158 ?_);(with_reducible refine OH rfl 158 _ _ rfl g (o+36) UF ?_ ?_ ?_ ?_ ?_ ?_);(·rfl);(·rfl);(·rw[sA.out];exact TH.out);(·rw[sA.out];exact AC.2);(·rw[Hk.out];exact Sl nw);refine Ev.mk ?_));apply Eo;rw[ew.out];generalize w7.setCells g (o+36) (Of nw)=w8 at*;clear jv TH KT K2 I1 ON;have hok2:=(HH.out).put i (s:={T.EY i with win:=nw}) ⟨(HH.out.EY i).len,(HH.out.EY i).bytes,EZW.out⟩;have cb: ∀y:Ext w8,(Ey w8 y).cell? ⟨g,120,Z⟩=D (E I T.E9):=fun y=>by have:=(iZ (E2.G K8.out (ED y)) hok2).1;rwa [(EP.EZN _ _ _).1] at this
      have KH:Ea (H w8 g (T.pre i++([Ec (T.EY i).on,E I (T.EY i).a,E I (T.EY i).m]++(([E .i64 (T.EY i).r]++((T.EY i).key.map (E .u8)++Of nw))++T.post i))).toArray 163):=O (by have:=K8.out;unfold E2 at this;rw[T.uf i] at this;simpa[I4.v,O8] using this);have CH:=O<|fun W (k:H W g (T.pre i++([Ec (T.EY i).on,E I (T.EY i).a,E I (T.EY i).m]++(([E .i64 (T.EY i).r]++((T.EY i).key.map (E .u8)++Of nw))++T.post i))).toArray 163)=>hZ g o (T.pre i) _ _ _ _ 163 T.E9 W k (by rw[HO.out];exact EP.oT HH.out i);have HP:Ea (∀w',H w' g (T.pre i++(O8 u 0 (max T.E9 0)++(([E .i64 (T.EY i).r]++((T.EY i).key.map (E .u8)++Of nw))++T.post i))).toArray 163->E2 w' g (T.put i ⟨u,0,max T.E9 0,(T.EY i).r,(T.EY i).key,nw⟩)):=O (fun w' k=>by unfold E2;rw[T.uf i];simpa[I4.v] using k);generalize T.E9=E9 at*;go_wp2_with fail;refine J5 7 Ed Ed ?_;simp only[Ir,Im,IL,IG]
      repeat (first
       |go_big_quiet_skip
       |(go_big_quiet_want
         first
          |(go_big_quiet_op
            first
             |go_big_quiet_on
             |go_big_quiet_call ((fail)))))
      refine IM ?_;intro _ hw';obtain⟨y9,rfl⟩:=hw';have Em:=ED y9;replace KH:=O<|KH.out.G Em;replace vJ:=O<|vJ.out.G Em;replace vO:=O<|vO.out.G Em;replace vI:=O<|vI.out.trans (EH.Ew Em);clear cb Em K8;generalize Ey w8 y9=w9 at*;go_wp2_with fail;refine(CH.out _ KH.out).mono ?_;rintro e UD ⟨rfl,k10,o_⟩;have KT:=O<|HP.out _ k10;have K2:=O<|o_.Ek vJ.out X;have I1:=O<|o_.Ek vO.out X;have ON:=O<|vI.out.trans o_;clear CH KH vJ vO vI o_ k10 HP;go_wp2_with (with_reducible first|refine wL O_ I1 ?_ (hn:=JJ _)|refine wS (cs:=(EF l)) O_ K2 ?_ (ho:=JJ _) (hn:=JJ _) (h1:=ZY _));refine ET (v:=Et #[EZ (EF l),E I 0]) (dy O_ U _ _ w.heap.size _ _ U U (K2.out.setRow _) (JJ _)) U ?_;exact Ely
  ·have nr:R=⟨T,If 0,14⟩:=by rw[sy.out,if_neg];rintro⟨-,h8⟩;rw[em] at h8;exact hx h8
   have PF:=O<|fun e w' he hk ho=>PO.out e w' _ _ _ nr he hk ho;clear nr;go_wp2_with (with_reducible refine wM (off:=(o+4)) (cs:=kv) J7 KT ?_ (hn:=hks.out) (he:=TK.out));rw[hkv.out];refine(EXr key xs Y4 m c src _ dh.out na.out HN.out HR.out X X RT.out hx).mono ?_;exact EpK
def il(E9 most:Int):EP:=⟨B,0,0,Jp,Jp,Jp,E9,most⟩
theorem EZ1(E9 most:Int):(il E9 most).ok:=⟨ud,ud,ud⟩
theorem EZ2(E9 most:Int):Tryz.prog.built 163 [(2,E I E9),(3,E I most)]=D (il E9 most).v.toArray:=Ed
theorem EZ3(pv:Array V)(E9 most:Int)(w:M)(hs:pv.size=56)(hb:pv[42]?=D (E I E9))(hm:pv[49]?=D (E I most)): Ef EU 43 #[EZ pv] w fun e w'=> ∃g,w.heap.size<=g/\e=Eg (Y (D ⟨g,0,Z⟩))/\E2 w' g (il E9 most)/\El w w':=by
 have BT:=O<|EZ2 E9 most;have K0:=O<|H.new w pv 28;have c1:(w.alloc (EJ pv 28)).cell? ⟨w.heap.size,42,Z⟩=D (E I E9):=by rw[K0.out.cell,hb]
 have c2:(w.alloc (EJ pv 28)).cell? ⟨w.heap.size,49,Z⟩=D (E I most):=by rw[K0.out.cell,hm]
 have HE:Ea (∀x,x=(il E9 most).v.toArray-> ∀W g,H W g x 163->E2 W g (il E9 most)):=O fun x hx W g k=>by rw[hx] at k;exact k
 obtain⟨tv,Ia⟩:=En ((il E9 most).v.toArray);rw[<-Ia] at BT;replace HE:=O<|HE.out tv Ia;clear Ia hb hm;go_enter Tryz.func43,Tryz.ntmps43;go_wp2_with (first|((with_reducible refine Is 7 ?_);refine I3 rfl 163 _ rfl tv BT.out ?_));go_ret;exact⟨w.heap.size+1,X,U,HE.out _ _ (H.new' _ _ _ Eh),J9 w _ _⟩
def I5(l:List Int):Array V:=(l.map (E .i64)).toArray
theorem sB(l:List Int):(I5 l).all (·.oneCell')=u:=by simp[I5,OC]
theorem AM:IW EU 176 10:=⟨⟨_,Tryz.underlying176,U⟩,Ed⟩
theorem sC:IW EU 206 2:=⟨⟨_,Tryz.underlying206,U⟩,Ed⟩
theorem So:IW EU 207 12:=⟨⟨_,Tryz.underlying207,U⟩,Ed⟩
theorem Hn:IW EU 58 6:=⟨⟨_,Tryz.underlying58,U⟩,Ed⟩
theorem Ho:Od EU 176 (Ej (Er 10)):=by intro ev o w ho;unfold Iw;simp only[ho];simp[go_sem];exact congrArg (fun c=>w.alloc (EJ c 176)) Ed
theorem sD:Od EU 206 (I5 (Er 2)):=by intro ev o w ho;unfold Iw;simp only[ho];simp[go_sem];exact congrArg (fun c=>w.alloc (EJ c 206)) Ed
theorem EZ4:Od EU 207 (I5 (Er 12)):=by intro ev o w ho;unfold Iw;simp only[ho];simp[go_sem];exact congrArg (fun c=>w.alloc (EJ c 207)) Ed
theorem EZ5:Od EU 58 (I5 (Er 6)):=by intro ev o w ho;unfold Iw;simp only[ho];simp[go_sem];exact congrArg (fun c=>w.alloc (EJ c 58)) Ed
theorem EZ6: ∃i,Tryz.prog.info? 206=D i/\i.size=2:=by
 have h:(Tryz.prog.info? 206).map (·.size)=D 2:=Ed;cases hi:Tryz.prog.info? 206 with
 |none=>rw[hi] at h;cases h
 |some i=>rw[hi] at h;exact⟨i,U,Un⟩
theorem sF(cs:Array V)(i:Nat)(h:i<6)(W:M):(JY 207 (EZ cs) (E I (i:Int))).run EU W= .ok (EZ (cs.extract (i*2) (i*2+2))) W:=by obtain⟨i0,hi,h1⟩:=EZ6;unfold JY;have c1:(0:Int)<=(i:Int)/\(i:Int)<(6:Int):=X;simp[asIntOf,run_underlying Tryz.underlying207,c1,sizeOf,typeInfo,hi,h1,Go.part,isAgg,run_underlying Tryz.underlying206];omega
def gw(k s q e c h:Int):List Int:=be (k%256) 1++be (s%256) 1++be (q%4294967296) 4++be (e%65536) 2++be (c%256) 1++be (h%256) 1
theorem EZ7(k s q e c h:Int):(gw k s q e c h).length=10:=by simp[gw,Ua]
theorem EZ8(k s q e c h:Int): ∀x∈gw k s q e c h,0<=x/\x<=255:=by intro x hx;simp only[gw,XP] at hx;rcases hx with((((h|h)|h)|h)|h)|h<;>exact uw _ _ x h
theorem Hp(n:Int)(k:Nat)(m:Int)(hk:k<=63)(hm:IntKind.u64.wrap (IntKind.u64.wrap (2^k)-1)=m)(hd:(2:Int)^k∣18446744073709551616):Ix .and .u64 (IntKind.u64.wrap n) m=n%2^k:=by
 have e:IntKind.u64.wrap n=n%18446744073709551616:=by unfold oD;rfl
 rw[e,<-hm,QU k hk _ X X];exact Int.emod_emod_of_dvd n hd
theorem AN(n:Int):Ix .and .u64 (IntKind.u64.wrap n) 255=n%256:=Hp n 8 255 X Eb Eb
theorem EZ9(n:Int):Ix .and .u64 (IntKind.u64.wrap n) 65535=n%65536:=Hp n 16 65535 X Eb Eb
theorem EZ_(n:Int):Ix .and .u64 (IntKind.u64.wrap n) 4294967295=n%4294967296:=Hp n 32 4294967295 X Eb Eb
theorem pD(p y:List Int)(n at_:Nat)(hp:p.length=at_):putAt (p++Er n) at_ y=(p++y)++Er (n-y.length):=by subst hp;unfold putAt Er;simp[List.drop_append]
theorem EaE(k s q e c h:Int)(w:M): Ef EU 81 #[EZ #[E I k,E I s,E I q,E I e,E I c,E I h]] w fun e' w'=>e'=Eg (EZ (Ej (gw k s q e c h)))/\El w w':=by
 have BB:=O<|IE w.heap.size w;go_enter Tryz.func81,Tryz.ntmps81;go_wp2_with (with_reducible refine wA Ho (Ev.mk ?_));apply Eo;have KR:=O<|(H.new w #[E I k,E I s,E I q,E I e,E I c,E I h] 58).alloc (EJ (Ej (Er 10)) 176);have K2:=O<|H.new' (w.alloc (EJ #[E I k,E I s,E I q,E I e,E I c,E I h] 58)) (Ej (Er 10)) 176 (g:=w.heap.size+1) Eh;replace BB:=O<|J9 w (EJ #[E I k,E I s,E I q,E I e,E I c,E I h] 58) (EJ (Ej (Er 10)) 176);generalize (w.alloc (EJ #[E I k,E I s,E I q,E I e,E I c,E I h] 58)).alloc (EJ (Ej (Er 10)) 176)=w1 at*;have g2e:w.heap.size<=w.heap.size+1:=Nat.le_succ _;generalize w.heap.size+1=g2 at*;have ck:=(Ja KR.out).1;have l1:=K2.out.lt;go_wp2_with (with_reducible refine wA EZ4 (Ev.mk ?_));apply Eo;have bel:=Ep w1 (EJ (I5 (Er 12)) 207);replace KR:=O<|KR.out.G bel;replace K2:=O<|K2.out.G bel;replace BB:=EW BB bel;have K3:=O<|H.new w1 (I5 (Er 12)) 207;clear bel;generalize w1.alloc (EJ (I5 (Er 12)) 207)=w2 at*;generalize w1.heap.size=g3 at*;clear ck;go_wp2_with (with_reducible refine wS (cs:= #[E I k,E I 1,E I s,E I 1,E I q,E I 4,E I e,E I 2,E I c,E I 1,E I h,E I 1]) So K3 (Ev.mk ?_) (h1:=Us));apply Eo;replace KR:=O<|KR.out.setRow_other g3 (#[E I k,E I 1,E I s,E I 1,E I q,E I 4,E I e,E I 2,E I c,E I 1,E I h,E I 1]) X;replace K2:=O<|K2.out.setRow_other g3 (#[E I k,E I 1,E I s,E I 1,E I q,E I 4,E I e,E I 2,E I c,E I 1,E I h,E I 1]) X;replace K3:=O<|K3.out.setRow (#[E I k,E I 1,E I s,E I 1,E I q,E I 4,E I e,E I 2,E I c,E I 1,E I h,E I 1]);replace BB:=O<|E3 (g:=g3) BB.out X (#[E I k,E I 1,E I s,E I 1,E I q,E I 4,E I e,E I 2,E I c,E I 1,E I h,E I 1]);generalize w2.setRow g3 (#[E I k,E I 1,E I s,E I 1,E I q,E I 4,E I e,E I 2,E I c,E I 1,E I h,E I 1])=w3 at*;have l3:=K3.out.lt;go_wp2_with (with_reducible refine wA Ho (Ev.mk ?_));apply Eo;have bel:=Ep w3 (EJ (Ej (Er 10)) 176);replace KR:=O<|KR.out.G bel;replace K2:=O<|K2.out.G bel;replace K3:=O<|K3.out.G bel;replace BB:=EW BB bel;have K4:=O<|H.new w3 (Ej (Er 10)) 176;clear bel;generalize w3.alloc (EJ (Ej (Er 10)) 176)=w4 at*;generalize w3.heap.size=g4 at*;clear KR;have K3c:Ea (H w4 g3 (#[E I k,E I 1,E I s,E I 1,E I q,E I 4,E I e,E I 2,E I c,E I 1,E I h,E I 1]) 207):=K3;go_wp2_with (with_reducible refine wL So K3 ?_);refine O9 7 ?_;have l4:=K4.out.lt;have P0L:Ea ((([]:List Int)++Er 10).length=10):=O pF;have P0E:Ea (putAt (([]:List Int)++Er 10) 0 (be (k%256) 1)=(([]:List Int)++be (k%256) 1)++Er 9):=O (by rw[pD _ _ _ _ sG,Ua]);have P1L:Ea (((([]:List Int)++be (k%256) 1)++Er 9).length=10):=O pF;have P1E:Ea (putAt ((([]:List Int)++be (k%256) 1)++Er 9) 1 (be (s%256) 1)=((([]:List Int)++be (k%256) 1)++be (s%256) 1)++Er 8):=O (by rw[pD _ _ _ _ sG,Ua]);have P2L:Ea ((((([]:List Int)++be (k%256) 1)++be (s%256) 1)++Er 8).length=10):=O pF;have P2E:Ea (putAt (((([]:List Int)++be (k%256) 1)++be (s%256) 1)++Er 8) 2 (be (q%4294967296) 4)=(((([]:List Int)++be (k%256) 1)++be (s%256) 1)++be (q%4294967296) 4)++Er 4):=O (by rw[pD _ _ _ _ sG,Ua]);have P3L:Ea (((((([]:List Int)++be (k%256) 1)++be (s%256) 1)++be (q%4294967296) 4)++Er 4).length=10):=O pF;have P3E:Ea (putAt ((((([]:List Int)++be (k%256) 1)++be (s%256) 1)++be (q%4294967296) 4)++Er 4) 6 (be (e%65536) 2)=((((([]:List Int)++be (k%256) 1)++be (s%256) 1)++be (q%4294967296) 4)++be (e%65536) 2)++Er 2):=O (by rw[pD _ _ _ _ sG,Ua]);have P4L:Ea ((((((([]:List Int)++be (k%256) 1)++be (s%256) 1)++be (q%4294967296) 4)++be (e%65536) 2)++Er 2).length=10):=O pF;have P4E:Ea (putAt (((((([]:List Int)++be (k%256) 1)++be (s%256) 1)++be (q%4294967296) 4)++be (e%65536) 2)++Er 2) 8 (be (c%256) 1)=(((((([]:List Int)++be (k%256) 1)++be (s%256) 1)++be (q%4294967296) 4)++be (e%65536) 2)++be (c%256) 1)++Er 1):=O (by rw[pD _ _ _ _ sG,Ua]);have P5L:Ea (((((((([]:List Int)++be (k%256) 1)++be (s%256) 1)++be (q%4294967296) 4)++be (e%65536) 2)++be (c%256) 1)++Er 1).length=10):=O pF;have P5E:Ea (putAt ((((((([]:List Int)++be (k%256) 1)++be (s%256) 1)++be (q%4294967296) 4)++be (e%65536) 2)++be (c%256) 1)++Er 1) 9 (be (h%256) 1)=((((((([]:List Int)++be (k%256) 1)++be (s%256) 1)++be (q%4294967296) 4)++be (e%65536) 2)++be (c%256) 1)++be (h%256) 1)++Er 0):=O (by rw[pD _ _ _ _ sG,Ua]);replace K4:Ea (H w4 g4 (Ej (([]:List Int)++Er 10)) 176):=K4;clear K3c K3;rw[Ic];have IX: ∀W,(JY 207 (EZ #[E I k,E I 1,E I s,E I 1,E I q,E I 4,E I e,E I 2,E I c,E I 1,E I h,E I 1]) (E I 0)).run EU W= .ok (EZ #[E I k,E I 1]) W:=fun W=>sF _ 0 X W;go_wp2_with (with_reducible refine wA sD (Ev.mk ?_));apply Eo;have bel:=Ep w4 (EJ (I5 (Er 2)) 206);replace K2:=O<|K2.out.G bel;replace K4:=O<|K4.out.G bel;replace BB:=EW BB bel;have K7:=O<|H.new w4 (I5 (Er 2)) 206;clear bel;generalize w4.alloc (EJ (I5 (Er 2)) 206)=w0a at*;generalize w4.heap.size=vU at*;go_wp2_with (with_reducible refine wS (cs:=I5 [k,1]) sC K7 (Ev.mk ?_) (h1:=sB _));apply Eo;replace K2:=O<|K2.out.setRow_other vU (I5 [k,1]) X;replace K4:=O<|K4.out.setRow_other vU (I5 [k,1]) X;replace K7:=O<|K7.out.setRow (I5 [k,1]);replace BB:=O<|E3 (g:=vU) BB.out X (I5 [k,1]);generalize w0a.setRow vU (I5 [k,1])=Sp at*;have cf: ∀i,Sp.cell? ⟨vU,i,Z⟩=(#[E I k,E I 1]:Array V)[i]?:=(Ja K7.out).1;clear IX;have PUT: ∀W:M,Ef EU 111 #[E Il (k%256),E I 1] W fun en w'=>en=Eg (Et #[EI (D ⟨W.heap.size,0,Z⟩) 1 1,E I 0])/\Row w' (D ⟨W.heap.size,0,Z⟩) (be (k%256) 1)/\El W w':=fun W=>kw (k%256) 1 W X X X (by show(k%256)/256=0;omega);go_wp2_with fail;rw[AN];refine(PUT _).mono ?_;rintro e' w0c ⟨rfl,RP,bp⟩;clear PUT cf;replace K2:=O<|K2.out.G bp;replace K4:=O<|K4.out.G bp;replace K7:=O<|K7.out.G bp;replace BB:=EW BB bp;clear bp K7;replace RP:=O RP;go_wp2_with (with_reducible refine I7 60 ?_);apply Eo;(with_reducible refine kh ?_ g4 0 1 1 (([]:List Int)++Er 10) 176 (D ⟨Sp.heap.size,0,Z⟩) 1 1 (be (k%256) 1) 1 (D ⟨g4,0,Z⟩) ?_ K4 (Ua _ _) RP ?_ ?_ ?_ ?_);·exact Ei U
 ·exact EnY
 ·rfl
 ·rw[P0L.out];omega
 ·exact Eo9
 intro vX XT b5 o5 s5;rw[UZ sH,P0E.out] at XT;replace BB:=O<|BB.out.trans (b5.mono X);replace K2:=O<|show H vX g2 (Ej (Er 10)) 176 from(o5 _ X).trans K2.out;clear K4 o5 s5 b5 RP;replace K4:=O XT;clear XT;have l4:=K4.out.lt;go_wp2_with fail;rw[Ic];have IX: ∀W,(JY 207 (EZ #[E I k,E I 1,E I s,E I 1,E I q,E I 4,E I e,E I 2,E I c,E I 1,E I h,E I 1]) (E I 1)).run EU W= .ok (EZ #[E I s,E I 1]) W:=fun W=>sF _ 1 X W;go_wp2_with (with_reducible refine wA sD (Ev.mk ?_));apply Eo;have bel:=Ep vX (EJ (I5 (Er 2)) 206);replace K2:=O<|K2.out.G bel;replace K4:=O<|K4.out.G bel;replace BB:=EW BB bel;have K7:=O<|H.new vX (I5 (Er 2)) 206;clear bel;generalize vX.alloc (EJ (I5 (Er 2)) 206)=w1a at*;generalize vX.heap.size=vZ at*;go_wp2_with (with_reducible refine wS (cs:=I5 [s,1]) sC K7 (Ev.mk ?_) (h1:=sB _));apply Eo;replace K2:=O<|K2.out.setRow_other vZ (I5 [s,1]) X;replace K4:=O<|K4.out.setRow_other vZ (I5 [s,1]) X;replace K7:=O<|K7.out.setRow (I5 [s,1]);replace BB:=O<|E3 (g:=vZ) BB.out X (I5 [s,1]);generalize w1a.setRow vZ (I5 [s,1])=Sq at*;have cf: ∀i,Sq.cell? ⟨vZ,i,Z⟩=(#[E I s,E I 1]:Array V)[i]?:=(Ja K7.out).1;clear IX;have PUT: ∀W:M,Ef EU 111 #[E Il (s%256),E I 1] W fun en w'=>en=Eg (Et #[EI (D ⟨W.heap.size,0,Z⟩) 1 1,E I 0])/\Row w' (D ⟨W.heap.size,0,Z⟩) (be (s%256) 1)/\El W w':=fun W=>kw (s%256) 1 W X X X (by show(s%256)/256=0;omega);go_wp2_with fail;rw[AN];refine(PUT _).mono ?_;rintro e' w1c ⟨rfl,RP,bp⟩;clear PUT cf;replace K2:=O<|K2.out.G bp;replace K4:=O<|K4.out.G bp;replace K7:=O<|K7.out.G bp;replace BB:=EW BB bp;clear bp K7;replace RP:=O RP;go_wp2_with (with_reducible refine I7 60 ?_);apply Eo;(with_reducible refine kh ?_ g4 1 1 1 ((([]:List Int)++be (k%256) 1)++Er 9) 176 (D ⟨Sq.heap.size,0,Z⟩) 1 1 (be (s%256) 1) 1 (D ⟨g4,1,Z⟩) ?_ K4 (Ua _ _) RP ?_ ?_ ?_ ?_);·exact Ei U
 ·exact EnY
 ·rfl
 ·rw[P1L.out];omega
 ·exact Eo9
 intro vb XT b5 o5 s5;rw[UZ sH,P1E.out] at XT;replace BB:=O<|BB.out.trans (b5.mono X);replace K2:=O<|show H vb g2 (Ej (Er 10)) 176 from(o5 _ X).trans K2.out;clear K4 o5 s5 b5 RP;replace K4:=O XT;clear XT;have l4:=K4.out.lt;go_wp2_with fail;rw[Ic];have IX: ∀W,(JY 207 (EZ #[E I k,E I 1,E I s,E I 1,E I q,E I 4,E I e,E I 2,E I c,E I 1,E I h,E I 1]) (E I 2)).run EU W= .ok (EZ #[E I q,E I 4]) W:=fun W=>sF _ 2 X W;go_wp2_with (with_reducible refine wA sD (Ev.mk ?_));apply Eo;have bel:=Ep vb (EJ (I5 (Er 2)) 206);replace K2:=O<|K2.out.G bel;replace K4:=O<|K4.out.G bel;replace BB:=EW BB bel;have K7:=O<|H.new vb (I5 (Er 2)) 206;clear bel;generalize vb.alloc (EJ (I5 (Er 2)) 206)=w2a at*;generalize vb.heap.size=vc at*;go_wp2_with (with_reducible refine wS (cs:=I5 [q,4]) sC K7 (Ev.mk ?_) (h1:=sB _));apply Eo;replace K2:=O<|K2.out.setRow_other vc (I5 [q,4]) X;replace K4:=O<|K4.out.setRow_other vc (I5 [q,4]) X;replace K7:=O<|K7.out.setRow (I5 [q,4]);replace BB:=O<|E3 (g:=vc) BB.out X (I5 [q,4]);generalize w2a.setRow vc (I5 [q,4])=Sr at*;have cf: ∀i,Sr.cell? ⟨vc,i,Z⟩=(#[E I q,E I 4]:Array V)[i]?:=(Ja K7.out).1;clear IX;have PUT: ∀W:M,Ef EU 111 #[E Il (q%4294967296),E I 4] W fun en w'=>en=Eg (Et #[EI (D ⟨W.heap.size,0,Z⟩) 4 4,E I 0])/\Row w' (D ⟨W.heap.size,0,Z⟩) (be (q%4294967296) 4)/\El W w':=fun W=>kw (q%4294967296) 4 W X X X (by show(q%4294967296)/4294967296=0;omega);go_wp2_with fail;rw[EZ_];refine(PUT _).mono ?_;rintro e' w2c ⟨rfl,RP,bp⟩;clear PUT cf;replace K2:=O<|K2.out.G bp;replace K4:=O<|K4.out.G bp;replace K7:=O<|K7.out.G bp;replace BB:=EW BB bp;clear bp K7;replace RP:=O RP;go_wp2_with (with_reducible refine I7 60 ?_);apply Eo;(with_reducible refine kh ?_ g4 2 4 4 (((([]:List Int)++be (k%256) 1)++be (s%256) 1)++Er 8) 176 (D ⟨Sr.heap.size,0,Z⟩) 4 4 (be (q%4294967296) 4) 4 (D ⟨g4,2,Z⟩) ?_ K4 (Ua _ _) RP ?_ ?_ ?_ ?_);·exact Ei U
 ·exact EnY
 ·rfl
 ·rw[P2L.out];omega
 ·exact Eo9
 intro vd XT b5 o5 s5;rw[UZ sH,P2E.out] at XT;replace BB:=O<|BB.out.trans (b5.mono X);replace K2:=O<|show H vd g2 (Ej (Er 10)) 176 from(o5 _ X).trans K2.out;clear K4 o5 s5 b5 RP;replace K4:=O XT;clear XT;have l4:=K4.out.lt;go_wp2_with fail;rw[Ic];have IX: ∀W,(JY 207 (EZ #[E I k,E I 1,E I s,E I 1,E I q,E I 4,E I e,E I 2,E I c,E I 1,E I h,E I 1]) (E I 3)).run EU W= .ok (EZ #[E I e,E I 2]) W:=fun W=>sF _ 3 X W;go_wp2_with (with_reducible refine wA sD (Ev.mk ?_));apply Eo;have bel:=Ep vd (EJ (I5 (Er 2)) 206);replace K2:=O<|K2.out.G bel;replace K4:=O<|K4.out.G bel;replace BB:=EW BB bel;have K7:=O<|H.new vd (I5 (Er 2)) 206;clear bel;generalize vd.alloc (EJ (I5 (Er 2)) 206)=w3a at*;generalize vd.heap.size=vf at*;go_wp2_with (with_reducible refine wS (cs:=I5 [e,2]) sC K7 (Ev.mk ?_) (h1:=sB _));apply Eo;replace K2:=O<|K2.out.setRow_other vf (I5 [e,2]) X;replace K4:=O<|K4.out.setRow_other vf (I5 [e,2]) X;replace K7:=O<|K7.out.setRow (I5 [e,2]);replace BB:=O<|E3 (g:=vf) BB.out X (I5 [e,2]);generalize w3a.setRow vf (I5 [e,2])=AQ at*;have cf: ∀i,AQ.cell? ⟨vf,i,Z⟩=(#[E I e,E I 2]:Array V)[i]?:=(Ja K7.out).1;clear IX;have PUT: ∀W:M,Ef EU 111 #[E Il (e%65536),E I 2] W fun en w'=>en=Eg (Et #[EI (D ⟨W.heap.size,0,Z⟩) 2 2,E I 0])/\Row w' (D ⟨W.heap.size,0,Z⟩) (be (e%65536) 2)/\El W w':=fun W=>kw (e%65536) 2 W X X X (by show(e%65536)/65536=0;omega);go_wp2_with fail;rw[EZ9];refine(PUT _).mono ?_;rintro e' w3c ⟨rfl,RP,bp⟩;clear PUT cf;replace K2:=O<|K2.out.G bp;replace K4:=O<|K4.out.G bp;replace K7:=O<|K7.out.G bp;replace BB:=EW BB bp;clear bp K7;replace RP:=O RP;go_wp2_with (with_reducible refine I7 60 ?_);apply Eo;(with_reducible refine kh ?_ g4 6 2 2 ((((([]:List Int)++be (k%256) 1)++be (s%256) 1)++be (q%4294967296) 4)++Er 4) 176 (D ⟨AQ.heap.size,0,Z⟩) 2 2 (be (e%65536) 2) 2 (D ⟨g4,6,Z⟩) ?_ K4 (Ua _ _) RP ?_ ?_ ?_ ?_);·exact Ei U
 ·exact EnY
 ·rfl
 ·rw[P3L.out];omega
 ·exact Eo9
 intro vg XT b5 o5 s5;rw[UZ sH,P3E.out] at XT;replace BB:=O<|BB.out.trans (b5.mono X);replace K2:=O<|show H vg g2 (Ej (Er 10)) 176 from(o5 _ X).trans K2.out;clear K4 o5 s5 b5 RP;replace K4:=O XT;clear XT;have l4:=K4.out.lt;go_wp2_with fail;rw[Ic];have IX: ∀W,(JY 207 (EZ #[E I k,E I 1,E I s,E I 1,E I q,E I 4,E I e,E I 2,E I c,E I 1,E I h,E I 1]) (E I 4)).run EU W= .ok (EZ #[E I c,E I 1]) W:=fun W=>sF _ 4 X W;go_wp2_with (with_reducible refine wA sD (Ev.mk ?_));apply Eo;have bel:=Ep vg (EJ (I5 (Er 2)) 206);replace K2:=O<|K2.out.G bel;replace K4:=O<|K4.out.G bel;replace BB:=EW BB bel;have K7:=O<|H.new vg (I5 (Er 2)) 206;clear bel;generalize vg.alloc (EJ (I5 (Er 2)) 206)=w4a at*;generalize vg.heap.size=vh at*;go_wp2_with (with_reducible refine wS (cs:=I5 [c,1]) sC K7 (Ev.mk ?_) (h1:=sB _));apply Eo;replace K2:=O<|K2.out.setRow_other vh (I5 [c,1]) X;replace K4:=O<|K4.out.setRow_other vh (I5 [c,1]) X;replace K7:=O<|K7.out.setRow (I5 [c,1]);replace BB:=O<|E3 (g:=vh) BB.out X (I5 [c,1]);generalize w4a.setRow vh (I5 [c,1])=Ss at*;have cf: ∀i,Ss.cell? ⟨vh,i,Z⟩=(#[E I c,E I 1]:Array V)[i]?:=(Ja K7.out).1;clear IX;have PUT: ∀W:M,Ef EU 111 #[E Il (c%256),E I 1] W fun en w'=>en=Eg (Et #[EI (D ⟨W.heap.size,0,Z⟩) 1 1,E I 0])/\Row w' (D ⟨W.heap.size,0,Z⟩) (be (c%256) 1)/\El W w':=fun W=>kw (c%256) 1 W X X X (by show(c%256)/256=0;omega);go_wp2_with fail;rw[AN];refine(PUT _).mono ?_;rintro e' w4c ⟨rfl,RP,bp⟩;clear PUT cf;replace K2:=O<|K2.out.G bp;replace K4:=O<|K4.out.G bp;replace K7:=O<|K7.out.G bp;replace BB:=EW BB bp;clear bp K7;replace RP:=O RP;go_wp2_with (with_reducible refine I7 60 ?_);apply Eo;(with_reducible refine kh ?_ g4 8 1 1 (((((([]:List Int)++be (k%256) 1)++be (s%256) 1)++be (q%4294967296) 4)++be (e%65536) 2)++Er 2) 176 (D ⟨Ss.heap.size,0,Z⟩) 1 1 (be (c%256) 1) 1 (D ⟨g4,8,Z⟩) ?_ K4 (Ua _ _) RP ?_ ?_ ?_ ?_);·exact Ei U
 ·exact EnY
 ·rfl
 ·rw[P4L.out];omega
 ·exact Eo9
 intro vj XT b5 o5 s5;rw[UZ sH,P4E.out] at XT;replace BB:=O<|BB.out.trans (b5.mono X);replace K2:=O<|show H vj g2 (Ej (Er 10)) 176 from(o5 _ X).trans K2.out;clear K4 o5 s5 b5 RP;replace K4:=O XT;clear XT;have l4:=K4.out.lt;go_wp2_with fail;rw[Ic];have IX: ∀W,(JY 207 (EZ #[E I k,E I 1,E I s,E I 1,E I q,E I 4,E I e,E I 2,E I c,E I 1,E I h,E I 1]) (E I 5)).run EU W= .ok (EZ #[E I h,E I 1]) W:=fun W=>sF _ 5 X W;go_wp2_with (with_reducible refine wA sD (Ev.mk ?_));apply Eo;have bel:=Ep vj (EJ (I5 (Er 2)) 206);replace K2:=O<|K2.out.G bel;replace K4:=O<|K4.out.G bel;replace BB:=EW BB bel;have K7:=O<|H.new vj (I5 (Er 2)) 206;clear bel;generalize vj.alloc (EJ (I5 (Er 2)) 206)=w5a at*;generalize vj.heap.size=vl at*;go_wp2_with (with_reducible refine wS (cs:=I5 [h,1]) sC K7 (Ev.mk ?_) (h1:=sB _));apply Eo;replace K2:=O<|K2.out.setRow_other vl (I5 [h,1]) X;replace K4:=O<|K4.out.setRow_other vl (I5 [h,1]) X;replace K7:=O<|K7.out.setRow (I5 [h,1]);replace BB:=O<|E3 (g:=vl) BB.out X (I5 [h,1]);generalize w5a.setRow vl (I5 [h,1])=Su at*;have cf: ∀i,Su.cell? ⟨vl,i,Z⟩=(#[E I h,E I 1]:Array V)[i]?:=(Ja K7.out).1;clear IX;have PUT: ∀W:M,Ef EU 111 #[E Il (h%256),E I 1] W fun en w'=>en=Eg (Et #[EI (D ⟨W.heap.size,0,Z⟩) 1 1,E I 0])/\Row w' (D ⟨W.heap.size,0,Z⟩) (be (h%256) 1)/\El W w':=fun W=>kw (h%256) 1 W X X X (by show(h%256)/256=0;omega);go_wp2_with fail;rw[AN];refine(PUT _).mono ?_;rintro e' w5c ⟨rfl,RP,bp⟩;clear PUT cf;replace K2:=O<|K2.out.G bp;replace K4:=O<|K4.out.G bp;replace K7:=O<|K7.out.G bp;replace BB:=EW BB bp;clear bp K7;replace RP:=O RP;go_wp2_with (with_reducible refine I7 60 ?_);apply Eo;(with_reducible refine kh ?_ g4 9 1 1 ((((((([]:List Int)++be (k%256) 1)++be (s%256) 1)++be (q%4294967296) 4)++be (e%65536) 2)++be (c%256) 1)++Er 1) 176 (D ⟨Su.heap.size,0,Z⟩) 1 1 (be (h%256) 1) 1 (D ⟨g4,9,Z⟩) ?_ K4 (Ua _ _) RP ?_ ?_ ?_ ?_);·exact Ei U
 ·exact EnY
 ·rfl
 ·rw[P5L.out];omega
 ·exact Eo9
 intro w5d XT b5 o5 s5;rw[UZ sH,P5E.out] at XT;replace BB:=O<|BB.out.trans (b5.mono X);replace K2:=O<|show H w5d g2 (Ej (Er 10)) 176 from(o5 _ X).trans K2.out;clear K4 o5 s5 b5 RP;replace K4:=O XT;clear XT;have l4:=K4.out.lt;go_wp2_with fail;rw[Ic];have Sv:gw k s q e c h=((((((([]:List Int)++be (k%256) 1)++be (s%256) 1)++be (q%4294967296) 4)++be (e%65536) 2)++be (c%256) 1)++be (h%256) 1):=rfl;have PL:(((((((([]:List Int)++be (k%256) 1)++be (s%256) 1)++be (q%4294967296) 4)++be (e%65536) 2)++be (c%256) 1)++be (h%256) 1)++Er 0).length=10:=pF;have PE:((((((([]:List Int)++be (k%256) 1)++be (s%256) 1)++be (q%4294967296) 4)++be (e%65536) 2)++be (c%256) 1)++be (h%256) 1)++Er 0=gw k s q e c h:=by rw[Sv];exact fc _
 rw[PE] at K4 PL;clear PE Sv;generalize hrb:gw k s q e c h=rb at*;replace hrb:=O hrb;replace PL:=O PL;go_wp2_with (with_reducible first|refine wL AM K4 ?_ (hn:=Sw)|refine wS (cs:=Ej rb) AM K2 (Ev.mk ?_) (ho:=Xd) (hn:=Sw) (h1:=Xt _));apply Eo;replace K2:=O<|K2.out.setRow (Ej rb);replace BB:=O<|E3 (g:=g2) BB.out X (Ej rb);go_wp2_with fail;refine ET (v:=EZ (Ej rb)) (Jl AM U _ _ g2 _ U K2.out (by rw[Om,PL.out])) U ⟨by rw[hrb.out],BB.out⟩
theorem of_nil(w:M):Ef EU 45 #[EI Z 0 0] w fun e w'=>e=Eg (EZ (Ej (Er 32)))/\El w w':=by have BB:=O<|IE w.heap.size w;go_enter Tryz.func45,Tryz.ntmps45;go_wp2_with (with_reducible refine wA aY (Ev.mk ?_));apply Eo;have K2:=O<|H.new w (Ej (Er 32)) 41;replace BB:=O<|Ep w (EJ (Ej (Er 32)) 41);generalize w.alloc (EJ (Ej (Er 32)) 41)=w1 at*;have l1:=K2.out.lt;go_wp2_with (with_reducible refine wA aY (Ev.mk ?_));apply Eo;have bel:=Ep w1 (EJ (Ej (Er 32)) 41);replace K2:=O<|K2.out.G bel;replace BB:=EW BB bel;have K3:=O<|H.new w1 (Ej (Er 32)) 41;clear bel;generalize w1.alloc (EJ (Ej (Er 32)) 41)=w2 at*;generalize w1.heap.size=g3 at*;go_wp2_with fail;refine O9 1 ?_;rw[Ic];go_wp2_with (with_reducible first|refine wL J7 K3 ?_ (hn:=Xd)|refine wS (cs:=Ej (Er 32)) J7 K2 (Ev.mk ?_) (ho:=Xd) (hn:=Xd) (h1:=Xt _));apply Eo;go_wp2_with fail;refine ET (v:=EZ (Ej (Er 32))) (Jl J7 U _ _ w.heap.size _ U (K2.out.setRow (Ej (Er 32))) Hq) U ⟨U,E3 BB.out X _⟩
theorem Eap(w:M)(g:Nat)(xs:List Int)(hr0:Row w (D ⟨g,0,Z⟩) xs)(g' c:Nat)(ys:List Int)(hr:Row w (D ⟨g',0,Z⟩) ys)(hpos:0<ys.length)(hsmall:xs.length+ys.length<=1000000000)(ty:EC): ∃A' cap' w',(bP #[23,23] ty #[EI (D ⟨g,0,Z⟩) xs.length xs.length,EI (D ⟨g',0,Z⟩) ys.length c]).run EU w= .ok (EI A' (xs.length+ys.length) cap') w'/\ Own w' w.heap.size A' cap' (xs++ys)/\El w w':=by
 obtain⟨i0,hi,hz0,hz1,hz2⟩:=bQ mn
 have cells: ∀(g:Nat) (l:List Int),Row w (D ⟨g,0,Z⟩) l-> ∀(j:Nat) Y3,(l.map (E .u8))[j]?=D Y3->w.cell? ((⟨g,0,Z⟩:Eu).add j)=D Y3:=by
  intro g l hl j Y3 hu
  have hj:j<l.length:=by
   rcases JG j l.length with h|h;·exact h
   ·rw[aM Un] at hu;cases hu
  rcases hl.1 with h|⟨b,off,h,hc⟩;·subst h;simp at hj
  ·injection h with h;have e:((⟨g,0,Z⟩:Eu)).add j=⟨b,off+j,Z⟩:=by rw[h];unfold Addr.add;split<;>simp_all
   rw[e,hc j hj];simpa[hj] using hu
 have hbb: ∀x∈xs++ys,0<=x/\x<=255:=by
  intro x hx;rcases XP.1 hx with h|h;·exact hr0.2 x h
  ·exact hr.2 x h
 obtain⟨v',w',hrun,h2,h3⟩:=run_append_arg_grows (P:=EU) w 23 ty 5 i0 (E IP 0) 1 1 bR hi hz0 hz1 hz2 U X ⟨g,0,Z⟩ xs.length xs.length (xs.map (E .u8)) Eh (cells g xs hr0) ⟨g',0,Z⟩ ys.length c (ys.map (E .u8)) Eh (cells g' ys hr) X OD X;have hbel:El w w':=(IE _ _).grown h3 (E7 _) (fun k hk=>by cases hk);rcases h2.2 with⟨hv,hn⟩|⟨g2,cap',cur,hv,hrest⟩;·omega
 ·refine⟨D ⟨g2,0,Z⟩,cap',w',by rw[hrun,hv],⟨?_,hbb⟩,hbel⟩;rw[hv] at h2;rw[I2,ku];exact h2
theorem Eaq{ops:Array EN}{rest:List EN}{o:EN}{a:E6}{Q:UW->E6->M->Prop}(w:M)(hgd:I_ o (Jd ops a.tmps)=u)(s x:UH) (ho:o.op= .call {callee:= .builtin .append,args:= #[s,x],argTypes:= #[23,23]}) (g n:Nat) (xs:List Int) (hn:xs.length=n) (hs:a.eval s=EI (D ⟨g,0,Z⟩) n n) (hr0:Row w (D ⟨g,0,Z⟩) xs) (g' c m:Nat) (ys:List Int) (hm:ys.length=m) (hx:a.eval x=EI (D ⟨g',0,Z⟩) m c) (hr:Row w (D ⟨g',0,Z⟩) ys) (hpos:0<m) (hsmall:n+m<=1000000000) (h: ∀A' cap' w',Own w' w.heap.size A' cap' (xs++ys)->El w w'->IZ EU ops Q rest (a.put o.dst (EI A' (n+m) cap')) w'):IZ EU ops Q (o::rest) a w:=by subst hn hm;obtain⟨A',cap',w',hrun,hown,hbel⟩:=Eap w g xs hr0 g' c ys hr hpos hsmall o.type;refine Ol hgd (v:=EI A' (xs.length+ys.length) cap') (w':=w') ?_ (h _ _ _ hown hbel);exact Eos
theorem Ear(hd:List Int)(k s q e c h:Int)(hl:hd.length=32)(hb: ∀x∈hd,0<=x/\x<=255)(w:M)(hR:JP w): Ef EU 68 #[EZ (Ej hd),EZ #[E I k,E I s,E I q,E I e,E I c,E I h]] w fun e' w'=>e'=Eg (EZ (Ej (Xv (hd++gw k s q e c h))))/\El w w':=by
 have RT:=O hR;have HL:=O hl;have HB:=O hb;have CR:=fun W:M=>EaE k s q e c h W;have RL:=EZ7 k s q e c h;have RB:=EZ8 k s q e c h;generalize gw k s q e c h=rb at*;replace RL:=O RL;replace RB:=O RB;replace CR:=O CR;clear hl hb hR;have CS:=fun(A:Option Eu) (cp:Nat) (W:M) (hr:Row W A (hd++rb)) (hb:El w W)=>sb A (hd++rb) 42 cp W (by rw[I2,HL.out,RL.out]) hr X (RT.out.G hb);have AL:=kH (hd++rb);generalize Xv (hd++rb)=ans at*;replace AL:=O AL;replace CS:=O CS;go_enter Tryz.func68,Tryz.ntmps68;go_wp2_with (with_reducible refine wA aY (Ev.mk ?_));apply Eo;have K2:=O<|((H.new w (Ej hd) 41).alloc (EJ #[E I k,E I s,E I q,E I e,E I c,E I h] 58)).alloc (EJ (Ej (Er 32)) 41);have K3:=O<|(H.new' (w.alloc (EJ (Ej hd) 41)) #[E I k,E I s,E I q,E I e,E I c,E I h] 58 (g:=w.heap.size+1) Eh).alloc (EJ (Ej (Er 32)) 41);have K4:=O<|H.new' ((w.alloc (EJ (Ej hd) 41)).alloc (EJ #[E I k,E I s,E I q,E I e,E I c,E I h] 58)) (Ej (Er 32)) 41 (g:=w.heap.size+1+1) Eh;have BB:=O<|af w (EJ (Ej hd) 41) (EJ #[E I k,E I s,E I q,E I e,E I c,E I h] 58) (EJ (Ej (Er 32)) 41);generalize ((w.alloc (EJ (Ej hd) 41)).alloc (EJ #[E I k,E I s,E I q,E I e,E I c,E I h] 58)).alloc (EJ (Ej (Er 32)) 41)=w1 at*;obtain⟨g3,hg3⟩:=Jo (w.heap.size+1);rw[hg3] at K3 K4;simp only[hg3];obtain⟨g4,hg4⟩:=Jo (g3+1);rw[hg4] at K4;simp only[hg4];have lo4:w.heap.size<g4:=X;clear hg3 hg4;go_wp2_with (with_reducible refine wL Hn K3 ?_);refine(CR.out _).mono ?_;rintro e' w2 ⟨rfl,b2⟩;clear CR K3;replace K2:=O<|K2.out.G b2;replace K4:=O<|K4.out.G b2;replace BB:=EW BB b2;clear b2;have l4:=K4.out.lt;go_wp2_with (with_reducible refine wA Ho (Ev.mk ?_));apply Eo;have bel:=Ep w2 (EJ (Ej (Er 10)) 176);replace K2:=O<|K2.out.G bel;replace K4:=O<|K4.out.G bel;replace BB:=EW BB bel;have K5:=O<|H.new w2 (Ej (Er 10)) 176;clear bel;generalize w2.alloc (EJ (Ej (Er 10)) 176)=w3 at*;generalize w2.heap.size=g5 at*;go_wp2_with (with_reducible refine wS (cs:=Ej rb) AM K5 (Ev.mk ?_) (ho:=Xd) (hn:=Hr) (h1:=Xt _));apply Eo;replace K2:=O<|K2.out.setRow_other g5 (Ej rb) X;replace K4:=O<|K4.out.setRow_other g5 (Ej rb) X;replace K5:=O<|K5.out.setRow (Ej rb);replace BB:=O<|E3 (g:=g5) BB.out X (Ej rb);generalize w3.setRow g5 (Ej rb)=w4 at*;go_wp2_with fail;refine ua 2 Ed Ed ?_;simp only[Ir,Im,IL,IG];repeat (go_big_quiet_step (fail))
 refine IM ?_;intro _ hw';obtain⟨nq,rfl⟩:=hw';replace BB:=O<|j9 BB.out nq;replace K2:=O<|K2.out.drewN nq;replace K4:=O<|K4.out.drewN nq;replace K5:=O<|K5.out.drewN nq;generalize w4.drewN nq=w5 at*;have r2:=O<|aR K2.out HB.out;have r5:=O<|aR K5.out RB.out;(with_reducible refine Eaq _ ?_ (.tmp 8) (.tmp 9) U w.heap.size 32 hd HL.out ?_ r2.out g5 10 10 rb RL.out ?_ r5.out X X ?_);·exact Ei U
 ·rfl
 ·rfl
 intro A1 m_ w6 o6 b6;have r6:=O o6.row;clear r2 r5 o6 K2 K5;replace K4:=O<|K4.out.G b6;replace BB:=EW BB b6;clear b6;go_wp2_with fail;refine(CS.out _ _ _ r6.out BB.out).mono ?_;rintro e' w7 ⟨rfl,b7⟩;replace K4:=O<|K4.out.G b7;replace BB:=EW BB b7;clear b7 r6 CS;go_wp2_with (with_reducible refine wS (cs:=Ej ans) J7 K4 (Ev.mk ?_) (ho:=Xd) (hn:=Gq) (h1:=Xt _));apply Eo;go_wp2_with fail;refine ET (v:=EZ (Ej ans)) (Jl J7 U _ _ g4 _ U (K4.out.setRow _) Gr) U ⟨U,E3 BB.out X _⟩
def I9(l:List Int):Array V:=((UA 14).map fun i=>if 6<=i then E .u8 (l.getD i 0) else E I (l.getD i 0)).toArray
theorem pG(l:List Int):(I9 l).size=14:=by simp[I9]
theorem bZ(l:List Int)(i:Nat)(h:i<14):(I9 l)[i]?=D (if 6<=i then E .u8 (l.getD i 0) else E I (l.getD i 0)):=by simp[I9,h]
theorem Hs(l:List Int):(I9 l).all (·.oneCell')=u:=by rw[Array.all_eq_true];intro i hi;simp only[I9,List.getElem_toArray,List.getElem_map];split<;>rfl
theorem Eas(l:List Int)(hl:l.length=14)(o:Nat)(ho:o<14)(n:Int):(I9 l).setIfInBounds o (if 6<=o then E .u8 n else E I n)=I9 (l.set o n):=by
 apply Array.ext_getElem?;intro j;rw[Array.getElem?_setIfInBounds];by_cases h:o=j
 ·subst h;rw[if_pos U,if_pos (by rw[pG];exact ho),bZ _ _ ho];have e:(l.set o n).getD o 0=n:=by simp[hl,ho]
  rw[e]
 ·rw[if_neg h];by_cases hj:j<14
  ·rw[bZ _ _ hj,bZ _ _ hj];have e1:(l.set o n).getD j 0=l.getD j 0:=by simp[UK,List.getElem?_set_ne h]
   rw[e1]
  ·rw[g_ (by rw[pG];omega),g_ (by rw[pG];omega)]
theorem AR:IW EU 222 14:=⟨⟨_,Tryz.underlying222,U⟩,Ed⟩
def dz(l:List Int):Prop:=l.length=14/\ ∀i,6<=i->i<14->0<=l.getD i 0/\l.getD i 0<=255
def FD.Ht(d:FD):Prop:=d.off<14/\(d.kd=0\/d.kd=2\/d.kd=3)/\(d.kd=3↔6<=d.off)
theorem FD.Eat(h:d.kd=2):d.get=250:=GU
theorem FD.Eau(h:d.kd=2):d.set=251:=zi
theorem FD.Sx(h:d.kd=2):d.box=333:=zk
theorem FD.Eav(h:d.kd=3):d.get=248:=GU
theorem FD.Eaw(h:d.kd=3):d.set=249:=zi
theorem FD.Sy(h:d.kd=3):d.box=331:=zk
theorem Eax(gb gm o:Nat)(n:Int)(w:M)(hb:H w gb #[Y (D ⟨gm,o,Z⟩)] 333)(hc:w.cell? ⟨gm,o,Z⟩=D (E I n)): Ef EU 250 #[Y (D ⟨gb,0,Z⟩)] w fun e w'=>e=Eg (E I n)/\w=w':=by have c0:=hb.cell 0;simp only[Og,kx] at c0;clear hb;go_enter Tryz.func250,Tryz.ntmps250;exact Els
theorem Eay(gb gm o:Nat)(n m:Int)(w:M)(hb:H w gb #[Y (D ⟨gm,o,Z⟩)] 333)(hc:w.cell? ⟨gm,o,Z⟩=D (E I m))(hf:w.frozen? ⟨gm,o,Z⟩=B): Ef EU 251 #[E I n,Y (D ⟨gb,0,Z⟩)] w fun e w'=>e=Eg (Et #[])/\w.setCell ⟨gm,o,Z⟩ (E I n)=w':=by have c0:=hb.cell 0;simp only[Og,kx] at c0;clear hb;go_enter Tryz.func251,Tryz.ntmps251;exact EoO
theorem Eaz(gb gm o:Nat)(n:Int)(w:M)(h0:0<=n)(h1:n<=255)(hb:H w gb #[Y (D ⟨gm,o,Z⟩)] 331)(hc:w.cell? ⟨gm,o,Z⟩=D (E IP n)): Ef EU 248 #[Y (D ⟨gb,0,Z⟩)] w fun e w'=>e=Eg (E I n)/\w=w':=by have c0:=hb.cell 0;simp only[Og,kx] at c0;clear hb;go_enter Tryz.func248,Tryz.ntmps248;exact Els
theorem EaA(gb gm o:Nat)(n m:Int)(w:M)(h0:0<=n)(h1:n<=255)(hb:H w gb #[Y (D ⟨gm,o,Z⟩)] 331)(hc:w.cell? ⟨gm,o,Z⟩=D (E IP m))(hf:w.frozen? ⟨gm,o,Z⟩=B): Ef EU 249 #[E I n,Y (D ⟨gb,0,Z⟩)] w fun e w'=>e=Eg (Et #[])/\w.setCell ⟨gm,o,Z⟩ (E IP n)=w':=by have c0:=hb.cell 0;simp only[Og,kx] at c0;clear hb;go_enter Tryz.func249,Tryz.ntmps249;exact EoO
theorem EaB(d:FD)(gb gm:Nat)(l:List Int)(w:M)(hd:d.Ht)(hl:dz l)(hb:Zd w d gm gb)(hm:H w gm (I9 l) 222): Ef EU d.get #[Y (D ⟨gb,0,Z⟩)] w fun e w'=>e=Eg (E I (l.getD d.off 0))/\w=w':=by
 obtain⟨ho,hk,h3⟩:=hd;have hc:=hm.cell d.off;rw[bZ _ _ ho] at hc;unfold Zd at hb;rcases hk with hk|hk|hk;·rw[if_neg (fun h=>AV)] at hc;rw[FD.zj hk] at hb;rw[FD.QZ hk];exact EOO gb gm d.off _ w hb hc
 ·rw[if_neg (fun h=>AV)] at hc;rw[FD.Sx hk] at hb;rw[FD.Eat hk];exact Eax gb gm d.off _ w hb hc
 ·rw[if_pos (h3.1 hk)] at hc;rw[FD.Sy hk] at hb;rw[FD.Eav hk];have h8:=hl.2 d.off (h3.1 hk) ho;exact Eaz gb gm d.off _ w h8.1 h8.2 hb hc
theorem EaC(d:FD)(gb gm:Nat)(l:List Int)(n:Int)(w:M)(hd:d.Ht)(hn:d.kd=3->0<=n/\n<=255)(hl:dz l)(hb:Zd w d gm gb)(hm:H w gm (I9 l) 222): Ef EU d.set #[E I n,Y (D ⟨gb,0,Z⟩)] w fun e w'=>e=Eg (Et #[])/\H w' gm (I9 (l.set d.off n)) 222/\(∀k,k≠gm->w'.heap[k]?=w.heap[k]?)/\w'.heap.size=w.heap.size/\Io gm w w':=by
 obtain⟨ho,hk,h3⟩:=hd;have hc:=hm.cell d.off;have hf:=hm.JX d.off;rw[bZ _ _ ho] at hc;have fin: ∀v,v=(if 6<=d.off then E .u8 n else E I n)->H (w.setCell ⟨gm,d.off,Z⟩ v) gm (I9 (l.set d.off n)) 222/\(∀k,k≠gm->(w.setCell ⟨gm,d.off,Z⟩ v).heap[k]?=w.heap[k]?)/\(w.setCell ⟨gm,d.off,Z⟩ v).heap.size=w.heap.size/\Io gm w (w.setCell ⟨gm,d.off,Z⟩ v):=by intro v hv;subst hv;refine⟨?_,fun k hk=>XM _ _ _ _ hk,FF,(IE gm w).setCell (p:=⟨gm,d.off,Z⟩) (E7 _) _⟩;have h:=hm.set d.off (if 6<=d.off then E .u8 n else E I n);rw[Eas l hl.1 _ ho] at h;exact h
 unfold Zd at hb;rcases hk with hk|hk|hk;·have h6: ¬6<=d.off:=fun h=>AV;rw[if_neg h6] at hc;rw[FD.zj hk] at hb;rw[FD.GX hk];have zl:=fin (E I n) (by rw[if_neg h6]);exact EoM
 ·have h6: ¬6<=d.off:=fun h=>AV;rw[if_neg h6] at hc;rw[FD.Sx hk] at hb;rw[FD.Eau hk];have zl:=fin (E I n) (by rw[if_neg h6]);exact(Eay gb gm d.off n _ w hb hc hf).mono fun e w' ⟨he,hw⟩=>⟨he,zn⟩
 ·have h6:=h3.1 hk;rw[if_pos h6] at hc;rw[FD.Sy hk] at hb;rw[FD.Eaw hk];have zl:=fin (E IP n) (by rw[if_pos h6]);have h8:=hn hk;exact(EaA gb gm d.off n _ w h8.1 h8.2 hb hc hf).mono fun e w' ⟨he,hw⟩=>⟨he,zn⟩
theorem Sz(gm o:Nat)(w:M): Ef EU 241 #[Y (D ⟨gm,o,Z⟩)] w fun e w'=> ∃v,e=Eg v/\FV w' w.heap.size gm ⟨2,1,0,255,o⟩ v/\El w w':=by have BF:Tryz.prog.built 298 [(0,E I 1),(2,E I 255),(3,.func (.func 250) #[] #[Y (D ⟨w.heap.size,0,Z⟩)]),(4,.func (.func 251) #[] #[Y (D ⟨w.heap.size,0,Z⟩)])]=D (IF ⟨2,1,0,255,o⟩ w.heap.size):=GZ ⟨2,1,0,255,o⟩ w.heap.size U;have O1:=O<|iO ⟨2,1,0,255,o⟩ w.heap.size;have Ur:Ea ((IF ⟨2,1,0,255,o⟩ w.heap.size).size=5):=O U;generalize XE:IF ⟨2,1,0,255,o⟩ w.heap.size=fv at*;replace BF:=O BF;have HB:Ea (∀W:M,H W w.heap.size #[Y (D ⟨gm,o,Z⟩)] 333->FV W w.heap.size gm ⟨2,1,0,255,o⟩ (EZ fv)):=O fun W h=>⟨w.heap.size,by rw[XE],E7 _,h⟩;clear XE;go_enter Tryz.func241,Tryz.ntmps241;go_wp2_with (with_reducible refine wA f_ (Ev.mk ?_));apply Eo;have K4:=O<|(H.new w #[Y (D ⟨gm,o,Z⟩)] 333).alloc (EJ JB 298);have K8:=O<|H.new' (w.alloc (EJ #[Y (D ⟨gm,o,Z⟩)] 333)) JB 298 (g:=w.heap.size+1) Eh;have BB:=O<|J9 w (EJ #[Y (D ⟨gm,o,Z⟩)] 333) (EJ JB 298);generalize (w.alloc (EJ #[Y (D ⟨gm,o,Z⟩)] 333)).alloc (EJ JB 298)=w1 at*;exact ElC
theorem nt(gm o:Nat)(w:M): Ef EU 240 #[Y (D ⟨gm,o,Z⟩)] w fun e w'=> ∃v,e=Eg v/\FV w' w.heap.size gm ⟨3,1,0,255,o⟩ v/\El w w':=by have BF:Tryz.prog.built 298 [(0,E I 1),(2,E I 255),(3,.func (.func 248) #[] #[Y (D ⟨w.heap.size,0,Z⟩)]),(4,.func (.func 249) #[] #[Y (D ⟨w.heap.size,0,Z⟩)])]=D (IF ⟨3,1,0,255,o⟩ w.heap.size):=GZ ⟨3,1,0,255,o⟩ w.heap.size U;have O1:=O<|iO ⟨3,1,0,255,o⟩ w.heap.size;have Ur:Ea ((IF ⟨3,1,0,255,o⟩ w.heap.size).size=5):=O U;generalize XE:IF ⟨3,1,0,255,o⟩ w.heap.size=fv at*;replace BF:=O BF;have HB:Ea (∀W:M,H W w.heap.size #[Y (D ⟨gm,o,Z⟩)] 331->FV W w.heap.size gm ⟨3,1,0,255,o⟩ (EZ fv)):=O fun W h=>⟨w.heap.size,by rw[XE],E7 _,h⟩;clear XE;go_enter Tryz.func240,Tryz.ntmps240;go_wp2_with (with_reducible refine wA f_ (Ev.mk ?_));apply Eo;have K4:=O<|(H.new w #[Y (D ⟨gm,o,Z⟩)] 331).alloc (EJ JB 298);have K8:=O<|H.new' (w.alloc (EJ #[Y (D ⟨gm,o,Z⟩)] 331)) JB 298 (g:=w.heap.size+1) Eh;have BB:=O<|J9 w (EJ #[Y (D ⟨gm,o,Z⟩)] 331) (EJ JB 298);generalize (w.alloc (EJ #[Y (D ⟨gm,o,Z⟩)] 331)).alloc (EJ JB 298)=w1 at*;exact ElC
def Zz:FD:=⟨2,1,0,255,5⟩
def IT(i:Nat):FD:=⟨3,1,0,255,6+i⟩
def lE(k:Int):Option (List FD):=
 if k=129 then D [IT 0,IT 1,IT 2,IT 3,IT 4,IT 5,IT 6,IT 7] else if k=130 then D [Xf,Jf,IS] else if k=131 then D [Ii] else if k=132 then D [Ii,Zz]
 else if k=133 then D [IS] else if k=134\/k=135 then D [Jf,IS] else if k=136 then D [Jf,Zz] else Z
theorem EaD(gm:Nat)(l:List Int)(w:M)(hm:H w gm (I9 l) 222)(hk:l.getD 0 0=131): Ef EU 212 #[Y (D ⟨gm,0,Z⟩)] w (Zh w gm [Ii]):=by have c0:=hm.cell 0;rw[bZ _ _ X,if_neg X,hk] at c0;have CF:=O<|fun W=>ig gm 1 W;have BB:=O<|IE w.heap.size w;clear hm hk;go_enter nu,ny;exact Elk
theorem EaF(gm:Nat)(l:List Int)(w:M)(hm:H w gm (I9 l) 222)(hk:l.getD 0 0=133): Ef EU 212 #[Y (D ⟨gm,0,Z⟩)] w (Zh w gm [IS]):=by have c0:=hm.cell 0;rw[bZ _ _ X,if_neg X,hk] at c0;have CF:=O<|fun W=>px gm 4 W;have BB:=O<|IE w.heap.size w;clear hm hk;go_enter nu,ny;go_wp2_with fail;refine(CF.out _).mono ?_;rintro e w1 ⟨v,rfl,⟨gb,rfl,lb,kb⟩,b1⟩;have FB:Ea (El w (w1.alloc (EJ (E4 [(IS,gb)]).toArray 298))):=O<|b1.alloc b1.size _;have FK:Ea (Xx (w1.alloc (EJ (E4 [(IS,gb)]).toArray 298)) w.heap.size w1.heap.size gm [(IS,gb)]):=O (ao (H.new w1 _ 298) (fun i hi=>by have:i=0:=Ug;subst this;exact⟨lb,H.alloc kb _⟩) b1.size);exact ElK
def AW(base gm:Nat)(i:Nat)(v:V)(w:M):Prop:=match i with
 |0=>v=Y (D ⟨gm,0,Z⟩)
 |1=>v=Y (D ⟨gm,0,Z⟩)
 |2=>v=Y (D ⟨gm,3,Z⟩)
 |3=>FV w base gm Jf v
 |4=>v=Y (D ⟨gm,0,Z⟩)
 |5=>v=Y (D ⟨gm,0,Z⟩)
 |6=>v=Y (D ⟨gm,4,Z⟩)
 |7=>FV w base gm IS v
 |8=> ∃(gl:Nat) (fs:List (FD×Nat)),v=EI (D ⟨gl,0,Z⟩) 2 2/\fs.map (·.1)=[Jf,IS]/\base<=gl/\JC w base gm fs/\H w gl (E4 fs).toArray 298
 |9=> ∃(gl:Nat) (fs:List (FD×Nat)),v=EI (D ⟨gl,0,Z⟩) 2 2/\fs.map (·.1)=[Jf,IS]/\base<=gl/\JC w base gm fs/\H w gl (E4 fs).toArray 298
 |_=>v=Ec u
theorem EaG(base gm:Nat): ∀i v w w',i<11->AW base gm i v w->Oa w w'->AW base gm i v w':=by
 intro i v w w' hi h hb;unfold AW at*;split at h;case h_4|h_8=>exact h.G hb
 case h_9|h_10=> exact ElH
 all_goals exact h
theorem EaH(gm:Nat)(l:List Int)(w:M)(hm:H w gm (I9 l) 222)(hk:l.getD 0 0=134): Ef EU 212 #[Y (D ⟨gm,0,Z⟩)] w (Zh w gm [Jf,IS]):=by
 have c0:=hm.cell 0;rw[bZ _ _ X,if_neg X,hk] at c0;have BB:=O<|IE w.heap.size w;clear hm hk;go_enter nu,ny;go_wp2_with fail;clear c0;refine aQ EM Ed 11 Ed Eh Eb (AW w.heap.size gm) (EaG _ _) ?_ ?_
 ·simp only[X6,Ir,Im,EL,In,Ip,Ig,Ih,and_true];refine⟨?_,?_,?_,?_,?_,?_,?_,?_,?_,?_,?_⟩;all_goals intro v w' hb hd
  ·exact Elz
  ·exact ElT
  ·exact ElS
  ·exact EpS
  ·exact Elz
  ·exact ElR
  ·exact ElQ
  ·exact Elt
  ·obtain⟨g0,d3,l0,k0⟩:FV w' w.heap.size gm Jf (v 3):=hd.at 3 rfl;obtain⟨g1,d7,l1,k1⟩:FV w' w.heap.size gm IS (v 7):=hd.at 7 rfl;refine bL (w':=w'.alloc (EJ (E4 [(Jf,g0),(IS,g1)]).toArray 298)) (v:=EI (D ⟨w'.heap.size,0,Z⟩) 2 2) (Ei U) pA (Ep w' _) ⟨w'.heap.size,[(Jf,g0),(IS,g1)],U,U,EA BB.out.size hb.size,fun i hi=> ?_,H.new _ _ _⟩;match i,hi with
   |0,_=>exact⟨l0,H.alloc k0 _⟩
   |1,_=>exact⟨l1,H.alloc k1 _⟩
  ·exact EpQ
  ·exact Elz
 ·exact EpN
def AY(base gm:Nat)(i:Nat)(v:V)(w:M):Prop:=match i with
 |0=>v=Y (D ⟨gm,0,Z⟩)
 |1=>v=Y (D ⟨gm,0,Z⟩)
 |2=>v=Y (D ⟨gm,3,Z⟩)
 |3=>FV w base gm Jf v
 |4=>v=Y (D ⟨gm,0,Z⟩)
 |5=>v=Y (D ⟨gm,0,Z⟩)
 |6=>v=Y (D ⟨gm,4,Z⟩)
 |7=>FV w base gm IS v
 |8=> ∃(gl:Nat) (fs:List (FD×Nat)),v=EI (D ⟨gl,0,Z⟩) 2 2/\fs.map (·.1)=[Jf,IS]/\base<=gl/\JC w base gm fs/\H w gl (E4 fs).toArray 298
 |9=> ∃(gl:Nat) (fs:List (FD×Nat)),v=EI (D ⟨gl,0,Z⟩) 2 2/\fs.map (·.1)=[Jf,IS]/\base<=gl/\JC w base gm fs/\H w gl (E4 fs).toArray 298
 |_=>v=Ec u
theorem EaK(base gm:Nat): ∀i v w w',i<11->AY base gm i v w->Oa w w'->AY base gm i v w':=by
 intro i v w w' hi h hb;unfold AY at*;split at h;case h_4|h_8=>exact h.G hb
 case h_9|h_10=> exact ElH
 all_goals exact h
theorem EaL(gm:Nat)(l:List Int)(w:M)(hm:H w gm (I9 l) 222)(hk:l.getD 0 0=135): Ef EU 212 #[Y (D ⟨gm,0,Z⟩)] w (Zh w gm [Jf,IS]):=by
 have c0:=hm.cell 0;rw[bZ _ _ X,if_neg X,hk] at c0;have BB:=O<|IE w.heap.size w;clear hm hk;go_enter nu,ny;go_wp2_with fail;clear c0;refine aQ EM Ed 11 Ed Eh Eb (AY w.heap.size gm) (EaK _ _) ?_ ?_
 ·simp only[X6,Ir,Im,EL,In,Ip,Ig,Ih,and_true];refine⟨?_,?_,?_,?_,?_,?_,?_,?_,?_,?_,?_⟩;all_goals intro v w' hb hd
  ·exact Elz
  ·exact ElT
  ·exact ElS
  ·exact EpS
  ·exact Elz
  ·exact ElR
  ·exact ElQ
  ·exact Elt
  ·obtain⟨g0,d3,l0,k0⟩:FV w' w.heap.size gm Jf (v 3):=hd.at 3 rfl;obtain⟨g1,d7,l1,k1⟩:FV w' w.heap.size gm IS (v 7):=hd.at 7 rfl;refine bL (w':=w'.alloc (EJ (E4 [(Jf,g0),(IS,g1)]).toArray 298)) (v:=EI (D ⟨w'.heap.size,0,Z⟩) 2 2) (Ei U) pA (Ep w' _) ⟨w'.heap.size,[(Jf,g0),(IS,g1)],U,U,EA BB.out.size hb.size,fun i hi=> ?_,H.new _ _ _⟩;match i,hi with
   |0,_=>exact⟨l0,H.alloc k0 _⟩
   |1,_=>exact⟨l1,H.alloc k1 _⟩
  ·exact EpQ
  ·exact Elz
 ·exact EpN
def A_(base gm:Nat)(i:Nat)(v:V)(w:M):Prop:=match i with
 |0=>v=Y (D ⟨gm,0,Z⟩)
 |1=>v=Y (D ⟨gm,0,Z⟩)
 |2=>v=Y (D ⟨gm,3,Z⟩)
 |3=>FV w base gm Jf v
 |4=>v=Y (D ⟨gm,0,Z⟩)
 |5=>v=Y (D ⟨gm,0,Z⟩)
 |6=>v=Y (D ⟨gm,5,Z⟩)
 |7=>FV w base gm Zz v
 |8=> ∃(gl:Nat) (fs:List (FD×Nat)),v=EI (D ⟨gl,0,Z⟩) 2 2/\fs.map (·.1)=[Jf,Zz]/\base<=gl/\JC w base gm fs/\H w gl (E4 fs).toArray 298
 |9=> ∃(gl:Nat) (fs:List (FD×Nat)),v=EI (D ⟨gl,0,Z⟩) 2 2/\fs.map (·.1)=[Jf,Zz]/\base<=gl/\JC w base gm fs/\H w gl (E4 fs).toArray 298
 |_=>v=Ec u
theorem EaM(base gm:Nat): ∀i v w w',i<11->A_ base gm i v w->Oa w w'->A_ base gm i v w':=by
 intro i v w w' hi h hb;unfold A_ at*;split at h;case h_4|h_8=>exact h.G hb
 case h_9|h_10=> exact ElH
 all_goals exact h
theorem EaN(gm:Nat)(l:List Int)(w:M)(hm:H w gm (I9 l) 222)(hk:l.getD 0 0=136): Ef EU 212 #[Y (D ⟨gm,0,Z⟩)] w (Zh w gm [Jf,Zz]):=by
 have c0:=hm.cell 0;rw[bZ _ _ X,if_neg X,hk] at c0;have BB:=O<|IE w.heap.size w;clear hm hk;go_enter nu,ny;go_wp2_with fail;clear c0;refine aQ EM Ed 11 Ed Eh Eb (A_ w.heap.size gm) (EaM _ _) ?_ ?_
 ·simp only[X6,Ir,Im,EL,In,Ip,Ig,Ih,and_true];refine⟨?_,?_,?_,?_,?_,?_,?_,?_,?_,?_,?_⟩;all_goals intro v w' hb hd
  ·exact Elz
  ·exact ElT
  ·exact ElS
  ·exact EpS
  ·exact Elz
  ·exact ElR
  ·exact ElQ
  ·exact EmF
  ·obtain⟨g0,d3,l0,k0⟩:FV w' w.heap.size gm Jf (v 3):=hd.at 3 rfl;obtain⟨g1,d7,l1,k1⟩:FV w' w.heap.size gm Zz (v 7):=hd.at 7 rfl;refine bL (w':=w'.alloc (EJ (E4 [(Jf,g0),(Zz,g1)]).toArray 298)) (v:=EI (D ⟨w'.heap.size,0,Z⟩) 2 2) (Ei U) pA (Ep w' _) ⟨w'.heap.size,[(Jf,g0),(Zz,g1)],U,U,EA BB.out.size hb.size,fun i hi=> ?_,H.new _ _ _⟩;match i,hi with
   |0,_=>exact⟨l0,H.alloc k0 _⟩
   |1,_=>exact⟨l1,H.alloc k1 _⟩
  ·obtain⟨gl,fs,e,m,lg,bx,kk⟩: ∃(gl:Nat) (fs:List (FD×Nat)),v 8=EI (D ⟨gl,0,Z⟩) 2 2/\fs.map (·.1)=[Jf,Zz]/\w.heap.size<=gl/\JC w' w.heap.size gm fs/\H w' gl (E4 fs).toArray 298:=hd.at 8 rfl;exact EmX
  ·exact Elz
 ·intro v w' hb hr;obtain⟨gl,fs,e,m,lg,bx,kk⟩: ∃(gl:Nat) (fs:List (FD×Nat)),v 9=EI (D ⟨gl,0,Z⟩) 2 2/\fs.map (·.1)=[Jf,Zz]/\w.heap.size<=gl/\JC w' w.heap.size gm fs/\H w' gl (E4 fs).toArray 298:=hr 9 X;exact EpT
def BI(base gm:Nat)(i:Nat)(v:V)(w:M):Prop:=match i with
 |0=>v=Y (D ⟨gm,0,Z⟩)
 |1=>v=Y (D ⟨gm,0,Z⟩)
 |2=>v=Y (D ⟨gm,1,Z⟩)
 |3=>FV w base gm Ii v
 |4=>v=Y (D ⟨gm,0,Z⟩)
 |5=>v=Y (D ⟨gm,0,Z⟩)
 |6=>v=Y (D ⟨gm,5,Z⟩)
 |7=>FV w base gm Zz v
 |8=> ∃(gl:Nat) (fs:List (FD×Nat)),v=EI (D ⟨gl,0,Z⟩) 2 2/\fs.map (·.1)=[Ii,Zz]/\base<=gl/\JC w base gm fs/\H w gl (E4 fs).toArray 298
 |9=> ∃(gl:Nat) (fs:List (FD×Nat)),v=EI (D ⟨gl,0,Z⟩) 2 2/\fs.map (·.1)=[Ii,Zz]/\base<=gl/\JC w base gm fs/\H w gl (E4 fs).toArray 298
 |_=>v=Ec u
theorem EaP(base gm:Nat): ∀i v w w',i<11->BI base gm i v w->Oa w w'->BI base gm i v w':=by
 intro i v w w' hi h hb;unfold BI at*;split at h;case h_4|h_8=>exact h.G hb
 case h_9|h_10=> exact ElH
 all_goals exact h
theorem EaQ(gm:Nat)(l:List Int)(w:M)(hm:H w gm (I9 l) 222)(hk:l.getD 0 0=132): Ef EU 212 #[Y (D ⟨gm,0,Z⟩)] w (Zh w gm [Ii,Zz]):=by
 have c0:=hm.cell 0;rw[bZ _ _ X,if_neg X,hk] at c0;have BB:=O<|IE w.heap.size w;clear hm hk;go_enter nu,ny;go_wp2_with fail;clear c0;refine aQ EM Ed 11 Ed Eh Eb (BI w.heap.size gm) (EaP _ _) ?_ ?_
 ·simp only[X6,Ir,Im,EL,In,Ip,Ig,Ih,and_true];refine⟨?_,?_,?_,?_,?_,?_,?_,?_,?_,?_,?_⟩;all_goals intro v w' hb hd
  ·exact Elz
  ·exact ElT
  ·exact ElS
  ·exact Elq
  ·exact Elz
  ·exact ElR
  ·exact ElQ
  ·exact EmF
  ·obtain⟨g0,d3,l0,k0⟩:FV w' w.heap.size gm Ii (v 3):=hd.at 3 rfl;obtain⟨g1,d7,l1,k1⟩:FV w' w.heap.size gm Zz (v 7):=hd.at 7 rfl;refine bL (w':=w'.alloc (EJ (E4 [(Ii,g0),(Zz,g1)]).toArray 298)) (v:=EI (D ⟨w'.heap.size,0,Z⟩) 2 2) (Ei U) pA (Ep w' _) ⟨w'.heap.size,[(Ii,g0),(Zz,g1)],U,U,EA BB.out.size hb.size,fun i hi=> ?_,H.new _ _ _⟩;match i,hi with
   |0,_=>exact⟨l0,H.alloc k0 _⟩
   |1,_=>exact⟨l1,H.alloc k1 _⟩
  ·obtain⟨gl,fs,e,m,lg,bx,kk⟩: ∃(gl:Nat) (fs:List (FD×Nat)),v 8=EI (D ⟨gl,0,Z⟩) 2 2/\fs.map (·.1)=[Ii,Zz]/\w.heap.size<=gl/\JC w' w.heap.size gm fs/\H w' gl (E4 fs).toArray 298:=hd.at 8 rfl;exact EmX
  ·exact Elz
 ·intro v w' hb hr;obtain⟨gl,fs,e,m,lg,bx,kk⟩: ∃(gl:Nat) (fs:List (FD×Nat)),v 9=EI (D ⟨gl,0,Z⟩) 2 2/\fs.map (·.1)=[Ii,Zz]/\w.heap.size<=gl/\JC w' w.heap.size gm fs/\H w' gl (E4 fs).toArray 298:=hr 9 X;exact EpT
def BJ(base gm:Nat)(i:Nat)(v:V)(w:M):Prop:=match i with
 |0=>v=Y (D ⟨gm,0,Z⟩)
 |1=>v=Y (D ⟨gm,0,Z⟩)
 |2=>v=Y (D ⟨gm,2,Z⟩)
 |3=>FV w base gm Xf v
 |4=>v=Y (D ⟨gm,0,Z⟩)
 |5=>v=Y (D ⟨gm,0,Z⟩)
 |6=>v=Y (D ⟨gm,3,Z⟩)
 |7=>FV w base gm Jf v
 |8=>v=Y (D ⟨gm,0,Z⟩)
 |9=>v=Y (D ⟨gm,0,Z⟩)
 |10=>v=Y (D ⟨gm,4,Z⟩)
 |11=>FV w base gm IS v
 |12=> ∃(gl:Nat) (fs:List (FD×Nat)),v=EI (D ⟨gl,0,Z⟩) 3 3/\fs.map (·.1)=[Xf,Jf,IS]/\base<=gl/\JC w base gm fs/\H w gl (E4 fs).toArray 298
 |13=> ∃(gl:Nat) (fs:List (FD×Nat)),v=EI (D ⟨gl,0,Z⟩) 3 3/\fs.map (·.1)=[Xf,Jf,IS]/\base<=gl/\JC w base gm fs/\H w gl (E4 fs).toArray 298
 |_=>v=Ec u
theorem EaR(base gm:Nat): ∀i v w w',i<15->BJ base gm i v w->Oa w w'->BJ base gm i v w':=by
 intro i v w w' hi h hb;unfold BJ at*;split at h;case h_4|h_8|h_12=>exact h.G hb
 case h_13|h_14=> exact ElH
 all_goals exact h
theorem EaS(gm:Nat)(l:List Int)(w:M)(hm:H w gm (I9 l) 222)(hk:l.getD 0 0=130): Ef EU 212 #[Y (D ⟨gm,0,Z⟩)] w (Zh w gm [Xf,Jf,IS]):=by
 have c0:=hm.cell 0;rw[bZ _ _ X,if_neg X,hk] at c0;have BB:=O<|IE w.heap.size w;clear hm hk;go_enter nu,ny;go_wp2_with fail;clear c0;refine aQ EM Ed 15 Ed Eh Eb (BJ w.heap.size gm) (EaR _ _) ?_ ?_
 ·simp only[X6,Ir,Im,EL,In,Ip,Ig,Ih,and_true];refine⟨?_,?_,?_,?_,?_,?_,?_,?_,?_,?_,?_,?_,?_,?_,?_⟩;all_goals intro v w' hb hd
  ·exact Elz
  ·exact ElT
  ·exact ElS
  ·have d2:v 2=Y (D ⟨gm,2,Z⟩):=hd.at 2 rfl;refine Ot (f:=202) (args:= #[v 2]) (Ei U) Ez ?_;rw[d2];exact(GK gm 2 w').mono fun e w'' ⟨v,he,⟨gb,e2,lb,kb⟩,hb'⟩=>⟨v,he,hb',gb,e2,EA (EA BB.out.size hb.size) lb,kb⟩
  ·exact Elz
  ·exact ElR
  ·exact ElQ
  ·exact Ep0
  ·exact Elz
  ·exact EnP
  ·exact EnN
  ·have d10:v 10=Y (D ⟨gm,4,Z⟩):=hd.at 10 rfl;refine Ot (f:=206) (args:= #[v 10]) (Ei U) Ez ?_;rw[d10];exact(px gm 4 w').mono fun e w'' ⟨v,he,⟨gb,e2,lb,kb⟩,hb'⟩=>⟨v,he,hb',gb,e2,EA (EA BB.out.size hb.size) lb,kb⟩
  ·obtain⟨g0,d3,l0,k0⟩:FV w' w.heap.size gm Xf (v 3):=hd.at 3 rfl;obtain⟨g1,d7,l1,k1⟩:FV w' w.heap.size gm Jf (v 7):=hd.at 7 rfl;obtain⟨g2,d11,l2,k2⟩:FV w' w.heap.size gm IS (v 11):=hd.at 11 rfl;refine bL (w':=w'.alloc (EJ (E4 [(Xf,g0),(Jf,g1),(IS,g2)]).toArray 298)) (v:=EI (D ⟨w'.heap.size,0,Z⟩) 3 3) (Ei U) GP (Ep w' _) ⟨w'.heap.size,[(Xf,g0),(Jf,g1),(IS,g2)],U,U,EA BB.out.size hb.size,fun i hi=> ?_,H.new _ _ _⟩;match i,hi with
   |0,_=>exact⟨l0,H.alloc k0 _⟩
   |1,_=>exact⟨l1,H.alloc k1 _⟩
   |2,_=>exact⟨l2,H.alloc k2 _⟩
  ·obtain⟨gl,fs,e,m,lg,bx,kk⟩: ∃(gl:Nat) (fs:List (FD×Nat)),v 12=EI (D ⟨gl,0,Z⟩) 3 3/\fs.map (·.1)=[Xf,Jf,IS]/\w.heap.size<=gl/\JC w' w.heap.size gm fs/\H w' gl (E4 fs).toArray 298:=hd.at 12 rfl;exact EmX
  ·exact Elz
 ·intro v w' hb hr;obtain⟨gl,fs,e,m,lg,bx,kk⟩: ∃(gl:Nat) (fs:List (FD×Nat)),v 13=EI (D ⟨gl,0,Z⟩) 3 3/\fs.map (·.1)=[Xf,Jf,IS]/\w.heap.size<=gl/\JC w' w.heap.size gm fs/\H w' gl (E4 fs).toArray 298:=hr 13 X;have dt:v 14=Ec u:=hr 14 X;exact Ell
def nz(w:M)(base:Nat)(A:Option Eu)(gm cap:Nat)(fs:List (FD×Nat)):Prop:=w.ownsRow base 298 5 (EI A fs.length cap) fs.length (E4 fs)/\JC w base gm fs
theorem nz.G(h:nz w base A gm cap fs)(hb:El w w'):nz w' base A gm cap fs:=
 ⟨mT (ut (b0:=0) (T:=298) (N:=0) (ys:=[]) hb) h.1 fun j _ hj hlt=>absurd hj Rq,h.2.G hb⟩
theorem EaT(w:M)(base gm:Nat):nz w base Z gm 0 []:=⟨⟨U,.inl ⟨U,U⟩⟩,fun i hi=>absurd hi Eh⟩
theorem nz.GM(h:nz w base A gm cap fs)(hf:fs≠[]): ∃gl,A=D ⟨gl,0,Z⟩/\Xx w base gl gm fs:=by
 rcases h.1.2 with⟨h1,h2⟩|⟨g,cp,cur,hv,hbg,-⟩;·exact absurd (aN h2) hf
 ·injection hv with e1 e2 e3;subst e1;exact⟨g,U,hbg,fun j Y3 hu=>by have:=h.1.cells (g:=g) U j Y3 hu;rwa [GL] at this,h.2⟩
theorem nA(w:M)(base gm cap:Nat)(A:Option Eu)(fs:List (FD×Nat))(n:Nat)(hn:fs.length=n)(h:nz w base A gm cap fs)(d:FD)(gb g1 c1:Nat)(hgb:base<=gb)(hbx:Zd w d gm gb)(hk:H w g1 (E4 [(d,gb)]).toArray 298)(hs:n<=1000)(hbase:base<=w.heap.size)(ty:EC): ∃A' cap' w',(bP #[254,254] ty #[EI A n cap,EI (D ⟨g1,0,Z⟩) 1 c1]).run EU w= .ok (EI A' (n+1) cap') w'/\nz w' base A' gm cap' (fs++[(d,gb)])/\Io base w w':=by
 subst hn;obtain⟨i0,hi,hz0,hz1,hz2⟩:=bQ Rp
 obtain⟨A',cap',w',hrun,h2,h3,h4,-⟩:=dc (P:=EU) w base base 254 ty 298 i0 _ 5 40 Tryz.underlying254 hi hz0 hz1 hz2 U A cap fs.length _ h.1 ⟨g1,0,Z⟩ 1 c1 (E4 [(d,gb)]) (uW _)
  (fun j Y3 hu=>Rs) (Ro _) (fun _=>X) OD X hbase (E7 _)
 rw[<-Rm] at h2;refine⟨A',cap',w',hrun,⟨Rt,fun i hi=> ?_⟩,h3.2.1 hbase⟩;rcases JG i fs.length with hlt|hge;·rw[List.getElem_append_left hlt];exact⟨(h.2 i hlt).1,X_ h3 (h.2 i hlt).2 (Ah _)⟩
 ·exact Enk
theorem EaV(gm:Nat)(l:List Int)(w:M)(hm:H w gm (I9 l) 222)(hk:l.getD 0 0=129): Ef EU 212 #[Y (D ⟨gm,0,Z⟩)] w (Zh w gm [IT 0,IT 1,IT 2,IT 3,IT 4,IT 5,IT 6,IT 7]):=by
 have c0:=hm.cell 0;rw[bZ _ _ X,if_neg X,hk] at c0;have BB:=O<|IE w.heap.size w;have K0:=O<|EaT w w.heap.size gm;clear hm hk;go_enter nu,ny;go_wp2_with fail;refine O9 9 ?_;rw[Ic];go_wp2_with fail;refine(nt gm 6 _).mono ?_;rintro e x0 ⟨v0,rfl,⟨cu,rfl,lb0,uY⟩,b0⟩;have GT:=BB.out.size;replace K0:=O<|(K0.out.G b0).G (Ep x0 (EJ (E4 [(IT 0,cu)]).toArray 298));have HA:=O<|H.new x0 (E4 [(IT 0,cu)]).toArray 298;have HB0:=O<|H.alloc uY (EJ (E4 [(IT 0,cu)]).toArray 298);replace BB:=O<|bt (bt BB.out b0) (Ep x0 (EJ (E4 [(IT 0,cu)]).toArray 298));clear b0 uY;unfold IF;go_wp2_with (with_reducible refine I7 23 ?_);apply Eo;change IZ _ _ _ _ _ (x0.alloc (EJ (E4 [(IT 0,cu)]).toArray 298));have hz0:w.heap.size<=(x0.alloc (EJ (E4 [(IT 0,cu)]).toArray 298)).heap.size:=BB.out.size;obtain⟨A1,cp1,y0,hrun,k,b⟩:=nA _ w.heap.size gm _ _ _ 0 rfl K0.out (IT 0) cu x0.heap.size 1 X HB0.out HA.out X hz0 254;(with_reducible refine Ol ?_ (Up (s:= .tmp 15) (y:= .tmp 22) ?_ ?_ ?_ hrun) ?_);·exact Ei U
 ·rfl
 ·rfl
 ·rfl
 have K1:=O k;replace BB:=O<|BB.out.trans b;clear k b hrun HA HB0 K0 hz0 GT;go_wp2_with fail;rw[Ic];go_wp2_with fail;refine(nt gm 7 _).mono ?_;rintro e x1 ⟨v1,rfl,⟨cy,rfl,lb1,u0⟩,b1⟩;have GV:=BB.out.size;replace K1:=O<|(K1.out.G b1).G (Ep x1 (EJ (E4 [(IT 1,cy)]).toArray 298));have HA:=O<|H.new x1 (E4 [(IT 1,cy)]).toArray 298;have HB1:=O<|H.alloc u0 (EJ (E4 [(IT 1,cy)]).toArray 298);replace BB:=O<|bt (bt BB.out b1) (Ep x1 (EJ (E4 [(IT 1,cy)]).toArray 298));clear b1 u0;unfold IF;go_wp2_with (with_reducible refine I7 23 ?_);apply Eo;change IZ _ _ _ _ _ (x1.alloc (EJ (E4 [(IT 1,cy)]).toArray 298));have hz1:w.heap.size<=(x1.alloc (EJ (E4 [(IT 1,cy)]).toArray 298)).heap.size:=BB.out.size;obtain⟨A2,cp2,y1,hrun,k,b⟩:=nA _ w.heap.size gm _ _ _ 1 rfl K1.out (IT 1) cy x1.heap.size 1 X HB1.out HA.out X hz1 254;(with_reducible refine Ol ?_ (Up (s:= .tmp 15) (y:= .tmp 22) ?_ ?_ ?_ hrun) ?_);·exact Ei U
 ·rfl
 ·rfl
 ·rfl
 have K2:=O k;replace BB:=O<|BB.out.trans b;clear k b hrun HA HB1 K1 hz1 GV;go_wp2_with fail;rw[Ic];go_wp2_with fail;refine(nt gm 8 _).mono ?_;rintro e x2 ⟨v2,rfl,⟨cB,rfl,lb2,nj⟩,b2⟩;have GW:=BB.out.size;replace K2:=O<|(K2.out.G b2).G (Ep x2 (EJ (E4 [(IT 2,cB)]).toArray 298));have HA:=O<|H.new x2 (E4 [(IT 2,cB)]).toArray 298;have HB2:=O<|H.alloc nj (EJ (E4 [(IT 2,cB)]).toArray 298);replace BB:=O<|bt (bt BB.out b2) (Ep x2 (EJ (E4 [(IT 2,cB)]).toArray 298));clear b2 nj;unfold IF;go_wp2_with (with_reducible refine I7 23 ?_);apply Eo;change IZ _ _ _ _ _ (x2.alloc (EJ (E4 [(IT 2,cB)]).toArray 298));have hz2:w.heap.size<=(x2.alloc (EJ (E4 [(IT 2,cB)]).toArray 298)).heap.size:=BB.out.size;obtain⟨A3,cp3,y2,hrun,k,b⟩:=nA _ w.heap.size gm _ _ _ 2 rfl K2.out (IT 2) cB x2.heap.size 1 X HB2.out HA.out X hz2 254;(with_reducible refine Ol ?_ (Up (s:= .tmp 15) (y:= .tmp 22) ?_ ?_ ?_ hrun) ?_);·exact Ei U
 ·rfl
 ·rfl
 ·rfl
 have K3:=O k;replace BB:=O<|BB.out.trans b;clear k b hrun HA HB2 K2 hz2 GW;go_wp2_with fail;rw[Ic];go_wp2_with fail;refine(nt gm 9 _).mono ?_;rintro e x3 ⟨v3,rfl,⟨cC,rfl,lb3,u1⟩,b3⟩;have GY:=BB.out.size;replace K3:=O<|(K3.out.G b3).G (Ep x3 (EJ (E4 [(IT 3,cC)]).toArray 298));have HA:=O<|H.new x3 (E4 [(IT 3,cC)]).toArray 298;have HB3:=O<|H.alloc u1 (EJ (E4 [(IT 3,cC)]).toArray 298);replace BB:=O<|bt (bt BB.out b3) (Ep x3 (EJ (E4 [(IT 3,cC)]).toArray 298));clear b3 u1;unfold IF;go_wp2_with (with_reducible refine I7 23 ?_);apply Eo;change IZ _ _ _ _ _ (x3.alloc (EJ (E4 [(IT 3,cC)]).toArray 298));have hz3:w.heap.size<=(x3.alloc (EJ (E4 [(IT 3,cC)]).toArray 298)).heap.size:=BB.out.size;obtain⟨A4,cp4,y3,hrun,k,b⟩:=nA _ w.heap.size gm _ _ _ 3 rfl K3.out (IT 3) cC x3.heap.size 1 X HB3.out HA.out X hz3 254;(with_reducible refine Ol ?_ (Up (s:= .tmp 15) (y:= .tmp 22) ?_ ?_ ?_ hrun) ?_);·exact Ei U
 ·rfl
 ·rfl
 ·rfl
 have K4:=O k;replace BB:=O<|BB.out.trans b;clear k b hrun HA HB3 K3 hz3 GY;go_wp2_with fail;rw[Ic];go_wp2_with fail;refine(nt gm 10 _).mono ?_;rintro e x4 ⟨v4,rfl,⟨pH,rfl,lb4,SA⟩,b4⟩;have lx4:=BB.out.size;replace K4:=O<|(K4.out.G b4).G (Ep x4 (EJ (E4 [(IT 4,pH)]).toArray 298));have HA:=O<|H.new x4 (E4 [(IT 4,pH)]).toArray 298;have SG:=O<|H.alloc SA (EJ (E4 [(IT 4,pH)]).toArray 298);replace BB:=O<|bt (bt BB.out b4) (Ep x4 (EJ (E4 [(IT 4,pH)]).toArray 298));clear b4 SA;unfold IF;go_wp2_with (with_reducible refine I7 23 ?_);apply Eo;change IZ _ _ _ _ _ (x4.alloc (EJ (E4 [(IT 4,pH)]).toArray 298));have gy:w.heap.size<=(x4.alloc (EJ (E4 [(IT 4,pH)]).toArray 298)).heap.size:=BB.out.size;obtain⟨A5,cp5,y4,hrun,k,b⟩:=nA _ w.heap.size gm _ _ _ 4 rfl K4.out (IT 4) pH x4.heap.size 1 X SG.out HA.out X gy 254;(with_reducible refine Ol ?_ (Up (s:= .tmp 15) (y:= .tmp 22) ?_ ?_ ?_ hrun) ?_);·exact Ei U
 ·rfl
 ·rfl
 ·rfl
 have K5:=O k;replace BB:=O<|BB.out.trans b;clear k b hrun HA SG K4 gy lx4;go_wp2_with fail;rw[Ic];go_wp2_with fail;refine(nt gm 11 _).mono ?_;rintro e x5 ⟨v5,rfl,⟨pK,rfl,lb5,SK⟩,b5⟩;have lx5:=BB.out.size;replace K5:=O<|(K5.out.G b5).G (Ep x5 (EJ (E4 [(IT 5,pK)]).toArray 298));have HA:=O<|H.new x5 (E4 [(IT 5,pK)]).toArray 298;have vm:=O<|H.alloc SK (EJ (E4 [(IT 5,pK)]).toArray 298);replace BB:=O<|bt (bt BB.out b5) (Ep x5 (EJ (E4 [(IT 5,pK)]).toArray 298));clear b5 SK;unfold IF;go_wp2_with (with_reducible refine I7 23 ?_);apply Eo;change IZ _ _ _ _ _ (x5.alloc (EJ (E4 [(IT 5,pK)]).toArray 298));have gA:w.heap.size<=(x5.alloc (EJ (E4 [(IT 5,pK)]).toArray 298)).heap.size:=BB.out.size;obtain⟨A6,cp6,y5,hrun,k,b⟩:=nA _ w.heap.size gm _ _ _ 5 rfl K5.out (IT 5) pK x5.heap.size 1 X vm.out HA.out X gA 254;(with_reducible refine Ol ?_ (Up (s:= .tmp 15) (y:= .tmp 22) ?_ ?_ ?_ hrun) ?_);·exact Ei U
 ·rfl
 ·rfl
 ·rfl
 have K6:=O k;replace BB:=O<|BB.out.trans b;clear k b hrun HA vm K5 gA lx5;go_wp2_with fail;rw[Ic];go_wp2_with fail;refine(nt gm 12 _).mono ?_;rintro e x6 ⟨v6,rfl,⟨pL,rfl,lb6,SN⟩,b6⟩;have lx6:=BB.out.size;replace K6:=O<|(K6.out.G b6).G (Ep x6 (EJ (E4 [(IT 6,pL)]).toArray 298));have HA:=O<|H.new x6 (E4 [(IT 6,pL)]).toArray 298;have vn:=O<|H.alloc SN (EJ (E4 [(IT 6,pL)]).toArray 298);replace BB:=O<|bt (bt BB.out b6) (Ep x6 (EJ (E4 [(IT 6,pL)]).toArray 298));clear b6 SN;unfold IF;go_wp2_with (with_reducible refine I7 23 ?_);apply Eo;change IZ _ _ _ _ _ (x6.alloc (EJ (E4 [(IT 6,pL)]).toArray 298));have SP:w.heap.size<=(x6.alloc (EJ (E4 [(IT 6,pL)]).toArray 298)).heap.size:=BB.out.size;obtain⟨A7,cp7,y6,hrun,k,b⟩:=nA _ w.heap.size gm _ _ _ 6 rfl K6.out (IT 6) pL x6.heap.size 1 X vn.out HA.out X SP 254;(with_reducible refine Ol ?_ (Up (s:= .tmp 15) (y:= .tmp 22) ?_ ?_ ?_ hrun) ?_);·exact Ei U
 ·rfl
 ·rfl
 ·rfl
 have K7:=O k;replace BB:=O<|BB.out.trans b;clear k b hrun HA vn K6 SP lx6;go_wp2_with fail;rw[Ic];go_wp2_with fail;refine(nt gm 13 _).mono ?_;rintro e x7 ⟨v7,rfl,⟨pM,rfl,lb7,SY⟩,b7⟩;have lx7:=BB.out.size;replace K7:=O<|(K7.out.G b7).G (Ep x7 (EJ (E4 [(IT 7,pM)]).toArray 298));have HA:=O<|H.new x7 (E4 [(IT 7,pM)]).toArray 298;have vo:=O<|H.alloc SY (EJ (E4 [(IT 7,pM)]).toArray 298);replace BB:=O<|bt (bt BB.out b7) (Ep x7 (EJ (E4 [(IT 7,pM)]).toArray 298));clear b7 SY;unfold IF;go_wp2_with (with_reducible refine I7 23 ?_);apply Eo;change IZ _ _ _ _ _ (x7.alloc (EJ (E4 [(IT 7,pM)]).toArray 298));have G_:w.heap.size<=(x7.alloc (EJ (E4 [(IT 7,pM)]).toArray 298)).heap.size:=BB.out.size;obtain⟨A8,cp8,y7,hrun,k,b⟩:=nA _ w.heap.size gm _ _ _ 7 rfl K7.out (IT 7) pM x7.heap.size 1 X vo.out HA.out X G_ 254;(with_reducible refine Ol ?_ (Up (s:= .tmp 15) (y:= .tmp 22) ?_ ?_ ?_ hrun) ?_);·exact Ei U
 ·rfl
 ·rfl
 ·rfl
 have K8:=O k;replace BB:=O<|BB.out.trans b;clear k b hrun HA vo K7 G_ lx7;go_wp2_with fail;rw[Ic];go_wp2_with fail;go_ret2;obtain⟨gl,hA,hfl⟩:=K8.out.GM Eh;subst hA;exact⟨_,_,_,U,U,hfl,BB.out⟩
end Go.Proofs.YtclmichaaiohjaaGreatDoor
