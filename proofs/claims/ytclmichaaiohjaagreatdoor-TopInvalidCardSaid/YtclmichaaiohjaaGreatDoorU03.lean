import Derived.Test.YtclmichaaiohjaaGreatDoorU02
import Derived.ChangeKeysEq
import Derived.LaidMore
import Derived.Laws.StructEq
import Derived.Lib.SlBytesConst
set_option maxRecDepth 100000
set_option linter.unusedVariables false
set_option linter.unusedSimpArgs false
set_option maxHeartbeats 6400000
namespace Go.Proofs.YtclmichaaiohjaaGreatDoor
open RowKit
open _root_.Array renaming getElem?_eq_getElem->ji
open Bool renaming true->EI,false->V,false_eq_true->jq
open Go renaming bits->Iu,World->M,Calls->Eg,TypeId->Ez,Value->G,Addr->Ev,Program->Jd,bodyPost_ret->EV,binOp->XG,results->UW,Act->E2,Oper->EG,execOp->Ig,wpList->Ih,undef->Iv,Operand->JN,info_parts->bZ,below_setRow->E6,wpQuiet_nil->I2,callFunc->Ji,wp_loop_rounds->OJ,rounds_succ->Ib,Ending->Uv,wpList_store_mid->Um
open Act renaming put->Ic
open Builtin renaming append_->bX
open Ending renaming returned->Eh
open Instr renaming index->Ua
open IntKind renaming wrap->na,i64->I,u8->IT,u64->Il
open Lib renaming hid->J
open Obj renaming cells->Ec
open Go.Proofs.Tryz renaming prog->Ea,func160->gI,ntmps160->gJ
open Result renaming andThen_ok->On
open RowKit renaming Below->Ir,Hid->Ed,intOf->I5
open RowKit.Below renaming refl->E_,size->UQ
open Sem renaming run_bind->Om,run_pure->Oa
open Value renaming bool->EU,int->E,agg->EZ,slice->EJ,tuple->Es,pointer->Y,oneCell'->Ov
open World renaming block_lt_of_cell?->UV
open Int renaming toNat_natCast->kL
open List renaming getElem?_eq_none->am,mem_of_mem_take->fC,eq_nil_of_length_eq_zero->ao,getElem?_eq_getElem->JY,range->UM,mem_cons_of_mem->Z5,mem_cons_self->fG,nodup_cons->kY,getElem?_eq_some_iff->Xr,cons_append->lI,take_append_drop->dR,take_succ_cons->Is,drop_eq_getElem_cons->lO,length_take->ZJ,take_of_length_le->OV,getD_eq_getElem?_getD->Uj,getElem?_append_left->bO,getElem?_append_right->ay,map_cons->Xs,take_zero->Io,getElem?_toArray->J0,setIfInBounds_toArray->Ii,length_append->I1,length_cons->Zw,mem_cons->OY,getElem_mem->dW,getElem?_map->ls,append_assoc->UY,set_cons_succ->IJ,set_cons_zero->IU,mem_append->Xt,nil_append->cX,length_drop->ly,not_mem_nil->Uu,drop_succ_cons->IS,drop_zero->IM,append_nil->fX,take_add_one->lL,all_nil->jF,all_cons->io,mem_of_getElem?->cG
open Nat renaming lt_or_ge->JW,le_trans->EB,le_refl->E9,zero_add->J9,add_assoc->iq
open Option renaming some->X,none->Z,map_some->jb
open Option.some renaming injEq->lK
variable{P:Jd}{k:IntKind}{t T:Ez}{w w' W:M}{cs:Array G}{A Y4 C:Option Ev}{m c d g b cap base gm gl:Nat}{x y xs z l p bs:List Int}{fs:List (FD×Nat)}{ds:List FD}
theorem EOO{e:Ez}(he:P.underlying e=X (.int k))(cs:Array G)(i:Nat)(v:G)(hv:cs[i]?=X v)(W:M):(Go.part e cs i).run P W=Result.ok v W:=by unfold Go.part;simp[isAgg,run_underlying he,hv]
theorem EOU{e:Ez}{n:Nat}{inf:TypeInfo}(ht:P.underlying t=X (.array n e))(he:P.underlying e=X (.int k))(hi:P.info? e=X inf)(h1:inf.size=1)(cs:Array G)(i:Nat)(hn:i<n)(v:G)(hv:cs[i]?=X v)(W:M): (Ua t (EZ cs) (E I (i:Int))).run P W= .ok v W:=by have hp:=EOO he cs i v hv W;unfold Ua;have c1:(0:Int)<=(i:Int)/\(i:Int)<(n:Int):=D;simp[asIntOf,run_underlying ht,c1,sizeOf,typeInfo,hi,h1,hp];omega
theorem EOX(l:List Int)(hl:l.length=64)(i:Nat)(h:i<64)(W:M):(Ua 214 (EZ (Em l)) (E I (i:Int))).run Ea W= .ok (E IT (l.getD i 0)) W:=by obtain⟨i0,hi,hz0,hz1,hz2⟩:=bZ kK;exact EOU Tryz.underlying214 Tryz.underlying5 hi hz1 _ i h _ (jk l i D) W
theorem N6(k:List Int)(b:Int)(w:M)(hl:k.length=64)(hb:0<=b/\b<=255): Eg Ea 244 #[EZ (Em k),E IT b] w fun e w'=>e=Eh (EJ (X ⟨w.heap.size+1,0,Z⟩) 64 64)/\H w' (w.heap.size+1) (Em (ZM k b)) 5/\Ek w w':=by
 have HL:=J hl;have hmk: ∀W:M,(Instr.makeSlice 23 (E I 64) (E I 64)).run Ea W= .ok (EJ (X ⟨W.heap.size,0,Z⟩) 64 64) (W.alloc (Ec (Em (Eu 64)) 5)):=Mq 64 D;obtain⟨hb0,hb1⟩:=hb;clear hl;go_enter Tryz.func244,Tryz.ntmps244;go_wp2_with (with_reducible refine Mh 214 ?_);apply Et;have KB:=J<|(H.new w (Em k) 214).alloc (Ec (Em (Eu 64)) 5);have KM:=J<|H.new' (w.alloc (Ec (Em k) 214)) (Em (Eu 64)) 5 (g:=w.heap.size+1) Ej;have B:=J<|J3 w (Ec (Em k) 214) (Ec (Em (Eu 64)) 5);clear hmk;generalize (w.alloc (Ec (Em k) 214)).alloc (Ec (Em (Eu 64)) 5)=w1 at*;go_wp2_with (with_reducible refine wL tA KB ?_ (hn:=NG));go_loopw[10] (fun y wr=> ∃i:Nat,i<=64/\y=E I i/\H wr (w.heap.size+1) (Em (part (ZM k b) i)) 5/\Ek w wr) (fun y _=>64-(I5 y).toNat);case atStart=>exact⟨0,D,U,by rw[Mk,yf,HL.out];exact KM.out,B.out⟩
 case round=>
  clear KB KM B;obtain⟨i,hi,rfl,KM,B⟩:=hrel;have lt:(ZM k b).length=64:=by rw[yf,HL.out]
  by_cases hlt:i<64;·have hix:=EOX k HL.out i hlt;have c0:=KM.cell i;have f0:=KM.I_ i;rw[jk _ _ (by rw[xp _ _ D];omega)] at c0;have ST:=Cx (ZM k b) i D;rw[EOJ _ _ _ DB] at ST;generalize k.getD i 0=x at*;have ST2:=J ST;have DH:=J KM;have Jo:=J B;clear ST KM B lt;go_wp2_with fail;have h:=DH.out.set i (E IT (Iu .xor .u8 x b));rw[nt,ST2.out] at h;exact⟨⟨i+1,D,Ej,h,Jo.out.setCell Ej _⟩,J6⟩
  ·obtain rfl:i=64:=D;rw[show((64:Nat):Int)=64 from rfl];rw[Ml _ _ D] at KM;have DH:=J KM;have Jo:=J B;clear KM B lt;go_wp2;go_ret;exact⟨U,DH.out,Jo.out⟩
def dn(w:M)(cs:Array G)(ps:List (List Int)):Prop:=cs.size=ps.length/\ ∀i (h:i<ps.length),∃A c,cs[i]?=X (.slice A ps[i].length c)/\Row w A ps[i]
theorem dn.u{ps:List (List Int)}(h:dn w cs ps)(hb:Ek w w'):dn w' cs ps:=⟨h.1,fun i hi=>by obtain⟨A,c,e,r⟩:=h.2 i hi;exact⟨A,c,e,IH r hb⟩⟩
theorem N7{n:Nat}(hn:x.length=n)(hm:y.length=m)(hx:Row w A x)(hy:Row w Y4 y):dn w #[EJ A n c,EJ Y4 m d] [x,y]:=by
 subst hn hm;refine⟨U,fun i hi=> ?_⟩;match i,hi with
 |0,_=>exact⟨A,c,U,hx⟩
 |1,_=>exact⟨Y4,d,U,hy⟩
theorem EOZ(g m c:Nat)(cs:Array G)(ps:List (List Int))(w:M)(hm:ps.length=m)(hk:H w g cs 23)(hp:dn w cs ps)(hs:ps.flatten.length<=100000000)(hm2:m<=1000): Eg Ea 243 #[EJ (X ⟨g,0,Z⟩) m c] w fun e w'=>(∃A d,e=Eh (EJ A ps.flatten.length d)/\Own w' w.heap.size A d ps.flatten)/\Ek w w':=by
 have HM:=J hm;have HK:=J hk;have HP:=J hp;have HS:=J hs;clear hm hk hp hs;go_enter Tryz.func243,Tryz.ntmps243;go_wp2_with fail;go_loopw[3,8] (fun x y wr=> ∃(i:Nat) (A:Option Ev) (d n:Nat),i<=m/\y=E I i/\x=EJ A n d/\(ps.take i).flatten.length=n/\Own wr w.heap.size A d (ps.take i).flatten/\Ek w wr) (fun _ y _=>m-(I5 y).toNat);case atStart=>exact⟨0,Z,0,0,D,U,U,U,XY _ _,E_ _ _⟩
 case round=>
  obtain⟨i,A,d,n,hi,rfl,rfl,hn,ho,B⟩:=hrel;by_cases hlt:i<m
  ·have hil:i<ps.length:=DK;obtain⟨Y4,c2,e2,r2⟩:=HP.out.2 i hil;have ck:=(HK.out.u B).cell i;rw[e2] at ck;have hst:(ps.take (i+1)).flatten=(ps.take i).flatten++ps[i]:=N8;have hle:(ps.take (i+1)).flatten.length<=100000000:=by have h1:=HS.out;have h2:ps.flatten=(ps.take (i+1)).flatten++(ps.drop (i+1)).flatten:=N9;rw[h2,I1] at h1;omega
   rw[hst,I1] at hle;exact Eko
  ·exact El4
theorem PJ(g c:Nat)(A Y4:Option Ev)(n m e d:Nat)(x y:List Int)(w:M)(hn:x.length=n)(hm:y.length=m)(hk:H w g #[EJ A n e,EJ Y4 m d] 23)(hx:Row w A x)(hy:Row w Y4 y)(hs:n+m<=100000000): Eg Ea 243 #[EJ (X ⟨g,0,Z⟩) 2 c] w fun e w'=>(∃A d,e=Eh (EJ A (n+m) d)/\Own w' w.heap.size A d (x++y))/\Ek w w':=by have h:=EOZ g 2 c _ [x,y] w U hk (N7 hn hm hx hy) Jm D;have e1:[x,y].flatten=x++y:=Ej;rw[e1,I1,hn,hm] at h;exact h
theorem EOa{x y:Int}(hx:0<=x/\x<=255)(hy:0<=y/\y<=255):Iu .xor .u8 x y=0↔x=y:=by
 rw[u8_xor x y hx.1 D hy.1 D];constructor
 ·intro h;have h2:x.toNat^^^y.toNat=0:=D;have h3:x.toNat=y.toNat:=by apply Nat.eq_of_testBit_eq;intro i;have:=congrArg (fun n=>Nat.testBit n i) h2;simp only[Nat.testBit_xor,Nat.zero_testBit] at this;revert this;cases x.toNat.testBit i<;>cases y.toNat.testBit i<;>simp
  omega
 ·rintro rfl;simp
theorem EOb{x y:Int}(hx:0<=x/\x<=255)(hy:0<=y/\y<=255):Iu .or .u8 x y=0↔x=0/\y=0:=by
 rw[u8_or x y hx.1 D hy.1 D]
 have key:x.toNat|||y.toNat=0↔x.toNat=0/\y.toNat=0:=by
  constructor
  ·intro h;have a: ∀i,x.toNat.testBit i=V/\y.toNat.testBit i=V:=by intro i;have:=congrArg (fun n=>Nat.testBit n i) h;simp only[Nat.testBit_or,Nat.zero_testBit,Bool.or_eq_false_iff] at this;exact this
   exact⟨Nat.eq_of_testBit_eq fun i=>by rw[(a i).1];simp,Nat.eq_of_testBit_eq fun i=>by rw[(a i).2];simp⟩
  ·rintro⟨h1,h2⟩;rw[h1,h2];rfl
 constructor;·intro h;have:=key.1 D;omega
 ·rintro⟨h1,h2⟩;have:=key.2 D;omega
theorem EOc(a b:Int):0<=Iu .or .u8 a b/\Iu .or .u8 a b<=255:=by unfold Iu;simp only;rw[IntKind.wrap_u8'];omega
theorem PU(A Y4:Option Ev)(x y:List Int)(n m c d:Nat)(w:M)(hn:x.length=n)(hm:y.length=m)(hx:Row w A x)(hy:Row w Y4 y)(hl:n<=1000000000)(hl2:m<=1000000000): Eg Ea 168 #[EJ A n c,EJ Y4 m d] w fun e w'=>e=Eh (EU (decide (x=y)))/\w=w':=by
 by_cases hnm:n=m
 ·subst hnm;have HN:=J hn;have HM:=J hm;have HX:=J hx;have HY:=J hy;obtain⟨b,hb⟩:=OQ (decide (x=y));rw[hb];have HB:=J hb;clear hn hm hx hy hb;go_enter Tryz.func168,Tryz.ntmps168;go_wp2_with fail;go_loop [5,15] (fun o y'=> ∃(i:Nat) (z:Int),i<=n/\y'=E I i/\o=E IT z/\0<=z/\z<=255/\(z=0↔x.take i=y.take i)) (fun _ y'=>n-(I5 y').toNat);case atStart=>exact⟨0,0,D,U,U,D,D,Ej⟩
  case round=>
   obtain⟨i,z,hi,rfl,rfl,z0,z1,hz⟩:=hrel;by_cases hlt:i<n
   ·have hxi:i<x.length:=lB;have hyi:i<y.length:=DK;rcases HX.out.1 with e|⟨g,o,rfl,hc⟩;·exfalso;rw[e] at hxi;simp at hxi
    rcases HY.out.1 with e|⟨g',o',rfl,hc'⟩;·exfalso;rw[e] at hyi;simp at hyi
    have c1:=hc i hxi;have c2:=hc' i hyi;have r1:=HX.out.2 x[i] (dW _);have r2:=HY.out.2 y[i] (dW _)
    have ST:Iu .or .u8 z (Iu .xor .u8 x[i] y[i])=0↔x.take (i+1)=y.take (i+1):=by
     rw[EOb ⟨z0,z1⟩ (N4 _ _),EOa r1 r2,hz,List.take_succ_eq_append_getElem hxi,List.take_succ_eq_append_getElem hyi];constructor;·rintro⟨h1,h2⟩;rw[h1,h2]
     ·intro h;have:=List.append_inj h Jm;exact⟨this.1,by simpa using this.2⟩
    have OB:=EOc z (Iu .xor .u8 x[i] y[i]);have ST2:=J ST;have PX:=J OB;clear ST OB hz hc hc';generalize x[i]=p at*;generalize y[i]=q at*;go_wp2_with fail;exact⟨⟨i+1,_,D,Ej,U,PX.out.1,PX.out.2,ST2.out⟩,J6⟩
   ·obtain rfl:i=n:=D;rw[OV qu,OV DL] at hz;have e:(z==0)=b:=by rw[<-HB.out,Bool.eq_iff_iff];simp[hz]
    clear hz;exact Ej7
 ·have hne:x≠y:=fun h=>hnm (by rw[<-hn,<-hm,h]);rw[Ia hne];have hne2:((n:Int) !=(m:Int))=EI:=Jm;clear hne hn hm hx hy;go_enter Tryz.func168,Tryz.ntmps168;exact Ej7
theorem EOd{fr:Nat×Nat}(hg:W.heap[g]?=X (Ec cs t fr))(hc:cs=(xs.map (E .u8)).toArray)(hb: ∀x∈xs,0<=x/\x<=255): Row W (X ⟨g,0,Z⟩) xs:=by subst hc;refine⟨.inr ⟨g,0,U,fun i h=> ?_⟩,hb⟩;rw[cell_of_row W g (0+i) _ t fr hg];simp[h]
theorem EOf{v:G}(h:L9 .u8 w v):xX w v:=by
 rcases h with rfl|⟨x,len,cap,zs,rfl,hx,hl,hc,hz,hcell,hw⟩;·exact⟨Z,[],0,U,Ej,Ej,nf _ _,fun _=>rfl⟩
 ·have hlen:(zs.take len).length=len:=ng;refine⟨X x,zs.take len,cap,by rw[hlen],D,D,⟨?_,fun y hy=>ME (hw y (fC hy))⟩,fun h=>Uq⟩;rcases Nat.eq_zero_or_pos cap with h0|h0;·left;exact ao D
  ·right;obtain⟨hb,hs⟩:=hx h0;obtain⟨b,off,spot⟩:=x;simp at hs;subst hs;refine⟨b,off,U,fun i hi=> ?_⟩;have hi':i<len:=D;have:=hcell i D;rw[Addr.add_mid] at this;exact Enh
theorem EOg:Ow Ea 214 (Em (Eu 64)):=by intro ev o w ho;unfold Ig;simp only[ho];simp[go_sem];exact congrArg (fun c=>w.alloc (Ec c 214)) Ef
theorem qK:Ow Ea 115 (Em (Eu 8)):=by intro ev o w ho;unfold Ig;simp only[ho];simp[go_sem];exact congrArg (fun c=>w.alloc (Ec c 115)) Ef
theorem aD:IF Ea 115 8:=⟨⟨_,Tryz.underlying115,U⟩,Ef⟩
def DM(full x2 s1:List Int)(g7:Nat)(i:Nat)(v:G)(w:M):Prop:=match i with
 |0=>v=EZ (Em full)
 |1=> ∃g,v=EJ (X ⟨g,0,Z⟩) 64 64/\Row w (X ⟨g,0,Z⟩) x2
 |2=>v=EJ (X ⟨g7,0,Z⟩) 32 32
 |3=> ∃g A,v=EJ (X ⟨g,0,Z⟩) 2 2/\H w g #[EJ A 64 64,EJ (X ⟨g7,0,Z⟩) 32 32] 23/\Row w A x2
 |4=> ∃A d,v=EJ A 96 d/\Row w A (x2++s1)
 |5=>v=EZ (Em (Zh (x2++s1)))
 |_=>True
theorem EOh(full x2 s1:List Int)(g7:Nat): ∀i v w w',i<6->DM full x2 s1 g7 i v w->Ek w w'->DM full x2 s1 g7 i v w':=by
 intro i v w w' hi h hb;match i,hi with
 |0,_=>exact h
 |1,_=> obtain⟨g,e,r⟩:=h;exact⟨g,e,IH r hb⟩
 |2,_=>exact h
 |3,_=> obtain⟨g,A,e,k,r⟩:=h;exact⟨g,A,e,k.u hb,IH r hb⟩
 |4,_=> obtain⟨A,d,e,r⟩:=h;exact⟨A,d,e,IH r hb⟩
 |5,_=>exact h
 |_+6,hi=>exact absurd hi D
theorem PZ(k:List Int)(hk:k.length<=64):putAt (Eu 64) 0 k=k++Eu (64-k.length):=by unfold putAt Eu;simp only[Io,cX,J9,List.drop_replicate]
theorem Pa(A Y4:Option Ev)(k b:List Int)(n m c d:Nat)(w:M)(hn:k.length=n)(hm:b.length=m)(hk:Row w A k)(hb:Row w Y4 b)(hl:n<=10000000)(hl2:m<=10000000)(hR:JH w): Eg Ea 215 #[EJ A n c,EJ Y4 m d] w fun e w'=>e=Eh (EZ (Em (Oq k b)))/\Ek w w':=by
 have dp:=J hn;have tC:=J hm;have DN:=J hk;have XZ:=J hb;have RT:=J hR;obtain⟨ans,DP⟩:=OQ (Oq k b);rw[DP];have EOi:=J DP;clear hn hm hk hb hR DP;go_enter Tryz.func215,Tryz.ntmps215;go_wp2_with (with_reducible first|refine wA dl ?_|refine wA EOg (Ey.mk ?_));apply Et;have K4:=J<|(H.new w (Em (Eu 32)) 41).alloc (Ec (Em (Eu 64)) 214);have K5:=J<|H.new' (w.alloc (Ec (Em (Eu 32)) 41)) (Em (Eu 64)) 214 (g:=w.heap.size+1) Ej;have B:=J<|J3 w (Ec (Em (Eu 32)) 41) (Ec (Em (Eu 64)) 214);have lg:w.heap.size<w.heap.size+1:=D;generalize (w.alloc (Ec (Em (Eu 32)) 41)).alloc (Ec (Em (Eu 64)) 214)=w1 at*;generalize w.heap.size+1=g5 at*;by_cases EiU:64<(n:Int)
 case' pos=>
  go_wp2_with fail;refine(yd A k n c w1 dp.out (IH DN.out B.out) D (RT.out.u B.out)).mono ?_;rintro e w2 ⟨rfl,b2⟩;have KL:=nL k;have KB:=tx k;have hkk:keyed k=Zh k:=if_pos (by rw[dp.out];omega);generalize Zh k=sk at*;replace KL:=J KL;replace KB:=J KB;replace hkk:=J hkk;replace K4:=J<|K4.out.u b2;replace K5:=J<|K5.out.u b2;replace B:=EW B b2;have l2:=K5.out.lt;clear b2;go_wp2_with (with_reducible refine wA dl (Ey.mk ?_));apply Et;have bel:=Er w2 (Ec (Em (Eu 32)) 41);replace K4:=J<|K4.out.u bel;replace K5:=J<|K5.out.u bel;replace B:=EW B bel;have K6:=J<|H.new w2 (Em (Eu 32)) 41;clear bel;generalize w2.alloc (Ec (Em (Eu 32)) 41)=w3 at*;generalize w2.heap.size=g6 at*;go_wp2_with (with_reducible refine wS (cs:=Em sk) OF K6 (Ey.mk ?_) (ho:=Xu) (hn:=Pb) (h1:=XK _));apply Et;replace K4:=J<|K4.out.setRow_other g6 (Em sk) D;replace K5:=J<|K5.out.setRow_other g6 (Em sk) D;replace K6:=J<|K6.out.setRow (Em sk);replace B:=J<|E6 (g:=g6) B.out D (Em sk);generalize w3.setRow g6 (Em sk)=w4 at*;go_wp2_with fail;refine sR 2 Ef Ef ?_;simp only[Is,Io,IS,IM];repeat (go_big_quiet_step (fail))
  refine I2 ?_;intro _ hw';obtain⟨nq,rfl⟩:=hw';replace K4:=J<|K4.out.drewN nq;replace K5:=J<|K5.out.drewN nq;have tD:=J<|fH (K6.out.drewN nq) KB.out;replace B:=J<|iO B.out nq;generalize w4.drewN nq=w4 at*;(with_reducible refine jn ?_ g5 0 64 64 (Eu 64) 214 (X ⟨g6,0,Z⟩) 32 32 sk 32 (X ⟨g5,0,Z⟩) ?_ K5 KL.out tD ?_ ?_ ?_ ?_);·exact Ei U
  ·exact Ema
  ·rfl
  ·rw[dS];omega
  ·exact Ent
  intro w5 jv b5 o5 s5;have e5:putAt (Eu 64) 0 (sk.take 32)=fZ k:=by have h1:=KL.out;rw[OV D,PZ sk D];unfold fZ;rw[hkk.out]
  rw[e5] at jv;replace K4:=J<|show H w5 w.heap.size (Em (Eu 32)) 41 from(o5 _ D).trans K4.out;replace B:=J<|B.out.trans (b5.mono D);clear K5 K6 o5 s5 b5 e5 tD hkk
 case' neg=>
  go_wp2_with ((with_reducible show Ih _ _ _ (⟨X 18,_,_,_,_,Z⟩::_) _ _);refine Ey.mk ?_);apply Et;have tD:=J<|IH DN.out B.out;(with_reducible refine jn ?_ g5 0 64 64 (Eu 64) 214 A n c k n (X ⟨g5,0,Z⟩) ?_ K5 dp.out tD ?_ ?_ ?_ ?_);·exact Ei U
  ·exact Ema
  ·exact Nat.min_eq_left D
  ·rw[dS];omega
  ·exact Ent
  intro w5 jv b5 o5 s5;have e5:putAt (Eu 64) 0 (k.take n)=fZ k:=by have h1:=dp.out;rw[OV D,PZ k D];have h2:keyed k=k:=if_neg D;unfold fZ;rw[h2]
  rw[e5] at jv;replace K4:=J<|show H w5 w.heap.size (Em (Eu 32)) 41 from(o5 _ D).trans K4.out;replace B:=J<|B.out.trans (b5.mono D);clear K5 o5 s5 b5 e5 tD
 all_goals
  have K5:=jv
  clear jv
  replace K5:=J K5
  have nP:=EOI DN.out.2
  have fW:=EOE k
  have DQ:Oq k b=Zh (ZM (fZ k) 92++Zh (ZM (fZ k) 54++b)):=rfl
  generalize fZ k=full at*
  rw[EOi.out] at DQ
  replace nP:=J nP
  replace fW:=J fW
  have HM:=J DQ
  clear DQ
  have C1:=J (N6 full 54 · fW.out D)
  have C2:=J (N6 full 92 · fW.out D)
  have yk:(ZM full 54).length=64:=by rw[yf,fW.out]
  have yl:(ZM full 92).length=64:=by rw[yf,fW.out]
  have DR:=N5 full 54
  have DT:=N5 full 92
  generalize ZM full 54=x1 at*
  generalize ZM full 92=x2 at*
  replace yk:=J yk
  replace yl:=J yl
  replace DR:=J DR
  replace DT:=J DT
  go_wp2_with (with_reducible refine wL tA K5 ?_ (hn:=by with_unfolding_all (rw[Oc,fW.out])))
  refine(C1.out _).mono ?_
  rintro e w6 ⟨rfl,KT,b6⟩
  replace K4:=J<|K4.out.u b6
  replace K5:=J<|K5.out.u b6
  replace B:=EW B b6
  have qH:=J<|fH KT DR.out
  clear b6 KT
  generalize (w5.heap.size+1)=gt at*
  go_wp2_with (go_at_call 243;refine Ey.mk ?_)
  apply Et
  have bl:=Er w6 (Ec #[EJ (X ⟨gt,0,Z⟩) 64 64,EJ Y4 m d] 23)
  have KJ:=H.new w6 #[EJ (X ⟨gt,0,Z⟩) 64 64,EJ Y4 m d] 23
  replace qH:=J<|IH qH.out bl
  replace K4:=J<|K4.out.u bl
  replace K5:=J<|K5.out.u bl
  replace B:=EW B bl
  clear bl
  generalize w6.alloc (Ec #[EJ (X ⟨gt,0,Z⟩) 64 64,EJ Y4 m d] 23)=w7 at*
  refine(PJ w6.heap.size 2 (X ⟨gt,0,Z⟩) Y4 64 m 64 d x1 b w7 yk.out tC.out KJ qH.out (IH XZ.out B.out) D).mono ?_
  rintro e w8 ⟨⟨A1,d1,rfl,o1⟩,b8⟩
  replace K4:=J<|K4.out.u b8
  replace K5:=J<|K5.out.u b8
  replace B:=EW B b8
  clear b8 KJ
  have RJ:=J o1.row
  have LJ:(x1++b).length=64+m:=by rw[I1,yk.out,tC.out]
  clear o1
  generalize hJ:x1++b=j1 at*
  replace LJ:=J LJ
  replace hJ:=J hJ
  go_wp2_with fail
  refine(yd A1 j1 (64+m) d1 w8 LJ.out RJ.out D (RT.out.u B.out)).mono ?_
  rintro e w9 ⟨rfl,b9⟩
  replace K4:=J<|K4.out.u b9
  replace K5:=J<|K5.out.u b9
  replace B:=EW B b9
  have l9:=K5.out.lt
  clear b9 RJ
  have tF:=nL j1
  have DW:=tx j1
  generalize hS:Zh j1=s1 at*
  replace hS:=J hS
  replace tF:=J tF
  replace DW:=J DW
  go_wp2_with (with_reducible refine wA dl (Ey.mk ?_))
  apply Et
  have bel:=Er w9 (Ec (Em (Eu 32)) 41)
  replace K4:=J<|K4.out.u bel
  replace K5:=J<|K5.out.u bel
  replace B:=EW B bel
  have K7:=J<|H.new w9 (Em (Eu 32)) 41
  clear bel
  generalize w9.alloc (Ec (Em (Eu 32)) 41)=U0 at*
  generalize w9.heap.size=g7 at*
  go_wp2_with (with_reducible refine wS (cs:=Em s1) OF K7 (Ey.mk ?_) (ho:=Xu) (hn:=by with_unfolding_all (rw[Oc,tF.out])) (h1:=XK _))
  apply Et
  replace K4:=J<|K4.out.setRow_other g7 (Em s1) D
  replace K5:=J<|K5.out.setRow_other g7 (Em s1) D
  replace K7:=J<|K7.out.setRow (Em s1)
  replace B:=J<|E6 (g:=g7) B.out D (Em s1)
  generalize U0.setRow g7 (Em s1)=cg at*
  go_wp2_with fail
  refine aw EK Ef 6 Ef Ej Eb (DM full x2 s1 g7) (EOh full x2 s1 g7) ?_ ?_
  ·simp only[XH,Is,Io,ED,Ic,Ii,IJ,IU,and_true];refine⟨?_,?_,?_,?_,?_,?_⟩;all_goals intro v w' hb hd
   ·exact Cz EK (g:=g5) (cs:=Em full) tA (Ei U) ⟨U,U⟩ (K5.out.u hb) (by rw[Oc,fW.out]) U
   ·have d0:v 0=_:=hd ⟨0,.data⟩ Ej U;refine Ob (f:=244) (args:= #[v 0,E IT 92]) (Ei U) Ew ?_;rw[d0];exact(C2.out w').mono fun e w'' ⟨he,hk,hb'⟩=>⟨_,he,hb',_,U,fH hk DT.out⟩
   ·exact EkO
   ·obtain⟨g,d1,r1⟩: ∃g,v 1=EJ (X ⟨g,0,Z⟩) 64 64/\Row w' (X ⟨g,0,Z⟩) x2:=hd ⟨1,.data⟩ Ej U;have d2:v 2=_:=hd ⟨2,.data⟩ Ej U;refine Z6 (v:=EJ (X ⟨w'.heap.size,0,Z⟩) 2 2) (w':=w'.alloc (Ec #[EJ (X ⟨g,0,Z⟩) 64 64,EJ (X ⟨g7,0,Z⟩) 32 32] 23)) (Ei U) (by simp[go_sem,d1,d2]) (Er _ _) ⟨_,_,U,H.new _ _ _,IH r1 (Er _ _)⟩
   ·obtain⟨g,A,d3,k3,r3⟩: ∃g A,v 3=EJ (X ⟨g,0,Z⟩) 2 2/\H w' g #[EJ A 64 64,EJ (X ⟨g7,0,Z⟩) 32 32] 23/\Row w' A x2:=hd ⟨3,.data⟩ Ej U;refine Ob (f:=243) (args:= #[v 3]) (Ei U) Ew ?_;rw[d3];exact(PJ g 2 A (X ⟨g7,0,Z⟩) 64 32 64 32 x2 s1 w' yl.out tF.out k3 r3 (fH (K7.out.u hb) DW.out) D).mono fun e w'' ⟨⟨A1,d1,he,o1⟩,hb'⟩=>⟨_,he,hb',_,_,U,o1.row⟩
   ·obtain⟨A,d,d4,r4⟩: ∃A d,v 4=EJ A 96 d/\Row w' A (x2++s1):=hd ⟨4,.data⟩ Ej U;refine Ob (f:=82) (args:= #[v 4]) (Ei U) Ew ?_;rw[d4];exact(yd A (x2++s1) 96 d w' (by rw[I1,yl.out,tF.out]) r4 D (RT.out.u (bt B.out hb))).mono fun e w'' ⟨he,hb'⟩=>⟨_,he,hb',U⟩
  ·intro v w' hb hr;have d5:v 5=EZ (Em (Zh (x2++s1))):=hr 5 D;simp only[Is,Io,IS,IM,ED,Ic,Ii,IJ,IU];have ea:Zh (x2++s1)=ans:=HM.out.symm;rw[ea] at d5;have AL:ans.length=32:=by rw[<-ea,nL]
   rw[d5];replace K4:=J<|K4.out.u hb;replace B:=EW B hb;replace AL:=J AL;clear hr hb d5 ea;go_wp2_with (with_reducible refine wS (cs:=Em ans) OF K4 ?_ (ho:=Xu) (hn:=Pc) (h1:=XK _));refine EV (v:=EZ (Em ans)) (JB OF U _ _ (w.heap.size) _ U (K4.out.setRow _) (by rw[Oc,AL.out])) U ⟨U,E6 B.out D _⟩
theorem EOj:Ow Ea 160 UN.v.toArray:=by intro ev o w ho;unfold Ig;simp only[ho];simp[go_sem];exact congrArg (fun c=>w.alloc (Ec c 160)) Ef
def Xk(b:Bool)(m r:Int)(key:List Int):JC:=⟨b,0,m,r,key,Z⟩
theorem EOk(r k0 k1 k2 k3 k4 k5 k6 k7 k8 k9 k10 k11 k12 k13 k14 k15 k16 k17 k18 k19 k20 k21 k22 k23 k24 k25 k26 k27 k28 yn yo yp:Int):Tryz.prog.built 160 [(1,E I r),(2,EZ (Em [k0,k1,k2,k3,k4,k5,k6,k7,k8,k9,k10,k11,k12,k13,k14,k15,k16,k17,k18,k19,k20,k21,k22,k23,k24,k25,k26,k27,k28,yn,yo,yp]))]=X (Xk V 0 r [k0,k1,k2,k3,k4,k5,k6,k7,k8,k9,k10,k11,k12,k13,k14,k15,k16,k17,k18,k19,k20,k21,k22,k23,k24,k25,k26,k27,k28,yn,yo,yp]).v.toArray:=Ef
theorem Pd(r:Int)(key:List Int)(h:key.length=32):Tryz.prog.built 160 [(1,E I r),(2,EZ (Em key))]=X (Xk V 0 r key).v.toArray:=by
 match key,h with
 |[k0,k1,k2,k3,k4,k5,k6,k7,k8,k9,k10,k11,k12,k13,k14,k15,k16,k17,k18,k19,k20,k21,k22,k23,k24,k25,k26,k27,k28,yn,yo,yp],_=>exact EOk r k0 k1 k2 k3 k4 k5 k6 k7 k8 k9 k10 k11 k12 k13 k14 k15 k16 k17 k18 k19 k20 k21 k22 k23 k24 k25 k26 k27 k28 yn yo yp
theorem EOl(b:Bool)(m r:Int)(key:List Int)(hl:key.length=32)(hb: ∀x∈key,0<=x/\x<=255):(Xk b m r key).ok:=⟨hl,hb,trivial⟩
def qL(T:ET)(g:Nat)(src role:Int)(key:List Int)(w:M)(e:Uv)(w':M):Prop:=
 (if(src=1\/src=2\/src=3)/\0<=role/\role<=3 then
  (if(T.E5 (src-1).toNat).on=V/\T.most<=T.Iz then e=Eh (E I 19)/\Ip w' g T
   else e=Eh (E I 0)/\Ip w' g (T.put (src-1).toNat (Xk EI (max T.Iq 0) role key)))
  else e=Eh (E I 1)/\Ip w' g T)/\E3 g w w'
theorem EOm(g:Nat)(src role:Int)(key:List Int)(w:M)(h:src<1): Eg Ea 124 #[Y (X ⟨g,0,Z⟩),E I src,E I role,EZ (Em key)] w fun e w'=>e=Eh (E I 1)/\Ek w w':=by have d1:decide (src<1)=EI:=IE h;exact Ek1
theorem EOn(g:Nat)(src role:Int)(key:List Int)(w:M)(h:3<src): Eg Ea 124 #[Y (X ⟨g,0,Z⟩),E I src,E I role,EZ (Em key)] w fun e w'=>e=Eh (E I 1)/\Ek w w':=by have d1:decide (src<1)=V:=Ia D;have d2:decide (3<src)=EI:=IE h;exact Ek1
theorem EOo(g:Nat)(src role:Int)(key:List Int)(w:M)(h1:1<=src)(h2:src<=3)(h:role<0): Eg Ea 124 #[Y (X ⟨g,0,Z⟩),E I src,E I role,EZ (Em key)] w fun e w'=>e=Eh (E I 1)/\Ek w w':=by have d1:decide (src<1)=V:=Ia D;have d2:decide (3<src)=V:=Ia D;have d3:decide (role<0)=EI:=IE h;exact Ek1
theorem EOp(g:Nat)(src role:Int)(key:List Int)(w:M)(h1:1<=src)(h2:src<=3)(h:3<role): Eg Ea 124 #[Y (X ⟨g,0,Z⟩),E I src,E I role,EZ (Em key)] w fun e w'=>e=Eh (E I 1)/\Ek w w':=by have d1:decide (src<1)=V:=Ia D;have d2:decide (3<src)=V:=Ia D;have d3:decide (role<0)=V:=Ia D;have d4:decide (4<=role)=EI:=IE D;exact Ek1
theorem E3.fa{g2:Nat}{a b c:M}(h:E3 g a b)(hg:a.heap.size<=g2)(k:E3 g2 b c)(hb:a.heap.size<=b.heap.size):E3 g a c:=
 ⟨EB h.size k.size,fun i hi hl=>(k.keep i D (Nat.lt_of_lt_of_le hl h.size)).trans (h.keep i hi hl),fun i hi hl=>(h.bel i hi hl).trans (k.bel i D D)⟩
theorem fY(cs:Array G):E3 g W (W.setRow g cs):=
 ⟨Ej,fun k hk _=>setRow_other W g k _ D,fun b hb hW=>E6 (g:=g) (E_ b W) hb cs⟩
theorem Pf(b:Bool)(g i:Nat)(hi:i<3)(T:ET)(role:Int)(key:List Int)(w:M)(K:Ip w g T)(h:T.ok)(hr0:0<=role)(hr1:role<=3)(hk:key.length=32)(hon:(T.E5 i).on=b)(hm:b=V->T.Iz<T.most): Eg Ea 124 #[Y (X ⟨g,0,Z⟩),E I ((i:Int)+1),E I role,EZ (Em key)] w fun e w'=>e=Eh (E I 0)/\Ip w' g (T.put i (Xk EI (max T.Iq 0) role key))/\E3 g w w':=by
 have d1:decide ((i:Int)+1<1)=V:=Ia D;have d2:decide (3<(i:Int)+1)=V:=Ia D;obtain⟨o,ho⟩:=Eo (so i);have hso:3+i*39=o:=by exact Enn
 have d3:decide (role<0)=V:=Ia D;have d4:decide (4<=role)=V:=Ia D;have hof:T.of g ((i:Int)+1)=bif b then Y (X ⟨g,o,Z⟩) else Y Z:=by unfold ET.of;rw[if_pos D];rw[show((i:Int)+1-1).toNat=i from D,hon,<-ho];cases b<;>rfl
 have CO:Ed (∀W,Ip W g T->Eg Ea 76 #[Y (X ⟨g,0,Z⟩),E I ((i:Int)+1)] W fun e w'=>e=Eh (bif b then Y (X ⟨g,o,Z⟩) else Y Z)/\W=w'):=J fun W hW=>Pg;have CM:Ed (∀W,Ip W g T->Eg Ea 170 #[Y (X ⟨g,0,Z⟩)] W fun e w'=>e=Eh (E I T.Iz)/\W=w'):=J fun W hW=>Np g T W hW h;have TP:=J<|fun W (k:Ip W g T)=>yO k h i (Xk EI (max T.Iq 0) role key) hk;rw[<-ho] at TP;have TH:=J<|fun W (k:Ip W g T)=>(aA k (o:=o) (n:=39) (by rw[qy k h];omega));have CB:=J<|fun W (k:Ip W g T)=>yI k h;have BS:=J<|Pd role key hk;have CH:=J<|fun W (g9:Nat) (k:H W g9 (Xk false 0 role key).v.toArray 160)=>xu g9 0 [] ([E .i64 role]++(key.map (E .u8)++UX Z)) (EU V) (E I 0) (E I 0) 160 T.Iq W k U;have HK:=J hk;have hks:Ed ((Em key).size=32):=J (by rw[Oc,hk]);have SZ:=J<|show(Xk EI (max T.Iq 0) role key).v.toArray.size=39 from JC.ZX hk;have yq:=J<|show(Xk V 0 role key).v.toArray.size=39 from JC.ZX hk;have S1:=J<|qB (Xk EI (max T.Iq 0) role key);have S0:=J<|qB (Xk V 0 role key);have Pi:=J<|show UN.v.toArray.size=39 from JC.ZX U;have KT:=J K;have lg:=H.lt K;clear ho hof hk hon K h;cases b;case' false=>have dm:decide (T.most<=T.Iz)=V:=Ia (by have:=hm U;omega)
 all_goals
  clear hm
  simp only[cond_true,cond_false] at CO
  obtain⟨kv,hkv⟩:=Eo (Em key)
  rw[<-hkv] at BS hks⊢
  obtain⟨si,hsi⟩:=Eo ((Xk V 0 role key).v.toArray)
  rw[<-hsi] at BS yq S0
  obtain⟨sv,hsv⟩:=Eo ((Xk EI (max T.Iq 0) role key).v)
  obtain⟨T2,nQ⟩:=Eo (T.put i (Xk EI (max T.Iq 0) role key))
  rw[<-hsv,<-nQ] at TP
  rw[<-nQ]
  rw[<-hsv] at SZ S1
  have qM:=J hsv
  have DY:=J hsi
  clear hkv hsi hsv nQ
  go_enter Tryz.func124,Tryz.ntmps124
  go_wp2_with fail
  have K7:=J<|H.new w kv 41
  have b1:=Er w (Ec kv 41)
  replace KT:=J<|KT.out.u b1
  have ON:Ed (E3 g w (w.alloc (Ec kv 41))):=J<|E3.EC b1
  have l7:=K7.out.lt
  generalize w.alloc (Ec kv 41)=w1 at*
  clear b1
  have KX:Ed (∀y:Ext w1,Ip (EA w1 y) g T):=J fun y=>KT.out.u (EL y)
  have c1: ∀y:Ext w1,(EA w1 y).cell? ⟨g,121,Z⟩=X (E I T.most):=fun y=>(CB.out _ (KX.out y)).2
  refine Zs Ef Ef ?_
  repeat (go_big_quiet_step ((with_reducible first|refine Xp (CO.out _ (KX.out _))|refine Xp (CM.out _ (KX.out _)))))
  refine I2 ?_
  intro _ hw'
  obtain⟨y9,rfl⟩:=hw'
  have En:=EL y9
  replace KT:=J<|KT.out.u En
  replace K7:=J<|K7.out.u En
  replace ON:=J<|ON.out.trans (E3.EC En)
  clear c1 KX CO CM En
  generalize EA w1 y9=w2 at*
  go_wp2_with (first|(with_reducible refine wL OF K7 ?_ (hn:=hks.out))|((with_reducible refine It 39 ?_);refine JO rfl 160 _ rfl si BS.out ?_)|(with_reducible refine wA EOj (Ey.mk ?_)))
  apply Et
  have l2:=K7.out.lt
  have lt2:=H.lt KT.out
  have b3:=Er w2 (Ec UN.v.toArray 160)
  replace KT:=J<|KT.out.u b3
  replace ON:=J<|ON.out.trans (E3.EC b3)
  have K9:=J<|H.new w2 UN.v.toArray 160
  clear b3
  generalize w2.alloc (Ec UN.v.toArray 160)=w3 at*
  generalize w2.heap.size=g9 at*
  go_wp2_with (with_reducible refine wS (cs:=si) tp K9 (Ey.mk ?_) (ho:=Pi.out) (hn:=yq.out) (h1:=S0.out))
  apply Et
  replace KT:=J<|show Ip (w3.setRow g9 si) g T from H.setRow_other KT.out g9 si D
  replace ON:=J<|ON.out.fa (g2:=g9) D (fY (g:=g9) (W:=w3) si) (by have:=ON.out.size;omega)
  replace K9:=J<|K9.out.setRow si
  generalize w3.setRow g9 si=w4 at*
  have c2:w4.cell? ⟨g,120,Z⟩=X (E I T.Iq):=(CB.out _ KT.out).1
  go_wp2_with fail
  rw[DY.out] at K9
  refine(CH.out _ g9 K9.out).mono ?_
  rintro e w5 ⟨rfl,k9,o9⟩
  replace KT:=J<|show Ip w5 g T from o9.El KT.out D
  replace ON:=J<|ON.out.fa (g2:=g9) D o9 (by have:=ON.out.size;omega)
  have OH:Ed (H w5 g9 sv.toArray 160):=J (by rw[qM.out];exact k9)
  clear k9 o9 K9 c2 CH DY
  have ltT:=H.lt KT.out
  go_wp2_with fail
  refine J_ 7 Ef Ef ?_
  simp only[Is,Io,IS,IM]
  repeat (first
   |go_big_quiet_skip
   |(go_big_quiet_want
     first
      |(refine Og (T:=160) (g:=g9) tp _ rfl rfl OH ?_ ?_;(·exact SZ.out);go_simp;go_big_quiet_on)
      |(go_big_quiet_op
        first
         |go_big_quiet_on
         |go_big_quiet_call ((fail)))))
  refine I2 ?_
  intro _ hw'
  obtain⟨y8,rfl⟩:=hw'
  have En:=EL y8
  replace KT:=J<|KT.out.u En
  replace ON:=J<|ON.out.trans (E3.EC En)
  clear En
  generalize EA w5 y8=w6 at*
  have KF:=J<|TP.out w6 KT.out
  replace ON:=J<|ON.out.trans (JG (g:=g) sv o w6)
  replace TH:=J<|TH.out w6 KT.out
  go_wp2_with ((with_reducible refine Jr 160 ?_);(with_reducible refine Um U 160 _ _ U g o sv.toArray ?_ ?_ ?_ ?_ ?_ ?_);(·rfl);(·rfl);(·rw[SZ.out];exact TH.out);(·rw[SZ.out];exact tp.2);(·exact S1.out))
  go_ret
  exact⟨U,KF.out,ON.out⟩
theorem EOq(g i:Nat)(hi:i<3)(T:ET)(role:Int)(key:List Int)(w:M)(K:Ip w g T)(h:T.ok)(hr0:0<=role)(hr1:role<=3)(hk:key.length=32)(hon:(T.E5 i).on=V)(hm:T.most<=T.Iz): Eg Ea 124 #[Y (X ⟨g,0,Z⟩),E I ((i:Int)+1),E I role,EZ (Em key)] w fun e w'=>e=Eh (E I 19)/\Ip w' g T/\E3 g w w':=by
 have d1:decide ((i:Int)+1<1)=V:=Ia D;have d2:decide (3<(i:Int)+1)=V:=Ia D;obtain⟨o,ho⟩:=Eo (so i);have hso:3+i*39=o:=by exact Enn
 have d3:decide (role<0)=V:=Ia D;have d4:decide (4<=role)=V:=Ia D;have hof:T.of g ((i:Int)+1)=Y Z:=by unfold ET.of;rw[if_pos D];rw[show((i:Int)+1-1).toNat=i from D,hon,<-ho];rfl
 have CO:Ed (∀W,Ip W g T->Eg Ea 76 #[Y (X ⟨g,0,Z⟩),E I ((i:Int)+1)] W fun e w'=>e=Eh (Y Z)/\W=w'):=J fun W hW=>Pg;have CM:Ed (∀W,Ip W g T->Eg Ea 170 #[Y (X ⟨g,0,Z⟩)] W fun e w'=>e=Eh (E I T.Iz)/\W=w'):=J fun W hW=>Np g T W hW h;have dm:decide (T.most<=T.Iz)=EI:=IE hm;have TP:=J<|fun W (k:Ip W g T)=>yO k h i (Xk EI (max T.Iq 0) role key) hk;rw[<-ho] at TP;have TH:=J<|fun W (k:Ip W g T)=>(aA k (o:=o) (n:=39) (by rw[qy k h];omega));have CB:=J<|fun W (k:Ip W g T)=>yI k h;have BS:=J<|Pd role key hk;have CH:=J<|fun W (g9:Nat) (k:H W g9 (Xk false 0 role key).v.toArray 160)=>xu g9 0 [] ([E .i64 role]++(key.map (E .u8)++UX Z)) (EU V) (E I 0) (E I 0) 160 T.Iq W k U;have HK:=J hk;have hks:Ed ((Em key).size=32):=J (by rw[Oc,hk]);have SZ:=J<|show(Xk EI (max T.Iq 0) role key).v.toArray.size=39 from JC.ZX hk;have yq:=J<|show(Xk V 0 role key).v.toArray.size=39 from JC.ZX hk;have S1:=J<|qB (Xk EI (max T.Iq 0) role key);have S0:=J<|qB (Xk V 0 role key);have Pi:=J<|show UN.v.toArray.size=39 from JC.ZX U;have KT:=J K;have lg:=H.lt K;clear ho hof hk hon hm K h;obtain⟨kv,hkv⟩:=Eo (Em key);rw[<-hkv] at BS hks⊢;obtain⟨si,hsi⟩:=Eo ((Xk V 0 role key).v.toArray);rw[<-hsi] at BS yq S0;obtain⟨sv,hsv⟩:=Eo ((Xk EI (max T.Iq 0) role key).v);obtain⟨T2,nQ⟩:=Eo (T.put i (Xk EI (max T.Iq 0) role key));rw[<-hsv] at SZ S1;have qM:=J hsv;have DY:=J hsi;clear hkv hsi hsv nQ TP TH;go_enter Tryz.func124,Tryz.ntmps124;go_wp2_with fail;have K7:=J<|H.new w kv 41;have b1:=Er w (Ec kv 41);replace KT:=J<|KT.out.u b1;have ON:Ed (E3 g w (w.alloc (Ec kv 41))):=J<|E3.EC b1;have l7:=K7.out.lt;generalize w.alloc (Ec kv 41)=w1 at*;clear b1;have KX:Ed (∀y:Ext w1,Ip (EA w1 y) g T):=J fun y=>KT.out.u (EL y);have c1: ∀y:Ext w1,(EA w1 y).cell? ⟨g,121,Z⟩=X (E I T.most):=fun y=>(CB.out _ (KX.out y)).2;refine Zs Ef Ef ?_;repeat (go_big_quiet_step ((with_reducible first|refine Xp (CO.out _ (KX.out _))|refine Xp (CM.out _ (KX.out _)))))
 refine I2 ?_;intro _ hw';obtain⟨y9,rfl⟩:=hw';have En:=EL y9;replace KT:=J<|KT.out.u En;replace K7:=J<|K7.out.u En;replace ON:=J<|ON.out.trans (E3.EC En);clear c1 KX CO CM En;generalize EA w1 y9=w2 at*;go_wp2;go_ret;exact⟨U,KT.out,ON.out⟩
theorem EOr(g:Nat)(T:ET)(src role:Int)(key:List Int)(w:M)(K:Ip w g T)(h:T.ok)(hk:key.length=32): Eg Ea 124 #[Y (X ⟨g,0,Z⟩),E I src,E I role,EZ (Em key)] w (qL T g src role key w):=by
 have hbad: ∀(e:Uv) (w':M),¬((src=1\/src=2\/src=3)/\0<=role/\role<=3)->e=Eh (E I 1)/\Ek w w'->qL T g src role key w e w':=by intro e w' hn ⟨he,hb⟩;unfold qL;rw[if_neg hn];exact⟨⟨he,K.u hb⟩,E3.EC hb⟩
 by_cases h1:src<1;·exact(EOm g src role key w h1).mono fun e w' hp=>hbad e w' D hp
 by_cases h2:3<src;·exact(EOn g src role key w h2).mono fun e w' hp=>hbad e w' D hp
 by_cases h3:role<0;·exact(EOo g src role key w D D h3).mono fun e w' hp=>hbad e w' D hp
 by_cases h4:3<role;·exact(EOp g src role key w D D h4).mono fun e w' hp=>hbad e w' D hp
 have hs:src=1\/src=2\/src=3:=D;have hg:(src=1\/src=2\/src=3)/\0<=role/\role<=3:=⟨hs,D,D⟩;unfold qL;simp only[if_pos hg];obtain⟨i,hi,rfl⟩: ∃i:Nat,i<3/\src=(i:Int)+1:=⟨(src-1).toNat,D,D⟩;simp only[show((i:Int)+1-1).toNat=i from D];cases hon:(T.E5 i).on with
 |true=>exact(Pf EI g i hi T role key w K h D D hk hon (fun h=>Uq)).mono fun e w' ⟨a,b,c⟩=>⟨by rw[if_neg (fun h=>by cases h.1)];exact⟨a,b⟩,c⟩
 |false=>
  by_cases hm:T.most<=T.Iz;·exact(EOq g i hi T role key w K h D D hk hon hm).mono fun e w' ⟨a,b,c⟩=>⟨by rw[if_pos ⟨U,hm⟩];exact⟨a,b⟩,c⟩
  ·exact(Pf V g i hi T role key w K h D D hk hon (fun _=>D)).mono fun e w' ⟨a,b,c⟩=>⟨by rw[if_neg (fun h=>hm h.2)];exact⟨a,b⟩,c⟩
theorem Pj(a:Option Ev)(c:Nat)(W:M):(Instr.arrayAt 115 (EJ a 8 c)).run Ea W= .ok (Y a) W:=by simp[Instr.arrayAt,run_underlying Tryz.underlying115]
theorem EOs(l:List Int)(k:Nat):(Em l).extract 0 (0+k)=Em (l.take k):=by simp[Em]
theorem D0(A Y4:Option Ev)(k b:List Int)(n m c d:Nat)(w:M)(hn:k.length=n)(hm:b.length=m)(hk:Row w A k)(hb:Row w Y4 b)(hl:n<=10000000)(hl2:m<=10000000)(hR:JH w): Eg Ea 210 #[EJ A n c,EJ Y4 m d] w fun e w'=>e=Eh (EZ (Em ((Oq k b).take 8)))/\Ek w w':=by have C:=fun(W:M) (hb':Ek w W)=>Pa A Y4 k b n m c d W hn hm (IH hk hb') (IH hb hb') hl hl2 (hR.u hb');have AL:=nN k b;generalize Oq k b=ans at*;have Pk:=J AL;have C2:=J C;have T8:Ed ((ans.take 8).length=8):=J (by rw[ZJ,Pk.out];rfl);have Pm:=Pj;clear C AL hk hb hR hn hm;go_enter Tryz.func210,Tryz.ntmps210;go_wp2_with (with_reducible refine wA qK (Ey.mk ?_));apply Et;have B:=J<|E_ w.heap.size w;have bel:=Er w (Ec (Em (Eu 8)) 115);replace B:=EW B bel;have K4:=J<|H.new w (Em (Eu 8)) 115;clear bel;generalize w.alloc (Ec (Em (Eu 8)) 115)=w1 at*;go_wp2_with fail;refine(C2.out _ B.out).mono ?_;rintro e w2 ⟨rfl,b2⟩;replace K4:=J<|K4.out.u b2;replace B:=EW B b2;have l2:=K4.out.lt;clear b2 C2;go_wp2_with (with_reducible refine wA dl (Ey.mk ?_));apply Et;have bel:=Er w2 (Ec (Em (Eu 32)) 41);replace K4:=J<|K4.out.u bel;replace B:=EW B bel;have K5:=J<|H.new w2 (Em (Eu 32)) 41;clear bel;generalize w2.alloc (Ec (Em (Eu 32)) 41)=w3 at*;generalize w2.heap.size=g5 at*;go_wp2_with (with_reducible refine wS (cs:=Em ans) OF K5 (Ey.mk ?_) (ho:=Xu) (hn:=by with_unfolding_all (rw[Oc,Pk.out])) (h1:=XK _));apply Et;replace K4:=J<|K4.out.setRow_other g5 (Em ans) D;replace K5:=J<|K5.out.setRow (Em ans);replace B:=J<|E6 (g:=g5) B.out D (Em ans);generalize w3.setRow g5 (Em ans)=w4 at*;go_wp2_with (with_reducible first|refine wM (off:=0) (cs:=Em (ans.take 8)) aD K5 ?_ (hn:=D2) (he:=EOs _ _)|refine wS (cs:=Em (ans.take 8)) aD K4 ?_ (ho:=Xu) (hn:=D2) (h1:=XK _));refine EV (v:=EZ (Em (ans.take 8))) (JB aD U _ _ (w.heap.size) _ U (K4.out.setRow _) (by rw[Oc,T8.out])) U ⟨U,E6 B.out D _⟩
theorem Pn(n:Int)(k:Nat)(m:Int)(hk:k<=63)(hm:IntKind.u64.wrap (IntKind.u64.wrap (2^k)-1)=m)(hd:(2:Int)^k∣18446744073709551616):Iu .and .u64 (IntKind.u64.wrap n) m=n%2^k:=by
 have e:IntKind.u64.wrap n=n%18446744073709551616:=by unfold na;rfl
 rw[e,<-hm,NX k hk _ D D];exact Int.emod_emod_of_dvd n hd
theorem EOt(n:Int):Iu .and .u64 (IntKind.u64.wrap n) 255=n%256:=Pn n 8 255 D Eb Eb
theorem EOu(n:Int):Iu .and .u64 (IntKind.u64.wrap n) 4294967295=n%4294967296:=Pn n 32 4294967295 D Eb Eb
theorem tG(g m c:Nat)(cs:Array G)(ps:List (List Int))(w:M)(hm:ps.length=m)(hk:H w g cs 23)(hp:dn w cs ps)(hs:ps.flatten.length<=100000000)(hm2:m<=1000): Eg Ea 172 #[EJ (X ⟨g,0,Z⟩) m c] w fun e w'=>(∃A d,e=Eh (EJ A ps.flatten.length d)/\Own w' w.heap.size A d ps.flatten)/\Ek w w':=by
 have HM:=J hm;have HK:=J hk;have HP:=J hp;have HS:=J hs;clear hm hk hp hs;go_enter Tryz.func172,Tryz.ntmps172;go_wp2_with fail;go_loopw[3,8] (fun x y wr=> ∃(i:Nat) (A:Option Ev) (d n:Nat),i<=m/\y=E I i/\x=EJ A n d/\(ps.take i).flatten.length=n/\Own wr w.heap.size A d (ps.take i).flatten/\Ek w wr) (fun _ y _=>m-(I5 y).toNat);case atStart=>exact⟨0,Z,0,0,D,U,U,U,XY _ _,E_ _ _⟩
 case round=>
  obtain⟨i,A,d,n,hi,rfl,rfl,hn,ho,B⟩:=hrel;by_cases hlt:i<m
  ·have hil:i<ps.length:=DK;obtain⟨Y4,c2,e2,r2⟩:=HP.out.2 i hil;have ck:=(HK.out.u B).cell i;rw[e2] at ck;have hst:(ps.take (i+1)).flatten=(ps.take i).flatten++ps[i]:=N8;have hle:(ps.take (i+1)).flatten.length<=100000000:=by have h1:=HS.out;have h2:ps.flatten=(ps.take (i+1)).flatten++(ps.drop (i+1)).flatten:=N9;rw[h2,I1] at h1;omega
   rw[hst,I1] at hle;exact Eko
  ·exact El4
theorem EOv{n:Nat}(hn:x.length=n)(hx:Row w A x):dn w #[EJ A n c] [x]:=by
 subst hn;refine⟨U,fun i hi=> ?_⟩;match i,hi with
 |0,_=>exact⟨A,c,U,hx⟩
theorem Po{n k e:Nat}(hn:x.length=n)(hm:y.length=m)(hk:z.length=k)(hx:Row w A x)(hy:Row w Y4 y)(hz:Row w C z):dn w #[EJ A n c,EJ Y4 m d,EJ C k e] [x,y,z]:=by
 subst hn hm hk;refine⟨U,fun i hi=> ?_⟩;match i,hi with
 |0,_=>exact⟨A,c,U,hx⟩
 |1,_=>exact⟨Y4,d,U,hy⟩
 |2,_=>exact⟨C,e,U,hz⟩
theorem EOw{Y_:Option Ev}{n k l e f:Nat}{Y3:List Int}(hn:x.length=n)(hm:y.length=m)(hk:z.length=k)(hl:Y3.length=l)(hx:Row w A x)(hy:Row w Y4 y)(hz:Row w C z)(hu:Row w Y_ Y3):dn w #[EJ A n c,EJ Y4 m d,EJ C k e,EJ Y_ l f] [x,y,z,Y3]:=by
 subst hn hm hk hl;refine⟨U,fun i hi=> ?_⟩;match i,hi with
 |0,_=>exact⟨A,c,U,hx⟩
 |1,_=>exact⟨Y4,d,U,hy⟩
 |2,_=>exact⟨C,e,U,hz⟩
 |3,_=>exact⟨Y_,f,U,hu⟩
theorem yr(n:Int)(w:M): Eg Ea 211 #[E I n,E I 1] w fun e w'=>(∃g,e=Eh (EJ (X ⟨g,0,Z⟩) 1 1)/\Row w' (X ⟨g,0,Z⟩) (be (n%256) 1))/\Ek w w':=by have h1:=EOt n;have hp:Eg Ea 111 #[E Il (n%256),E I 1] w fun e w'=>e=Eh (Es #[EJ (X ⟨w.heap.size,0,Z⟩) 1 1,E I 0])/\Row w' (X ⟨w.heap.size,0,Z⟩) (be (n%256) 1)/\Ek w w':=js (n%256) 1 w D D D (by show n%256/256=0;omega);generalize be (n%256) 1=b at*;generalize n%256=m at*;exact Elb
theorem EOx(n:Int)(w:M): Eg Ea 211 #[E I n,E I 4] w fun e w'=>(∃g,e=Eh (EJ (X ⟨g,0,Z⟩) 4 4)/\Row w' (X ⟨g,0,Z⟩) (be (n%4294967296) 4))/\Ek w w':=by have h1:=EOu n;have hp:Eg Ea 111 #[E Il (n%4294967296),E I 4] w fun e w'=>e=Eh (Es #[EJ (X ⟨w.heap.size,0,Z⟩) 4 4,E I 0])/\Row w' (X ⟨w.heap.size,0,Z⟩) (be (n%4294967296) 4)/\Ek w w':=js (n%4294967296) 4 w D D D (by show n%4294967296/4294967296=0;omega);generalize be (n%4294967296) 4=b at*;generalize n%4294967296=m at*;exact Elb
theorem Row.u(h:Row w A xs)(hb:Ek w w'):Row w' A xs:=IH h hb
def Ub(y s r:Int)(nc:List Int):List Int:=[[y],be (s%256) 1,be (r%256) 1,nc].flatten
def co(s q:Int):List Int:=[[78],be (s%256) 1,be (q%4294967296) 4].flatten
def lF(s:Int)(b:List Int):List Int:=[[77],be (s%256) 1,b].flatten
theorem D3(y s r:Int)(nc:List Int)(h:nc.length=8):(Ub y s r nc).length=11:=by simp[Ub,OD,h]
theorem EOy(s q:Int):(co s q).length=6:=by simp[co,OD]
theorem Pp(s:Int)(b:List Int):(lF s b).length=2+b.length:=by simp[lF,OD];omega
theorem D4{y:Int}(h:H w g #[E IT y] T)(hy:0<=y/\y<=255):Row w (X ⟨g,0,Z⟩) [y]:=EOd h U (by intro x hx;simp at hx;subst hx;exact hy)
def yt(y s r:Int)(nc:List Int)(g7:Nat)(i:Nat)(v:G)(w:M):Prop:=match i with
 |0=>v=E IT y
 |1=> ∃g,v=EJ (X ⟨g,0,Z⟩) 1 1/\Row w (X ⟨g,0,Z⟩) [y]
 |2=>v=E I s
 |3=> ∃g,v=EJ (X ⟨g,0,Z⟩) 1 1/\Row w (X ⟨g,0,Z⟩) (be (s%256) 1)
 |4=>v=E I r
 |5=> ∃g,v=EJ (X ⟨g,0,Z⟩) 1 1/\Row w (X ⟨g,0,Z⟩) (be (r%256) 1)
 |6=>v=EJ (X ⟨g7,0,Z⟩) 8 8
 |7=> ∃g cs,v=EJ (X ⟨g,0,Z⟩) 4 4/\H w g cs 23/\dn w cs [[y],be (s%256) 1,be (r%256) 1,nc]
 |_=> ∃A d,v=EJ A 11 d/\Row w A (Ub y s r nc)
theorem EOz(y s r:Int)(nc:List Int)(g7:Nat): ∀i v w w',i<10->yt y s r nc g7 i v w->Jn w w'->yt y s r nc g7 i v w':=by
 intro i v w w' hi h hb;unfold yt at*;split at h;case h_2|h_4|h_6=>obtain⟨g,e,k⟩:=h;exact⟨g,e,k.u hb⟩
 case h_8=> exact EnM
 case h_9=>obtain⟨g,d,e,k⟩:=h;exact⟨g,d,e,k.u hb⟩
 all_goals exact h
theorem Pq(y s r:Int)(nc:List Int)(hl:nc.length=8)(hb: ∀x∈nc,0<=x/\x<=255)(hy:0<=y/\y<=255)(w:M): Eg Ea 214 #[E IT y,E I s,E I r,EZ (Em nc)] w fun e w'=>(∃A d,e=Eh (EJ A 11 d)/\Row w' A (Ub y s r nc))/\Ek w w':=by
 have HL:=J hl;have HB:=J hb;have HY:=J hy;clear hl hb hy;go_enter Tryz.func214,Tryz.ntmps214;go_wp2_with fail;have K7:=J<|H.new w (Em nc) 115;have B:=J<|Er w (Ec (Em nc) 115);generalize w.alloc (Ec (Em nc) 115)=w1 at*;refine aw EK Ef 10 Ef Ej Eb (yt y s r nc w.heap.size) (EOz y s r nc w.heap.size) ?_ ?_
 ·simp only[XH,Is,Io,ED,Ic,Ii,IJ,IU,and_true];refine⟨?_,?_,?_,?_,?_,?_,?_,?_,?_,?_⟩;all_goals intro v w' hb hd
  ·exact EkO
  ·have d0:v 0=E IT y:=hd.at 0 rfl;exact Z6 (v:=EJ (X ⟨w'.heap.size,0,Z⟩) 1 1) (w':=w'.alloc (Ec #[E IT y] 5)) (Ei U) Uc (Er w' _) ⟨_,U,D4 (H.new w' _ _) HY.out⟩
  ·exact EkO
  ·exact Elu
  ·exact EkO
  ·have d4:v 4=E I r:=hd.at 4 rfl;refine Ob (f:=211) (args:= #[v 4,E I 1]) (Ei U) Ew ?_;rw[d4];exact(yr r w').mono fun e w'' ⟨⟨g,he,r⟩,hb'⟩=>⟨_,he,hb',g,U,r⟩
  ·exact EkO
  ·obtain⟨g1,d1,r1⟩: ∃g,v 1=EJ (X ⟨g,0,Z⟩) 1 1/\Row w' (X ⟨g,0,Z⟩) [y]:=hd.at 1 rfl;obtain⟨g3,d3,r3⟩: ∃g,v 3=EJ (X ⟨g,0,Z⟩) 1 1/\Row w' (X ⟨g,0,Z⟩) (be (s%256) 1):=hd.at 3 rfl;obtain⟨g5,d5,r5⟩: ∃g,v 5=EJ (X ⟨g,0,Z⟩) 1 1/\Row w' (X ⟨g,0,Z⟩) (be (r%256) 1):=hd.at 5 rfl;have d6:v 6=EJ (X ⟨w.heap.size,0,Z⟩) 8 8:=hd.at 6 rfl;have b1:=Er w' (Ec #[EJ (X ⟨g1,0,Z⟩) 1 1,EJ (X ⟨g3,0,Z⟩) 1 1,EJ (X ⟨g5,0,Z⟩) 1 1,EJ (X ⟨w.heap.size,0,Z⟩) 8 8] 23);exact Z6 (v:=EJ (X ⟨w'.heap.size,0,Z⟩) 4 4) (w':=w'.alloc (Ec #[EJ (X ⟨g1,0,Z⟩) 1 1,EJ (X ⟨g3,0,Z⟩) 1 1,EJ (X ⟨g5,0,Z⟩) 1 1,EJ (X ⟨w.heap.size,0,Z⟩) 8 8] 23)) (Ei U) (by simp[go_sem,d1,d3,d5,d6]) b1 ⟨_,_,U,H.new _ _ _,EOw U (OD _ _) (OD _ _) HL.out (r1.u b1) (r3.u b1) (r5.u b1) ((fH (K7.out.u hb) HB.out).u b1)⟩
  ·obtain⟨g,cs,d7,k7,p7⟩: ∃g cs,v 7=EJ (X ⟨g,0,Z⟩) 4 4/\H w' g cs 23/\dn w' cs [[y],be (s%256) 1,be (r%256) 1,nc]:=hd.at 7 rfl;refine Ob (f:=172) (args:= #[v 7]) (Ei U) Ew ?_;rw[d7];have hln:[[y],be (s%256) 1,be (r%256) 1,nc].flatten.length=11:=D3 y s r nc HL.out;refine(tG g 4 4 cs _ w' U k7 p7 (by rw[hln];omega) D).mono fun e w'' ⟨⟨A,d,he,o⟩,hb'⟩=>⟨_,he,hb',A,d,by rw[hln],o.row⟩
  ·obtain⟨A,d,d8,r8⟩: ∃A d,v 8=EJ A 11 d/\Row w' A (Ub y s r nc):=hd.at 8 rfl;exact If EK (Ei U) cu ⟨A,d,U,r8⟩
 ·intro v w' hb hr;obtain⟨A,d,d9,r9⟩: ∃A d,v 9=EJ A 11 d/\Row w' A (Ub y s r nc):=hr 9 D;simp only[Is,Io,IS,IM,ED,Ic,Ii,IJ,IU];rw[d9];have b2:=bt B.out hb;clear hr hb d9;go_wp2;go_ret;exact⟨⟨_,_,U,r9⟩,b2⟩
theorem EOA(A:Option Ev)(k:List Int)(n c:Nat)(s q:Int)(w:M)(hn:k.length=n)(hk:Row w A k)(hl:n<=10000000)(hR:JH w): Eg Ea 164 #[EJ A n c,E I s,E I q] w fun e w'=>e=Eh (EZ (Em ((Oq k (co s q)).take 8)))/\Ek w w':=by have HN:=J hn;have HK:=J hk;have RT:=J hR;have B:=J<|E_ w.heap.size w;have NL:=EOy s q;have CT:=fun(Y4:Option Ev) (d:Nat) (W:M) (hb:Row W Y4 (co s q)) (hw:Ek w W)=>D0 A Y4 k (co s q) n 6 c d W hn NL (hk.u hw) hb hl D (hR.u hw);have T8:((Oq k (co s q)).take 8).length=8:=yu;have CJ:=fun(g c:Nat) (Y4 C Y_:Option Ev) (e f h:Nat) (W:M) (hk:H W g #[EJ Y4 1 e,EJ C 1 f,EJ Y_ 4 h] 23) (r1:Row W Y4 [78]) (r2:Row W C (be (s%256) 1)) (r3:Row W Y_ (be (q%4294967296) 4))=> tG g 3 c _ _ W U hk (Po U (OD _ _) (OD _ _) r1 r2 r3) (by show(co s q).length<=_;omega) D;have e1:[[78],be (s%256) 1,be (q%4294967296) 4].flatten=co s q:=rfl;simp only[e1,NL] at CJ;have CA:=fun W=>yr s W;have CB:=fun W=>EOx q W;generalize (Oq k (co s q)).take 8=ans at*;generalize co s q=nb at*;generalize be (s%256) 1=bs at*;generalize be (q%4294967296) 4=bq at*;replace CT:=J CT;replace CJ:=J CJ;replace CA:=J CA;replace CB:=J CB;replace T8:=J T8;clear hn hk hR NL e1;go_enter Tryz.func164,Tryz.ntmps164;go_wp2_with (with_reducible refine wA qK (Ey.mk ?_));apply Et;have bel:=Er w (Ec (Em (Eu 8)) 115);replace B:=EW B bel;have K6:=J<|H.new w (Em (Eu 8)) 115;clear bel;generalize w.alloc (Ec (Em (Eu 8)) 115)=w1 at*;go_wp2_with (go_at_call 211;refine Ey.mk ?_);apply Et;have l6:=K6.out.lt;have bel:=Er w1 (Ec #[E IT 78] 5);replace K6:=J<|K6.out.u bel;replace B:=EW B bel;have K8:=J<|H.new w1 #[E IT 78] 5;clear bel;generalize w1.alloc (Ec #[E IT 78] 5)=w2 at*;generalize w1.heap.size=g8 at*;refine(CA.out _).mono ?_;rintro e w3 ⟨⟨g3,rfl,r3⟩,b3⟩;replace K6:=J<|K6.out.u b3;replace K8:=J<|K8.out.u b3;replace B:=EW B b3;replace r3:=J r3;clear b3;go_wp2_with fail;refine(CB.out _).mono ?_;rintro e w4 ⟨⟨g4,rfl,r4⟩,b4⟩;replace K6:=J<|K6.out.u b4;replace K8:=J<|K8.out.u b4;replace r3:=J<|r3.out.u b4;replace B:=EW B b4;replace r4:=J r4;clear b4;go_wp2_with (go_at_call 172;refine Ey.mk ?_);apply Et;have bel:=Er w4 (Ec #[EJ (X ⟨g8,0,Z⟩) 1 1,EJ (X ⟨g3,0,Z⟩) 1 1,EJ (X ⟨g4,0,Z⟩) 4 4] 23);replace K6:=J<|K6.out.u bel;replace K8:=J<|K8.out.u bel;replace r3:=J<|r3.out.u bel;replace r4:=J<|r4.out.u bel;replace B:=EW B bel;have Zi:=J<|H.new w4 #[EJ (X ⟨g8,0,Z⟩) 1 1,EJ (X ⟨g3,0,Z⟩) 1 1,EJ (X ⟨g4,0,Z⟩) 4 4] 23;clear bel;generalize w4.alloc (Ec #[EJ (X ⟨g8,0,Z⟩) 1 1,EJ (X ⟨g3,0,Z⟩) 1 1,EJ (X ⟨g4,0,Z⟩) 4 4] 23)=w5 at*;generalize w4.heap.size=g13 at*;refine(CJ.out g13 _ _ _ _ _ _ _ _ Zi.out (D4 K8.out D) r3.out r4.out).mono ?_;rintro e w6 ⟨⟨A6,d6,rfl,o6⟩,b6⟩;replace K6:=J<|K6.out.u b6;replace B:=EW B b6;have r6:=J o6.row;clear b6 o6 r3 r4 Zi K8 CJ CA CB;go_wp2_with fail;refine(CT.out _ _ _ r6.out B.out).mono ?_;rintro e w7 ⟨rfl,b7⟩;replace K6:=J<|K6.out.u b7;replace B:=EW B b7;clear b7 r6 CT;go_wp2_with (with_reducible refine wS (cs:=Em ans) aD K6 ?_ (ho:=Xu) (hn:=D2) (h1:=XK _));refine EV (v:=EZ (Em ans)) (JB aD U _ _ (w.heap.size) _ U (K6.out.setRow _) (by rw[Oc,T8.out])) U ⟨U,E6 B.out D _⟩
theorem EOB(A:Option Ev)(k nc:List Int)(n c:Nat)(s r:Int)(w:M)(hn:k.length=n)(hk:Row w A k)(hl:n<=10000000)(hc:nc.length=8)(hb: ∀x∈nc,0<=x/\x<=255)(hR:JH w): Eg Ea 167 #[EJ A n c,E I s,E I r,EZ (Em nc)] w fun e w'=>e=Eh (EZ (Em ((Oq k (Ub 80 s r nc)).take 8)))/\Ek w w':=by have HC:=J hc;have B:=J<|E_ w.heap.size w;have NL:=D3 80 s r nc hc;have CT:=fun(Y4:Option Ev) (d:Nat) (W:M) (hb:Row W Y4 (Ub 80 s r nc)) (hw:Ek w W)=>D0 A Y4 k (Ub 80 s r nc) n 11 c d W hn NL (hk.u hw) hb hl D (hR.u hw);have TL:((Oq k (Ub 80 s r nc)).take 8).length=8:=yu;have CL:=fun W=>Pq 80 s r nc hc hb D W;generalize (Oq k (Ub 80 s r nc)).take 8=ans at*;generalize Ub 80 s r nc=nb at*;replace CT:=J CT;replace CL:=J CL;replace TL:=J TL;clear hn hk hR NL hc hb;go_enter Tryz.func167,Tryz.ntmps167;go_wp2_with (with_reducible refine wA qK (Ey.mk ?_));apply Et;have K7:=J<|(H.new w (Em nc) 115).alloc (Ec (Em (Eu 8)) 115);have K8:=J<|H.new' (w.alloc (Ec (Em nc) 115)) (Em (Eu 8)) 115 (g:=w.heap.size+1) Ej;replace B:=J<|J3 w (Ec (Em nc) 115) (Ec (Em (Eu 8)) 115);generalize (w.alloc (Ec (Em nc) 115)).alloc (Ec (Em (Eu 8)) 115)=w1 at*;go_wp2_with (with_reducible refine wL aD K7 ?_ (hn:=D5));refine(CL.out _).mono ?_;rintro e w2 ⟨⟨A2,d2,rfl,r2⟩,b2⟩;replace K8:=J<|K8.out.u b2;replace B:=EW B b2;replace r2:=J r2;clear b2 CL K7;go_wp2_with fail;refine(CT.out _ _ _ r2.out B.out).mono ?_;rintro e w3 ⟨rfl,b3⟩;replace K8:=J<|K8.out.u b3;replace B:=EW B b3;clear b3 r2 CT;go_wp2_with (with_reducible refine wS (cs:=Em ans) aD K8 ?_ (ho:=Xu) (hn:=D6) (h1:=XK _));refine EV (v:=EZ (Em ans)) (JB aD U _ _ (w.heap.size+1) _ U (K8.out.setRow _) (by rw[Oc,TL.out])) U ⟨U,E6 B.out D _⟩
theorem EOC(A:Option Ev)(k nc:List Int)(n c:Nat)(s r:Int)(w:M)(hn:k.length=n)(hk:Row w A k)(hl:n<=10000000)(hc:nc.length=8)(hb: ∀x∈nc,0<=x/\x<=255)(hR:JH w): Eg Ea 169 #[EJ A n c,E I s,E I r,EZ (Em nc)] w fun e w'=>e=Eh (EZ (Em (Oq k (Ub 75 s r nc))))/\Ek w w':=by
 have HC:=J hc;have B:=J<|E_ w.heap.size w;have NL:=D3 75 s r nc hc;have CT:=fun(Y4:Option Ev) (d:Nat) (W:M) (hb:Row W Y4 (Ub 75 s r nc)) (hw:Ek w W)=>Pa A Y4 k (Ub 75 s r nc) n 11 c d W hn NL (hk.u hw) hb hl D (hR.u hw);have TL:(Oq k (Ub 75 s r nc)).length=32:=by exact nN _ _
 have CL:=fun W=>Pq 75 s r nc hc hb D W;generalize Oq k (Ub 75 s r nc)=ans at*;generalize Ub 75 s r nc=nb at*;replace CT:=J CT;replace CL:=J CL;replace TL:=J TL;clear hn hk hR NL hc hb;go_enter Tryz.func169,Tryz.ntmps169;go_wp2_with (with_reducible refine wA dl (Ey.mk ?_));apply Et;have K7:=J<|(H.new w (Em nc) 115).alloc (Ec (Em (Eu 32)) 41);have K8:=J<|H.new' (w.alloc (Ec (Em nc) 115)) (Em (Eu 32)) 41 (g:=w.heap.size+1) Ej;replace B:=J<|J3 w (Ec (Em nc) 115) (Ec (Em (Eu 32)) 41);generalize (w.alloc (Ec (Em nc) 115)).alloc (Ec (Em (Eu 32)) 41)=w1 at*;go_wp2_with (with_reducible refine wL aD K7 ?_ (hn:=D5));refine(CL.out _).mono ?_;rintro e w2 ⟨⟨A2,d2,rfl,r2⟩,b2⟩;replace K8:=J<|K8.out.u b2;replace B:=EW B b2;replace r2:=J r2;clear b2 CL K7;go_wp2_with fail;refine(CT.out _ _ _ r2.out B.out).mono ?_;rintro e w3 ⟨rfl,b3⟩;replace K8:=J<|K8.out.u b3;replace B:=EW B b3;clear b3 r2 CT;go_wp2_with (with_reducible refine wS (cs:=Em ans) OF K8 ?_ (ho:=Xu) (hn:=D6) (h1:=XK _));refine EV (v:=EZ (Em ans)) (JB OF U _ _ (w.heap.size+1) _ U (K8.out.setRow _) (by rw[Oc,TL.out])) U ⟨U,E6 B.out D _⟩
def dq(key:List Int)(s:Int)(b:List Int):List Int:=(Oq key (lF s b)).take 8
theorem EOD(A:Option Ev)(n c m:Nat)(hm:m<=c)(W:M):(Instr.sliceAt 23 (EJ A n c) Z (X (E I (m:Int))) Z).run Ea W= .ok (EJ A m c) W:=by have h2:(m:Int)<=(c:Int):=D;have h0:(0:Int)<=(m:Int):=D;simp[go_sem,h2,h0]
theorem Pr(o:EG){a:E2}(x y:JN)(ho:o.op= .slice 23 x Z (X y) Z)(A:Option Ev)(n c m:Nat)(hx:a.eval x=EJ A n c)(hy:a.eval y=E I (m:Int))(hm:m<=c): (Ig a.eval o).run Ea w= .ok (.value (EJ A m c)) w:=by have h:=EOD A n c m hm w;unfold Ig;simp only[ho,jb,Option.map_none,hx,hy,Om,h,Oa,On]
theorem Ps(key:List Int)(s:Int)(b:List Int):(dq key s b).length=8:=by unfold dq;rw[ZJ,nN];rfl
theorem EOF(key:List Int)(s:Int)(b:List Int): ∀x∈dq key s b,0<=x/\x<=255:=fun x hx=>yg _ _ x (fC hx)
theorem cB(h:Own w c A cap xs)(hb:b<=c):Own w b A cap xs:=by
 obtain⟨⟨h1,h2⟩,h3⟩:=h;refine⟨⟨h1,?_⟩,h3⟩;rcases h2 with h2|⟨g,cap',cur,hv,hg,hh⟩;·exact .inl h2
 ·exact .inr ⟨g,cap',cur,hv,EB hb hg,hh⟩
def yw(s:Int)(b tg:List Int)(Y4:Option Ev)(m d g3 Y5:Nat)(i:Nat)(v:G)(w:M):Prop:=match i with
 |0=>v=EJ (X ⟨g3,0,Z⟩) 32 32
 |1=> ∃g,v=EJ (X ⟨g,0,Z⟩) 1 1/\Row w (X ⟨g,0,Z⟩) [77]
 |2=>v=E I s
 |3=> ∃g,v=EJ (X ⟨g,0,Z⟩) 1 1/\Row w (X ⟨g,0,Z⟩) (be (s%256) 1)
 |4=>v=EJ Y4 m d
 |5=> ∃g cs,v=EJ (X ⟨g,0,Z⟩) 3 3/\H w g cs 23/\dn w cs [[77],be (s%256) 1,b]
 |6=> ∃A d',v=EJ A (2+m) d'/\Row w A (lF s b)
 |7=>v=EZ (Em tg)
 |_=> ∃g,v=Y (X ⟨g,0,Z⟩)/\Y5<=g/\H w g (Em (Eu 8)) 115
theorem EOG(s:Int)(b tg:List Int)(Y4:Option Ev)(m d g3 Y5:Nat): ∀i v w w',i<9->yw s b tg Y4 m d g3 Y5 i v w->Jn w w'->yw s b tg Y4 m d g3 Y5 i v w':=by
 intro i v w w' hi h hb;unfold yw at*;split at h;case h_2|h_4=>obtain⟨g,e,k⟩:=h;exact⟨g,e,k.u hb⟩
 case h_6=> exact EnM
 case h_7=>obtain⟨g,d,e,k⟩:=h;exact⟨g,d,e,k.u hb⟩
 case h_9=>obtain⟨g,e,l,k⟩:=h;exact⟨g,e,l,k.u hb⟩
 all_goals exact h
theorem EOH(key b:List Int)(Y4:Option Ev)(m d:Nat)(s:Int)(w:M)(hl:key.length=32)(hkb: ∀x∈key,0<=x/\x<=255)(hm:b.length=m)(hr:Row w Y4 b)(hm2:m<=1000000)(hR:JH w): Eg Ea 171 #[EZ (Em key),E I s,EJ Y4 m d] w fun e w'=>(∃A d',e=Eh (EJ A (m+8) d')/\Own w' w.heap.size A d' (b++dq key s b))/\Ek w w':=by
 have HL:=J hl;have nR:=J hkb;have HM:=J hm;have HR:=J hr;have RT:=J hR;have CT:=fun(g:Nat) (Y_:Option Ev) (e:Nat) (W:M) (hk:Row W (X ⟨g,0,Z⟩) key) (hb:Row W Y_ (lF s b)) (hW:JH W)=>D0 (X ⟨g,0,Z⟩) Y_ key (lF s b) 32 (2+m) 32 e W hl (by rw[Pp,hm]) hk hb D D hW;have TL:=Ps key s b;have TB:=EOF key s b;have e0:(Oq key (lF s b)).take 8=dq key s b:=rfl;simp only[e0] at CT;generalize dq key s b=tg at*;replace CT:=J CT;replace TL:=J TL;replace TB:=J TB;clear hl hkb hm hr hR e0;go_enter Tryz.func171,Tryz.ntmps171;go_wp2_with fail;have K3:=J<|H.new w (Em key) 41;have B:=J<|Er w (Ec (Em key) 41);generalize w.alloc (Ec (Em key) 41)=w1 at*;have W1:=B.out.size;refine aw EK Ef 9 Ef Ej Eb (yw s b tg Y4 m d w.heap.size w1.heap.size) (EOG _ _ _ _ _ _ _ _) ?_ ?_
 ·simp only[XH,Is,Io,ED,Ic,Ii,IJ,IU,and_true];refine⟨?_,?_,?_,?_,?_,?_,?_,?_,?_⟩;all_goals intro v w' hb hd
  ·exact EkO
  ·exact Z6 (v:=EJ (X ⟨w'.heap.size,0,Z⟩) 1 1) (w':=w'.alloc (Ec #[E IT 77] 5)) (Ei U) Ew (Er w' _) ⟨_,U,D4 (H.new w' _ _) D⟩
  ·exact EkO
  ·exact Elu
  ·exact EkO
  ·obtain⟨g1,d1,r1⟩: ∃g,v 1=EJ (X ⟨g,0,Z⟩) 1 1/\Row w' (X ⟨g,0,Z⟩) [77]:=hd.at 1 rfl;obtain⟨g3,d3,r3⟩: ∃g,v 3=EJ (X ⟨g,0,Z⟩) 1 1/\Row w' (X ⟨g,0,Z⟩) (be (s%256) 1):=hd.at 3 rfl;have d4:v 4=EJ Y4 m d:=hd.at 4 rfl;have b1:=Er w' (Ec #[EJ (X ⟨g1,0,Z⟩) 1 1,EJ (X ⟨g3,0,Z⟩) 1 1,EJ Y4 m d] 23);exact Z6 (v:=EJ (X ⟨w'.heap.size,0,Z⟩) 3 3) (w':=w'.alloc (Ec #[EJ (X ⟨g1,0,Z⟩) 1 1,EJ (X ⟨g3,0,Z⟩) 1 1,EJ Y4 m d] 23)) (Ei U) (by simp[go_sem,d1,d3,d4]) b1 ⟨_,_,U,H.new _ _ _,Po U (OD _ _) HM.out (r1.u b1) (r3.u b1) ((HR.out.u (bt B.out hb)).u b1)⟩
  ·obtain⟨g,cs,d5,k5,p5⟩: ∃g cs,v 5=EJ (X ⟨g,0,Z⟩) 3 3/\H w' g cs 23/\dn w' cs [[77],be (s%256) 1,b]:=hd.at 5 rfl;refine Ob (f:=172) (args:= #[v 5]) (Ei U) Ew ?_;rw[d5];have hln:[[77],be (s%256) 1,b].flatten.length=2+m:=by rw[<-HM.out];exact Pp s b
   refine(tG g 3 3 cs _ w' U k5 p5 (by rw[hln];omega) D).mono fun e w'' ⟨⟨A,d,he,o⟩,hb'⟩=>⟨_,he,hb',A,d,by rw[hln],o.row⟩
  ·have d0:v 0=EJ (X ⟨w.heap.size,0,Z⟩) 32 32:=hd.at 0 rfl;obtain⟨A,d',d6,r6⟩: ∃A d',v 6=EJ A (2+m) d'/\Row w' A (lF s b):=hd.at 6 rfl;refine Ob (f:=210) (args:= #[v 0,v 6]) (Ei U) Ew ?_;rw[d0,d6];exact(CT.out w.heap.size A d' w' (fH (K3.out.u hb) nR.out) r6 (RT.out.u (bt B.out hb))).mono fun e w'' ⟨he,hb'⟩=>⟨_,he,hb',U⟩
  ·exact Z6 (Ei U) (qK _ _ _ U) (Er w' _) ⟨_,U,UQ hb,H.new _ _ _⟩
 ·intro v w' hb hr;obtain⟨g7,d8,hg7,K7⟩: ∃g,v 8=Y (X ⟨g,0,Z⟩)/\w1.heap.size<=g/\H w' g (Em (Eu 8)) 115:=hr 8 D;have d7:v 7=EZ (Em tg):=hr 7 D;simp only[Is,Io,IS,IM,ED,Ic,Ii,IJ,IU];rw[d8,d7];replace B:=EW B hb;replace K7:=J K7;clear hr hb d8 d7 K3 CT;go_wp2_with (with_reducible refine wS (cs:=Em tg) aD K7 (Ey.mk ?_) (ho:=Xu) (hn:=D6) (h1:=XK _));apply Et;replace K7:=J<|K7.out.setRow (Em tg);replace B:=J<|E6 (g:=g7) B.out D (Em tg);generalize w'.setRow g7 (Em tg)=w2 at*;go_wp2_with (go_at_call 172;refine Ey.mk ?_);apply Et;have rb:=HR.out.u B.out;have rt:=fH K7.out TB.out;have b1:=Er w2 (Ec #[EJ Y4 m d,EJ (X ⟨g7,0,Z⟩) 8 8] 23);have hln:[b,tg].flatten=b++tg:=Ej;have D7:(b++tg).length=m+8:=by rw[I1,HM.out,TL.out]
  have CJ:=tG w2.heap.size 2 2 #[EJ Y4 m d,EJ (X ⟨g7,0,Z⟩) 8 8] [b,tg] (w2.alloc (Ec #[EJ Y4 m d,EJ (X ⟨g7,0,Z⟩) 8 8] 23)) U (H.new _ _ _) (N7 HM.out TL.out (rb.u b1) (rt.u b1)) (by rw[hln,D7];omega) D;rw[hln,D7] at CJ;replace B:=EW B b1;replace CJ:=J CJ;clear rb rt b1 hln D7 K7;have l2:=B.out.size;refine CJ.out.mono ?_;rintro e w3 ⟨⟨A3,d3,rfl,o3⟩,b3⟩;replace B:=EW B b3;replace o3:=J<|cB o3 (show w.heap.size<=_ from D);clear b3 CJ;go_wp2;go_ret;exact⟨⟨_,_,U,o3.out⟩,B.out⟩
theorem EOK(key:List Int)(A:Option Ev)(n c:Nat)(s:Int)(w:M)(hn:n<8): Eg Ea 125 #[EZ (Em key),E I s,EJ A n c] w fun e w'=>e=Eh (Es #[EJ Z 0 0,E I 14])/\Ek w w':=by have t1:decide ((n:Int)-8<0)=EI:=IE D;go_enter Tryz.func125,Tryz.ntmps125;go_wp2_with fail;have B:=J<|Er w (Ec (Em key) 41);generalize w.alloc (Ec (Em key) 41)=w1 at*;go_quiet (fail);go_wp2;go_ret2;exact⟨U,iO B.out _⟩
def yA(key:List Int)(s:Int)(tg:List Int)(same:Bool)(A:Option Ev)(m c:Nat)(bd:List Int)(i:Nat)(v:G)(w:M):Prop:=match i with
 |0=>v=E I (m:Int)
 |1=>v=EU V
 |2=>v=EU V
 |3=>v=EJ A (m+8) c
 |4=>v=EZ (Em key)
 |5=>v=E I s
 |6=>v=EJ A (m+8) c
 |7=>v=E I (m:Int)
 |8=>v=EJ A m c
 |9=> ∃A' d',v=EJ A' (m+8) d'/\Row w A' (bd++tg)
 |10=>v=EU same
 |_=>v=EU (!same)
theorem EOL(key:List Int)(s:Int)(tg:List Int)(same:Bool)(A:Option Ev)(m c:Nat)(bd:List Int): ∀i v w w',i<13->yA key s tg same A m c bd i v w->Jn w w'->yA key s tg same A m c bd i v w':=by
 intro i v w w' hi h hb;unfold yA at*;split at h;case h_10=>obtain⟨g,d,e,k⟩:=h;exact⟨g,d,e,k.u hb⟩
 all_goals exact h
def EOM(b:Bool)(p q:Prop):Prop:=match b with
 |true=>p
 |false=>q
theorem Pu(tb:Bool)(key xs:List Int)(A:Option Ev)(m c:Nat)(s:Int)(w:M)(hl:key.length=32)(hkb: ∀x∈key,0<=x/\x<=255)(hm:xs.length=m+8)(hr:Row w A xs)(hm2:m<=1000000)(hc:m+8<=c)(hR:JH w)(hx:tb=EI↔xs=xs.take m++dq key s (xs.take m)): Eg Ea 125 #[EZ (Em key),E I s,EJ A (m+8) c] w fun e w'=>EOM tb ((∃A' d',e=Eh (Es #[EJ A' m d',E I 0])/\Own w' w.heap.size A' d' (xs.take m))/\Ek w w') (e=Eh (Es #[EJ Z 0 0,E I 14])/\Ek w w'):=by
 have HL:=J hl;have nR:=J hkb;have HM:=J hm;have HR:=J hr;have RT:=J hR;have BL:(xs.take m).length=m:=ng;have RB:=fun(W:M) (hb:Ek w W)=>qI (hr.u hb) m;have TL:=Ps key s (xs.take m);have CC:=fun(W:M) (hb:Ek w W)=>EOH key (xs.take m) A m c s W hl hkb BL (RB W hb) hm2 (hR.u hb)
 have SM:decide (xs=xs.take m++dq key s (xs.take m))=tb:=by
  cases tb with
  |true=>exact IE (hx.1 rfl)
  |false=>exact Ia (fun h=>by cases hx.2 h)
 clear hx;generalize dq key s (xs.take m)=tg at*;generalize xs.take m=bd at*;have D8:(bd++tg).length=m+8:=by rw[I1,BL,TL]
 replace CC:=J CC;replace BL:=J BL;replace TL:=J TL;replace D8:=J D8;replace RB:=J RB;replace SM:=J SM;clear hl hkb hm hr hR;have i0:IntKind.i64.wrap (m:Int)=m:=IntWalk.i64_in _ D;have t0:decide ((m:Int)<0)=V:=Ia D;go_enter Tryz.func125,Tryz.ntmps125;go_wp2_with fail;have K3:=J<|H.new w (Em key) 41;have B:=J<|Er w (Ec (Em key) 41);generalize w.alloc (Ec (Em key) 41)=w1 at*;refine aw EK Ef 13 Ef Ej Eb (yA key s tg tb A m c bd) (EOL _ _ _ _ _ _ _ _) ?_ ?_
 ·simp only[XH,Is,Io,ED,Ic,Ii,IJ,IU,and_true];refine⟨?_,?_,?_,?_,?_,?_,?_,?_,?_,?_,?_,?_,?_⟩;all_goals intro v w' hb hd
  ·exact EkO
  ·have d0:v 0=E I (m:Int):=hd.at 0 rfl;exact If EK (Ei U) (by simp[go_sem,d0,t0]) U
  ·have d1:v 1=EU V:=hd.at 1 rfl;exact If EK (Ei U) Xl U
  ·exact Elj
  ·have g2:v 2=EU V:=hd.at 2 rfl;exact Cz EK (g:=w.heap.size) OF (iU U U (congrArg X g2)) ⟨U,Ew⟩ (K3.out.u hb) (by rw[Oc,HL.out]) U
  ·exact Elj
  ·exact Elj
  ·exact Elj
  ·have g2:v 2=EU V:=hd.at 2 rfl;have d6:v 6=EJ A (m+8) c:=hd.at 6 rfl;have d7:v 7=E I (m:Int):=hd.at 7 rfl;exact If EK (iU U U (congrArg X g2)) (Pr _ (.tmp 18) (.tmp 19) U A (m+8) c m nS f_ D) U
  ·have g2:v 2=EU V:=hd.at 2 rfl;have d4:v 4=EZ (Em key):=hd.at 4 rfl;have d5:v 5=E I s:=hd.at 5 rfl;have d8:v 8=EJ A m c:=hd.at 8 rfl;refine Ob (f:=171) (args:= #[v 4,v 5,v 8]) (iU U U (congrArg X g2)) Ew ?_;rw[d4,d5,d8];exact(CC.out w' (bt B.out hb)).mono fun e w'' ⟨⟨A',d',he,o⟩,hb'⟩=>⟨_,he,hb',A',d',U,o.row⟩
  ·have g2:v 2=EU V:=hd.at 2 rfl;have d3:v 3=EJ A (m+8) c:=hd.at 3 rfl;obtain⟨A',d',d9,r9⟩: ∃A' d',v 9=EJ A' (m+8) d'/\Row w' A' (bd++tg):=hd.at 9 rfl;refine Ob (f:=168) (args:= #[v 3,v 9]) (iU U U (congrArg X g2)) Ew ?_;rw[d3,d9];refine(PU A A' xs (bd++tg) (m+8) (m+8) c d' w' HM.out D8.out (HR.out.u (bt B.out hb)) r9 D D).mono fun e w'' ⟨he,hw⟩=>⟨_,he,by subst hw;exact E_ _ _,?_⟩;rw[SM.out];rfl
  ·have g2:v 2=EU V:=hd.at 2 rfl;have d10:v 10=EU tb:=hd.at 10 rfl;exact If EK (iU U U (congrArg X g2)) aG U
  ·have d2:v 2=EU V:=hd.at 2 rfl;have d11:v 11=EU (!tb):=hd.at 11 rfl;exact If EK (Ei U) (by simp[go_sem,d2,d11]) U
 ·intro v w' hb hr;have d12:v 12=EU (!tb):=hr 12 D;simp only[Is,Io,IS,IM,ED,Ic,Ii,IJ,IU];rw[d12];replace B:=EW B hb;clear hr hb d12 K3 CC;cases tb;·skip;go_wp2;go_ret2;exact⟨U,B.out⟩
  ·skip;go_wp2_with (first|((with_reducible refine It 27 ?_);(with_reducible refine Jq (Ei rfl) (Pr _ (.tmp 25) (.tmp 26) rfl A (m+8) c m rfl rfl D) ?_))|(go_at_call 172;refine Ey.mk ?_));apply Et;have b1:=Er w' (Ec #[EJ A m c] 23);have hln:[bd].flatten=bd:=Ej;have CJ:=tG w'.heap.size 1 1 #[EJ A m c] [bd] (w'.alloc (Ec #[EJ A m c] 23)) U (H.new _ _ _) (EOv BL.out ((RB.out w' B.out).u b1)) (by rw[hln,BL.out];omega) D;rw[hln,BL.out] at CJ;have l1:=B.out.size;have l2:=b1.size;replace B:=EW B b1;replace CJ:=J CJ;clear b1 hln;refine CJ.out.mono ?_;rintro e w3 ⟨⟨A3,d3,rfl,o3⟩,b3⟩;replace B:=EW B b3;replace o3:=J<|cB o3 (show w.heap.size<=_ from D);clear b3 CJ;go_wp2;go_ret2;exact⟨⟨_,_,U,o3.out⟩,B.out⟩
theorem EON(key xs:List Int)(A:Option Ev)(m c:Nat)(s:Int)(w:M)(hl:key.length=32)(hkb: ∀x∈key,0<=x/\x<=255)(hm:xs.length=m+8)(hr:Row w A xs)(hm2:m<=1000000)(hc:m+8<=c)(hR:JH w)(hx:xs≠xs.take m++dq key s (xs.take m)): Eg Ea 125 #[EZ (Em key),E I s,EJ A (m+8) c] w fun e w'=>e=Eh (Es #[EJ Z 0 0,E I 14])/\Ek w w':=
 Pu V key xs A m c s w hl hkb hm hr hm2 hc hR ⟨fun h=>Uq,fun h=>absurd h hx⟩
theorem EOP(key xs:List Int)(A:Option Ev)(m c:Nat)(s:Int)(w:M)(hl:key.length=32)(hkb: ∀x∈key,0<=x/\x<=255)(hm:xs.length=m+8)(hr:Row w A xs)(hm2:m<=1000000)(hc:m+8<=c)(hR:JH w)(hx:xs=xs.take m++dq key s (xs.take m)): Eg Ea 125 #[EZ (Em key),E I s,EJ A (m+8) c] w fun e w'=>(∃A' d',e=Eh (Es #[EJ A' m d',E I 0])/\Own w' w.heap.size A' d' (xs.take m))/\Ek w w':=
 Pu EI key xs A m c s w hl hkb hm hr hm2 hc hR ⟨fun _=>hx,fun _=>rfl⟩
def Sets(w:M)(S:Nat)(gp:G)(n:Int)(Q:M->M->Prop):Prop:=ic S/\ ∀W,Ek w W->Eg Ea S #[E I n,gp] W fun e w'=>e=Eh (Es #[])/\Q W w'
theorem Sets.call{S:Nat}{gp:G}{n:Int}{Q:M->M->Prop}(h:Sets w S gp n Q)(W:M)(hW:Ek w W):Eg Ea S #[E I n,gp] W fun e w'=>e=Eh (Es #[])/\Q W w':=h.2 W hW
theorem EOQ(sz lo hi:Int)(Y5 S:Nat)(gp:G)(xs:List Int)(Y4:Option Ev)(c:Nat)(v:Int)(Q:M->M->Prop)(w:M)(hr:Row w Y4 xs)(hl:xs.length=2)(hv:sig xs=v)(hn:lo<0)(h1:lo<=v)(h2:v<=hi)(hs:Sets w S gp v Q): Eg Ea 209 #[EZ #[E I sz,E I lo,E I hi,.func (.func Y5) #[] #[gp],.func (.func S) #[] #[gp]],EJ Y4 2 c] w fun e w'=>e=Eh (EU EI)/\ ∃W,Ek w W/\Q W w':=by have HS:=J hs;have HE: ∀(args:Array G) (w:M),(Ji S args).run Ea w= .ok (.enter S args) w:=hs.1;clear hs;have HL:=J hl;have HV:=J hv;have hd0:decide (lo<0)=EI:=IE hn;have hd1:decide (v<lo)=V:=Ia D;have hd2:decide (hi<v)=V:=Ia D;have CT:=J<|fun W (h:Row W Y4 xs)=>EIu Y4 xs c W h hl;rw[hv] at CT;clear hl hv;exact EkU
theorem EOR(sz lo hi:Int)(Y5 S:Nat)(gp:G)(xs:List Int)(Y4:Option Ev)(k c:Nat)(v:Int)(Q:M->M->Prop)(w:M)(hr:Row w Y4 xs)(hl:xs.length=k)(hk:k<=8)(hv:num xs=v)(hn:0<=lo)(h1:lo<=v)(h2:v<=hi)(h63:hi<=9223372036854775807)(hs:Sets w S gp v Q): Eg Ea 209 #[EZ #[E I sz,E I lo,E I hi,.func (.func Y5) #[] #[gp],.func (.func S) #[] #[gp]],EJ Y4 k c] w fun e w'=>e=Eh (EU EI)/\ ∃W,Ek w W/\Q W w':=by have HS:=J hs;have HE: ∀(args:Array G) (w:M),(Ji S args).run Ea w= .ok (.enter S args) w:=hs.1;clear hs;have HL:=J hl;have hd0:decide (lo<0)=V:=Ia D;have CT:=J<|fun W (h:Row W Y4 xs)=>Dq (w:=W) k c hl h hk;rw[hv] at CT;clear hl hv;have hd1:decide (v<lo)=V:=Ia D;have hd2:decide (hi<v)=V:=Ia D;have v0:0<=v:=D;have v9:v<=9223372036854775807:=D;exact EkU
theorem EOS(sz lo hi:Int)(Y5 S:Nat)(gp:G)(xs:List Int)(Y4:Option Ev)(k c:Nat)(v:Int)(w:M)(hr:Row w Y4 xs)(hl:xs.length=k)(hk:k<=8)(hv:num xs=v)(hn:0<=lo)(v0:0<=v)(v9:v<=9223372036854775807)(h1:v<lo): Eg Ea 209 #[EZ #[E I sz,E I lo,E I hi,.func (.func Y5) #[] #[gp],.func (.func S) #[] #[gp]],EJ Y4 k c] w fun e w'=>e=Eh (EU V)/\Ek w w':=by have HL:=J hl;have hd0:decide (lo<0)=V:=Ia D;have CT:=J<|fun W (h:Row W Y4 xs)=>Dq (w:=W) k c hl h hk;rw[hv] at CT;clear hl hv;have hd1:decide (v<lo)=EI:=IE h1;exact Ekn
theorem EOT(sz lo hi:Int)(Y5 S:Nat)(gp:G)(xs:List Int)(Y4:Option Ev)(k c:Nat)(v:Int)(w:M)(hr:Row w Y4 xs)(hl:xs.length=k)(hk:k<=8)(hv:num xs=v)(hn:0<=lo)(v0:0<=v)(v9:v<=9223372036854775807)(h1:lo<=v)(h2:hi<v): Eg Ea 209 #[EZ #[E I sz,E I lo,E I hi,.func (.func Y5) #[] #[gp],.func (.func S) #[] #[gp]],EJ Y4 k c] w fun e w'=>e=Eh (EU V)/\Ek w w':=by have HL:=J hl;have hd0:decide (lo<0)=V:=Ia D;have CT:=J<|fun W (h:Row W Y4 xs)=>Dq (w:=W) k c hl h hk;rw[hv] at CT;clear hl hv;have hd1:decide (v<lo)=V:=Ia D;have hd2:decide (hi<v)=EI:=IE h2;exact Ekn
theorem EOV(gm o:Nat)(w:M): Eg Ea 204 #[Y (X ⟨gm,o,Z⟩)] w fun e w'=> ∃v,e=Eh v/\FV w' w.heap.size gm ⟨1,1,0,1,o⟩ v/\Ek w w':=by have BF:Tryz.prog.built 298 [(0,E I 1),(2,E I 1),(3,.func (.func 234) #[] #[Y (X ⟨w.heap.size,0,Z⟩)]),(4,.func (.func 235) #[] #[Y (X ⟨w.heap.size,0,Z⟩)])]=X (ID ⟨1,1,0,1,o⟩ w.heap.size):=Du ⟨1,1,0,1,o⟩ w.heap.size U;have O1:=J<|fT ⟨1,1,0,1,o⟩ w.heap.size;have Ut:Ed ((ID ⟨1,1,0,1,o⟩ w.heap.size).size=5):=J U;generalize XP:ID ⟨1,1,0,1,o⟩ w.heap.size=fv at*;replace BF:=J BF;have HB:Ed (∀W:M,H W w.heap.size #[Y (X ⟨gm,o,Z⟩)] 302->FV W w.heap.size gm ⟨1,1,0,1,o⟩ (EZ fv)):=J fun W h=>⟨w.heap.size,by rw[XP],E9 _,h⟩;clear XP;go_enter Tryz.func204,Tryz.ntmps204;go_wp2_with (with_reducible refine wA fE (Ey.mk ?_));apply Et;have K4:=J<|(H.new w #[Y (X ⟨gm,o,Z⟩)] 302).alloc (Ec Ju 298);have K8:=J<|H.new' (w.alloc (Ec #[Y (X ⟨gm,o,Z⟩)] 302)) Ju 298 (g:=w.heap.size+1) Ej;have B:=J<|J3 w (Ec #[Y (X ⟨gm,o,Z⟩)] 302) (Ec Ju 298);generalize (w.alloc (Ec #[Y (X ⟨gm,o,Z⟩)] 302)).alloc (Ec Ju 298)=w1 at*;exact EkZ
theorem D9(gm o:Nat)(w:M): Eg Ea 202 #[Y (X ⟨gm,o,Z⟩)] w fun e w'=> ∃v,e=Eh v/\FV w' w.heap.size gm ⟨0,1,0,3,o⟩ v/\Ek w w':=by have CN: ∀W:M,Eg Ea 207 #[Y (X ⟨gm,o,Z⟩),E I 1,E I 0,E I 3] W fun e w'=> ∃v,e=Eh v/\FV w' W.heap.size gm ⟨0,1,0,3,o⟩ v/\Ek W w':=fun W=>nF ⟨0,1,0,3,o⟩ U gm W;generalize hd:(⟨0,1,0,3,o⟩:FD)=d at*;replace CN:=J CN;clear hd;go_enter Tryz.func202,Tryz.ntmps202;exact EjT
theorem gE(gm o:Nat)(w:M): Eg Ea 203 #[Y (X ⟨gm,o,Z⟩)] w fun e w'=> ∃v,e=Eh v/\FV w' w.heap.size gm ⟨0,4,0,4294967295,o⟩ v/\Ek w w':=by have CN: ∀W:M,Eg Ea 207 #[Y (X ⟨gm,o,Z⟩),E I 4,E I 0,E I 4294967295] W fun e w'=> ∃v,e=Eh v/\FV w' W.heap.size gm ⟨0,4,0,4294967295,o⟩ v/\Ek W w':=fun W=>nF ⟨0,4,0,4294967295,o⟩ U gm W;generalize hd:(⟨0,4,0,4294967295,o⟩:FD)=d at*;replace CN:=J CN;clear hd;go_enter Tryz.func203,Tryz.ntmps203;exact EjT
theorem tH(gm o:Nat)(w:M): Eg Ea 205 #[Y (X ⟨gm,o,Z⟩)] w fun e w'=> ∃v,e=Eh v/\FV w' w.heap.size gm ⟨0,1,0,4,o⟩ v/\Ek w w':=by have CN: ∀W:M,Eg Ea 207 #[Y (X ⟨gm,o,Z⟩),E I 1,E I 0,E I 4] W fun e w'=> ∃v,e=Eh v/\FV w' W.heap.size gm ⟨0,1,0,4,o⟩ v/\Ek W w':=fun W=>nF ⟨0,1,0,4,o⟩ U gm W;generalize hd:(⟨0,1,0,4,o⟩:FD)=d at*;replace CN:=J CN;clear hd;go_enter Tryz.func205,Tryz.ntmps205;exact EjT
theorem nT(gm o:Nat)(w:M): Eg Ea 206 #[Y (X ⟨gm,o,Z⟩)] w fun e w'=> ∃v,e=Eh v/\FV w' w.heap.size gm ⟨0,2,0,65535,o⟩ v/\Ek w w':=by have CN: ∀W:M,Eg Ea 207 #[Y (X ⟨gm,o,Z⟩),E I 2,E I 0,E I 65535] W fun e w'=> ∃v,e=Eh v/\FV w' W.heap.size gm ⟨0,2,0,65535,o⟩ v/\Ek W w':=fun W=>nF ⟨0,2,0,65535,o⟩ U gm W;generalize hd:(⟨0,2,0,65535,o⟩:FD)=d at*;replace CN:=J CN;clear hd;go_enter Tryz.func206,Tryz.ntmps206;exact EjT
theorem yB(gm o:Nat)(w:M): Eg Ea 208 #[Y (X ⟨gm,o,Z⟩)] w fun e w'=> ∃v,e=Eh v/\FV w' w.heap.size gm ⟨0,2,(-32768),32767,o⟩ v/\Ek w w':=by have CN: ∀W:M,Eg Ea 207 #[Y (X ⟨gm,o,Z⟩),E I 2,E I (-32768),E I 32767] W fun e w'=> ∃v,e=Eh v/\FV w' W.heap.size gm ⟨0,2,(-32768),32767,o⟩ v/\Ek W w':=fun W=>nF ⟨0,2,(-32768),32767,o⟩ U gm W;generalize hd:(⟨0,2,(-32768),32767,o⟩:FD)=d at*;replace CN:=J CN;clear hd;go_enter Tryz.func208,Tryz.ntmps208;exact EjT
def EY:List (FD×Nat)->List G
 |[]=>[]
 |p::ps=>(ID p.1 p.2).toList++EY ps
theorem tK(fs:List (FD×Nat)):(EY fs).length=fs.length*5:=by
 induction fs with
 |nil=>rfl
 |cons r rs ih=>rw[EY,I1,ih,Zw];show 5+_=_;omega
theorem Pv(xs ys:List (FD×Nat)):EY (xs++ys)=EY xs++EY ys:=by
 induction xs with
 |nil=>rfl
 |cons r rs ih=>rw[lI,EY,ih,EY,UY]
theorem Pw: ∀(rs:List (FD×Nat)) (i:Nat) (hi:i<rs.length) (k:Nat),k<5->(EY rs)[i*5+k]?=(ID rs[i].1 rs[i].2)[k]?
 |r::rs,0,_,k,hk=>by rw[EY,Nat.zero_mul,J9,bO (by show _<5;exact hk),Array.getElem?_toList];rfl
 |r::rs,i+1,hi,k,hk=>by rw[EY,ay (by show 5<=_;omega),show(ID r.1 r.2).toList.length=5 from rfl,show(i+1)*5+k-5=i*5+k from D,Pw rs i XO k hk];rfl
theorem Px(fs:List (FD×Nat)): ∀Y3∈EY fs,Y3.oneCell'=EI:=by
 induction fs with
 |nil=>intro Y3 hu;cases hu
 |cons r rs ih=>
  intro Y3 hu;rcases Xt.1 hu with h|h;·simp only[ID,OY,Uu,or_false] at h;rcases h with rfl|rfl|rfl|rfl|rfl<;>rfl
  ·exact ih Y3 h
def Jv(w:M)(base gm:Nat)(fs:List (FD×Nat)):Prop:= ∀i (h:i<fs.length),base<=fs[i].2/\X2 w fs[i].1 gm fs[i].2
theorem Jv.u(h:Jv w base gm fs)(hb:Ek w w'):Jv w' base gm fs:=fun i hi=>⟨(h i hi).1,(h i hi).2.u hb⟩
def Xa(w:M)(base gl gm:Nat)(fs:List (FD×Nat)):Prop:=base<=gl/\(∀j Y3,(EY fs)[j]?=X Y3->w.cell? ⟨gl,j,Z⟩=X Y3)/\Jv w base gm fs
theorem Xa.u(h:Xa w base gl gm fs)(hb:Ek w w'):Xa w' base gl gm fs:=
 ⟨h.1,fun j Y3 hu=>by rw[hb.cell (UV _ _ (h.2.1 j Y3 hu))];exact h.2.1 j Y3 hu,h.2.2.u hb⟩
theorem Xa.keep(h:Xa w base gl gm fs)(hg:gm<base)(hk: ∀k,k≠gm->w'.heap[k]?=w.heap[k]?):Xa w' base gl gm fs:=
 ⟨h.1,fun j Y3 hu=>by rw[World.cell?_of_block (w:=w) (hk gl (by have:=h.1;omega))];exact h.2.1 j Y3 hu,fun i hi=>⟨(h.2.2 i hi).1,(hk _ (by have:=(h.2.2 i hi).1;omega)).trans (h.2.2 i hi).2⟩⟩
theorem Xa.cells(h:Xa w base gl gm fs)(i:Nat)(hi:i<fs.length)(j:Nat)(hj:j<5):w.cell? ⟨gl,i*5+j,Z⟩=(ID fs[i].1 fs[i].2)[j]?:=by have h1:=Pw fs i hi j hj;have h2:(ID fs[i].1 fs[i].2)[j]?=X ((ID fs[i].1 fs[i].2)[j]'(by show _<5;exact hj)):=ji _;rw[h2];exact h.2.1 _ _ (h1.trans h2)
theorem aE(hk:H w gl (EY fs).toArray T)(hb:Jv w base gm fs)(hg:base<=gl):Xa w base gl gm fs:=
 ⟨hg,fun j Y3 hu=>by rw[hk.cell j,J0];exact hu,hb⟩
def U2:FD:=⟨0,1,0,3,2⟩
def Ij:FD:=⟨0,4,0,4294967295,1⟩
def cC:FD:=⟨1,1,0,1,7⟩
def Jf:FD:=⟨0,1,0,4,3⟩
def IP:FD:=⟨0,2,0,65535,4⟩
def bA:FD:=⟨0,1,0,4,5⟩
def cD:FD:=⟨0,1,1,3,6⟩
def Jy(i:Nat):FD:=⟨0,2,-32768,32767,8+i⟩
def aI(k:Int):Option (List FD):=
 if k=1\/k=2 then X [U2] else if k=3\/k=4\/k=8\/k=9 then X [Ij] else if k=5 then X [Ij,cC] else if k=6 then X [Ij,Jf]
 else if k=7 then X [Ij,IP] else if k=10 then X [Ij,IP,bA] else if k=11 then X [Ij,IP,cD,Jy 0,Jy 1,Jy 2,Jy 3] else Z
def X3(w:M)(gm:Nat)(ds:List FD)(e:Uv)(w':M):Prop:=
 ∃(gl cp:Nat) (fs:List (FD×Nat)),e=Eh (Es #[EJ (X ⟨gl,0,Z⟩) ds.length cp,EU EI])/\fs.map (·.1)=ds/\Xa w' w.heap.size gl gm fs/\Ek w w'
theorem EOW(gm:Nat)(l:List Int)(w:M)(hm:H w gm (EH l) 183)(hk:l.getD 0 0=1): Eg Ea 160 #[Y (X ⟨gm,0,Z⟩)] w (X3 w gm [U2]):=by exact Ekd
theorem EOY(gm:Nat)(l:List Int)(w:M)(hm:H w gm (EH l) 183)(hk:l.getD 0 0=2): Eg Ea 160 #[Y (X ⟨gm,0,Z⟩)] w (X3 w gm [U2]):=by exact Ekd
theorem EO0(gm:Nat)(l:List Int)(w:M)(hm:H w gm (EH l) 183)(hk:l.getD 0 0=3): Eg Ea 160 #[Y (X ⟨gm,0,Z⟩)] w (X3 w gm [Ij]):=by exact En9
theorem EO1(gm:Nat)(l:List Int)(w:M)(hm:H w gm (EH l) 183)(hk:l.getD 0 0=4): Eg Ea 160 #[Y (X ⟨gm,0,Z⟩)] w (X3 w gm [Ij]):=by exact En9
theorem EO2(gm:Nat)(l:List Int)(w:M)(hm:H w gm (EH l) 183)(hk:l.getD 0 0=8): Eg Ea 160 #[Y (X ⟨gm,0,Z⟩)] w (X3 w gm [Ij]):=by exact En9
theorem EO3(gm:Nat)(l:List Int)(w:M)(hm:H w gm (EH l) 183)(hk:l.getD 0 0=9): Eg Ea 160 #[Y (X ⟨gm,0,Z⟩)] w (X3 w gm [Ij]):=by exact En9
theorem yC(d:FD):d.box≠298:=by
 unfold FD.box;repeat' split
 all_goals decide
theorem Py:(Tryz.prog.info? 298).map (fun i=>(i.zero,i.size,i.bytes))=X (X (EZ Ju),5,40):=Ef
theorem D_(g j:Nat):(⟨g,0,Z⟩:Ev).add j=⟨g,j,Z⟩:=Xo
def lG(w:M)(base gl gm cap:Nat)(fs:List (FD×Nat)):Prop:=base<=gl/\w.ownsRow base 298 5 (EJ (X ⟨gl,0,Z⟩) fs.length cap) fs.length (EY fs)/\Jv w base gm fs
theorem lG.FE(h:lG w base gl gm cap fs):Xa w base gl gm fs:=
 ⟨h.1,fun j Y3 hu=>by have:=h.2.1.cells (g:=gl) U j Y3 hu;rwa [D_] at this,h.2.2⟩
theorem lG.u(h:lG w base gl gm cap fs)(hb:Ek w w'):lG w' base gl gm cap fs:=
 ⟨h.1,lx (tZ (b0:=0) (T:=298) (N:=0) (ys:=[]) hb) h.2.1 fun j _ hj hlt=>absurd hj Pz,h.2.2.u hb⟩
theorem EO4{n:Nat}(hk:H w gl (EY fs).toArray 298)(hb:Jv w base gm fs)(hg:base<=gl)(hn:n=fs.length)(hs:n<=1000):lG w base gl gm n fs:=
 ⟨hg,⟨tK fs,.inr ⟨gl,n,_,U,hg,hk,D,Oy,by rw[List.size_toArray,tK,hn],by rw[List.toList_toArray,OV (by rw[tK];omega)]⟩⟩,hb⟩
theorem yD(w:M)(base gl gm cap:Nat)(fs:List (FD×Nat))(n:Nat)(hn:fs.length=n)(h:lG w base gl gm cap fs)(d:FD)(gb g1 c1:Nat)(hgb:base<=gb)(hbx:X2 w d gm gb)(hk:H w g1 (EY [(d,gb)]).toArray 298)(hs:n<=1000)(hbase:base<=w.heap.size)(ty:Ez): ∃PA cap' w',(bX #[254,254] ty #[EJ (X ⟨gl,0,Z⟩) n cap,EJ (X ⟨g1,0,Z⟩) 1 c1]).run Ea w= .ok (EJ (X ⟨PA,0,Z⟩) (n+1) cap') w'/\lG w' base PA gm cap' (fs++[(d,gb)])/\Ir base w w':=by
 subst hn;obtain⟨i0,hi,hz0,hz1,hz2⟩:=bZ Py
 obtain⟨A',cap',w',hrun,h2,h3,h4,-⟩:=cU (P:=Ea) w base base 254 ty 298 i0 _ 5 40 Tryz.underlying254 hi hz0 hz1 hz2 U (X ⟨gl,0,Z⟩) cap fs.length _ h.2.1 ⟨g1,0,Z⟩ 1 c1 (EY [(d,gb)]) (tK _)
  (fun j Y3 hu=>PB) (Px _) (fun h=>Uq) Oy D hbase (E9 _)
 rw[<-Pv] at h2;rcases h2.2 with⟨hv,h1⟩|⟨g,cp,cur,hv,hbg,-⟩;·omega
 ·injection hv with e1 e2 e3;subst e1;refine⟨g,cap',w',hrun,⟨hbg,PD,fun i hi=> ?_⟩,h3.2.1 hbase⟩;rcases JW i fs.length with hlt|hge;·rw[List.getElem_append_left hlt];exact⟨(h.2.2 i hlt).1,XN h3 (h.2.2 i hlt).2 (yC _)⟩
  ·exact ElM
def yF(base gm:Nat)(i:Nat)(v:G)(w:M):Prop:=match i with
 |0=>v=Y (X ⟨gm,0,Z⟩)
 |1=>v=Y (X ⟨gm,0,Z⟩)
 |2=>v=Y (X ⟨gm,1,Z⟩)
 |3=>FV w base gm Ij v
 |4=>v=Y (X ⟨gm,0,Z⟩)
 |5=>v=Y (X ⟨gm,0,Z⟩)
 |6=>v=Y (X ⟨gm,7,Z⟩)
 |7=>FV w base gm cC v
 |8=> ∃(gl:Nat) (fs:List (FD×Nat)),v=EJ (X ⟨gl,0,Z⟩) 2 2/\fs.map (·.1)=[Ij,cC]/\base<=gl/\Jv w base gm fs/\H w gl (EY fs).toArray 298
 |9=> ∃(gl:Nat) (fs:List (FD×Nat)),v=EJ (X ⟨gl,0,Z⟩) 2 2/\fs.map (·.1)=[Ij,cC]/\base<=gl/\Jv w base gm fs/\H w gl (EY fs).toArray 298
 |_=>v=EU EI
theorem EO5(base gm:Nat): ∀i v w w',i<11->yF base gm i v w->Jn w w'->yF base gm i v w':=by
 intro i v w w' hi h hb;unfold yF at*;split at h;case h_4|h_8=>exact h.u hb
 case h_9|h_10=> exact Ekb
 all_goals exact h
theorem EO6(gm:Nat)(l:List Int)(w:M)(hm:H w gm (EH l) 183)(hk:l.getD 0 0=5): Eg Ea 160 #[Y (X ⟨gm,0,Z⟩)] w (X3 w gm [Ij,cC]):=by
 have c0:=hm.cell 0;rw[Zd _ _ D,if_neg D,hk] at c0;have B:=J<|E_ w.heap.size w;clear hm hk;go_enter gI,gJ;go_wp2_with fail;clear c0;refine aw EK Ef 11 Ef Ej Eb (yF w.heap.size gm) (EO5 _ _) ?_ ?_
 ·simp only[XH,Is,Io,ED,Ic,Ii,IJ,IU,and_true];refine⟨?_,?_,?_,?_,?_,?_,?_,?_,?_,?_,?_⟩;all_goals intro v w' hb hd
  ·exact EkO
  ·exact Ekm
  ·exact Ekl
  ·exact Ej6
  ·exact EkO
  ·exact Ekk
  ·exact Ekj
  ·have d6:v 6=Y (X ⟨gm,7,Z⟩):=hd.at 6 rfl;refine Ob (f:=204) (args:= #[v 6]) (Ei U) Ew ?_;rw[d6];exact(EOV gm 7 w').mono fun e w'' ⟨v,he,⟨gb,e2,lb,kb⟩,hb'⟩=>⟨v,he,hb',gb,e2,EB (EB B.out.size hb.size) lb,kb⟩
  ·obtain⟨g0,d3,l0,k0⟩:FV w' w.heap.size gm Ij (v 3):=hd.at 3 rfl;obtain⟨g1,d7,l1,k1⟩:FV w' w.heap.size gm cC (v 7):=hd.at 7 rfl;refine Z6 (w':=w'.alloc (Ec (EY [(Ij,g0),(cC,g1)]).toArray 298)) (v:=EJ (X ⟨w'.heap.size,0,Z⟩) 2 2) (Ei U) nV (Er w' _) ⟨w'.heap.size,[(Ij,g0),(cC,g1)],U,U,EB B.out.size hb.size,fun i hi=> ?_,H.new _ _ _⟩;match i,hi with
   |0,_=>exact⟨l0,H.alloc k0 _⟩
   |1,_=>exact⟨l1,H.alloc k1 _⟩
  ·obtain⟨gl,fs,e,m,lg,bx,kk⟩: ∃(gl:Nat) (fs:List (FD×Nat)),v 8=EJ (X ⟨gl,0,Z⟩) 2 2/\fs.map (·.1)=[Ij,cC]/\w.heap.size<=gl/\Jv w' w.heap.size gm fs/\H w' gl (EY fs).toArray 298:=hd.at 8 rfl;exact EkD
  ·exact EkO
 ·intro v w' hb hr;obtain⟨gl,fs,e,m,lg,bx,kk⟩: ∃(gl:Nat) (fs:List (FD×Nat)),v 9=EJ (X ⟨gl,0,Z⟩) 2 2/\fs.map (·.1)=[Ij,cC]/\w.heap.size<=gl/\Jv w' w.heap.size gm fs/\H w' gl (EY fs).toArray 298:=hr 9 D;exact EoU
def yG(base gm:Nat)(i:Nat)(v:G)(w:M):Prop:=match i with
 |0=>v=Y (X ⟨gm,0,Z⟩)
 |1=>v=Y (X ⟨gm,0,Z⟩)
 |2=>v=Y (X ⟨gm,1,Z⟩)
 |3=>FV w base gm Ij v
 |4=>v=Y (X ⟨gm,0,Z⟩)
 |5=>v=Y (X ⟨gm,0,Z⟩)
 |6=>v=Y (X ⟨gm,3,Z⟩)
 |7=>FV w base gm Jf v
 |8=> ∃(gl:Nat) (fs:List (FD×Nat)),v=EJ (X ⟨gl,0,Z⟩) 2 2/\fs.map (·.1)=[Ij,Jf]/\base<=gl/\Jv w base gm fs/\H w gl (EY fs).toArray 298
 |9=> ∃(gl:Nat) (fs:List (FD×Nat)),v=EJ (X ⟨gl,0,Z⟩) 2 2/\fs.map (·.1)=[Ij,Jf]/\base<=gl/\Jv w base gm fs/\H w gl (EY fs).toArray 298
 |_=>v=EU EI
theorem EO7(base gm:Nat): ∀i v w w',i<11->yG base gm i v w->Jn w w'->yG base gm i v w':=by
 intro i v w w' hi h hb;unfold yG at*;split at h;case h_4|h_8=>exact h.u hb
 case h_9|h_10=> exact Ekb
 all_goals exact h
theorem EO8(gm:Nat)(l:List Int)(w:M)(hm:H w gm (EH l) 183)(hk:l.getD 0 0=6): Eg Ea 160 #[Y (X ⟨gm,0,Z⟩)] w (X3 w gm [Ij,Jf]):=by
 have c0:=hm.cell 0;rw[Zd _ _ D,if_neg D,hk] at c0;have B:=J<|E_ w.heap.size w;clear hm hk;go_enter gI,gJ;go_wp2_with fail;clear c0;refine aw EK Ef 11 Ef Ej Eb (yG w.heap.size gm) (EO7 _ _) ?_ ?_
 ·simp only[XH,Is,Io,ED,Ic,Ii,IJ,IU,and_true];refine⟨?_,?_,?_,?_,?_,?_,?_,?_,?_,?_,?_⟩;all_goals intro v w' hb hd
  ·exact EkO
  ·exact Ekm
  ·exact Ekl
  ·exact Ej6
  ·exact EkO
  ·exact Ekk
  ·exact Ekj
  ·exact Eog
  ·obtain⟨g0,d3,l0,k0⟩:FV w' w.heap.size gm Ij (v 3):=hd.at 3 rfl;obtain⟨g1,d7,l1,k1⟩:FV w' w.heap.size gm Jf (v 7):=hd.at 7 rfl;refine Z6 (w':=w'.alloc (Ec (EY [(Ij,g0),(Jf,g1)]).toArray 298)) (v:=EJ (X ⟨w'.heap.size,0,Z⟩) 2 2) (Ei U) nV (Er w' _) ⟨w'.heap.size,[(Ij,g0),(Jf,g1)],U,U,EB B.out.size hb.size,fun i hi=> ?_,H.new _ _ _⟩;match i,hi with
   |0,_=>exact⟨l0,H.alloc k0 _⟩
   |1,_=>exact⟨l1,H.alloc k1 _⟩
  ·obtain⟨gl,fs,e,m,lg,bx,kk⟩: ∃(gl:Nat) (fs:List (FD×Nat)),v 8=EJ (X ⟨gl,0,Z⟩) 2 2/\fs.map (·.1)=[Ij,Jf]/\w.heap.size<=gl/\Jv w' w.heap.size gm fs/\H w' gl (EY fs).toArray 298:=hd.at 8 rfl;exact EkD
  ·exact EkO
 ·intro v w' hb hr;obtain⟨gl,fs,e,m,lg,bx,kk⟩: ∃(gl:Nat) (fs:List (FD×Nat)),v 9=EJ (X ⟨gl,0,Z⟩) 2 2/\fs.map (·.1)=[Ij,Jf]/\w.heap.size<=gl/\Jv w' w.heap.size gm fs/\H w' gl (EY fs).toArray 298:=hr 9 D;exact EoU
def yH(base gm:Nat)(i:Nat)(v:G)(w:M):Prop:=match i with
 |0=>v=Y (X ⟨gm,0,Z⟩)
 |1=>v=Y (X ⟨gm,0,Z⟩)
 |2=>v=Y (X ⟨gm,1,Z⟩)
 |3=>FV w base gm Ij v
 |4=>v=Y (X ⟨gm,0,Z⟩)
 |5=>v=Y (X ⟨gm,0,Z⟩)
 |6=>v=Y (X ⟨gm,4,Z⟩)
 |7=>FV w base gm IP v
 |8=> ∃(gl:Nat) (fs:List (FD×Nat)),v=EJ (X ⟨gl,0,Z⟩) 2 2/\fs.map (·.1)=[Ij,IP]/\base<=gl/\Jv w base gm fs/\H w gl (EY fs).toArray 298
 |9=> ∃(gl:Nat) (fs:List (FD×Nat)),v=EJ (X ⟨gl,0,Z⟩) 2 2/\fs.map (·.1)=[Ij,IP]/\base<=gl/\Jv w base gm fs/\H w gl (EY fs).toArray 298
 |_=>v=EU EI
theorem EO9(base gm:Nat): ∀i v w w',i<11->yH base gm i v w->Jn w w'->yH base gm i v w':=by
 intro i v w w' hi h hb;unfold yH at*;split at h;case h_4|h_8=>exact h.u hb
 case h_9|h_10=> exact Ekb
 all_goals exact h
theorem EO_(gm:Nat)(l:List Int)(w:M)(hm:H w gm (EH l) 183)(hk:l.getD 0 0=7): Eg Ea 160 #[Y (X ⟨gm,0,Z⟩)] w (X3 w gm [Ij,IP]):=by
 have c0:=hm.cell 0;rw[Zd _ _ D,if_neg D,hk] at c0;have B:=J<|E_ w.heap.size w;clear hm hk;go_enter gI,gJ;go_wp2_with fail;clear c0;refine aw EK Ef 11 Ef Ej Eb (yH w.heap.size gm) (EO9 _ _) ?_ ?_
 ·simp only[XH,Is,Io,ED,Ic,Ii,IJ,IU,and_true];refine⟨?_,?_,?_,?_,?_,?_,?_,?_,?_,?_,?_⟩;all_goals intro v w' hb hd
  ·exact EkO
  ·exact Ekm
  ·exact Ekl
  ·exact Ej6
  ·exact EkO
  ·exact Ekk
  ·exact Ekj
  ·exact Ej9
  ·obtain⟨g0,d3,l0,k0⟩:FV w' w.heap.size gm Ij (v 3):=hd.at 3 rfl;obtain⟨g1,d7,l1,k1⟩:FV w' w.heap.size gm IP (v 7):=hd.at 7 rfl;refine Z6 (w':=w'.alloc (Ec (EY [(Ij,g0),(IP,g1)]).toArray 298)) (v:=EJ (X ⟨w'.heap.size,0,Z⟩) 2 2) (Ei U) nV (Er w' _) ⟨w'.heap.size,[(Ij,g0),(IP,g1)],U,U,EB B.out.size hb.size,fun i hi=> ?_,H.new _ _ _⟩;match i,hi with
   |0,_=>exact⟨l0,H.alloc k0 _⟩
   |1,_=>exact⟨l1,H.alloc k1 _⟩
  ·obtain⟨gl,fs,e,m,lg,bx,kk⟩: ∃(gl:Nat) (fs:List (FD×Nat)),v 8=EJ (X ⟨gl,0,Z⟩) 2 2/\fs.map (·.1)=[Ij,IP]/\w.heap.size<=gl/\Jv w' w.heap.size gm fs/\H w' gl (EY fs).toArray 298:=hd.at 8 rfl;exact EkD
  ·exact EkO
 ·intro v w' hb hr;obtain⟨gl,fs,e,m,lg,bx,kk⟩: ∃(gl:Nat) (fs:List (FD×Nat)),v 9=EJ (X ⟨gl,0,Z⟩) 2 2/\fs.map (·.1)=[Ij,IP]/\w.heap.size<=gl/\Jv w' w.heap.size gm fs/\H w' gl (EY fs).toArray 298:=hr 9 D;exact EoU
def yK(base gm:Nat)(i:Nat)(v:G)(w:M):Prop:=match i with
 |0=>v=Y (X ⟨gm,0,Z⟩)
 |1=>v=Y (X ⟨gm,0,Z⟩)
 |2=>v=Y (X ⟨gm,1,Z⟩)
 |3=>FV w base gm Ij v
 |4=>v=Y (X ⟨gm,0,Z⟩)
 |5=>v=Y (X ⟨gm,0,Z⟩)
 |6=>v=Y (X ⟨gm,4,Z⟩)
 |7=>FV w base gm IP v
 |8=>v=Y (X ⟨gm,0,Z⟩)
 |9=>v=Y (X ⟨gm,0,Z⟩)
 |10=>v=Y (X ⟨gm,5,Z⟩)
 |11=>FV w base gm bA v
 |12=> ∃(gl:Nat) (fs:List (FD×Nat)),v=EJ (X ⟨gl,0,Z⟩) 3 3/\fs.map (·.1)=[Ij,IP,bA]/\base<=gl/\Jv w base gm fs/\H w gl (EY fs).toArray 298
 |13=> ∃(gl:Nat) (fs:List (FD×Nat)),v=EJ (X ⟨gl,0,Z⟩) 3 3/\fs.map (·.1)=[Ij,IP,bA]/\base<=gl/\Jv w base gm fs/\H w gl (EY fs).toArray 298
 |_=>v=EU EI
theorem EUE(base gm:Nat): ∀i v w w',i<15->yK base gm i v w->Jn w w'->yK base gm i v w':=by
 intro i v w w' hi h hb;unfold yK at*;split at h;case h_4|h_8|h_12=>exact h.u hb
 case h_13|h_14=> exact Ekb
 all_goals exact h
theorem EUI(gm:Nat)(l:List Int)(w:M)(hm:H w gm (EH l) 183)(hk:l.getD 0 0=10): Eg Ea 160 #[Y (X ⟨gm,0,Z⟩)] w (X3 w gm [Ij,IP,bA]):=by
 have c0:=hm.cell 0;rw[Zd _ _ D,if_neg D,hk] at c0;have B:=J<|E_ w.heap.size w;clear hm hk;go_enter gI,gJ;go_wp2_with fail;clear c0;refine aw EK Ef 15 Ef Ej Eb (yK w.heap.size gm) (EUE _ _) ?_ ?_
 ·simp only[XH,Is,Io,ED,Ic,Ii,IJ,IU,and_true];refine⟨?_,?_,?_,?_,?_,?_,?_,?_,?_,?_,?_,?_,?_,?_,?_⟩;all_goals intro v w' hb hd
  ·exact EkO
  ·exact Ekm
  ·exact Ekl
  ·exact Ej6
  ·exact EkO
  ·exact Ekk
  ·exact Ekj
  ·exact Ej9
  ·exact EkO
  ·exact EmJ
  ·exact EmI
  ·have d10:v 10=Y (X ⟨gm,5,Z⟩):=hd.at 10 rfl;refine Ob (f:=207) (args:= #[v 10,E I 1,E I 0,E I 4]) (Ei U) Ew ?_;rw[d10];exact(nF bA U gm w').mono fun e w'' ⟨v,he,⟨gb,e2,lb,kb⟩,hb'⟩=>⟨v,he,hb',gb,e2,EB (EB B.out.size hb.size) lb,kb⟩
  ·obtain⟨g0,d3,l0,k0⟩:FV w' w.heap.size gm Ij (v 3):=hd.at 3 rfl;obtain⟨g1,d7,l1,k1⟩:FV w' w.heap.size gm IP (v 7):=hd.at 7 rfl;obtain⟨g2,d11,l2,k2⟩:FV w' w.heap.size gm bA (v 11):=hd.at 11 rfl;refine Z6 (w':=w'.alloc (Ec (EY [(Ij,g0),(IP,g1),(bA,g2)]).toArray 298)) (v:=EJ (X ⟨w'.heap.size,0,Z⟩) 3 3) (Ei U) FI (Er w' _) ⟨w'.heap.size,[(Ij,g0),(IP,g1),(bA,g2)],U,U,EB B.out.size hb.size,fun i hi=> ?_,H.new _ _ _⟩;match i,hi with
   |0,_=>exact⟨l0,H.alloc k0 _⟩
   |1,_=>exact⟨l1,H.alloc k1 _⟩
   |2,_=>exact⟨l2,H.alloc k2 _⟩
  ·obtain⟨gl,fs,e,m,lg,bx,kk⟩: ∃(gl:Nat) (fs:List (FD×Nat)),v 12=EJ (X ⟨gl,0,Z⟩) 3 3/\fs.map (·.1)=[Ij,IP,bA]/\w.heap.size<=gl/\Jv w' w.heap.size gm fs/\H w' gl (EY fs).toArray 298:=hd.at 12 rfl;exact EkD
  ·exact EkO
 ·intro v w' hb hr;obtain⟨gl,fs,e,m,lg,bx,kk⟩: ∃(gl:Nat) (fs:List (FD×Nat)),v 13=EJ (X ⟨gl,0,Z⟩) 3 3/\fs.map (·.1)=[Ij,IP,bA]/\w.heap.size<=gl/\Jv w' w.heap.size gm fs/\H w' gl (EY fs).toArray 298:=hr 13 D;have dt:v 14=EU EI:=hr 14 D;exact Ej1
def yL(base gm:Nat)(i:Nat)(v:G)(w:M):Prop:=match i with
 |0=>v=Y (X ⟨gm,0,Z⟩)
 |1=>v=Y (X ⟨gm,0,Z⟩)
 |2=>v=Y (X ⟨gm,1,Z⟩)
 |3=>FV w base gm Ij v
 |4=>v=Y (X ⟨gm,0,Z⟩)
 |5=>v=Y (X ⟨gm,0,Z⟩)
 |6=>v=Y (X ⟨gm,4,Z⟩)
 |7=>FV w base gm IP v
 |8=>v=Y (X ⟨gm,0,Z⟩)
 |9=>v=Y (X ⟨gm,0,Z⟩)
 |10=>v=Y (X ⟨gm,6,Z⟩)
 |11=>FV w base gm cD v
 |_=> ∃(gl:Nat) (fs:List (FD×Nat)),v=EJ (X ⟨gl,0,Z⟩) 3 3/\fs.map (·.1)=[Ij,IP,cD]/\base<=gl/\Jv w base gm fs/\H w gl (EY fs).toArray 298
theorem EUJ(base gm:Nat): ∀i v w w',i<14->yL base gm i v w->Jn w w'->yL base gm i v w':=by
 intro i v w w' hi h hb;unfold yL at*;split at h;case h_4|h_8|h_12=>exact h.u hb
 case h_13=> exact Ekb
 all_goals exact h
theorem EUO(gm:Nat)(l:List Int)(w:M)(hm:H w gm (EH l) 183)(hk:l.getD 0 0=11): Eg Ea 160 #[Y (X ⟨gm,0,Z⟩)] w (X3 w gm [Ij,IP,cD,Jy 0,Jy 1,Jy 2,Jy 3]):=by
 have c0:=hm.cell 0;rw[Zd _ _ D,if_neg D,hk] at c0;have B:=J<|E_ w.heap.size w;clear hm hk;go_enter gI,gJ;go_wp2_with fail;clear c0;refine aw EK Ef 14 Ef Ej Eb (yL w.heap.size gm) (EUJ _ _) ?_ ?_
 ·simp only[XH,Is,Io,ED,Ic,Ii,IJ,IU,and_true];refine⟨?_,?_,?_,?_,?_,?_,?_,?_,?_,?_,?_,?_,?_,?_⟩;all_goals intro v w' hb hd
  ·exact EkO
  ·exact Ekm
  ·exact Ekl
  ·exact Ej6
  ·exact EkO
  ·exact Ekk
  ·exact Ekj
  ·exact Ej9
  ·exact EkO
  ·exact EmJ
  ·exact EmI
  ·have d10:v 10=Y (X ⟨gm,6,Z⟩):=hd.at 10 rfl;refine Ob (f:=207) (args:= #[v 10,E I 1,E I 1,E I 3]) (Ei U) Ew ?_;rw[d10];exact(nF cD U gm w').mono fun e w'' ⟨v,he,⟨gb,e2,lb,kb⟩,hb'⟩=>⟨v,he,hb',gb,e2,EB (EB B.out.size hb.size) lb,kb⟩
  ·obtain⟨g0,d3,l0,k0⟩:FV w' w.heap.size gm Ij (v 3):=hd.at 3 rfl;obtain⟨g1,d7,l1,k1⟩:FV w' w.heap.size gm IP (v 7):=hd.at 7 rfl;obtain⟨g2,d11,l2,k2⟩:FV w' w.heap.size gm cD (v 11):=hd.at 11 rfl;refine Z6 (w':=w'.alloc (Ec (EY [(Ij,g0),(IP,g1),(cD,g2)]).toArray 298)) (v:=EJ (X ⟨w'.heap.size,0,Z⟩) 3 3) (Ei U) FI (Er w' _) ⟨w'.heap.size,[(Ij,g0),(IP,g1),(cD,g2)],U,U,EB B.out.size hb.size,fun i hi=> ?_,H.new _ _ _⟩;match i,hi with
   |0,_=>exact⟨l0,H.alloc k0 _⟩
   |1,_=>exact⟨l1,H.alloc k1 _⟩
   |2,_=>exact⟨l2,H.alloc k2 _⟩
  ·obtain⟨gl,fs,e,m,lg,bx,kk⟩: ∃(gl:Nat) (fs:List (FD×Nat)),v 12=EJ (X ⟨gl,0,Z⟩) 3 3/\fs.map (·.1)=[Ij,IP,cD]/\w.heap.size<=gl/\Jv w' w.heap.size gm fs/\H w' gl (EY fs).toArray 298:=hd.at 12 rfl;exact EkD
 ·intro v w' hb hr;obtain⟨gl,fs,e,m,lg,bx,kk⟩: ∃(gl:Nat) (fs:List (FD×Nat)),v 13=EJ (X ⟨gl,0,Z⟩) 3 3/\fs.map (·.1)=[Ij,IP,cD]/\w.heap.size<=gl/\Jv w' w.heap.size gm fs/\H w' gl (EY fs).toArray 298:=hr 13 D;simp only[Is,Io,IS,IM,ED,Ic,Ii,IJ,IU];rw[e];have ln:fs.length=3:=by have:=congrArg List.length m;simpa using this
  have K0:=J<|EO4 kk bx lg ln.symm D;have FB:=EW B hb;replace m:=J m;clear hr hb e kk bx;go_wp2_with fail;refine OJ 5 ?_;rw[Ib];go_wp2_with fail;refine(yB gm 8 _).mono ?_;rintro e x0 ⟨v0,rfl,⟨bB,rfl,lb0,tL⟩,b0⟩;have FJ:=FB.out.size;replace K0:=J<|(K0.out.u b0).u (Er x0 (Ec (EY [(Jy 0,bB)]).toArray 298));have HA:=J<|H.new x0 (EY [(Jy 0,bB)]).toArray 298;have HB0:=J<|H.alloc tL (Ec (EY [(Jy 0,bB)]).toArray 298);replace FB:=J<|bt (bt FB.out b0) (Er x0 (Ec (EY [(Jy 0,bB)]).toArray 298));clear b0 tL;unfold ID;go_wp2_with (with_reducible refine JU 102 ?_);apply Et;change Ih _ _ _ _ _ (x0.alloc (Ec (EY [(Jy 0,bB)]).toArray 298));have hz0:w.heap.size<=(x0.alloc (Ec (EY [(Jy 0,bB)]).toArray 298)).heap.size:=FB.out.size;obtain⟨gl0,cp0,y0,hrun,k,b⟩:=yD _ w.heap.size _ gm _ _ 3 (by simp[ln]) K0.out (Jy 0) bB x0.heap.size 1 D HB0.out HA.out D hz0 254;(with_reducible refine Jq ?_ (UU (s:= .tmp 94) (y:= .tmp 101) ?_ ?_ ?_ hrun) ?_);·exact Ei U
  ·rfl
  ·rfl
  ·rfl
  have K1:=J k;replace FB:=J<|FB.out.trans b;clear k b hrun HA HB0 K0 hz0 FJ;go_wp2_with fail;rw[Ib];go_wp2_with fail;refine(yB gm 9 _).mono ?_;rintro e x1 ⟨v1,rfl,⟨bC,rfl,lb1,tM⟩,b1⟩;have FU:=FB.out.size;replace K1:=J<|(K1.out.u b1).u (Er x1 (Ec (EY [(Jy 1,bC)]).toArray 298));have HA:=J<|H.new x1 (EY [(Jy 1,bC)]).toArray 298;have HB1:=J<|H.alloc tM (Ec (EY [(Jy 1,bC)]).toArray 298);replace FB:=J<|bt (bt FB.out b1) (Er x1 (Ec (EY [(Jy 1,bC)]).toArray 298));clear b1 tM;unfold ID;go_wp2_with (with_reducible refine JU 102 ?_);apply Et;change Ih _ _ _ _ _ (x1.alloc (Ec (EY [(Jy 1,bC)]).toArray 298));have hz1:w.heap.size<=(x1.alloc (Ec (EY [(Jy 1,bC)]).toArray 298)).heap.size:=FB.out.size;obtain⟨gl1,cp1,y1,hrun,k,b⟩:=yD _ w.heap.size _ gm _ _ 4 (by simp[ln]) K1.out (Jy 1) bC x1.heap.size 1 D HB1.out HA.out D hz1 254;(with_reducible refine Jq ?_ (UU (s:= .tmp 94) (y:= .tmp 101) ?_ ?_ ?_ hrun) ?_);·exact Ei U
  ·rfl
  ·rfl
  ·rfl
  have K2:=J k;replace FB:=J<|FB.out.trans b;clear k b hrun HA HB1 K1 hz1 FU;go_wp2_with fail;rw[Ib];go_wp2_with fail;refine(yB gm 10 _).mono ?_;rintro e x2 ⟨v2,rfl,⟨bD,rfl,lb2,lH⟩,b2⟩;have FX:=FB.out.size;replace K2:=J<|(K2.out.u b2).u (Er x2 (Ec (EY [(Jy 2,bD)]).toArray 298));have HA:=J<|H.new x2 (EY [(Jy 2,bD)]).toArray 298;have HB2:=J<|H.alloc lH (Ec (EY [(Jy 2,bD)]).toArray 298);replace FB:=J<|bt (bt FB.out b2) (Er x2 (Ec (EY [(Jy 2,bD)]).toArray 298));clear b2 lH;unfold ID;go_wp2_with (with_reducible refine JU 102 ?_);apply Et;change Ih _ _ _ _ _ (x2.alloc (Ec (EY [(Jy 2,bD)]).toArray 298));have hz2:w.heap.size<=(x2.alloc (Ec (EY [(Jy 2,bD)]).toArray 298)).heap.size:=FB.out.size;obtain⟨gl2,cp2,y2,hrun,k,b⟩:=yD _ w.heap.size _ gm _ _ 5 (by simp[ln]) K2.out (Jy 2) bD x2.heap.size 1 D HB2.out HA.out D hz2 254;(with_reducible refine Jq ?_ (UU (s:= .tmp 94) (y:= .tmp 101) ?_ ?_ ?_ hrun) ?_);·exact Ei U
  ·rfl
  ·rfl
  ·rfl
  have K3:=J k;replace FB:=J<|FB.out.trans b;clear k b hrun HA HB2 K2 hz2 FX;go_wp2_with fail;rw[Ib];go_wp2_with fail;refine(yB gm 11 _).mono ?_;rintro e x3 ⟨v3,rfl,⟨bF,rfl,lb3,tN⟩,b3⟩;have FZ:=FB.out.size;replace K3:=J<|(K3.out.u b3).u (Er x3 (Ec (EY [(Jy 3,bF)]).toArray 298));have HA:=J<|H.new x3 (EY [(Jy 3,bF)]).toArray 298;have HB3:=J<|H.alloc tN (Ec (EY [(Jy 3,bF)]).toArray 298);replace FB:=J<|bt (bt FB.out b3) (Er x3 (Ec (EY [(Jy 3,bF)]).toArray 298));clear b3 tN;unfold ID;go_wp2_with (with_reducible refine JU 102 ?_);apply Et;change Ih _ _ _ _ _ (x3.alloc (Ec (EY [(Jy 3,bF)]).toArray 298));have hz3:w.heap.size<=(x3.alloc (Ec (EY [(Jy 3,bF)]).toArray 298)).heap.size:=FB.out.size;obtain⟨gl3,cp3,y3,hrun,k,b⟩:=yD _ w.heap.size _ gm _ _ 6 (by simp[ln]) K3.out (Jy 3) bF x3.heap.size 1 D HB3.out HA.out D hz3 254;(with_reducible refine Jq ?_ (UU (s:= .tmp 94) (y:= .tmp 101) ?_ ?_ ?_ hrun) ?_);·exact Ei U
  ·rfl
  ·rfl
  ·rfl
  have K4:=J k;replace FB:=J<|FB.out.trans b;clear k b hrun HA HB3 K3 hz3 FZ;go_wp2_with fail;rw[Ib];go_wp2;go_ret2;exact⟨_,_,_,U,by simp[m.out],K4.out.FE,FB.out⟩
structure AF where
 (sz lo hi:Int)
 (Y5 S:Nat)
 gp:G
 n:Int
def AF.cells(a:AF):Array G:= #[E I a.sz,E I a.lo,E I a.hi,.func (.func a.Y5) #[] #[a.gp],.func (.func a.S) #[] #[a.gp]]
theorem AF.one(a:AF):a.cells.all (·.oneCell')=EI:=by simp[AF.cells,Ov]
structure AF.ok(a:AF):Prop where
 neg:a.lo<0-> -32768<=a.lo/\a.hi<=32767
 pos:0<=a.lo->1<=a.sz/\a.sz<=7/\a.hi<256^a.sz.toNat
def im(a:AF):Option (List Int):=if a.n<a.lo then Z else if a.hi<a.n then Z else if a.lo<0 then X (be (a.n%65536) 2) else X (be a.n a.sz.toNat)
def cF:List AF->Option (List Int)
 |[]=>X []
 |a::l=>match im a,cF l with
  |some x,X y=>X (x++y)
  |_,_=>Z
theorem EUd(l:List AF)(a:AF)(x y:List Int)(h:cF l=X x)(ha:im a=X y):cF (l++[a])=X (x++y):=by
 induction l generalizing x with
 |nil=> simp only[cF,lK] at h;subst h;simp[cF,ha]
 |cons b l ih=>
  simp only[cF,lI] at h⊢;cases hb:im b with
  |none=>rw[hb] at h;cases h
  |some Y3=>
   rw[hb] at h;cases hl:cF l with
   |none=>rw[hl] at h;cases h
   |some v=> rw[hl] at h;simp only[lK] at h;subst h;rw[ih v hl];simp
theorem EUf(l:List AF)(a:AF)(hm:a∈l)(ha:im a=Z):cF l=Z:=by
 induction l with
 |nil=>cases hm
 |cons b l ih=>
  rcases OY.1 hm with h|h;·subst h;simp[cF,ha]
  ·simp only[cF];rw[ih h];cases im b<;>rfl
theorem EUg(a:AF)(ok:a.ok)(bs:List Int)(h:im a=X bs):1<=bs.length/\bs.length<=7:=by
 unfold im at h;split at h;·cases h
 split at h;·cases h
 split at h;·injection h with h;subst h;rw[OD];omega
 ·injection h with h;subst h;rw[OD];have:=ok.pos D;omega
def PG(a:AF)(w:M)(e:Uv)(w':M):Prop:=
 (match im a with
  |none=>e=Eh (Es #[EJ Z 0 0,EU V])
  |some bs=> ∃g,e=Eh (Es #[EJ (X ⟨g,0,Z⟩) bs.length bs.length,EU EI])/\Row w' (X ⟨g,0,Z⟩) bs)/\Ek w w'
theorem EUh(a:AF)(ok:a.ok)(w:M)(HG:dj w a.Y5 a.gp a.n):Eg Ea 242 #[EZ a.cells] w (PG a w):=by
 unfold PG im AF.cells;by_cases h1:a.n<a.lo;·simp only[if_pos h1];exact EIM _ _ _ _ _ _ _ w HG h1
 by_cases h2:a.hi<a.n;·simp only[if_neg h1,if_pos h2];exact EIN _ _ _ _ _ _ _ w HG D h2
 by_cases h3:a.lo<0;·simp only[if_neg h1,if_neg h2,if_pos h3,OD];have:=ok.neg h3;exact(EIP _ _ _ _ _ _ _ w HG D D h3 this.1 this.2).mono fun e w' ⟨g,he,hr,hb⟩=>⟨⟨g,he,hr⟩,hb⟩
 ·simp only[if_neg h1,if_neg h2,if_neg h3,OD];have hp:=ok.pos D;obtain⟨k,hk⟩: ∃k:Nat,a.sz=k:=⟨a.sz.toNat,D⟩;have hk7:k<=7:=D;have hn:a.n<256^k:=by have:=hp.2.2;rw[hk,kL] at this;omega
  rw[hk,kL];have hpw:(2:Int)^(8*k)=256^k:=by rw[Int.pow_mul];rfl
  have hh:a.hi<=9223372036854775807:=by
   have h4:=hp.2.2;rw[hk,kL] at h4;have h5:(256:Int)^k<=72057594037927936:=by exact Emc
   omega
  exact(EIQ _ _ _ _ _ _ w HG k D D D D (by rw[hpw];exact Int.ediv_eq_zero_of_lt D hn) hh).mono fun e w' ⟨g,he,hr,hb⟩=>⟨⟨g,he,hr⟩,hb⟩
theorem EUj(w:M)(k:Int)(h0:0<=k)(h1:k<=255):Own (w.alloc (Ec #[E IT k] 5)) w.heap.size (X ⟨w.heap.size,0,Z⟩) 1 [k]:=
 ⟨⟨U,.inr ⟨w.heap.size,1,_,U,E9 _,heap_alloc_new w _,Ej,Oy,U,U⟩⟩,fun x hx=>by simp at hx;omega⟩
def PH(w:M)(gl:Nat)(fs:List AF):Prop:= ∀i (h:i<fs.length) j,j<5->w.cell? ⟨gl,i*5+j,Z⟩=fs[i].cells[j]?
def Fa(k:Int)(fs:List AF)(w:M)(e:Uv)(w':M):Prop:=
 (match cF fs with
  |none=>e=Eh (Es #[EJ Z 0 0,EU V])
  |some ps=> ∃A c,e=Eh (Es #[EJ A (1+ps.length) c,EU EI])/\Own w' w.heap.size A c (k::ps))/\Ek w w'
theorem EUk(k:Int)(fs:List AF)(n gl cp:Nat)(hn:fs.length=n)(Eih:n<=100)(k0:0<=k)(k9:k<=255)(w:M)(hc: ∀W,Ek w W->PH W gl fs)(hg: ∀a∈fs,a.ok/\dj w a.Y5 a.gp a.n): Eg Ea 213 #[E I k,EJ (X ⟨gl,0,Z⟩) n cp] w (Fa k fs w):=by
 have HC:=J hc;have HG:=J hg;have HN:=J hn;clear hc hg hn;go_enter Tryz.func213,Tryz.ntmps213;go_wp2_with fail;have HO:=J<|EUj w k k0 k9;have B:=J<|Er w (Ec #[E IT k] 5);generalize w.alloc (Ec #[E IT k] 5)=w1 at*;go_loopw[6,16] (fun x y wr=> ∃(i:Nat) (A:Option Ev) (c m:Nat) (ps:List Int),i<=n/\y=E I i/\x=EJ A m c/\m=1+ps.length/\m<=1+7*i/\cF (fs.take i)=X ps/\Own wr w.heap.size A c (k::ps)/\Ek w wr) (fun _ y _=>n-(I5 y).toNat);case atStart=>exact⟨0,_,1,1,[],D,U,U,U,D,U,HO.out,B.out⟩
 case round=>
  obtain⟨i,A,c,m,ps,hi,rfl,rfl,hm,Xv,hps,ho,hbb⟩:=hrel;have l5:=hbb.size;have cZ:=J ho;have B:=J hbb;have yM:=J hps;have HM:=J hm;clear ho hbb hps hm;by_cases hin:i<n
  ·have hil:i<fs.length:=Fb;have hcell:=HC.out wr B.out i hil;have hmem:=HG.out _ (dW hil);have htk:fs.take (i+1)=fs.take i++[fs[i]'hil]:=by rw[lL,JY hil];rfl
   have hin2:=dW hil;generalize fs[i]'hil=a at*;obtain⟨Fc,PK⟩:=hmem;have CB:=J<|fun W hW=>EUh a Fc W (dj.u PK hW);have OL:=J<|EUg a Fc;have HT:=J htk;have HI2:=J hin2;have hone:=J a.one;have hsz:Ed (a.cells.size=5):=J U;have hsp:Ed (a.cells= #[E I a.sz,E I a.lo,E I a.hi,.func (.func a.Y5) #[] #[a.gp],.func (.func a.S) #[] #[a.gp]]):=J U;have c0:=hcell 0 D;have c1:=hcell 1 D;have c2:=hcell 2 D;have c3:=hcell 3 D;have c4:=hcell 4 D;simp only[AF.cells,Nat.add_zero] at c0 c1 c2 c3 c4;clear hcell Fc PK htk hin2;have t1:decide ((i:Int)<(n:Int))=EI:=IE D;go_wp2_with (with_reducible refine wA fE (Ey.mk ?_));apply Et;clear c0 c1 c2 c3 c4 t1;have K5:=J<|H.new wr Ju 298;have b5:=J<|Er wr (Ec Ju 298);generalize wr.alloc (Ec Ju 298)=w4 at*;go_wp2_with (with_reducible refine wS (cs:=a.cells) Xj K5 (Ey.mk ?_) (hn:=hsz.out) (h1:=hone.out));apply Et;replace K5:=J<|K5.out.setRow a.cells;replace b5:=J<|E6 (g:=wr.heap.size) b5.out D a.cells;generalize w4.setRow wr.heap.size a.cells=w5 at*;replace cZ:=J<|Z8 cZ.out b5.out;replace B:=EW B b5.out;have l6:=B.out.size;clear b5;go_wp2_with (with_reducible refine wL Xj K5 ?_ (hn:=hsz.out));refine(CB.out _ B.out).mono ?_;rintro e w6 ⟨hpost,b6⟩;clear K5;replace cZ:=J<|Z8 cZ.out b6;replace B:=EW B b6;have l7:=B.out.size;clear b6;cases hout:im a with
   |none=> have hnone:=EUf fs a HI2.out hout;rw[hout] at hpost;obtain rfl:=hpost;clear hout;go_wp2;go_ret2;unfold Fa;rw[hnone];exact⟨U,B.out⟩
   |some bs=>
    rw[hout] at hpost;obtain⟨g6,rfl,r6⟩:=hpost;have hsn:=EUd _ _ _ _ yM.out hout;rw[<-HT.out] at hsn;have hbl:=OL.out bs hout;have HSN:=J hsn;have R6:=J r6;clear hsn hout r6;generalize hbn:bs.length=bn at*;replace hbn:=J hbn;have Ff:(k::ps).length=m:=by have:=HM.out;rw[Zw];omega
    replace Ff:=J Ff;go_wp2_with ((with_reducible refine It 29 ?_);(with_reducible refine Dk _ ?_ (.tmp 27) (.tmp 28) ?_ w.heap.size A c m (k::ps) Ff.out ?_ cZ.out (X ⟨g6,0,Z⟩) bn bn bs hbn.out ?_ R6.out ?_ ?_ ?_);(·rfl);(·rfl);(·rfl);(·rfl);(·omega);(·omega);rintro A2 c2 w7 o7 b7;refine Ey.mk ?_);apply Et;have O7:=J o7;replace B:=J<|B.out.trans b7;clear o7 b7;go_wp2_with fail;refine⟨⟨i+1,A2,c2,m+bn,ps++bs,D,Ej,U,?_,D,HSN.out,O7.out,B.out⟩,J6⟩;have:=HM.out;rw[I1,hbn.out];omega
  ·obtain rfl:i=n:=D;have hps:=yM.out;rw[OV qu] at hps;replace hps:=J hps;have t1:decide ((i:Int)<(i:Int))=V:=Ia D;go_wp2;go_ret2;unfold Fa;rw[hps.out];exact⟨⟨A,c,by rw[HM.out];rfl,cZ.out⟩,B.out⟩
section
variable{P:Program}
def lM(k:IntKind)(n:Nat)(f:Nat->Int):Array G:=EN n fun i=> .int k (f i)
theorem Fg(k:IntKind)(n:Nat)(f:Nat->Int)(i:Nat):(lM k n f)[i]?=if i<n then X (.int k (f i)) else Z:=Zz _ _ _
theorem yN{e:Ez}(he:P.underlying e=X (.int k))(cs:Array G)(i:Nat)(v:G)(hv:cs[i]?=X v)(W:M):(Go.part e cs i).run P W= .ok v W:=by unfold Go.part;simp[isAgg,run_underlying he,hv]
theorem PM{e:Ez}{k:IntKind}(he:P.underlying e=X (.int k))(d n:Nat)(f g:Nat->Int)(W:M): ∀(m j:Nat),j+m<=n-> (Op.eqItems (d+1) e 1 (lM k n f) (lM k n g) (List.range' j m)).run P W= .ok ((List.range' j m).all fun i=>f i==g i) W
 |0,j,_=>by simp only[List.range'_zero,Op.eqItems,Oa,jF]
 |m+1,j,h=>by
  have p1:=yN he (lM k n f) j _ (by rw[Fg,if_pos D]) W;have p2:=yN he (lM k n g) j _ (by rw[Fg,if_pos D]) W;rw[List.range'_succ,io];simp only[Op.eqItems,Om,Nat.mul_one,p1,p2,On,run_equalIn_int W d e k k _ _ he];cases hb:(f j==g j);·exact EnY
  ·simp only[Bool.not_true,jq,if_false,Bool.true_and];exact PM he d n f g W m (j+1) D
def yP(n:Nat)(f g:Nat->Int):Bool:=(UM n).all fun i=>f i==g i
theorem EUm{n:Nat}{f g:Nat->Int}:yP n f g=EI↔ ∀i,i<n->f i=g i:=by unfold yP;simp
theorem EUn{e:Ez}{n:Nat}{i:TypeInfo}(hu:P.underlying t=X (.array n e))(he:P.underlying e=X (.int k))(hc:P.cellsOf e=1)(hi:P.info? e=X i)(d:Nat)(f g:Nat->Int)(W:M): (Op.equalIn (d+1+1) t (EZ (lM k n f)) (EZ (lM k n g))).run P W= .ok (yP n f g) W:=by rw[run_equalIn_array W (d+1) _ _ hu hi,hc,List.range_eq_range',PM he d n f g W n 0 D,yP,List.range_eq_range']
end
theorem PN(x0 x1 x2 x3:Int):(#[E I x0,E I x1,E I x2,E I x3]:Array G)=lM .i64 4 (fun i=>if i=0 then x0 else if i=1 then x1 else if i=2 then x2 else x3):=rfl
theorem EUo: ∃i,Tryz.prog.info? 3=X i:=⟨_,U⟩
theorem yQ(x0 x1 x2 x3 y0 y1 y2 y3:Int)(d:Nat)(W:M): (Op.equalIn (d+1+1) 25 (EZ #[E I x0,E I x1,E I x2,E I x3]) (EZ #[E I y0,E I y1,E I y2,E I y3])).run Ea W= .ok (decide (x0=y0/\x1=y1/\x2=y2/\x3=y3)) W:=by
 obtain⟨i,hi⟩:=EUo;rw[PN,PN,EUn Tryz.underlying25 Tryz.underlying3 Ef hi];congr 1;rw[Bool.eq_iff_iff,decide_eq_true_iff,EUm];constructor;·intro h;exact⟨h 0 D,h 1 D,h 2 D,h 3 D⟩
 ·rintro⟨rfl,rfl,rfl,rfl⟩ i _;rfl
theorem EUp(x0 x1 x2 x3 y0 y1 y2 y3:Int)(W:M): (XG .neq 25 (EZ #[E I x0,E I x1,E I x2,E I x3]) (EZ #[E I y0,E I y1,E I y2,E I y3])).run Ea W= .ok (EU (!decide (x0=y0/\x1=y1/\x2=y2/\x3=y3))) W:=by have:=yQ x0 x1 x2 x3 y0 y1 y2 y3 9998 W;simp[go_sem,this];done
theorem EUq(gm:Nat)(l:List Int)(w:M)(k:Int)(hm:H w gm (EH l) 183)(hk:l.getD 0 0=k)(hn:aI k=Z): Eg Ea 160 #[Y (X ⟨gm,0,Z⟩)] w fun e w'=>e=Eh (Es #[EJ Z 0 0,EU V])/\w=w':=by
 have c0:=hm.cell 0;rw[Zd _ _ D,if_neg D,hk] at c0
 have hne:k≠1/\k≠2/\k≠3/\k≠4/\k≠5/\k≠6/\k≠7/\k≠8/\k≠9/\k≠10/\k≠11:=by
  unfold aI at hn;repeat' split at hn
  all_goals first|(cases hn;done)|omega
 obtain⟨n1,n2,n3,n4,n5,n6,n7,n8,n9,n10,n11⟩:=hne;have q1:(k==1)=V:=by simp[n1]
 have q2:(k==2)=V:=by simp[n2]
 have q3:(k==3)=V:=by simp[n3]
 have q4:(k==4)=V:=by simp[n4]
 have q5:(k==5)=V:=by simp[n5]
 have q6:(k==6)=V:=by simp[n6]
 have q7:(k==7)=V:=by simp[n7]
 have q8:(k==8)=V:=by simp[n8]
 have q9:(k==9)=V:=by simp[n9]
 have q10:(k==10)=V:=by simp[n10]
 have q11:(k==11)=V:=by simp[n11]
 clear hm hk hn;go_enter gI,gJ;go_wp2;exact Enx
def Fh(w:M)(gm:Nat)(k:Int)(e:Uv)(w':M):Prop:=
 match aI k with
 |some ds=>X3 w gm ds e w'
 |none=>e=Eh (Es #[EJ Z 0 0,EU V])/\w=w'
theorem EUr(gm:Nat)(l:List Int)(w:M)(hm:H w gm (EH l) 183):Eg Ea 160 #[Y (X ⟨gm,0,Z⟩)] w (Fh w gm (l.getD 0 0)):=by
 generalize hk:l.getD 0 0=k at*;by_cases h1:k=1;·subst h1;exact EOW gm l w hm hk
 by_cases h2:k=2;·subst h2;exact EOY gm l w hm hk
 by_cases h3:k=3;·subst h3;exact EO0 gm l w hm hk
 by_cases h4:k=4;·subst h4;exact EO1 gm l w hm hk
 by_cases h5:k=5;·subst h5;exact EO6 gm l w hm hk
 by_cases h6:k=6;·subst h6;exact EO8 gm l w hm hk
 by_cases h7:k=7;·subst h7;exact EO_ gm l w hm hk
 by_cases h8:k=8;·subst h8;exact EO2 gm l w hm hk
 by_cases h9:k=9;·subst h9;exact EO3 gm l w hm hk
 by_cases h10:k=10;·subst h10;exact EUI gm l w hm hk
 by_cases h11:k=11;·subst h11;exact EUO gm l w hm hk
 have hn:aI k=Z:=by unfold aI;exact Eno
 unfold Fh;rw[hn];exact EUq gm l w k hm hk hn
def IZ(k:Int):List Int:=[k,0,0,0,0,0,0,0,0,0,0,0]
def qN(d:FD)(n:Int):Option (List Int):=if n<d.lo then Z else if d.hi<n then Z else if d.lo<0 then X (be (n%65536) 2) else X (be n d.size.toNat)
def bG:List FD->List Int->Option (List Int)
 |[],_=>X []
 |d::ds,l=>match qN d (l.getD d.off 0),bG ds l with
  |some x,X y=>X (x++y)
  |_,_=>Z
def JT(ds:List FD)(l:List Int):List Int:=ds.foldl (fun l d=>l.set d.off 0) l
def qP(l:List Int):Option (List Int):=
 match aI (l.getD 0 0) with
 |none=>Z
 |some ds=>match bG ds l with
  |none=>Z
  |some ps=>if JT ds l=IZ (l.getD 0 0) then X (l.getD 0 0::ps) else Z
structure FD.good(d:FD):Prop where
 ok:d.ok
 off1:1<=d.off
 neg:d.lo<0-> -32768<=d.lo/\d.hi<=32767
 pos:0<=d.lo->1<=d.size/\d.size<=7/\d.hi<256^d.size.toNat
theorem EUs:U2.good:=⟨⟨Eb,Eb,Eb⟩,Eb,Eb,Eb⟩
theorem qQ:Ij.good:=⟨⟨Eb,Eb,Eb⟩,Eb,Eb,Eb⟩
theorem EUt:cC.good:=⟨⟨Eb,Eb,Eb⟩,Eb,Eb,Eb⟩
theorem EUu:Jf.good:=⟨⟨Eb,Eb,Eb⟩,Eb,Eb,Eb⟩
theorem Fi:IP.good:=⟨⟨Eb,Eb,Eb⟩,Eb,Eb,Eb⟩
theorem EUv:bA.good:=⟨⟨Eb,Eb,Eb⟩,Eb,Eb,Eb⟩
theorem EUw:cD.good:=⟨⟨Eb,Eb,Eb⟩,Eb,Eb,Eb⟩
theorem yR(i:Nat)(h:i<4):(Jy i).good:=by have h4:i=0\/i=1\/i=2\/i=3:=D;rcases h4 with rfl|rfl|rfl|rfl<;>exact⟨⟨Eb,Eb,Eb⟩,Eb,Eb,Eb⟩
theorem yS{k:Int}(h:aI k=X ds):1<=k/\k<=11/\ds.length<=7/\ ∀d∈ds,d.good:=by
 have one: ∀(P:Prop),(P->1<=k/\k<=11/\ds.length<=7/\ ∀d∈ds,d.good)->P->1<=k/\k<=11/\ds.length<=7/\ ∀d∈ds,d.good:=fun _ f p=>f p;unfold aI at h;repeat' split at h
 all_goals first
  |(cases h;done)
  |(injection h with h
    subst h
    refine⟨D,D,Eb,fun d hd=> ?_⟩
    simp only[OY,Uu,or_false] at hd)
 ·subst hd;exact EUs
 ·subst hd;exact qQ
 ·rcases hd with rfl|rfl;·exact qQ
  ·exact EUt
 ·rcases hd with rfl|rfl;·exact qQ
  ·exact EUu
 ·rcases hd with rfl|rfl;·exact qQ
  ·exact Fi
 ·rcases hd with rfl|rfl|rfl;·exact qQ
  ·exact Fi
  ·exact EUv
 ·rcases hd with rfl|rfl|rfl|rfl|rfl|rfl|rfl;·exact qQ
  ·exact Fi
  ·exact EUw
  ·exact yR 0 D
  ·exact yR 1 D
  ·exact yR 2 D
  ·exact yR 3 D
def yT(l:List Int)(p:FD×Nat):AF:=⟨p.1.size,p.1.lo,p.1.hi,p.1.get,p.1.set,Y (X ⟨p.2,0,Z⟩),l.getD p.1.off 0⟩
theorem EUx(l:List Int)(fs:List (FD×Nat)):cF (fs.map (yT l))=bG (fs.map (·.1)) l:=by
 induction fs with
 |nil=>rfl
 |cons p ps ih=> simp only[Xs,cF,bG];rw[ih];rfl
theorem EUy(l:List Int)(h:Xa w base gl gm fs):PH w gl (fs.map (yT l)):=by intro i hi j hj;rw[List.getElem_map];exact h.cells i XO j hj
theorem EUz(h:Own w base A cap xs)(hg:gm<base)(hk: ∀k,k≠gm->w'.heap[k]?=w.heap[k]?):Own w' base A cap xs:=by
 obtain⟨⟨h1,h2⟩,h3⟩:=h;refine⟨⟨h1,?_⟩,h3⟩;rcases h2 with h2|⟨g,cap',cur,e,hb,hh,r⟩;·exact .inl h2
 ·exact .inr ⟨g,cap',cur,e,hb,(hk g D).trans hh,r⟩
theorem yV(ds:List FD)(l:List Int):(JT ds l).length=l.length:=by
 induction ds generalizing l with
 |nil=>rfl
 |cons d ds ih=>show(JT ds (l.set d.off 0)).length=_;rw[ih];simp
theorem qR(ds:List FD)(l:List Int)(o:Nat)(ho: ∀d∈ds,d.off≠o):(JT ds l).getD o 0=l.getD o 0:=by
 induction ds generalizing l with
 |nil=>rfl
 |cons d ds ih=> show(JT ds (l.set d.off 0)).getD o 0=_;rw[ih _ fun e he=>ho e (Z5 _ he)];simp[Uj,List.getElem?_set_ne (ho d fG)]
theorem EUA(ds:List FD)(l:List Int)(o:Nat):(JT ds l).getD o 0=0\/(JT ds l).getD o 0=l.getD o 0:=by
 induction ds generalizing l with
 |nil=>exact .inr U
 |cons d ds ih=>
  show(JT ds (l.set d.off 0)).getD o 0=0\/(JT ds (l.set d.off 0)).getD o 0=_;rcases ih (l.set d.off 0) with h|h;·exact .inl h
  ·by_cases e:d.off=o
   ·left;rw[h,Uj,e];by_cases hl:o<l.length;·simp[hl]
    ·rw[am Jm];rfl
   ·right;rw[h];simp[Uj,List.getElem?_set_ne e]
theorem EUB(ds:List FD)(d:FD)(l:List Int):JT (ds++[d]) l=(JT ds l).set d.off 0:=by unfold JT;rw[List.foldl_append];rfl
theorem EUC(k:Int):Tryz.prog.built 183 [(0,E I k)]=X (EH (IZ k)):=Ef
theorem ip:Tryz.prog.built 183 []=X (EH (IZ 0)):=Ef
def wd(d:FD):Nat:=if d.lo<0 then 2 else d.size.toNat
theorem EUD{d:FD}(h:bG (d::ds) l=X p): ∃x y,qN d (l.getD d.off 0)=X x/\bG ds l=X y/\p=x++y:=by
 simp only[bG] at h;cases h1:qN d (l.getD d.off 0) with
 |none=>rw[h1] at h;cases h
 |some x=>
  cases h2:bG ds l with
  |none=>rw[h1,h2] at h;cases h
  |some y=> rw[h1,h2] at h;injection h with h;exact⟨x,y,U,U,h.symm⟩
theorem PR(h:qP l=X bs): ∃ds ps,aI (l.getD 0 0)=X ds/\bG ds l=X ps/\JT ds l=IZ (l.getD 0 0)/\bs=l.getD 0 0::ps:=by
 unfold qP at h;cases h1:aI (l.getD 0 0) with
 |none=>rw[h1] at h;cases h
 |some ds=>
  rw[h1] at h;simp only at h;cases h2:bG ds l with
  |none=>rw[h2] at h;cases h
  |some ps=>
   rw[h2] at h;simp only at h;split at h;·rename_i hz;injection h with h;exact⟨ds,ps,rfl,h2,hz,h.symm⟩
   ·cases h
theorem PT(hx:x.length=12)(hy:y.length=12)(h: ∀o,o<12->x.getD o 0=y.getD o 0):x=y:=by apply List.ext_getElem D;intro i h1 h2;have:=h i D;simpa[Uj,h1,h2] using this
theorem EUF(h:qP l=X bs):bs.take 1=[l.getD 0 0]/\1<=l.getD 0 0/\l.getD 0 0<=11:=by obtain⟨ds,ps,f1,o1,z1,rfl⟩:=PR h;obtain⟨h1,h2,-,-⟩:=yS f1;exact⟨U,h1,h2⟩
theorem EUG(h:Own w base A c xs):xs.length<=c/\c<=9223372036854775807:=by obtain⟨A',ys,cap,e,h1,h2,-⟩:=h.EIh;injection e with e1 e2 e3;omega
section
open Go.ChangeShapes Go.WideShapes
theorem gO:Ow Ea 183 (EH (IZ 0)):=EID
theorem EUH(h:Row w A xs)(m:Nat):Row w A (xs.take m):=by
 obtain⟨h1,h2⟩:=h;refine⟨?_,fun z hz=>h2 z (fC hz)⟩;rcases h1 with h1|⟨b,off,e,hc⟩;·subst h1;exact .inl Ej
 ·refine .inr ⟨b,off,e,fun i hi=> ?_⟩;have hi2:i<xs.length:=qJ;rw[hc i hi2];simp
end
def X4(d:FD)(xs:List Int):Int:=if d.lo<0 then sig xs else num xs
def fb:List FD->List Int->List Int->Option (List Int)
 |[],l,xs=>if xs.length=0 then X l else Z
 |d::ds,l,xs=>if xs.length<wd d then Z else if X4 d (xs.take (wd d))<d.lo then Z else if d.hi<X4 d (xs.take (wd d)) then Z else fb ds (l.set d.off (X4 d (xs.take (wd d)))) (xs.drop (wd d))
structure FD.tP(d:FD):Prop where
 good:d.good
 neg:d.lo<0->d.lo= -32768/\d.hi=32767
 size:d.size=(wd d:Int)
 one:1<=wd d/\wd d<=7
 now:d.off=7->d.lo=0/\d.hi=1
theorem PW{k:Int}(h:aI k=X ds): ∀d∈ds,d.tP:=by
 intro d hd;have hg:=(yS h).2.2.2 d hd
 have:(d.lo<0->d.lo= -32768/\d.hi=32767)/\d.size=(wd d:Int)/\(1<=wd d/\wd d<=7)/\(d.off=7->d.lo=0/\d.hi=1):=by
  unfold aI at h;repeat' split at h
  all_goals first
   |(cases h;done)
   |(injection h with h
     subst h
     simp only[OY,Uu,or_false] at hd
     first
      |(subst hd;decide)
      |(rcases hd with rfl|rfl<;>decide)
      |(rcases hd with rfl|rfl|rfl<;>decide)
      |(rcases hd with rfl|rfl|rfl|rfl|rfl|rfl|rfl<;>decide))
 exact⟨hg,this.1,this.2.1,this.2.2.1,this.2.2.2⟩
theorem EUK(h: ∀x∈xs,0<=x/\x<=255)(hl:xs.length=2): -32768<=sig xs/\sig xs<=32767:=by have hb:=ta xs h 2 D;rw[OV D] at hb;have h2:num xs<65536:=hb.2;unfold sig;split<;>omega
def PY(gm:Nat)(l:List Int)(W w':M):Prop:=H w' gm (EH l) 183/\(∀k,k≠gm->w'.heap[k]?=W.heap[k]?)/\w'.heap.size=W.heap.size/\Ir gm W w'
def Fj(d:FD)(gm:Nat)(l xs:List Int)(w:M)(e:Uv)(w':M):Prop:=
 if X4 d xs<d.lo then e=Eh (EU V)/\Ek w w'
 else if d.hi<X4 d xs then e=Eh (EU V)/\Ek w w'
 else e=Eh (EU EI)/\ ∃W,Ek w W/\PY gm (l.set d.off (X4 d xs)) W w'
theorem EUL(d:FD)(hd:d.tP)(gb gm:Nat)(l xs:List Int)(hl:lA l)(Y4:Option Ev)(c k:Nat)(hk:wd d=k)(w:M)(hr:Row w Y4 xs)(hx:xs.length=k)(hb:X2 w d gm gb)(hm:H w gm (EH l) 183): Eg Ea 209 #[EZ (ID d gb),EJ Y4 k c] w (Fj d gm l xs w):=by
 have hs: ∀v,Sets w d.set (Y (X ⟨gb,0,Z⟩)) v (PY gm (l.set d.off v)):=fun v=>⟨Nd d,fun W hW=>(EIH d gb gm l v W hd.good.ok hl (H.u hb hW) (hm.u hW)).mono fun e w' ⟨he,h1,h2,h3,h4⟩=>⟨he,h1,h2,h3,h4⟩⟩;have hk7:=hd.one;unfold Fj ID;by_cases h0:d.lo<0
 ·have e2:k=2:=by rw[<-hk];unfold wd;rw[if_pos h0]
  subst e2;have hv:X4 d xs=sig xs:=by unfold X4;rw[if_pos h0]
  have hr2:=EUK hr.2 hx;have hn:=hd.neg h0;have g1: ¬sig xs<d.lo:=D;have g2: ¬d.hi<sig xs:=D;rw[hv];simp only[if_neg g1,if_neg g2];exact EOQ _ _ _ _ _ _ xs Y4 c (sig xs) _ w hr hx U h0 D D (hs _)
 ·have hv:X4 d xs=num xs:=by unfold X4;rw[if_neg h0]
  have hb2:=ta xs hr.2 k D;rw[OV D] at hb2;have Eik:(256:Int)^k<=72057594037927936:=by exact Emc
  have hhi:d.hi<256^k:=by have:=(hd.good.pos D).2.2;rw[hd.size,hk,kL] at this;exact this
  rw[hv];by_cases h1:num xs<d.lo;·simp only[if_pos h1];exact EOS _ _ _ _ _ _ xs Y4 k c (num xs) w hr hx D U D D D h1
  by_cases h2:d.hi<num xs;·simp only[if_neg h1,if_pos h2];exact EOT _ _ _ _ _ _ xs Y4 k c (num xs) w hr hx D U D D D D h2
  ·simp only[if_neg h1,if_neg h2];exact EOR _ _ _ _ _ _ xs Y4 k c (num xs) _ w hr hx D U D D D D (hs _)
theorem P1(h:Row w Y4 xs)(hB: ∀a,Y4=X a->a.block<gm)(hb:Ir gm w w'):Row w' Y4 xs:=by
 obtain⟨h1,h2⟩:=h;refine⟨?_,h2⟩;rcases h1 with h1|⟨b,off,e,hc⟩;·exact .inl h1
 ·refine .inr ⟨b,off,e,fun i hi=> ?_⟩;have h3:=hb.cell (p:=⟨b,off+i,Z⟩) (show b<gm from hB ⟨b,off,Z⟩ e);rw[h3];exact hc i hi
theorem lN{off:Nat}(h:Row w (X ⟨b,off,Z⟩) xs)(m:Nat):Row w (X ⟨b,off+m,Z⟩) (xs.drop m):=by
 obtain⟨h1,h2⟩:=h;refine⟨?_,fun z hz=>h2 z (List.mem_of_mem_drop hz)⟩;rcases h1 with h1|⟨b',off',e,hc⟩;·subst h1;exact .inl Ej
 ·injection e with e;injection e with e1 e2;subst e1 e2;refine .inr ⟨b,off+m,U,fun i hi=> ?_⟩;have hi2:m+i<xs.length:=qJ;have:=hc (m+i) hi2;rw[<-iq] at this;rw[this];simp
theorem EUM(h:lA l)(o:Nat)(v:Int)(hv:o=7->v=0\/v=1):lA (l.set o v):=by
 refine⟨by rw[List.length_set];exact h.1,?_⟩;by_cases e:o=7
 ·subst e;have hl:=h.1;have:(l.set 7 v).getD 7 0=v:=by simp[Uj,hl]
  rw[this];exact hv U
 ·have e2:(l.set o v).getD 7 0=l.getD 7 0:=by simp[Uj,List.getElem?_set_ne e]
  rw[e2];exact h.2
def EUN(R:Option (List Int))(gm:Nat)(w:M)(e:Uv)(w':M):Prop:=
 Ir gm w w'/\match R with
  |none=>e=Eh (EU V)
  |some l'=>e=Eh (EU EI)/\H w' gm (EH l') 183
theorem EUP(fs:List (FD×Nat))(ds:List FD)(hds:fs.map (·.1)=ds)(hf: ∀d∈ds,d.tP)(n:Nat)(hn:fs.length=n)(hn9:n<=100)(gl cp gm base:Nat)(l:List Int)(hl:lA l)(xs:List Int)(Y4:Option Ev)(m c:Nat)(hm:xs.length=m)(hmc:m<=c)(hc:c<=9223372036854775807) (w:M) (hr:Row w Y4 xs) (hB: ∀a,Y4=X a->a.block<gm) (hfl:Xa w base gl gm fs) (hgb:gm<base) (hgw:base<=w.heap.size) (hk:H w gm (EH l) 183): Eg Ea 161 #[EJ Y4 m c,EJ (X ⟨gl,0,Z⟩) n cp] w (EUN (fb ds l xs) gm w):=by
 have yW:=J hds;have HF:=J hf;have HN:=J hn;obtain⟨R,hR⟩:=Eo (fb ds l xs);rw[<-hR];have qS:=J hR;have HM:=J hm;have HRW:=J hr;have nY:=J hB;have fW:=J hfl;have HK:=J hk;have HL:=J hl;clear hds hf hn hR hm hr hB hfl hk hl;go_enter Tryz.func161,Tryz.ntmps161;go_wp2_with fail;go_loopw[0,9] (fun x y wr=> ∃(i:Nat) (A:Option Ev) (k e:Nat) (li rs:List Int),i<=n/\y=E I i/\x=EJ A k e/\rs.length=k/\k<=e/\e<=9223372036854775807/\Row wr A rs/\(∀a,A=X a->a.block<gm)/\lA li/\H wr gm (EH li) 183/\Xa wr base gl gm fs/\base<=wr.heap.size/\fb (ds.drop i) li rs=R/\Ir gm w wr) (fun _ y _=>n-(I5 y).toNat);case atStart=>exact⟨0,Y4,m,c,l,xs,D,U,U,HM.out,hmc,hc,HRW.out,nY.out,HL.out,HK.out,fW.out,hgw,by rw[qS.out];rfl,E_ _ _⟩
 case round=>
  obtain⟨i,A,k,e,li,rs,hi,rfl,rfl,hrs,hke,he,hrw,hA,tQ,hkm,hfl,hbw,hR,hbb⟩:=hrel;have bH:=J hrs;have RW:=J hrw;have HA:=J hA;have n_:=J tQ;have KM:=J hkm;have FL:=J hfl;have HR:=J hR;have B:=J hbb;have lm:=hkm.lt;clear hrs hrw hA tQ hkm hfl hR hbb HRW fW HK HL qS nY;by_cases hin:i<n
  ·have hil:i<fs.length:=Fb;have hcell:=fun j hj=>FL.out.cells i hil j hj;have oE:=(FL.out.2.2 i hil).2;have e1:ds[i]?=X (fs[i]'hil).1:=P2;have hmem:(fs[i]'hil).1∈ds:=cG e1;have hdf:=HF.out _ hmem;have hdr:ds.drop i=(fs[i]'hil).1::ds.drop (i+1):=by obtain⟨h1,h2⟩:=Xr.1 e1;rw[<-h2];exact lO h1
   generalize fs[i]'hil=p at*;obtain⟨d,gb⟩:=p;simp only at hcell oE hdf hdr;have hRR:=HR.out;rw[hdr] at hRR;simp only[fb] at hRR;replace hRR:=J hRR;have tR:=J oE;have HD:=J hdf;have c0:=hcell 0 D;have c1:=hcell 1 D;have c2:=hcell 2 D;have c3:=hcell 3 D;have c4:=hcell 4 D;simp only[ID,Nat.add_zero] at c0 c1 c2 c3 c4;clear hcell oE e1 hmem hdf hdr;have Fk:=J<|fT d gb;have hsz2:Ed ((ID d gb).size=5):=J U;have t1:decide ((i:Int)<(n:Int))=EI:=IE D;go_wp2_with (with_reducible refine wA fE (Ey.mk ?_));apply Et;clear c0 c1 c2 c3 c4 t1;have K5:=J<|H.new wr Ju 298;have b5:=J<|Er wr (Ec Ju 298);generalize wr.alloc (Ec Ju 298)=w4 at*;go_wp2_with (with_reducible refine wS (cs:=(ID d gb)) Xj K5 (Ey.mk ?_) (hn:=hsz2.out) (h1:=Fk.out));apply Et;replace K5:=J<|K5.out.setRow (ID d gb);replace b5:=J<|E6 (g:=wr.heap.size) b5.out D (ID d gb);generalize w4.setRow wr.heap.size (ID d gb)=w5 at*;replace KM:=J<|KM.out.u b5.out;replace FL:=J<|FL.out.u b5.out;replace RW:=J<|IH RW.out b5.out;replace B:=J<|B.out.trans (b5.out.mono D);have tS:Ed (X2 w5 d gm gb):=EP tR b5.out;have l5:=b5.out.size;clear b5 tR;obtain⟨z,hz⟩:=Eo (wd d);have hzs:d.size=(z:Int):=by rw[hz];exact HD.out.size
   have hz1:1<=z:=by rw[hz];exact HD.out.one.1
   have Fl:z<=7:=by rw[hz];exact HD.out.one.2
   have HZ:=J hz;have ZS:=J hzs;have c0: ∀y:Ext w5,(EA w5 y).cell? ⟨wr.heap.size,0,Z⟩=X (E I z):=fun y=>by rw[(K5.out.u (EL y)).cell 0,<-ZS.out];rfl
   clear hz hzs;go_wp2_with fail;by_cases hkz:k<z
   ·have t2:decide ((k:Int)<(z:Int))=EI:=IE D;refine Zs Ef Ef ?_
    repeat (first
     |go_big_quiet_skip
     |(go_big_quiet_want
       first
        |(refine Og (T:=298) (g:=wr.heap.size) Xj _ rfl rfl K5 ?_ ?_;(·exact hsz2.out);go_simp;go_big_quiet_on)
        |(go_big_quiet_op
          first
           |go_big_quiet_on
           |go_big_quiet_call ((fail)))))
    refine I2 ?_;intro _ hw';obtain⟨y9,rfl⟩:=hw';replace B:=J<|B.out.trans ((EL y9).mono D);generalize EA w5 y9=w6 at*;go_wp2;go_ret;refine⟨B.out,?_⟩;rw[<-hRR.out,if_pos (by rw[bH.out,<-HZ.out];exact hkz)];rfl
   ·have t2:decide ((k:Int)<(z:Int))=V:=Ia D;have q1:z<=k:=D;have q2:z<=e:=D
    obtain⟨b0,off,hAe⟩: ∃b off,A=X ⟨b,off,Z⟩:=by
     obtain⟨h|⟨b,off,h,-⟩,-⟩:=RW.out;·have:=bH.out;rw[h] at this;simp at this;omega
     ·exact⟨b,off,h⟩
    subst hAe;refine J_ 11 Ef Ef ?_;simp only[Is,Io,IS,IM]
    repeat (first
     |go_big_quiet_skip
     |(go_big_quiet_want
       first
        |(refine Og (T:=298) (g:=wr.heap.size) Xj _ rfl rfl K5 ?_ ?_;(·exact hsz2.out);go_simp;go_big_quiet_on)
        |(go_big_quiet_op
          first
           |go_big_quiet_on
           |go_big_quiet_call ((fail)))))
    refine I2 ?_;intro _ hw';obtain⟨y9,rfl⟩:=hw';have En:=EL y9;replace K5:=J<|K5.out.u En;replace KM:=J<|KM.out.u En;replace FL:=J<|FL.out.u En;replace RW:=J<|IH RW.out En;have P4:Ed (X2 (EA w5 y9) d gm gb):=EP tS En;replace B:=J<|B.out.trans (En.mono D);have l6:=En.size;clear En c0 tS;generalize EA w5 y9=w6 at*;have hlt:(rs.take z).length=z:=by rw[ZJ,bH.out];omega
    have CT:=J<|EUL d HD.out gb gm li (rs.take z) n_.out (X ⟨b0,off,Z⟩) e z HZ.out.symm w6 (EUH RW.out z) hlt P4.out KM.out;clear hlt P4;go_wp2_with fail;refine(CT.out).mono ?_;rintro e' w7 ht;unfold Fj at ht;have hif: ¬rs.length<wd d:=by rw[bH.out,<-HZ.out];omega
    have jG:=hRR.out;rw[if_neg hif,<-HZ.out] at jG;replace jG:=J jG;clear hif CT hRR;by_cases hlow:X4 d (rs.take z)<d.lo;·rw[if_pos hlow] at ht;obtain⟨rfl,b7⟩:=ht;have cH:=jG.out;rw[if_pos hlow] at cH;replace cH:=J cH;replace B:=J<|B.out.trans (b7.mono D);clear hlow b7 jG;exact EnV
    by_cases hhigh:d.hi<X4 d (rs.take z);·rw[if_neg hlow,if_pos hhigh] at ht;obtain⟨rfl,b7⟩:=ht;have cH:=jG.out;rw[if_neg hlow,if_pos hhigh] at cH;replace cH:=J cH;replace B:=J<|B.out.trans (b7.mono D);clear hlow hhigh b7 jG;exact EnV
    ·rw[if_neg hlow,if_neg hhigh] at ht;obtain⟨rfl,W,bW,hq1,hq2,hq3,hq4⟩:=ht;have cH:=jG.out;rw[if_neg hlow,if_neg hhigh] at cH;have P5:lA (li.set d.off (X4 d (rs.take z))):=EUM n_.out _ _ (fun h7=>by have:=HD.out.now h7;omega);have EUR:=J P5;replace cH:=J cH;have lW:=bW.size;have Fm:b0<gm:=HA.out _ U;have c0:w7.cell? ⟨wr.heap.size,0,Z⟩=X (E I z):=by rw[World.cell?_of_block (w:=W) (hq2 wr.heap.size D),(K5.out.u bW).cell 0,<-ZS.out];rfl
     replace B:=J<|(B.out.trans (bW.mono D)).trans hq4;replace FL:=J<|(FL.out.u bW).keep hgb hq2;have RW7:=J<|P1 (lN (IH RW.out bW) z) (fun a ha=>by injection ha with ha;subst ha;exact Fm) hq4;have KM7:=J hq1;have l7:base<=w7.heap.size:=D;generalize X4 d (rs.take z)=vv at*;clear hlow hhigh P5 bW hq1 hq2 hq4 jG KM RW K5;go_wp2_with fail;refine⟨⟨i+1,_,k-z,e-z,li.set d.off vv,rs.drop z,D,Ej,U,by rw[ly,bH.out],D,D,?_,?_,EUR.out,KM7.out,FL.out,l7,cH.out,B.out⟩,J6⟩
     ·split;·have h0:rs.drop z=[]:=List.drop_eq_nil_of_le (by rw[bH.out];omega);rw[h0];exact⟨.inl U,fun x hx=>by cases hx⟩
      ·exact RW7.out
     ·intro a ha;split at ha;·injection ha with ha;subst ha;exact Fm
      ·injection ha with ha;subst ha;exact Fm
  ·obtain rfl:i=n:=D;have hdrop:ds.drop i=[]:=List.drop_eq_nil_of_le (by rw[<-yW.out,List.length_map,HN.out];omega);have hR:=HR.out;rw[hdrop] at hR;simp only[fb] at hR;replace hR:=J hR;have t1:decide ((i:Int)<(i:Int))=V:=Ia D;clear hdrop;by_cases hk0:k=0;·subst hk0;go_wp2;go_ret;refine⟨B.out,?_⟩;rw[<-hR.out,if_pos bH.out];exact⟨U,KM.out⟩
   ·have t2:((k:Int)==0)=V:=Jm;go_wp2;go_ret;refine⟨B.out,?_⟩;rw[<-hR.out,if_neg (by rw[bH.out];exact hk0)];rfl
section
variable{P:Program}
theorem yY{n:Nat}(hA:IF P T n)(hg:H w g cs T)(hn:cs.size=n):(loadVar T ⟨g,0,Z⟩).run P w= .ok (EZ cs) w:=by obtain⟨⟨d,hu,hd⟩,hi⟩:=hA;cases d<;>first|(cases hd;done)|exact run_loadVar_row w g T T cs (0,0) _ hg hu rfl fF
theorem cK{fn:Func}{p q:Tmp}{n:Nat}(hT:IF P T n)(h:fn.results= #[.cell p T,.tmp q])(tmps:Array G)(w:M)(g:Nat)(cs:Array G)(v:G) (hp:tmps.getD p Iv=Y (X ⟨g,0,Z⟩)) (hq:tmps.getD q Iv=v) (hg:H w g cs T) (hn:cs.size=n):(UW fn tmps).run P w= .ok (Es #[EZ cs,v]) w:=by have hp':tmps[p]?.getD Iv=Y (X ⟨g,0,Z⟩):=jf;have hq':tmps[q]?.getD Iv=v:=qn;simp[UW,h,hp',hq',asAddr,yY hT hg hn]
end
def du(bs:List Int):Option (List Int):=match bs with
 |[]=>Z
 |k::xs=>match aI k with
  |none=>Z
  |some ds=>fb ds (IZ k) xs
def EUV(bs:List Int)(w:M)(e:Uv)(w':M):Prop:=
 (match du bs with
  |none=>e=Eh (Es #[EZ (EH (IZ 0)),E I 13])
  |some l=>e=Eh (Es #[EZ (EH l),E I 0]))/\Ek w w'
theorem Fo(bs:List Int)(Y4:Option Ev)(m c:Nat)(hm:bs.length=m)(hmc:m<=c)(hc:c<=9223372036854775807)(w:M)(hr:Row w Y4 bs):Eg Ea 118 #[EJ Y4 m c] w (EUV bs w):=by
 cases bs with
 |nil=>
  obtain rfl:m=0:=by rw[<-hm];rfl
  clear hr;go_enter Tryz.func118,Tryz.ntmps118;go_wp2_with (with_reducible refine wA gO (Ey.mk ?_));apply Et;have K2:=J<|H.new w (EH (IZ 0)) 183;have B:=J<|Er w (Ec (EH (IZ 0)) 183);generalize w.alloc (Ec (EH (IZ 0)) 183)=w1 at*;go_wp2_with (first|((with_reducible refine It 10 ?_);refine JO rfl 183 _ rfl (EH (IZ 0)) ip ?_)|(with_reducible refine wS (cs:=(EH (IZ 0))) Oz K2 ?_ (ho:=JI _) (hn:=JI _) (h1:=Zy _)));refine EV (v:=Es #[EZ (EH (IZ 0)),E I 13]) (cK Oz U _ _ w.heap.size _ _ U U (K2.out.setRow _) (JI _)) U ⟨?_,E6 B.out D _⟩;rfl
 |cons k xs=>
  obtain⟨b0,off,rfl,hc0⟩: ∃b off,Y4=X ⟨b,off,Z⟩/\w.cell? ⟨b,off,Z⟩=X (E IT k):=by
   obtain⟨h|⟨b,off,h,hcc⟩,-⟩:=hr;·cases h
   ·exact⟨b,off,h,hcc 0 Ej⟩
  have hb0:b0<w.heap.size:=UV _ _ hc0;have hkb:=hr.2 k fG;obtain⟨k0,k9⟩:=hkb;have HR:=J hr;have m1:1<=m:=by rw[<-hm];simp
  have HM:=J hm;have t1:((m:Int)==0)=V:=Jm;clear hr hm;go_enter Tryz.func118,Tryz.ntmps118;go_wp2_with (with_reducible refine wA gO (Ey.mk ?_));apply Et;have K2:=J<|H.new w (EH (IZ 0)) 183;have B:=J<|Er w (Ec (EH (IZ 0)) 183);replace HR:=J<|IH HR.out B.out;have c1:(w.alloc (Ec (EH (IZ 0)) 183)).cell? ⟨b0,off,Z⟩=X (E IT k):=by rw[B.out.cell hb0];exact hc0
  generalize w.alloc (Ec (EH (IZ 0)) 183)=w1 at*;clear hc0;go_wp2_with (first|((with_reducible refine It 15 ?_);refine JO rfl 183 _ rfl (EH (IZ k)) (EUC k) ?_)|(with_reducible refine wA gO (Ey.mk ?_)));apply Et;have l1:=K2.out.lt;have bel:=Er w1 (Ec (EH (IZ 0)) 183);have K4:=J<|H.new w1 (EH (IZ 0)) 183;replace K2:=J<|K2.out.u bel;replace HR:=J<|IH HR.out bel;replace B:=EW B bel;clear bel c1;generalize w1.alloc (Ec (EH (IZ 0)) 183)=w2 at*;have lw:=B.out.size;generalize hg4:w1.heap.size=g4 at*;clear hg4;go_wp2_with (with_reducible refine wS (cs:=(EH (IZ k))) Oz K4 (Ey.mk ?_) (ho:=JI _) (hn:=JI _) (h1:=Zy _));apply Et;have P6:=E6 (g:=g4) (E_ g4 w2) (E9 _) (EH (IZ k));replace K2:=J<|K2.out.setRow_other g4 (EH (IZ k)) D;replace K4:=J<|K4.out.setRow (EH (IZ k));replace B:=J<|E6 (g:=g4) B.out D (EH (IZ k));replace HR:=J<|P1 HR.out (fun a ha=>by injection ha with ha;subst ha;show b0<g4;omega) P6;clear P6;generalize w2.setRow g4 (EH (IZ k))=w3 at*;have l3:=K4.out.lt;go_wp2_with fail;refine(EUr g4 (IZ k) w3 K4.out).mono ?_;rintro e w4 hf;unfold Fh at hf;have hkk:(IZ k).getD 0 0=k:=rfl;rw[hkk] at hf;cases hfo:aI k with
  |none=>
   rw[hfo] at hf;obtain⟨rfl,rfl⟩:=hf;have hp:du (k::xs)=Z:=by unfold du;simp only[hfo]
   replace hp:=J hp;clear hfo hkk;go_wp2_with (first|((with_reducible refine It 29 ?_);refine JO rfl 183 _ rfl (EH (IZ 0)) ip ?_)|(with_reducible refine wS (cs:=(EH (IZ 0))) Oz K2 ?_ (ho:=JI _) (hn:=JI _) (h1:=Zy _)));refine EV (v:=Es #[EZ (EH (IZ 0)),E I 13]) (cK Oz U _ _ w.heap.size _ _ U U (K2.out.setRow _) (JI _)) U ⟨?_,E6 B.out D _⟩;rw[hp.out]
  |some ds=>
   rw[hfo] at hf;obtain⟨gl,cp,fs,rfl,hds,hfl,b4⟩:=hf;have P7:=PW hfo;have hd7:=(yS hfo).2.2.1;have hp:du (k::xs)=fb ds (IZ k) xs:=by unfold du;simp only[hfo]
   have HP:=J hp;have l4:=b4.size;replace K2:=J<|K2.out.u b4;replace K4:=J<|K4.out.u b4;replace HR:=J<|IH HR.out b4;replace B:=EW B b4;obtain⟨A2,hA2⟩: ∃A:Option Ev,A=if c=1 then X ⟨b0,off,Z⟩ else X ⟨b0,off+1,Z⟩:=⟨_,U⟩
   have hx:xs.length=m-1:=by have:=HM.out;rw[Zw] at this;omega
   have hrow:Row w4 A2 xs:=by
    rw[hA2];split;·have h0:xs=[]:=ao D;rw[h0];exact⟨.inl U,fun x hx=>by cases hx⟩
    ·exact lN HR.out 1
   have hA3: ∀a,A2=X a->a.block<g4:=by
    intro a ha;rw[hA2] at ha;split at ha;·injection ha with ha;subst ha;show b0<g4;omega
    ·injection ha with ha;subst ha;show b0<g4;omega
   have CT:=J<|EUP fs ds hds P7 ds.length (by rw[<-hds,List.length_map]) D gl cp g4 w3.heap.size (IZ k) ⟨U,.inl U⟩ xs A2 (m-1) (c-1) hx D D w4 hrow hA3 hfl l3 l4 K4.out;generalize ds.length=n at*;clear hds hfl P7 hfo hkk b4 hx hrow hA3 hp;have Eim:=hA2.symm;replace hA2:=J hA2;go_wp2_with fail;refine(CT.out).mono ?_;rintro e' w5 ⟨b5,hpost⟩;have k2:H w5 w.heap.size (EH (IZ 0)) 183:=(b5.block _ D).trans K2.out;replace K2:=J k2;replace B:=J<|B.out.trans (b5.mono D);clear k2 b5 K4 CT;cases hR:fb ds (IZ k) xs with
   |none=> rw[hR] at hpost;obtain rfl:=hpost;have HRR:=J hR;clear hR;go_wp2_with (first|((with_reducible refine It 29 ?_);refine JO rfl 183 _ rfl (EH (IZ 0)) ip ?_)|(with_reducible refine wS (cs:=(EH (IZ 0))) Oz K2 ?_ (ho:=JI _) (hn:=JI _) (h1:=Zy _)));refine EV (v:=Es #[EZ (EH (IZ 0)),E I 13]) (cK Oz U _ _ w.heap.size _ _ U U (K2.out.setRow _) (JI _)) U ⟨?_,E6 B.out D _⟩;rw[HP.out,HRR.out]
   |some l'=> rw[hR] at hpost;obtain⟨rfl,hk4⟩:=hpost;have HRR:=J hR;have K4:=J hk4;clear hR hk4;go_wp2_with (with_reducible first|refine wL Oz K4 ?_ (hn:=JI _)|refine wS (cs:=(EH l')) Oz K2 ?_ (ho:=JI _) (hn:=JI _) (h1:=Zy _));refine EV (v:=Es #[EZ (EH l'),E I 0]) (cK Oz U _ _ w.heap.size _ _ U U (K2.out.setRow _) (JI _)) U ⟨?_,E6 B.out D _⟩;rw[HP.out,HRR.out]
theorem EUW{d:FD}(hd:d.tP)(hb: ∀x∈bs,0<=x/\x<=255)(hl:bs.length=wd d)(h1: ¬X4 d bs<d.lo)(h2: ¬d.hi<X4 d bs):qN d (X4 d bs)=X bs:=by
 unfold qN;rw[if_neg h1,if_neg h2];have e:=EIy bs hb;have hn:=ta bs hb bs.length D;rw[List.take_length] at hn;by_cases h3:d.lo<0
 ·rw[if_pos h3];have h2':bs.length=2:=by rw[hl];unfold wd;rw[if_pos h3]
  unfold X4;rw[if_pos h3];rw[h2'] at e hn;have h65:num bs<65536:=hn.2;have:sig bs%65536=num bs:=by unfold sig;split<;>omega
  rw[this,e]
 ·rw[if_neg h3];have hk:d.size.toNat=bs.length:=by rw[hl,hd.size];simp
  unfold X4;rw[if_neg h3,hk,e]
theorem P8(ds:List FD)(l:List Int)(hl:l.length=12)(hd: ∀d∈ds,d.off<12)(o:Nat)(h: ∃d∈ds,d.off=o):(JT ds l).getD o 0=0:=by
 induction ds generalizing l with
 |nil=>obtain⟨d,hd,_⟩:=h;cases hd
 |cons d ds ih=>
  show(JT ds (l.set d.off 0)).getD o 0=0;by_cases hex: ∃e∈ds,e.off=o;·exact ih _ (by rw[List.length_set];exact hl) (fun d h=>hd d (Z5 _ h)) hex
  ·rw[qR ds _ o (fun e he hh=>hex ⟨e,he,hh⟩)];obtain⟨e,he,tT⟩:=h;rcases OY.1 he with rfl|he;·subst tT;have h12:=hd e fG;simp[Uj,hl,h12]
   ·exact absurd ⟨e,he,tT⟩ hex
theorem P9(h:bG ds l=X p): ∀d∈ds,d.lo<=l.getD d.off 0/\l.getD d.off 0<=d.hi:=by
 induction ds generalizing p with
 |nil=>intro d hd;cases hd
 |cons e ds ih=>
  obtain⟨a,b,h1,h2,rfl⟩:=EUD h;intro d hd;rcases OY.1 hd with rfl|hd
  ·unfold qN at h1;split at h1;·cases h1
   split at h1;·cases h1
   omega
  ·exact ih h2 d hd
theorem EUY(hf: ∀d∈ds,d.tP)(hnd:(ds.map (·.off)).Nodup)(hl:l.length=12)(hb: ∀x∈xs,0<=x/\x<=255)(h:fb ds l xs=X z): bG ds z=X xs/\JT ds z=JT ds l/\z.length=12/\(∀o,(∀d∈ds,d.off≠o)->z.getD o 0=l.getD o 0):=by
 induction ds generalizing l xs with
 |nil=>
  simp only[fb] at h;split at h;·rename_i h0;injection h with h;subst h;refine⟨?_,rfl,hl,fun _ _=>rfl⟩;rw[ao h0];rfl
  ·cases h
 |cons d ds ih=>
  simp only[fb] at h;split at h;·cases h
  split at h;·cases h
  split at h;·cases h
  rename_i g1 g2 g3;rw[Xs,kY] at hnd;have hd:=hf d fG;have h12:=hd.good.ok.1;obtain⟨r1,r2,r3,r4⟩:=ih (fun d h=>hf d (Z5 _ h)) hnd.2 (by rw[List.length_set];exact hl) (fun x hx=>hb x (List.mem_of_mem_drop hx)) h;have hno: ∀e∈ds,e.off≠d.off:=fun e he hh=>hnd.1 (by rw[<-hh];exact List.mem_map_of_mem he);have hz:=r4 d.off hno;have hset:(l.set d.off (X4 d (xs.take (wd d)))).getD d.off 0=X4 d (xs.take (wd d)):=by simp[Uj,hl,h12]
  rw[hset] at hz;have ho:=EUW hd (fun x hx=>hb x (fC hx)) ng g2 g3;refine⟨?_,?_,r3,fun o ho'=> ?_⟩;·simp only[bG];rw[hz,ho,r1];simp only[dR]
  ·apply PT (by rw[yV];exact r3) (by rw[yV];exact hl);intro o Eio;by_cases hh: ∃e∈d::ds,e.off=o
   ·have zz: ∀l':List Int,l'.length=12->(JT (d::ds) l').getD o 0=0:=by
     intro l' hl';show(JT ds (l'.set d.off 0)).getD o 0=0;obtain⟨e,he,tT⟩:=hh;by_cases hex: ∃e∈ds,e.off=o;·have:=P8 ds (l'.set d.off 0) (by rw[List.length_set];exact hl') (fun d h=>(hf d (Z5 _ h)).good.ok.1) o hex;exact this
     ·rw[qR ds _ o (fun e he hh=>hex ⟨e,he,hh⟩)];rcases OY.1 he with rfl|he;·subst tT;simp[Uj,hl',h12]
      ·exact absurd ⟨e,he,tT⟩ hex
    rw[zz z r3,zz l hl]
   ·have hn: ∀e∈d::ds,e.off≠o:=fun e he hh'=>hh ⟨e,he,hh'⟩;rw[qR _ _ o hn,qR _ _ o hn,r4 o fun e he=>hn e (Z5 _ he)];simp[Uj,List.getElem?_set_ne (hn d fG)]
  ·rw[r4 o fun e he=>ho' e (Z5 _ he)];simp[Uj,List.getElem?_set_ne (ho' d fG)]
theorem EU0{k:Int}(h:aI k=X ds):(ds.map (·.off)).Nodup:=by
 unfold aI at h;repeat' split at h
 all_goals first
  |(cases h;done)
  |(injection h with h
    subst h
    decide)
theorem Fp(hb: ∀x∈bs,0<=x/\x<=255)(h:du bs=X z):qP z=X bs/\lA z:=by
 unfold du at h;cases bs with
 |nil=>cases h
 |cons k xs=>
  simp only at h;cases hf:aI k with
  |none=>rw[hf] at h;cases h
  |some ds=>
   rw[hf] at h;simp only at h;have tV:=PW hf;obtain⟨r1,r2,r3,r4⟩:=EUY tV (EU0 hf) (show(IZ k).length=12 from rfl) (fun x hx=>hb x (Z5 _ hx)) h;have h0:z.getD 0 0=k:=(r4 0 fun d hd=>by have:=(tV d hd).good.off1;omega).trans U
   have hzz:JT ds (IZ k)=IZ k:=by
    apply PT (by rw[yV];rfl) U;intro o ho;by_cases hh: ∃e∈ds,e.off=o;·rw[P8 ds (IZ k) U (fun d h=>(tV d h).good.ok.1) o hh];obtain⟨e,he,rfl⟩:=hh;have h1:=(tV e he).good.off1;have ho':e.off=1\/e.off=2\/e.off=3\/e.off=4\/e.off=5\/e.off=6\/e.off=7\/e.off=8\/e.off=9\/e.off=10\/e.off=11:=D;rcases ho' with h|h|h|h|h|h|h|h|h|h|h<;>rw[h]<;>rfl
    ·exact qR ds _ o fun e he hh'=>hh ⟨e,he,hh'⟩
   refine⟨?_,r3,?_⟩;·unfold qP;rw[h0,hf];simp only[r1];rw[if_pos (r2.trans hzz)]
   ·by_cases hh: ∃d∈ds,d.off=7;·obtain⟨d,hd,h7⟩:=hh;have hfd:=tV d hd;have hin:=P9 r1 d hd;have:=hfd.now h7;rw[h7] at hin;omega
    ·left;rw[r4 7 fun d hd e=>hh ⟨d,hd,e⟩];rfl
end Go.Proofs.YtclmichaaiohjaaGreatDoor
