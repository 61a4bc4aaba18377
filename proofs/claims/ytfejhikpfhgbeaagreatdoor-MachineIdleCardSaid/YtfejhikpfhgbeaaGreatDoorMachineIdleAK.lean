import Derived.Test.YtfejhikpfhgbeaaGreatDoorMachineIdleAJ
set_option maxHeartbeats 25600000
set_option maxRecDepth 100000
set_option linter.all false
namespace Go.Proofs.YtfejhikpfhgbeaaGreatDoor
open Go.Proofs.Tryz
open Go.RowKit
open SP
def D6(r:Int)(m:aX)(p:iA):aX:=match m.dY[p.id.toNat-1]? with
 |some pk=>GG m pk p.id r
 |none=>m
def Ex(m:aX)(f:jd):aX:=match m.Q[f.id.toNat]? with
 |some q=>(AQ q m.slot).foldl (D6 2) {m with Q:=m.Q.set f.id.toNat (PE q m.slot)}
 |none=>m
def uP(m:aX):aX:=(dO m.tab.F).foldl Ex m
structure agm(m:aX)(p:iA):Prop where
 ex:∃(k N:Nat)(pk:iA),p.id=(k:Int)+1/\m.dY[k]?=some pk/\k<=1000000/\m.jy.Ok N/\N<=1000000000
 lg:m.log.length<=1000000
structure adm(m:aX)(f:jd):Prop where
 ex:∃(j:Nat)(q:xP),f.id=(j:Int)/\m.Q[j]?=some q/\(∀p∈q.P,abl p)/\q.P.length<=1000/\
  ∀(k:Nat)(p:iA),(AQ q m.slot)[k]?=some p->agm (((AQ q m.slot).take k).foldl (D6 2) {m with Q:=m.Q.set j (PE q m.slot)}) p
def tu(F:List Bool)(m:aX)(k:Nat):aX:=match m.S[k]? with
 |some s=>{m with S:=m.S.set k {s with ch:=zS s.ch (F.getD k false)}}
 |none=>m
def M8(F:List Bool)(m:aX):aX:=(List.range m.S.length).foldl (tu F) m
def aam(F:List Bool)(m:aX):aX:={M8 F m with lost:=max ((M8 F m).lost-1) 0,slot:=(M8 F m).slot+1}
theorem aan(F:List Bool)(m:aX)(k:Nat):(tu F m k).S.length=m.S.length/\(tu F m k).ss=m.ss:=by
 unfold tu;split
 ·exact⟨List.length_set ..,rfl⟩
 ·exact⟨rfl,rfl⟩
theorem QG(F:List Bool):∀(L:List Nat)(m:aX),(L.foldl (tu F) m).S.length=m.S.length/\(L.foldl (tu F) m).ss=m.ss/\(L.foldl (tu F) m).lost=m.lost/\(L.foldl (tu F) m).slot=m.slot
 |[],_=>⟨rfl,rfl,rfl,rfl⟩
 |k::L,m=>by
  have h:=QG F L (tu F m k);have h2:=aan F m k;refine⟨h.1.trans h2.1,h.2.1.trans h2.2,h.2.2.1.trans ?_,h.2.2.2.trans ?_⟩
  ·unfold tu;split<;>rfl
  ·unfold tu;split<;>rfl
theorem Va(F:List Bool):∀(k:Nat)(m:aX)(i:Nat)(s:lM),k<=i->m.S[i]?=some s->((List.range k).foldl (tu F) m).S[i]?=some s
 |0,_,_,_,_,h=>h
 |k+1,m,i,s,hk,h=>by
  rw[List.range_succ,List.foldl_append];have h1:=Va F k m i s (by omega) h;show(tu F ((List.range k).foldl (tu F) m) k).S[i]?=some s;unfold tu;split
  ·rw[List.getElem?_set_ne (by omega)];exact h1
  ·exact h1
theorem H7{β:Type}(g:β->Nat->β)(k:Nat)(y:β):(List.range (k+1)).foldl g y=g ((List.range k).foldl g y) k:=by rw[List.range_succ,List.foldl_append];rfl
structure Vb(m:aX)(i:Nat)(L:bO)(good:Bool):Prop where
 hl:L.length<=32
 hp:∃s,m.S[i]?=some s
 asg:∀(k:Nat)(m':aX)(L':bO)(q:Int×Int),k<L.length->(List.range k).foldl (vo i) (m,L)=(m',L')->L'[k]?=some q->ac0 m' i q
 sn:∀(k:Nat)(m1:aX)(L1:bO)(q:Int×Int),k<L.length->(List.range L.length).foldl (vo i) (m,L)=(m1,L1)->L1[k]?=some q->ac2 ((L1.take k).foldl (vv i) m1) i q
 sz:∀(m1:aX)(L1:bO),(List.range L.length).foldl (vo i) (m,L)=(m1,L1)->ac4 (L1.foldl (vv i) m1) i L1
 rv:good=true->∀(k:Nat)(m1:aX)(L1:bO)(q:Int×Int),k<L.length->(List.range L.length).foldl (vo i) (m,L)=(m1,L1)->L1[k]?=some q->ac5 ((L1.take k).foldl (Cw i) (Jo i (L1.foldl (vv i) m1) L1)) i q
 ak:good=true->∀(m1:aX)(L1:bO),(List.range L.length).foldl (vo i) (m,L)=(m1,L1)->ac6 (L1.foldl (Cw i) (Jo i (L1.foldl (vv i) m1) L1)) i
 xs:∃s:lM,(pG i L.length good m L).S[i]?=some s/\s.sd.Ok
 gv:∀(k:Nat)(q:lX),(M3 i (pG i L.length good m L))[k]?=some q->ac7 (((M3 i (pG i L.length good m L)).take k).foldl (gvM i 3) (pG i L.length good m L)) i q
 tl:ac8 (KU i L.length good m L) i
def yA(F:List Bool)(m m':aX)(i:Int)(L:bO):Prop:=m'=if L=[]then m else DY i.toNat L.length (F.getD i.toNat false) m L
def SlR(F:List Bool)(m:aX)(v:Int)(m':aX):Prop:=
 ((dK (uP m)).act=[]/\v=0/\m'=aam F (dK (uP m)))\/
 ((dK (uP m)).act≠[]/\∃(m3 m4:aX)(i:Int)(L:bO),TE (dK (uP m)) m3 i L/\yA F m3 m4 i L/\v=(L.length:Int)/\m'=aam F m4)
structure Vd(F:List Bool)(m:aX):Prop where
 sl:m.S.length=F.length
 ch:∀(i:Nat)s,m.S[i]?=some s->∃N,s.ch.Ok N/\N<=1000000000
 lo:0<=m.lost/\m.lost<=1000000
 so:0<=m.slot/\m.slot<=1000000
structure Ve(F:List Bool)(m:aX):Prop where
 tab:m.tab.Ok
 sl:m.S.length=F.length
 so:m.slot≠16384
 ex:∀(k:Nat)(f:jd),(dO m.tab.F)[k]?=some f->adm (((dO m.tab.F).take k).foldl Ex m) f
 mb:Qp (uP m)
 al:(dK (uP m)).act.length<=1000
 ob:(dK (uP m)).act=[]->Vd F (dK (uP m))
 dc:(dK (uP m)).act≠[]->D5 (dK (uP m))
 sn:(dK (uP m)).act≠[]->∀(m3:aX)(i:Int)(L:bO),TE (dK (uP m)) m3 i L->L.length<=1000/\(L≠[]->∃k:Nat,i=(k:Int)/\k<F.length/\Vb m3 k L (F.getD k false))/\∀m4,yA F m3 m4 i L->Vd F m4
section
variable{W w w':aF}{R:aJ}{b:Nat}{m:aX}
theorem aao{e:TypeId}{size g n c j:Nat}{xs:dw}{u:aL}(o:Own w (slc e size (some ⟨g,0,none⟩) n c xs::R))(hn:0<n)(hu:xs[j]?=some u):w.cell? ⟨g,j,none⟩=some u:=by obtain⟨g',hg,hc,_,_⟩:=o.aG hn;injection hg with hg;injection hg with hg;subst hg;exact hc j u hu
def fV(a:aY)(n c:Nat)(F:List Bool):SP:=slc 4 1 a n c (F.map Value.bool)
def adn(m:aX)(b:Nat)(F:List jd)(n:Nat)(a:aY)(c:Nat)(l:aJ)(w:aF)(_ v37:aL)(wr:aF):Prop:=
 ∃i:Nat,v37=↑(i:Int)/\i<=n/\Own wr (aK b ((F.take i).foldl Ex m)::slc 167 7 a n c (flat jv F)::l)/\Calm w wr
def ado(m:aX)(b:Nat)(O:List iA)(n:Nat)(l:aJ)(w:aF)(_ v55:aL)(wr:aF):Prop:=
 ∃i:Nat,v55=↑(i:Int)/\i<=n/\Own wr (aK b ((O.take i).foldl (D6 2) m)::l)/\Calm w wr
def adp(F:List Bool)(m:aX)(b:Nat)(x:MB)(n:Nat)(l:aJ)(w:aF)(_ _ aez:aL)(wr:aF):Prop:=
 ∃i:Nat,aez=↑(i:Int)/\i<=n/\Own wr (ah b ((List.range i).foldl (tu F) m) x::l)/\Calm w wr
def Vf(F:List Bool)(m:aX)(b n:Nat)(fa:aY)(fc:Nat)(R:aJ)(w:aF)(v10:aL)(wc:aF):Prop:=
 ∃(v:Int)(m4:aX),v10=↑v/\SlR F m v (aam F m4)/\Vd F m4/\Own wc (aK b m4::fV fa n fc F::R)/\Calm w wc
theorem Jq{F:List Bool}{fa:aY}{n fc:Nat}(hn:F.length=n)(hn16:n<=16)(hP:Ve F m)(o:Own w (aK b m::fV fa n fc F::R)):
  Calls prog 42 #[b,.slice fa n fc] w
   (fun e w'=>∃v m',SlR F m v m'/\aR (.tuple #[.int .i64 v,aC]) (aK b m'::fV fa n fc F::R) w e w'):=by
 obtain⟨x,oX⟩:=ah.of o;obtain⟨xJ,_⟩:=ah.iff.1 oX;obtain⟨c23,hbl⟩:=ah.cell (k:=23) rfl oX;obtain⟨c16,_⟩:=ah.cell (k:=16) rfl oX;obtain⟨c20,_⟩:=ah.cell (k:=20) rfl oX;change World.cell? _ ⟨b,23,none⟩=some (.slice x.sa m.ss.length x.sc)at c23;change World.cell? _ ⟨b,16,none⟩=some ↑m.slot at c16;change World.cell? _ ⟨b,20,none⟩=some (.pointer (some ⟨x.tb,0,none⟩))at c20;have hns:m.ss.length=n:=by rw[xJ.2,hP.sl,hn]
 rw[hns]at c23;have HN:=az hn;have HP:=az hP;have hso:(m.slot==16384)=false:=by have:=hP.so;simpa using this
 have Qq:=hP.tab;have U2:=ah.SL (P:=prog) (g:=56) (args:=#[x.tb]) (v:=fun y:aY×Nat=>.slice y.1 (dO m.tab.F).length y.2) (E:=fun y=>[slc 167 7 y.1 (dO m.tab.F).length y.2 (flat jv (dO m.tab.F))])
  (fun R1 oo=>(zn Qq oo).mono fun e w'⟨a',c',h⟩=>⟨(a',c'),h⟩) oX
 obtain⟨FL,hF⟩:=aP (dO m.tab.F);have Tn:FL.length<=32:=by rw[<-hF];unfold dO;rw[iP];exact Nat.le_trans (List.length_filter_le _ _) Qq.fl
 have HXM:=az (show FL.foldl Ex m=uP m by rw[<-hF];rfl);have HEX:=az hP.ex;rw[hF]at U2 HEX;obtain⟨nf,hnf⟩:=aP FL.length;have HNF:=az hnf;rw[hnf]at U2 Tn;clear hnf hF hP xJ hns Qq o oX hn;go_enter func42,ntmps42;go_wp2_with fail;refine U2.mono ?_;rintro _ w3⟨⟨a3,c3⟩,rfl,o3,k3⟩;have hT:adn m b FL nf a3 c3 (fV fa n fc F::R) w undef (.int .i64 0) w3:=⟨0,rfl,by omega,ah.to (o3.re [1]),k3⟩;clear U2 c20 c16 c23 hbl o3 k3 hso;go_wp2;go_loopw[7,37] (fun v7 v37 wr=>adn m b FL nf a3 c3 (fV fa n fc F::R) w v7 v37 wr) (fun _ v _=>nf-(Lib.intOf v).toNat);case atStart=>exact hT
 case round=>
  clear hT;obtain⟨j,rfl,hj,oR,kR⟩:=hrel;by_cases hjl:j<nf
  ·obtain⟨f,hf⟩:∃f,FL[j]?=some f:=⟨_,cZ (by rw[HNF.out];exact hjl)⟩;have hE:=HEX.out j f hf;have Ee:=az (lH Ex FL j f hf m);obtain⟨mk,hmk⟩:=aP ((FL.take j).foldl Ex m);have U1:=az hmk;rw[hmk]at oR hE;obtain⟨jq,q,aeA,hq,hpb,PO,hds⟩:=hE.ex;obtain⟨x',oX⟩:=ah.of oR;obtain⟨xJ,_⟩:=ah.iff.1 oX;obtain⟨pq,hpq⟩:∃p,mk.qs[jq]?=some p:=⟨_,cZ (by rw[xJ.1];exact(eU.1 hq).1)⟩;obtain⟨g,rfl,hc,_,hgl⟩:=(oX.up 1).aG (by omega);have e0:=hc (j*7+0) f.id (by rw[aB dN FL j 0 f hf (by omega)];rfl);have e1:=hc (j*7+1) f.fU (by rw[aB dN FL j 1 f hf (by omega)];rfl);have e2:=hc (j*7+2) f.wt (by rw[aB dN FL j 2 f hf (by omega)];rfl);have e3:=hc (j*7+3) f.pk (by rw[aB dN FL j 3 f hf (by omega)];rfl);have e4:=hc (j*7+4) f.eG (by rw[aB dN FL j 4 f hf (by omega)];rfl);have e5:=hc (j*7+5) f.lag (by rw[aB dN FL j 5 f hf (by omega)];rfl);have e6:=hc (j*7+6) f.lead (by rw[aB dN FL j 6 f hf (by omega)];rfl);rw[Nat.add_zero]at e0;rw[aeA]at e0;have oA:Own (wr.alloc (.cells #[(jq:Int),f.fU,f.wt,f.pk,f.eG,f.lag,f.lead] 167)) (aH wr.heap.size 167 [(jq:Int),f.fU,f.wt,f.pk,f.eG,f.lag,f.lead]::ah b mk x'::_):=oX.alloc (.cells #[(jq:Int),f.fU,f.wt,f.pk,f.eG,f.lag,f.lead] 167);have kA:=aj (x:=.cells #[(jq:Int),f.fU,f.wt,f.pk,f.eG,f.lag,f.lead] 167) kR;have ahV:=az aeA;have HQ:=az hq;have WG:=az hpq;have HDS:=az hds;clear hc hf hmk oX oR kR hE aeA xJ;go_upto_region 8 with fail;clear e0 e1 e2 e3 e4 e5 e6 hgl;generalize wr.alloc (.cells #[(jq:Int),f.fU,f.wt,f.pk,f.eG,f.lag,f.lead] 167)=w4 at*;generalize wr.heap.size=kx at*;have XY:=ah.UL (P:=prog) (g:=57) (args:=#[pq,mk.slot]) (v:=fun y:aY×Nat=>.slice y.1 (AQ q mk.slot).length y.2) (E:=fun y=>[slc 170 5 y.1 (AQ q mk.slot).length y.2 (flat bR (AQ q mk.slot))]) (q2:=PE q mk.slot) hpq hq
    (fun R1 oo=>(Gx hpb PO oo).mono fun e w'⟨a',c',h⟩=>⟨(a',c'),h⟩) (oA.drew.up 1)
   obtain⟨O,hO⟩:=aP (AQ q mk.slot);have hOl:O.length<=1000:=by rw[<-hO];unfold AQ;exact Nat.le_trans (List.length_filter_le _ _) PO
   have HO:=az hO;rw[hO]at XY HDS;obtain⟨np,hnp⟩:=aP O.length;have X0:=az hnp;rw[hnp]at XY hOl;have f0:=oA.cell 0;change World.cell? _ ⟨kx,0,none⟩=some ↑(jq:Int)at f0;obtain⟨gq,Xg,EU,cqj,Qs,M0,Tw⟩:=ah.ym hpq (oA.up 1);obtain⟨c16,_⟩:=ah.cell (k:=16) rfl (oA.up 1);change World.cell? _ ⟨b,16,none⟩=some ↑mk.slot at c16;obtain⟨nq,hnq⟩:=aP mk.qs.length;have HNQ:=az hnq;have HGQ:=az Xg;rw[hnq]at EU Tw;clear hq hpq hnq Xg hds hpb hnp hO PO
   go_region_held3(fun w'=>w'.cell? ⟨kx,0,none⟩=some ↑(jq:Int)/\w'.cell? ⟨b,22,none⟩=some (.slice (some ⟨gq,0,none⟩) nq x'.qc)/\w'.cell? ⟨gq,jq,none⟩=some (.pointer (some ⟨pq,0,none⟩))/\w'.cell? ⟨b,16,none⟩=some ↑mk.slot) (go_keep) (first
    |(go_at_call 57;(with_reducible refine Calls.mono XY ?_);rintro _ w8⟨⟨a8,c8⟩,rfl,o8,k8⟩;obtain⟨g8,Cx,z22,zqj,_,_,_⟩:=ah.ym (show({mk with Q:=mk.Q.set jq (PE q mk.slot)}:aX).qs[jq]?=some pq from WG.out) (o8.up 1);rw[HGQ.out]at Cx;injection Cx with Cx;injection Cx with Cx;subst Cx;change World.cell? _ ⟨b,22,none⟩=some (.slice (some ⟨gq,0,none⟩) mk.qs.length x'.qc)at z22;rw[HNQ.out]at z22;obtain⟨z16,_⟩:=ah.cell (k:=16) rfl (o8.up 1);change World.cell? _ ⟨b,16,none⟩=some ↑mk.slot at z16;have z0:=(o8.up 2).cell 0;change World.cell? w8 ⟨kx,0,none⟩=some ↑(jq:Int)at z0;clear XY))
   have K8:=(aD kA).trans k8
   have Ro:=az (show Ex mk f=O.foldl (D6 2) {mk with Q:=mk.Q.set jq (PE q mk.slot)}by
    unfold Ex;rw[ahV.out,Int.toNat_natCast,HQ.out];dsimp only
    rw[HO.out])
   obtain⟨m1,hm1⟩:=aP (({mk with Q:=mk.Q.set jq (PE q mk.slot)}:aX));rw[hm1]at o8 Ro HDS;have Ef:ado m1 b O np (slc 170 5 a8 np c8 (flat bR O)::aH kx 167 [(jq:Int),f.fU,f.wt,f.pk,f.eG,f.lag,f.lead]::slc 167 7 (some ⟨g,0,none⟩) nf c3 (flat jv FL)::fV fa n fc F::R) w undef (.int .i64 0) w8:=⟨0,rfl,by omega,ah.to (o8.re [1]),K8⟩;clear o8 k8 K8 kA oA z22 zqj z16 z0 f0 EU cqj c16 hm1 Qs M0;go_wp2;go_loopw[9,55] (fun v9 v55 wr=>ado m1 b O np (slc 170 5 a8 np c8 (flat bR O)::aH kx 167 [(jq:Int),f.fU,f.wt,f.pk,f.eG,f.lag,f.lead]::slc 167 7 (some ⟨g,0,none⟩) nf c3 (flat jv FL)::fV fa n fc F::R) w v9 v55 wr) (fun _ v _=>np-(Lib.intOf v).toNat);case atStart=>exact Ef
   case round=>
    clear Ef;obtain⟨i,rfl,hi,oR,kR⟩:=hrel;by_cases hil:i<np
    ·obtain⟨p,hp⟩:∃p,O[i]?=some p:=⟨_,cZ (by rw[X0.out];exact hil)⟩;have hD:=HDS.out i p hp;have HNY:=az (lH (D6 2) O i p hp m1);obtain⟨ml,hml⟩:=aP ((O.take i).foldl (D6 2) m1);have HML:=az hml;rw[hml]at oR hD;obtain⟨kp,NN,pk,aeB,hpk,hk6,nG,X3⟩:=hD.ex;have Iz:=hD.lg;obtain⟨gp,rfl,hc,_,hgl⟩:=(oR.up 1).aG (by omega);have e0:=hc (i*5+0) p.id (by rw[aB aT O i 0 p hp (by omega)];rfl);have e1:=hc (i*5+1) p.fl (by rw[aB aT O i 1 p hp (by omega)];rfl);have e2:=hc (i*5+2) p.len (by rw[aB aT O i 2 p hp (by omega)];rfl);have e3:=hc (i*5+3) p.ar (by rw[aB aT O i 3 p hp (by omega)];rfl);have e4:=hc (i*5+4) p.dl (by rw[aB aT O i 4 p hp (by omega)];rfl);rw[Nat.add_zero]at e0;have oA:=oR.alloc (.cells #[p.id,p.fl,p.len,p.ar,p.dl] 170);have kA:=aj (x:=.cells #[p.id,p.fl,p.len,p.ar,p.dl] 170) kR;have hDr:=GH (reason:=2) hpk hk6 nG X3 Iz (oA.up 1);rw[<-aeB]at hDr;have ahW:=az aeB;have QS:=az hpk;clear hc hp hml hD oA oR kR aeB hpk nG Iz hk6 X3;go_wp2_with fail;refine hDr.mono ?_;rintro _ w6⟨rfl,o6,k6⟩;clear hDr e0 e1 e2 e3 e4;go_wp2;go_roundw;case rel=>refine⟨i+1,by go_num,by omega,?_,kA.trans k6⟩;rw[HNY.out,HML.out];unfold D6;rw[show p.id.toNat-1=kp by rw[ahW.out];omega,QS.out];dsimp only;exact o6.re [1] 1
     case measure=>simp[Lib.intOf];omega
    ·have hin:i=np:=by omega
     have hT3:(O.take i).foldl (D6 2) m1=Ex mk f:=by rw[hin,<-X0.out,List.take_length,Ro.out]
     rw[hT3]at oR;subst hin;clear hT3;go_wp2;go_roundw;case rel=>refine⟨j+1,by go_num,by omega,?_,kR⟩;rw[Ee.out,U1.out];exact oR.re [1,2] 2
     case measure=>simp[Lib.intOf];omega
  ·have hjn:j=nf:=by omega
   have Ef:(FL.take j).foldl Ex m=uP m:=by rw[hjn,<-HNF.out,List.take_length,HXM.out]
   rw[Ef]at oR;subst hjn;clear Ef hj hjl;have hMb:=Jm HP.out.mb oR;go_wp2_with fail;refine hMb.mono ?_;rintro _ w4⟨rfl,o4,k4⟩;have K4:=kR.trans k4;obtain⟨m2,hm2⟩:=aP (dK (uP m));have BP:=az hm2;rw[hm2]at o4;have hal:=HP.out.al;rw[hm2]at hal;obtain⟨na,hna⟩:=aP m2.act.length;have HNA:=az hna;obtain⟨x2,V7⟩:=ah.of o4;obtain⟨Ev,hbl⟩:=ah.cell (k:=27) rfl V7;change World.cell? _ ⟨b,27,none⟩=some (.slice x2.aa m2.act.length x2.ac)at Ev;rw[hna]at Ev hal;clear hMb oR kR k4 hm2 hna;go_upto_if 72 with fail;go_cut[10] (fun v10 wc=>Vf F m b n fa fc R w v10 wc);case first=>
    by_cases agn:na=0
    ·subst agn;have hae:m2.act=[]:=List.length_eq_zero_iff.1 HNA.out;have X4:=HP.out.ob (by rw[BP.out];exact hae);rw[BP.out]at X4;have hmid:Vf F m b n fa fc R w (.int .i64 0) w4:=⟨0,m2,rfl,.inl ⟨by rw[BP.out];exact hae,rfl,by rw[BP.out]⟩,X4,o4.re [1] 1,K4⟩;clear hae X4 o4 V7 K4;go_wp2;go_meet;exact hmid
    ·have hae:m2.act≠[]:=fun h=>agn (by rw[<-HNA.out,h];rfl);have hap:0<na:=by omega
     have hdc:=HP.out.dc (by rw[BP.out];exact hae);rw[BP.out]at hdc;have hDc:=M7 hdc V7;have HAE:=az hae;clear hdc hae V7;go_wp2_with fail;refine hDc.mono ?_;intro e5 w5 h5;unfold aal at h5;obtain⟨m3,i,L,a5,c5,hdr,rfl,o5,k5⟩:=h5;have K5:=K4.trans k5;have hsn:=HP.out.sn (by rw[BP.out];exact HAE.out) m3 i L (by rw[BP.out];exact hdr);obtain⟨hLl,hLs,hLo⟩:=hsn;obtain⟨nl,hnl⟩:=aP L.length;have Nv:=az hnl;have HDR:=az hdr;rw[hnl]at o5 hLl;rw[hnl];clear hDc Ev o4 K4 k5 hnl hdr hal;by_cases hL0:nl=0
     ·subst hL0;have Z_:L=[]:=List.length_eq_zero_iff.1 Nv.out;have hse:yA F m3 m3 i L:=by unfold yA;rw[if_pos Z_]
      have hmid:Vf F m b n fa fc R w (.int .i64 0) w5:=⟨0,m3,rfl,.inr ⟨by rw[BP.out];exact HAE.out,m3,m3,i,L,by rw[BP.out];exact HDR.out,hse,by rw[Nv.out];rfl,rfl⟩,hLo _ hse,o5.re [0,2] 2,K5⟩;clear Z_ hse hLs hLo o5 K5;go_wp2;go_meet;exact hmid
     ·have hLn:L≠[]:=fun h=>hL0 (by rw[<-Nv.out,h];rfl);have hlp:0<nl:=by omega
      obtain⟨k,rfl,hk,hsp⟩:=hLs hLn;obtain⟨s,hs⟩:=hsp.hp;obtain⟨x3,oX3⟩:=ah.of (o5.up 1);obtain⟨xJ,_⟩:=ah.iff.1 oX3;obtain⟨p,hp⟩:∃p,m3.ss[k]?=some p:=⟨_,cZ (by rw[xJ.2];exact(eU.1 hs).1)⟩;rw[HN.out]at hk;obtain⟨gd,hgd⟩:∃g,F[k]?=some g:=⟨_,cZ (by rw[HN.out];exact hk)⟩;have hgd2:F.getD k false=gd:=by rw[Eb,hgd];rfl
      rw[hgd2]at hsp;have hSe:=Tq (a:=a5) (c:=c5) Nv.out (by rw[<-Nv.out];exact hsp.hl) hp (by rw[<-Nv.out];exact hsp.asg) (by rw[<-Nv.out];exact hsp.sn) (by rw[<-Nv.out];exact hsp.sz) (by rw[<-Nv.out];exact hsp.rv) (by rw[<-Nv.out];exact hsp.ak) (by rw[<-Nv.out];exact hsp.xs) (by rw[<-Nv.out];exact hsp.gv) (by rw[<-Nv.out];exact hsp.tl) (o5.re [1]);have hfl:Own w5 (slc 4 1 fa n fc (F.map Value.bool)::_):=o5.up 3;obtain⟨gf,hgf,hcf,_,agp⟩:=hfl.aG (by omega);have ef:=hcf k (.bool gd) (by rw[kI,hgd];rfl);have hse:yA F m3 (DY k nl gd m3 L) (k:Int) L:=by unfold yA;rw[if_neg hLn,Int.toNat_natCast,hgd2,Nv.out]
      have ahX:=az (fun(w6:aF)(o6:Own w6 (aK b (DY k nl gd m3 L)::fV fa n fc F::R))(k6:Calm w w6)=>show Vf F m b n fa fc R w (.int .i64 (nl:Int)) w6 from⟨(nl:Int),_,rfl,.inr ⟨by rw[BP.out];exact HAE.out,m3,_,(k:Int),L,by rw[BP.out];exact HDR.out,hse,by rw[Nv.out],rfl⟩,hLo _ hse,o6,k6⟩);have HGF:=az hgf;rw[hgf];clear hcf hfl hse hLs hLo hsp hs hp xJ oX3 hgd hgd2 hLn hgf;go_wp2_with fail;refine hSe.mono ?_;rintro _ w6⟨rfl,o6,k6⟩;have hmid:=ahX.out w6 (o6.re [1,2] 2) (K5.trans k6);clear hSe ef o5 K5 o6 k6;go_wp2;rw[<-HGF.out];go_meet;exact hmid
   case rest=>
    clear o4 K4 Ev hbl V7 hal;obtain⟨v,m4,rfl,hsl,X4,oC,kC⟩:=hcut;obtain⟨x4,oX4⟩:=ah.of oC;obtain⟨agq,_⟩:=ah.iff.1 oX4;have aeC:m4.ss.length=n:=by rw[agq.2,X4.sl,HN.out]
    obtain⟨c23,hbl⟩:=ah.cell (k:=23) rfl oX4;change World.cell? _ ⟨b,23,none⟩=some (.slice x4.sa m4.ss.length x4.sc)at c23;rw[aeC]at c23;obtain⟨sa4,aeD⟩:=aP x4.sa;rw[aeD]at c23;have HSA:=az aeD;clear aeD;have HOB:=az X4;have agr:=az aeC;have HSL:=az hsl;have hT3:adp F m4 b x4 n (fV fa n fc F::R) w undef undef (.int .i64 0) wc:=⟨0,rfl,by omega,oX4,kC⟩;clear X4 aeC hsl oC kC oX4 agq Tn;go_wp2;clear c23 hbl;go_loopw[14,15,103] (fun v14 v15 aez wr=>adp F m4 b x4 n (fV fa n fc F::R) w v14 v15 aez wr) (fun _ _ v _=>n-(Lib.intOf v).toNat);case atStart=>exact hT3
    case round=>
     clear hT3;obtain⟨i,rfl,hi,oR,kR⟩:=hrel;have hall:=QG F (List.range i) m4;by_cases hil:i<n
     ·obtain⟨s,hs⟩:∃s,m4.S[i]?=some s:=⟨_,cZ (by rw[HOB.out.sl,HN.out];exact hil)⟩;have hsi:=Va F i m4 i s (Nat.le_refl _) hs;obtain⟨NN,hch,X3⟩:=HOB.out.ch i s hs;have Ee:=az (H7 (tu F) i m4);obtain⟨mk,hmk⟩:=aP ((List.range i).foldl (tu F) m4);have U1:=az hmk;rw[hmk]at oR hsi hall;obtain⟨p,hp⟩:∃p,mk.ss[i]?=some p:=⟨_,cZ (by rw[hall.2.1,agr.out];exact hil)⟩;obtain⟨gd,hgd⟩:∃g,F[i]?=some g:=⟨_,cZ (by rw[HN.out];exact hil)⟩;have hgd2:F.getD i false=gd:=by rw[Eb,hgd];rfl
      obtain⟨g,hg,c23,cO,hbl,hgl,_⟩:=ah.DN hp oR;rw[hall.2.1,agr.out]at c23;obtain⟨a,d,r,hpt⟩:=ah.pts hp hsi oR;have aap:=hpt.drewN 1;have hOb:=ah.chn (P:=prog) (g:=62) (args:=#[.pointer (some ⟨a,0,none⟩),.bool gd]) hp hsi (show fu wr.drew p a d r from aap) (gy.one fun R1 oo=>Ow gd hch X3 oo) oR.drew;have p0:=hpt.c0;have pl:=hpt.lt;have hfl:Own wr (slc 4 1 fa n fc (F.map Value.bool)::_):=oR.up 1;obtain⟨gf,rfl,hcf,_,agp⟩:=hfl.aG (by omega);have ef:=hcf i (.bool gd) (by rw[kI,hgd];rfl);have hg':sa4=some ⟨g,0,none⟩:=HSA.out.symm.trans hg;subst hg';have HSI:=az hsi;have HGD:=az hgd2;have HGE:=az hgd;have HPP:=az hp;clear hcf hfl hs hsi hch X3 hmk hall hgd hgd2 hp hpt aap hg;go_upto_region 27 with fail
      go_region_held3(fun w'=>w'.cell? ⟨p,0,none⟩=some (.pointer (some ⟨a,0,none⟩))/\w'.cell? ⟨gf,i,none⟩=some (.bool gd)) (go_keep) (first
       |(go_at_call 62;(with_reducible refine Calls.mono hOb ?_);rintro _ w8⟨⟨⟩,hp8,rfl,o8,k8⟩;have z0:=hp8.c0;have zf:World.cell? w8 ⟨gf,i,none⟩=some (.bool gd):=aao (o8.up 1) (by omega) (by rw[kI,HGE.out];rfl);clear hOb))
      have KD:=(aD kR).trans k8;clear z0 zf hp8 oR kR k8 p0 pl ef;go_wp2;go_roundw;case rel=>refine⟨i+1,by go_num,by omega,?_,KD⟩;rw[Ee.out,U1.out];unfold tu;rw[HSI.out];dsimp only;rw[HGD.out];exact o8
      case measure=>simp[Lib.intOf];omega
     ·have hin:i=n:=by omega
      have X4:(List.range i).foldl (tu F) m4=M8 F m4:=by unfold M8;rw[hin,HOB.out.sl,HN.out]
      rw[X4]at oR hall;have HEM:=az (show aam F m4={M8 F m4 with lost:=max ((M8 F m4).lost-1) 0,slot:=(M8 F m4).slot+1}from rfl);obtain⟨mo,hmo⟩:=aP (M8 F m4);rw[hmo]at oR hall HEM;have hlo:=HOB.out.lo;have hso:=HOB.out.so;rw[<-hall.2.2.1]at hlo;rw[<-hall.2.2.2]at hso;subst hin;obtain⟨c19,hbl⟩:=ah.cell (k:=19) rfl oR;obtain⟨c16,_⟩:=ah.cell (k:=16) rfl oR;change World.cell? _ ⟨b,19,none⟩=some ↑mo.lost at c19;change World.cell? _ ⟨b,16,none⟩=some ↑mo.slot at c16;have hfz:=ah.frozen oR;have hw1:IntKind.i64.wrap (mo.lost-1)=mo.lost-1:=by rw[gB];omega
      have hw2:IntKind.i64.wrap (mo.slot+1)=mo.slot+1:=by rw[gB];omega
      have o1:=ah.afJ (m:=mo) (x:=x4) (m':={mo with lost:=max (mo.lost-1) 0}) (x':=x4) 19 (.int .i64 (max (mo.lost-1) 0)) rfl rfl ⟨rfl,rfl,rfl,rfl⟩ oR;have o2:=ah.afJ (m:={mo with lost:=max (mo.lost-1) 0}) (x:=x4) (m':={mo with lost:=max (mo.lost-1) 0,slot:=mo.slot+1}) (x':=x4) 16 (.int .i64 (mo.slot+1)) rfl rfl ⟨rfl,rfl,rfl,rfl⟩ o1;have K2:=ay (x:=⟨b,16,none⟩) (v:=.int .i64 (mo.slot+1)) (ay (x:=⟨b,19,none⟩) (v:=.int .i64 (max (mo.lost-1) 0)) kR);rw[<-HEM.out]at o2;clear o1 oR kR hall X4 hmo;go_wp2;go_ret2;exact⟨v,_,HSL.out,rfl,ah.to o2,K2⟩
theorem Ib(F:List (jd×Bool))(i:Int):∃c0 c1 c2 c3 c4 c5 c6:Int,GJ F i=.tuple #[.agg #[c0,c1,c2,c3,c4,c5,c6],.bool (lG F i).isSome]/\∀f,lG F i=some f->c1=f.fU:=by
 unfold GJ;cases lG F i with
 |none=>exact⟨0,0,0,0,0,0,0,rfl,fun f h=>by cases h⟩
 |some f=>exact⟨f.id,f.fU,f.wt,f.pk,f.eG,f.lag,f.lead,rfl,fun f h=>by injection h with h;rw[h]⟩
theorem Ic{x:MB}{v:aL}{i:Int}(hT:m.tab.Ok)(hv:GJ m.tab.F i=v)(o:Own w (ah b m x::R)):Calls prog 66 #[x.tb,i] w (aR v (ah b m x::R) w):=by subst hv;refine(ah.SL (gy.one fun R1 oo=>rH i hT oo) o).mono ?_;rintro e w'⟨⟨⟩,h1,h2,h3⟩;exact⟨h1,h2,h3⟩
def tC(m:aX)(s:ByteArray):aX×Int×Int:=
 if(jY s.data.toList).2≠0 then(m,0,(jY s.data.toList).2)
 else if(lG m.tab.F (jY s.data.toList).1.gK).isSome=false then(m,0,6)
 else if m.rules.length=32 then(m,0,4)
 else({m with rules:=m.rules++[(jY s.data.toList).1]},(m.rules.length:Int),0)
theorem TF{s:ByteArray}(hT:m.tab.Ok)(hs:s.size<=1000000)(hr:m.rules.length<=32)(hm:AU W)(o:Own w (aK b m::old W::R)):
  Calls prog 47 #[b,.string s] w (aR (.tuple #[.int .i64 (tC m s).2.1,.int .i64 (tC m s).2.2]) (aK b (tC m s).1::old W::R) w):=by
 obtain⟨x,oX⟩:=ah.of o;have EX:=M9 s hs hm (oX.up 1);obtain⟨⟨r,er⟩,hpr⟩:∃p,jY s.data.toList=p:=⟨_,rfl⟩;have A9:=az (show tC m s=(if er≠0 then(m,0,er)else if(lG m.tab.F r.gK).isSome=false then(m,0,6)else if m.rules.length=32 then(m,0,4)else({m with rules:=m.rules++[r]},(m.rules.length:Int),0))by unfold tC;rw[hpr]);obtain⟨res,hres⟩:=aP (tC m s);rw[hres]at A9⊢;have HT:=az hT;rw[hpr]at EX;unfold X5 ruV at EX;dsimp only at EX;clear hpr hres hT o;go_enter func47,ntmps47;go_wp2_with fail;refine EX.mono ?_;rintro _ w2⟨rfl,o2,k2⟩;have oA:Own (w2.alloc (.cells #[.string (dx r.st),r.cls,r.first,r.last,r.gK] 206)) (aH w2.heap.size 206 [.string (dx r.st),r.cls,r.first,r.last,r.gK]::old W::ah b m x::R):=o2.alloc (.cells #[.string (dx r.st),r.cls,r.first,r.last,r.gK] 206);have kA:=aj (x:=.cells #[.string (dx r.st),r.cls,r.first,r.last,r.gK] 206) k2;by_cases her:er=0;rotate_left
 ·have dn:(er !=0)=true:=by rw[bne_iff_ne];exact her
  have HR:=az (show res=(m,0,er)by rw[A9.out,if_pos her]);clear her EX;go_wp2;go_ret2;rw[HR.out];exact⟨rfl,ah.to ((oA.re [2,1]).re [0,1,2]|>fun oo=>(oo.re [2] 1)),kA⟩
 ·have HER:=az her;have dn:(er !=0)=false:=by rw[HER.out];rfl
  clear her EX;go_upto_region 4 with fail;generalize w2.alloc (.cells #[.string (dx r.st),r.cls,r.first,r.last,r.gK] 206)=w3 at*;generalize w2.heap.size=kr at*;have oB:Own w3 (ah b m x::aH kr 206 [.string (dx r.st),r.cls,r.first,r.last,r.gK]::old W::R):=oA.re [2,0,1];obtain⟨c0,c1,c2,c3,c4,c5,c6,hfv,_⟩:=Ib m.tab.F r.gK;obtain⟨tb,htb⟩:=aP ((lG m.tab.F r.gK).isSome);rw[htb]at hfv;have HTB:=az htb;have aex:=az (fun(w1:aF)(R1:aJ)(oo:Own w1 (ah b m x::R1))=>Ic HT.out hfv oo);clear oA o2 k2 htb hfv dn;obtain⟨R9,hR9⟩:=aP (old W::R);have HR9:=az hR9;rw[hR9]at oB;clear hR9;refine bY (fun L v wc=>Own wc (Pb (L 10) (L 11) (v 10) 167 [aC,aC,aC,aC,aC,aC,aC] [c0,c1,c2,c3,c4,c5,c6]::ah b m x::aH kr 206 [.string (dx r.st),r.cls,r.first,r.last,r.gK]::R9)/\Calm w wc/\ji (fun i=>([some (.pointer (some ⟨b,0,none⟩)),some (.pointer (some ⟨b,0,none⟩)),some (.pointer (some ⟨b,20,none⟩)),some (.pointer (some ⟨x.tb,0,none⟩)),some (.pointer (some ⟨kr,4,none⟩)),some (.int .i64 r.gK),some (.tuple #[.agg #[c0,c1,c2,c3,c4,c5,c6],.bool tb]),some (.tuple #[.agg #[c0,c1,c2,c3,c4,c5,c6],.bool tb]),some (.agg #[c0,c1,c2,c3,c4,c5,c6]),some (.bool tb),none,none,some (.bool tb)]:List (Option aL)).getD i none) L v) (by kernel_rfl) (by kernel_rfl) (by kernel_rfl) ?h0 ?step ?fin;case h0=>exact⟨Pb.no oB.drew,aD kA,ji.no⟩
  case step=>
   refine⟨au.mk rfl ?_,au.mk rfl ?_,au.mk rfl ?_,au.mk rfl ?_,au.mk rfl ?_,au.mk rfl ?_,au.mk rfl ?_,au.mk rfl ?_,au.mk rfl ?_,au.mk rfl ?_,au.mk rfl ?_,au.mk rfl ?_,au.mk rfl ?_,trivial⟩;all_goals intro L v Gg wc hL hd hA hI K' hK
   all_goals obtain⟨oD,kD,hv⟩:=hI
   all_goals simp[Region.binds]at hd
   all_goals have HV:=az hv
   all_goals clear hv
   ·have OX:=hA.base 0 (by rfl);simp only[o_,pJ,p8]at OX;go_simp;exact hK.out _ _ ⟨oD,kD,HV.out.put 0 dS⟩
   ·have Nz:L 0=true:=by simp[hd]
    have ai4:=hA.gt HV 0 Nz;go_simp;exact hK.out _ _ ⟨oD,kD,HV.out.put 1 dS⟩
   ·have NA:L 1=true:=by simp[hd]
    have ai5:=hA.gt HV 1 NA;go_simp;exact hK.out _ _ ⟨oD,kD,HV.out.put 2 dS⟩
   ·have RQ:L 2=true:=by simp[hd]
    have ai6:=hA.gt HV 2 RQ;have u_:=(ah.cell (k:=20) rfl (oD.up 1)).1;change World.cell? _ ⟨b,20,none⟩=some (.pointer (some ⟨x.tb,0,none⟩))at u_;go_simp;exact hK.out _ _ ⟨oD,kD,HV.out.put 3 dS⟩
   ·have c6_:=hA.base 6 (by rfl);simp only[o_,pJ,rO,p8]at c6_;go_simp;exact hK.out _ _ ⟨oD,kD,HV.out.put 4 dS⟩
   ·have V4:L 4=true:=by simp[hd]
    have ai7:=hA.gt HV 4 V4;have u_:=Own.cell (T:=206) (vs:=[.string (dx r.st),r.cls,r.first,r.last,r.gK]) (oD.up 2) 4 rfl;change World.cell? _ ⟨kr,4,none⟩=some ↑r.gK at u_;go_simp;exact hK.out _ _ ⟨oD,kD,HV.out.put 5 dS⟩
   ·have RU:L 3=true:=by simp[hd]
    have ai8:=hA.gt HV 3 RU;have V5:L 5=true:=by simp[hd]
    have ai9:=hA.gt HV 5 V5;go_simp;refine(aex.out _ _ (oD.up 1)).mono ?_;rintro _ w3_⟨rfl,Xd,Xe⟩;exact hK.out _ _ ⟨Xd.re [1],kD.trans Xe,HV.out.put 6 dS⟩
   ·have V6:L 6=true:=by simp[hd]
    have aja:=hA.gt HV 6 V6;go_simp;exact hK.out _ _ ⟨oD,kD,HV.out.put 7 dS⟩
   ·have Ma:L 7=true:=by simp[hd]
    have aey:=hA.gt HV 7 Ma;go_simp;exact hK.out _ _ ⟨oD,kD,HV.out.put 8 dS⟩
   ·have Ma:L 7=true:=by simp[hd]
    have aey:=hA.gt HV 7 Ma;go_simp;exact hK.out _ _ ⟨oD,kD,HV.out.put 9 dS⟩
   ·rw[hL]at oD;go_simp;exact hK.out _ _ ⟨Pb.new oD,aj kD,HV.out.put 10 (fun _ h=>by cases h)⟩
   ·have zh:L 10=true:=by simp[hd]
    have c8_:=hA.get 10 zh;have UN:L 8=true:=by simp[hd]
    have ajb:=hA.gt HV 8 UN;rw[zh,hL]at oD;obtain⟨gN,hgN,oN⟩:=Pb.val oD;rw[hgN]at c8_;have hgN:=az hgN;obtain⟨nf_,nl_,n0_,n1_,n2_,n3_,n4_,n5_,n6_,-⟩:=oN.cs;go_simp;have oY:=(((((((oN.setCell 0 c0).setCell 1 c1).setCell 2 c2).setCell 3 c3).setCell 4 c4).setCell 5 c5).setCell 6 c6);have oQ:=Pb.put (l:=L 10) (v:=v 10) (zs:=[aC,aC,aC,aC,aC,aC,aC]) oY zh hgN.out;exact hK.out undef _ ⟨oQ,ay (ay (ay (ay (ay (ay (ay (kD))))))),HV.out.put 11 (fun _ h=>by cases h)⟩
   ·have XW:L 9=true:=by simp[hd]
    have ajc:=hA.gt HV 9 XW;go_simp;exact hK.out _ _ ⟨oD,kD,HV.out.put 12 dS⟩
  case fin=>
   rintro L v wc hall⟨oD,kD,hv⟩;have GX:=hv 12 _ rfl (hall 12 (by decide));rw[hall 10 (by decide),hall 11 (by decide)]at oD;obtain⟨gN,hgN,oN⟩:=Pb.got oD;clear hv hall oD oB kA;simp only[jV,Act.put,List.setIfInBounds_toArray,List.set_cons_zero,List.set_cons_succ,Nat.zero_add,Nat.reduceAdd];rw[hgN,GX];clear hgN GX;rw[<-HR9.out]at oN;cases tb with
   |false=>have HR:=az (show res=(m,0,6)by rw[A9.out,HER.out,if_neg (by decide),if_pos HTB.out]);go_wp2;go_ret2;rw[HR.out];exact⟨rfl,ah.to (oN.re [1,0,2] 0|>fun oo=>oo.re [1,2] 2),kD⟩
   |true=>
    obtain⟨nr,hnr⟩:=aP m.rules.length;have QV:=az hnr;rw[hnr]at hr;obtain⟨c21,cl⟩:=ah.cell (k:=21) rfl (oN.up 1);change World.cell? _ ⟨b,21,none⟩=some (.slice x.ua m.rules.length x.uc)at c21;rw[hnr]at c21;clear hnr;by_cases h32:nr=32
    ·have HR:=az (show res=(m,0,4)by rw[A9.out,HER.out,if_neg (by decide),if_neg (by rw[HTB.out];decide),if_pos (by rw[QV.out,h32])]);subst h32;go_wp2;go_ret2;rw[HR.out];exact⟨rfl,ah.to (oN.re [1,0,2] 0|>fun oo=>oo.re [1,2] 2),kD⟩
    ·have HR:=az (show res=({m with rules:=m.rules++[r]},(nr:Int),0)by rw[A9.out,HER.out,if_neg (by decide),if_neg (by rw[HTB.out];decide),if_neg (by rw[QV.out];exact h32),QV.out]);have hb:((nr:Int)==32)=false:=by rw[Ec];omega
     have hlt:nr<32:=by omega
     clear h32 hr;go_upto_region 9 with fail;clear hb;obtain⟨xJ,UA⟩:=ah.iff.1 (oN.up 1);have XX:=az xJ;obtain⟨q0,q1,q2,q3,q4⟩:=r;obtain⟨-,pl,p0,p1,p2,p3,p4,-⟩:=(oN.up 2).cs;have cf:=ah.frozen (oN.up 1);obtain⟨RZ,ng⟩:=aP (aH gN 167 [c0,c1,c2,c3,c4,c5,c6]::aH kr 206 [.string (dx q0),q1,q2,q3,q4]::old W::R);have HRZ:=az ng;have oM:Own wc (bX b m x++RZ):=by rw[<-ng];exact UA
     clear ng;have oX:Own (wc.drew.alloc (.cells #[.string (dx q0),q1,q2,q3,q4] 206)) (aH wc.heap.size 206 (IA ⟨q0,q1,q2,q3,q4⟩)::(bX b m x++RZ)):=oM.drew.alloc (.cells #[.string (dx q0),q1,q2,q3,q4] 206);have hone:∀u∈IA ⟨q0,q1,q2,q3,q4⟩,u.oneCell'=true:=by intro u hu;simp only[IA,jc,xN,or_false]at hu;rcases hu with rfl|rfl|rfl|rfl|rfl<;>rfl
     have hnw:=Own.news (T:=206) (vs:=IA ⟨q0,q1,q2,q3,q4⟩) oX;have oS:Own (wc.drew.alloc (.cells #[.string (dx q0),q1,q2,q3,q4] 206)) (slc 206 5 x.ua nr x.uc (flat IA m.rules)::(aH wc.heap.size 206 (IA ⟨q0,q1,q2,q3,q4⟩)::(bX b m x++RZ)).eraseIdx 3):=by rw[<-QV.out];exact oX.up 3
     clear oN oM UA xJ
     go_region_law(first
      |(refine gD rfl _ _ rfl Tryz.ruT rfl oS rfl ⟨_,_,rfl,rfl,hone,.inr ⟨_,rfl,hnw⟩⟩ (by unfold maxLen;omega) (by omega) ?_;intro a2 c2 w5 o5 k5;have z21:=Own.cell (show Own w5 (aH b 75 (aW m x)::_)from o5.up 2) 21 (show(aW m x)[21]?=some (.slice x.ua m.rules.length x.uc)from rfl);have zf:=(show Own w5 (aH b 75 (aW m x)::_)from o5.up 2).frozen;have zl:=(show Own w5 (aH b 75 (aW m x)::_)from o5.up 2).aS))
     all_goals
      have KF:=ay (x:=⟨b,21,none⟩) (v:=.slice a2 (nr+1) c2) ((aj (aD kD)).trans k5);have oC:Own _ (aH b 75 (aW m x)::_):=o5.up 2;have oF:=((oC.setCell 21 (.slice a2 (nr+1) c2)).re [2] 1).re [0,2,1];have oG:Own (w5.setCell ⟨b,21,none⟩ (.slice a2 (nr+1) c2)) (ah b {m with rules:=m.rules++[⟨q0,q1,q2,q3,q4⟩]} {x with ua:=a2,uc:=c2}::RZ):=by
       refine ah.iff.2 ⟨XX.out,?_⟩;have e1:aW {m with rules:=m.rules++[⟨q0,q1,q2,q3,q4⟩]} {x with ua:=a2,uc:=c2}=(aW m x).set 21 (.slice a2 (nr+1) c2):=by unfold aW;dsimp only;rw[jf,QV.out];rfl
       unfold bX;rw[e1];dsimp only;rw[jf,QV.out,aO,show flat IA [⟨q0,q1,q2,q3,q4⟩]=IA ⟨q0,q1,q2,q3,q4⟩from List.append_nil _];exact oF
      rw[<-HRZ.out]at oG;have hwn:IntKind.i64.wrap ((nr:Int)+1-1)=(nr:Int):=by rw[gB];omega
      clear hnw oX oS o5 k5 oF oC;go_wp2;go_ret2;rw[HR.out];exact⟨rfl,ah.to (oG.re [1,2] 2),KF⟩
theorem TL{x:MB}(n:ByteArray)(hT:m.tab.Ok)(hs:n.size<=2000000)(hW:kF W)(o:Own w (ah b m x::old W::R)):
  Calls prog 64 #[x.tb,.string n] w (aR (Zu (AO m.tab.S n)) (ah b m x::old W::R) w):=by
 obtain⟨hx,o1⟩:=ah.iff.1 o;refine(find_spec (b:=x.tb) n hT hs hW (o1.re [1,13])).mono ?_;rintro e w'⟨h1,o2,h3⟩;exact⟨h1,ah.iff.2 ⟨hx,o2.re [2,0,3,4,5,6,7,8,9,10,11,12,13,1]⟩,h3⟩
theorem Ik{x:MB}(h:Hd)(hn:m.rules.length<=32)(hl:∀r∈m.rules,r.st.length<=2000000)(hh:h.st.length<=2000000)(hW:kF W)(o:Own w (ah b m x::old W::R)):
  Calls prog 65 #[.slice x.ua m.rules.length x.uc,QX h] w (aR (aeE (qQ m.rules h)) (ah b m x::old W::R) w):=by
 obtain⟨hx,o1⟩:=ah.iff.1 o;refine(EA h rfl (by omega) hl hh hW (o1.re [13,2])).mono ?_;rintro e w'⟨h1,o2,h3⟩;exact⟨h1,ah.iff.2 ⟨hx,o2.re [2,3,1,4,5,6,7,8,9,10,11,12,13,0]⟩,h3⟩
def TP(m:aX)(fl:Int)(h:Hd):iA:=⟨(m.dY.length:Int)+1,fl,h.len,m.slot,if 0<h.life then m.slot+h.life else-1⟩
def TQ(m:aX)(h:Hd):Option Int:=match AO m.tab.S (dx h.st),qQ m.rules h with
 |some a,some fl=>match lG m.tab.F fl with
  |some f=>if f.fU=a then some fl else none
  |none=>none
 |_,_=>none
def jT(m:aX)(s:ByteArray):aX×Int×Int:=
 if(dh s.data.toList).2≠0 then(m,0,(dh s.data.toList).2)
 else match TQ m (dh s.data.toList).1 with
  |none=>(m,0,6)
  |some fl=>match m.Q[fl.toNat]? with
   |none=>(m,0,6)
   |some q=>if Fq q (TP m fl (dh s.data.toList).1)≠0 then(jM {m with jy:=Mo m.jy fl} ⟨0,2,fl,0,1,0⟩,0,4)
    else(jM {m with Q:=m.Q.set fl.toNat (CW q (TP m fl (dh s.data.toList).1)),jy:=Mm m.jy fl (dh s.data.toList).1.len,dY:=m.dY++[TP m fl (dh s.data.toList).1]} ⟨0,1,fl,(m.dY.length:Int)+1,0,(dh s.data.toList).1.len⟩,(m.dY.length:Int)+1,0)
structure adr(m:aX):Prop where
 tab:m.tab.Ok
 rl:m.rules.length<=32
 rn:∀r∈m.rules,r.st.length<=2000000
 pk:m.dY.length<=200000
 so:0<=m.slot/\m.slot<=16384
 fl:∀f g,lG m.tab.F f=some g->∃(j:Nat)(q:xP),f=(j:Int)/\j<32/\m.Q[j]?=some q/\q.P.length<=100000/\(0<=bE q.P/\bE q.P<=1000000000)
 lf:∃N,m.jy.Ok N/\N<=1000000000
 lp:m.jy.P.length<=200000
 lg:m.log.length<=1000000
theorem agw{l:qR}(h:(dh l).2=0):qP (dh l).1=true:=by
 unfold dh at h⊢
 repeat' split at h
 all_goals first
  |exact absurd h (by decide)
  |skip
 rename_i h1 h2 h3 h4 h5 h6;rw[if_neg h1,if_neg h2,if_neg h3,if_neg h4,if_neg h5,if_pos h6];exact h6
theorem ab4{h:Hd}(hk:qP h=true):(1<=h.len/\h.len<=4096)/\0<=h.life/\h.life<=65535:=by unfold qP at hk;rw[Bt,xM]at hk;omega
theorem Nc{s:ByteArray}(hP:adr m)(hs:s.size<=1000)(hW:kF W)(o:Own w (aK b m::old W::R)):
  Calls prog 43 #[b,.string s] w (aR (.tuple #[.int .i64 (jT m s).2.1,.int .i64 (jT m s).2.2]) (aK b (jT m s).1::old W::R) w):=by
 obtain⟨x,oX⟩:=ah.of o;have EX:=Nb s hs oX;have hst:(dh s.data.toList).1.st.length<=2000000:=by
  unfold dh
  repeat' split
  all_goals first
   |exact Nat.zero_le _
   |skip
  unfold xK;dsimp only;rw[List.length_drop,rZ];have:s.data.toList.length=s.size:=by rw[Array.length_toList];rfl
  omega
 have hbd:=agw (l:=s.data.toList);obtain⟨⟨h,er⟩,hpr⟩:∃p,dh s.data.toList=p:=⟨_,rfl⟩;have A9:=az (show jT m s=_ from by unfold jT;rw[hpr]);dsimp only at A9;obtain⟨res,hres⟩:=aP (jT m s);rw[hres]at A9⊢;rw[hpr]at hst hbd EX;dsimp only at hst hbd;have HP:=az hP;unfold pkV QX at EX;dsimp only at EX;clear hpr hres o hP;go_enter func43,ntmps43;go_wp2_with fail;refine EX.mono ?_;rintro _ w2⟨rfl,o2,k2⟩;have oA:Own (w2.alloc (.cells #[.string (dx h.st),h.cls,h.port,h.len,h.life] 94)) (aH w2.heap.size 94 [.string (dx h.st),h.cls,h.port,h.len,h.life]::ah b m x::old W::R):=o2.alloc (.cells #[.string (dx h.st),h.cls,h.port,h.len,h.life] 94);have kA:=aj (x:=.cells #[.string (dx h.st),h.cls,h.port,h.len,h.life] 94) k2;by_cases her:er=0;rotate_left
 ·have dn:(er !=0)=true:=by rw[bne_iff_ne];exact her
  have HR:=az (show res=(m,0,er)by rw[A9.out,if_pos her]);clear her EX hbd hst A9;go_wp2;go_ret2;rw[HR.out];exact⟨rfl,ah.to (oA.re [1,2]|>fun oo=>oo.re [2] 1|>fun oo=>oo),kA⟩
 ·have hb:=ab4 (hbd her);have dn:(er !=0)=false:=by rw[her];rfl
  rw[if_neg (by rw[her];decide)]at A9;clear her EX hbd;go_upto_region 4 with fail;generalize w2.alloc (.cells #[.string (dx h.st),h.cls,h.port,h.len,h.life] 94)=w3 at*;generalize w2.heap.size=kh at*;have oB:Own w3 (ah b m x::old W::aH kh 94 [.string (dx h.st),h.cls,h.port,h.len,h.life]::R):=oA.re [1,2,0];obtain⟨c20,cl⟩:=ah.cell (k:=20) rfl oB;change World.cell? _ ⟨b,20,none⟩=some (.pointer (some ⟨x.tb,0,none⟩))at c20;obtain⟨-,hl,h0,-⟩:=(oB.up 2).cs;have hF:=TL (dx h.st) HP.out.tab (by rw[fI];exact hst) hW oB.drew;obtain⟨fo,hfo⟩:=aP (AO m.tab.S (dx h.st));have Qj:=az hfo;rw[hfo]at hF;unfold Zu at hF;obtain⟨kn,hkn⟩:=aP fo.isSome;obtain⟨av,hav⟩:=aP (fo.getD 0);have HKN:=az hkn;have HAV:=az hav;rw[hkn,hav]at hF;clear hfo hkn hav oA o2 k2 dn
  go_region_held3(fun w'=>w'.cell? ⟨b,20,none⟩=some (.pointer (some ⟨x.tb,0,none⟩))/\w'.cell? ⟨kh,0,none⟩=some (.string (dx h.st))) (go_keep) (first
   |(go_at_call 64;(with_reducible refine Calls.mono hF ?_);rintro _ w4⟨rfl,o4,k4⟩;obtain⟨z20,_⟩:=ah.cell (k:=20) rfl o4;change World.cell? _ ⟨b,20,none⟩=some (.pointer (some ⟨x.tb,0,none⟩))at z20;have z0:=(o4.up 2).cell 0;clear hF))
  have K4:=(aD kA).trans k4;clear z20 z0 oB kA c20 cl h0 hl k4;go_upto_region 5 with fail;obtain⟨c21,cl⟩:=ah.cell (k:=21) rfl o4;change World.cell? _ ⟨b,21,none⟩=some (.slice x.ua m.rules.length x.uc)at c21;obtain⟨-,hl,h0,h1,h2,h3,h4,-⟩:=(o4.up 2).cs;have hC:=Ik h HP.out.rl HP.out.rn hst hW o4.drew;obtain⟨co,hco⟩:=aP (qQ m.rules h);have HCO:=az hco;rw[hco]at hC;unfold aeE QX at hC;obtain⟨kc,hkc⟩:=aP co.isSome;obtain⟨fl,hfl⟩:=aP (co.getD (-1));have HKC:=az hkc;have YR:=az hfl;rw[hkc,hfl]at hC;clear hco hkc hfl hst
  go_region_held3(fun w'=>w'.cell? ⟨b,21,none⟩=some (.slice x.ua m.rules.length x.uc)/\w'.cell? ⟨kh,0,none⟩=some (.string (dx h.st))/\w'.cell? ⟨kh,1,none⟩=some ↑h.cls/\w'.cell? ⟨kh,2,none⟩=some ↑h.port/\w'.cell? ⟨kh,3,none⟩=some ↑h.len/\w'.cell? ⟨kh,4,none⟩=some ↑h.life) (go_keep) (first
   |(go_at_call 65;(with_reducible refine Calls.mono hC ?_);rintro _ w5⟨rfl,o5,k5⟩;obtain⟨z21,_⟩:=ah.cell (k:=21) rfl o5;change World.cell? _ ⟨b,21,none⟩=some (.slice x.ua m.rules.length x.uc)at z21;have z0:=(o5.up 2).cell 0;have z1:=(o5.up 2).cell 1;have z2:=(o5.up 2).cell 2;have z3:=(o5.up 2).cell 3;have z4:=(o5.up 2).cell 4;clear hC))
  have K5:=(aD K4).trans k5;clear z21 z0 z1 z2 z3 z4 o4 K4 c21 cl h0 h1 h2 h3 h4 hl k5;obtain⟨c0,c1,c2,c3,c4,c5,c6,hfv,hc1⟩:=Ib m.tab.F fl;obtain⟨tb,htb⟩:=aP ((lG m.tab.F fl).isSome);rw[htb]at hfv;have HTB:=az htb;have HC1:=az hc1;have hG:=Ic HP.out.tab hfv o5;obtain⟨c20,cl⟩:=ah.cell (k:=20) rfl o5;change World.cell? _ ⟨b,20,none⟩=some (.pointer (some ⟨x.tb,0,none⟩))at c20;clear htb hc1 hfv;go_wp2_with fail;refine hG.mono ?_;rintro _ w6⟨rfl,o6,k6⟩;have oA:Own (w6.alloc (.cells #[c0,c1,c2,c3,c4,c5,c6] 167)) (aH w6.heap.size 167 [c0,c1,c2,c3,c4,c5,c6]::ah b m x::old W::aH kh 94 [.string (dx h.st),h.cls,h.port,h.len,h.life]::R):=o6.alloc (.cells #[c0,c1,c2,c3,c4,c5,c6] 167);have kA:=aj (x:=.cells #[c0,c1,c2,c3,c4,c5,c6] 167) (K5.trans k6);clear hG c20 cl o5 o6 K5 k6;by_cases hall:(kn=true/\kc=true)/\(tb=true/\c1=av);rotate_left
  ·have HR:=az (show res=(m,0,6)by
    have hn:TQ m h=none:=by
     unfold TQ;rw[Qj.out,HCO.out];cases fo with
     |none=>rfl
     |some a=>
      cases co with
      |none=>rfl
      |some f2=>
       dsimp only;have e1:f2=fl:=YR.out;have e2:a=av:=HAV.out;rw[e1,e2];cases hg:lG m.tab.F fl with
       |none=>rfl
       |some f=>
        dsimp only;refine if_neg fun he=>hall ⟨⟨HKN.out.symm,HKC.out.symm⟩,?_,?_⟩
        ·rw[<-HTB.out,hg];rfl
        ·rw[HC1.out f hg,he]
    rw[A9.out,hn])
   have f1:=oA.cell 1;cases kn with
   |false=>clear hall A9;go_wp2;go_ret2;rw[HR.out];exact⟨rfl,ah.to (oA.re [1,2]|>fun oo=>oo.re [2,3] 2),kA⟩
   |true=>cases kc with
    |false=>clear hall A9;go_wp2;go_ret2;rw[HR.out];exact⟨rfl,ah.to (oA.re [1,2]|>fun oo=>oo.re [2,3] 2),kA⟩
    |true=>cases tb with
     |false=>clear hall A9;go_wp2;go_ret2;rw[HR.out];exact⟨rfl,ah.to (oA.re [1,2]|>fun oo=>oo.re [2,3] 2),kA⟩
     |true=>
      have hne:(c1 !=av)=true:=by rw[bne_iff_ne];exact fun h4=>hall ⟨⟨rfl,rfl⟩,rfl,h4⟩
      clear hall A9;go_wp2;go_ret2;rw[HR.out];exact⟨rfl,ah.to (oA.re [1,2]|>fun oo=>oo.re [2,3] 2),kA⟩
  ·obtain⟨⟨rfl,rfl⟩,rfl,rfl⟩:=hall;have haf:TQ m h=some fl:=by
    unfold TQ;rw[Qj.out,HCO.out];have hk1:=HKN.out;have hk2:=HKC.out;have hk3:=HTB.out;cases fo with
    |none=>cases hk1
    |some a=>
     cases co with
     |none=>cases hk2
     |some f2=>
      dsimp only;have e1:f2=fl:=YR.out;have e2:a=c1:=HAV.out;rw[e1,e2];cases hg:lG m.tab.F fl with
      |none=>rw[hg]at hk3;cases hk3
      |some f=>exact if_pos (HC1.out f hg).symm
   obtain⟨g,hg⟩:∃g,lG m.tab.F fl=some g:=Option.isSome_iff_exists.1 HTB.out;obtain⟨jq,q,rfl,VJ,hq,PO,hqb⟩:=HP.out.fl fl g hg;rw[haf]at A9;dsimp only at A9;rw[Int.toNat_natCast,hq]at A9;dsimp only at A9;have f1:=oA.cell 1;obtain⟨np,hnp⟩:=aP m.dY.length;have X0:=az hnp;have hpk:=HP.out.pk;rw[hnp]at hpk;obtain⟨DK,cl⟩:=ah.cell (k:=25) rfl (oA.up 1);change World.cell? _ ⟨b,25,none⟩=some (.slice x.pa m.dY.length x.pc)at DK;rw[hnp]at DK;have hb2:((np:Int)==262144)=false:=by rw[Ec];omega
   have HQ:=az hq;clear haf hg hnp hq;go_upto_region 11 with fail;generalize w6.alloc (.cells #[c0,c1,c2,c3,c4,c5,c6] 167)=w7 at*;generalize w6.heap.size=kf at*;obtain⟨c16,_⟩:=ah.cell (k:=16) rfl (oA.up 1);change World.cell? _ ⟨b,16,none⟩=some ↑m.slot at c16;have h3:=(oA.up 3).cell 3;change World.cell? _ ⟨kh,3,none⟩=some ↑h.len at h3;have hl:=(oA.up 3).aS;have hw1:IntKind.i64.wrap ((np:Int)+1)=(np:Int)+1:=by rw[gB];omega
   go_region_held3(fun w'=>w'.cell? ⟨b,25,none⟩=some (.slice x.pa np x.pc)/\w'.cell? ⟨kh,3,none⟩=some ↑h.len/\w'.cell? ⟨b,16,none⟩=some ↑m.slot) (go_keep) (fail);have oP:Own (w7.alloc (.cells #[((np:Int)+1:Int),(jq:Int),h.len,m.slot,(-1:Int)] 170)).drew (aH w7.heap.size 170 [((np:Int)+1:Int),(jq:Int),h.len,m.slot,(-1:Int)]::aH kf 167 [c0,c1,c2,c3,c4,c5,c6]::ah b m x::old W::aH kh 94 [.string (dx h.st),h.cls,h.port,h.len,h.life]::R):=(oA.alloc (.cells #[((np:Int)+1:Int),(jq:Int),h.len,m.slot,(-1:Int)] 170)).drew;have KP:=aD (aj (x:=.cells #[((np:Int)+1:Int),(jq:Int),h.len,m.slot,(-1:Int)] 170) kA);have hn1:¬b=w7.heap.size:=by omega
   have hn2:¬kh=w7.heap.size:=by omega
   clear oA kA DK f1 c16 h3 cl hl hb2 hw1;obtain⟨dl,hdl⟩:∃z,(if 0<h.life then m.slot+h.life else-1)=z:=⟨_,rfl⟩;have HDL:=az hdl;have hso:=HP.out.so;generalize (w7.alloc (.cells #[((np:Int)+1:Int),(jq:Int),h.len,m.slot,(-1:Int)] 170)).drew=w8 at*;generalize w7.heap.size=kp at*;have h4:=(oP.up 4).cell 4;change World.cell? _ ⟨kh,4,none⟩=some ↑h.life at h4;have hl:=(oP.up 4).aS;have pf:=oP.frozen;have pc:World.cell? w8 ⟨kp,4,none⟩=some ↑(-1:Int):=oP.cell 4;have pl:=oP.aS;obtain⟨c16,cl⟩:=ah.cell (k:=16) rfl (oP.up 2);change World.cell? _ ⟨b,16,none⟩=some ↑m.slot at c16;go_upto_if 90 with fail;go_cut[15] (fun _ wc=>Own wc (aH kp 170 [((np:Int)+1:Int),(jq:Int),h.len,m.slot,dl]::aH kf 167 [c0,c1,c2,c3,c4,c5,c6]::ah b m x::old W::aH kh 94 [.string (dx h.st),h.cls,h.port,h.len,h.life]::R)/\Calm w wc);case first=>
    by_cases hlf:0<h.life
    ·have hd:decide (0<h.life)=true:=bz hlf;have hw2:IntKind.i64.wrap (m.slot+h.life)=m.slot+h.life:=by rw[gB];omega
     rw[if_pos hlf]at hdl;subst hdl;have oQ:=(oP.setCell 4 (m.slot+h.life:Int)).drew;have KQ:=aD (ay (x:=⟨kp,4,none⟩) (v:=.int .i64 (m.slot+h.life)) KP);have t16:World.cell? (w8.setCell ⟨kp,4,none⟩ (m.slot+h.life:Int)).drew ⟨b,16,none⟩=some ↑m.slot:=(ah.cell (k:=16) (m:=m) (x:=x) rfl (oQ.up 2)).1;have t4:World.cell? (w8.setCell ⟨kp,4,none⟩ (m.slot+h.life:Int)).drew ⟨kh,4,none⟩=some ↑h.life:=(oQ.up 4).cell 4;clear oP KP;go_upto_region 13 with fail;go_region_held3(fun w'=>w'.cell? ⟨b,16,none⟩=some ↑m.slot/\w'.cell? ⟨kh,4,none⟩=some ↑h.life) (go_keep) (fail);go_wp2;go_meet;exact⟨oQ,KQ⟩
    ·have hd:decide (0<h.life)=false:=bW hlf;rw[if_neg hlf]at hdl;subst hdl;go_wp2;go_meet;exact⟨oP,KP⟩
   case rest=>
    obtain⟨oQ,KQ⟩:=hcut;clear oP KP h4 c16 pf pl hl cl hn1 hn2 pc;rw[show TP m (jq:Int) h=(⟨(np:Int)+1,(jq:Int),h.len,m.slot,dl⟩:iA)by unfold TP;rw[X0.out,HDL.out]]at A9;have hok:N8 ⟨(np:Int)+1,(jq:Int),h.len,m.slot,dl⟩:=by refine⟨by show 1<=(np:Int)+1;omega,by show 0<=(jq:Int)/\(jq:Int)<32;omega,hb.1,hso,?_⟩;have:=HDL.out;show dl=-1\/m.slot<=dl/\dl<=81919;split at this<;>omega
    obtain⟨xJ,_⟩:=ah.iff.1 (oQ.up 2);obtain⟨pq,hpq⟩:∃p,m.qs[jq]?=some p:=⟨_,cZ (by rw[xJ.1];exact(eU.1 HQ.out).1)⟩;obtain⟨gq,Xg,EU,cqj,Qs,M0,Tw⟩:=ah.ym hpq (oQ.up 2);obtain⟨-,pl,p0,p1,p2,p3,p4,-⟩:=oQ.cs;have hPu:=ah.UL (P:=prog) (g:=67) (args:=#[pq,rP ⟨(np:Int)+1,(jq:Int),h.len,m.slot,dl⟩]) hpq HQ.out (gy.one fun R1 oo=>Ls hok PO hqb oo) (oQ.drew.up 2);unfold rP at hPu;dsimp only at hPu;obtain⟨ev,hev⟩:=aP (Fq q ⟨(np:Int)+1,(jq:Int),h.len,m.slot,dl⟩);have HEV:=az hev;rw[hev]at hPu A9;obtain⟨nq,hnq⟩:=aP m.qs.length;have HNQ:=az hnq;rw[hnq]at EU Tw;have WG:=az hpq;have HGQ:=az Xg;clear hev hnq hok xJ hpq hdl Xg;go_upto_region 14 with fail
    go_region_held3(fun w'=>w'.cell? ⟨b,22,none⟩=some (.slice (some ⟨gq,0,none⟩) nq x.qc)/\w'.cell? ⟨gq,jq,none⟩=some (.pointer (some ⟨pq,0,none⟩))/\w'.cell? ⟨kp,0,none⟩=some ↑((np:Int)+1:Int)/\w'.cell? ⟨kp,1,none⟩=some ↑(jq:Int)/\w'.cell? ⟨kp,2,none⟩=some ↑h.len/\w'.cell? ⟨kp,3,none⟩=some ↑m.slot/\w'.cell? ⟨kp,4,none⟩=some ↑dl) (go_keep) (first
     |(go_at_call 67;(with_reducible refine Calls.mono hPu ?_);rintro _ w9⟨⟨⟩,rfl,o9,k9⟩;obtain⟨g8,Cx,z22,zqj,_,_,_⟩:=ah.ym (show({m with Q:=m.Q.set jq (CW q ⟨(np:Int)+1,(jq:Int),h.len,m.slot,dl⟩)}:aX).qs[jq]?=some pq from WG.out) o9;rw[HGQ.out]at Cx;injection Cx with Cx;injection Cx with Cx;subst Cx;change World.cell? _ ⟨b,22,none⟩=some (.slice (some ⟨gq,0,none⟩) m.qs.length x.qc)at z22;rw[HNQ.out]at z22;have z0:=(o9.up 1).cell 0;have z1:=(o9.up 1).cell 1;have z2:=(o9.up 1).cell 2;have z3:=(o9.up 1).cell 3;have z4:=(o9.up 1).cell 4;change World.cell? _ ⟨kp,0,none⟩=some ↑((np:Int)+1:Int)at z0;change World.cell? _ ⟨kp,1,none⟩=some ↑(jq:Int)at z1;change World.cell? _ ⟨kp,2,none⟩=some ↑h.len at z2;change World.cell? _ ⟨kp,3,none⟩=some ↑m.slot at z3;change World.cell? _ ⟨kp,4,none⟩=some ↑dl at z4;clear hPu))
    have K9:=(aD KQ).trans k9;clear z22 zqj oQ KQ k9 EU cqj p0 p1 p2 p3 p4 pl Qs M0 Tw;by_cases Xw:ev=0;rotate_left
    ·have he4:ev=4:=by have h1:=HEV.out;unfold Fq at h1;split at h1<;>omega
     have hpq:CW q ⟨(np:Int)+1,(jq:Int),h.len,m.slot,dl⟩=q:=if_neg (by rw[HEV.out];exact Xw);have HR:=az (show res=(jM {m with jy:=Mo m.jy (jq:Int)} ⟨0,2,(jq:Int),0,1,0⟩,0,4)by rw[A9.out,if_pos Xw]);have dn:(ev !=0)=true:=by rw[bne_iff_ne];exact Xw
     rw[hpq,PV HQ.out]at o9;obtain⟨N,nG,X3⟩:=HP.out.lf;have hRf:=ah.UM (gy.one fun R1 oo=>Ms (jq:Int) (by omega) nG X3 oo) o9;obtain⟨c24,cl⟩:=ah.cell (k:=24) rfl o9;change World.cell? _ ⟨b,24,none⟩=some (.pointer (some ⟨x.lb,0,none⟩))at c24;have HE4:=az he4;clear Xw he4 hpq nG A9 z0 z1 z2 z3 z4 o9 hpk;go_wp2_with fail;refine hRf.mono ?_;rintro _ wa⟨⟨⟩,rfl,oa,ka⟩;have hW:=nM (m:={m with jy:=Mo m.jy (jq:Int)}) ⟨0,2,(jq:Int),0,1,0⟩ (by show m.log.length<=1000000;exact HP.out.lg) oa;have KA:=K9.trans ka;clear hRf c24 cl oa K9 ka;go_wp2_with fail;refine hW.mono ?_;rintro _ wb⟨la,lc,rfl,ob,kb⟩;clear hW;go_wp2;go_ret2;rw[HR.out];refine⟨?_,ah.to (ob.re [1,2,4] 3),KA.trans kb⟩;rw[HE4.out];all_goals rfl
    ·have HR:=az (show res=(jM {m with Q:=m.Q.set jq (CW q ⟨(np:Int)+1,(jq:Int),h.len,m.slot,dl⟩),jy:=Mm m.jy (jq:Int) h.len,dY:=m.dY++[⟨(np:Int)+1,(jq:Int),h.len,m.slot,dl⟩]} ⟨0,1,(jq:Int),(np:Int)+1,0,h.len⟩,(np:Int)+1,0)by
      rw[A9.out,if_neg (by rw[Xw];decide),X0.out])
     subst Xw;obtain⟨N,nG,X3⟩:=HP.out.lf;have hae:Wp m.jy (jq:Int) h.len=0:=by have:=HP.out.lp;unfold Wp;rw[if_neg (by omega),if_neg (by omega)]
     obtain⟨m9,hm9⟩:=aP (({m with Q:=m.Q.set jq (CW q ⟨(np:Int)+1,(jq:Int),h.len,m.slot,dl⟩)}:aX));have hl9:m9.jy=m.jy/\m9.dY.length=np:=by rw[<-hm9];exact⟨rfl,X0.out⟩
     have HM9:=az hm9;rw[hm9]at o9;have hAc:=ah.UM (gy.one fun R1 oo=>Mt (L:=m9.jy) (jq:Int) h.len (by rw[hl9.1];exact hae) (by rw[hl9.1];exact nG) X3 oo) o9.drew;obtain⟨c24,cl⟩:=ah.cell (k:=24) rfl o9;change World.cell? _ ⟨b,24,none⟩=some (.pointer (some ⟨x.lb,0,none⟩))at c24;have h3:=(o9.up 4).cell 3;change World.cell? _ ⟨kh,3,none⟩=some ↑h.len at h3;have hl:=(o9.up 4).aS;have HL9:=az hl9;clear hae nG A9 z0 z1 z2 z3 z4 hm9 hl9;go_upto_region 19 with fail
     go_region_held3(fun w'=>w'.cell? ⟨b,24,none⟩=some (.pointer (some ⟨x.lb,0,none⟩))/\w'.cell? ⟨kh,3,none⟩=some ↑h.len) (go_keep) (first
      |(go_at_call 70;(with_reducible refine Calls.mono hAc ?_);rintro _ wa⟨⟨⟩,rfl,oa,ka⟩;obtain⟨y24,_⟩:=ah.cell (k:=24) rfl oa;change World.cell? _ ⟨b,24,none⟩=some (.pointer (some ⟨x.lb,0,none⟩))at y24;have y3:=(oa.up 4).cell 3;change World.cell? _ ⟨kh,3,none⟩=some ↑h.len at y3;clear hAc))
     have KA:=(aD K9).trans ka;obtain⟨ma,hma⟩:=aP (({m9 with jy:=Mm m9.jy (jq:Int) h.len}:aX));have HMA:=az hma;have hpa:ma.dY.length=np:=by rw[<-hma];exact HL9.out.2
     have HPA:=az hpa;rw[hma]at oa;clear y24 y3 o9 K9 ka c24 cl h3 hl hma hpa;obtain⟨DK,cl⟩:=ah.cell (k:=25) rfl oa;change World.cell? _ ⟨b,25,none⟩=some (.slice x.pa ma.dY.length x.pc)at DK;rw[HPA.out]at DK;obtain⟨-,pl,p0,p1,p2,p3,p4,-⟩:=(oa.up 1).cs;have cf:=ah.frozen oa;obtain⟨xJ,UA⟩:=ah.iff.1 oa;have XX:=az xJ;obtain⟨RZ,ng⟩:=aP (aH kp 170 [((np:Int)+1:Int),(jq:Int),h.len,m.slot,dl]::aH kf 167 [c0,c1,c2,c3,c4,c5,c6]::old W::aH kh 94 [.string (dx h.st),h.cls,h.port,h.len,h.life]::R);have HRZ:=az ng;have oM:Own wa (bX b ma x++RZ):=by rw[<-ng];exact UA
     have oX:Own (wa.drew.alloc (.cells #[((np:Int)+1:Int),(jq:Int),h.len,m.slot,dl] 170)) (aH wa.heap.size 170 (bR ⟨(np:Int)+1,(jq:Int),h.len,m.slot,dl⟩)::(bX b ma x++RZ)):=oM.drew.alloc (.cells #[((np:Int)+1:Int),(jq:Int),h.len,m.slot,dl] 170);have hone:∀u∈bR ⟨(np:Int)+1,(jq:Int),h.len,m.slot,dl⟩,u.oneCell'=true:=by intro u hu;simp only[bR,jc,xN,or_false]at hu;rcases hu with rfl|rfl|rfl|rfl|rfl<;>rfl
     have hnw:=Own.news (T:=170) (vs:=bR ⟨(np:Int)+1,(jq:Int),h.len,m.slot,dl⟩) oX;have oS:Own (wa.drew.alloc (.cells #[((np:Int)+1:Int),(jq:Int),h.len,m.slot,dl] 170)) (slc 170 5 x.pa np x.pc (flat bR ma.dY)::(aH wa.heap.size 170 (bR ⟨(np:Int)+1,(jq:Int),h.len,m.slot,dl⟩)::(bX b ma x++RZ)).eraseIdx 9):=by
      have h:=oX.up 9;have e:slc 170 5 x.pa ma.dY.length x.pc (flat bR ma.dY)=slc 170 5 x.pa np x.pc (flat bR ma.dY):=by rw[HPA.out]
      exact e▸h
     have ahY:=HP.out.pk;rw[X0.out]at ahY;clear oa oM UA xJ ng;go_upto_region 20 with fail
     go_region_law(first
      |(refine gD rfl _ _ rfl Tryz.pktT rfl oS rfl ⟨_,_,rfl,rfl,hone,.inr ⟨_,rfl,hnw⟩⟩ (by unfold maxLen;omega) (by omega) ?_;intro a2 c2 w5 o5 k5;have z25:=Own.cell (show Own w5 (aH b 75 (aW ma x)::_)from o5.up 2) 25 (show(aW ma x)[25]?=some (.slice x.pa ma.dY.length x.pc)from rfl);have zf:=(show Own w5 (aH b 75 (aW ma x)::_)from o5.up 2).frozen;have zl:=(show Own w5 (aH b 75 (aW ma x)::_)from o5.up 2).aS))
     all_goals
      have KF:=ay (x:=⟨b,25,none⟩) (v:=.slice a2 (np+1) c2) ((aj (aD KA)).trans k5);have oC:Own _ (aH b 75 (aW ma x)::_):=o5.up 2;have oF:=((oC.setCell 25 (.slice a2 (np+1) c2)).re [2] 1).re [0,2,3,4,5,6,7,8,1];have oG:Own (w5.setCell ⟨b,25,none⟩ (.slice a2 (np+1) c2)) (ah b {ma with dY:=ma.dY++[⟨(np:Int)+1,(jq:Int),h.len,m.slot,dl⟩]} {x with pa:=a2,pc:=c2}::RZ):=by
       refine ah.iff.2 ⟨XX.out,?_⟩;have e1:aW {ma with dY:=ma.dY++[⟨(np:Int)+1,(jq:Int),h.len,m.slot,dl⟩]} {x with pa:=a2,pc:=c2}=(aW ma x).set 25 (.slice a2 (np+1) c2):=by unfold aW;dsimp only;rw[jf,HPA.out];rfl
       unfold bX;rw[e1];dsimp only;rw[jf,HPA.out,aO,show flat bR [⟨(np:Int)+1,(jq:Int),h.len,m.slot,dl⟩]=bR ⟨(np:Int)+1,(jq:Int),h.len,m.slot,dl⟩from List.append_nil _];exact oF
      rw[<-HRZ.out]at oG;have p0:=(oG.up 1).cell 0;have h3:=(oG.up 4).cell 3;change World.cell? _ ⟨kp,0,none⟩=some ↑((np:Int)+1:Int)at p0;change World.cell? _ ⟨kh,3,none⟩=some ↑h.len at h3;have hW:=nM (m:={ma with dY:=ma.dY++[⟨(np:Int)+1,(jq:Int),h.len,m.slot,dl⟩]}) ⟨0,1,(jq:Int),(np:Int)+1,0,h.len⟩ (by have:=HP.out.lg;rw[<-HMA.out,<-HM9.out];exact this) oG;clear hnw oX oS o5 k5 oF oC oG z25 zf zl;generalize w5.setCell ⟨b,25,none⟩ (.slice a2 (np+1) c2)=wf at*;go_wp2_with fail;refine hW.mono ?_;rintro _ wg⟨la,lc,rfl,og,kg⟩;have q0:=(og.up 1).cell 0;change World.cell? _ ⟨kp,0,none⟩=some ↑((np:Int)+1:Int)at q0;clear hW p0 h3;go_wp2;go_ret2;rw[HR.out];refine⟨rfl,?_,KF.trans kg⟩;have of:=ah.to (og.re [1,2,4] 3);rw[<-HMA.out,<-HM9.out]at of;exact of
theorem Tryz.queT:bS prog 69 136 1 8:=bS.mk' (z:=.pointer none) underlying69 (by kernel_rfl) rfl (by decide)
def EB:xP:=⟨64,262144,[]⟩
def D_(m:aX)(a y:Int)(p:Nat):aX:=if iq m.tab a y=0 then{m with tab:=floT m.tab a y,Q:=m.Q++[EB],qs:=m.qs++[p]}else m
theorem Nf{e:Nt}{fa:aY}{fc:Nat}(hk:e.k=5)(hT:m.tab.Ok)(hq:m.Q.length<=1000)(o:Own w (aK b m::R)):
  Calls prog 28 #[b,xG e fa fc] w
   fun en w'=>∃p,aR (.tuple #[(Gt m.tab e.a e.b:Int),(iq m.tab e.a e.b:Int)]) (aK b (D_ m e.a e.b p)::R) w en w':=by
 obtain⟨x,oX⟩:=ah.of o;have oA:Own (w.alloc (.cells #[(5:Int),e.a,e.b,e.c,.string e.s,.slice fa e.F.length fc] 47)) (aH w.heap.size 47 [(5:Int),e.a,e.b,e.c,.string e.s,.slice fa e.F.length fc]::ah b m x::R):=oX.alloc (.cells #[(5:Int),e.a,e.b,e.c,.string e.s,.slice fa e.F.length fc] 47);have K0:=aj (x:=.cells #[(5:Int),e.a,e.b,e.c,.string e.s,.slice fa e.F.length fc] 47) (Calm.refl w);unfold xG;rw[hk];clear o oX;have ab5:=az (fun(hne:iq m.tab e.a e.b≠0)=>nY (T:=m.tab) (s:=e.a) (x:=e.b) rfl hne);obtain⟨T2,Ef⟩:=aP (floT m.tab e.a e.b);obtain⟨id,hid⟩:=aP (Gt m.tab e.a e.b);obtain⟨er,her⟩:=aP (iq m.tab e.a e.b);have HFM:=az (fun p=>show D_ m e.a e.b p=if er=0 then{m with tab:=T2,Q:=m.Q++[EB],qs:=m.qs++[p]}else m by unfold D_;rw[her,Ef]);rw[Ef,hid,her]at ab5;rw[hid,her];have HID:=az hid;have HER:=az her;have HT2:=az Ef;clear Ef hid her;go_enter func28,ntmps28;go_upto_region 9 with fail;generalize w.alloc (.cells #[(5:Int),e.a,e.b,e.c,.string e.s,.slice fa e.F.length fc] 47)=w1 at*;generalize w.heap.size=ke at*;have e1:World.cell? w1 ⟨ke,1,none⟩=some ↑e.a:=oA.cell 1;have e2:World.cell? w1 ⟨ke,2,none⟩=some ↑e.b:=oA.cell 2;have el:=oA.aS;obtain⟨c20,cl⟩:=ah.cell (k:=20) rfl (oA.up 1);change World.cell? _ ⟨b,20,none⟩=some (.pointer (some ⟨x.tb,0,none⟩))at c20;have hAd:=ah.acK (gy.one fun R1 oo=>MI e.a e.b hT oo) (oA.drew.up 1);rw[HID.out,HER.out,HT2.out]at hAd;clear hT
 go_region_held3(fun w'=>w'.cell? ⟨b,20,none⟩=some (.pointer (some ⟨x.tb,0,none⟩))/\w'.cell? ⟨ke,1,none⟩=some ↑e.a/\w'.cell? ⟨ke,2,none⟩=some ↑e.b) (go_keep) (first
  |(go_at_call 45;(with_reducible refine Calls.mono hAd ?_);rintro _ w2⟨⟨⟩,rfl,o2,k2⟩;obtain⟨y20,_⟩:=ah.cell (k:=20) rfl o2;change World.cell? _ ⟨b,20,none⟩=some (.pointer (some ⟨x.tb,0,none⟩))at y20;have y1:=(o2.up 1).cell 1;have y2:=(o2.up 1).cell 2;change World.cell? _ ⟨ke,1,none⟩=some ↑e.a at y1;change World.cell? _ ⟨ke,2,none⟩=some ↑e.b at y2;clear hAd))
 have K2:=(aD K0).trans k2;clear y20 y1 y2 oA K0 k2 e1 e2 el c20 cl;by_cases her:er=0;rotate_left
 ·have dn:(er==0)=false:=by rw[Ec];exact her
  have HM:=az (show∀p,D_ m e.a e.b p=m from fun p=>by rw[HFM.out,if_neg her]);rw[(ab5.out her).2]at o2;clear her ab5;go_wp2;go_ret2;refine⟨0,rfl,?_,K2⟩;rw[HM.out];exact ah.to (o2.re [1] 1)
 ·subst her;have HM:=az (show∀p,D_ m e.a e.b p={m with tab:=T2,Q:=m.Q++[EB],qs:=m.qs++[p]}from fun p=>by rw[HFM.out,if_pos rfl]);have hQn:=N7 64 262144 (by rfl) o2;clear ab5;go_wp2_with fail;refine hQn.mono ?_;rintro _ w3⟨p,rfl,o3,k3⟩;have K3:=K2.trans k3;obtain⟨xJ,UA⟩:=ah.iff.1 (o3.up 1);have XX:=az xJ;obtain⟨n,hn⟩:=aP m.qs.length;have HN:=az hn;have hn1:n<=1000:=by rw[<-hn,xJ.1];exact hq
  obtain⟨EU,cl⟩:=ah.cell (k:=22) rfl (o3.up 1);change World.cell? _ ⟨b,22,none⟩=some (.slice x.qa m.qs.length x.qc)at EU;rw[hn]at EU;obtain⟨RZ,ng⟩:=aP (dQ p EB::aH ke 47 [(5:Int),e.a,e.b,e.c,.string e.s,.slice fa e.F.length fc]::R);have HRZ:=az ng;have oM:Own w3 (bX b {m with tab:=T2} x++RZ):=by rw[<-ng];exact UA
  have oY:Own (w3.alloc (.cells #[.pointer (some ⟨p,0,none⟩)] 136)) (aH w3.heap.size 136 [.pointer (some ⟨p,0,none⟩)]::(bX b {m with tab:=T2} x++RZ)):=oM.alloc (.cells #[.pointer (some ⟨p,0,none⟩)] 136);have hnw:=Own.news (T:=136) (vs:=[.pointer (some ⟨p,0,none⟩)]) oY;have oS:Own (w3.alloc (.cells #[.pointer (some ⟨p,0,none⟩)] 136)) (slc 136 1 x.qa n x.qc (m.qs.map pv)::(aH w3.heap.size 136 [.pointer (some ⟨p,0,none⟩)]::(bX b {m with tab:=T2} x++RZ)).eraseIdx 4):=by
   have h:=oY.up 4;have e:slc 136 1 x.qa m.qs.length x.qc (m.qs.map pv)=slc 136 1 x.qa n x.qc (m.qs.map pv):=by rw[HN.out]
   exact e▸h
  clear hQn o2 o3 k3 oM UA xJ hn ng hq K2;go_wp2_with(at_builtin;refine aQ rfl _ _ rfl Tryz.queT rfl oS rfl ⟨_,_,rfl,rfl,by intro u hu;simp only[jc,xN,or_false]at hu;subst hu;rfl,.inr ⟨_,rfl,hnw⟩⟩ (by unfold maxLen;omega) (by omega) ?kK);case kK=>
  intro a2 c2 wa oa ka;have Ka:=K3.trans ((aj (x:=.cells #[.pointer (some ⟨p,0,none⟩)] 136) (Calm.refl _)).trans ka);have oC:Own wa (aH b 75 (aW {m with tab:=T2} x)::_):=oa.up 2;have f22:=Own.cell oC 22 (show(aW {m with tab:=T2} x)[22]?=some (.slice x.qa m.qs.length x.qc)from rfl);obtain⟨ff,fl,-⟩:=oC.cs;have oF:=((oC.setCell 22 (.slice a2 (n+1) c2)).re [2] 1).re [0,2,3,1];have KG:=ay (x:=⟨b,22,none⟩) (v:=.slice a2 (n+1) c2) Ka;have e2:List.zipWith dQ (m.qs++[p]) m.Q=List.zipWith dQ m.qs m.Q:=by
   have:List.zipWith dQ (m.qs++[p]) m.Q=List.zipWith dQ (m.qs++[p]) (m.Q++[]):=by rw[List.append_nil]
   rw[this,List.zipWith_append XX.out.1,List.zipWith_nil_right,List.append_nil]
  have oG:Own (wa.setCell ⟨b,22,none⟩ (.slice a2 (n+1) c2)) (bX b {m with tab:=T2,qs:=m.qs++[p]} {x with qa:=a2,qc:=c2}++RZ):=by
   have e1:aW {m with tab:=T2,qs:=m.qs++[p]} {x with qa:=a2,qc:=c2}=(aW {m with tab:=T2} x).set 22 (.slice a2 (n+1) c2):=by unfold aW;dsimp only;rw[jf,HN.out];rfl
   unfold bX;rw[e1];dsimp only;rw[jf,HN.out,tJ,e2];exact oF
  rw[<-HRZ.out]at oG;clear hnw oY oS EU oa ka K3 Ka oC oF;go_wp2;go_ret2;refine⟨p,rfl,?_,KG⟩;rw[HM.out];have oH:=Own.BB ((oG.re [14] 1).re [13,4]);have oI:=oH.re [1,2,3,4,0];refine ah.to (x:={x with qa:=a2,qc:=c2}) (ah.iff.2 ⟨⟨by show(m.qs++[p]).length=(m.Q++[EB]).length;rw[jf,jf,XX.out.1];rfl,XX.out.2⟩,?_⟩);unfold bX at oI⊢;dsimp only at oI⊢;rw[List.zipWith_append XX.out.1];rw[e2]at oI;exact oI
theorem Vi{e:Nt}{fa:aY}{fc:Nat}(hk:e.k=1)(hn16:e.F.length<=16)(hP:Ve e.F m)(o:Own w (aK b m::fV fa e.F.length fc e.F::R)):
  Calls prog 28 #[b,xG e fa fc] w
   (fun en w'=>∃v m',SlR e.F m v m'/\aR (.tuple #[.int .i64 v,aC]) (aK b m'::fV fa e.F.length fc e.F::R) w en w'):=by
 have oA:Own (w.alloc (.cells #[(1:Int),e.a,e.b,e.c,.string e.s,.slice fa e.F.length fc] 47)) (aH w.heap.size 47 [(1:Int),e.a,e.b,e.c,.string e.s,.slice fa e.F.length fc]::aK b m::fV fa e.F.length fc e.F::R):=o.alloc (.cells #[(1:Int),e.a,e.b,e.c,.string e.s,.slice fa e.F.length fc] 47);have K0:=aj (x:=.cells #[(1:Int),e.a,e.b,e.c,.string e.s,.slice fa e.F.length fc] 47) (Calm.refl w);have hS:=Jq (fc:=fc) rfl hn16 hP (oA.re [1,2]);unfold xG;rw[hk];clear o hP;obtain⟨-,-,e0,e1,e2,e3,e4,e5,-⟩:=oA.cs;go_enter func28,ntmps28;go_wp2_with fail;refine hS.mono ?_;rintro _ w2⟨v,m',hsl,rfl,o2,k2⟩;clear hS e0 e1 e2 e3 e4 e5;go_wp2;go_ret2;exact⟨v,m',hsl,rfl,o2.re [2] 1,K0.trans k2⟩
theorem Xx{e:Nt}{fa:aY}{fc:Nat}(hk:e.k=2)(hP:adr m)(hs:e.s.size<=1000)(hW:kF W)(o:Own w (aK b m::old W::R)):
  Calls prog 28 #[b,xG e fa fc] w
   (aR (.tuple #[.int .i64 (jT m e.s).2.1,.int .i64 (jT m e.s).2.2]) (aK b (jT m e.s).1::old W::R) w):=by
 have oA:Own (w.alloc (.cells #[(2:Int),e.a,e.b,e.c,.string e.s,.slice fa e.F.length fc] 47)) (aH w.heap.size 47 [(2:Int),e.a,e.b,e.c,.string e.s,.slice fa e.F.length fc]::aK b m::old W::R):=o.alloc (.cells #[(2:Int),e.a,e.b,e.c,.string e.s,.slice fa e.F.length fc] 47);have K0:=aj (x:=.cells #[(2:Int),e.a,e.b,e.c,.string e.s,.slice fa e.F.length fc] 47) (Calm.refl w);have hS:=Nc (s:=e.s) hP hs hW (oA.re [1,2]);unfold xG;rw[hk];generalize jT m e.s=res at*;clear o hP;obtain⟨-,-,e0,e1,e2,e3,e4,e5,-⟩:=oA.cs;go_enter func28,ntmps28;go_wp2_with fail;refine hS.mono ?_;rintro _ w2⟨rfl,o2,k2⟩;clear hS e0 e1 e2 e3 e4 e5;go_wp2;go_ret2;exact⟨rfl,o2.re [2] 1,K0.trans k2⟩
theorem TR{e:Nt}{fa:aY}{fc:Nat}(hk:e.k=4)(hT:m.tab.Ok)(hc:m.cfg.Ok)(hs:e.s.size<=2000000)(hS2:m.S.length<=1000)(hW:kF W)(o:Own w (aK b m::old W::R)):
  Calls prog 28 #[b,xG e fa fc] w
   (fun en w'=>∃p,aR (.tuple #[(pF m.tab e.s e.a e.b:Int),(ig m.tab e.s e.a e.b:Int)]) (aK b (mG m e.s e.a e.b p)::old W::R) w en w'):=by
 have oA:Own (w.alloc (.cells #[(4:Int),e.a,e.b,e.c,.string e.s,.slice fa e.F.length fc] 47)) (aH w.heap.size 47 [(4:Int),e.a,e.b,e.c,.string e.s,.slice fa e.F.length fc]::aK b m::old W::R):=o.alloc (.cells #[(4:Int),e.a,e.b,e.c,.string e.s,.slice fa e.F.length fc] 47);have K0:=aj (x:=.cells #[(4:Int),e.a,e.b,e.c,.string e.s,.slice fa e.F.length fc] 47) (Calm.refl w);have hS:=Ju (e:=e) (fa:=fa) (fc:=fc) hT hc hs hS2 hW (oA.re [1,2]);unfold xG at hS⊢;rw[hk]at hS⊢;clear o hT hc;obtain⟨-,-,e0,e1,e2,e3,e4,e5,-⟩:=oA.cs;go_enter func28,ntmps28;go_wp2_with fail;refine hS.mono ?_;rintro _ w2⟨p,rfl,o2,k2⟩;clear hS e0 e1 e2 e3 e4 e5;go_wp2;go_ret2;exact⟨p,rfl,o2.re [2] 1,K0.trans k2⟩
theorem ab6{e:Nt}{fa:aY}{fc:Nat}(hk:e.k=6)(hT:m.tab.Ok)(hs:e.s.size<=1000000)(hr:m.rules.length<=32)(hm:AU W)(o:Own w (aK b m::old W::R)):
  Calls prog 28 #[b,xG e fa fc] w
   (aR (.tuple #[.int .i64 (tC m e.s).2.1,.int .i64 (tC m e.s).2.2]) (aK b (tC m e.s).1::old W::R) w):=by
 have oA:Own (w.alloc (.cells #[(6:Int),e.a,e.b,e.c,.string e.s,.slice fa e.F.length fc] 47)) (aH w.heap.size 47 [(6:Int),e.a,e.b,e.c,.string e.s,.slice fa e.F.length fc]::aK b m::old W::R):=o.alloc (.cells #[(6:Int),e.a,e.b,e.c,.string e.s,.slice fa e.F.length fc] 47);have K0:=aj (x:=.cells #[(6:Int),e.a,e.b,e.c,.string e.s,.slice fa e.F.length fc] 47) (Calm.refl w);have hS:=TF (s:=e.s) hT hs hr hm (oA.re [1,2]);unfold xG;rw[hk];generalize tC m e.s=res at*;clear o hT;obtain⟨-,-,e0,e1,e2,e3,e4,e5,-⟩:=oA.cs;go_enter func28,ntmps28;go_wp2_with fail;refine hS.mono ?_;rintro _ w2⟨rfl,o2,k2⟩;clear hS e0 e1 e2 e3 e4 e5;go_wp2;go_ret2;exact⟨rfl,o2.re [2] 1,K0.trans k2⟩
def xL(F:List Bool)(m:aX)(k:Nat):aX:=match m.S[k]? with
 |some s=>{m with S:=m.S.set k {s with ch:=BJ s.ch (F.getD k false)}}
 |none=>m
def Xy(F:List Bool)(m:aX):aX:=(List.range m.S.length).foldl (xL F) m
theorem QL(F:List Bool):∀(L:List Nat)(m:aX),(L.foldl (xL F) m).S.length=m.S.length/\(L.foldl (xL F) m).ss=m.ss
 |[],_=>⟨rfl,rfl⟩
 |k::L,m=>by
  have h:=QL F L (xL F m k);have h2:(xL F m k).S.length=m.S.length/\(xL F m k).ss=m.ss:=by
   unfold xL;split
   ·exact⟨List.length_set ..,rfl⟩
   ·exact⟨rfl,rfl⟩
  exact⟨h.1.trans h2.1,h.2.trans h2.2⟩
theorem Vj(F:List Bool):∀(k:Nat)(m:aX)(i:Nat)(s:lM),k<=i->m.S[i]?=some s->((List.range k).foldl (xL F) m).S[i]?=some s
 |0,_,_,_,_,h=>h
 |k+1,m,i,s,hk,h=>by
  rw[List.range_succ,List.foldl_append];have h1:=Vj F k m i s (by omega) h;show(xL F ((List.range k).foldl (xL F) m) k).S[i]?=some s;unfold xL;split
  ·rw[List.getElem?_set_ne (by omega)];exact h1
  ·exact h1
def ads(F:List Bool)(m:aX)(b:Nat)(x:MB)(n:Nat)(l:aJ)(w:aF)(_ _ aeH:aL)(wr:aF):Prop:=
 ∃i:Nat,aeH=↑(i:Int)/\i<=n/\Own wr (ah b ((List.range i).foldl (xL F) m) x::l)/\Calm w wr
theorem TS{e:Nt}{fa:aY}{n fc:Nat}(hk:e.k=11)(hn:e.F.length=n)(hn16:n<=16)(hS:m.S.length=n)(hC:∀(i:Nat)s,m.S[i]?=some s->s.ch.ss.length=32)(o:Own w (aK b m::fV fa n fc e.F::R)):
  Calls prog 48 #[b,.agg #[e.k,e.a,e.b,e.c,.string e.s,.slice fa n fc]] w
   (aR (.int .i64 0) (aK b (Xy e.F m)::fV fa n fc e.F::R) w):=by
 obtain⟨x,oX⟩:=ah.of o;have oA:Own (w.alloc (.cells #[(11:Int),e.a,e.b,e.c,.string e.s,.slice fa n fc] 47)) (aH w.heap.size 47 [(11:Int),e.a,e.b,e.c,.string e.s,.slice fa n fc]::ah b m x::fV fa n fc e.F::R):=oX.alloc (.cells #[(11:Int),e.a,e.b,e.c,.string e.s,.slice fa n fc] 47);have K0:=aj (x:=.cells #[(11:Int),e.a,e.b,e.c,.string e.s,.slice fa n fc] 47) (Calm.refl w);obtain⟨xJ,_⟩:=ah.iff.1 oX;have hns:m.ss.length=n:=by rw[xJ.2,hS]
 have HAN:=az (show(List.range n).foldl (xL e.F) m=Xy e.F m by unfold Xy;rw[hS]);have HS:=az hS;have HN:=az hn;have fP:=az hns;obtain⟨F,hF⟩:=aP e.F;rw[hF]at oA HAN HN;rw[hF,hk];clear o oX xJ hS hn hF hk;go_enter func48,ntmps48;go_upto_region 28 with fail;generalize w.alloc (.cells #[(11:Int),e.a,e.b,e.c,.string e.s,.slice fa n fc] 47)=w1 at*;generalize w.heap.size=ke at*;have c5:World.cell? w1 ⟨ke,5,none⟩=some (.slice fa n fc):=oA.cell 5;obtain⟨c23,cl⟩:=ah.cell (k:=23) rfl (oA.up 1);change World.cell? _ ⟨b,23,none⟩=some (.slice x.sa m.ss.length x.sc)at c23;rw[hns]at c23;clear hns;obtain⟨sa,hsa⟩:=aP x.sa;rw[hsa]at c23;have HSA:=az hsa;clear hsa;go_quiet(fail);have hT:ads F m b x n (fV fa n fc F::aH ke 47 [(11:Int),e.a,e.b,e.c,.string e.s,.slice fa n fc]::R) w undef undef (.int .i64 0) (w1.drewN nq):=⟨0,rfl,by omega,(oA.drewN nq).re [1,2],K0.dn nq⟩;clear oA K0 c5;go_wp2;clear c23 cl;go_loopw[6,7,140] (fun v6 v7 aeH wr=>ads F m b x n (fV fa n fc F::aH ke 47 [(11:Int),e.a,e.b,e.c,.string e.s,.slice fa n fc]::R) w v6 v7 aeH wr) (fun _ _ v _=>n-(Lib.intOf v).toNat);case atStart=>exact hT
 case round=>
  clear hT;obtain⟨i,rfl,hi,oR,kR⟩:=hrel;have hall:=QL F (List.range i) m;by_cases hil:i<n
  ·obtain⟨s,hs⟩:∃s,m.S[i]?=some s:=⟨_,cZ (by rw[HS.out];exact hil)⟩;have hsi:=Vj F i m i s (Nat.le_refl _) hs;have hch:=hC i s hs;have Ee:=az (H7 (xL F) i m);obtain⟨mk,hmk⟩:=aP ((List.range i).foldl (xL F) m);have U1:=az hmk;rw[hmk]at oR hsi hall;obtain⟨p,hp⟩:∃p,mk.ss[i]?=some p:=⟨_,cZ (by rw[hall.2,fP.out];exact hil)⟩;obtain⟨gd,hgd⟩:∃g,F[i]?=some g:=⟨_,cZ (by rw[HN.out];exact hil)⟩;have hgd2:F.getD i false=gd:=by rw[Eb,hgd];rfl
   obtain⟨g,hg,c23,cO,hbl,hgl,_⟩:=ah.DN hp oR;rw[hall.2,fP.out]at c23;obtain⟨a,d,r,hpt⟩:=ah.pts hp hsi oR;have aap:=hpt.drewN 1;have hOb:=ah.chn (P:=prog) (g:=82) (args:=#[.pointer (some ⟨a,0,none⟩),.bool gd]) hp hsi (show fu wr.drew p a d r from aap) (gy.one fun R1 oo=>Ov gd hch oo) oR.drew;have p0:=hpt.c0;have pl:=hpt.lt;have hfl:Own wr (slc 4 1 fa n fc (F.map Value.bool)::_):=oR.up 1;obtain⟨gf,rfl,hcf,_,agp⟩:=hfl.aG (by omega);have ef:=hcf i (.bool gd) (by rw[kI,hgd];rfl);have c5:World.cell? wr ⟨ke,5,none⟩=some (.slice (some ⟨gf,0,none⟩) n fc):=(oR.up 2).cell 5;have kl:=(oR.up 2).aS;have hg':sa=some ⟨g,0,none⟩:=HSA.out.symm.trans hg;subst hg';have HSI:=az hsi;have HGD:=az hgd2;have HGE:=az hgd;clear hcf hfl hs hsi hch hmk hall hgd hgd2 hp hpt aap hg;go_upto_region 33 with fail
   go_region_held3(fun w'=>w'.cell? ⟨p,0,none⟩=some (.pointer (some ⟨a,0,none⟩))/\w'.cell? ⟨gf,i,none⟩=some (.bool gd)/\w'.cell? ⟨ke,5,none⟩=some (.slice (some ⟨gf,0,none⟩) n fc)) (go_keep) (first
    |(go_at_call 82;(with_reducible refine Calls.mono hOb ?_);rintro _ w8⟨⟨⟩,hp8,rfl,o8,k8⟩;have z0:=hp8.c0;have zf:World.cell? w8 ⟨gf,i,none⟩=some (.bool gd):=aao (o8.up 1) (by omega) (by rw[kI,HGE.out];rfl);have z5:World.cell? w8 ⟨ke,5,none⟩=some (.slice (some ⟨gf,0,none⟩) n fc):=(o8.up 2).cell 5;clear hOb))
   have KD:=(aD kR).trans k8;clear z0 zf z5 hp8 oR kR k8 p0 pl ef c5 kl;go_wp2;go_roundw;case rel=>refine⟨i+1,by go_num,by omega,?_,KD⟩;rw[Ee.out,U1.out];unfold xL;rw[HSI.out];dsimp only;rw[HGD.out];exact o8
   case measure=>simp[Lib.intOf];omega
  ·have hin:i=n:=by omega
   rw[hin,HAN.out]at oR;subst hin;clear hall;go_wp2;go_ret;exact⟨rfl,ah.to (oR.re [2] 1|>fun oo=>oo),kR⟩
theorem Xz{e:Nt}{fa:aY}{fc:Nat}(hk:e.k=11)(hn16:e.F.length<=16)(hS:m.S.length=e.F.length)(hC:∀(i:Nat)s,m.S[i]?=some s->s.ch.ss.length=32)(o:Own w (aK b m::fV fa e.F.length fc e.F::R)):
  Calls prog 28 #[b,xG e fa fc] w (aR (.tuple #[aC,aC]) (aK b (Xy e.F m)::fV fa e.F.length fc e.F::R) w):=by
 have oA:Own (w.alloc (.cells #[(11:Int),e.a,e.b,e.c,.string e.s,.slice fa e.F.length fc] 47)) (aH w.heap.size 47 [(11:Int),e.a,e.b,e.c,.string e.s,.slice fa e.F.length fc]::aK b m::fV fa e.F.length fc e.F::R):=o.alloc (.cells #[(11:Int),e.a,e.b,e.c,.string e.s,.slice fa e.F.length fc] 47);have K0:=aj (x:=.cells #[(11:Int),e.a,e.b,e.c,.string e.s,.slice fa e.F.length fc] 47) (Calm.refl w);have hS:=TS (fc:=fc) hk rfl hn16 hS hC (oA.re [1,2]);rw[hk]at hS;unfold xG;rw[hk];clear o hC;obtain⟨-,-,e0,e1,e2,e3,e4,e5,-⟩:=oA.cs;go_enter func28,ntmps28;go_wp2_with fail;refine hS.mono ?_;rintro _ w2⟨rfl,o2,k2⟩;clear hS e0 e1 e2 e3 e4 e5;go_wp2;go_ret2;exact⟨rfl,o2.re [2] 1,K0.trans k2⟩
end
end Go.Proofs.YtfejhikpfhgbeaaGreatDoor
