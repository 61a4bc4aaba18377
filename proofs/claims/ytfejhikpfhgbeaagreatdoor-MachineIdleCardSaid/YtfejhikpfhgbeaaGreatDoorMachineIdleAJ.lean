import Derived.Deep.RegionHeldLaw
import Derived.Stop.Asserts
import Derived.Test.YtfejhikpfhgbeaaGreatDoorMachineIdleAI
set_option maxHeartbeats 25600000
set_option maxRecDepth 100000
set_option linter.all false
namespace Go.Proofs.YtfejhikpfhgbeaaGreatDoor
open Go.Proofs.Tryz
open Go.RowKit
open SP
section
variable{W w w':aF}{R:aJ}{b:Nat}{m:aX}
structure U7(m:aX)(q:Int)(O:List lS)(M:List (Int×rV)):Prop where
 aZ:m.aZ=.timed ⟨q,O,false⟩ M
 ro:Gi q O
 ol:O.length<=100
 ls:∀(i:Nat)s,m.S[i]?=some s->ade m i s
 ch:∀(i:Nat)s,m.S[i]?=some s->∃N,s.ch.Ok N/\N<=1000000000
 id:∀(i:Nat),∀q∈vw m i,1<=q.1/\q.1<=(m.dY.length:Int)
 pk:m.dY.length<=1000000
 le:∀(i:Nat),∀x∈dZ m (vw m i),C_ x
 cp:FC m.cfg.caps
 tab:m.tab.Ok
 ra:∀(i:Nat)s,m.S[i]?=some s->∃(j:Nat)(st:rV)(rt:Int×Int),m.tab.S[i]?=some st/\st.rate=(j:Int)/\m.cfg.bQ[j]?=some rt/\tQ rt.1 rt.2
 sl:m.S.length<=16
 lg:m.log.length<=999999
 tm:∀(i:Nat),zq m i=true->1<=(lT m i).2/\(lT m i).2<=1048576
def adi(m:aX)(x:MB)(b lb tb n:Nat)(R:aJ)(w:aF)(v8 v24:aL)(wr:aF):Prop:=
 ∃(k nr:Nat)(a8:aY)(c8:Nat)(ad:List (aY×Nat)),v24=↑(k:Int)/\k<=n/\v8=.slice a8 nr c8/\(dm m k).length=nr/\ad.length=nr/\
  Own wr (slc 3 1 a8 nr c8 (((dm m k).map fun i:Nat=>(i:Int)).map (Value.int .i64))::bB rY lb (Jp m (dm m k) ad)::bB (Value.int .i64) tb (NG m (dm m k))::st (QC m (dm m k) ad)::ah b m x::R)/\Calm w wr
def zu(m:aX)(q:Int)(O:List lS)(M:List (Int×rV))(b:Nat)(R:aJ)(w:aF)(e:Ending)(w':aF):Prop:=
 if((dm m m.S.length).map fun i:Nat=>(i:Int)).any (Bn O)=true then∃(O':List lS)(i:Nat)(a:aY)(c:Nat),rE q ((dm m m.S.length).map fun i:Nat=>(i:Int)) O O' (i:Int)/\i∈dm m m.S.length/\
  aR (.tuple #[(i:Int),.slice a (iY m i).length c]) (slc 238 2 a (iY m i).length c (flat dF (iY m i))::
   aK b (jM {m with aZ:=.timed (I5 ⟨q,O',true⟩ (lT m i).2) M} ⟨0,5,qJ m (((iY m i).headD (0,0)).1),0,1,(i:Int)⟩)::R) w e w'
 else aR (.tuple #[aC,.slice none 0 0]) (aK b (jM m ⟨0,5,-1,0,6,-1⟩)::R) w e w'
theorem ah.Xl{x:MB}{x1:Nat}{r:I4}{M:List (Int×rV)}(hs:m.aZ=.timed r M)(hv:x.sv=.iface 125 (.pointer (some ⟨x1,0,none⟩)))(o:Own w (ah b m x::R)):
  ∃(rb mb:Nat)(ks:List Nat),ks.length=M.length/\Own w (dX rb r::Et x1 rb mb b::bB pv mb (mF ks M)::st (List.zipWith mK ks M)::((bX b m x).eraseIdx 9++R)):=by
 obtain⟨hx,o1⟩:=ah.iff.1 o;have o2:Own w (dR b m.cfg x.sv m.aZ::((bX b m x).eraseIdx 9++R)):=o1.up 9;rw[hs]at o2;obtain⟨x1',rb,mb,ks,⟨hv',hl⟩,o3⟩:=dR.wM.1 o2;have e:x1=x1':=by rw[hv]at hv';simpa using hv'
 subst e;exact⟨rb,mb,ks,hl,o3.re [1]⟩
theorem ah.K_{x:MB}{x1 rb mb:Nat}{ks:List Nat}{r:I4}{M:List (Int×rV)}(hx:m.qs.length=m.Q.length/\m.ss.length=m.S.length)(hv:x.sv=.iface 125 (.pointer (some ⟨x1,0,none⟩)))(hl:ks.length=M.length)
  (o:Own w (dX rb r::Et x1 rb mb b::bB pv mb (mF ks M)::st (List.zipWith mK ks M)::((bX b m x).eraseIdx 9++R))):Own w (ah b {m with aZ:=.timed r M} x::R):=by
 have o1:Own w (dR b m.cfg x.sv (.timed r M)::((bX b m x).eraseIdx 9++R)):=dR.wM.2 ⟨x1,rb,mb,ks,⟨hv,hl⟩,o.re [1]⟩;exact ah.iff.2 ⟨hx,o1.re [1,2,3,4,5,6,7,8,9,0]⟩
theorem abN{m:aX}{n:Nat}(hn:n<=16):UD ((dm m n).map fun i:Nat=>(i:Int)) where
 lt:=by rw[List.pairwise_map];exact(M6 m n).imp fun h=>by omega
 r:=by intro x hx;obtain⟨i,hi,rfl⟩:=QB hx;have:=M5 hi;omega
 n:=by rw[iP];have:=Hz m n;omega
def U8{α:Type}(G:List (Int×α))(k:Int)(z u:α)(L:Nat->Bool):List (Int×α):=if L 10 then G++[(k,u)]else if L 8 then G++[(k,z)]else G
def tmT{α:Type}(T:List (Int×α))(k:Int)(t:α)(L:Nat->Bool):List (Int×α):=if L 11 then T++[(k,t)]else T
def age(lb tb:Nat)(k:Int)(G:List (Int×(aY×Nat×Nat)))(u:aY×Nat×Nat)(T:bO)(t:Int)(V:List (Option aL))(R:aJ)(w:aF)(L:Nat->Bool)(v:Nat->aL)(wc:aF):Prop:=
 Own wc (bB rY lb (U8 G k (none,0,0) u L)::bB (Value.int .i64) tb (tmT T k t L)::R)/\Calm w wc/\ji (fun i=>V.getD i none) L v/\
 (L 8=true->∃born:Nat,v 8=.tuple #[.slice none 0 0,(born:Int)]/\(L 9=true->v 9=↑(born:Int))/\(L 10=false->oz (G++[(k,(none,0,0))]) wc lb k born))/\(L 9=true->L 8=true)/\(L 10=true->L 9=true)/\(L 11=true->L 10=true)
theorem Tryz.zeroCn(w:aF):(zeroValue 172).run prog w=.ok (rY (none,0,0)) w:=by kernel_rfl
theorem Ty{x:MB}{x1:Nat}{q:Int}{O:List lS}{M:List (Int×rV)}(hP:U7 m q O M)(hv:x.sv=.iface 125 (.pointer (some ⟨x1,0,none⟩)))(o:Own w (ah b m x::R)):
  Calls prog 96 #[b,x1] w (zu m q O M b R w):=by
 have hmm:=@run_makeMap prog;obtain⟨hx,_⟩:=ah.iff.1 o;have HX:=az hx;have HP:=az hP;have HV:=az hv;obtain⟨n,hn⟩:=aP m.S.length;have hn16:n<=16:=by rw[<-hn];exact hP.sl
 have HN:=az hn;have hns:m.ss.length=n:=by rw[hx.2,hn]
 have fP:=az hns;clear hP hx hv hn hns;have oL:=o.gF (f:=rY) (α:=aY×Nat×Nat);have oT:=oL.gF (f:=Value.int .i64) (α:=Int);rw[World.size_alloc]at oT;have K0:Calm w ((w.alloc (.map #[] 0)).alloc (.map #[] 0)):=⟨rfl,rfl,rfl⟩;obtain⟨c23,cl⟩:=ah.cell (k:=23) (v:=.slice x.sa m.ss.length x.sc) rfl (oT.up 2);rw[fP.out]at c23;go_enter func96,ntmps96;go_upto_region 4 with fail;generalize (w.alloc (.map #[] 0)).alloc (.map #[] 0)=w1 at*;generalize w.heap.size+1=tb at*;generalize w.heap.size=lb at*;have oE:Own w1 (st []::bB rY lb []::bB (Value.int .i64) tb []::ah b m x::R):=Own.st.2 (oT.re [1]);have hT:adi m x b lb tb n R w (.slice none 0 0) (.int .i64 0) w1:=⟨0,0,none,0,[],rfl,by omega,rfl,rfl,rfl,Own.bH (oE.re [1,2]),K0⟩;clear oE oT oL o K0;go_wp2;go_loopw[8,9,10,11,12,13,14,24] (fun v8 v9 v10 v11 v12 v13 v14 v24 wr=>adi m x b lb tb n R w v8 v24 wr) (fun _ _ _ _ _ _ _ v _=>n-(Lib.intOf v).toNat);case atStart=>exact hT
 case round=>
  clear hT c23 cl;obtain⟨k,nr,a8,c8,ad,rfl,hk,rfl,hnr,had,oR,kR⟩:=hrel;have QV:=az hnr;have HAD:=az had;clear hnr had;by_cases hkn:k<n
  ·obtain⟨s,hs⟩:∃s,m.S[k]?=some s:=⟨_,cZ (by rw[HN.out];exact hkn)⟩;obtain⟨p,hp⟩:∃p,m.ss[k]?=some p:=⟨_,cZ (by rw[fP.out];exact hkn)⟩;obtain⟨g,hg,c23,cO,hbl,hgl,hil⟩:=ah.DN hp (oR.up 4);rw[hg];have hLi:=Tv (HP.out.ls k s hs) (oR.up 4);have HS:=az hs;have HPP:=az hp;have HLM:=az (show vw m k=pI m k s by unfold vw;rw[hs]);clear hs hp c23 hil;go_wp2_with fail;refine hLi.mono ?_;rintro _ w2⟨X9,c11,rfl,o2,k2⟩;have K2:=kR.trans k2;clear hLi oR kR k2 cO hbl hgl;obtain⟨LL,hLL⟩:=aP (pI m k s);have GY:=az (HLM.out.trans hLL);rw[hLL]at o2⊢;clear hLL;obtain⟨ll,hll⟩:=aP LL.length;have Eo:=az hll;rw[hll]at o2⊢;clear hll;have hsame:zq m k=false->dm m (k+1)=dm m k:=by intro h;rw[KY,h,if_neg (by decide),List.append_nil]
   by_cases hl0:ll=0
   ·subst hl0
    have XU:=az (hsame (by
     unfold zq;rw[HS.out,GY.out];dsimp only;rw[CO Eo.out]
     rfl))
    clear hsame;go_wp2;go_roundw;case rel=>refine⟨k+1,nr,a8,c8,ad,by go_num,by omega,rfl,by rw[XU.out,QV.out],HAD.out,?_,K2⟩;rw[XU.out];exact o2.re [0,2,3,4,5,1] 1
    case measure=>simp[Lib.intOf];omega
   ·have hlz:((ll:Int)==0)=false:=Ec.2 (by omega);obtain⟨N,hok,hNN⟩:=HP.out.ch k s HS.out;obtain⟨pa,pd,pr,hpt⟩:=ah.pts HPP.out HS.out (o2.up 1);have p0:=hpt.c0;have EX:=ah.afI (P:=prog) (g:=114) (args:=#[pa]) HPP.out HS.out hpt (gy.one fun R1 oo=>tV hok hNN oo) (o2.up 1);obtain⟨PB,hPB⟩:=aP (eB s.ch);have HPB:=az hPB;rw[hPB]at EX;clear hPB hok hNN hpt;go_wp2_with fail;refine EX.mono ?_;rintro _ w3⟨_,_,rfl,o3,k3⟩;have K3:=K2.trans k3;have oX3:Own w3 (ah b m x::slc 238 2 X9 ll c11 (flat dF LL)::slc 3 1 a8 nr c8 (((dm m k).map fun i:Nat=>(i:Int)).map (Value.int .i64))::bB rY lb (Jp m (dm m k) ad)::bB (Value.int .i64) tb (NG m (dm m k))::st (QC m (dm m k) ad)::R):=o3.re [0,1,2,3,4,5];clear EX o3 o2 p0 k3 K2;cases PB with
    |false=>
     have XU:=az (hsame (by
      unfold zq;rw[HS.out];dsimp only;rw[HPB.out,Bool.and_false]
      rfl))
     clear hsame;go_wp2;go_roundw;case rel=>refine⟨k+1,nr,a8,c8,ad,by go_num,by omega,rfl,by rw[XU.out,QV.out],HAD.out,?_,K3⟩;rw[XU.out];exact oX3.re [1,2,3,4,5,0] 1
     case measure=>simp[Lib.intOf];omega
    |true=>
     go_upto_region 9 with fail;have hid:=HP.out.id k;rw[GY.out]at hid;have adj:ll<=1000:=by
      have h1:=HLM.out.symm.trans GY.out;have h2:(pI m k s).length<=32:=by unfold pI;rw[rZ];omega
      rw[h1]at h2;rw[<-Eo.out];omega
     have Z_:=yz Eo.out adj hid HP.out.pk (oX3.drew.re [1]);obtain⟨jr,stt,rt,hst,hjr,hrt,hro⟩:=HP.out.ra k s HS.out;have HLE:=az (show(dZ m LL).length=ll by unfold dZ;rw[iP,Eo.out]);have HRA:=az (fun(w4:aF)(R1:aJ)(o4:Own w4 (ah b m x::R1))=>GK HP.out.tab hst hjr hrt o4)
     have HBU:=az (fun(w5:aF)(R1:aJ)(a4:aY)(c4:Nat)(o5:Own w5 (slc 3 1 a4 ll c4 ((dZ m LL).map (Value.int .i64))::R1))=>show Calls prog 143 #[.slice a4 ll c4,.agg #[m.cfg.caps.1,m.cfg.caps.2.1,m.cfg.caps.2.2],nO rt] w5 (aR (.tuple #[(((yJ m.cfg.caps rt (dZ m LL)).1:Nat):Int),.int .i64 (yJ m.cfg.caps rt (dZ m LL)).2,aC]) (slc 3 1 a4 ll c4 ((dZ m LL).map (Value.int .i64))::R1) w5)by
      have h1:=Ou (cp:=m.cfg.caps) (L:=dZ m LL) (a:=a4) (c:=c4) (R:=R1) (w:=w5) (r:=rt) (by
       have h2:=HP.out.le k;rw[GY.out]at h2
       exact h2) (by
       intro h3;have h4:=HLE.out;rw[h3]at h4
       exact hl0 h4.symm) (by rw[HLE.out];have h5:=HLM.out.symm.trans GY.out;have h2:(pI m k s).length<=32:=by unfold pI;rw[rZ];omega
                              rw[h5,Eo.out]at h2;omega) HP.out.cp hro (by unfold bZ;rw[HLE.out];exact o5)
      unfold bZ at h1;rw[HLE.out]at h1
      exact h1)
     have HBM:=az (show lT m k=yJ m.cfg.caps rt (dZ m LL)by
      unfold lT QA;rw[GY.out,hst];dsimp only;rw[hjr,Int.toNat_natCast,hrt]
      rfl)
     obtain⟨⟨bn,bt⟩,hbb⟩:∃z,yJ m.cfg.caps rt (dZ m LL)=z:=⟨_,rfl⟩;have HBB:=az hbb;rw[hbb]at HBM HBU;dsimp only at HBU;obtain⟨d6,dl⟩:=ah.cell (k:=6) (v:=.int .i64 m.cfg.caps.1) rfl oX3;obtain⟨d7,_⟩:=ah.cell (k:=7) (v:=.int .i64 m.cfg.caps.2.1) rfl oX3;obtain⟨d8,_⟩:=ah.cell (k:=8) (v:=.int .i64 m.cfg.caps.2.2) rfl oX3;obtain⟨La,hc1⟩:=aP m.cfg.caps.1;obtain⟨cp2,hc2⟩:=aP m.cfg.caps.2.1;obtain⟨cp3,hc3⟩:=aP m.cfg.caps.2.2;have HC1:=az hc1;have HC2:=az hc2;have HC3:=az hc3;rw[hc1,hc2,hc3]at HBU;rw[hc1]at d6;rw[hc2]at d7;rw[hc3]at d8;clear hst hjr hrt hro hbb hid hc1 hc2 hc3 adj
     go_region_held3(fun w'=>w'.cell? ⟨b,6,none⟩=some ↑La/\w'.cell? ⟨b,7,none⟩=some ↑cp2/\w'.cell? ⟨b,8,none⟩=some ↑cp3) (go_keep) (first
      |(go_at_call 103;(with_reducible refine Calls.mono Z_ ?_);rintro _ w4⟨a4,c4,rfl,o4,k4⟩;obtain⟨e6,_⟩:=ah.cell (k:=6) (v:=.int .i64 m.cfg.caps.1) rfl (o4.up 2);obtain⟨e7,_⟩:=ah.cell (k:=7) (v:=.int .i64 m.cfg.caps.2.1) rfl (o4.up 2);obtain⟨e8,_⟩:=ah.cell (k:=8) (v:=.int .i64 m.cfg.caps.2.2) rfl (o4.up 2);rw[HC1.out]at e6;rw[HC2.out]at e7;rw[HC3.out]at e8;have hRa:=HRA.out _ _ (o4.up 2);clear Z_)
      |(go_at_call 105;(with_reducible refine Calls.mono hRa ?_);rintro _ w5⟨rfl,o5,k5⟩;obtain⟨f6,_⟩:=ah.cell (k:=6) (v:=.int .i64 m.cfg.caps.1) rfl o5;obtain⟨f7,_⟩:=ah.cell (k:=7) (v:=.int .i64 m.cfg.caps.2.1) rfl o5;obtain⟨f8,_⟩:=ah.cell (k:=8) (v:=.int .i64 m.cfg.caps.2.2) rfl o5;rw[HC1.out]at f6;rw[HC2.out]at f7;rw[HC3.out]at f8;have hBu:=HBU.out _ _ _ _ (o5.up 1);clear hRa)
      |(go_at_call 143;(with_reducible refine Calls.mono hBu ?_);rintro _ w6⟨rfl,o6,k6⟩;obtain⟨g6,_⟩:=ah.cell (k:=6) (v:=.int .i64 m.cfg.caps.1) rfl (o6.up 1);obtain⟨g7,_⟩:=ah.cell (k:=7) (v:=.int .i64 m.cfg.caps.2.1) rfl (o6.up 1);obtain⟨g8,_⟩:=ah.cell (k:=8) (v:=.int .i64 m.cfg.caps.2.2) rfl (o6.up 1);rw[HC1.out]at g6;rw[HC2.out]at g7;rw[HC3.out]at g8;clear hBu))
     have K6:=(((aD K3).trans k4).trans k5).trans k6;have o7:Own w6 (slc 3 1 a8 nr c8 (((dm m k).map fun i:Nat=>(i:Int)).map (Value.int .i64))::bB rY lb (Jp m (dm m k) ad)::bB (Value.int .i64) tb (NG m (dm m k))::st (QC m (dm m k) ad)::slc 238 2 X9 ll c11 (flat dF LL)::ah b m x::R):=o6.re [0,3,4,5,6,2,1] 1;clear o6 o5 o4 k6 k5 k4 K3 oX3 g6 g7 g8 d6 d7 d8 dl;by_cases hbn:bn=0
     ·subst hbn
      have XU:=az (hsame (by
       unfold zq;rw[HS.out,HBM.out];dsimp only
       rw[show decide (0<0)=false from rfl,Bool.and_false]))
      clear hsame;go_wp2;go_roundw;case rel=>refine⟨k+1,nr,a8,c8,ad,by go_num,by omega,rfl,by rw[XU.out,QV.out],HAD.out,?_,K6⟩;rw[XU.out];exact o7.re [0,1,2,3,5,4]|>.re [5] 1
      case measure=>simp[Lib.intOf];omega
     ·have hbz:=bz (show(0:Int)<(bn:Int)by omega)
      have Ee:=az (show dm m (k+1)=dm m k++[k]by
       rw[KY,if_pos];unfold zq;rw[HS.out,HBM.out];dsimp only;rw[GY.out,HPB.out,show LL.isEmpty=false by rw[List.isEmpty_eq_false_iff];intro h3;have h4:=Eo.out;rw[h3]at h4;exact hl0 h4.symm,bz (by omega)]
       rfl)
      clear hsame;obtain⟨g11,rfl,_,_,aiV⟩:=(o7.up 4).aG (by omega);have hcl:=(Own.fA (o7.up 4)).2.1;have ahE:bn<=ll:=by have h1:=U5 m.cfg.caps (QA m k) (dZ m (vw m k));have h2:=HBM.out;unfold lT at h2;rw[h2,GY.out,HLE.out]at h1;exact h1
      have aiW:nr<=k:=by rw[<-QV.out];exact Hz m k
      have oY:=o7.alloc (.cells #[(k:Int)] 3);have hnw:=Own.news (T:=3) (vs:=[(k:Int)]) oY;go_wp2_with(at_builtin;refine aQ rfl _ _ rfl Tryz.intTk rfl (oY.up 1) rfl ⟨_,_,rfl,rfl,by intro u hu;simp only[jc,xN,or_false]at hu;subst hu;rfl,.inr ⟨_,rfl,hnw⟩⟩ (by unfold maxLen;omega) (by omega) ?kK);case kK=>
       intro a9 c9 w7 o8 k8;have o9:Own w7 (slc 3 1 a9 (nr+1) c9 (((dm m (k+1)).map fun i:Nat=>(i:Int)).map (Value.int .i64))::bB rY lb (Jp m (dm m k) ad)::bB (Value.int .i64) tb (NG m (dm m k))::st (QC m (dm m k) ad)::slc 238 2 (some ⟨g11,0,none⟩) ll c11 (flat dF LL)::ah b m x::R):=by rw[Ee.out,tJ,tJ,List.map_map];exact o8.re [1] 1
       have K9:=K6.trans ((aj (Calm.refl _)).trans k8);clear hnw oY o8 k8 o7 K6;go_upto_region 12 with fail;have hkey:=abJ (m:=m) (L:=dm m k) (ad:=ad) (k:=k) (fun i hi=>M5 hi);have aev:=abK (m:=m) (L:=dm m k) (k:=k) (fun i hi=>M5 hi) bt;obtain⟨G,hG⟩:=aP (Jp m (dm m k) ad);obtain⟨T,hT⟩:=aP (NG m (dm m k));have HG:=az hG;have HTT:=az hT;rw[hG]at hkey o9;rw[hT]at aev o9;have HKEY:=az hkey;have ahF:=az aev;obtain⟨PR,hPR⟩:=aP (slc 3 1 a9 (nr+1) c9 (((dm m (k+1)).map fun i:Nat=>(i:Int)).map (Value.int .i64))::st (QC m (dm m k) ad)::slc 238 2 (some ⟨g11,0,none⟩) ll c11 (flat dF LL)::ah b m x::R:aJ);have HPR:=az hPR;have jN:Own w7 (bB rY lb G::bB (Value.int .i64) tb T::PR):=by rw[<-hPR];exact o9.re [1,2]
       clear hG hT hPR hkey aev o9;refine bY (fun L v wc=>age lb tb (k:Int) G (some ⟨g11,0,none⟩,bn,c11) T bt [some (.map (some lb)),some (.int .i64 (k:Int)),some (.map (some tb)),some (.int .i64 (k:Int)),some (.slice (some ⟨g11,0,none⟩) ll c11),some (.int .i64 (bn:Int)),some (.slice (some ⟨g11,0,none⟩) bn c11),some (.int .i64 bt),none,none,none,none] PR w L v wc) (by kernel_rfl) (by kernel_rfl) (by kernel_rfl) ?h0 ?step ?fin;case h0=>have F:∀{p:Prop},false=true->p:=fun h=>(zH h).elim;exact⟨jN.drew,aD K9,ji.no,F,F,F,F⟩
       case step=>
        refine⟨au.mk rfl ?_,au.mk rfl ?_,au.mk rfl ?_,au.mk rfl ?_,au.mk rfl ?_,au.mk rfl ?_,au.mk rfl ?_,au.mk rfl ?_,au.mk rfl ?_,au.mk rfl ?_,au.mk rfl ?_,au.mk rfl ?_,trivial⟩;all_goals intro L v Gg wc hL hd hA hI K' hK
        all_goals obtain⟨oD,kD,hv,e8,e9,e10,e11⟩:=hI
        all_goals simp[Region.binds]at hd
        all_goals have HV:=az hv
        all_goals clear hv
        ·have c_:=hA.base 6 (by rfl);simp only[o_,pJ,rO,p8]at c_;go_simp;exact hK.out _ _ ⟨oD,kD,HV.out.put 0 dS,e8,e9,e10,e11⟩
        ·have c_:=hA.base 9 (by rfl);simp only[o_,pJ,rO,p8]at c_;go_simp;exact hK.out _ _ ⟨oD,kD,HV.out.put 1 dS,e8,e9,e10,e11⟩
        ·have c_:=hA.base 7 (by rfl);simp only[o_,pJ,rO,p8]at c_;go_simp;exact hK.out _ _ ⟨oD,kD,HV.out.put 2 dS,e8,e9,e10,e11⟩
        ·have c_:=hA.base 9 (by rfl);simp only[o_,pJ,rO,p8]at c_;go_simp;exact hK.out _ _ ⟨oD,kD,HV.out.put 3 dS,e8,e9,e10,e11⟩
        ·have c_:=hA.base 11 (by rfl);simp only[o_,pJ,rO,p8]at c_;go_simp;exact hK.out _ _ ⟨oD,kD,HV.out.put 4 dS,e8,e9,e10,e11⟩
        ·have c_:=hA.base 12 (by rfl);simp only[o_,pJ,rO,p8]at c_;go_simp;exact hK.out _ _ ⟨oD,kD,HV.out.put 5 dS,e8,e9,e10,e11⟩
        ·have V4:L 4=true:=by simp[hd]
         have c4_:=hA.gt HV 4 V4;have V5:L 5=true:=by simp[hd]
         have c5_:=hA.gt HV 5 V5;have hbc:bn<=c11:=by omega
         go_simp;exact hK.out _ _ ⟨oD,kD,HV.out.put 6 dS,e8,e9,e10,e11⟩
        ·have c_:=hA.base 13 (by rfl);simp only[o_,pJ,rO,p8]at c_;go_simp;exact hK.out _ _ ⟨oD,kD,HV.out.put 7 dS,e8,e9,e10,e11⟩
        ·have Nz:L 0=true:=by simp[hd]
         have OX:=hA.gt HV 0 Nz;have NA:L 1=true:=by simp[hd]
         have c1_:=hA.gt HV 1 NA;have n9:L 9=false:=by cases h:L 9 with|false=>rfl|true=>rw[e9 h]at hL;cases hL
         have n10:L 10=false:=by cases h:L 10 with|false=>rfl|true=>rw[e10 h]at n9;cases n9
         have eM:U8 G (k:Int) (none,0,0) (some ⟨g11,0,none⟩,bn,c11) L=G:=by unfold U8;rw[n10,hL];rfl
         have eM2:U8 G (k:Int) (none,0,0) (some ⟨g11,0,none⟩,bn,c11) (dI L 8)=G++[((k:Int),(none,0,0))]:=by unfold U8;rw[show dI L 8 10=L 10 from rfl,n10];rfl
         rw[eM]at oD;obtain⟨w2,born,hr,hB,o2,k2⟩:=Cy underlying300 underlying3 Tryz.zeroCn oD (k:Int) HKEY.out;have o3:Own w2 (bB rY lb (U8 G (k:Int) (none,0,0) (some ⟨g11,0,none⟩,bn,c11) (dI L 8))::bB (Value.int .i64) tb (tmT T (k:Int) bt (dI L 8))::PR):=by rw[eM2];exact o2
         go_simp;exact hK.out _ _ ⟨o3,kD.trans k2,HV.out.put 8 (fun _ h=>nomatch h),fun _=>⟨born,rfl,fun h=>(zH (n9.symm.trans h)).elim,fun _=>hB⟩,fun h=>rfl,e10,e11⟩
        ·have UN:L 8=true:=by simp[hd]
         obtain⟨born,h12,EK,hB⟩:=e8 UN;have OX:Gg.tmps[73]?.getD undef=.tuple #[.slice none 0 0,(born:Int)]:=(hA.get 8 UN).trans h12;go_simp;exact hK.out _ _ ⟨oD,kD,HV.out.put 9 (fun _ h=>nomatch h),fun _=>⟨born,h12,fun _=>rfl,hB⟩,fun _=>UN,fun h=>rfl,e11⟩
        ·have Nz:L 0=true:=by simp[hd]
         have XW:L 9=true:=by simp[hd]
         have V6:L 6=true:=by simp[hd]
         have UN:L 8=true:=e9 XW;obtain⟨born,h12,EK,hB⟩:=e8 UN;have OX:=hA.gt HV 0 Nz;have c9_:Gg.tmps[74]?.getD undef=.int .i64 (born:Int):=(hA.get 9 XW).trans (EK XW);have c6_:=hA.gt HV 6 V6;have n11:L 11=false:=by cases h:L 11 with|false=>rfl|true=>rw[e11 h]at hL;cases hL
         have eM:U8 G (k:Int) (none,0,0) (some ⟨g11,0,none⟩,bn,c11) L=G++[((k:Int),(none,0,0))]:=by unfold U8;rw[hL,UN];rfl
         have eM2:U8 G (k:Int) (none,0,0) (some ⟨g11,0,none⟩,bn,c11) (dI L 10)=G++[((k:Int),(some ⟨g11,0,none⟩,bn,c11))]:=by unfold U8;rfl
         rw[eM]at oD;obtain⟨w2,hr,o2,k2⟩:=fM (P:=prog) (t:=300) oD (k:Int) (some ⟨g11,0,none⟩,bn,c11) (hB hL);rw[Qz _ _ _ _ HKEY.out]at o2;have o3:Own w2 (bB rY lb (U8 G (k:Int) (none,0,0) (some ⟨g11,0,none⟩,bn,c11) (dI L 10))::bB (Value.int .i64) tb (tmT T (k:Int) bt (dI L 10))::PR):=by rw[eM2];exact o2
         have hr':(Instr.entryStore 300 (.map (some lb)) (.int .i64 (born:Int)) (.slice (some ⟨g11,0,none⟩) bn c11)).run prog wc=.ok () w2:=hr;go_simp;exact hK.out undef _ ⟨o3,kD.trans k2,HV.out.put 10 (fun _ h=>nomatch h),fun h=>⟨born,h12,EK,fun h=>(zH h.symm).elim⟩,e9,fun _=>XW,fun h=>rfl⟩
        ·have RQ:L 2=true:=by simp[hd]
         have RU:L 3=true:=by simp[hd]
         have Ma:L 7=true:=by simp[hd]
         have zh:L 10=true:=by simp[hd]
         have OX:=hA.gt HV 2 RQ;have c9_:=hA.gt HV 3 RU;have c6_:=hA.gt HV 7 Ma;have eM:tmT T (k:Int) bt L=T:=by unfold tmT;rw[hL];rfl
         have eM2:tmT T (k:Int) bt (dI L 11)=T++[((k:Int),bt)]:=by unfold tmT;rfl
         rw[eM]at oD;obtain⟨w2,hr,o2,k2⟩:=jg (P:=prog) underlying216 underlying3 (oD.up 1) (k:Int) bt;rw[ahF.out]at o2;have o3:Own w2 (bB rY lb (U8 G (k:Int) (none,0,0) (some ⟨g11,0,none⟩,bn,c11) (dI L 11))::bB (Value.int .i64) tb (tmT T (k:Int) bt (dI L 11))::PR):=by rw[eM2];exact o2.up 1
         go_simp;obtain⟨born,h12,EK,hB⟩:=e8 (e9 (e10 zh));exact hK.out undef _ ⟨o3,kD.trans k2,HV.out.put 11 (fun _ h=>nomatch h),fun h=>⟨born,h12,EK,fun h=>(by rw[show dI L 11 10=L 10 from rfl,zh]at h;cases h)⟩,e9,e10,fun _=>zh⟩
       case fin=>
        rintro L v wc hall⟨oD,kD,_⟩;have eM:U8 G (k:Int) (none,0,0) (some ⟨g11,0,none⟩,bn,c11) L=G++[((k:Int),(some ⟨g11,0,none⟩,bn,c11))]:=by unfold U8;rw[hall 10 (by decide)];rfl
        have eT:tmT T (k:Int) bt L=T++[((k:Int),bt)]:=by unfold tmT;rw[hall 11 (by decide)];rfl
        rw[eM,eT,<-HPR.out]at oD;clear hall;simp only[jV,Act.put,List.setIfInBounds_toArray,List.set_cons_zero,List.set_cons_succ];have oT:Own wc (slc 238 2 (some ⟨g11,0,none⟩) bn c11 (flat dF (LL.take bn))::bB rY lb (G++[((k:Int),(some ⟨g11,0,none⟩,bn,c11))])::bB (Value.int .i64) tb (T++[((k:Int),bt)])::slc 3 1 a9 (nr+1) c9 (((dm m (k+1)).map fun i:Nat=>(i:Int)).map (Value.int .i64))::st (QC m (dm m k) ad)::ah b m x::R):=by have Eg:=oD.up 4;rw[<-List.take_append_drop bn LL,aO]at Eg;refine Own.lW Eg ahE ?_;rw[aN fE,rZ,Eo.out];rw[show min bn ll=bn by omega]
        have HBE:=az (show iY m k=LL.take bn by unfold iY;rw[GY.out,HBM.out]);clear oD;go_wp2;go_roundw;case rel=>
         have hal:(dm m k).length=ad.length:=by rw[QV.out,HAD.out]
         have e1:Jp m (dm m (k+1)) (ad++[(some ⟨g11,0,none⟩,c11)])=G++[((k:Int),(some ⟨g11,0,none⟩,bn,c11))]:=by rw[Ee.out];unfold Jp;rw[List.zipWith_append hal];have:=HG.out;unfold Jp at this;rw[this];show _++[((k:Int),(_,(lT m k).1,_))]=_;rw[HBM.out]
         have e2:NG m (dm m (k+1))=T++[((k:Int),bt)]:=by rw[Ee.out,<-HTT.out];unfold NG;rw[tJ];show _++[((k:Int),(lT m k).2)]=_;rw[HBM.out]
         have e3:QC m (dm m (k+1)) (ad++[(some ⟨g11,0,none⟩,c11)])=QC m (dm m k) ad++[slc 238 2 (some ⟨g11,0,none⟩) bn c11 (flat dF (LL.take bn))]:=by rw[Ee.out];unfold QC;rw[List.zipWith_append hal];show _++[slc _ _ _ (lT m k).1 _ (flat dF (iY m k))]=_;rw[HBM.out,HBE.out]
         refine⟨k+1,nr+1,a9,c9,ad++[(some ⟨g11,0,none⟩,c11)],by go_num,by omega,rfl,by rw[Ee.out,jf,QV.out];rfl,by rw[jf,HAD.out];rfl,?_,kD⟩;rw[e1,e2,e3];have Bl:=Own.BB (oT.re [0,4]);exact Bl.re [3,1,2,0]
        case measure=>simp[Lib.intOf];omega
  ·have hin:k=n:=by omega
   subst hin;clear hkn hk;have hrl:nr<=16:=by have:=Hz m k;have:=QV.out;omega
   obtain⟨rb,mb,ks,hks,o1⟩:=ah.Xl HP.out.aZ HV.out (oR.re [4]);have t0:=Own.cell (T:=128) (o1.up 1) 0;obtain⟨LI,hLI⟩:=aP (((dm m k).map fun i:Nat=>(i:Int)):bq);have HLI:=az hLI;have abO:LI.length=nr:=by rw[<-hLI,iP,QV.out]
   have agf:UD LI:=by rw[<-hLI];exact abN hn16
   have aiX:=az abO;have o2:Own wr (dX rb ⟨q,O,false⟩::bZ a8 c8 LI::Et x1 rb mb b::bB pv mb (mF ks M)::st (List.zipWith mK ks M)::((bX b m x).eraseIdx 9++(bB rY lb (Jp m (dm m k) ad)::bB (Value.int .i64) tb (NG m (dm m k))::st (QC m (dm m k) ad)::R))):=by unfold bZ;rw[abO,<-hLI];exact o1.re [0,16,1,2,3]
   have m_:=R6 (L:=LI) (a:=a8) (c:=c8) HP.out.ro HP.out.ol agf o2;rw[abO]at m_
   have HPO:=az (show zu m q O M b R w=fun e w'=>if LI.any (Bn O)=true then∃(O':List lS)(i:Nat)(a:aY)(c:Nat),rE q LI O O' (i:Int)/\i∈dm m k/\
     aR (.tuple #[(i:Int),.slice a (iY m i).length c]) (slc 238 2 a (iY m i).length c (flat dF (iY m i))::
      aK b (jM {m with aZ:=.timed (I5 ⟨q,O',true⟩ (lT m i).2) M} ⟨0,5,qJ m (((iY m i).headD (0,0)).1),0,1,(i:Int)⟩)::R) w e w'
    else aR (.tuple #[aC,.slice none 0 0]) (aK b (jM m ⟨0,5,-1,0,6,-1⟩)::R) w e w' by
     funext e w';unfold zu
     rw[HN.out,HLI.out])
   clear hLI abO agf o1 oR;go_wp2_with fail;refine m_.mono ?_;intro e2 w2 hnx;unfold Cb at hnx;by_cases hany:LI.any (Bn O)=true
   ·rw[if_pos hany]at hnx;obtain⟨O',xi,hns,rfl,o3,k3⟩:=hnx;have K3:=kR.trans k3;obtain⟨hro,hxm,d,l,hOd,hdi⟩:=Tx hns HP.out.ro;rw[<-HLI.out]at hxm;obtain⟨i,him,rfl⟩:=QB hxm;subst hOd;obtain⟨tt,htt⟩:=aP ((lT m i).2);have HTT:=az htt;have Tz:zq m i=true:=by unfold dm at him;exact(List.mem_filter.1 him).2
    have Ul:=HP.out.tm i Tz;rw[htt]at Ul;have hds:=hro.ds d List.mem_cons_self;obtain⟨j,ag,cg,hgl,hgs⟩:=abL (m:=m) (ad:=ad) (by rw[HAD.out,QV.out]) (M6 m k) him;have htl:=abM (m:=m) (M6 m k) him;rw[htt]at htl;have HGL:=az hgl;have HGS:=az hgs;have HTL:=az htl;have hLk:=bI (P:=prog) underlying216 underlying3 (z:=.int .i64 0) (by intro w;kernel_rfl) (o3.drew.up 18) (i:Int) false;rw[htl]at hLk;have hCh:=Mf (q:=q) (d:=d) (l:=l) (t:=tt) Ul ⟨by have:=hds.f;omega,by have:=hds.f;omega⟩ o3.drew;obtain⟨-,-,t0,-⟩:=Own.cs (T:=128) (vs:=.pointer (some ⟨rb,0,none⟩)::_) (o3.drew.up 2);have ahG:=az hns;clear m_ o2 k3 hgl hgs htl hds Ul htt hro hxm hns;go_upto_region 18 with fail;refine wp_region_tail 7 (by kernel_rfl) (by kernel_rfl) ?_;simp only[xe,List.take_zero,yB,List.drop_zero];repeat still_step
    refine wpStill_nil ?_;go_wp2_with fail;refine hCh.mono ?_;rintro _ w4⟨rfl,o4,k4⟩;have K4:=(aD K3).trans k4;have oM:Own w4 (ah b {m with aZ:=.timed (I5 ⟨q,d::l,true⟩ tt) M} x::bB rY lb (Jp m (dm m k) ad)::st (QC m (dm m k) ad)::R):=by have h1:=ah.K_ (R:=bZ a8 c8 LI::bB rY lb (Jp m (dm m k) ad)::bB (Value.int .i64) tb (NG m (dm m k))::st (QC m (dm m k) ad)::R) HX.out HV.out hks (o4.re [0,2,3,4,5,6,7,8,9,10,11,12,13,14,15,16,1]);exact h1.re [1,3,0,2,4] 2
    clear hCh o4 o3 k4 t0 hLk;obtain⟨bn,hbn⟩:=aP ((lT m i).1);have HBN:=az hbn;have hbp:0<bn:=by
     unfold zq at Tz;split at Tz
     ·rw[Bt,xM,hbn]at Tz;exact Tz.2
     ·cases Tz
    obtain⟨c0,tl,hct⟩:∃c0 tl,iY m i=c0::tl:=by
     cases hb:iY m i with
     |nil=>have:=Cz m i;rw[hb,hbn]at this;simp at this;omega
     |cons c t=>exact⟨c,t,rfl⟩
    have HCT:=az hct
    have ahH:=HP.out.id i c0 (by
     have:c0∈iY m i:=by rw[hct];exact List.mem_cons_self
     unfold iY at this
     exact List.mem_of_mem_take this)
    obtain⟨kk,hkk⟩:∃kk:Nat,c0.1=(kk:Int)+1:=⟨(c0.1-1).toNat,by omega⟩;obtain⟨pk,hpk⟩:∃p,m.dY[kk]?=some p:=⟨_,cZ (by omega)⟩;have hfl:qJ m c0.1=pk.fl:=by unfold qJ;rw[hkk,show((kk:Int)+1).toNat-1=kk by omega,hpk]
    have YR:=az hfl;have ahI:=HP.out.pk;obtain⟨gp,_,d25,d1,_,_,hkl⟩:=ah.pkt (m:={m with aZ:=.timed (I5 ⟨q,d::l,true⟩ tt) M}) hpk oM.drew;have hw:IntKind.i64.wrap (c0.1-1)=(kk:Int):=by rw[hkk,gB];omega
    have SE:=HGL.out;rw[hbn]at SE;have hLk:=bI (P:=prog) underlying300 underlying3 (z:=rY (none,0,0)) Tryz.zeroCn (oM.drew.up 1) (i:Int) false;rw[SE]at hLk;have oF:=Own.focus HGS.out (oM.up 2);rw[hbn,hct]at oF;obtain⟨g9,rfl,jS,_,_⟩:=oF.drew.aG hbp
    replace hLk:(Instr.lookup 300 (.map (some lb)) (.int .i64 (i:Int)) false).run prog w4.drew=.ok (.slice (some ⟨g9,0,none⟩) bn cg) w4.drew:=hLk
    have e0:=jS 0 c0.1 rfl;have hW:=nM (m:={m with aZ:=.timed (I5 ⟨q,d::l,true⟩ tt) M}) ⟨0,5,pk.fl,0,1,(i:Int)⟩ (by have:=HP.out.lg;show m.log.length<=1000000;omega) oM.drew;obtain⟨np,hnp⟩:=aP m.dY.length;change World.cell? _ ⟨b,25,none⟩=some (.slice (some ⟨gp,0,none⟩) m.dY.length x.pc)at d25;change kk<m.dY.length at hkl;rw[hnp]at d25 hkl ahI;clear jS oF hnp hpk hfl ahH hkk hct hbn Tz;go_upto_region 19 with fail;refine wp_region_tail 17 (by kernel_rfl) (by kernel_rfl) ?_;simp only[xe,List.take_zero,yB,List.drop_zero];repeat still_step
    refine wpStill_nil ?_;go_wp2_with fail;refine hW.mono ?_;rintro _ w6⟨la,lc,rfl,o6,k6⟩;have K6:=(aD K4).trans k6;have abP:=bI (P:=prog) underlying300 underlying3 (z:=rY (none,0,0)) Tryz.zeroCn (o6.up 1) (i:Int) false;rw[SE]at abP
    replace abP:(Instr.lookup 300 (.map (some lb)) (.int .i64 (i:Int)) false).run prog w6=.ok (.slice (some ⟨g9,0,none⟩) bn cg) w6:=abP
    have aiY:=fun(n:Nat)=>show(Instr.lookup 300 (.map (some lb)) (.int .i64 (i:Int)) false).run prog (w6.drewN n)=.ok (.slice (some ⟨g9,0,none⟩) bn cg) (w6.drewN n)from
     bI (P:=prog) underlying300 underlying3 (z:=rY (none,0,0)) Tryz.zeroCn ((o6.up 1).drewN n) (i:Int) false|>.trans (by rw[SE];rfl)
    have oG:=Own.focus HGS.out (o6.up 2);clear hW hLk abP e0 d25 d1;go_upto_region 20 with fail;go_quiet(fail);go_wp2;go_ret2;rw[HPO.out];dsimp only;rw[if_pos hany];refine⟨d::l,i,some ⟨g9,0,none⟩,cg,ahG.out,him,?_,?_,K6.dn _⟩
    ·rw[Cz,HBN.out];rfl
    ·rw[Cz,HCT.out];show Own _ (_::aK b (jM {m with aZ:=.timed (I5 ⟨q,d::l,true⟩ (lT m i).2) M} ⟨0,5,qJ m c0.1,0,1,(i:Int)⟩)::R);rw[YR.out,HTT.out];rw[HCT.out]at oG;have oH:=ah.to (oG.re [1,3,2,0] 2);exact(oH.re [1]).drewN _
   ·rw[if_neg hany]at hnx;obtain⟨rfl,o3,k3⟩:=hnx;have K3:=kR.trans k3;have oM:Own w2 (ah b m x::bZ a8 c8 LI::bB rY lb (Jp m (dm m k) ad)::bB (Value.int .i64) tb (NG m (dm m k))::st (QC m (dm m k) ad)::R):=by have h1:=ah.K_ (R:=bZ a8 c8 LI::bB rY lb (Jp m (dm m k) ad)::bB (Value.int .i64) tb (NG m (dm m k))::st (QC m (dm m k) ad)::R) HX.out HV.out hks (o3.re [0,2,3,4,5,6,7,8,9,10,11,12,13,14,15,16,1]);rw[<-HP.out.aZ]at h1;exact h1
    have hW:=nM ⟨0,5,-1,0,6,-1⟩ (by have:=HP.out.lg;omega) oM;clear m_ o3 o2 t0 k3;go_wp2_with fail;refine hW.mono ?_;rintro _ w4⟨la,lc,rfl,o4,k4⟩;clear hW;go_wp2;go_ret2;rw[HPO.out];dsimp only;rw[if_neg hany];exact⟨rfl,ah.to (o4.re [1,2,3,4] 4),K3.trans k4⟩
def vB(m:aX)(f:jd):(Int×Int)×Bool:=match m.S[f.fU.toNat]?,m.Q[f.id.toNat]? with
 |some s,some q=>firstM m s q f.id
 |_,_=>((0,-1),false)
def aew(m:aX)(f:jd):Bool:=match m.S[f.fU.toNat]? with
 |some s=>eB s.ch
 |none=>false
def QW(m:aX)(id:Int):Head:=match lG m.tab.F id with
 |some f=>⟨id,wO m (vB m f).1.1,(vB m f).2&&aew m f⟩
 |none=>⟨id,0,false⟩
structure H6(m:aX)(f:jd):Prop where
 ex:∃(i j:Nat)(s:lM)(q:xP)(N:Nat),f.id=(j:Int)/\f.fU=(i:Int)/\m.S[i]?=some s/\m.Q[j]?=some q/\s.sd.Ok/\(∀x∈s.sd.P,1<=x.id/\x.id<=(m.dY.length:Int))/\(∀x∈s.sd.P,x.tr<m.cfg.tries)/\q.P.length<=100000/\s.ch.Ok N/\N<=1000000000
 pk:m.dY.length<=1000000
 id:1<=(vB m f).1.1/\(vB m f).1.1<=(m.dY.length:Int)
theorem Lc{x:MB}{f:jd}(h:H6 m f)(o:Own w (ah b m x::R)):
  Calls prog 140 #[b,lN f] w (aR (.tuple #[MH (vB m f).1,.bool (vB m f).2]) (ah b m x::R) w):=by
 obtain⟨i,j,s,q,N,h1,h2,h3,h4,h5,h6,h7,h8,_,_⟩:=h.ex;obtain⟨hx,_⟩:=ah.iff.1 o;obtain⟨p,hp⟩:∃p,m.ss[i]?=some p:=⟨_,cZ (by rw[hx.2];exact(eU.1 h3).1)⟩;obtain⟨pq,hpq⟩:∃p,m.qs[j]?=some p:=⟨_,cZ (by rw[hx.1];exact(eU.1 h4).1)⟩;have e:vB m f=firstM m s q f.id:=by unfold vB;rw[h1,h2,Int.toNat_natCast,Int.toNat_natCast,h3,h4]
 rw[e];exact Qr h1 h2 hp h3 hpq h4 h5 h6 h.pk h7 h8 o
structure adk(m:aX):Prop where
 tab:m.tab.Ok
 al:m.act.length<=32
 fl:∀id∈m.act,∃f,lG m.tab.F id=some f/\H6 m f
theorem QF{A:Act}{i:Nat}{v:aL}(h:A.tmps[i]?.getD undef=v):A.eval (.tmp i)=v:=by rw[<-h];simp[Act.eval]
theorem Ew{P:Program}{t e:TypeId}{size bytes:Nat}{l:aJ}{op:Oper}{A:Act}{K:Act->aF->Prop}{Q:Exit->Act->aF->Prop}(s x:Operand)
  (hop:op.op=.call {callee:=.builtin .append,args:=#[s,x],argTypes:=#[t,t]})
  (E:bS P t e size bytes){a:aY}{n cap:Nat}{xs:dw}(hs:A.eval s=.slice a n cap)(o:Own w (SP.slc e size a n cap xs::l))
  {v:aL}{m:Nat}{news:dw}(hx:A.eval x=v)(hsrc:qX w v size m news)
  (h63:n+m<=maxLen)(hbytes:(n+m)*bytes<=140737488355328)
  (h:∀a' cap' w',Own w' (SP.slc e size a' (n+m) cap' (xs++news)::l)->Calm w w'->K (A.put op.dst (.slice a' (n+m) cap')) w'):Oper.wp P op A w K Q:=by
 obtain⟨a',cap',w',hr,h2,h3⟩:=qj op.type E o hsrc h63 hbytes;unfold Oper.wp execOp;simp only[hop,resolve,invoke,builtin,Sem.run_bind,Sem.run_pure,Result.andThen_ok,List.map_toArray,iD,List.map_nil,hs,hx,hr];exact h a' cap' w' h2 h3
def IC(T:TypeId)(sz:Nat)(a:aY)(n c:Nat)(xs ys:dw)(L:Nat->Bool)(v:Nat->aL):SP:=
 if L 23=true then ex fun(p:aY×Nat)=>st [pu (v 23=.slice p.1 (n+1) p.2/\(L 22=true/\L 0=true)/\(L 24=true->v 24=.slice p.1 (n+1) p.2)),slc T sz p.1 (n+1) p.2 (xs++ys)]
 else if L 22=true then ex fun(g:Nat)=>st [pu (v 22=.slice (some ⟨g,0,none⟩) 1 1/\L 24=false),aH g T ys,slc T sz a n c xs]
 else st [pu (L 24=false),slc T sz a n c xs]
section
variable{T:TypeId}{sz:Nat}{a:aY}{n c:Nat}{xs ys:dw}{L:Nat->Bool}{v:Nat->aL}
theorem agh(o:Own w (slc T sz a n c xs::R)):Own w (IC T sz a n c xs ys (fun _=>false) v::R):=by unfold IC;rw[if_neg (by decide),if_neg (by decide)];exact Own.st.2 (Own.pu.2 ⟨rfl,o⟩)
theorem abQ(o:Own w (IC T sz a n c xs ys L v::R))(h:L 22=false):(L 23=false/\L 24=false)/\Own w (slc T sz a n c xs::R):=by
 unfold IC at o;by_cases h3:L 23=true
 ·rw[if_pos h3]at o;obtain⟨p,o⟩:=Own.ex.1 o;have h4:=(Own.pu.1 (Own.st.1 o)).1.2.1.1;rw[h]at h4;cases h4
 ·rw[if_neg h3,if_neg (by rw[h];decide)]at o;obtain⟨h4,o2⟩:=Own.pu.1 (Own.st.1 o);exact⟨⟨by simpa using h3,h4⟩,o2⟩
theorem U_(o:Own w (IC T sz a n c xs ys L v::R))(h:L 0=false):L 23=false/\L 24=false:=by
 unfold IC at o;by_cases h3:L 23=true
 ·rw[if_pos h3]at o;obtain⟨p,o⟩:=Own.ex.1 o;have h4:=(Own.pu.1 (Own.st.1 o)).1.2.1.2;rw[h]at h4;cases h4
 ·refine⟨by simpa using h3,?_⟩;rw[if_neg h3]at o;by_cases h2:L 22=true
  ·rw[if_pos h2]at o;obtain⟨g,o⟩:=Own.ex.1 o;exact(Own.pu.1 (Own.st.1 o)).1.2
  ·rw[if_neg h2]at o;exact(Own.pu.1 (Own.st.1 o)).1
theorem abR{x:aL}(o:Own w (IC T sz a n c xs ys L v::R))(h:L 0=false):Own w (IC T sz a n c xs ys (dI L 0) (iC v 0 x)::R):=by have h1:=(U_ o h).1;unfold IC at o⊢;have e1:dI L 0 23=false:=h1;rw[if_neg (by rw[h1];decide)]at o;rw[if_neg (by rw[e1];decide)];exact o
theorem Agree.agi{ops:Array Oper}{A0 A:Act}(h:Agree A0 ops L v A)(t k0:Nat)(hb:((List.range ops.size).all fun k=>(ops[k]?).bind (·.dst)!=some t||k==k0)=true)(hl:L k0=false):A.tmps[t]?.getD undef=A0.tmps[t]?.getD undef:=by
 rw[<-Array.getD_eq_getD_getElem?,<-Array.getD_eq_getD_getElem?];refine h.off t fun k o ho hd=>?_;have hk:k<ops.size:=(Ns.1 ho).1;have h1:=List.all_eq_true.1 hb k (List.mem_range.2 hk);rw[ho]at h1;have h2:k=k0:=by simpa[hd]using h1
 rw[h2];exact hl
theorem abS{g:Nat}(h:L 23=false/\L 24=false)(o:Own w (aH g T ys::slc T sz a n c xs::R)):Own w (IC T sz a n c xs ys (dI L 22) (iC v 22 (.slice (some ⟨g,0,none⟩) 1 1))::R):=by unfold IC;have e1:dI L 22 23=false:=h.1;rw[if_neg (by rw[e1];decide),if_pos (show dI L 22 22=true from rfl)];exact Own.ex.2 ⟨g,Own.st.2 (Own.pu.2 ⟨⟨rfl,h.2⟩,o⟩)⟩
theorem abT(o:Own w (IC T sz a n c xs ys L v::R))(h:L 23=false)(h2:L 22=true):∃g,(v 22=.slice (some ⟨g,0,none⟩) 1 1/\L 24=false)/\Own w (aH g T ys::slc T sz a n c xs::R):=by unfold IC at o;rw[if_neg (by rw[h];decide),if_pos h2]at o;obtain⟨g,o⟩:=Own.ex.1 o;exact⟨g,Own.pu.1 (Own.st.1 o)⟩
theorem abU{a':aY}{c':Nat}(h:L 24=false)(h2:L 22=true)(h0:L 0=true)(o:Own w (slc T sz a' (n+1) c' (xs++ys)::R)):Own w (IC T sz a n c xs ys (dI L 23) (iC v 23 (.slice a' (n+1) c'))::R):=by unfold IC;rw[if_pos (show dI L 23 23=true from rfl)];exact Own.ex.2 ⟨(a',c'),Own.st.2 (Own.pu.2 ⟨⟨rfl,⟨h2,h0⟩,fun h4=>by rw[show dI L 23 24=L 24 from rfl,h]at h4;cases h4⟩,o⟩)⟩
theorem abV(o:Own w (IC T sz a n c xs ys L v::R))(h:L 23=true):∃p:aY×Nat,v 23=.slice p.1 (n+1) p.2/\(L 22=true/\L 0=true)/\Own w (slc T sz p.1 (n+1) p.2 (xs++ys)::R):=by unfold IC at o;rw[if_pos h]at o;obtain⟨p,o⟩:=Own.ex.1 o;obtain⟨⟨h1,h2,_⟩,o2⟩:=Own.pu.1 (Own.st.1 o);exact⟨p,h1,h2,o2⟩
theorem abW{p:aY×Nat}(h:L 23=true)(h1:v 23=.slice p.1 (n+1) p.2)(h2:L 22=true/\L 0=true)(o:Own w (slc T sz p.1 (n+1) p.2 (xs++ys)::R)):Own w (IC T sz a n c xs ys (dI L 24) (iC v 24 (.slice p.1 (n+1) p.2))::R):=by unfold IC;rw[if_pos (show dI L 24 23=true from h)];exact Own.ex.2 ⟨p,Own.st.2 (Own.pu.2 ⟨⟨h1,h2,fun _=>rfl⟩,o⟩)⟩
theorem abX(o:Own w (IC T sz a n c xs ys L v::R))(h:L 23=true)(h4:L 24=true):∃p:aY×Nat,v 24=.slice p.1 (n+1) p.2/\Own w (slc T sz p.1 (n+1) p.2 (xs++ys)::R):=by unfold IC at o;rw[if_pos h]at o;obtain⟨p,o⟩:=Own.ex.1 o;obtain⟨⟨_,_,h3⟩,o2⟩:=Own.pu.1 (Own.st.1 o);exact⟨p,h3 h4,o2⟩
end
def qO(m:aX):List Head:=m.act.map (QW m)
def oO(m:aX):LM:=(eP m.cfg m.aZ (qO m)).1
def jZ(m:aX):zG:=(eP m.cfg m.aZ (qO m)).2.2
def tq(m:aX):aX:=jM {m with aZ:=jZ m} ⟨0,5,(oO m).sv,0,(oO m).why,(oO m).ch⟩
def uO(m:aX):aX:=if 0<jU (jZ m)-jU m.aZ then jM (tq m) ⟨0,6,-1,0,0,jU (jZ m)-jU m.aZ⟩else tq m
structure Ld(m:aX):Prop where
 hd:adk m
 st:U9 m.cfg m.aZ (qO m)
 ok:(eP m.cfg m.aZ (qO m)).2.1=0
 rb:IntKind.i64.wrap (jU (jZ m)-jU m.aZ)=jU (jZ m)-jU m.aZ
 lg:m.log.length<=999990
 fl:¬(oO m).sv<0->∃f,lG m.tab.F (oO m).sv=some f/\H6 m f
theorem Xn(m:aX):∃L,uO m={m with aZ:=jZ m,log:=L}:=by
 unfold uO tq jM;split
 ·exact⟨_,rfl⟩
 ·exact⟨_,rfl⟩
theorem H6.same{f:jd}{S:zG}{L:List Rec}(h:H6 m f):H6 {m with aZ:=S,log:=L} f:=⟨h.ex,h.pk,h.id⟩
def wT(m:aX)(b:Nat)(R:aJ)(w:aF)(e:Ending)(w':aF):Prop:=
 if(oO m).sv<0 then aR (.tuple #[aC,.slice none 0 0,aC]) (aK b (uO m)::R) w e w'
 else∃(f:jd)(a:aY)(c:Nat),lG m.tab.F (oO m).sv=some f/\aR (.tuple #[f.fU,.slice a 1 c,aC]) (slc 238 2 a 1 c (flat dF [(vB m f).1])::aK b (uO m)::R) w e w'
def adl(m:aX)(x:MB)(b n:Nat)(R:aJ)(w:aF)(v7 v27:aL)(wr:aF):Prop:=
 ∃(k:Nat)(a:aY)(c:Nat),v27=↑(k:Int)/\k<=n/\v7=.slice a k c/\Own wr (slc 294 3 a k c (flat Dp ((m.act.take k).map (QW m)))::ah b m x::R)/\Calm w wr
theorem A_{x:MB}(hC:Ld m)(o:Own w (ah b m x::R)):
  Calls prog 95 #[b,x.sv] w (wT m b R w):=by
 have HC:=az hC;have hP:=hC.hd;have HP:=az hP;obtain⟨n,hn⟩:=aP m.act.length;have hn32:n<=32:=by rw[<-hn];exact hP.al
 have HN:=az hn;obtain⟨Ev,cl⟩:=ah.cell (k:=27) (v:=.slice x.aa m.act.length x.ac) rfl o;rw[hn]at Ev;have hT:adl m x b n R w (.slice none 0 0) (.int .i64 0) w:=⟨0,none,0,rfl,by omega,rfl,Own.bH o,Calm.refl w⟩;clear hC hP hn o;go_enter func95,ntmps95;go_wp2;go_loopw[7,9,10,11,12,13,27] (fun v7 v9 v10 v11 v12 v13 v27 wr=>adl m x b n R w v7 v27 wr) (fun _ _ _ _ _ _ v _=>n-(Lib.intOf v).toNat);case atStart=>exact hT
 case round=>
  clear hT Ev cl;obtain⟨k,a7,c7,rfl,hk,rfl,oR,kR⟩:=hrel;by_cases hkn:k<n
  ·obtain⟨id,hid⟩:∃id,m.act[k]?=some id:=⟨_,cZ (by rw[HN.out];exact hkn)⟩;obtain⟨f,hf,hfp⟩:=HP.out.fl id (mH hid);have hv:GJ m.tab.F id=.tuple #[.agg (jv f).toArray,.bool true]:=by unfold GJ;rw[hf]
   have oM:Own wr (ah b m x::slc 294 3 a7 k c7 (flat Dp ((m.act.take k).map (QW m)))::R):=oR.re [1];have Tn:=ah.SL (gy.one fun R1 oo=>rH id HP.out.tab oo) oM;rw[hv]at Tn;unfold jv at Tn;obtain⟨c20,cl⟩:=ah.cell (k:=20) (v:=.pointer (some ⟨x.tb,0,none⟩)) rfl oM;obtain⟨_,oP⟩:=ah.iff.1 oM;have oI:=oP.up 10;unfold bZ at oI;rw[HN.out]at oI;obtain⟨g,hg,hc,_,hgl⟩:=oI.aG (by omega);rw[hg];have e0:=hc k (.int .i64 id) (by rw[kI,hid];rfl);have HF:=az hf;have HFP:=az hfp;have HID:=az hid;clear hc oI oP hf hfp hid hv oR;go_wp2_with fail;refine Tn.mono ?_;rintro _ w3⟨⟨⟩,rfl,o3,k3⟩;have K3:=kR.trans k3;have o4:Own (w3.alloc (.cells #[f.id,f.fU,f.wt,f.pk,f.eG,f.lag,f.lead] 167)) (aH w3.heap.size 167 [f.id,f.fU,f.wt,f.pk,f.eG,f.lag,f.lead]::ah b m x::slc 294 3 a7 k c7 (flat Dp ((m.act.take k).map (QW m)))::R):=o3.alloc (.cells #[f.id,f.fU,f.wt,f.pk,f.eG,f.lag,f.lead] 167);have K4:=aj (x:=.cells #[f.id,f.fU,f.wt,f.pk,f.eG,f.lag,f.lead] 167) K3;have hB:=Lc HFP.out (o4.up 1);unfold lN at hB;clear Tn c20 cl e0 hgl o3 k3 oM K3 kR;go_wp2_with fail;refine hB.mono ?_;rintro _ w5⟨rfl,o5,k5⟩;have K5:=K4.trans k5;obtain⟨⟨⟨ci,cs⟩,can⟩,hcn⟩:∃z,vB m f=z:=⟨_,rfl⟩;have EM:=az hcn;rw[hcn];unfold MH;dsimp only;clear hB hcn o4 K4 k5;have oA:Own (w5.alloc (.cells #[ci,cs] 238)) (aH w5.heap.size 238 [ci,cs]::_):=o5.alloc (.cells #[ci,cs] 238);have KA:=aj (x:=.cells #[ci,cs] 238) K5;go_upto_region 7 with fail;obtain⟨i,jq,s,q,N,hfi,hst,hs,hq,hsd,_,_,_,hch,X3⟩:=HFP.out.ex;have ahJ:=HFP.out.pk;have hcr:=HFP.out.id;rw[EM.out]at hcr;dsimp only at hcr;obtain⟨hx,_⟩:=ah.iff.1 (oA.up 1);obtain⟨ps,hps⟩:∃p,m.ss[i]?=some p:=⟨_,cZ (by rw[hx.2];exact(eU.1 hs).1)⟩;obtain⟨kk,hkk⟩:∃kk:Nat,ci=(kk:Int)+1:=⟨(ci-1).toNat,by omega⟩;obtain⟨pk,hpk⟩:∃p,m.dY[kk]?=some p:=⟨_,cZ (by omega)⟩;have hLn:=Cn hpk (by omega) (ah.to (oA.drew.up 1));rw[<-hkk]at hLn
   have ahK:=az (fun(w1:aF)(R1:aJ)(oo:Own w1 (ah b m x::R1))=>show Calls prog 141 #[b,ci] w1 (bN (.int .i64 pk.len) w1)by
    rw[hkk]
    exact Cn hpk (by omega) (ah.to oo))
   have HLEN:=az (show wO m ci=pk.len by unfold wO;rw[hkk,show((kk:Int)+1).toNat-1=kk by omega,hpk]);have agj:=az (show aew m f=eB s.ch by unfold aew;rw[hst,Int.toNat_natCast,hs]);obtain⟨pa,pd,pr,hpt⟩:=ah.pts hps hs (oA.drew.up 1);have p0:=hpt.c0;obtain⟨gs,hgs,c23,cO,_,_,hil⟩:=ah.DN hps (oA.drew.up 1);have EX:=ah.afI (P:=prog) (g:=114) (args:=#[pa]) hps hs hpt (gy.one fun R1 oo=>tV hch X3 oo) (oA.drew.up 1);obtain⟨PB,hPB⟩:=aP (eB s.ch);rw[hPB]at EX agj;have UF:=az hps;have HS:=az hs;have HGS:=az hgs;have HST:=az hst;obtain⟨ns,hns⟩:=aP m.ss.length;have fP:=az hns;rw[hns]at c23 hil;have f1:=(oA.drew.up 2).cell 1;change World.cell? _ ⟨w3.heap.size,1,none⟩=some ↑f.fU at f1;rw[hst]at f1;have q0:=oA.drew.cell 0;change World.cell? _ ⟨w5.heap.size,0,none⟩=some ↑ci at q0;clear hPB hps hs hgs hst hns hfi hq hsd hch X3 ahJ hcr hx hkk hpk;generalize w5.alloc (.cells #[ci,cs] 238)=w6 at*;generalize w5.heap.size=kc at*;generalize w3.heap.size=kf at*;cases can with
   |true=>
    go_region_held_law (fun w'=>w'.cell? ⟨b,23,none⟩=some (.slice (some ⟨gs,0,none⟩) ns x.sc)/\w'.cell? ⟨gs,i,none⟩=some (.pointer (some ⟨ps,0,none⟩))/\w'.cell? ⟨ps,0,none⟩=some (.pointer (some ⟨pa,0,none⟩))/\w'.cell? ⟨kc,0,none⟩=some ↑ci/\w'.cell? ⟨kf,1,none⟩=some ↑(i:Int)) (go_keep) (first
     |(go_at_call 141;(with_reducible refine Calls.mono hLn ?_);rintro _ _⟨rfl,rfl⟩)
     |(go_at_call 114;(with_reducible refine Calls.mono EX ?_);rintro _ w8⟨_,wQ,rfl,o8,k8⟩;have y0:=wQ.c0;obtain⟨g8,Cx,z23,zgi,_,_,_⟩:=ah.DN UF.out (o8.up 0 rfl);rw[HGS.out]at Cx;injection Cx with Cx;injection Cx with Cx;subst Cx;rw[fP.out]at z23;have z1:=(o8.up 2).cell 1;change World.cell? w8 ⟨kf,1,none⟩=some ↑f.fU at z1;rw[HST.out]at z1;have z0:=(o8.up 1).cell 0;change World.cell? w8 ⟨kc,0,none⟩=some ↑ci at z0;have oS8:=(ah.DR UF.out HS.out wQ o8).2)
     |(have oY:=oS8.alloc (.cells #[.int .i64 id,pk.len,.bool PB] 294);have hnw:=Own.news (T:=294) (vs:=[.int .i64 id,pk.len,.bool PB]) oY;refine gD rfl _ _ rfl Tryz.headT rfl (oY.up 20) rfl ⟨_,_,rfl,rfl,by intro u hu;simp only[jc,xN,or_false]at hu;rcases hu with rfl|rfl|rfl<;>rfl,.inr ⟨_,rfl,hnw⟩⟩ (by unfold maxLen;omega) (by omega) ?_;intro a9 c9 w9 o9 k9;have v0:=(o9.up 2).cell 0;change World.cell? w9 ⟨ps,0,none⟩=some (.pointer (some ⟨pa,0,none⟩))at v0;have v23:=Own.cell (show Own w9 (aH b 75 (aW m x)::_)from o9.up 7) 23 (show(aW m x)[23]?=some (.slice x.sa m.ss.length x.sc)from rfl);rw[HGS.out,fP.out]at v23;obtain⟨g9,DZ,jS,_,_⟩:=(show Own w9 (slc 176 1 x.sa m.ss.length x.sc (m.ss.map pv)::_)from o9.up 12).aG (by rw[fP.out];omega);have vi:=jS i (pv ps) (by rw[kI,UF.out];rfl);rw[HGS.out]at DZ;injection DZ with DZ;injection DZ with DZ;subst DZ;unfold pv at vi;have vk:=(o9.up 19).cell 0;change World.cell? w9 ⟨kc,0,none⟩=some ↑ci at vk;have vf:=(o9.up 20).cell 1;change World.cell? w9 ⟨kf,1,none⟩=some ↑f.fU at vf;rw[HST.out]at vf;clear jS))
    have jN:=ah.ML (s':=s) UF.out HS.out (ah.iff.1 o8).1 (o9.re [2,3,4,5,6,7,8,9,10,11,12,13,14,15,16,17,18]);rw[AV HS.out]at jN;have Eg:Own w9 (slc 294 3 a9 (k+1) c9 (flat Dp ((m.act.take k).map (QW m))++[.int .i64 id,.int .i64 pk.len,.bool PB])::ah b m x::R):=jN.re [2,3,4,1,0] 3;have K9:=((aD KA).trans k8).trans ((aj (Calm.refl _)).trans k9)
    have HX:=az (show(m.act.take (k+1)).map (QW m)=(m.act.take k).map (QW m)++[⟨id,pk.len,PB⟩]by
     rw[tH,HID.out,Option.toList_some,tJ];congr 1;show[QW m id]=_;unfold QW;rw[HF.out];dsimp only;rw[EM.out];dsimp only;rw[HLEN.out,agj.out]
     simp)
    clear o8 o9 k8 k9 wQ;go_wp2;go_roundw;case rel=>refine⟨k+1,a9,c9,by go_num,by omega,rfl,?_,K9⟩;rw[HX.out,aO];exact Eg
    case measure=>simp[Lib.intOf];omega
   |false=>
    have Eo:=az (fun(w1:aF)(R1:aJ)(oo:Own w1 (ah b m x::R1))=>show Calls prog 141 #[b,ci] w1 (aR (.int .i64 pk.len) (ah b m x::R1) w1)from
     (ahK.out w1 R1 oo).mono fun e w' h=>by
      obtain⟨h1,h2⟩:=h;subst h2
      exact⟨h1,oo,Calm.refl _⟩)
    have oN:Own w6 (slc 294 3 a7 k c7 (flat Dp ((m.act.take k).map (QW m)))::aH kc 238 [ci,cs]::ah b m x::aH kf 167 [f.id,f.fU,f.wt,f.pk,f.eG,f.lag,f.lead]::R):=oA.re [3];clear hLn EX hpt p0 c23 cO f1 q0 oA;refine bY (fun L v wc=>Own wc (IC 294 3 a7 k c7 (flat Dp ((m.act.take k).map (QW m))) [.int .i64 id,pk.len,.bool false] L v::aH kc 238 [ci,cs]::ah b m x::aH kf 167 [f.id,f.fU,f.wt,f.pk,f.eG,f.lag,f.lead]::R)/\Calm w wc/\ji (fun i=>([some (.slice a7 k c7),some (.int .i64 id),some (.pointer (some ⟨b,0,none⟩)),some (.pointer (some ⟨kc,0,none⟩)),some (.int .i64 ci),some (.int .i64 pk.len),some (.bool false),some (.bool false),some (undef),some (undef),some (undef),some (undef),some (undef),some (undef),some (undef),some (undef),some (undef),some (undef),some (undef),some (undef),some (.bool false),some (.agg #[.int .i64 id,pk.len,.bool false]),none,none,none]:List (Option aL)).getD i none) L v) (by kernel_rfl) (by kernel_rfl) (by kernel_rfl) ?h0 ?step ?fin;case h0=>exact⟨(agh oN).drew,aD KA,ji.no⟩
    case step=>
     refine⟨au.mk rfl ?_,au.mk rfl ?_,au.mk rfl ?_,au.mk rfl ?_,au.mk rfl ?_,au.mk rfl ?_,au.mk rfl ?_,au.mk rfl ?_,au.skip rfl rfl (by kernel_rfl) (fun L v w hI hl=>hI.2.2 7 _ rfl hl) (fun L v w hL hI=>⟨hI.1,hI.2.1,hI.2.2.put 8 dS⟩),au.skip rfl rfl (by kernel_rfl) (fun L v w hI hl=>hI.2.2 7 _ rfl hl) (fun L v w hL hI=>⟨hI.1,hI.2.1,hI.2.2.put 9 dS⟩),au.skip rfl rfl (by kernel_rfl) (fun L v w hI hl=>hI.2.2 7 _ rfl hl) (fun L v w hL hI=>⟨hI.1,hI.2.1,hI.2.2.put 10 dS⟩),au.skip rfl rfl (by kernel_rfl) (fun L v w hI hl=>hI.2.2 7 _ rfl hl) (fun L v w hL hI=>⟨hI.1,hI.2.1,hI.2.2.put 11 dS⟩),au.skip rfl rfl (by kernel_rfl) (fun L v w hI hl=>hI.2.2 7 _ rfl hl) (fun L v w hL hI=>⟨hI.1,hI.2.1,hI.2.2.put 12 dS⟩),au.skip rfl rfl (by kernel_rfl) (fun L v w hI hl=>hI.2.2 7 _ rfl hl) (fun L v w hL hI=>⟨hI.1,hI.2.1,hI.2.2.put 13 dS⟩),au.skip rfl rfl (by kernel_rfl) (fun L v w hI hl=>hI.2.2 7 _ rfl hl) (fun L v w hL hI=>⟨hI.1,hI.2.1,hI.2.2.put 14 dS⟩),au.skip rfl rfl (by kernel_rfl) (fun L v w hI hl=>hI.2.2 7 _ rfl hl) (fun L v w hL hI=>⟨hI.1,hI.2.1,hI.2.2.put 15 dS⟩),au.skip rfl rfl (by kernel_rfl) (fun L v w hI hl=>hI.2.2 7 _ rfl hl) (fun L v w hL hI=>⟨hI.1,hI.2.1,hI.2.2.put 16 dS⟩),au.skip rfl rfl (by kernel_rfl) (fun L v w hI hl=>hI.2.2 7 _ rfl hl) (fun L v w hL hI=>⟨hI.1,hI.2.1,hI.2.2.put 17 dS⟩),au.skip rfl rfl (by kernel_rfl) (fun L v w hI hl=>hI.2.2 7 _ rfl hl) (fun L v w hL hI=>⟨hI.1,hI.2.1,hI.2.2.put 18 dS⟩),au.skip rfl rfl (by kernel_rfl) (fun L v w hI hl=>hI.2.2 7 _ rfl hl) (fun L v w hL hI=>⟨hI.1,hI.2.1,hI.2.2.put 19 dS⟩),au.mk rfl ?_,au.mk rfl ?_,au.mk rfl ?_,au.mk rfl ?_,au.mk rfl ?_,trivial⟩;all_goals intro L v Gg wc hL hd hA hI K' hK
     all_goals obtain⟨oD,kD,hv⟩:=hI
     all_goals simp[Region.binds]at hd
     all_goals have HV:=az hv
     all_goals clear hv
     ·skip
      skip
      have ahL:=(U_ oD hL).2;have cx:=hA.agi 7 24 (by rfl) ahL;simp only[o_,pJ,rO,p8]at cx;go_simp;exact hK.out _ _ ⟨abR oD hL,kD,HV.out.put 0 dS⟩
     ·have c9_:=hA.base 9 (by rfl);simp only[o_,pJ,rO,p8]at c9_;go_simp;exact hK.out _ _ ⟨oD,kD,HV.out.put 1 dS⟩
     ·have OX:=hA.base 0 (by rfl);simp only[o_,pJ,rO,p8]at OX;go_simp;exact hK.out _ _ ⟨oD,kD,HV.out.put 2 dS⟩
     ·have aea:=hA.base 12 (by rfl);simp only[o_,pJ,rO,p8]at aea;go_simp;exact hK.out _ _ ⟨oD,kD,HV.out.put 3 dS⟩
     ·have RU:L 3=true:=by simp[hd]
      have ahM:=hA.gt HV 3 RU;have u0_:World.cell? wc ⟨kc,0,none⟩=some ↑ci:=(oD.up 1).cell 0;go_simp;exact hK.out _ _ ⟨oD,kD,HV.out.put 4 dS⟩
     ·have RQ:L 2=true:=by simp[hd]
      have af2:=hA.gt HV 2 RQ;have V4:L 4=true:=by simp[hd]
      have ahN:=hA.gt HV 4 V4;go_simp;refine(Eo.out _ _ (oD.up 2)).mono ?_;rintro _ w3_⟨rfl,Xd,Xe⟩;exact hK.out _ _ ⟨Xd.re [1,2],kD.trans Xe,HV.out.put 5 dS⟩
     ·have ahO:=hA.base 13 (by rfl);simp only[o_,pJ,rO,p8]at ahO;go_simp;exact hK.out _ _ ⟨oD,kD,HV.out.put 6 dS⟩
     ·have V6:L 6=true:=by simp[hd]
      have ahP:=hA.gt HV 6 V6;go_simp;exact hK.out _ _ ⟨oD,kD,HV.out.put 7 dS⟩
     ·have Ma:L 7=true:=by simp[hd]
      have ahQ:=hA.gt HV 7 Ma;have ahR:L 19=true:=by simp[hd]
      have aiZ:=hA.gt HV 19 ahR;go_simp;exact hK.out _ _ ⟨oD,kD,HV.out.put 20 dS⟩
     ·have NA:L 1=true:=by simp[hd]
      have af1:=hA.gt HV 1 NA;have V5:L 5=true:=by simp[hd]
      have ahS:=hA.gt HV 5 V5;have ahT:L 20=true:=by simp[hd]
      have ai0:=hA.gt HV 20 ahT;go_simp;exact hK.out _ _ ⟨oD,kD,HV.out.put 21 dS⟩
     ·have ahU:L 21=true:=by simp[hd]
      have ai1:=hA.gt HV 21 ahU;have NA:=abQ oD hL;have oY:=NA.2.alloc (.cells #[.int .i64 id,pk.len,.bool false] 294);have n23:=NA.1;go_simp;exact hK.out _ _ ⟨abS n23 oY,aj kD,HV.out.put 22 (fun _ h=>nomatch h)⟩
     ·have Nz:L 0=true:=by simp[hd]
      have af0:=hA.gt HV 0 Nz;have TC:L 22=true:=by simp[hd]
      have ai2:=hA.get 22 TC;have TC:L 22=true:=by simp[hd]
      obtain⟨g9,⟨hv9,n24⟩,o9⟩:=abT oD hL TC;have hnw:=Own.news (T:=294) (vs:=[.int .i64 id,pk.len,.bool false]) o9;have cx:Gg.tmps[68]?.getD undef=.slice (some ⟨g9,0,none⟩) 1 1:=(hA.get 22 TC).trans hv9;refine Ew _ _ rfl Tryz.headT (QF af0) (o9.up 1) (QF cx) ⟨_,_,rfl,rfl,by intro u hu;simp only[jc,xN,or_false]at hu;rcases hu with rfl|rfl|rfl<;>rfl,.inr ⟨_,rfl,hnw⟩⟩ (by unfold maxLen;omega) (by omega) ?_;intro a9 c9 w9 jN k10;exact hK.out _ _ ⟨abU n24 TC Nz (jN.re [1] 1),kD.trans k10,HV.out.put 23 (fun _ h=>nomatch h)⟩
     ·have aak:L 23=true:=by simp[hd]
      have ai3:=hA.get 23 aak;have aak:L 23=true:=by simp[hd]
      obtain⟨p9,hp9,TC,oE⟩:=abV oD aak;have cx:Gg.tmps[69]?.getD undef=.slice p9.1 (k+1) p9.2:=(hA.get 23 aak).trans hp9;go_simp;exact hK.out _ _ ⟨abW aak hp9 TC oE,kD,HV.out.put 24 (fun _ h=>nomatch h)⟩
    case fin=>
     rintro L v wc hall⟨oD,kD,hv⟩;clear hv;obtain⟨p9,hp9,oF⟩:=abX oD (hall 23 (by decide)) (hall 24 (by decide));clear hall;simp only[jV,Act.put,List.setIfInBounds_toArray,List.set_cons_zero,List.set_cons_succ,Nat.zero_add,Nat.reduceAdd];rw[hp9]
     have HX:=az (show(m.act.take (k+1)).map (QW m)=(m.act.take k).map (QW m)++[⟨id,pk.len,false⟩]by
      rw[tH,HID.out,Option.toList_some,tJ];congr 1;show[QW m id]=_;unfold QW;rw[HF.out];dsimp only;rw[EM.out];dsimp only;rw[HLEN.out]
      rfl)
     go_wp2;go_roundw;case rel=>refine⟨k+1,p9.1,p9.2,by go_num,by omega,rfl,?_,kD⟩;rw[HX.out,aO];exact oF.re [1,3,0,2] 2
     case measure=>simp[Lib.intOf];omega
  ·have hin:k=n:=by omega
   subst hin;have hall:(m.act.take k).map (QW m)=qO m:=by rw[<-HN.out,List.take_length];rfl
   rw[hall]at oR;have HHL:=az (show k=(qO m).length by unfold qO;rw[iP,HN.out]);clear hall hkn hk;cases hsc:m.aZ;case timed r M=>have h1:=HC.out.st;rw[hsc]at h1;exact h1.elim
   case' fair N s=>
    obtain⟨p,hv,_⟩:=dR.DX.1 (show Own wr (dR b m.cfg x.sv (.fair N s)::_)by have h1:=ah.sv (oR.up 1);rw[hsc]at h1;exact h1);have Yh:=az hsc;have HV:=az hv;have hR1:=QE hsc hv (oR.up 1);rw[hv];clear hsc hv;go_wp2_with fail;refine hR1.mono ?_;rintro _ w2⟨rfl,o2,k2⟩;have K2:=kR.trans k2;have hSt:=Xm (c:=c7) Yh.out HV.out HC.out.st (Dq (T:=294) a7 k c7 (qO m) HHL.out) HHL.out (by omega) o2;rw[HC.out.ok]at hSt;change Calls _ _ _ _ (aR (.tuple #[nQ (oO m),aC]) (ah b {m with aZ:=jZ m} x::_) w2)at hSt;obtain⟨⟨cc,sv,wy⟩,hch⟩:∃z,oO m=z:=⟨_,rfl⟩;have HCH:=az hch;rw[hch]at hSt;unfold nQ at hSt;dsimp only at hSt;clear hR1 oR kR k2 hch;go_wp2_with fail;refine hSt.mono ?_;rintro _ w3⟨rfl,o3,k3⟩;have oC:Own (w3.alloc (.cells #[cc,sv,wy] 297)) (aH w3.heap.size 297 [cc,sv,wy]::ah b {m with aZ:=jZ m} x::R):=(o3.re [1,0] 1).alloc (.cells #[cc,sv,wy] 297);have KC:=aj (x:=.cells #[cc,sv,wy] 297) (K2.trans k3);have hW:=nM (m:={m with aZ:=jZ m}) ⟨0,5,sv,0,wy,cc⟩ (by have:=HC.out.lg;show m.log.length<=1000000;omega) (oC.up 1);obtain⟨-,-,q0,q1,q2,-⟩:=oC.cs;change World.cell? _ ⟨w3.heap.size,0,none⟩=some ↑cc at q0;change World.cell? _ ⟨w3.heap.size,1,none⟩=some ↑sv at q1;change World.cell? _ ⟨w3.heap.size,2,none⟩=some ↑wy at q2;clear hSt o3 o2 K2 k3;go_wp2_with fail;refine hW.mono ?_;rintro _ w4⟨la,lc,rfl,o4,k4⟩;have K4:=KC.trans k4;obtain⟨N2,s2,hs2⟩:∃(N2:Nat)(s2:Cq),(tq m).aZ=.fair N2 s2:=⟨_,_,by unfold tq jZ eP;rw[Yh.out];rfl⟩;have o5:Own w4 (ah b (tq m) {x with la:=la,lc:=lc}::aH w3.heap.size 297 [cc,sv,wy]::R):=by unfold tq;rw[HCH.out];exact o4
    have hR2:=QE (m:=tq m) (x:={x with la:=la,lc:=lc}) (p:=p) hs2 HV.out o5;change Calls _ _ _ _ (aR (.int .i64 (jU (jZ m))) _ _)at hR2;clear hW q0 q1 q2 o4 oC k4 KC hs2;go_wp2_with fail;refine hR2.mono ?_;rintro _ w6⟨rfl,o6,k6⟩;have K6:=K4.trans k6;have hrb:=HC.out.rb;obtain⟨dd,hdd⟩:=aP (jU (jZ m)-jU m.aZ);have HDD:=az hdd;rw[hdd]at hrb;have q1:=(o6.up 1).cell 1;change World.cell? _ ⟨w3.heap.size,1,none⟩=some ↑sv at q1;clear hR2 o5 K4 k6
   case' bD s=>
    obtain⟨p,hv,_⟩:=dR.wL.1 (show Own wr (dR b m.cfg x.sv (.bD s)::_)by have h1:=ah.sv (oR.up 1);rw[hsc]at h1;exact h1);have Yh:=az hsc;have HV:=az hv;have hR1:=Lb hsc hv (oR.up 1);rw[hv];clear hsc hv;go_wp2_with fail;refine hR1.mono ?_;rintro _ w2⟨rfl,o2,k2⟩;have K2:=kR.trans k2;have hSt:=TA (c:=c7) Yh.out HV.out HC.out.st (Dq (T:=294) a7 k c7 (qO m) HHL.out) HHL.out (by omega) o2;rw[HC.out.ok]at hSt;change Calls _ _ _ _ (aR (.tuple #[nQ (oO m),aC]) (ah b {m with aZ:=jZ m} x::_) w2)at hSt;obtain⟨⟨cc,sv,wy⟩,hch⟩:∃z,oO m=z:=⟨_,rfl⟩;have HCH:=az hch;rw[hch]at hSt;unfold nQ at hSt;dsimp only at hSt;clear hR1 oR kR k2 hch;go_wp2_with fail;refine hSt.mono ?_;rintro _ w3⟨rfl,o3,k3⟩;have oC:Own (w3.alloc (.cells #[cc,sv,wy] 297)) (aH w3.heap.size 297 [cc,sv,wy]::ah b {m with aZ:=jZ m} x::R):=(o3.re [1,0] 1).alloc (.cells #[cc,sv,wy] 297);have KC:=aj (x:=.cells #[cc,sv,wy] 297) (K2.trans k3);have hW:=nM (m:={m with aZ:=jZ m}) ⟨0,5,sv,0,wy,cc⟩ (by have:=HC.out.lg;show m.log.length<=1000000;omega) (oC.up 1);obtain⟨-,-,q0,q1,q2,-⟩:=oC.cs;change World.cell? _ ⟨w3.heap.size,0,none⟩=some ↑cc at q0;change World.cell? _ ⟨w3.heap.size,1,none⟩=some ↑sv at q1;change World.cell? _ ⟨w3.heap.size,2,none⟩=some ↑wy at q2;clear hSt o3 o2 K2 k3;go_wp2_with fail;refine hW.mono ?_;rintro _ w4⟨la,lc,rfl,o4,k4⟩;have K4:=KC.trans k4;obtain⟨s2,hs2⟩:∃(s2:Iw),(tq m).aZ=.bD s2:=⟨_,by unfold tq jZ eP;rw[Yh.out];rfl⟩;have o5:Own w4 (ah b (tq m) {x with la:=la,lc:=lc}::aH w3.heap.size 297 [cc,sv,wy]::R):=by unfold tq;rw[HCH.out];exact o4
    have hR2:=Lb (m:=tq m) (x:={x with la:=la,lc:=lc}) (p:=p) hs2 HV.out o5;change Calls _ _ _ _ (aR (.int .i64 (jU (jZ m))) _ _)at hR2;clear hW q0 q1 q2 o4 oC k4 KC hs2;go_wp2_with fail;refine hR2.mono ?_;rintro _ w6⟨rfl,o6,k6⟩;have K6:=K4.trans k6;have hrb:=HC.out.rb;obtain⟨dd,hdd⟩:=aP (jU (jZ m)-jU m.aZ);have HDD:=az hdd;rw[hdd]at hrb;have q1:=(o6.up 1).cell 1;change World.cell? _ ⟨w3.heap.size,1,none⟩=some ↑sv at q1;clear hR2 o5 K4 k6
   all_goals
    by_cases hpos:0<dd
    case' pos=>have hpd:decide (0<dd)=true:=bz hpos;have hW2:=nM (m:=tq m) ⟨0,6,-1,0,0,dd⟩ (by have:=HC.out.lg;show(m.log++[_]).length<=1000000;rw[jf];show m.log.length+1<=_;omega) o6;have BP:=az (show uO m=jM (tq m) ⟨0,6,-1,0,0,dd⟩by unfold uO;rw[HDD.out,if_pos hpos]);clear q1;go_wp2_with fail;refine hW2.mono ?_;rintro _ w7⟨la7,lc7,rfl,o7,k7⟩;have K7:=K6.trans k7;rw[<-BP.out]at o7;have q1:=(o7.up 1).cell 1;change World.cell? _ ⟨w3.heap.size,1,none⟩=some ↑sv at q1;clear hW2 o6 k7 K6;obtain⟨X,htb,o8⟩:∃X:MB,X.tb=x.tb/\Own w7 (ah b (uO m) X::aH w3.heap.size 297 [cc,sv,wy]::R):=⟨_,by rfl,o7⟩;have K8:=K7;clear o7 K7 BP hpos hpd
    case' neg=>have hpd:decide (0<dd)=false:=bW hpos;have BP:=az (show uO m=tq m by unfold uO;rw[HDD.out,if_neg hpos]);rw[<-BP.out]at o6;obtain⟨X,htb,o8⟩:∃X:MB,X.tb=x.tb/\Own w6 (ah b (uO m) X::aH w3.heap.size 297 [cc,sv,wy]::R):=⟨_,by rfl,o6⟩;have K8:=K6;clear o6 K6 BP hpos
    all_goals
     by_cases hsv:sv<0
     ·have hsd:decide (sv<0)=true:=bz hsv;go_wp2
      go_ret3
      unfold wT;rw[HCH.out];dsimp only;rw[if_pos hsv];exact⟨rfl,(ah.to o8).re [1] 1,K8⟩
     ·have hsd:decide (sv<0)=false:=bW hsv;have agk:=hsv;have hgf:=HC.out.fl (by rw[HCH.out];exact hsv);rw[HCH.out]at hgf;dsimp only at hgf;obtain⟨f,hf,hfp⟩:=hgf;obtain⟨LL,hM2⟩:=Xn m;rw[hM2]at o8;have hv:GJ m.tab.F sv=.tuple #[.agg (jv f).toArray,.bool true]:=by unfold GJ;rw[hf]
      have HF:=az hf;have HFP:=az hfp;have HMM:=az hM2;go_upto_region 19 with fail
      have aex:=az (fun(w1:aF)(R1:aJ)(oo:Own w1 (ah b {m with aZ:=jZ m,log:=LL} X::R1))=>show Calls prog 66 #[X.tb,sv] w1 (aR (.tuple #[.agg (jv f).toArray,.bool true]) (ah b {m with aZ:=jZ m,log:=LL} X::R1) w1)by
       have h:=ah.SL (m:={m with aZ:=jZ m,log:=LL}) (gy.one fun R1 oo=>rH (T:=m.tab) sv HP.out.tab oo) oo;rw[hv]at h;refine h.mono ?_;rintro e w'⟨⟨⟩,h1,h2,h3⟩
       exact⟨h1,h2,h3⟩)
      clear hf hfp hM2 hv hdd hrb hsd hsv htb q1;obtain⟨R9,hR9⟩:=aP R;have HR9:=az hR9;rw[hR9]at o8;clear hR9;refine bY (fun L v wc=>Own wc (Pb (L 10) (L 11) (v 10) 167 [aC,aC,aC,aC,aC,aC,aC] [f.id,f.fU,f.wt,f.pk,f.eG,f.lag,f.lead]::ah b {m with aZ:=jZ m,log:=LL} X::aH w3.heap.size 297 [cc,sv,wy]::R9)/\Calm w wc/\ji (fun i=>([some (.pointer (some ⟨b,0,none⟩)),some (.pointer (some ⟨b,0,none⟩)),some (.pointer (some ⟨b,20,none⟩)),some (.pointer (some ⟨X.tb,0,none⟩)),some (.pointer (some ⟨w3.heap.size,1,none⟩)),some (.int .i64 sv),some (.tuple #[.agg #[f.id,f.fU,f.wt,f.pk,f.eG,f.lag,f.lead],.bool true]),some (.tuple #[.agg #[f.id,f.fU,f.wt,f.pk,f.eG,f.lag,f.lead],.bool true]),some (.agg #[f.id,f.fU,f.wt,f.pk,f.eG,f.lag,f.lead]),some (.bool true),none,none,some (.bool true)]:List (Option aL)).getD i none) L v) (by kernel_rfl) (by kernel_rfl) (by kernel_rfl) ?h0 ?step ?fin;case h0=>exact⟨Pb.no o8.drew,aD K8,ji.no⟩
      case step=>
       refine⟨au.mk rfl ?_,au.mk rfl ?_,au.mk rfl ?_,au.mk rfl ?_,au.mk rfl ?_,au.mk rfl ?_,au.mk rfl ?_,au.mk rfl ?_,au.mk rfl ?_,au.mk rfl ?_,au.mk rfl ?_,au.mk rfl ?_,au.mk rfl ?_,trivial⟩;all_goals intro L v Gg wc hL hd hA hI K' hK
       all_goals obtain⟨oD,kD,hv⟩:=hI
       all_goals simp[Region.binds]at hd
       all_goals have HV:=az hv
       all_goals clear hv
       ·have OX:=hA.base 0 (by rfl);simp only[o_,pJ,p8]at OX;go_simp;exact hK.out _ _ ⟨oD,kD,HV.out.put 0 dS⟩
       ·have Nz:L 0=true:=by simp[hd]
        have aif:=hA.gt HV 0 Nz;go_simp;exact hK.out _ _ ⟨oD,kD,HV.out.put 1 dS⟩
       ·have NA:L 1=true:=by simp[hd]
        have aih:=hA.gt HV 1 NA;go_simp;exact hK.out _ _ ⟨oD,kD,HV.out.put 2 dS⟩
       ·have RQ:L 2=true:=by simp[hd]
        have aii:=hA.gt HV 2 RQ;have u_:=(ah.cell (k:=20) rfl (oD.up 1)).1;change World.cell? _ ⟨b,20,none⟩=some (.pointer (some ⟨X.tb,0,none⟩))at u_;go_simp;exact hK.out _ _ ⟨oD,kD,HV.out.put 3 dS⟩
       ·have adN:=hA.base 15 (by rfl);simp only[o_,pJ,rO,p8]at adN;go_simp;exact hK.out _ _ ⟨oD,kD,HV.out.put 4 dS⟩
       ·have V4:L 4=true:=by simp[hd]
        have aij:=hA.gt HV 4 V4;have u_:=Own.cell (T:=297) (vs:=[cc,sv,wy]) (oD.up 2) 1 rfl;change World.cell? _ ⟨w3.heap.size,1,none⟩=some ↑sv at u_;go_simp;exact hK.out _ _ ⟨oD,kD,HV.out.put 5 dS⟩
       ·have RU:L 3=true:=by simp[hd]
        have aik:=hA.gt HV 3 RU;have V5:L 5=true:=by simp[hd]
        have ail:=hA.gt HV 5 V5;go_simp;refine(aex.out _ _ (oD.up 1)).mono ?_;rintro _ w3_⟨rfl,Xd,Xe⟩;exact hK.out _ _ ⟨Xd.re [1],kD.trans Xe,HV.out.put 6 dS⟩
       ·have V6:L 6=true:=by simp[hd]
        have aim:=hA.gt HV 6 V6;go_simp;exact hK.out _ _ ⟨oD,kD,HV.out.put 7 dS⟩
       ·have Ma:L 7=true:=by simp[hd]
        have agl:=hA.gt HV 7 Ma;go_simp;exact hK.out _ _ ⟨oD,kD,HV.out.put 8 dS⟩
       ·have Ma:L 7=true:=by simp[hd]
        have agl:=hA.gt HV 7 Ma;go_simp;exact hK.out _ _ ⟨oD,kD,HV.out.put 9 dS⟩
       ·rw[hL]at oD;go_simp;exact hK.out _ _ ⟨Pb.new oD,aj kD,HV.out.put 10 (fun _ h=>by cases h)⟩
       ·have zh:L 10=true:=by simp[hd]
        have aey:=hA.get 10 zh;have UN:L 8=true:=by simp[hd]
        have ain:=hA.gt HV 8 UN;rw[zh,hL]at oD;obtain⟨gN,hgN,oN⟩:=Pb.val oD;rw[hgN]at aey;have hgN:=az hgN;obtain⟨nf_,nl_,n0_,n1_,n2_,n3_,n4_,n5_,n6_,-⟩:=oN.cs;go_simp;have oY:=(((((((oN.setCell 0 f.id).setCell 1 f.fU).setCell 2 f.wt).setCell 3 f.pk).setCell 4 f.eG).setCell 5 f.lag).setCell 6 f.lead);have oQ:=Pb.put (l:=L 10) (v:=v 10) (zs:=[aC,aC,aC,aC,aC,aC,aC]) oY zh hgN.out;exact hK.out undef _ ⟨oQ,ay (ay (ay (ay (ay (ay (ay (kD))))))),HV.out.put 11 (fun _ h=>by cases h)⟩
       ·have XW:L 9=true:=by simp[hd]
        have aio:=hA.gt HV 9 XW;go_simp;exact hK.out _ _ ⟨oD,kD,HV.out.put 12 dS⟩
      case fin=>
       rintro L v wc hall⟨oD,kD,hv⟩;have GX:=hv 12 _ rfl (hall 12 (by decide));rw[hall 10 (by decide),hall 11 (by decide)]at oD;obtain⟨gN,hgN,oN⟩:=Pb.got oD;clear hv hall oD o8 K8;simp only[jV,Act.put,List.setIfInBounds_toArray,List.set_cons_zero,List.set_cons_succ,Nat.zero_add,Nat.reduceAdd];rw[hgN,GX];clear hgN GX;rw[<-HR9.out]at oN;have oB:=oN;have KB:=kD;clear oN kD;have hB:=Lc (f:=f) HFP.out.same (oB.up 1);unfold lN at hB;obtain⟨-,-,y0,y1,y2,y3,y4,y5,y6,-⟩:=oB.cs;go_wp2_with fail;refine hB.mono ?_;rintro _ wb⟨rfl,ob,kb⟩;have KC2:=KB.trans kb;rw[show vB ({m with aZ:=jZ m,log:=LL}:aX) f=vB m f from rfl];obtain⟨⟨⟨ci,cs⟩,can⟩,hcn⟩:∃z,vB m f=z:=⟨_,rfl⟩;have EM:=az hcn;rw[hcn];unfold MH;dsimp only;clear hB hcn oB KB kb y0 y1 y2 y3 y4 y5 y6;have oD:Own (wb.alloc (.cells #[ci,cs] 238)) (aH wb.heap.size 238 [ci,cs]::_):=ob.alloc (.cells #[ci,cs] 238);have KD:=aj (x:=.cells #[ci,cs] 238) KC2;obtain⟨-,-,y0,y1,-⟩:=oD.cs;have z1:=(oD.up 2).cell 1;change World.cell? _ ⟨gN,1,none⟩=some ↑f.fU at z1;have yl:=oD.aS;have zl:=(oD.up 2).aS;have HSV:=az agk;clear ob KC2 agk;go_upto_region 21 with fail;generalize wb.alloc (.cells #[ci,cs] 238)=wd at*;generalize wb.heap.size=kc at*;go_region_held3(fun w'=>w'.cell? ⟨gN,1,none⟩=some ↑f.fU/\w'.cell? ⟨kc,0,none⟩=some ↑ci/\w'.cell? ⟨kc,1,none⟩=some ↑cs) (go_keep) (fail);have oZ:Own (wd.alloc (.cells #[ci,cs] 238)).drew (aH wd.heap.size 238 [ci,cs]::_):=(oD.alloc (.cells #[ci,cs] 238)).drew;have KZ:=aD (aj (x:=.cells #[ci,cs] 238) KD);clear oD KD y0 y1 z1;have oS:Own (wd.alloc (.cells #[ci,cs] 238)).drew (slc 238 2 (some ⟨wd.heap.size,0,none⟩) 1 1 (flat dF [(ci,cs)])::_):=Own.slc.2 (.inr ⟨wd.heap.size,[],rfl,Nat.le_refl _,by unfold maxLen;omega,rfl,rfl,oZ⟩);rw[<-HMM.out]at oS;go_wp2
       go_ret3
       unfold wT;rw[HCH.out];dsimp only;rw[if_neg (Int.not_lt.2 HSV.out)];refine⟨f,_,_,HF.out,rfl,?_,KZ⟩;rw[EM.out];exact(ah.to (oS.re [1,3,4] 3).swap).swap
end
section
variable{W w w':aF}{R:aJ}{b:Nat}{m:aX}
theorem Tryz.fairIs(v:aL)(w:aF):(Instr.typeAssert (.iface 116 v) 73 232 true).run prog w=.ok (.tuple #[.iface 116 v,.bool true]) w:=run_typeAssert_hasB underlying232 (by kernel_rfl) v 73 w
theorem Tryz.idealIs(v:aL)(w:aF):(Instr.typeAssert (.iface 121 v) 73 232 true).run prog w=.ok (.tuple #[.iface 121 v,.bool true]) w:=run_typeAssert_hasB underlying232 (by kernel_rfl) v 73 w
theorem Tryz.timedNot(v:aL)(w:aF):(Instr.typeAssert (.iface 125 v) 73 232 true).run prog w=.ok (.tuple #[.nilIface,.bool false]) w:=run_typeAssert_lacksB underlying232 (by kernel_rfl) (by kernel_rfl) v 73 w
theorem Tryz.timedIs(v:aL)(w:aF):(Instr.typeAssert (.iface 125 v) 73 125 false).run prog w=.ok v w:=by simp[Instr.typeAssert,run_underlying underlying125]
def ChR(m m':aX)(i:Int)(L:bO):Prop:=
 m'=uO m/\(((oO m).sv<0/\i=0/\L=[])\/(¬(oO m).sv<0/\∃f,lG m.tab.F (oO m).sv=some f/\i=f.fU/\L=[(vB m f).1]))
def TnR(m:aX)(q:Int)(O:List lS)(M:List (Int×rV))(m':aX)(i:Int)(L:bO):Prop:=
 (((dm m m.S.length).map fun i:Nat=>(i:Int)).any (Bn O)=true/\∃(O':List lS)(k:Nat),rE q ((dm m m.S.length).map fun i:Nat=>(i:Int)) O O' (k:Int)/\k∈dm m m.S.length/\i=(k:Int)/\L=iY m k/\
   m'=jM {m with aZ:=.timed (I5 ⟨q,O',true⟩ (lT m k).2) M} ⟨0,5,qJ m (((iY m k).headD (0,0)).1),0,1,(k:Int)⟩)\/
 (((dm m m.S.length).map fun i:Nat=>(i:Int)).any (Bn O)=false/\i=0/\L=[]/\m'=jM m ⟨0,5,-1,0,6,-1⟩)
def TE(m m':aX)(i:Int)(L:bO):Prop:=match m.aZ with
 |.timed r M=>TnR m r.q r.O M m' i L
 |_=>ChR m m' i L
def D5(m:aX):Prop:=match m.aZ with
 |.timed r M=>U7 m r.q r.O M
 |_=>Ld m
def aal(m:aX)(b:Nat)(R:aJ)(w:aF)(e:Ending)(w':aF):Prop:=
 ∃(m':aX)(i:Int)(L:bO)(a:aY)(c:Nat),TE m m' i L/\aR (.tuple #[i,.slice a L.length c,aC]) (slc 238 2 a L.length c (flat dF L)::aK b m'::R) w e w'
theorem wT.out{e:Ending}(h:wT m b R w e w'):∃(m':aX)(i:Int)(L:bO)(a:aY)(n c:Nat),n=L.length/\ChR m m' i L/\e=.returned (.tuple #[i,.slice a n c,aC])/\Own w' (slc 238 2 a n c (flat dF L)::aK b m'::R)/\Calm w w':=by
 unfold wT at h;by_cases hs:(oO m).sv<0
 ·rw[if_pos hs]at h;obtain⟨h1,h2,h3⟩:=h;exact⟨_,0,[],none,0,0,rfl,⟨rfl,.inl ⟨hs,rfl,rfl⟩⟩,h1,Own.bH h2,h3⟩
 ·rw[if_neg hs]at h;obtain⟨f,a,c,hf,h1,h2,h3⟩:=h;exact⟨_,f.fU,[(vB m f).1],a,1,c,rfl,⟨rfl,.inr ⟨hs,f,hf,rfl,rfl⟩⟩,h1,h2,h3⟩
theorem zu.out{q:Int}{O:List lS}{M:List (Int×rV)}{e:Ending}(h:zu m q O M b R w e w'):∃(m':aX)(i:Int)(L:bO)(a:aY)(n c:Nat),n=L.length/\TnR m q O M m' i L/\e=.returned (.tuple #[i,.slice a n c])/\Own w' (slc 238 2 a n c (flat dF L)::aK b m'::R)/\Calm w w':=by
 unfold zu at h;by_cases hs:((dm m m.S.length).map fun i:Nat=>(i:Int)).any (Bn O)=true
 ·rw[if_pos hs]at h;obtain⟨O',i,a,c,h0,hi,h1,h2,h3⟩:=h;exact⟨_,(i:Int),iY m i,a,_,c,rfl,.inl ⟨hs,O',i,h0,hi,rfl,rfl,rfl⟩,h1,h2,h3⟩
 ·rw[if_neg hs]at h;obtain⟨h1,h2,h3⟩:=h;exact⟨_,0,[],none,0,0,rfl,.inr ⟨by simpa using hs,rfl,rfl,rfl⟩,h1,Own.bH h2,h3⟩
theorem M7{x:MB}(hP:D5 m)(o:Own w (ah b m x::R)):
  Calls prog 60 #[b] w (aal m b R w):=by
 obtain⟨Tm,hbl⟩:=ah.cell (k:=26) (v:=x.sv) rfl o;have a1:=fun v w=>Tryz.fairIs v w;have a2:=fun v w=>Tryz.idealIs v w;have a3:=fun v w=>Tryz.timedNot v w;have a4:=fun v w=>Tryz.timedIs v w;unfold D5 at hP;cases hs:m.aZ with
 |timed r M=>
  rw[hs]at hP;have hT:U7 m r.q r.O M:=hP;obtain⟨x1,rb,mb,ks,⟨hv,_⟩,_⟩:=dR.wM.1 (show Own w (dR b m.cfg x.sv (.timed r M)::_)by have h1:=ah.sv o;rw[hs]at h1;exact h1);have hC:=Ty hT hv o;rw[hv]at Tm;have HS:=az hs;clear o hT hP hv hs;go_enter func60,ntmps60;go_wp2_with fail;refine hC.mono ?_;intro e w2 h;obtain⟨m',i,L,a,n,c,hn,hr,rfl,o2,k2⟩:=zu.out h;have HN:=az hn;clear h hC Tm hn;go_wp2
  go_ret3
  refine⟨m',i,L,a,c,by unfold TE;rw[HS.out];exact hr,?_,?_,k2⟩
  ·rw[<-HN.out];all_goals rfl
  ·rw[<-HN.out];exact o2
 |fair N s=>
  rw[hs]at hP;obtain⟨p,hv,_⟩:=dR.DX.1 (show Own w (dR b m.cfg x.sv (.fair N s)::_)by have h1:=ah.sv o;rw[hs]at h1;exact h1);have hC:=A_ hP o;rw[hv]at Tm hC;have HS:=az hs;clear o hP hv hs;go_enter func60,ntmps60;go_wp2_with fail;refine hC.mono ?_;intro e w2 h;obtain⟨m',i,L,a,n,c,hn,hr,rfl,o2,k2⟩:=wT.out h;have HN:=az hn;clear h hC Tm hn;go_wp2
  go_ret3
  refine⟨m',i,L,a,c,by unfold TE;rw[HS.out];exact hr,?_,?_,k2⟩
  ·rw[<-HN.out];all_goals rfl
  ·rw[<-HN.out];exact o2
 |bD s=>
  rw[hs]at hP;obtain⟨p,hv,_⟩:=dR.wL.1 (show Own w (dR b m.cfg x.sv (.bD s)::_)by have h1:=ah.sv o;rw[hs]at h1;exact h1);have hC:=A_ hP o;rw[hv]at Tm hC;have HS:=az hs;clear o hP hv hs;go_enter func60,ntmps60;go_wp2_with fail;refine hC.mono ?_;intro e w2 h;obtain⟨m',i,L,a,n,c,hn,hr,rfl,o2,k2⟩:=wT.out h;have HN:=az hn;clear h hC Tm hn;go_wp2
  go_ret3
  refine⟨m',i,L,a,c,by unfold TE;rw[HS.out];exact hr,?_,?_,k2⟩
  ·rw[<-HN.out];all_goals rfl
  ·rw[<-HN.out];exact o2
end
end Go.Proofs.YtfejhikpfhgbeaaGreatDoor
