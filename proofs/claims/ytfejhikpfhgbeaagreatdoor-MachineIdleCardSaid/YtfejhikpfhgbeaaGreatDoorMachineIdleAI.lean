import Derived.Test.YtfejhikpfhgbeaaGreatDoorMachineIdleAB
import Derived.Test.YtfejhikpfhgbeaaGreatDoorMachineIdleAC
import Derived.Test.YtfejhikpfhgbeaaGreatDoorMachineIdleAD
import Derived.Test.YtfejhikpfhgbeaaGreatDoorMachineIdleAH
set_option maxHeartbeats 25600000
set_option maxRecDepth 100000
set_option linter.all false
namespace Go.Proofs.YtfejhikpfhgbeaaGreatDoor
open Go.Proofs.Tryz
open Go.RowKit
open SP
section
variable{W w w':aF}{R:aJ}{b:Nat}{m:aX}
def Tp(m:aX)(i:Nat):Int:=match m.S[i]? with
 |some s=>s.sd.next
 |none=>0
def ael(m:aX)(i:Nat)(id:Int):aX:=match m.S[i]?,m.Q[(qJ m id).toNat]? with
 |some s,some q=>{m with Q:=m.Q.set (qJ m id).toNat ⟨q.mo,q.mb,q.P.tail⟩,S:=m.S.set i {s with sd:=Fw s.sd id,nx:=EE s.sd.next 1},jy:=I_ m.jy id}
 |_,_=>m
def vo(i:Nat)(x:aX×bO)(k:Nat):aX×bO:=match x.2[k]? with
 |some c=>if c.2<0 then(ael x.1 i c.1,x.2.set k (c.1,Tp x.1 i))else x
 |none=>x
structure ac0(m:aX)(i:Nat)(c:Int×Int):Prop where
 ex:c.2<0->∃(k j N:Nat)(p p0:iA)(s:lM)(q:xP)(l:List iA),c.1=(k:Int)+1/\m.dY[k]?=some p/\p.fl=(j:Int)/\m.S[i]?=some s/\m.Q[j]?=some q/\q.P=p0::l/\q.P.length<=100000/\(0<=bE l/\bE l<=1000000000)/\s.sd.Ok/\xQ s.sd=true/\m.jy.Ok N/\k<=1000000
def ac1(m:aX)(b i n:Nat)(x:MB)(a:aY)(c:Nat)(L:bO)(R:aJ)(w:aF)(_ _ v34:aL)(wr:aF):Prop:=
 ∃(k:Nat)(m':aX)(L':bO),v34=↑(k:Int)/\k<=n/\(List.range k).foldl (vo i) (m,L)=(m',L')/\L'.length=n/\(m'.ss=m.ss/\m'.dY=m.dY)/\Own wr (ah b m' x::slc 238 2 a n c (flat dF L')::R)/\Calm w wr
def vv(i:Nat)(m:aX)(c:Int×Int):aX:=match m.S[i]? with
 |some s=>match s.sd.P.findIdx? (fun p=>p.seq==c.2)with
  |some k=>match s.sd.P[k]? with
   |some p=>jM {m with S:=m.S.set i {s with sd:=JG s.sd k p}} ⟨0,3,qJ m c.1,c.1,0,p.tr+1⟩
   |none=>m
  |none=>m
 |none=>m
structure ac2(m:aX)(i:Nat)(c:Int×Int):Prop where
 ex:∃(s:lM)(k:Nat)(p:lX)(kk:Nat)(pk:iA),m.S[i]?=some s/\s.sd.Ok/\BF s.sd.P c.2=(k:Int)/\s.sd.P[k]?=some p/\p.tr<s.sd.tries/\c.1=(kk:Int)+1/\m.dY[kk]?=some pk/\kk<=1000000
 lg:m.log.length<=1000000
theorem KO{L:List lX}{q:Int}{k:Nat}(h:BF L q=(k:Int)):L.findIdx? (fun p=>p.seq==q)=some k:=by
 unfold BF at h;cases he:L.findIdx? (fun p=>p.seq==q)with
 |none=>rw[he]at h;dsimp only at h;omega
 |some i=>rw[he]at h;dsimp only at h;rw[show i=k by omega]
def ac3(m m1:aX)(b i n:Nat)(a:aY)(c:Nat)(L1:bO)(R:aJ)(w:aF)(_ _ _ v95:aL)(wr:aF):Prop:=
 ∃(k:Nat)(m':aX)(x':MB),v95=↑(k:Int)/\k<=n/\(L1.take k).foldl (vv i) m1=m'/\(m'.ss=m.ss/\m'.dY=m.dY)/\Own wr (ah b m' x'::slc 238 2 a n c (flat dF L1)::R)/\Calm w wr
structure ac4(m:aX)(i:Nat)(L:bO):Prop where
 ids:∀q∈L,1<=q.1/\q.1<=(m.dY.length:Int)
 pk:m.dY.length<=1000000
 lens:∀x∈dZ m L,C_ x
 ne:L≠[]
 tab:m.tab.Ok
 rt:∃(s:lM)(st:rV)(j:Nat)(rt:Int×Int),m.S[i]?=some s/\m.tab.S[i]?=some st/\st.rate=(j:Int)/\m.cfg.bQ[j]?=some rt/\tQ rt.1 rt.2/\0<=s.IB/\s.IB<=4000000000000000000
def A8(m:aX)(i:Nat):Int×Int:=match m.tab.S[i]? with
 |some st=>(m.cfg.bQ[st.rate.toNat]?).getD (0,0)
 |none=>(0,0)
def Jo(i:Nat)(m:aX)(L:bO):aX:=match m.S[i]? with
 |some s=>{m with S:=m.S.set i {s with IB:=s.IB+qo (A8 m i) (j5 (dZ m L))}}
 |none=>m
theorem aac{L:bq}(h:∀x∈L,C_ x)(h0:L≠[])(hl:L.length<=32):0<=j5 L/\j5 L<=262144:=by have h1:=EH h;have h2:1<=L.length:=List.length_pos_iff.2 h0;unfold j5;omega
def Cw(i:Nat)(m:aX)(c:Int×Int):aX:=match m.S[i]? with
 |some s=>mD {m with S:=m.S.set i {s with rv:=(Uh s.rv (dV s.sd) c.2 c.1).1}} (Uh s.rv (dV s.sd) c.2 c.1).2
 |none=>m
def aad(i:Nat)(m:aX):aX:=if m.lost=0 then(match m.S[i]? with
 |some s=>{m with S:=m.S.set i {s with sd:=Vx s.sd s.rv.exp (Yq s.rv)}}
 |none=>m)else m
structure ac5(m:aX)(i:Nat)(c:Int×Int):Prop where
 ex:∃(s:lM)(N:Nat),m.S[i]?=some s/\s.sd.Ok/\s.rv.Ok/\fK c.2/\mvE s.rv (dV s.sd)=0/\xk (dV s.sd) s.rv.win c.2=true/\(∀x∈(Uh s.rv (dV s.sd) c.2 c.1).2,1<=x/\x<=(m.dY.length:Int))/\m.jy.Ok N/\N<=900000000
 id:1<=c.1
 pk:m.dY.length<=1000000
 lg:m.log.length<=800000
structure ac6(m:aX)(i:Nat):Prop where
 ex:m.lost=0->∃s:lM,m.S[i]?=some s/\s.sd.Ok/\s.rv.Ok/\Yq s.rv<18446744073709551616/\ow s.sd s.rv.exp<32768/\ow s.sd s.rv.exp<=ow s.sd s.sd.next
def gvM(i:Nat)(reason:Int)(m:aX)(q:lX):aX:=match m.S[i]?,m.dY[q.id.toNat-1]? with
 |some s,some pk=>match s.sd.P.findIdx? (fun p=>p.seq==q.seq)with
  |some k=>sW m i s k q pk reason
  |none=>m
 |_,_=>m
def tlM(i:Nat)(m:aX):aX:=match m.S[i]? with
 |some s=>UJ m i s
 |none=>m
structure ac7(m:aX)(i:Nat)(q:lX):Prop where
 ex:∃(s:lM)(j k N:Nat)(pk:iA),m.S[i]?=some s/\s.sd.Ok/\s.rv.Ok/\BF s.sd.P q.seq=(j:Int)/\s.sd.P[j]?=some q/\q.id=(k:Int)+1/\m.dY[k]?=some pk/\k<=1000000/\m.jy.Ok N/\N<=900000000
 lg:m.log.length<=800000
structure ac8(m:aX)(i:Nat):Prop where
 ex:∃(s:lM)(N:Nat),m.S[i]?=some s/\s.sd.Ok/\s.rv.Ok/\mvE s.rv (dV s.sd)=0/\(∀x∈(XT s.rv (dV s.sd)).2,1<=x/\x<=(m.dY.length:Int))/\m.jy.Ok N/\N<=900000000
 pk:m.dY.length<=1000000
 lg:m.log.length<=800000
def M3(i:Nat)(m:aX):List lX:=match m.S[i]? with
 |some s=>El s.sd
 |none=>[]
def ac9(m m1:aX)(b i n:Nat)(LX:List lX)(a:aY)(c:Nat)(R:aJ)(w:aF)(_ v198:aL)(wr:aF):Prop:=
 ∃(k:Nat)(m':aX),v198=↑(k:Int)/\k<=n/\(LX.take k).foldl (gvM i 3) m1=m'/\(m'.ss=m.ss/\m'.dY=m.dY)/\Own wr (aK b m'::slc 258 3 a n c (flat b_ LX)::R)/\Calm w wr
def wP(i n:Nat)(m:aX)(L:bO):aX×bO:=(List.range n).foldl (vo i) (m,L)
def U3(i n:Nat)(m:aX)(L:bO):aX:=Jo i ((wP i n m L).2.foldl (vv i) (wP i n m L).1) (wP i n m L).2
def pG(i n:Nat)(good:Bool)(m:aX)(L:bO):aX:=if good=true then aad i ((wP i n m L).2.foldl (Cw i) (U3 i n m L))else U3 i n m L
def KU(i n:Nat)(good:Bool)(m:aX)(L:bO):aX:=(M3 i (pG i n good m L)).foldl (gvM i 3) (pG i n good m L)
def DY(i n:Nat)(good:Bool)(m:aX)(L:bO):aX:=tlM i (KU i n good m L)
theorem aae(m:aX)(i:Nat)(s:lM)(j:Nat)(q:lX)(pk:iA)(r:Int):(sW m i s j q pk r).ss=m.ss/\(sW m i s j q pk r).dY=m.dY:=by
 unfold sW;split
 ·exact⟨rfl,rfl⟩
 ·exact⟨rfl,rfl⟩
def ada(m m1:aX)(b i n:Nat)(a:aY)(c:Nat)(L1:bO)(R:aJ)(w:aF)(_ _ _ v152:aL)(wr:aF):Prop:=
 ∃(k:Nat)(m':aX)(x':MB),v152=↑(k:Int)/\k<=n/\(L1.take k).foldl (Cw i) m1=m'/\(m'.ss=m.ss/\m'.dY=m.dY)/\Own wr (ah b m' x'::slc 238 2 a n c (flat dF L1)::R)/\Calm w wr
theorem Qt:∀(k:Nat)(y:jw×bq),(rlF k y).1.H.length+(rlF k y).2.length=y.1.H.length+y.2.length
 |0,_=>rfl
 |k+1,y=>by
  unfold rlF;split
  ·exact(Qt k (CX y)).trans (zQ y.1 y.2)
  ·rfl
theorem KX{α:Type}:∀(l:List (Int×α))(k:Int)(v:α),(bA l k v).length<=l.length+1
 |[],_,_=>Nat.le_refl _
 |(k',v')::l,k,v=>by
  unfold bA;split
  ·exact Nat.le_succ _
  ·have:=KX l k v;simp only[List.length_cons];omega
theorem aaf{r:jw}{B q id:Int}(hr:r.Ok):(Uh r B q id).2.length<=100000:=by
 have h0:=hr.len;have h1:(ve B (r,[])).1.H.length+(ve B (r,[])).2.length=r.H.length+0:=EG _ _;have h2:(Uh r B q id).1.H.length+(Uh r B q id).2.length=(BG (ve B (r,[])).1 q id).H.length+(ve B (r,[])).2.length:=Qt _ _;have h3:(BG (ve B (r,[])).1 q id).H.length<=(ve B (r,[])).1.H.length+1:=by
  unfold BG;dsimp only;split
  ·exact KX _ _ _
  ·exact Nat.le_succ _
 omega
theorem Qu:∀(L:bq)(m:aX),(mD m L).ss=m.ss/\(mD m L).dY=m.dY
 |[],_=>⟨rfl,rfl⟩
 |x::L,m=>Qu L (Jd m x)
theorem M4{e:TypeId}{size g n c q:Nat}{xs vs:dw}{T:TypeId}(o:Own w (slc e size (some ⟨g,0,none⟩) n c xs::aH q T vs::R)):¬q=g:=by
 rcases Own.slc.1 o with⟨h,_⟩|⟨g',sp,hg,_,_,_,_,o1⟩
 ·cases h
 ·injection hg with hg;injection hg with hg;subst hg;exact fun he=>Own.ne o1 he.symm
theorem ah.M4{x:MB}{i p:Nat}{s:lM}{e:TypeId}{size g n c:Nat}{xs:dw}(hp:m.ss[i]?=some p)(hs:m.S[i]?=some s)(o:Own w (ah b m x::slc e size (some ⟨g,0,none⟩) n c xs::R)):¬p=g:=by obtain⟨a,d,r,hx,oS⟩:=ah.MK hp hs o;have o1:Own w (slc e size (some ⟨g,0,none⟩) n c xs::aH p 181 (GL s a d r)::_):=oS.re [17,0];exact Go.Proofs.YtfejhikpfhgbeaaGreatDoor.M4 o1
theorem Tq{i p n c:Nat}{a:aY}{L:bO}{good:Bool}(hn:L.length=n)(hl:n<=32)(hp:m.ss[i]?=some p)
  (hAs:∀(k:Nat)(m':aX)(L':bO)(q:Int×Int),k<n->(List.range k).foldl (vo i) (m,L)=(m',L')->L'[k]?=some q->ac0 m' i q)
  (hSn:∀(k:Nat)(m1:aX)(L1:bO)(q:Int×Int),k<n->(List.range n).foldl (vo i) (m,L)=(m1,L1)->L1[k]?=some q->ac2 ((L1.take k).foldl (vv i) m1) i q)
  (hSz:∀(m1:aX)(L1:bO),(List.range n).foldl (vo i) (m,L)=(m1,L1)->ac4 (L1.foldl (vv i) m1) i L1)
  (hRv:good=true->∀(k:Nat)(m1:aX)(L1:bO)(q:Int×Int),k<n->(List.range n).foldl (vo i) (m,L)=(m1,L1)->L1[k]?=some q->ac5 ((L1.take k).foldl (Cw i) (Jo i (L1.foldl (vv i) m1) L1)) i q)
  (hAk:good=true->∀(m1:aX)(L1:bO),(List.range n).foldl (vo i) (m,L)=(m1,L1)->ac6 (L1.foldl (Cw i) (Jo i (L1.foldl (vv i) m1) L1)) i)
  (XY:∃s:lM,(pG i n good m L).S[i]?=some s/\s.sd.Ok)
  (hGv:∀(k:Nat)(q:lX),(M3 i (pG i n good m L))[k]?=some q->ac7 (((M3 i (pG i n good m L)).take k).foldl (gvM i 3) (pG i n good m L)) i q)
  (QO:ac8 (KU i n good m L) i)
  (o:Own w (aK b m::slc 238 2 a n c (flat dF L)::R)):
  Calls prog 61 #[b,(i:Int),.slice a n c,.bool good] w (aR (.tuple #[]) (aK b (DY i n good m L)::slc 238 2 a n c (flat dF (wP i n m L).2)::R) w):=by
 obtain⟨x,oX⟩:=ah.of o;obtain⟨g,hg,c23,cO,hbl,hgl,hil⟩:=ah.DN hp oX;obtain⟨ns,hns⟩:=aP m.ss.length;rw[hns]at c23 hil;have fP:=az hns;have HG:=az hg;have HP:=az hp;have HAS:=az hAs;have HSN:=az hSn;have HSZ:=az hSz;have HRV:=az hRv;have HAK:=az hAk;have HEX:=az XY;have HGV:=az hGv;have HTL:=az QO;have HN:=az hn;clear hg hns hp hAs hSn hSz hRv hAk XY hGv QO hn o;go_enter func61,ntmps61;have hT:ac1 m b i n x a c L R w undef undef (.int .i64 0) w:=⟨0,m,L,rfl,by omega,rfl,HN.out,⟨rfl,rfl⟩,oX,Calm.refl w⟩;go_wp2;clear c23 cO hgl hil oX;go_loopw[9,10,34] (fun v9 v10 v34 wr=>ac1 m b i n x a c L R w v9 v10 v34 wr) (fun _ _ v _=>n-(Lib.intOf v).toNat);case atStart=>exact hT
 case round=>
  clear hT;obtain⟨k,m',L',rfl,hk,hfo,hL',hke,oR,kR⟩:=hrel;have HKE:=az hke;clear hke;have Qj:=az hfo;have Xh:=az hL';clear hfo hL';by_cases hkn:k<n
  ·obtain⟨q,hq⟩:∃q,L'[k]?=some q:=⟨_,cZ (by rw[Xh.out];exact hkn)⟩;have hA:=HAS.out k m' L' q hkn Qj.out hq;have HST:=az (show(List.range (k+1)).foldl (vo i) (m,L)=vo i (m',L') k by rw[List.range_succ,List.foldl_append,Qj.out];rfl);obtain⟨g1,rfl,hc,hfz,hgl⟩:=(oR.up 1).aG (by omega);have e0:=hc (k*2+0) q.1 (by rw[aB fE L' k 0 q hq (by omega)];rfl);have e1:=hc (k*2+1) q.2 (by rw[aB fE L' k 1 q hq (by omega)];rfl);rw[Nat.add_zero]at e0;have HQ:=az hq;have oA:Own (wr.alloc (.cells #[q.1,q.2] 238)) (aH wr.heap.size 238 [q.1,q.2]::ah b m' x::_):=oR.alloc (.cells #[q.1,q.2] 238);have kA:=aj (x:=.cells #[q.1,q.2] 238) kR;clear hc hq oR kR;go_upto_region 4 with fail;clear e0 e1;generalize wr.alloc (.cells #[q.1,q.2] 238)=w4 at*;generalize wr.heap.size=kx at*;have x1:=oA.cell 1;change World.cell? _ ⟨kx,1,none⟩=some ↑q.2 at x1;by_cases hneg:q.2<0
   ·have hd:decide (q.2<0)=true:=bz hneg;obtain⟨kk,j,N,p1,p0,s,qu,l,hqk,hpk,hfl,hs,hQj,hqP,PO,hbq,hsd,hop,nG,hk6⟩:=hA.ex hneg;have hpm:m'.ss[i]?=some p:=by rw[HKE.out.1];exact HP.out
    obtain⟨hxl,_⟩:=ah.iff.1 (oA.up 1);obtain⟨pq,hpq⟩:∃pq,m'.qs[j]?=some pq:=⟨_,cZ (by rw[hxl.1];exact(eU.1 hQj).1)⟩;obtain⟨gq,Xg,EU,cqj,Qs,M0,hjl⟩:=ah.ym hpq (oA.up 1);obtain⟨gp,hgp,DK,cpk,_,aem,hkl⟩:=ah.pkt hpk (oA.up 1);rw[hfl]at cpk;have x0:=oA.cell 0;change World.cell? _ ⟨kx,0,none⟩=some ↑q.1 at x0;have xl:=oA.aS;have hwk:IntKind.i64.wrap (q.1-1)=(kk:Int):=by rw[gB];omega
    have aen:=ah.UL (q2:=⟨qu.mo,qu.mb,l⟩) hpq hQj (gy.one fun R1 oo=>N_ hqP PO hbq oo) (oA.drew.up 1);unfold adz at aen;obtain⟨nq1,hnq⟩:=aP m'.qs.length;obtain⟨np1,hnp⟩:=aP m'.dY.length;rw[hnq]at EU hjl;rw[hnp]at DK hkl;have HS:=az hs;have HQJ:=az hQj;have HQP:=az hqP;have HPM:=az hpm;have QS:=az hpk;have HSD:=az hsd;have HOP:=az hop;have Xi:=az nG;have YR:=az hfl;have HQK:=az hqk;clear hnq hnp hs hQj hqP hpm hpk hsd hop nG hfl hqk hxl hpq Xg hgp hA PO hbq;go_upto_region 5 with fail;refine wp_region_tail 14 (by kernel_rfl) (by kernel_rfl) ?_;simp only[xe,List.take_zero,yB,List.drop_zero];repeat still_step
    refine wpStill_nil ?_;go_wp2_with fail;refine aen.mono ?_;rintro _ w5⟨⟨⟩,rfl,o5,k5⟩;have K5:=(aD kA).trans k5;obtain⟨m1,hm1⟩:=aP (({m' with Q:=m'.Q.set j ⟨qu.mo,qu.mb,l⟩}:aX));change Own w5 (ah b {m' with Q:=m'.Q.set j ⟨qu.mo,qu.mb,l⟩} x::aH kx 238 [q.1,q.2]::slc 238 2 (some ⟨g1,0,none⟩) n c (flat dF L')::R)at o5;rw[hm1]at o5;have hs1:m1.S[i]?=some s:=by rw[<-hm1];exact HS.out
    have hp1:m1.ss[i]?=some p:=by rw[<-hm1];exact HPM.out
    have hl1:m1.jy.Ok N:=by rw[<-hm1];exact Xi.out
    have Ro:=az hm1;have HS1:=az hs1;have HP1:=az hp1;have HL1:=az hl1;clear aen oA kA k5 EU cqj M0 hjl DK cpk aem hkl x0 x1 xl Qs hm1 hs1 hp1 hl1;obtain⟨a1,d1,r1,hpt⟩:=ah.pts HP1.out HS1.out o5;have Aj:fu w5.drew p a1 d1 r1:=⟨hpt.c0,hpt.c1,hpt.c2,hpt.lt,hpt.fz⟩;have hAs:=ah.snd (d2:=Fw s.sd q.1) HP1.out HS1.out Aj (gy.one fun R1 oo=>Lt (id:=q.1) (by rw[HQK.out];omega) HSD.out HOP.out oo) o5.drew;have p1:=hpt.c1;have pl:=hpt.lt;have x0:=(o5.up 1).cell 0;change World.cell? _ ⟨kx,0,none⟩=some ↑q.1 at x0;have xl:=(o5.up 1).aS;have hne1:¬p=g1:=ah.M4 HP1.out HS1.out (o5.re [0,2]);have hne2:¬kx=g1:=Go.Proofs.YtfejhikpfhgbeaaGreatDoor.M4 (o5.re [2,1]);have aiT:¬g1=p:=fun h=>hne1 h.symm;have aiU:¬g1=kx:=fun h=>hne2 h.symm;go_upto_region 6 with fail
    go_region_held3(fun w'=>w'.cell? ⟨p,1,none⟩=some (.pointer (some ⟨d1,0,none⟩))/\w'.cell? ⟨kx,0,none⟩=some ↑q.1) (go_keep) (first
     |(go_at_call 98;(with_reducible refine Calls.mono hAs ?_);rintro _ w8⟨⟨⟩,wQ,rfl,o8,k8⟩;change Own w8 (ah b _ x::aH kx 238 [q.1,q.2]::slc 238 2 (some ⟨g1,0,none⟩) n c (flat dF L')::R)at o8;have z1:=wQ.c1;have z0:=(o8.up 1).cell 0;change World.cell? w8 ⟨kx,0,none⟩=some ↑q.1 at z0;obtain⟨g9,DZ,jS,hf9,hl9⟩:=(o8.up 2).aG (by omega);injection DZ with DZ;injection DZ with DZ;subst DZ;have y1:=jS (k*2+1) q.2 (by rw[aB fE L' k 1 q HQ.out (by omega)];rfl);clear jS))
    have K8:=(aD K5).trans k8;have K9:=ay (x:=⟨g1,k*2+1,none⟩) (v:=.int .i64 s.sd.next) K8;have o9:=(o8.up 2).iK (k*2+1) (.int .i64 s.sd.next) (by rw[aN fE,Xh.out];omega);rw[<-gZ fE L' k 1 q (q.1,s.sd.next) (.int .i64 s.sd.next) HQ.out (by omega) rfl]at o9;obtain⟨m2,hm2⟩:=aP (({m1 with S:=m1.S.set i {s with sd:=Fw s.sd q.1}}:aX));have jN:Own (w8.setCell ⟨g1,k*2+1,none⟩ s.sd.next) (ah b {m1 with S:=m1.S.set i {s with sd:=Fw s.sd q.1}} x::aH kx 238 [q.1,q.2]::slc 238 2 (some ⟨g1,0,none⟩) n c (flat dF (L'.set k (q.1,s.sd.next)))::R):=o9.re [1,2,0];rw[hm2]at jN;have hs2:m2.S[i]?=some {s with sd:=Fw s.sd q.1}:=by rw[<-hm2];show(m1.S.set i _)[i]?=_;rw[List.getElem?_set_self (eU.1 HS1.out).1]
    have hp2:m2.ss[i]?=some p:=by rw[<-hm2];exact HP1.out
    have hl2:m2.jy.Ok N:=by rw[<-hm2];exact HL1.out
    have BP:=az hm2;have HS2:=az hs2;have HP2:=az hp2;have HL2:=az hl2;clear hm2 hs2 hp2 hl2;obtain⟨a2,d2,r2,Jn⟩:=ah.pts HP2.out HS2.out jN;clear hAs hpt Aj o5 p1 pl x0 o8 k8 wQ z1 z0 hf9 hl9 y1 o9 K5 K8;generalize w8.setCell ⟨g1,k*2+1,none⟩ s.sd.next=w9 at*;obtain⟨g9,DZ,jS,hf9,hl9⟩:=(jN.up 2).aG (by omega);injection DZ with DZ;injection DZ with DZ;subst DZ;have y1:=jS (k*2+1) s.sd.next (by rw[aB fE (L'.set k (q.1,s.sd.next)) k 1 (q.1,s.sd.next) (by rw[List.getElem?_set_self (by rw[Xh.out];exact hkn)]) (by omega)];rfl);obtain⟨_,XZ⟩:=ah.DR HP2.out HS2.out Jn jN;have oSc:Own w9 (aH p 181 (GL {s with sd:=Fw s.sd q.1} a2 d2 r2)::_):=XZ;have p3:=Own.cell oSc 3 rfl;have pf:=Jn.fz;have pl:=Jn.lt;have m_:=vR (w:=w9) (n:=1) HSD.out.nx (by omega) (by omega);obtain⟨oN,hpN⟩:=ah.Zy (s:={s with sd:=Fw s.sd q.1}) (s':={s with sd:=Fw s.sd q.1,nx:=EE s.sd.next 1}) (k:=3) (u:=.int .i64 (EE s.sd.next 1)) rfl ⟨rfl,rfl,rfl⟩ HP2.out HS2.out Jn jN;clear jS XZ oSc;go_wp2_with fail;refine m_.mono ?_;rintro _ wb⟨rfl,rfl⟩;go_upto_region 8 with fail;obtain⟨m3,Ny⟩:=aP (({m2 with S:=m2.S.set i {s with sd:=Fw s.sd q.1,nx:=EE s.sd.next 1}}:aX));rw[Ny]at oN;have hl3:m3.jy.Ok N:=by rw[<-Ny];exact HL2.out
    have HM3:=az Ny;have K10:=ay (x:=⟨p,3,none⟩) (v:=.int .i64 (EE s.sd.next 1)) K9;generalize w9.setCell ⟨p,3,none⟩ (EE s.sd.next 1:Int)=w10 at*;have hSn:=ah.UM (T:=I_ m3.jy q.1) (gy.one fun R1 oo=>Mv q.1 hl3 oo) oN.drew;obtain⟨c24,bl⟩:=ah.cell (k:=24) rfl oN;change World.cell? _ ⟨b,24,none⟩=some (.pointer (some ⟨x.lb,0,none⟩))at c24;have x0:=(oN.up 1).cell 0;change World.cell? _ ⟨kx,0,none⟩=some ↑q.1 at x0;have xl:=(oN.up 1).aS;clear m_ hpN p3 pf pl y1 hf9 hl9 Jn jN hl3 K9 Ny;refine wp_region_tail 6 (by kernel_rfl) (by kernel_rfl) ?_;simp only[xe,List.take_zero,yB,List.drop_zero];repeat still_step
    refine wpStill_nil ?_;go_wp2_with fail;refine hSn.mono ?_;rintro _ w11⟨⟨⟩,rfl,Eg,k11⟩;have hend:vo i (m',L') k=({m3 with jy:=I_ m3.jy q.1},L'.set k (q.1,s.sd.next)):=by
     unfold vo;dsimp only;rw[HQ.out];dsimp only;rw[if_pos hneg];have e1:Tp m' i=s.sd.next:=by unfold Tp;rw[HS.out]
     have e2:qJ m' q.1=(j:Int):=by unfold qJ;rw[HQK.out,show((kk:Int)+1).toNat-1=kk by omega,QS.out];exact YR.out
     have e3:ael m' i q.1={m3 with jy:=I_ m3.jy q.1}:=by unfold ael;rw[HS.out,e2,Int.toNat_natCast,HQJ.out];dsimp only;rw[<-HM3.out,<-BP.out,<-Ro.out];dsimp only;rw[List.set_set,HQP.out];rfl
     rw[e1,e3]
    have Hu:=az hend;clear hSn c24 bl x0 xl hend oN;go_wp2;go_roundw;case rel=>refine⟨k+1,{m3 with jy:=I_ m3.jy q.1},L'.set k (q.1,s.sd.next),by go_num,by omega,by rw[HST.out,Hu.out],by rw[List.length_set];exact Xh.out,?_,Eg.re [0,2]|>fun oo=>(oo.up 2).drop,(aD K10).trans k11⟩;rw[<-HM3.out,<-BP.out,<-Ro.out];exact HKE.out
    case measure=>simp[Lib.intOf];omega
   ·have hd:decide (q.2<0)=false:=bW hneg;have hend:vo i (m',L') k=(m',L'):=by unfold vo;dsimp only;rw[HQ.out];dsimp only;rw[if_neg hneg]
    have Hu:=az hend;clear hend hA;go_wp2;go_roundw;case rel=>exact⟨k+1,m',L',by go_num,by omega,by rw[HST.out,Hu.out],Xh.out,HKE.out,oA.re [0] 1,kA⟩
    case measure=>simp[Lib.intOf];omega
  ·have hin:k=n:=by omega
   subst hin;clear hkn hk;have hT:ac3 m m' b i k a c L' R w undef undef undef (.int .i64 0) wr:=⟨0,m',x,rfl,by omega,rfl,HKE.out,oR,kR⟩;clear oR kR;go_wp2;go_loopw[12,13,14,95] (fun v12 v13 v14 v95 wr=>ac3 m m' b i k a c L' R w v12 v13 v14 v95 wr) (fun _ _ _ v _=>k-(Lib.intOf v).toNat);case atStart=>exact hT
   case round=>
    clear hT;obtain⟨k2,mm,x',rfl,hk2,hfo,hke,oR,kR⟩:=hrel;have aeo:=az hfo;have abE:=az hke;clear hfo hke;by_cases hkn:k2<k
    ·obtain⟨q,hq⟩:∃q,L'[k2]?=some q:=⟨_,cZ (by rw[Xh.out];exact hkn)⟩;have hA:=HSN.out k2 m' L' q hkn Qj.out hq;rw[aeo.out]at hA;have HST:=az (lH (vv i) L' k2 q hq m');obtain⟨s,ki,pn,kk,pk,hs,hsd,hix,hpi,htr,hqk,hpk,hk6⟩:=hA.ex;obtain⟨g1,rfl,hc,hfz,hgl⟩:=(oR.up 1).aG (by omega);have e0:=hc (k2*2+0) q.1 (by rw[aB fE L' k2 0 q hq (by omega)];rfl);have e1:=hc (k2*2+1) q.2 (by rw[aB fE L' k2 1 q hq (by omega)];rfl);rw[Nat.add_zero]at e0;have oA:Own (wr.alloc (.cells #[q.1,q.2] 238)) (aH wr.heap.size 238 [q.1,q.2]::ah b mm x'::slc 238 2 (some ⟨g1,0,none⟩) k c (flat dF L')::R):=oR.alloc (.cells #[q.1,q.2] 238);have kA:=aj (x:=.cells #[q.1,q.2] 238) kR;have hpm:mm.ss[i]?=some p:=by rw[abE.out.1];exact HP.out
     obtain⟨a1,d1,r1,hpt⟩:=ah.pts hpm hs (oA.up 1);have Aj:fu ((wr.alloc (.cells #[q.1,q.2] 238))).drew p a1 d1 r1:=⟨hpt.c0,hpt.c1,hpt.c2,hpt.lt,hpt.fz⟩;have hSd:=ah.snd (d2:=JG s.sd ki pn) hpm hs Aj (gy.one fun R1 oo=>Rc hsd hix hpi htr oo) (oA.drew.up 1);have p1:=hpt.c1;have pl:=hpt.lt;have HS:=az hs;have HIX:=az hix;have HPI:=az hpi;have QS:=az hpk;have HQK:=az hqk;have HLG:=az hA.lg;clear hc hq oR kR hA hs hsd hix hpi htr hqk hpk hpm hpt Aj;go_upto_region 13 with fail;clear e0 e1 hfz hgl;generalize wr.alloc (.cells #[q.1,q.2] 238)=w4 at*;generalize wr.heap.size=kx at*;have x1:=oA.cell 1;change World.cell? _ ⟨kx,1,none⟩=some ↑q.2 at x1
     go_region_held3(fun w'=>w'.cell? ⟨p,1,none⟩=some (.pointer (some ⟨d1,0,none⟩))/\w'.cell? ⟨kx,1,none⟩=some ↑q.2) (go_keep) (first
      |(go_at_call 101;(with_reducible refine Calls.mono hSd ?_);rintro _ w8⟨⟨⟩,wQ,rfl,o8,k8⟩;change Own w8 (ah b _ x'::aH kx 238 [q.1,q.2]::slc 238 2 (some ⟨g1,0,none⟩) k c (flat dF L')::R)at o8;have z1:=wQ.c1;have z0:=(o8.up 1).cell 1;change World.cell? w8 ⟨kx,1,none⟩=some ↑q.2 at z0))
     have K8:=(aD kA).trans k8;obtain⟨m2,hm2⟩:=aP (({mm with S:=mm.S.set i {s with sd:=JG s.sd ki pn}}:aX));rw[hm2]at o8;have af7:m2.dY[kk]?=some pk:=by rw[<-hm2];exact QS.out
     have abn:m2.log.length<=1000000:=by rw[<-hm2];exact HLG.out
     obtain⟨gp,hgp,DK,cpk,_,aem,hkl⟩:=ah.pkt af7 o8;have hW:=nM (x:=x') ⟨0,3,pk.fl,q.1,0,pn.tr+1⟩ abn o8.drew;have hwk:IntKind.i64.wrap (q.1-1)=(kk:Int):=by rw[gB,HQK.out];omega
     have x0:=(o8.up 1).cell 0;change World.cell? _ ⟨kx,0,none⟩=some ↑q.1 at x0;have xl:=(o8.up 1).aS;have BP:=az hm2;obtain⟨np1,hnp⟩:=aP m2.dY.length;rw[hnp]at DK hkl;clear hSd oA kA p1 pl x1 z1 z0 wQ k8 hm2 af7 abn hgp hnp;go_upto_region 14 with fail;refine wp_region_tail 15 (by kernel_rfl) (by kernel_rfl) ?_;simp only[xe,List.take_zero,yB,List.drop_zero];repeat still_step
     refine wpStill_nil ?_;go_wp2_with fail;refine hW.mono ?_;rintro _ w9⟨la,lc,rfl,o9,k9⟩;have hend:vv i mm q=jM m2 ⟨0,3,pk.fl,q.1,0,pn.tr+1⟩:=by
      unfold vv;rw[HS.out];dsimp only;rw[KO HIX.out];dsimp only;rw[HPI.out];dsimp only;have e2:qJ mm q.1=pk.fl:=by unfold qJ;rw[HQK.out,show((kk:Int)+1).toNat-1=kk by omega,QS.out]
      rw[e2,BP.out]
     have Hu:=az hend;clear hW DK cpk x0 xl aem hkl hend o8;go_wp2;go_roundw;case rel=>refine⟨k2+1,jM m2 ⟨0,3,pk.fl,q.1,0,pn.tr+1⟩,_,by go_num,by omega,by rw[HST.out,aeo.out,Hu.out],?_,o9.re [1] 1,(aD K8).trans k9⟩;rw[<-BP.out];exact abE.out
     case measure=>simp[Lib.intOf];omega
    ·have hin:k2=k:=by omega
     subst hin;have hfin:(L'.take k2).foldl (vv i) m'=L'.foldl (vv i) m':=by rw[<-Xh.out,List.take_length]
     rw[aeo.out]at hfin;have hZ:=HSZ.out m' L' Qj.out;rw[<-hfin]at hZ;have ahr:=az hfin;obtain⟨s,st,jr,rt,hs,hst,hjr,hrt,hro,ha0,ha1⟩:=hZ.rt;have Z_:=yz (a1:=a) (c1:=c) (n:=k2) (L:=L') (m:=mm) (b:=b) (x:=x') Xh.out (by omega) hZ.ids hZ.pk (oR.re [1]);have hll:(dZ mm L').length=k2:=by unfold dZ;rw[iP,Xh.out]
     have hbd:=aac hZ.lens (by intro h;have:=congrArg List.length h;rw[hll]at this;exact hZ.ne (CO (by rw[Xh.out];simpa using this))) (by omega);have hbt:=Ot hro hbd.1 hbd.2;have HS:=az hs;have HZ:=az hZ;have GY:=az hll;have HST:=az hst;have HJR:=az hjr;have HRT:=az hrt;have HRO:=az hro;have HBD:=az hbd;obtain⟨SZ,hSZ⟩:=aP (j5 (dZ mm L'));have abF:=az hSZ;obtain⟨TM,hTM⟩:=aP (qo rt SZ);have HTM:=az hTM;rw[hSZ,hTM]at hbt;clear hfin hZ hs hst hjr hrt hro hll hbd hSZ hTM oR;go_wp2_with fail;refine Z_.mono ?_;rintro _ w5⟨a5,c5,rfl,o5,k5⟩;have hSi:=FD (w:=w5) (a:=a5) (c:=c5) (L:=dZ mm L') HZ.out.lens (by intro h;have:=congrArg List.length h;rw[GY.out]at this;exact HZ.out.ne (CO (by rw[Xh.out];simpa using this))) (by rw[GY.out];omega) (lI.own (c:=c5) (by unfold bZ;rw[GY.out];exact o5));rw[GY.out,abF.out]at hSi;have K5:=kR.trans k5;go_wp2_with fail;refine hSi.mono ?_;rintro _ w6⟨rfl,rfl⟩;have hRa:=GK (i:=i) HZ.out.tab HST.out HJR.out HRT.out (o5.up 2);clear Z_ hSi k5 kR;go_wp2_with fail;refine hRa.mono ?_;rintro _ w7⟨rfl,o7,k7⟩;have hTi:=FB (n:=SZ) HRO.out (by rw[<-abF.out];exact HBD.out.1) (by rw[<-abF.out];exact HBD.out.2) o7;rw[HTM.out]at hTi;unfold nO at hTi;have K7:=K5.trans k7;unfold nO;clear hRa o5 k7 K5;go_wp2_with fail;refine hTi.mono ?_;rintro _ w8⟨rfl,o8,k8⟩;have K8:=K7.trans k8;have hpm:mm.ss[i]?=some p:=by rw[abE.out.1];exact HP.out
     obtain⟨a1,d1,r1,hpt⟩:=ah.pts hpm HS.out o8;obtain⟨_,XZ⟩:=ah.DR hpm HS.out hpt o8;have oSc:Own w8 (aH p 181 (GL s a1 d1 r1)::_):=XZ;have p4:=Own.cell oSc 4 rfl;change World.cell? _ ⟨p,4,none⟩=some ↑s.IB at p4;have pf:=hpt.fz;have pl:=hpt.lt;have hwa:IntKind.i64.wrap (s.IB+TM)=s.IB+TM:=by rw[gB];omega
     obtain⟨oN,hpN⟩:=ah.Zy (s:=s) (s':={s with IB:=s.IB+TM}) (k:=4) (u:=.int .i64 (s.IB+TM)) rfl ⟨rfl,rfl,rfl⟩ hpm HS.out hpt o8;have aep:({mm with S:=mm.S.set i {s with IB:=s.IB+TM}}:aX)=Jo i (L'.foldl (vv i) m') L':=by
      rw[<-ahr.out];unfold Jo;rw[HS.out];dsimp only;have e1:A8 mm i=rt:=by unfold A8;rw[HST.out];dsimp only;rw[HJR.out,Int.toNat_natCast,HRT.out];rfl
      rw[e1,abF.out,HTM.out]
     obtain⟨m3,Ny⟩:=aP (Jo i (L'.foldl (vv i) m') L');rw[aep,Ny]at oN;have af8:m3.ss=m.ss/\m3.dY=m.dY:=by rw[<-Ny,<-aep];exact abE.out
     have HM3:=az Ny;have af9:=az af8;have KN:=ay (x:=⟨p,4,none⟩) (v:=.int .i64 (s.IB+TM)) K8;clear hTi XZ oSc o7 k8 K7 aep Ny af8 hpN hpt hpm o8 K8;go_upto_region 19 with fail;generalize w8.setCell ⟨p,4,none⟩ (s.IB+TM:Int)=w9 at*;have oK:=oN.re [0,2];clear oN p4 pf pl hwa ha0 ha1 hbt;go_upto_if 149 with fail;go_cut[21] (fun _ wc=>∃(m4:aX)(x4:MB),m4=(if good=true then aad i (L'.foldl (Cw i) m3)else m3)/\(m4.ss=m.ss/\m4.dY=m.dY)/\Own wc (ah b m4 x4::slc 238 2 a k2 c (flat dF L')::slc 3 1 a5 k2 c5 ((dZ mm L').map (Value.int .i64))::R)/\Calm w wc);case first=>
      cases good with
      |false=>go_wp2;go_meet;exact⟨m3,x',rfl,af9.out,oK,KN⟩
      |true=>
       have ahs:=az (HRV.out rfl);have aht:=az (HAK.out rfl m' L' Qj.out);have hT:ada m m3 b i k2 a c L' (slc 3 1 a5 k2 c5 ((dZ mm L').map (Value.int .i64))::R) w undef undef undef (.int .i64 0) w9:=⟨0,m3,x',rfl,by omega,rfl,af9.out,oK,KN⟩;clear oK KN HRV HAK;go_wp2;go_loopw[20,21,22,152] (fun v20 v21 v22 v152 wr=>ada m m3 b i k2 a c L' (slc 3 1 a5 k2 c5 ((dZ mm L').map (Value.int .i64))::R) w v20 v21 v22 v152 wr) (fun _ _ _ v _=>k2-(Lib.intOf v).toNat);case atStart=>exact hT
       case round=>
        clear hT;obtain⟨k3,m5,x5,rfl,hk3,hfo,hke,oR,kR⟩:=hrel;have aer:=az hfo;have Qv:=az hke;clear hfo hke;by_cases hkn:k3<k2
        ·obtain⟨q,hq⟩:∃q,L'[k3]?=some q:=⟨_,cZ (by rw[Xh.out];exact hkn)⟩;have hA:=ahs.out k3 m' L' q hkn Qj.out hq;rw[HM3.out,aer.out]at hA;have ahu:=az (lH (Cw i) L' k3 q hq m3);obtain⟨s5,N,hs,hsd,Je,hsq,hmv,aga,aag,nG,hN⟩:=hA.ex;have agb:=hA.id;obtain⟨g1,rfl,hc,hfz,hgl⟩:=(oR.up 1).aG (by omega);have e0:=hc (k3*2+0) q.1 (by rw[aB fE L' k3 0 q hq (by omega)];rfl);have e1:=hc (k3*2+1) q.2 (by rw[aB fE L' k3 1 q hq (by omega)];rfl);rw[Nat.add_zero]at e0;have oA:Own (wr.alloc (.cells #[q.1,q.2] 238)) (aH wr.heap.size 238 [q.1,q.2]::ah b m5 x5::slc 238 2 (some ⟨g1,0,none⟩) k2 c (flat dF L')::slc 3 1 a5 k2 c5 ((dZ mm L').map (Value.int .i64))::R):=oR.alloc (.cells #[q.1,q.2] 238);have kA:=aj (x:=.cells #[q.1,q.2] 238) kR;have hpm:m5.ss[i]?=some p:=by rw[Qv.out.1];exact HP.out
         obtain⟨a1,d1,r1,hpt⟩:=ah.pts hpm hs (oA.up 1);obtain⟨_,XZ⟩:=ah.DR hpm hs hpt (oA.up 1);have hBa:=pO hsd (XZ.drew.up 2);have Aj:fu ((wr.alloc (.cells #[q.1,q.2] 238))).drew p a1 d1 r1:=⟨hpt.c0,hpt.c1,hpt.c2,hpt.lt,hpt.fz⟩;have hRc:=ah.rcv (P:=prog) (g:=106) (args:=#[r1,(dV s5.sd:Int),q.2,q.1]) (d2:=(Uh s5.rv (dV s5.sd) q.2 q.1).1)
          (v:=fun y:aY×Nat=>.tuple #[.slice y.1 (Uh s5.rv (dV s5.sd) q.2 q.1).2.length y.2,aC]) (E:=fun y=>[bZ y.1 y.2 (Uh s5.rv (dV s5.sd) q.2 q.1).2]) hpm hs Aj
          (fun R1 oo=>(Oq Je (qb hsd) hsq agb hmv aga oo).mono fun e w'⟨a',c',h1,h2,h3⟩=>⟨(a',c'),h1,h2.swap,h3⟩) (oA.drew.up 1)
         have p1:=hpt.c1;have p2:=hpt.c2;have pl:=hpt.lt;have HS5:=az hs;have ahv:=az Je;have ahw:=az aag;have Xi:=az nG;have HN5:=az hN;have HA5:=az hA;have HQ5:=az hq;obtain⟨BS,hBS⟩:=aP (dV s5.sd);have HBS:=az hBS;rw[hBS]at hBa hRc;obtain⟨RX,hRX⟩:=aP (Uh s5.rv BS q.2 q.1);have HRX:=az hRX;rw[hRX]at hRc;clear hc hq oR kR hA hs hsd Je hsq hmv aga aag nG hN agb hpm hpt Aj XZ hBS hRX;go_upto_region 23 with fail;clear e0 e1 hfz hgl;generalize wr.alloc (.cells #[q.1,q.2] 238)=w4 at*;generalize wr.heap.size=kx at*;obtain⟨-,-,x0,x1,-⟩:=oA.cs;change World.cell? _ ⟨kx,0,none⟩=some ↑q.1 at x0;change World.cell? _ ⟨kx,1,none⟩=some ↑q.2 at x1
         go_region_held3(fun w'=>w'.cell? ⟨p,1,none⟩=some (.pointer (some ⟨d1,0,none⟩))/\w'.cell? ⟨p,2,none⟩=some (.pointer (some ⟨r1,0,none⟩))/\w'.cell? ⟨kx,0,none⟩=some ↑q.1/\w'.cell? ⟨kx,1,none⟩=some ↑q.2) (go_keep) (first
          |(go_at_call 107;(with_reducible refine Calls.mono hBa ?_);rintro _ _⟨rfl,rfl⟩)
          |(go_at_call 106;(with_reducible refine Calls.mono hRc ?_);rintro _ w8⟨⟨a7,c7⟩,wQ,rfl,o8,k8⟩;have y1:=wQ.c1;have y2:=wQ.c2;have z0:=(o8.up 2).cell 0;have z1:=(o8.up 2).cell 1;change World.cell? w8 ⟨kx,0,none⟩=some ↑q.1 at z0;change World.cell? w8 ⟨kx,1,none⟩=some ↑q.2 at z1))
         have K8:=(aD kA).trans k8;have o9:Own w8 (ah b {m5 with S:=m5.S.set i {s5 with rv:=RX.1}} x5::bZ a7 c7 RX.2::aH kx 238 [q.1,q.2]::slc 238 2 (some ⟨g1,0,none⟩) k2 c (flat dF L')::slc 3 1 a5 k2 c5 ((dZ mm L').map (Value.int .i64))::R):=o8.re [1];have aah:=ahw.out;rw[HBS.out,HRX.out]at aah;have agc:RX.2.length<=100000:=by rw[<-HRX.out];exact aaf ahv.out
         have hDe:=yj (N:=N) (m:={m5 with S:=m5.S.set i {s5 with rv:=RX.1}}) (L:=RX.2) (a:=a7) (c:=c7) aah HA5.out.pk Xi.out HN5.out agc HA5.out.lg (o9.up 0|>fun oo=>by
          have ot:=ah.to oo
          exact ot)
         clear hBa hRc oA kA p1 p2 pl x0 x1 y1 y2 z0 z1 wQ o8 k8 aah agc o9;go_wp2_with fail;refine hDe.mono ?_;rintro _ w10⟨rfl,jN,k10⟩;obtain⟨x6,oX6⟩:=ah.of jN;have hend:Cw i m5 q=mD {m5 with S:=m5.S.set i {s5 with rv:=RX.1}} RX.2:=by unfold Cw;rw[HS5.out];dsimp only;rw[HBS.out,HRX.out]
         have Hu:=az hend;clear hDe hend jN;go_wp2;go_roundw;case rel=>refine⟨k3+1,mD {m5 with S:=m5.S.set i {s5 with rv:=RX.1}} RX.2,x6,by go_num,by omega,by rw[ahu.out,aer.out,Hu.out],?_,oX6.re [1,2] 2,K8.trans k10⟩;have h1:=Qu RX.2 {m5 with S:=m5.S.set i {s5 with rv:=RX.1}};exact⟨h1.1.trans Qv.out.1,h1.2.trans Qv.out.2⟩
         case measure=>simp[Lib.intOf];omega
        ·have hin:k3=k2:=by omega
         subst hin;have hfin:(L'.take k3).foldl (Cw i) m3=L'.foldl (Cw i) m3:=by rw[<-Xh.out,List.take_length]
         rw[aer.out]at hfin;have adb:=az hfin;obtain⟨c19,bl⟩:=ah.cell (k:=19) (v:=.int .i64 m5.lost) rfl oR;have hAk:=aht.out;rw[HM3.out,<-hfin]at hAk;clear hfin;by_cases hlo:m5.lost=0
         ·obtain⟨s5,hs,hsd,Je,hU,h1,h2⟩:=hAk.ex hlo;have hpm:m5.ss[i]?=some p:=by rw[Qv.out.1];exact HP.out
          obtain⟨a1,d1,r1,hpt⟩:=ah.pts hpm hs oR;have hd:(m5.lost==0)=true:=by rw[hlo];rfl
          have hAc:=ah.ahk hpm hs (p:=p) (a:=a1) (d:=d1) (r:=r1) (w:=wr.drew) ⟨hpt.c0,hpt.c1,hpt.c2,hpt.lt,hpt.fz⟩ (gy.one fun R1 oo=>Lu Je oo) oR.drew;have p1:=hpt.c1;have p2:=hpt.c2;have pl:=hpt.lt;obtain⟨U,hUU⟩:=aP (Yq s5.rv);rw[hUU]at hAc hU;have HUU:=az hUU;have HS5:=az hs;have HPM:=az hpm;have HLO:=az hlo;have ahx:=az hsd;have ahy:=az Je;have HU5:=az hU;have H15:=az h1;have H25:=az h2;clear hUU hs hsd Je hU h1 h2 hpm hlo hAk hpt;go_upto_region 27 with fail
          go_region_held3(fun w'=>w'.cell? ⟨p,1,none⟩=some (.pointer (some ⟨d1,0,none⟩))/\w'.cell? ⟨p,2,none⟩=some (.pointer (some ⟨r1,0,none⟩))) (go_keep) (first
           |(go_at_call 110;(with_reducible refine Calls.mono hAc ?_);rintro _ w8⟨⟨⟩,wQ,rfl,o8,k8⟩;have o8b:Own w8 (ah b m5 x5::slc 238 2 a k3 c (flat dF L')::slc 3 1 a5 k3 c5 ((dZ mm L').map (Value.int .i64))::R):=o8;have y1:=wQ.c1;have y2:=wQ.c2;have ahz:=ah.snd (P:=prog) (g:=109) (args:=#[d1,Q8 s5.rv.exp U]) (d2:=Vx s5.sd s5.rv.exp U) (v:=fun y:aY×Nat=>.slice y.1 (IK s5.sd s5.rv.exp U).length y.2) (E:=fun y=>[slc 3 1 y.1 (IK s5.sd s5.rv.exp U).length y.2 ((IK s5.sd s5.rv.exp U).map (Value.int .i64))]) HPM.out HS5.out wQ (fun R1 oo=>(Vy ahx.out ahy.out.ex HU5.out H15.out H25.out oo).mono fun e w'⟨a',c',h⟩=>⟨(a',c'),h⟩) o8b)
           |(go_at_call 109;(with_reducible refine Calls.mono ahz ?_);rintro _ w9⟨⟨a9,c9⟩,Jn,rfl,o9,k9⟩;have y3:=Jn.c1;have y4:=Jn.c2))
          go_wp2;go_meet;refine⟨{m5 with S:=m5.S.set i {s5 with sd:=Vx s5.sd s5.rv.exp U}},x5,?_,Qv.out,(show Own w9 (slc 3 1 a9 _ c9 _::ah b _ x5::_)from o9).drop,((aD kR).trans k8).trans k9⟩;rw[if_pos trivial,<-adb.out];unfold aad;rw[if_pos HLO.out,HS5.out];dsimp only;rw[HUU.out]
         ·have hd:(m5.lost==0)=false:=by rw[Ec];exact hlo
          have HLO:=az hlo;clear hlo hAk;go_wp2;go_meet;refine⟨m5,x5,?_,Qv.out,oR,kR⟩;rw[if_pos trivial,<-adb.out];unfold aad;rw[if_neg HLO.out]
     case rest=>
      obtain⟨m4,x4,hm4,hke,oS,kS⟩:=hcut;have hA:wP i k2 m L=(m',L'):=Qj.out;have hC:m4=pG i k2 good m L:=by unfold pG U3;rw[hA,hm4,<-HM3.out]
      have HA4:=az hA;have Qv:=az hke;obtain⟨s4,hs4,aes⟩:=HEX.out;have hGv:=HGV.out;have QO:=HTL.out;have HMM:=az (show DY i k2 good m L=tlM i ((M3 i (pG i k2 good m L)).foldl (gvM i 3) (pG i k2 good m L))from rfl);unfold KU at QO;rw[<-hC]at hs4 hGv QO HMM;have hpm:m4.ss[i]?=some p:=by rw[hke.1];exact HP.out
      obtain⟨a1,d1,r1,hpt⟩:=ah.pts hpm hs4 oS;have hLX:M3 i m4=El s4.sd:=by unfold M3;rw[hs4]
      obtain⟨LX,abG⟩:=aP (El s4.sd);rw[hLX,abG]at hGv QO HMM;have XY:=ah.Zx (P:=prog) (g:=111) (args:=#[d1]) (v:=fun y:aY×Nat=>.slice y.1 (El s4.sd).length y.2) (E:=fun y=>[slc 258 3 y.1 (El s4.sd).length y.2 (flat b_ (El s4.sd))]) hpm hs4 hpt
       (fun R1 oo=>(PD aes oo).mono fun e w'⟨a',c',h⟩=>⟨(a',c'),h⟩) oS
      have hlx:LX.length<=64:=by rw[<-abG];unfold El;exact Nat.le_trans (List.length_filter_le _ _) aes.len
      rw[abG]at XY;obtain⟨nx,hnx⟩:=aP LX.length;have Ee:=az hnx;rw[hnx]at XY hlx;have ahA:=az hGv;have ahB:=az QO;have p1:=hpt.c1;have pl:=hpt.lt;clear oK KN hA hm4 hke hC hGv QO hs4 aes hpm hpt hLX abG hnx HEX HGV HTL;go_wp2_with fail;refine XY.mono ?_;rintro _ w12⟨⟨a6,c6⟩,agd,rfl,Bl,k12⟩;have o13:Own w12 (aK b m4::slc 258 3 a6 nx c6 (flat b_ LX)::slc 238 2 a k2 c (flat dF L')::slc 3 1 a5 k2 c5 ((dZ mm L').map (Value.int .i64))::R):=ah.to (show Own w12 (slc 258 3 a6 nx c6 (flat b_ LX)::ah b m4 x4::slc 238 2 a k2 c (flat dF L')::slc 3 1 a5 k2 c5 ((dZ mm L').map (Value.int .i64))::R)from Bl).swap;have hT:ac9 m m4 b i nx LX a6 c6 (slc 238 2 a k2 c (flat dF L')::slc 3 1 a5 k2 c5 ((dZ mm L').map (Value.int .i64))::R) w undef (.int .i64 0) w12:=⟨0,m4,rfl,by omega,rfl,Qv.out,o13,kS.trans k12⟩;clear XY p1 pl agd Bl k12 oS kS o13;go_wp2;go_loopw[24,198] (fun v24 v198 wr=>ac9 m m4 b i nx LX a6 c6 (slc 238 2 a k2 c (flat dF L')::slc 3 1 a5 k2 c5 ((dZ mm L').map (Value.int .i64))::R) w v24 v198 wr) (fun _ v _=>nx-(Lib.intOf v).toNat);case atStart=>exact hT
      case round=>
       clear hT;obtain⟨k4,m6,rfl,hk4,hfo,hke,oR,kR⟩:=hrel;have aet:=az hfo;have abH:=az hke;clear hfo hke;by_cases hkn:k4<nx
       ·obtain⟨q,hq⟩:∃q,LX[k4]?=some q:=⟨_,cZ (by rw[Ee.out];exact hkn)⟩;have hG:=ahA.out k4 q hq;rw[aet.out]at hG;have ahC:=az (lH (gvM i 3) LX k4 q hq m4);obtain⟨s6,j6,kk,N,pk,hs,hsd,Je,hix,EO,hqk,hpk,hk6,nG,hN⟩:=hG.ex;obtain⟨g1,rfl,hc,hfz,hgl⟩:=(oR.up 1).aG (by omega);have e0:=hc (k4*3+0) q.seq (by rw[aB bu LX k4 0 q hq (by omega)];rfl);have e1:=hc (k4*3+1) q.id (by rw[aB bu LX k4 1 q hq (by omega)];rfl);have e2:=hc (k4*3+2) q.tr (by rw[aB bu LX k4 2 q hq (by omega)];rfl);rw[Nat.add_zero]at e0;have oA:Own (wr.alloc (.cells #[q.seq,q.id,q.tr] 258)) (aH wr.heap.size 258 [q.seq,q.id,q.tr]::aK b m6::_):=oR.alloc (.cells #[q.seq,q.id,q.tr] 258);have kA:=aj (x:=.cells #[q.seq,q.id,q.tr] 258) kR;have hpm:m6.ss[i]?=some p:=by rw[abH.out.1];exact HP.out
        have hAb:=Jf (reason:=3) hpm hs hsd Je hix EO hqk hpk hk6 nG hN hG.lg (oA.up 1);unfold Fv at hAb;have hend:gvM i 3 m6 q=sW m6 i s6 j6 q pk 3:=by unfold gvM;rw[hs,show q.id.toNat-1=kk by omega,hpk];dsimp only;rw[KO hix]
        have Hu:=az hend;clear hc hq oR kR hG hs hsd Je hix EO hqk hpk nG hN hpm hend hfz;go_wp2_with fail;refine hAb.mono ?_;rintro _ w15⟨rfl,o15,k15⟩;clear hAb oA e0 e1 e2 hgl;go_wp2;go_roundw;case rel=>refine⟨k4+1,sW m6 i s6 j6 q pk 3,by go_num,by omega,by rw[ahC.out,aet.out,Hu.out],?_,o15.re [1] 1,kA.trans k15⟩;have h1:=aae m6 i s6 j6 q pk 3;exact⟨h1.1.trans abH.out.1,h1.2.trans abH.out.2⟩
        case measure=>simp[Lib.intOf];omega
       ·have hin:k4=nx:=by omega
        subst hin;have hfin:(LX.take k4).foldl (gvM i 3) m4=LX.foldl (gvM i 3) m4:=by rw[<-Ee.out,List.take_length]
        rw[aet.out]at hfin;have QO:=ahB.out;rw[<-hfin]at QO;obtain⟨s7,N,hs,hsd,Je,hmv,aag,nG,hN⟩:=QO.ex;have hpm:m6.ss[i]?=some p:=by rw[abH.out.1];exact HP.out
        have hTe:=SF hpm hs hsd Je hmv aag QO.pk nG hN QO.lg oR;have hend:DY i k2 good m L=UJ m6 i s7:=by rw[HMM.out,<-hfin];unfold tlM;rw[hs]
        have Hu:=az hend;clear hfin QO hs hsd Je hmv aag nG hN hpm hend oR;go_wp2_with fail;refine hTe.mono ?_;rintro _ w16⟨rfl,o16,k16⟩;clear hTe;go_wp2;go_end0;rw[Hu.out,HA4.out];exact⟨rfl,(o16.re [1,3] 2),kR.trans k16⟩
theorem Tu{x:MB}{i p:Nat}{s:lM}{win:Int}(hp:m.ss[i]?=some p)(hs:m.S[i]?=some s)(hsd:s.sd.Ok)(hnx:fK s.nx)(hw:1<=win/\win<=64)(o:Own w (ah b m x::R)):
  Calls prog 192 #[p,win] w (aR (.int .i64 (win-dst (dV s.sd) s.nx)) (ah b m x::R) w):=by
 obtain⟨a1,d1,r1,hpt⟩:=ah.pts hp hs o;obtain⟨_,XZ⟩:=ah.DR hp hs hpt o;have oSc:Own w (aH p 181 (GL s a1 d1 r1)::_):=XZ;have p3:=Own.cell oSc 3 rfl;change World.cell? _ ⟨p,3,none⟩=some ↑s.nx at p3;have p1:=hpt.c1;have pl:=hpt.lt;have hB:=fun(n:Nat)=>pO hsd ((XZ.drewN n).up 2);have hD:=fun(w:aF)=>fC (w:=w) (qb hsd) hnx;have hd0:0<=dst (dV s.sd) s.nx/\dst (dV s.sd) s.nx<65536:=by unfold dst;have h1:=(qb hsd).l;have h2:=(qb hsd).u;have h3:=hnx.l;have h4:=hnx.u;omega
 generalize dV s.sd=B at*;generalize s.nx=X at*;obtain⟨D,hD2⟩:=aP (dst B X);rw[hD2]at hD hd0⊢;have hwr:IntKind.i64.wrap (win-D)=win-D:=by rw[gB];omega
 clear hD2 hsd hnx hpt XZ oSc hp hs;go_enter func192,ntmps192;go_upto_region 1 with fail
 go_quiet(first
  |(go_at_call 107;exact Calls.quiet_of_same (rG (hB _)))
  |(go_at_call 154;exact Calls.quiet_of_same (rG (hD _))))
 go_wp2;go_ret;exact⟨rfl,o.drewN _,(Calm.refl w).dn _⟩
def mO(L:List lX):bO:=L.map fun q=>(q.id,q.seq)
def abI(m:aX)(f:jd):bq:=match m.Q[f.id.toNat]? with
 |some q=>q.P.map (·.id)
 |none=>[]
def Xk(m:aX)(i:Nat)(L:List jd):bq:=(L.filter fun f=>f.fU==(i:Int)).flatMap (abI m)
def aai(m:aX)(s:lM):Int:=m.cfg.win-dst (dV s.sd) s.nx
def pI(m:aX)(i:Nat)(s:lM):bO:=(mO s.sd.P++QU ((iI (Xk m i (dO m.tab.F))).take (aai m s).toNat)).take 32
theorem aaj{i:Nat}{L:List jd}{j:Nat}{f:jd}(hf:L[j]?=some f):Xk m i (L.take (j+1))=Xk m i (L.take j)++(if f.fU=(i:Int)then abI m f else[]):=by
 unfold Xk;rw[tH,hf,Option.toList_some,List.filter_append,List.flatMap_append];congr 1;by_cases h:f.fU=(i:Int)
 ·rw[if_pos h,List.filter_cons,if_pos (by simpa using h)];simp
 ·rw[if_neg h,List.filter_cons,if_neg (by simpa using h)];rfl
structure ade(m:aX)(i:Nat)(s:lM):Prop where
 hs:m.S[i]?=some s
 sd:s.sd.Ok
 nx:fK s.nx
 win:1<=m.cfg.win/\m.cfg.win<=64
 room:dst (dV s.sd) s.nx<=m.cfg.win
 tr:∀q∈s.sd.P,q.tr<m.cfg.tries
 tab:m.tab.Ok
 fl:∀f∈dO m.tab.F,∃(j:Nat)(q:xP),f.id=(j:Int)/\m.Q[j]?=some q/\q.P.length<=1000
def adf(m:aX)(x:MB)(b:Nat)(s:lM)(n:Nat)(l:aJ)(w:aF)(v6 _ v27:aL)(wr:aF):Prop:=
 ∃(i:Nat)(a:aY)(c:Nat),v27=↑(i:Int)/\i<=n/\v6=.slice a i c/\Own wr (slc 238 2 a i c (flat dF (mO (s.sd.P.take i)))::ah b m x::l)/\Calm w wr
def adg(m:aX)(x:MB)(b:Nat)(i:Nat)(F:List jd)(n:Nat)(l:aJ)(w:aF)(v9 _ v54:aL)(wr:aF):Prop:=
 ∃(j k:Nat)(a:aY)(c:Nat),v54=↑(j:Int)/\j<=n/\v9=.slice a k c/\(Xk m i (F.take j)).length=k/\k<=1000*j/\Own wr (slc 238 2 a k c (flat wR (Xk m i (F.take j)))::ah b m x::l)/\Calm w wr
def adh(m:aX)(x:MB)(b:Nat)(B:bq)(q:xP)(k n:Nat)(l:aJ)(w:aF)(v9 _ v72:aL)(wr:aF):Prop:=
 ∃(j:Nat)(a:aY)(c:Nat),v72=↑(j:Int)/\j<=n/\v9=.slice a (k+j) c/\Own wr (slc 238 2 a (k+j) c (flat wR (B++(q.P.map (·.id)).take j))::ah b m x::l)/\Calm w wr
theorem Tv{x:MB}{i:Nat}{s:lM}(hP:ade m i s)(o:Own w (ah b m x::R)):
  Calls prog 142 #[b,(i:Int)] w
   fun e w'=>∃a c,aR (.slice a (pI m i s).length c) (slc 238 2 a (pI m i s).length c (flat dF (pI m i s))::ah b m x::R) w e w':=by
 obtain⟨hx,_⟩:=ah.iff.1 o;obtain⟨p,hp⟩:∃p,m.ss[i]?=some p:=⟨_,cZ (by rw[hx.2];exact(eU.1 hP.hs).1)⟩;have hs:=hP.hs;have HP:=az hP;have HPP:=az hp;have HX:=az hx;obtain⟨g,hg,c23,cO,hbl,hgl,hil⟩:=ah.DN hp o;obtain⟨ns,hns⟩:=aP m.ss.length;rw[hns]at c23 hil;obtain⟨a0,d0,r0,hpt⟩:=ah.pts hp hs o;have V_:=az hpt;have p1:=hpt.c1;have hsd:=ah.Zx (P:=prog) (g:=131) (args:=#[d0]) (v:=fun y:aY×Nat=>.slice y.1 s.sd.P.length y.2) (E:=fun y=>[slc 258 3 y.1 s.sd.P.length y.2 (flat b_ s.sd.P)]) hp hs hpt
  (fun R1 oo=>(kN hP.sd oo).mono fun e w'⟨a',c',h⟩=>⟨(a',c'),h⟩) o
 clear hg hns hx hs hP hp hpt;go_enter func142,ntmps142;go_wp2_with fail;refine hsd.mono ?_;rintro _ w3⟨⟨a3,c3⟩,aei,rfl,o3,k3⟩;have K3:=(Calm.refl w).trans k3;obtain⟨n,hn⟩:=aP s.sd.P.length;have HN:=az hn;change Own w3 (slc 258 3 a3 s.sd.P.length c3 (flat b_ s.sd.P)::ah b m x::R)at o3;rw[hn]at o3⊢;have hlen:n<=64:=by rw[<-hn];exact HP.out.sd.len
 have o4:Own w3 (slc 238 2 none 0 0 (flat dF (mO (s.sd.P.take 0)))::ah b m x::slc 258 3 a3 n c3 (flat b_ s.sd.P)::R):=Own.bH (o3.re [1]);have hT:adf m x b s n (slc 258 3 a3 n c3 (flat b_ s.sd.P)::R) w (.slice none 0 0) undef (.int .i64 0) w3:=⟨0,none,0,rfl,by omega,rfl,o4,K3⟩;clear hn hsd p1 aei o3 k3 K3 o4 o c23 cO hgl hil;go_wp2;go_loopw[6,8,27] (fun v6 v8 v27 wr=>adf m x b s n (slc 258 3 a3 n c3 (flat b_ s.sd.P)::R) w v6 v8 v27 wr) (fun _ _ v _=>n-(Lib.intOf v).toNat);case atStart=>exact hT
 case round=>
  clear hT;obtain⟨i1,a5,c5,rfl,hi1,rfl,oR,kR⟩:=hrel;by_cases hil:i1<n
  ·obtain⟨q1,hq1⟩:∃q,s.sd.P[i1]?=some q:=⟨_,cZ (by rw[HN.out];exact hil)⟩;obtain⟨g3,rfl,hc,_,hgl⟩:=(oR.up 2).aG (by omega);have e0:=hc (i1*3+0) q1.seq (by rw[aB bu s.sd.P i1 0 q1 hq1 (by omega)];rfl);have e1:=hc (i1*3+1) q1.id (by rw[aB bu s.sd.P i1 1 q1 hq1 (by omega)];rfl);have e2:=hc (i1*3+2) q1.tr (by rw[aB bu s.sd.P i1 2 q1 hq1 (by omega)];rfl);rw[Nat.add_zero]at e0;have aab:=HP.out.tr q1 (mH hq1);have hd:decide (q1.tr<m.cfg.tries)=true:=bz aab;have oX:Own (wr.alloc (.cells #[q1.seq,q1.id,q1.tr] 258)) (aH wr.heap.size 258 [q1.seq,q1.id,q1.tr]::_):=oR.alloc (.cells #[q1.seq,q1.id,q1.tr] 258);have kX:=aj (x:=.cells #[q1.seq,q1.id,q1.tr] 258) kR;have x2:=oX.cell 2;change World.cell? _ ⟨wr.heap.size,2,none⟩=some ↑q1.tr at x2;obtain⟨t9,tl⟩:=ah.cell (k:=9) (v:=.int .i64 m.cfg.tries) rfl (oX.up 2)
   have HT:=az (show mO (s.sd.P.take (i1+1))=mO (s.sd.P.take i1)++[(q1.id,q1.seq)]by
    unfold mO;rw[tH,hq1,Option.toList_some,tJ]
    rfl)
   clear hc hq1 aab oR kR;go_upto_region 6 with fail;generalize wr.alloc (.cells #[q1.seq,q1.id,q1.tr] 258)=w5 at*;generalize wr.heap.size=kx at*;go_quiet(fail);go_upto_region 7 with fail;have oX1:=oX.drewN nq;have kX1:=kX.dn nq;obtain⟨-,-,y0,y1,-⟩:=oX1.cs;change World.cell? _ ⟨kx,0,none⟩=some ↑q1.seq at y0;change World.cell? _ ⟨kx,1,none⟩=some ↑q1.id at y1;have yl:=oX1.aS;clear e0 e1 e2 hgl oX kX x2 t9 tl;generalize w5.drewN nq=w6 at*;have oY:=oX1.alloc (.cells #[q1.id,q1.seq] 238);have hnw:=Own.news (T:=238) (vs:=[q1.id,q1.seq]) oY;go_wp2_with(at_builtin;refine aQ rfl _ _ rfl Tryz.canT rfl (oY.up 2) rfl ⟨_,_,rfl,rfl,by intro u hu;simp only[jc,xN,or_false]at hu;rcases hu with rfl|rfl<;>rfl,.inr ⟨_,rfl,hnw⟩⟩ (by unfold maxLen;omega) (by omega) ?kK);case kK=>
    intro a6 c6 w7 o7 k7;have o8:=o7.re [1,2] 2;have K7:=kX1.trans ((aj (Calm.refl _)).trans k7);clear hnw y0 y1 yl oX1 oY o7 k7;go_wp2;go_roundw;case rel=>refine⟨i1+1,a6,c6,by go_num,by omega,rfl,?_,K7⟩;rw[HT.out,aO];exact o8
    case measure=>simp[Lib.intOf];omega
  ·have hin:i1=n:=by omega
   subst hin;have hall:mO (s.sd.P.take i1)=mO s.sd.P:=by rw[<-HN.out,List.take_length]
   rw[hall]at oR;clear hall hil hi1;obtain⟨F,hF⟩:=aP (dO m.tab.F);have HF:=az hF;obtain⟨nf,hnf⟩:=aP F.length;have HNF:=az hnf;have Tn:nf<=32:=by rw[<-hnf,<-hF];unfold dO;rw[iP];exact Nat.le_trans (List.length_filter_le _ _) HP.out.tab.fl
   have oX:Own wr (ah b m x::slc 238 2 a5 i1 c5 (flat dF (mO s.sd.P))::R):=oR.re [2,1,0] 1;have U2:=ah.SL (P:=prog) (g:=56) (args:=#[x.tb]) (v:=fun y:aY×Nat=>.slice y.1 (dO m.tab.F).length y.2) (E:=fun y=>[slc 167 7 y.1 (dO m.tab.F).length y.2 (flat jv (dO m.tab.F))])
    (fun R1 oo=>(zn HP.out.tab oo).mono fun e w'⟨a',c',h⟩=>⟨(a',c'),h⟩) oX
   obtain⟨c20,cl⟩:=ah.cell (k:=20) rfl oX;change World.cell? _ ⟨b,20,none⟩=some (.pointer (some ⟨x.tb,0,none⟩))at c20;rw[hF]at U2;rw[hnf]at U2;clear hF hnf oR;go_wp2_with fail;refine U2.mono ?_;rintro _ w4⟨⟨a4,c4⟩,rfl,o4,k4⟩;have o5:Own w4 (slc 238 2 none 0 0 (flat wR (Xk m i (F.take 0)))::ah b m x::slc 167 7 a4 nf c4 (flat jv F)::slc 238 2 a5 i1 c5 (flat dF (mO s.sd.P))::R):=Own.bH (o4.re [1,0]);have hT:adg m x b i F nf (slc 167 7 a4 nf c4 (flat jv F)::slc 238 2 a5 i1 c5 (flat dF (mO s.sd.P))::R) w (.slice none 0 0) undef (.int .i64 0) w4:=⟨0,0,none,0,rfl,by omega,rfl,rfl,by omega,o5,kR.trans k4⟩;clear U2 c20 cl o4 k4 o5 oX kR;go_wp2;go_loopw[9,11,54] (fun v9 v11 v54 wr=>adg m x b i F nf (slc 167 7 a4 nf c4 (flat jv F)::slc 238 2 a5 i1 c5 (flat dF (mO s.sd.P))::R) w v9 v11 v54 wr) (fun _ _ v _=>nf-(Lib.intOf v).toNat);case atStart=>exact hT
   case round=>
    clear hT;obtain⟨j,k,a9,c9,rfl,hj,rfl,hk,hkb,oR,kR⟩:=hrel;have HK:=az hk;clear hk;by_cases hjl:j<nf
    ·obtain⟨f,hf⟩:∃f,F[j]?=some f:=⟨_,cZ (by rw[HNF.out];exact hjl)⟩;obtain⟨jq,q,hfj,hq,hqn⟩:=HP.out.fl f (by rw[HF.out];exact mH hf);obtain⟨pq,hpq⟩:∃p,m.qs[jq]?=some p:=⟨_,cZ (by rw[HX.out.1];exact(eU.1 hq).1)⟩;obtain⟨g,rfl,hc,_,hgl⟩:=(oR.up 2).aG (by omega);have e0:=hc (j*7+0) f.id (by rw[aB dN F j 0 f hf (by omega)];rfl);have e1:=hc (j*7+1) f.fU (by rw[aB dN F j 1 f hf (by omega)];rfl);have e2:=hc (j*7+2) f.wt (by rw[aB dN F j 2 f hf (by omega)];rfl);have e3:=hc (j*7+3) f.pk (by rw[aB dN F j 3 f hf (by omega)];rfl);have e4:=hc (j*7+4) f.eG (by rw[aB dN F j 4 f hf (by omega)];rfl);have e5:=hc (j*7+5) f.lag (by rw[aB dN F j 5 f hf (by omega)];rfl);have e6:=hc (j*7+6) f.lead (by rw[aB dN F j 6 f hf (by omega)];rfl);rw[Nat.add_zero,hfj]at e0;have HST:=az (aaj (m:=m) (i:=i) hf);have oA:Own (wr.alloc (.cells #[(jq:Int),f.fU,f.wt,f.pk,f.eG,f.lag,f.lead] 167)) (aH wr.heap.size 167 [(jq:Int),f.fU,f.wt,f.pk,f.eG,f.lag,f.lead]::_):=oR.alloc (.cells #[(jq:Int),f.fU,f.wt,f.pk,f.eG,f.lag,f.lead] 167);have kA:=aj (x:=.cells #[(jq:Int),f.fU,f.wt,f.pk,f.eG,f.lag,f.lead] 167) kR;have HQI:=az (show abI m f=q.P.map (·.id)by unfold abI;rw[hfj,Int.toNat_natCast,hq]);have WG:=az hpq;have HQ:=az hq;clear hc hf oR kR hfj hq hpq;go_upto_region 13 with fail;clear e0 e1 e2 e3 e4 e5 e6 hgl;generalize wr.alloc (.cells #[(jq:Int),f.fU,f.wt,f.pk,f.eG,f.lag,f.lead] 167)=w5 at*;generalize wr.heap.size=kx at*;obtain⟨-,-,f0,f1,-⟩:=oA.cs;change World.cell? _ ⟨kx,0,none⟩=some ↑(jq:Int)at f0;change World.cell? _ ⟨kx,1,none⟩=some ↑f.fU at f1;by_cases hst:f.fU=(i:Int)
     ·have aeu:(f.fU==(i:Int))=true:=beq_iff_eq.2 hst;have SG:(f.fU !=(i:Int))=false:=by rw[bne,aeu];rfl
      rw[if_pos hst,HQI.out]at HST;clear hst;have hPk:=ah.ad6 (P:=prog) (g:=188) (args:=#[pq]) (v:=fun y:aY×Nat=>.slice y.1 q.P.length y.2) (E:=fun y=>[slc 170 5 y.1 q.P.length y.2 (flat bR q.P)]) WG.out HQ.out
       (fun R1 oo=>(Em hqn oo).mono fun e w'⟨a',c',h⟩=>⟨(a',c'),h⟩) (oA.drew.up 2)
      obtain⟨gq,Xg,EU,cqj,Qs,M0,Tw⟩:=ah.ym WG.out (oA.up 2);have HGQ:=az Xg;obtain⟨nq1,hnq⟩:=aP m.qs.length;have HNQ:=az hnq;obtain⟨np,hnp⟩:=aP q.P.length;have X0:=az hnp;rw[hnq]at EU Tw;rw[hnp]at hPk hqn;clear Xg hnq hnp;go_upto_region 14 with fail
      go_region_held3(fun w'=>w'.cell? ⟨b,22,none⟩=some (.slice (some ⟨gq,0,none⟩) nq1 x.qc)/\w'.cell? ⟨gq,jq,none⟩=some (.pointer (some ⟨pq,0,none⟩))/\w'.cell? ⟨kx,0,none⟩=some ↑(jq:Int)) (go_keep) (first
       |(go_at_call 188;(with_reducible refine Calls.mono hPk ?_);rintro _ w8⟨⟨a8,c8⟩,rfl,o8,k8⟩;obtain⟨g8,Cx,z22,zqj,_,_,_⟩:=ah.ym WG.out (o8.up 1);rw[HGQ.out]at Cx;injection Cx with Cx;injection Cx with Cx;subst Cx;rw[HNQ.out]at z22;have z0:=(o8.up 2).cell 0;change World.cell? w8 ⟨kx,0,none⟩=some ↑(jq:Int)at z0;clear hPk))
      have K8:=(aD kA).trans k8;have o9:=o8.re [3,1,0,4,5,2];change Own w8 (slc 238 2 a9 k c9 (flat wR (Xk m i (F.take j)))::ah b m x::slc 170 5 a8 np c8 (flat bR q.P)::slc 167 7 (some ⟨g,0,none⟩) nf c4 (flat jv F)::slc 238 2 a5 i1 c5 (flat dF (mO s.sd.P))::aH kx 167 [(jq:Int),f.fU,f.wt,f.pk,f.eG,f.lag,f.lead]::R)at o9;have hT:adh m x b (Xk m i (F.take j)) q k np (slc 170 5 a8 np c8 (flat bR q.P)::slc 167 7 (some ⟨g,0,none⟩) nf c4 (flat jv F)::slc 238 2 a5 i1 c5 (flat dF (mO s.sd.P))::aH kx 167 [(jq:Int),f.fU,f.wt,f.pk,f.eG,f.lag,f.lead]::R) w (.slice a9 k c9) undef (.int .i64 0) w8:=⟨0,a9,c9,rfl,by omega,rfl,by rw[List.take_zero,List.append_nil];exact o9,K8⟩;clear o8 k8 K8 o9 kA oA f0 f1 z22 zqj z0 EU cqj M0 Tw;go_wp2;go_loopw[9,13,72] (fun v9 v13 v72 wr=>adh m x b (Xk m i (F.take j)) q k np (slc 170 5 a8 np c8 (flat bR q.P)::slc 167 7 (some ⟨g,0,none⟩) nf c4 (flat jv F)::slc 238 2 a5 i1 c5 (flat dF (mO s.sd.P))::aH kx 167 [(jq:Int),f.fU,f.wt,f.pk,f.eG,f.lag,f.lead]::R) w v9 v13 v72 wr) (fun _ _ v _=>np-(Lib.intOf v).toNat);case atStart=>exact hT
      case round=>
       clear hT;obtain⟨l,aA,cA,rfl,hl,rfl,oR,kR⟩:=hrel;by_cases hll:l<np
       ·obtain⟨y,hy⟩:∃y,q.P[l]?=some y:=⟨_,cZ (by rw[X0.out];exact hll)⟩;obtain⟨g3,rfl,hc,_,hgl⟩:=(oR.up 2).aG (by omega);have e0:=hc (l*5+0) y.id (by rw[aB aT q.P l 0 y hy (by omega)];rfl);have e1:=hc (l*5+1) y.fl (by rw[aB aT q.P l 1 y hy (by omega)];rfl);have e2:=hc (l*5+2) y.len (by rw[aB aT q.P l 2 y hy (by omega)];rfl);have e3:=hc (l*5+3) y.ar (by rw[aB aT q.P l 3 y hy (by omega)];rfl);have e4:=hc (l*5+4) y.dl (by rw[aB aT q.P l 4 y hy (by omega)];rfl);rw[Nat.add_zero]at e0
        have HT:=az (show(q.P.map (·.id)).take (l+1)=(q.P.map (·.id)).take l++[y.id]by
         rw[tH,kI,hy]
         rfl)
        have oX:Own (wr.alloc (.cells #[y.id,y.fl,y.len,y.ar,y.dl] 170)) (aH wr.heap.size 170 [y.id,y.fl,y.len,y.ar,y.dl]::_):=oR.alloc (.cells #[y.id,y.fl,y.len,y.ar,y.dl] 170);have kX:=aj (x:=.cells #[y.id,y.fl,y.len,y.ar,y.dl] 170) kR;have y0:=oX.cell 0;change World.cell? _ ⟨wr.heap.size,0,none⟩=some ↑y.id at y0;clear hc hy oR kR;go_upto_region 17 with fail;clear e0 e1 e2 e3 e4 hgl;have yl:=oX.aS;generalize wr.alloc (.cells #[y.id,y.fl,y.len,y.ar,y.dl] 170)=w6 at*;generalize wr.heap.size=ky at*;have oY:=oX.alloc (.cells #[y.id,(-1:Int)] 238);have hnw:=Own.news (T:=238) (vs:=[y.id,(-1:Int)]) oY;go_wp2_with(at_builtin;refine aQ rfl _ _ rfl Tryz.canT rfl (oY.up 2) rfl ⟨_,_,rfl,rfl,by intro u hu;simp only[jc,xN,or_false]at hu;rcases hu with rfl|rfl<;>rfl,.inr ⟨_,rfl,hnw⟩⟩ (by unfold maxLen;omega) (by omega) ?kK);case kK=>
         intro a6 c6 w7 o7 k7;have oZ:=o7.re [1,2] 2;have K7:=kX.trans ((aj (Calm.refl _)).trans k7);clear hnw y0 yl oX oY o7 k7;go_wp2;go_roundw;case rel=>refine⟨l+1,a6,c6,by go_num,by omega,rfl,?_,K7⟩;rw[HT.out,<-List.append_assoc,aO];exact oZ
         case measure=>simp[Lib.intOf];omega
       ·have hin:l=np:=by omega
        subst hin;go_wp2;go_roundw;case rel=>refine⟨j+1,k+l,aA,cA,by go_num,by omega,rfl,by rw[HST.out,jf,HK.out,iP,X0.out],by omega,?_,kR⟩;rw[HST.out];rw[<-X0.out,<-iP (f:=fun x:iA=>x.id),List.take_length,iP,X0.out]at oR;exact oR.re [2,5,0,1,3,4] 2
        case measure=>simp[Lib.intOf];omega
     ·have aeu:(f.fU==(i:Int))=false:=Ec.2 hst;have SG:(f.fU !=(i:Int))=true:=by rw[bne,aeu];rfl
      rw[if_neg hst,List.append_nil]at HST;clear hst;go_wp2;go_roundw;case rel=>refine⟨j+1,k,a9,c9,by go_num,by omega,rfl,by rw[HST.out,HK.out],by omega,?_,kA⟩;rw[HST.out];exact oA.re [0] 1
      case measure=>simp[Lib.intOf];omega
    ·have hin:j=nf:=by omega
     subst hin;have hall:Xk m i (F.take j)=Xk m i F:=by rw[<-HNF.out,List.take_length]
     rw[hall]at oR HK;obtain⟨I,hI⟩:=aP (Xk m i F);have HI:=az hI;rw[hI]at oR HK;clear hall hI hjl hj;have hSo:=Qx HK.out.symm (by omega) oR;go_wp2_with fail;refine hSo.mono ?_;rintro _ w6⟨rfl,o6,k6⟩;have K6:=kR.trans k6;obtain⟨t10,tl⟩:=ah.cell (k:=10) (v:=.int .i64 m.cfg.win) rfl (o6.up 1);have hRo:=Tu HPP.out HP.out.hs HP.out.sd HP.out.nx HP.out.win (o6.up 1);obtain⟨rm,hrm⟩:∃rm:Nat,m.cfg.win-dst (dV s.sd) s.nx=(rm:Int):=⟨_,(Int.toNat_of_nonneg (by have:=HP.out.room;omega)).symm⟩;have hrl:rm<=64:=by
      have h1:=HP.out.win;have h2:0<=dst (dV s.sd) s.nx:=by unfold dst;omega
      omega
     have A9:=az hrm;rw[hrm]at hRo;clear hrm hSo oR kR k6;obtain⟨ln,hln⟩:=aP (min k rm);have hmn:min (k:Int) (rm:Int)=(ln:Int):=by omega
     have hlk:ln<=k:=by omega
     have Eo:=az hln;go_wp2_with fail;refine hRo.mono ?_;rintro _ w7⟨rfl,o7,k7⟩;have K7:=K6.trans k7;obtain⟨J,hJ⟩:=aP (iI I);rw[hJ]at o7
     replace o7:Own w7 (slc 238 2 a9 k c9 (flat wR J)::ah b m x::slc 167 7 a4 j c4 (flat jv F)::slc 238 2 a5 i1 c5 (flat dF (mO s.sd.P))::R):=o7.re [1]
     have ZJ:J.length=k:=by rw[<-hJ,qd,HK.out]
     have HJ:=az hJ;have hfl:flat wR J=flat wR (J.take ln)++flat wR (J.drop ln):=by rw[<-aO,List.take_append_drop]
     have oT:=o7;rw[hfl]at oT;have oS:=Own.lW oT hlk (by rw[aN xD,rZ];rw[show min ln J.length=ln by omega])
     have hsrc:=sI (xs:=flat wR (J.take ln)) (by
      intro u hu;unfold flat at hu;obtain⟨l,hl,hu⟩:=List.mem_flatten.1 hu;obtain⟨p,_,rfl⟩:=gW.1 hl;simp only[wR,jc,xN,or_false]at hu
      rcases hu with rfl|rfl<;>rfl) oS
     obtain⟨hz1,hz2,_⟩:=Own.fA o7;have hcl:=(Own.fA o7).2.2;have hTt:(i1+ln)<=1000:=by omega
     clear hRo oT hfl o6 t10 tl K6;rcases Own.slc.1 o7 with⟨rfl,hk0,rfl,_,_⟩|⟨g9,sp9,rfl,h19,h29,_,_,_⟩
     ·subst hk0;have hl0:ln=0:=by omega
      subst hl0;go_wp2_with(at_builtin;refine aQ rfl _ _ rfl Tryz.canT rfl (o7.re [3,1,0,2]) rfl hsrc (by unfold maxLen;omega) (by omega) ?kK);case kK=>
       intro a6 c6 w8 o8 k8;have K8:=K7.trans k8;have o9:Own w8 (slc 238 2 a6 (i1+0) c6 (flat dF (mO s.sd.P++QU (J.take 0)))::ah b m x::R):=by rw[aO,Hw];exact o8.re [2,3,0,1] 2
       have hc6:=(Own.fA o9).2.1;clear o8 hsrc oS o7;obtain⟨lm,hlm⟩:=aP (min (i1+0) 32);have hmm:min ((i1:Int)) 32=(lm:Int):=by omega
       have hml:lm<=i1+0:=by omega
       have HML:=az hlm
       have HL:=az (show pI m i s=(mO s.sd.P++QU (J.take 0)).take lm by
        have h1:=Eo.out;unfold pI aai;rw[A9.out,HF.out,HI.out,HJ.out,Int.toNat_natCast];have h2:J.take rm=J.take 0:=by rw[List.take_eq_take_iff,ZJ];omega
        have h3:(mO s.sd.P++QU (J.take 0)).length=i1+0:=by rw[jf];unfold mO QU;rw[iP,iP,rZ,HN.out,ZJ];omega
        rw[h2,List.take_eq_take_iff,h3]
        omega)
       have GY:=az (show(pI m i s).length=lm by
        rw[HL.out,rZ,jf];unfold mO QU;rw[iP,iP,rZ,HN.out,ZJ]
        omega)
       clear hlm hln ZJ;go_wp2;go_ret;refine⟨a6,c6,by rw[GY.out];go_simp;try rfl,?_,K8⟩;rw[GY.out,HL.out];have jN:=o9;rw[<-List.take_append_drop lm (mO s.sd.P++QU (J.take 0)),aO]at jN;refine Own.lW jN hml ?_;have h5:=GY.out;rw[HL.out]at h5;rw[aN fE,h5]
     ·go_wp2_with(at_builtin;refine aQ rfl _ _ rfl Tryz.canT rfl (o7.re [3,1,0,2]) rfl hsrc (by unfold maxLen;omega) (by omega) ?kK);case kK=>
       intro a6 c6 w8 o8 k8;have K8:=K7.trans k8;have o9:Own w8 (slc 238 2 a6 (i1+ln) c6 (flat dF (mO s.sd.P++QU (J.take ln)))::ah b m x::R):=by rw[aO,Hw];exact o8.re [2,3,0,1] 2
       have hc6:=(Own.fA o9).2.1;clear o8 hsrc oS o7;obtain⟨lm,hlm⟩:=aP (min (i1+ln) 32);have hmm:min ((i1:Int)+(ln:Int)) 32=(lm:Int):=by omega
       have hml:lm<=i1+ln:=by omega
       have HML:=az hlm
       have HL:=az (show pI m i s=(mO s.sd.P++QU (J.take ln)).take lm by
        have h1:=Eo.out;unfold pI aai;rw[A9.out,HF.out,HI.out,HJ.out,Int.toNat_natCast];have h2:J.take rm=J.take ln:=by rw[List.take_eq_take_iff,ZJ];omega
        have h3:(mO s.sd.P++QU (J.take ln)).length=i1+ln:=by rw[jf];unfold mO QU;rw[iP,iP,rZ,HN.out,ZJ];omega
        rw[h2,List.take_eq_take_iff,h3]
        omega)
       have GY:=az (show(pI m i s).length=lm by
        rw[HL.out,rZ,jf];unfold mO QU;rw[iP,iP,rZ,HN.out,ZJ]
        omega)
       clear hlm hln ZJ;go_wp2;go_ret;refine⟨a6,c6,by rw[GY.out];go_simp;try rfl,?_,K8⟩;rw[GY.out,HL.out];have jN:=o9;rw[<-List.take_append_drop lm (mO s.sd.P++QU (J.take ln)),aO]at jN;refine Own.lW jN hml ?_;have h5:=GY.out;rw[HL.out]at h5;rw[aN fE,h5]
theorem U4(cp:Int×Int×Int)(r:Int×Int)(L:bq):∀(k n:Nat)(t:Int),(Lx cp r L k n t).1<=n+k
 |0,n,t=>by unfold Lx;omega
 |k+1,n,t=>by
  unfold Lx;split
  ·split
   ·exact Nat.le_trans (U4 cp r L k (n+1) _) (by omega)
   ·show n<=_;omega
  ·show n<=_;omega
theorem U5(cp:Int×Int×Int)(r:Int×Int)(L:bq):(yJ cp r L).1<=L.length:=by have:=U4 cp r L L.length 0 0;unfold yJ;omega
def QA(m:aX)(i:Nat):Int×Int:=match m.tab.S[i]? with
 |some st=>(m.cfg.bQ[st.rate.toNat]?).getD (0,0)
 |none=>(0,0)
def vw(m:aX)(i:Nat):bO:=match m.S[i]? with
 |some s=>pI m i s
 |none=>[]
def lT(m:aX)(i:Nat):Nat×Int:=yJ m.cfg.caps (QA m i) (dZ m (vw m i))
def iY(m:aX)(i:Nat):bO:=(vw m i).take (lT m i).1
theorem Cz(m:aX)(i:Nat):(iY m i).length=(lT m i).1:=by
 unfold iY;rw[rZ];have h:=U5 m.cfg.caps (QA m i) (dZ m (vw m i));have h2:(dZ m (vw m i)).length=(vw m i).length:=by unfold dZ;rw[iP]
 rw[h2]at h;show min (yJ _ _ _).1 _=(yJ _ _ _).1;omega
def zq(m:aX)(i:Nat):Bool:=match m.S[i]? with
 |some s=>!(vw m i).isEmpty&&eB s.ch&&decide (0<(lT m i).1)
 |none=>false
def dm(m:aX)(k:Nat):List Nat:=(List.range k).filter (zq m)
theorem KY(m:aX)(k:Nat):dm m (k+1)=dm m k++(if zq m k=true then[k]else[]):=by
 unfold dm;rw[List.range_succ,List.filter_append];congr 1;by_cases h:zq m k=true
 ·rw[if_pos h,List.filter_cons,if_pos h];rfl
 ·rw[if_neg h,List.filter_cons,if_neg h];rfl
theorem M5{m:aX}{k i:Nat}(h:i∈dm m k):i<k:=by unfold dm at h;exact List.mem_range.1 (List.mem_filter.1 h).1
theorem M6(m:aX)(k:Nat):(dm m k).Pairwise (·<·):=by unfold dm;exact List.Pairwise.filter _ List.pairwise_lt_range
theorem Hz(m:aX)(k:Nat):(dm m k).length<=k:=by unfold dm;exact Nat.le_trans (List.length_filter_le _ _) (by rw[List.length_range];exact Nat.le_refl _)
theorem QB{L:List Nat}{x:Int}(h:x∈L.map fun i:Nat=>(i:Int)):∃i:Nat,i∈L/\x=(i:Int):=by obtain⟨i,h1,h2⟩:=gW.1 h;exact⟨i,h1,h2.symm⟩
theorem Tx{q:Int}{L:bq}{O O':List lS}{x:Int}(h:rE q L O O' x)(hO:Gi q O):Gi q O'/\x∈L/\∃d l,O'=d::l/\d.id=x:=by
 induction h with
 |here d t h1 h2=>exact⟨hO,by simpa using h2,d,t,rfl,rfl⟩
 |turn d t O' x h1 h2 ih=>exact ih hO.turn
def rY(p:aY×Nat×Nat):aL:=.slice p.1 p.2.1 p.2.2
def Jp(m:aX)(L:List Nat)(ad:List (aY×Nat)):List (Int×(aY×Nat×Nat)):=List.zipWith (fun(i:Nat)(a:aY×Nat)=>((i:Int),(a.1,(lT m i).1,a.2))) L ad
def QC(m:aX)(L:List Nat)(ad:List (aY×Nat)):aJ:=List.zipWith (fun i(a:aY×Nat)=>slc 238 2 a.1 (lT m i).1 a.2 (flat dF (iY m i))) L ad
def NG(m:aX)(L:List Nat):bO:=L.map fun i:Nat=>((i:Int),(lT m i).2)
theorem abJ{L:List Nat}{ad:List (aY×Nat)}{k:Nat}(h:∀i∈L,i<k):a_ (Jp m L ad) (k:Int)=none:=by
 rw[mR];intro hc;obtain⟨p,hp,he⟩:=gW.1 hc;unfold Jp at hp;obtain⟨j,hj⟩:=List.getElem?_of_mem hp;rw[List.getElem?_zipWith]at hj;cases h1:L[j]? with
 |none=>rw[h1]at hj;simp at hj
 |some i=>
  cases h2:ad[j]? with
  |none=>rw[h1,h2]at hj;simp at hj
  |some a=>rw[h1,h2]at hj;simp at hj;have:=h i (mH h1);rw[<-hj]at he;simp at he;omega
theorem abK{L:List Nat}{k:Nat}(h:∀i∈L,i<k)(v:Int):bA (NG m L) (k:Int) v=NG m L++[((k:Int),v)]:=by
 apply vG;have h1:a_ (NG m L) (k:Int)=none:=by rw[mR];intro hc;obtain⟨p,hp,he⟩:=gW.1 hc;obtain⟨i,hi,hie⟩:=gW.1 hp;have:=h i hi;rw[<-hie]at he;simp at he;omega
 have h2:=iZ (NG m L) (k:Int);rw[h1]at h2;simpa using h2
theorem U6{L:List Nat}(h:L.Pairwise (·<·)):(L.map fun i:Nat=>(i:Int)).Nodup:=by rw[List.Nodup,List.pairwise_map];exact h.imp fun h=>by omega
theorem abL{L:List Nat}{ad:List (aY×Nat)}(hl:ad.length=L.length)(h:L.Pairwise (·<·)){i:Nat}(hi:i∈L):
  ∃(j:Nat)(a:aY)(c:Nat),a_ (Jp m L ad) (i:Int)=some (a,(lT m i).1,c)/\(QC m L ad)[j]?=some (slc 238 2 a (lT m i).1 c (flat dF (iY m i))):=by
 obtain⟨j,hj⟩:=List.getElem?_of_mem hi;obtain⟨⟨a,c⟩,ha⟩:∃a,ad[j]?=some a:=⟨_,cZ (by rw[hl];exact(eU.1 hj).1)⟩;have e1:(Jp m L ad)[j]?=some ((i:Int),(a,(lT m i).1,c)):=by unfold Jp;rw[List.getElem?_zipWith,hj,ha]
 have e2:(QC m L ad)[j]?=some (slc 238 2 a (lT m i).1 c (flat dF (iY m i))):=by unfold QC;rw[List.getElem?_zipWith,hj,ha]
 have hu:bL (Jp m L ad):=by
  unfold bL;have e3:(Jp m L ad).map (·.1)=L.map fun i:Nat=>(i:Int):=by
   unfold Jp;apply List.ext_getElem?;intro t;rw[kI,List.getElem?_zipWith,kI];cases h1:L[t]? with
   |none=>rfl
   |some y=>obtain⟨z,hz⟩:∃a,ad[t]?=some a:=⟨_,cZ (by rw[hl];exact(eU.1 h1).1)⟩;rw[hz];rfl
  rw[e3];exact U6 h
 exact⟨j,a,c,Li hu e1,e2⟩
theorem abM{L:List Nat}(h:L.Pairwise (·<·)){i:Nat}(hi:i∈L):a_ (NG m L) (i:Int)=some (lT m i).2:=by
 have hu:bL (NG m L):=by unfold bL NG;rw[List.map_map];exact U6 h
 have:=eO hu (x:=((i:Int),(lT m i).2)) (gW.2 ⟨i,hi,rfl⟩);exact this
end
end Go.Proofs.YtfejhikpfhgbeaaGreatDoor
