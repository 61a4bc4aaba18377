import Derived.Lib.MinMax
import Derived.Test.YtfejhikpfhgbeaaGreatDoorMachineIdleF
set_option maxHeartbeats 25600000
set_option maxRecDepth 100000
set_option linter.all false
namespace Go.Proofs.YtfejhikpfhgbeaaGreatDoor
open Go.Proofs.Tryz
open Go.RowKit
open SP
def iG(wt:Int):Int:=Int.tdiv 720720 wt
def cst(len wt:Int):Int:=len*iG wt
theorem ru{wt:Int}(h1:1<=wt)(h2:wt<=16):45045<=iG wt/\iG wt<=720720:=by
 have:wt=1\/wt=2\/wt=3\/wt=4\/wt=5\/wt=6\/wt=7\/wt=8\/wt=9\/wt=10\/wt=11\/wt=12\/wt=13\/wt=14\/wt=15\/wt=16:=by omega
 rcases this with rfl|rfl|rfl|rfl|rfl|rfl|rfl|rfl|rfl|rfl|rfl|rfl|rfl|rfl|rfl|rfl<;>decide
theorem mW{len wt:Int}(h1:1<=wt)(h2:wt<=16)(h3:1<=len)(h4:len<=4096):45045<=cst len wt/\cst len wt<=2952069120:=by
 obtain⟨a,b⟩:=ru h1 h2;unfold cst;constructor
 ·calc(45045:Int)<=iG wt:=a
   _=1*iG wt:=(Int.one_mul _).symm
   _<=len*iG wt:=Int.mul_le_mul_of_nonneg_right h3 (by omega)
 ·calc len*iG wt<=4096*720720:=Int.mul_le_mul h4 b (by omega) (by omega)
   _=2952069120:=by decide
def lY(len wt:Int):Prop:=len<1\/4096<len\/wt<1\/16<wt
instance(len wt:Int):Decidable (lY len wt):=by unfold lY;infer_instance
def Oy(len wt:Int):Int×Int:=if lY len wt then(0,1)else(cst len wt,0)
def xR(p:Int×Int):aL:=.tuple #[p.1,p.2]
section
variable{w:aF}
theorem tY(wt:Int)(w:aF):Calls prog 404 #[wt] w (bN (.bool (decide (1<=wt/\wt<=16))) w):=by
 by_cases h1:wt<1
 ·have:decide (1<=wt/\wt<=16)=false:=by simp;omega
  rw[this];go_enter func404,ntmps404;go_wp2;go_ret;exact⟨rfl,rfl⟩
 ·by_cases h2:wt<=16
  ·have:decide (1<=wt/\wt<=16)=true:=by simp;omega
   rw[this];go_enter func404,ntmps404;go_wp2;go_ret;exact⟨rfl,rfl⟩
  ·have:decide (1<=wt/\wt<=16)=false:=by simp;omega
   rw[this];go_enter func404,ntmps404;go_wp2;go_ret;exact⟨rfl,rfl⟩
theorem VK(len wt:Int)(w:aF):Calls prog 399 #[len,wt] w (bN (xR (Oy len wt)) w):=by
 have hw:=tY wt w;by_cases h:lY len wt
 ·have e:Oy len wt=(0,1):=if_pos h;rw[e];clear e;by_cases h1:len<1
  ·go_enter func399,ntmps399;go_wp2;go_ret2;exact⟨rfl,rfl⟩
  ·by_cases h2:4096<len
   ·go_enter func399,ntmps399;go_wp2;go_ret2;exact⟨rfl,rfl⟩
   ·have hd:decide (1<=wt/\wt<=16)=false:=by unfold lY at h;simp;omega
    rw[hd]at hw;clear h hd;go_enter func399,ntmps399;go_wp2_with fail;refine hw.mono ?_;rintro e1 w1⟨rfl,rfl⟩;go_wp2;go_ret2;exact⟨rfl,rfl⟩
 ·have e:Oy len wt=(cst len wt,0):=if_neg h;rw[e];clear e;have h':1<=len/\len<=4096/\1<=wt/\wt<=16:=by unfold lY at h;omega
  have hd:decide (1<=wt/\wt<=16)=true:=by simp;omega
  rw[hd]at hw;clear h hd;obtain⟨h1,h2,h3,h4⟩:=h';obtain⟨c1,c2⟩:=mW h3 h4 h1 h2;obtain⟨u1,u2⟩:=ru h3 h4;have e1:Int.tdiv 720720 wt=iG wt:=rfl;have e2:len*iG wt=cst len wt:=rfl;generalize iG wt=u at*;generalize cst len wt=z at*;have hz:¬wt=0:=by omega
  go_enter func399,ntmps399;go_wp2_with fail;refine hw.mono ?_;rintro e1 w1⟨rfl,rfl⟩;go_wp2;go_ret2;exact⟨rfl,rfl⟩
theorem YC(x y:Int)(h1:-1000000000000000000<=x)(h2:x<=1000000000000000000)(h3:-1000000000000000000<=y)(h4:y<=1000000000000000000)(w:aF):
  Calls prog 400 #[x,y] w (bN (xR (x+y,0)) w):=by
 by_cases h:0<y
 ·have h5:x<x+y:=by omega
  obtain⟨z,hz⟩:=aP (x+y);rw[hz]at h5⊢;go_enter func400,ntmps400;go_wp2;go_ret2;exact⟨rfl,rfl⟩
 ·have h5:¬x<x+y:=by omega
  obtain⟨z,hz⟩:=aP (x+y);rw[hz]at h5⊢;go_enter func400,ntmps400;go_wp2;go_ret2;exact⟨rfl,rfl⟩
def mX(was len wt:Int):Int×Int:=if lY len wt\/was<0\/1099511627776<was then(0,1)else if 1099511627776<was+cst len wt then(0,2)else(was+cst len wt,0)
theorem Dg(was len wt:Int)(w:aF):Calls prog 391 #[was,len,wt] w (bN (xR (mX was len wt)) w):=by
 have hc:=VK len wt w;by_cases h:lY len wt
 ·have e:mX was len wt=(0,1):=if_pos (.inl h);have e':Oy len wt=(0,1):=if_pos h;rw[e];rw[e']at hc;clear e e' h;unfold xR at*;go_enter func391,ntmps391;go_wp2_with fail;refine hc.mono ?_;rintro e1 w1⟨rfl,rfl⟩;go_wp2;go_ret2;exact⟨rfl,rfl⟩
 ·have e':Oy len wt=(cst len wt,0):=if_neg h;rw[e']at hc;clear e';have h':1<=len/\len<=4096/\1<=wt/\wt<=16:=by unfold lY at h;omega
  obtain⟨c1,c2⟩:=mW h'.2.2.1 h'.2.2.2 h'.1 h'.2.1;unfold mX;generalize cst len wt=z at*;by_cases h1:was<0
  ·rw[if_pos (.inr (.inl h1))];clear h h';unfold xR at*;go_enter func391,ntmps391;go_wp2_with fail;refine hc.mono ?_;rintro e1 w1⟨rfl,rfl⟩;go_wp2;go_ret2;exact⟨rfl,rfl⟩
  ·by_cases h2:1099511627776<was
   ·rw[if_pos (.inr (.inr h2))];clear h h';unfold xR at*;go_enter func391,ntmps391;go_wp2_with fail;refine hc.mono ?_;rintro e1 w1⟨rfl,rfl⟩;go_wp2;go_ret2;exact⟨rfl,rfl⟩
   ·rw[if_neg (by rintro(h3|h3|h3);exact h h3;exact h1 h3;exact h2 h3)];clear h h';have ha:=YC was z (by omega) (by omega) (by omega) (by omega) w;by_cases h5:1099511627776<was+z
    ·rw[if_pos h5];generalize was+z=s at*;unfold xR at*;go_enter func391,ntmps391;go_wp2_with fail;refine hc.mono ?_;rintro e1 w1⟨rfl,rfl⟩;go_wp2_with fail;refine ha.mono ?_;rintro e1 w1⟨rfl,rfl⟩;go_wp2;go_ret2;exact⟨rfl,rfl⟩
    ·rw[if_neg h5];generalize was+z=s at*;unfold xR at*;go_enter func391,ntmps391;go_wp2_with fail;refine hc.mono ?_;rintro e1 w1⟨rfl,rfl⟩;go_wp2_with fail;refine ha.mono ?_;rintro e1 w1⟨rfl,rfl⟩;go_wp2;go_ret2;exact⟨rfl,rfl⟩
end
structure qy(S:St):Prop where
 ok:ED S.L
 old:∀f,0<=S.old f/\S.old f<=1099511627776
 tm:0<=S.tm/\S.tm<=1099511627776
def gG(S:St)(f w:Int):Int:=if f<0\/32<=f\/w<1\/16<w then 1 else if(cB S.L f).isSome then 7 else 0
def pg(S:St)(f w:Int):St:={S with L:=jB ⟨f,w,max S.tm (S.old f)⟩ S.L,old:=fun g=>if g=f then 0 else S.old g}
def lC(S:St)(f s:Int):St:=if j3 f S.L=[]then⟨[],fun _=>0,0,S.aw⟩else{S with L:=j3 f S.L,old:=fun g=>if g=f then s else S.old g}
def BL(S:St)(d_:Int):St:=⟨S.L.map (fun t=>⟨t.f,t.w,t.s-d_⟩),fun g=>max (S.old g-d_) 0,S.tm-d_,S.aw+d_⟩
def EI(S:St)(t:Tg)(nx:Int):St:={S with L:=dU ⟨t.f,t.w,nx⟩ S.L,tm:=max S.tm t.s}
def Nu(S:St):Int:=min S.tm (lu S.L).s
def vU(aI:Int)(S:St):St:=if Nu S<aI then S else BL S (Nu S)
def bF(aI:Int)(S:St)(f len:Int):Int×St:=
 match cB S.L f with
 |none=>(6,S)
 |some t=>if(mX t.s len t.w).2≠0 then((mX t.s len t.w).2,S)else(0,vU aI (EI S t (mX t.s len t.w).1))
def gm(S:St)(f:Int):Int×St:=
 match cB S.L f with
 |none=>(6,S)
 |some t=>(0,lC S f t.s)
def vV(S:St)(f w:Int):Int×St:=(gG S f w,if gG S f w=0 then pg S f w else S)
def dD(L:List Tg):Int×Int:=if L=[]then(0,5)else((lu L).f,0)
section
variable{S:St}
theorem qy.start:qy ⟨[],fun _=>0,0,0⟩:=⟨⟨.nil,by simp⟩,fun f=>by simp,by simp⟩
theorem qy.join(h:qy S){f w:Int}(he:gG S f w=0):qy (pg S f w)/\cB S.L f=none/\0<=f/\f<32/\1<=w/\w<=16:=by
 have hb:¬(f<0\/32<=f\/w<1\/16<w):=fun hb=>by unfold gG at he;rw[if_pos hb]at he;cases he
 have hn:cB S.L f=none:=by
  unfold gG at he;rw[if_neg hb]at he;cases hf:cB S.L f with
  |none=>rfl
  |some t=>rw[hf]at he;simp at he
 have h1:=h.tm;have h2:=h.old f;refine⟨⟨h.ok.ins (x:=⟨f,w,max S.tm (S.old f)⟩) ⟨by simp only;omega,by simp only;omega,by simp only;omega,by simp only;omega,by simp only;omega,by simp only;omega⟩ hn,fun g=>?_,h.tm⟩,hn,by omega⟩;show 0<=(if g=f then 0 else S.old g)/\(if g=f then 0 else S.old g)<=_;split
 ·simp
 ·exact h.old g
theorem qy.leave(h:qy S){f:Int}{t:Tg}(ht:cB S.L f=some t):qy (lC S f t.s):=by
 obtain⟨h1,h2⟩:=cK ht;have hr:=h.ok.fZ t h1;unfold lC;split
 ·exact⟨⟨.nil,by simp⟩,fun f=>by simp,by simp⟩
 ·refine⟨h.ok.del f,fun g=>?_,h.tm⟩;show 0<=(if g=f then t.s else S.old g)/\(if g=f then t.s else S.old g)<=_;split
  ·omega
  ·exact h.old g
theorem qy.ch(h:qy S){t:Tg}(ht:t∈S.L){nx:Int}(hn:0<=nx/\nx<=1099511627776):qy (EI S t nx):=by have hr:=h.ok.fZ t ht;have h1:=h.tm;refine⟨h.ok.set (x:=⟨t.f,t.w,nx⟩) ⟨hr.1,hr.2.1,hr.2.2.1,hr.2.2.2.1,hn.1,hn.2⟩,h.old,?_⟩;show 0<=max S.tm t.s/\max S.tm t.s<=_;omega
theorem EJ(h:qy S)(hne:S.L≠[]):0<=Nu S/\Nu S<=S.tm/\∀t∈S.L,Nu S<=t.s:=by have h1:=h.tm;have h2:=h.ok.fZ _ (nJ hne);unfold Nu;refine⟨by omega,by omega,fun t ht=>?_⟩;have:=Um ht;omega
theorem qy.sub(h:qy S){d_:Int}(h0:0<=d_)(h1:d_<=S.tm)(h2:∀t∈S.L,d_<=t.s):qy (BL S d_):=by
 have h3:=h.tm;refine⟨⟨?_,fun t ht=>?_⟩,fun f=>?_,?_⟩
 ·show(S.L.map _).Pairwise _;rw[List.pairwise_map];exact h.ok.yD
 ·obtain⟨u,hu,rfl⟩:=gW.1 ht;have:=h.ok.fZ u hu;have:=h2 u hu;simp only;omega
 ·have:=h.old f;show 0<=max (S.old f-d_) 0/\max (S.old f-d_) 0<=_;omega
 ·show 0<=S.tm-d_/\S.tm-d_<=_;omega
theorem zU{x:Tg}{L:List Tg}(h:L≠[]):dU x L≠[]:=by unfold dU;simpa using h
theorem aa2{s len w:Int}(h:(mX s len w).2=0):(mX s len w).1=s+cst len w/\¬lY len w/\0<=s/\s+cst len w<=1099511627776:=by
 unfold mX at*;split at h
 ·cases h
 ·rename_i h1;split at h
  ·cases h
  ·rename_i h2;rw[if_neg h1,if_neg h2];exact⟨rfl,fun hb=>h1 (.inl hb),by omega,by omega⟩
structure rT(i:Nat)(S:St):Prop where
 ok:qy S
 tm:S.tm<=i*2952069120
 act:∀t∈S.L,S.tm<=t.s/\t.s<=S.tm+2952069120
 old:∀f,S.old f<=S.tm+2952069120
theorem rT.start:rT 0 ⟨[],fun _=>0,0,0⟩:=⟨qy.start,by simp,by simp,fun f=>by simp⟩
theorem rT.pg{i:Nat}(h:rT i S){f w:Int}(he:gG S f w=0):rT i (pg S f w):=by
 have h1:=h.old f;have h2:=h.ok.tm;refine⟨(h.ok.join he).1,h.tm,fun t ht=>?_,fun g=>?_⟩
 ·rcases vI.1 ht with rfl|ht
  ·show S.tm<=max S.tm (S.old f)/\max S.tm (S.old f)<=S.tm+_;omega
  ·exact h.act t ht
 ·show(if g=f then 0 else S.old g)<=S.tm+_;split
  ·omega
  ·exact h.old g
theorem rT.d_{i:Nat}(h:rT i S)(hne:S.L≠[]):Nu S=S.tm:=by have:=h.act _ (nJ hne);unfold Nu;omega
theorem rT.sub{i:Nat}(h:rT i S)(hne:S.L≠[]):rT i (BL S S.tm):=by
 have h1:=EJ h.ok hne;rw[h.d_ hne]at h1;refine⟨h.ok.sub h1.1 h1.2.1 h1.2.2,?_,fun t ht=>?_,fun f=>?_⟩
 ·show S.tm-S.tm<=_;omega
 ·obtain⟨u,hu,rfl⟩:=gW.1 ht;have:=h.act u hu;show S.tm-S.tm<=u.s-S.tm/\u.s-S.tm<=S.tm-S.tm+_;omega
 ·have:=h.old f;show max (S.old f-S.tm) 0<=S.tm-S.tm+_;omega
theorem rT.aI{i:Nat}(h:rT i S)(hne:S.L≠[])(r:Int):rT i (vU r S):=by
 unfold vU;split
 ·exact h
 ·rw[h.d_ hne];exact h.sub hne
theorem rT.ch{i:Nat}(h:rT i S)(hi:i<=300)(hne:S.L≠[]){len:Int}(h1:1<=len)(h2:len<=4096):
  mX (lu S.L).s len (lu S.L).w=((lu S.L).s+cst len (lu S.L).w,0)/\rT (i+1) (EI S (lu S.L) ((lu S.L).s+cst len (lu S.L).w))/\max S.tm (lu S.L).s=(lu S.L).s:=by
 have hm:=nJ hne;have hmin:∀t∈S.L,(lu S.L).s<=t.s:=fun t ht=>Um ht;generalize lu S.L=t at*;have hr:=h.ok.ok.fZ t hm;have ha:=h.act t hm;have ht:=h.tm;obtain⟨c1,c2⟩:=mW hr.2.2.1 hr.2.2.2.1 h1 h2;have hfin:mX t.s len t.w=(t.s+cst len t.w,0):=by unfold mX;rw[if_neg (by unfold lY;omega),if_neg (by omega)]
 have hmx:max S.tm t.s=t.s:=by omega
 refine⟨hfin,⟨h.ok.ch hm (by omega),?_,fun u hu=>?_,fun f=>?_⟩,hmx⟩
 ·show max S.tm t.s<=_;push_cast;omega
 ·show max S.tm t.s<=u.s/\u.s<=max S.tm t.s+_;rw[hmx];rcases Fa hu with rfl|⟨hu,_⟩
  ·simp only;omega
  ·have:=hmin u hu;have:=h.act u hu;omega
 ·have:=h.old f;show S.old f<=max S.tm t.s+_;omega
theorem rT.Rh{i:Nat}(h:rT i S)(hi:i<=300)(hne:S.L≠[]){len:Int}(h1:1<=len)(h2:len<=4096)(r:Int):
  bF r S (lu S.L).f len=(0,vU r (EI S (lu S.L) ((lu S.L).s+cst len (lu S.L).w)))/\rT (i+1) (vU r (EI S (lu S.L) ((lu S.L).s+cst len (lu S.L).w))):=by
 obtain⟨hf,hT,_⟩:=h.ch hi hne h1 h2;refine⟨?_,hT.aI (zU hne) r⟩;unfold bF;rw[vH h.ok.ok (nJ hne)];simp only[hf];rw[if_neg (by simp)]
end
end Go.Proofs.YtfejhikpfhgbeaaGreatDoor
