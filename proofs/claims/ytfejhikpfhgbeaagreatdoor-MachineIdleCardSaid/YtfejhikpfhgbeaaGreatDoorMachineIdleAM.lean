import Derived.Test.YtfejhikpfhgbeaaGreatDoorMachineIdleAL
set_option maxHeartbeats 25600000
set_option maxRecDepth 100000
set_option linter.all false
namespace Go.Proofs.YtfejhikpfhgbeaaGreatDoor
open Go.Proofs.Tryz
open Go.RowKit
open SP
section
variable{md:Int}{c:nK}{s q n:Nat}{k:Int}{ch:vD}{aZ:zG}{L:List Rec}{act:bq}
def TV(k:Int):Rec:=⟨k,5,-1,0,6,-1⟩
inductive Vq(c:nK):Nat->zG->Prop
 |fair (n:Nat):c.mode=1->Vq c n (.fair n sJ)
 |bD (n:Nat):c.mode=2->Vq c n (.bD iJ)
 |timed (n:Nat):c.mode=3->Vq c n (.timed ⟨c.qu,[⟨0,1,c.qu*1,0⟩],false⟩ [(0,nI)])
theorem aaD(n:Nat):fQ n n n sJ:=(fQ.start.wH 0 1).le (Nat.zero_le _) (Nat.zero_le _) (Nat.zero_le _)
theorem TW:MV 0 iJ:=MV.start.wz 0 1 1099511627776 1099511627776
theorem XH(h:c.mode=1\/c.mode=2\/c.mode=3):Vq c 0 (wN (vC c) (En c c.mode) je):=by
 rcases h with h|h|h
 ·rw[h];exact .fair 0 h
 ·rw[h];exact .bD 0 h
 ·rw[h];exact .timed 0 h
theorem aaE(h:fq md c)(h3:c.mode=1\/c.mode=2\/c.mode=3):Z8 (vC c) (En c c.mode) je:=by
 rcases h3 with h3|h3|h3
 ·rw[h3];exact SN fQ.start 0 1
 ·rw[h3];exact trivial
 ·rw[h3];exact⟨by simp,by show(0:Nat)<=100;omega,⟨h.ok.q1,h.ok.q2⟩,nI,rfl,by decide,by decide⟩
theorem agK(hS:Vq c n aZ)(hn:n<=1000):Z7 aZ 0:=by
 cases hS with
 |fair hm=>exact⟨by show(n:Int)<=1000000000000;omega,(show bL ([]:List (Int×(Int×Int)))from List.nodup_nil)⟩
 |bD hm=>exact⟨0,TW⟩
 |timed hm=>exact⟨by unfold bL;simp,by show(1:Nat)<=100;omega,0,nI,rfl,fun j hj=>by
   have:j=0:=by rw[<-hj];rfl
   rw[this]
   exact⟨Int.le_refl 0,by show(0:Nat)<1;omega⟩⟩
theorem Nl(h:fq md c){N:Nat}(hc:ch.Ok N)(hN:N<=1000000000)(hb:eB ch=false)(hn:n<=299)(hL:L.length<=1000):Ld (mI c s q k ch (.fair n sJ) [0] L):=by
 have hH:qO (mI c s q k ch (.fair n sJ) [0] L)=hB:=by rw[XG h,hb];rfl
 have hst:eP c (.fair n sJ) hB=(gu,0,.fair (n+1) sJ):=by unfold eP;dsimp only;rw[Vn]
 have e1:eP (mI c s q k ch (.fair n sJ) [0] L).cfg (mI c s q k ch (.fair n sJ) [0] L).aZ (qO (mI c s q k ch (.fair n sJ) [0] L))=(gu,0,.fair (n+1) sJ):=by rw[hH];exact hst
 refine⟨E5 h hc hN,?_,by rw[e1],?_,by show L.length<=999990;omega,?_⟩
 ·rw[hH];exact⟨aaD n,hn,h.ok.al,Nj.1,by unfold hB;simp⟩
 ·unfold jZ;rw[e1];rfl
 ·intro hc;unfold oO at hc;rw[e1]at hc;exact absurd (show(-1:Int)<0 by decide) hc
theorem aaF(h:fq md c)(hb:eB ch=false){m':aX}{i:Int}{L':bO}(hr:TE (mI c s q k ch (.fair n sJ) [0] L) m' i L'):m'=mI c s q k ch (.fair (n+1) sJ) [0] (L++[TV k])/\i=0/\L'=[]:=by
 have hH:qO (mI c s q k ch (.fair n sJ) [0] L)=hB:=by rw[XG h,hb];rfl
 have e1:eP (mI c s q k ch (.fair n sJ) [0] L).cfg (mI c s q k ch (.fair n sJ) [0] L).aZ (qO (mI c s q k ch (.fair n sJ) [0] L))=(gu,0,.fair (n+1) sJ):=by rw[hH];show eP c (.fair n sJ) hB=_;unfold eP;dsimp only;rw[Vn]
 have e2:oO (mI c s q k ch (.fair n sJ) [0] L)=gu:=by unfold oO;rw[e1]
 have e3:jZ (mI c s q k ch (.fair n sJ) [0] L)=.fair (n+1) sJ:=by unfold jZ;rw[e1]
 obtain⟨h1,h2⟩:ChR (mI c s q k ch (.fair n sJ) [0] L) m' i L':=hr;have e4:uO (mI c s q k ch (.fair n sJ) [0] L)=mI c s q k ch (.fair (n+1) sJ) [0] (L++[TV k]):=by unfold uO;rw[e3,if_neg (by show¬(0:Int)<sJ.R.aw-sJ.R.aw;omega)];unfold tq;rw[e2,e3];rfl
 rcases h2 with⟨_,h2,h3⟩|⟨h2,_⟩
 ·exact⟨h1.trans e4,h2,h3⟩
 ·rw[e2]at h2;exact absurd (by decide) h2
theorem Jw(h:fq md c){N:Nat}(hc:ch.Ok N)(hN:N<=1000000000)(hb:eB ch=false)(hL:L.length<=1000):Ld (mI c s q k ch (.bD iJ) [0] L):=by
 have hH:qO (mI c s q k ch (.bD iJ) [0] L)=hB:=by rw[XG h,hb];rfl
 have e1:eP (mI c s q k ch (.bD iJ) [0] L).cfg (mI c s q k ch (.bD iJ) [0] L).aZ (qO (mI c s q k ch (.bD iJ) [0] L))=(gu,0,.bD iJ):=by rw[hH];show eP c (.bD iJ) hB=_;unfold eP;dsimp only;rw[Vo]
 refine⟨E5 h hc hN,?_,by rw[e1],?_,by show L.length<=999990;omega,?_⟩
 ·rw[hH];exact⟨TW.ok (by omega) c.aI,TU.1,by unfold hB;simp⟩
 ·unfold jZ;rw[e1];rfl
 ·intro hc;unfold oO at hc;rw[e1]at hc;exact absurd (show(-1:Int)<0 by decide) hc
theorem XI(h:fq md c)(hb:eB ch=false){m':aX}{i:Int}{L':bO}(hr:TE (mI c s q k ch (.bD iJ) [0] L) m' i L'):m'=mI c s q k ch (.bD iJ) [0] (L++[TV k])/\i=0/\L'=[]:=by
 have hH:qO (mI c s q k ch (.bD iJ) [0] L)=hB:=by rw[XG h,hb];rfl
 have e1:eP (mI c s q k ch (.bD iJ) [0] L).cfg (mI c s q k ch (.bD iJ) [0] L).aZ (qO (mI c s q k ch (.bD iJ) [0] L))=(gu,0,.bD iJ):=by rw[hH];show eP c (.bD iJ) hB=_;unfold eP;dsimp only;rw[Vo]
 have e2:oO (mI c s q k ch (.bD iJ) [0] L)=gu:=by unfold oO;rw[e1]
 have e3:jZ (mI c s q k ch (.bD iJ) [0] L)=.bD iJ:=by unfold jZ;rw[e1]
 obtain⟨h1,h2⟩:ChR (mI c s q k ch (.bD iJ) [0] L) m' i L':=hr;have e4:uO (mI c s q k ch (.bD iJ) [0] L)=mI c s q k ch (.bD iJ) [0] (L++[TV k]):=by unfold uO;rw[e3,if_neg (by show¬(0:Int)<iJ.R.aw-iJ.R.aw;omega)];unfold tq;rw[e2,e3];rfl
 rcases h2 with⟨_,h2,h3⟩|⟨h2,_⟩
 ·exact⟨h1.trans e4,h2,h3⟩
 ·rw[e2]at h2;exact absurd (by decide) h2
theorem aaG(h:fq md c):vw (mI c s q k ch aZ act L) 0=[(1,-1)]:=by have hw:=h.ok.w1;have e:vw (mI c s q k ch aZ act L) 0=([]++QU ((iI [1]).take (c.win-((0:Int)-0+65536)%65536).toNat)).take 32:=rfl;have e2:([1]:bq).take (c.win-((0:Int)-0+65536)%65536).toNat=[1]:=List.take_of_length_le (by show(1:Nat)<=_;omega);rw[e,Lf,e2];rfl
theorem adu{i:Nat}(hi:1<=i):vw (mI c s q k ch aZ act L) i=[]:=by unfold vw;rw[show(mI c s q k ch aZ act L).S[i]?=none from QY (by show(1:Nat)<=i;exact hi)]
theorem aaH(h:fq md c):lT (mI c s q k ch aZ act L) 0=(1,234):=by
 have h1:=h.ok.cp.p1;have h2:=h.p2;have h3:=h.p3;have hr:QA (mI c s q k ch aZ act L) 0=(6000,100):=by show(c.bQ[0]?).getD (0,0)=(6000,100);rw[h.rt];rfl
 have hl:dZ (mI c s q k ch aZ act L) (vw (mI c s q k ch aZ act L) 0)=[100]:=by rw[aaG h];rfl
 have hf:Lv c.caps (6000,100) ([100].take (0+1))=true:=by show Lv c.caps (6000,100) [100]=true;unfold Lv;rw[show j5 [100]=100 from rfl,show qo (6000,100) 100=234 from rfl];simp only[Bt,xM];omega
 unfold lT;rw[hr,hl];show Lx c.caps (6000,100) [100] 1 0 0=(1,234);unfold Lx;rw[if_pos (by show(0:Int)<c.caps.1;omega),if_pos hf];rfl
theorem acg{i:Nat}(hi:1<=i):zq (mI c s q k ch aZ act L) i=false:=by unfold zq;rw[show(mI c s q k ch aZ act L).S[i]?=none from QY (by show(1:Nat)<=i;exact hi)]
theorem aaI(h:fq md c){N:Nat}{O:List lS}(hc:ch.Ok N)(hN:N<=1000000000)(hO:Gi c.qu O)(hl:O.length<=100)(hL:L.length<=1000):U7 (mI c s q k ch (.timed ⟨c.qu,O,false⟩ [(0,nI)]) [0] L) c.qu O [(0,nI)]:=by
 have hw:=h.ok.w1;have hw2:=h.ok.w2;refine⟨rfl,hO,hl,?_,?_,?_,by show(1:Nat)<=1000000;omega,?_,h.ok.cp,iO h,?_,by show(1:Nat)<=16;omega,by show L.length<=999999;omega,?_⟩
 ·intro i st hs
  match i,hs with
  |0,hs=>
   injection hs with hs;subst hs;refine⟨rfl,EZ h,⟨by show(0:Int)<=0;omega,by show(0:Int)<65536;omega⟩,⟨hw,hw2⟩,by show((0:Int)-0+65536)%65536<=c.win;omega,fun x hx=>(by cases hx),iO h,?_⟩;intro f hf;have:f=je:=by simpa using(show f∈[je]from hf)
   rw[this];exact⟨0,_,rfl,rfl,by show(1:Nat)<=1000;omega⟩
  |i+1,hs=>exact absurd hs (by simp[mI])
 ·intro i st hs
  match i,hs with
  |0,hs=>injection hs with hs;subst hs;exact⟨N,hc,hN⟩
  |i+1,hs=>exact absurd hs (by simp[mI])
 ·intro i x hx
  match i,hx with
  |0,hx=>rw[aaG h]at hx;rw[List.mem_singleton.1 hx];exact⟨by decide,by show(1:Int)<=1;omega⟩
  |i+1,hx=>rw[adu (by omega)]at hx;cases hx
 ·intro i x hx
  match i,hx with
  |0,hx=>rw[aaG h]at hx;rw[show x=100 by simpa[dZ,wO,mI,Vm]using hx];exact⟨by decide,by decide⟩
  |i+1,hx=>rw[adu (by omega)]at hx;cases hx
 ·intro i st hs
  match i,hs with
  |0,hs=>exact⟨0,nI,(6000,100),rfl,rfl,by show c.bQ[0]?=_;rw[h.rt];rfl,⟨by decide,by decide,by decide,by decide⟩⟩
  |i+1,hs=>exact absurd hs (by simp[mI])
 ·intro i hi
  match i,hi with
  |0,hi=>rw[aaH h];exact⟨by decide,by decide⟩
  |i+1,hi=>rw[acg (by omega)]at hi;cases hi
theorem aaJ(hb:eB ch=false):dm (mI c s q k ch aZ act L) 1=[]:=by
 unfold dm;rw[show List.range 1=[0]from rfl,List.filter_cons,if_neg]
 ·rfl
 ·rw[show zq (mI c s q k ch aZ act L) 0=(!(vw (mI c s q k ch aZ act L) 0).isEmpty&&eB ch&&decide (0<(lT (mI c s q k ch aZ act L) 0).1))from rfl,hb];simp
theorem XJ(hb:eB ch=false){O:List lS}{m':aX}{i:Int}{L':bO}(hr:TE (mI c s q k ch (.timed ⟨c.qu,O,false⟩ [(0,nI)]) [0] L) m' i L'):m'=mI c s q k ch (.timed ⟨c.qu,O,false⟩ [(0,nI)]) [0] (L++[TV k])/\i=0/\L'=[]:=by
 have h1:TnR (mI c s q k ch (.timed ⟨c.qu,O,false⟩ [(0,nI)]) [0] L) c.qu O [(0,nI)] m' i L':=hr;have hr0:dm (mI c s q k ch (.timed ⟨c.qu,O,false⟩ [(0,nI)]) [0] L) (mI c s q k ch (.timed ⟨c.qu,O,false⟩ [(0,nI)]) [0] L).S.length=[]:=aaJ hb;unfold TnR at h1;rw[hr0]at h1;rcases h1 with⟨h1,_⟩|⟨_,h2,h3,h4⟩
 ·cases h1
 ·exact⟨h4,h2,h3⟩
theorem Lg(h:fq md c):Gi c.qu [⟨0,1,c.qu*1,0⟩]:=by have h1:=h.ok.q1;have h2:=h.ok.q2;refine⟨h1,h2,?_,by simp⟩;intro d hd;rw[List.mem_singleton.1 hd];exact⟨by show(0:Int)<=0/\(0:Int)<16;omega,by show(1:Int)<=1/\(1:Int)<=16;omega,by show-2097152<=c.qu*1/\c.qu*1<=33554432;omega⟩
theorem aaK(h:fq md c)(hS:Vq c n aZ)(hn:n<=299){N:Nat}(hc:ch.Ok N)(hN:N<=1000000000)(hb:eB ch=false)(hL:L.length<=1000):D5 (mI c s q k ch aZ [0] L):=by
 cases hS with
 |fair hm=>exact Nl h hc hN hb hn hL
 |bD hm=>exact Jw h hc hN hb hL
 |timed hm=>exact aaI h hc hN (Lg h) (by show(1:Nat)<=100;omega) hL
theorem ach(h:fq md c)(hS:Vq c n aZ)(hb:eB ch=false){m':aX}{i:Int}{L':bO}(hr:TE (mI c s q k ch aZ [0] L) m' i L'):∃mP,Vq c (n+1) mP/\m'=mI c s q k ch mP [0] (L++[TV k])/\i=0/\L'=[]:=by
 cases hS with
 |fair hm=>exact⟨_,.fair (n+1) hm,aaF h hb hr⟩
 |bD hm=>exact⟨_,.bD (n+1) hm,XI h hb hr⟩
 |timed hm=>exact⟨_,.timed (n+1) hm,XJ hb hr⟩
end
section
variable{md:Int}{c:nK}{s q n:Nat}{k:Int}{ch:vD}{aZ:zG}{L:List Rec}{act:bq}{g:Bool}
theorem ah0:aam [g] (mI c s q k ch aZ act L)=mI c s q (k+1) (zS ch g) aZ act L:=rfl
theorem ah1:Xy [g] (mI c s q k ch aZ act L)=mI c s q k (BJ ch g) aZ act L:=rfl
theorem QN(hk:ch.kd=2)(g:Bool):eB (BJ ch g)=g:=by unfold eB BJ;dsimp only;rw[if_neg (by rw[hk];decide),if_pos ⟨hk,rfl⟩]
inductive WaS(c:nK):Nat->zG->bq->Prop
 |no (h:c.mode=1\/c.mode=2\/c.mode=3):WaS c 0 (En c c.mode) []
 |yes (n:Nat) (aZ:zG) (h:Vq c n aZ):WaS c n aZ [0]
theorem Iq(h:fq md c)(hW:WaS c n aZ act)(hL:L.length<=900)(hn:n<=299):Qp (mI c s q k ch aZ act L)/\∃mP L',Vq c n mP/\dK (mI c s q k ch aZ act L)=mI c s q k ch mP [0] L'/\L'.length<=L.length+1:=by
 cases hW with
 |no h3=>exact⟨mbA h (by omega) (aaE h h3),_,_,XH h3,agI,by rw[jf];exact Nat.le_refl _⟩
 |yes _ _ hS=>exact⟨mbB h (by omega) (agK hS (by omega)),_,_,hS,mem1,Nat.le_succ _⟩
theorem XK(h:fq md c)(hW:WaS c n aZ act)(hL:L.length<=900)(hn:n<=299){N:Nat}(hc:ch.Ok N)(hN:N<=1000000)(hb:eB ch=false)(hk:0<=k/\k<=1000):
  Ve [g] (mI c s q k ch aZ act L)/\∀v m',SlR [g] (mI c s q k ch aZ act L) v m'->v=0/\∃mP L',Vq c (n+1) mP/\m'=mI c s q (k+1) (zS ch g) mP [0] L'/\L'.length<=L.length+2:=by
 obtain⟨hm,XL,L1,hS,he,hl⟩:=Iq (s:=s) (q:=q) (k:=k) (ch:=ch) h hW hL hn;have hx:dK (uP (mI c s q k ch aZ act L))=mI c s q k ch XL [0] L1:=by rw[EY];exact he
 have X4:∀Nn L2,Vd [g] (mI c s q k ch Nn [0] L2):=fun Nn L2=>⟨rfl,fun i st hs=>by
  match i,hs with
  |0,hs=>injection hs with hs;subst hs;exact⟨N,hc,by omega⟩
  |i+1,hs=>exact absurd hs (by simp[mI]),by show(0:Int)<=0/\(0:Int)<=1000000;omega,by show 0<=k/\k<=1000000;omega⟩
 have hdc:∀{m3:aX}{i:Int}{L':bO},TE (mI c s q k ch XL [0] L1) m3 i L'->∃mP,Vq c (n+1) mP/\m3=mI c s q k ch mP [0] (L1++[TV k])/\i=0/\L'=[]:=fun hr=>ach h hS hb hr;have hne:(mI c s q k ch XL [0] L1).act≠[]:=by show([0]:bq)≠[];simp
 constructor
 ·refine⟨iO h,rfl,by show k≠16384;omega,exA h,by rw[EY];exact hm,by rw[hx];show(1:Nat)<=1000;omega,fun hc=>absurd hc (by rw[hx];exact hne),fun _=>by rw[hx];exact aaK h hS hn hc (by omega) hb (by omega),?_⟩;intro _ m3 i L' hr;rw[hx]at hr;obtain⟨Nn,hS2,rfl,rfl,rfl⟩:=hdc hr;refine⟨by show(0:Nat)<=1000;omega,fun hc=>absurd rfl hc,fun m4 h4=>?_⟩;unfold yA at h4;rw[if_pos rfl]at h4;rw[h4];exact X4 _ _
 ·intro v m' hr;unfold SlR at hr;rw[hx]at hr;rcases hr with⟨h1,_⟩|⟨_,m3,m4,i,L',hr,h4,h5,h6⟩
  ·exact absurd h1 hne
  ·obtain⟨Nn,hS2,rfl,rfl,rfl⟩:=hdc hr;unfold yA at h4;rw[if_pos rfl]at h4;rw[h4,ah0]at h6;exact⟨h5,Nn,_,hS2,h6,by rw[jf];show L1.length+1<=_;omega⟩
def Jy(k:Int):Rec:=⟨k,5,0,0,1,0⟩
def Jz(k:Int):Rec:=⟨k,3,0,1,0,1⟩
def Np(k:Int):Rec:=⟨k,4,0,1,0,0⟩
def mS(c:nK)(s q:Nat)(k:Int)(ch:vD)(aZ:zG)(L:List Rec)(sd:sH)(rv:jw)(nx IB:Int)(P:List iA)(jy:vE):aX:=
 ⟨c,c.mode,k,0,false,0,vC c,[ruA],[⟨64,262144,P⟩],[⟨ch,sd,rv,nx,IB⟩],jy,[Vm],aZ,[0],L,[s],[q]⟩
def EC:vE:=I_ aaA 1
def Bg:vE:=Pz EC 1
theorem sA:wP 0 1 (mI c s q k ch aZ [0] L) [(1,-1)]=(mS c s q k ch aZ L ⟨c.win,c.tries,1,[⟨0,1,0⟩]⟩ ⟨c.win,0,[]⟩ 1 0 [] EC,[(1,0)]):=rfl
theorem sB:([(1,0)]:bO).foldl (vv 0) (mS c s q k ch aZ L ⟨c.win,c.tries,1,[⟨0,1,0⟩]⟩ ⟨c.win,0,[]⟩ 1 0 [] EC)=mS c s q k ch aZ (L++[Jz k]) ⟨c.win,c.tries,1,[⟨0,1,1⟩]⟩ ⟨c.win,0,[]⟩ 1 0 [] EC:=rfl
theorem sC(h:fq md c):Jo 0 (mS c s q k ch aZ L ⟨c.win,c.tries,1,[⟨0,1,1⟩]⟩ ⟨c.win,0,[]⟩ 1 0 [] EC) [(1,0)]=mS c s q k ch aZ L ⟨c.win,c.tries,1,[⟨0,1,1⟩]⟩ ⟨c.win,0,[]⟩ 1 234 [] EC:=by
 have hr:A8 (mS c s q k ch aZ L ⟨c.win,c.tries,1,[⟨0,1,1⟩]⟩ ⟨c.win,0,[]⟩ 1 0 [] EC) 0=(6000,100):=by show(c.bQ[0]?).getD (0,0)=(6000,100);rw[h.rt];rfl
 have e:Jo 0 (mS c s q k ch aZ L ⟨c.win,c.tries,1,[⟨0,1,1⟩]⟩ ⟨c.win,0,[]⟩ 1 0 [] EC) [(1,0)]=mS c s q k ch aZ L ⟨c.win,c.tries,1,[⟨0,1,1⟩]⟩ ⟨c.win,0,[]⟩ 1 (0+qo (A8 (mS c s q k ch aZ L ⟨c.win,c.tries,1,[⟨0,1,1⟩]⟩ ⟨c.win,0,[]⟩ 1 0 [] EC) 0) (j5 [100])) [] EC:=rfl;rw[e,hr];rfl
theorem sD:([(1,0)]:bO).foldl (Cw 0) (mS c s q k ch aZ L ⟨c.win,c.tries,1,[⟨0,1,1⟩]⟩ ⟨c.win,0,[]⟩ 1 234 [] EC)=mS c s q k ch aZ (L++[Np k]) ⟨c.win,c.tries,1,[⟨0,1,1⟩]⟩ ⟨c.win,1,[]⟩ 1 234 [] Bg:=rfl
theorem sE:aad 0 (mS c s q k ch aZ L ⟨c.win,c.tries,1,[⟨0,1,1⟩]⟩ ⟨c.win,1,[]⟩ 1 234 [] Bg)=mS c s q k ch aZ L ⟨c.win,c.tries,1,[]⟩ ⟨c.win,1,[]⟩ 1 234 [] Bg:=rfl
theorem sF:tlM 0 (mS c s q k ch aZ L ⟨c.win,c.tries,1,[]⟩ ⟨c.win,1,[]⟩ 1 234 [] Bg)=mS c s q k ch aZ L ⟨c.win,c.tries,1,[]⟩ ⟨c.win,1,[]⟩ 1 234 [] Bg:=rfl
theorem Vr:lstate Bg 1=3:=rfl
theorem aci:lstate aaA 1=1:=rfl
theorem sGC(h:fq md c):pG 0 1 true (mI c s q k ch aZ [0] L) [(1,-1)]=mS c s q k ch aZ (L++[Jz k]++[Np k]) ⟨c.win,c.tries,1,[]⟩ ⟨c.win,1,[]⟩ 1 234 [] Bg:=by unfold pG U3;rw[if_pos rfl,sA];dsimp only;rw[sB,sC h,sD,sE]
theorem sGD(h:fq md c):KU 0 1 true (mI c s q k ch aZ [0] L) [(1,-1)]=mS c s q k ch aZ (L++[Jz k]++[Np k]) ⟨c.win,c.tries,1,[]⟩ ⟨c.win,1,[]⟩ 1 234 [] Bg:=by unfold KU;rw[sGC h];rfl
theorem sGM(h:fq md c):DY 0 1 true (mI c s q k ch aZ [0] L) [(1,-1)]=mS c s q k ch aZ (L++[Jz k]++[Np k]) ⟨c.win,c.tries,1,[]⟩ ⟨c.win,1,[]⟩ 1 234 [] Bg:=by unfold DY;rw[sGD h,sF]
theorem Nq{α:Type}{x y:α}{i:Nat}(h:[x][i]?=some y):i=0/\y=x:=by
 match i,h with
 |0,h=>injection h with h;exact⟨rfl,h.symm⟩
 |i+1,h=>exact absurd h (by simp)
theorem sq0:fK 0:=⟨by omega,by omega⟩
theorem sq1:fK 1:=⟨by omega,by omega⟩
theorem Vs:EC.Ok 1:=abk Nk 1
theorem Nr:Bg.Ok 2:=UI Vs 1
theorem TY(h:fq md c)(t:Int)(ht:0<=t/\t<=1):(⟨c.win,c.tries,1,[⟨0,1,t⟩]⟩:sH).Ok:=by
 have h1:=h.ok.t1;have h2:=h.ok.t2;refine⟨h.ok.w1,h.ok.w2,h1,h2,sq1,fun p hp=>?_,fun p hp=>?_,by show(1:Nat)<=64;omega⟩
 ·rw[List.mem_singleton.1 hp];exact sq0
 ·rw[List.mem_singleton.1 hp];exact⟨ht.1,by show t<=c.tries;omega⟩
theorem aaL(h:fq md c):(⟨c.win,c.tries,1,[]⟩:sH).Ok:=⟨h.ok.w1,h.ok.w2,h.ok.t1,h.ok.t2,sq1,fun p hp=>(by cases hp),fun p hp=>(by cases hp),by show(0:Nat)<=64;omega⟩
theorem aaM(h:fq md c)(e:Int)(he:fK e):(⟨c.win,e,[]⟩:jw).Ok:=⟨h.ok.w1,h.ok.w2,he,List.nodup_nil,fun p hp=>(by cases hp)⟩
theorem aaN(h:fq md c)(hL:L.length<=1000):Vb (mI c s q k ch aZ [0] L) 0 [(1,-1)] true:=by
 have hw:=h.ok.w1;have ht:=h.ok.t1;refine⟨by show(1:Nat)<=32;omega,⟨_,rfl⟩,?_,?_,?_,?_,?_,?_,?_,?_⟩
 ·intro i m' L' x hi he hx;have hi0:i=0:=by have:i<1:=hi;omega
  subst hi0;injection he with he1 he2;rw[<-he2]at hx;rw[<-he1,(Nq hx).2];exact⟨fun _=>⟨0,0,1,Vm,Vm,_,_,[],rfl,rfl,rfl,rfl,rfl,rfl,by show(1:Nat)<=100000;omega,by show(0:Int)<=0/\(0:Int)<=1000000000;omega,EZ h,adt h,Nk,by omega⟩⟩
 ·intro i m1 L1 x hi he hx;have hi0:i=0:=by have:i<1:=hi;omega
  subst hi0;have h1:=sA (c:=c) (s:=s) (q:=q) (k:=k) (ch:=ch) (aZ:=aZ) (L:=L);unfold wP at h1;rw[show([((1:Int),(-1:Int))]).length=1 from rfl,h1]at he;injection he with he1 he2;rw[<-he2]at hx;rw[<-he1,<-he2,(Nq hx).2];exact⟨⟨_,0,⟨0,1,0⟩,0,Vm,rfl,TY h 0 (by omega),rfl,rfl,by show(0:Int)<c.tries;omega,rfl,rfl,by omega⟩,by show L.length<=1000000;omega⟩
 ·intro m1 L1 he;have h1:=sA (c:=c) (s:=s) (q:=q) (k:=k) (ch:=ch) (aZ:=aZ) (L:=L);unfold wP at h1;rw[show([((1:Int),(-1:Int))]).length=1 from rfl,h1]at he;injection he with he1 he2;rw[<-he1,<-he2,sB];refine⟨fun x hx=>?_,by show(1:Nat)<=1000000;omega,fun x hx=>?_,by simp,iO h,⟨_,nI,0,(6000,100),rfl,rfl,rfl,by show c.bQ[0]?=_;rw[h.rt];rfl,⟨by decide,by decide,by decide,by decide⟩,by show(0:Int)<=0;omega,by show(0:Int)<=4000000000000000000;omega⟩⟩
  ·rw[List.mem_singleton.1 hx];exact⟨by show(1:Int)<=1;omega,by show(1:Int)<=1;omega⟩
  ·rw[show x=100 by simpa[dZ,wO,mS,Vm]using hx];exact⟨by decide,by decide⟩
 ·intro _ i m1 L1 x hi he hx;have hi0:i=0:=by have:i<1:=hi;omega
  subst hi0;have h1:=sA (c:=c) (s:=s) (q:=q) (k:=k) (ch:=ch) (aZ:=aZ) (L:=L);unfold wP at h1;rw[show([((1:Int),(-1:Int))]).length=1 from rfl,h1]at he;injection he with he1 he2;rw[<-he2]at hx;rw[<-he1,<-he2,(Nq hx).2,sB,sC h];refine⟨⟨_,1,rfl,TY h 1 (by omega),aaM h 0 sq0,sq0,rfl,?_,fun y hy=>?_,Vs,by omega⟩,by show(1:Int)<=1;omega,by show(1:Nat)<=1000000;omega,by show(L++[Jz k]).length<=800000;rw[jf];show L.length+1<=_;omega⟩
  ·exact bz (by show((0:Int)-0+65536)%65536<c.win;omega)
  ·have:y=1:=by simpa using(show y∈[(1:Int)]from hy)
   rw[this];exact⟨by omega,by show(1:Int)<=1;omega⟩
 ·intro _ m1 L1 he;have h1:=sA (c:=c) (s:=s) (q:=q) (k:=k) (ch:=ch) (aZ:=aZ) (L:=L);unfold wP at h1;rw[show([((1:Int),(-1:Int))]).length=1 from rfl,h1]at he;injection he with he1 he2;rw[<-he1,<-he2,sB,sC h,sD];exact⟨fun _=>⟨_,rfl,TY h 1 (by omega),aaM h 1 sq1,by show(0:Nat)<18446744073709551616;omega,by show((1:Int)-0+65536)%65536<32768;omega,by show((1:Int)-0+65536)%65536<=((1:Int)-0+65536)%65536;omega⟩⟩
 ·rw[show([((1:Int),(-1:Int))]).length=1 from rfl,sGC h];exact⟨_,rfl,aaL h⟩
 ·intro i x hx;rw[show([((1:Int),(-1:Int))]).length=1 from rfl,sGC h]at hx;exact absurd hx (by simp[M3,El,mS])
 ·rw[show([((1:Int),(-1:Int))]).length=1 from rfl,sGD h];refine⟨⟨_,2,rfl,aaL h,aaM h 1 sq1,rfl,fun y hy=>(by cases hy),Nr,by omega⟩,by show(1:Nat)<=1000000;omega,?_⟩;show(L++[Jz k]++[Np k]).length<=800000;rw[jf,jf];show L.length+1+1<=_;omega
theorem acj(aI:Int)(h:1<=aI):∃s',pz aI iJ hG=(⟨0,0,1⟩,0,s')/\s'.R.aw=0:=by
 have hc:bF aI iJ.R 0 100=(0,EI iJ.R ⟨0,1,0⟩ 72072000):=by unfold bF;rw[show cB iJ.R.L 0=some ⟨0,1,0⟩from rfl];dsimp only;rw[if_neg (by decide)];unfold vU;rw[show(mX 0 100 1).1=72072000 from rfl,show Nu (EI iJ.R ⟨0,1,0⟩ 72072000)=0 from rfl,if_pos (by omega)]
 have hp:Aw (Y3 iJ.m hG) (uB (Eh iJ.m) iJ.R.L) (uB (·.s) iJ.R.L)=some (⟨0,1,0⟩,⟨0,1,0⟩):=rfl;refine⟨⟨EI iJ.R ⟨0,1,0⟩ 72072000,iJ.m⟩,?_,rfl⟩;unfold pz;rw[if_neg (by rw[TU.2];decide),if_neg (by intro h;cases h),hp];dsimp only;rw[show(bC hG 0).len=100 from rfl,hc];rfl
theorem XM(h:fq md c){N:Nat}(hc:ch.Ok N)(hN:N<=1000000000)(hb:eB ch=true)(hn:n<=299)(hL:L.length<=1000):D5 (mI c s q k ch (.fair n sJ) [0] L)/\
  ∀{m':aX}{i:Int}{L':bO},TE (mI c s q k ch (.fair n sJ) [0] L) m' i L'->∃mP,m'=mI c s q k ch mP [0] (L++[Jy k])/\i=0/\L'=[(1,-1)]:=by
 obtain⟨s2,hs2,haw⟩:=acd (c.nu:Int) (c.de:Int) c.aI h.ok.r1;have hH:qO (mI c s q k ch (.fair n sJ) [0] L)=hG:=by rw[XG h,hb];rfl
 have e1:eP (mI c s q k ch (.fair n sJ) [0] L).cfg (mI c s q k ch (.fair n sJ) [0] L).aZ (qO (mI c s q k ch (.fair n sJ) [0] L))=(⟨0,0,1⟩,0,.fair (n+1) s2):=by rw[hH];show eP c (.fair n sJ) hG=_;unfold eP;dsimp only;rw[hs2]
 have e2:oO (mI c s q k ch (.fair n sJ) [0] L)=⟨0,0,1⟩:=by unfold oO;rw[e1]
 have e3:jZ (mI c s q k ch (.fair n sJ) [0] L)=.fair (n+1) s2:=by unfold jZ;rw[e1]
 have e5:jU (.fair (n+1) s2)-jU (mI c s q k ch (.fair n sJ) [0] L).aZ=0:=by show s2.R.aw-sJ.R.aw=0;rw[haw];rfl
 have e4:uO (mI c s q k ch (.fair n sJ) [0] L)=mI c s q k ch (.fair (n+1) s2) [0] (L++[Jy k]):=by unfold uO;rw[e3,e5,if_neg (by decide)];unfold tq;rw[e2,e3];rfl
 constructor
 ·refine(⟨E5 h hc hN,?_,by rw[e1],?_,by show L.length<=999990;omega,?_⟩:Ld _)
  ·rw[hH];exact⟨aaD n,hn,h.ok.al,Nj.2,by unfold hG;simp⟩
  ·rw[e3,e5];rfl
  ·intro _;rw[e2];exact⟨je,rfl,fiA h hc hN⟩
 ·intro m' i L' hr;obtain⟨h1,h2⟩:ChR (mI c s q k ch (.fair n sJ) [0] L) m' i L':=hr;rw[e4]at h1;rw[e2]at h2;rcases h2 with⟨h2,_⟩|⟨_,f,hf,h3,h4⟩
  ·exact absurd h2 (by decide)
  ·have:f=je:=by have h5:some je=some f:=hf;injection h5 with h5;exact h5.symm
   subst this;rw[acf h]at h4;exact⟨_,h1,h3,h4⟩
theorem TZ(h:fq md c){N:Nat}(hc:ch.Ok N)(hN:N<=1000000000)(hb:eB ch=true)(hL:L.length<=1000):D5 (mI c s q k ch (.bD iJ) [0] L)/\
  ∀{m':aX}{i:Int}{L':bO},TE (mI c s q k ch (.bD iJ) [0] L) m' i L'->∃mP,m'=mI c s q k ch mP [0] (L++[Jy k])/\i=0/\L'=[(1,-1)]:=by
 obtain⟨s2,hs2,haw⟩:=acj c.aI h.ok.r1;have hH:qO (mI c s q k ch (.bD iJ) [0] L)=hG:=by rw[XG h,hb];rfl
 have e1:eP (mI c s q k ch (.bD iJ) [0] L).cfg (mI c s q k ch (.bD iJ) [0] L).aZ (qO (mI c s q k ch (.bD iJ) [0] L))=(⟨0,0,1⟩,0,.bD s2):=by rw[hH];show eP c (.bD iJ) hG=_;unfold eP;dsimp only;rw[hs2]
 have e2:oO (mI c s q k ch (.bD iJ) [0] L)=⟨0,0,1⟩:=by unfold oO;rw[e1]
 have e3:jZ (mI c s q k ch (.bD iJ) [0] L)=.bD s2:=by unfold jZ;rw[e1]
 have e5:jU (.bD s2)-jU (mI c s q k ch (.bD iJ) [0] L).aZ=0:=by show s2.R.aw-iJ.R.aw=0;rw[haw];rfl
 have e4:uO (mI c s q k ch (.bD iJ) [0] L)=mI c s q k ch (.bD s2) [0] (L++[Jy k]):=by unfold uO;rw[e3,e5,if_neg (by decide)];unfold tq;rw[e2,e3];rfl
 constructor
 ·refine(⟨E5 h hc hN,?_,by rw[e1],?_,by show L.length<=999990;omega,?_⟩:Ld _)
  ·rw[hH];exact⟨TW.ok (by omega) c.aI,TU.2,by unfold hG;simp⟩
  ·rw[e3,e5];rfl
  ·intro _;rw[e2];exact⟨je,rfl,fiA h hc hN⟩
 ·intro m' i L' hr;obtain⟨h1,h2⟩:ChR (mI c s q k ch (.bD iJ) [0] L) m' i L':=hr;rw[e4]at h1;rw[e2]at h2;rcases h2 with⟨h2,_⟩|⟨_,f,hf,h3,h4⟩
  ·exact absurd h2 (by decide)
  ·have:f=je:=by have h5:some je=some f:=hf;injection h5 with h5;exact h5.symm
   subst this;rw[acf h]at h4;exact⟨_,h1,h3,h4⟩
theorem XN(h:fq md c)(hb:eB ch=true):dm (mI c s q k ch aZ act L) 1=[0]:=by
 unfold dm;rw[show List.range 1=[0]from rfl,List.filter_cons,if_pos]
 ·rfl
 ·rw[show zq (mI c s q k ch aZ act L) 0=(!(vw (mI c s q k ch aZ act L) 0).isEmpty&&eB ch&&decide (0<(lT (mI c s q k ch aZ act L) 0).1))from rfl,hb,aaG h,aaH h];rfl
theorem agL(h:fq md c):iY (mI c s q k ch aZ act L) 0=[(1,-1)]:=by unfold iY;rw[aaG h,aaH h];rfl
theorem T9(h:fq md c){N:Nat}(hc:ch.Ok N)(hN:N<=1000000000)(hb:eB ch=true)(hL:L.length<=1000):D5 (mI c s q k ch (.timed ⟨c.qu,[⟨0,1,c.qu*1,0⟩],false⟩ [(0,nI)]) [0] L)/\
  ∀{m':aX}{i:Int}{L':bO},TE (mI c s q k ch (.timed ⟨c.qu,[⟨0,1,c.qu*1,0⟩],false⟩ [(0,nI)]) [0] L) m' i L'->∃mP,m'=mI c s q k ch mP [0] (L++[Jy k])/\i=0/\L'=[(1,-1)]:=by
 refine⟨aaI h hc hN (Lg h) (by show(1:Nat)<=100;omega) hL,?_⟩;intro m' i L' hr;have h1:TnR (mI c s q k ch (.timed ⟨c.qu,[⟨0,1,c.qu*1,0⟩],false⟩ [(0,nI)]) [0] L) c.qu [⟨0,1,c.qu*1,0⟩] [(0,nI)] m' i L':=hr;have hr0:dm (mI c s q k ch (.timed ⟨c.qu,[⟨0,1,c.qu*1,0⟩],false⟩ [(0,nI)]) [0] L) (mI c s q k ch (.timed ⟨c.qu,[⟨0,1,c.qu*1,0⟩],false⟩ [(0,nI)]) [0] L).S.length=[0]:=XN h hb;unfold TnR at h1;rw[hr0]at h1;rcases h1 with⟨_,O',j,_,hj,h2,h3,h4⟩|⟨h1,_⟩
 ·have hj0:j=0:=by simpa using hj
  subst hj0;rw[agL h]at h3 h4;exact⟨_,h4,h2,h3⟩
 ·exact absurd h1 (by show¬((Bn [⟨0,1,c.qu*1,0⟩] 0||false)=false);rw[show Bn [⟨0,1,c.qu*1,0⟩] 0=true from rfl];decide)
theorem ack(h:fq md c)(hS:Vq c n aZ)(hn:n<=299){N:Nat}(hc:ch.Ok N)(hN:N<=1000000000)(hb:eB ch=true)(hL:L.length<=1000):D5 (mI c s q k ch aZ [0] L)/\
  ∀{m':aX}{i:Int}{L':bO},TE (mI c s q k ch aZ [0] L) m' i L'->∃mP,m'=mI c s q k ch mP [0] (L++[Jy k])/\i=0/\L'=[(1,-1)]:=by
 cases hS with
 |fair hm=>exact XM h hc hN hb hn hL
 |bD hm=>exact TZ h hc hN hb hL
 |timed hm=>exact T9 h hc hN hb hL
theorem XO(h:fq md c)(hW:WaS c n aZ act)(hL:L.length<=900)(hn:n<=299){N:Nat}(hc:ch.Ok N)(hN:N<=1000000)(hb:eB ch=true)(hk:0<=k/\k<=1000):
  Ve [true] (mI c s q k ch aZ act L)/\∀v m',SlR [true] (mI c s q k ch aZ act L) v m'->v=1/\m'.jy=Bg/\(act=[]->m'.log=L++[aaC k]++[Jy k]++[Jz k]++[Np k]):=by
 obtain⟨hm,XL,L1,hS,he,hl⟩:=Iq (s:=s) (q:=q) (k:=k) (ch:=ch) h hW hL hn;have hx:dK (uP (mI c s q k ch aZ act L))=mI c s q k ch XL [0] L1:=by rw[EY];exact he
 obtain⟨hpre,hdc⟩:=ack (s:=s) (q:=q) (k:=k) (L:=L1) h hS hn hc (by omega) hb (by omega);have T_:act=[]->L1=L++[aaC k]:=by intro ha;subst ha;rw[agI]at he;exact(congrArg aX.log he).symm
 have hne:(mI c s q k ch XL [0] L1).act≠[]:=by show([0]:bq)≠[];simp
 constructor
 ·refine⟨iO h,rfl,by show k≠16384;omega,exA h,by rw[EY];exact hm,by rw[hx];show(1:Nat)<=1000;omega,fun hc=>absurd hc (by rw[hx];exact hne),fun _=>by rw[hx];exact hpre,?_⟩;intro _ m3 i L' hr;rw[hx]at hr;obtain⟨Nn,rfl,rfl,rfl⟩:=hdc hr;refine⟨by show(1:Nat)<=1000;omega,fun _=>⟨0,rfl,by show(0:Nat)<1;omega,aaN h (by rw[jf];show L1.length+1<=_;omega)⟩,fun m4 h4=>?_⟩;unfold yA at h4;rw[if_neg (by simp)]at h4;have h5:m4=mS c s q k ch Nn (L1++[Jy k]++[Jz k]++[Np k]) ⟨c.win,c.tries,1,[]⟩ ⟨c.win,1,[]⟩ 1 234 [] Bg:=h4.trans (sGM h);rw[h5]
  exact⟨rfl,fun i st hs=>by
   match i,hs with
   |0,hs=>injection hs with hs;subst hs;exact⟨N,hc,by omega⟩
   |i+1,hs=>exact absurd hs (by simp[mS]),by show(0:Int)<=0/\(0:Int)<=1000000;omega,by show 0<=k/\k<=1000000;omega⟩
 ·intro v m' hr;unfold SlR at hr;rw[hx]at hr;rcases hr with⟨h1,_⟩|⟨_,m3,m4,i,L',hr,h4,h5,h6⟩
  ·exact absurd h1 hne
  ·obtain⟨Nn,rfl,rfl,rfl⟩:=hdc hr;unfold yA at h4;rw[if_neg (by simp)]at h4;have h7:m4=mS c s q k ch Nn (L1++[Jy k]++[Jz k]++[Np k]) ⟨c.win,c.tries,1,[]⟩ ⟨c.win,1,[]⟩ 1 234 [] Bg:=h4.trans (sGM h);rw[h6,h7];exact⟨h5,rfl,fun ha=>by rw[<-T_ ha];rfl⟩
end
section
variable{W w w':aF}{R:aJ}{b:Nat}{md:Int}{c:nK}{m:aX}
def StA(c:nK)(i:Nat)(m:aX):Prop:=match i with
 |0=>m=m0 c
 |1=>∃s,m={m0 c with tab:=⟨c.cap,2,[nI],[]⟩,S:=[newS c],ss:=[s]}
 |2=>∃s q,m={m0 c with tab:=vC c,S:=[newS c],ss:=[s],Q:=[EB],qs:=[q]}
 |3=>∃s q,m={m0 c with tab:=vC c,S:=[newS c],ss:=[s],Q:=[EB],qs:=[q],rules:=[ruA]}
 |_=>∃s q,m=mI c s q 0 (BI c.kd c.pk c.pn) (En c c.mode) [] [aaB]
theorem acm(h:fq md c):(⟨c.cap,2,[],[]⟩:yV).Ok:=
 ⟨⟨h.ok.c1,h.ok.c2⟩,⟨by show(1:Int)<=2;omega,by show(2:Int)<=12;omega⟩,by show(0:Nat)<=16;omega,by show(0:Nat)<=32;omega,fun i s hs=>by simp at hs,fun s hs=>(by cases hs),fun p hp=>(by cases hp),by show(0:Int)<=c.cap;have:=h.ok.c1;omega⟩
theorem acn(h:fq md c):(⟨c.cap,2,[nI],[]⟩:yV).Ok:=
 ⟨⟨h.ok.c1,h.ok.c2⟩,⟨by show(1:Int)<=2;omega,by show(2:Int)<=12;omega⟩,by show(1:Nat)<=16;omega,by show(0:Nat)<=32;omega,(iO h).sid,(iO h).snm,fun p hp=>(by cases hp),by show(0:Int)<=c.cap;have:=h.ok.c1;omega⟩
theorem aeN(h:fq md c):(m0 c).tab=⟨c.cap,2,[],[]⟩:=by unfold m0;dsimp only;rw[h.rt];rfl
theorem Ir(h:fq md c)(hW:kF W)(hM:AU W){i:Nat}{e:Nt}(hm:StA c i m)(he:Bf[i]?=some e)(o:Own w (aK b m::old W::R)):
  Calls prog 10 #[b,xG e none 0] w (fun en w'=>∃(m':aX)(v:aL),StA c (i+1) m'/\aR v (aK b m'::old W::R) w en w'):=by
 have go:∀{Pr:Int->Int->aX->Prop},m.stop=false->VH e=true->(∀v er m',Pr v er m'->StA c (i+1) m')->
   (∀(w1:aF)(R1:aJ),Own w1 (aK b m::old W::R1)->Calls prog 28 #[b,xG e none 0] w1 (fun en w'=>∃v er m',Pr v er m'/\aR (.tuple #[.int .i64 v,.int .i64 er]) (aK b m'::old W::R1) w1 en w'))->
   Calls prog 10 #[b,xG e none 0] w (fun en w'=>∃(m':aX)(v:aL),StA c (i+1) m'/\aR v (aK b m'::old W::R) w en w'):=by
  intro Pr h1 h2 h3 h4;refine(Bd (A:=old W) (Pr:=Pr) h1 h2 h4 o).mono ?_;rintro en w'⟨v,er,m',hp,hr⟩;exact⟨m',_,h3 v er m' hp,hr⟩
 match i,hm,he with
 |0,hm,he=>injection he with he;subst he;have hm:m=m0 c:=hm;subst hm;refine go (Pr:=fun _ _ m'=>∃s,m'=mG (m0 c) nA 1 0 s) rfl rfl (fun v er m'⟨s,hp⟩=>⟨s,by rw[hp];exact agB h s⟩) fun w1 R1 o1=>?_;refine(TR rfl (by rw[aeN h];exact acm h) h.ok (by decide) (by show(0:Nat)<=1000;omega) hW o1).mono ?_;rintro en w'⟨p,hr⟩;exact⟨_,_,_,⟨p,rfl⟩,hr⟩
 |1,hm,he=>injection he with he;subst he;obtain⟨s,hm⟩:=hm;subst hm;refine go (Pr:=fun _ _ m'=>∃q,m'=D_ {m0 c with tab:=⟨c.cap,2,[nI],[]⟩,S:=[newS c],ss:=[s]} 0 1 q) rfl rfl (fun v er m'⟨q,hp⟩=>⟨s,q,by rw[hp,agD h _ rfl q];rfl⟩) fun w1 R1 o1=>?_;refine(Nf rfl (acn h) (by show(0:Nat)<=1000;omega) o1).mono ?_;rintro en w'⟨p,hr⟩;exact⟨_,_,_,⟨p,rfl⟩,hr⟩
 |2,hm,he=>injection he with he;subst he;obtain⟨s,q,hm⟩:=hm;subst hm;refine go (Pr:=fun _ _ m'=>m'=(tC {m0 c with tab:=vC c,S:=[newS c],ss:=[s],Q:=[EB],qs:=[q]} ⟨#[42,32,42,32,42,32,62,48]⟩).1) rfl rfl (fun v er m' hp=>⟨s,q,by rw[hp,agE _ rfl rfl]⟩) fun w1 R1 o1=>?_;refine(ab6 rfl (iO h) (by decide) (by show(0:Nat)<=32;omega) hM o1).mono ?_;intro en w' hr;exact⟨_,_,_,rfl,hr⟩
 |3,hm,he=>
  injection he with he;subst he;obtain⟨s,q,hm⟩:=hm;subst hm;refine go (Pr:=fun _ _ m'=>m'=(jT {m0 c with tab:=vC c,S:=[newS c],ss:=[s],Q:=[EB],qs:=[q],rules:=[ruA]} hdS).1) rfl rfl (fun v er m' hp=>⟨s,q,by rw[hp,agF (c:=c) _ rfl rfl rfl rfl rfl rfl rfl];rfl⟩) fun w1 R1 o1=>?_;refine(Xx rfl ?_ (by decide) hW o1).mono ?_
  ·refine⟨iO h,by show(1:Nat)<=32;omega,fun r hr=>?_,by show(0:Nat)<=200000;omega,by show(0:Int)<=0/\(0:Int)<=16384;omega,fun f g hg=>?_,⟨0,vE.Ok.start,by omega⟩,by show(0:Nat)<=200000;omega,by show(0:Nat)<=1000000;omega⟩
   ·rw[List.mem_singleton.1 hr];exact Nat.zero_le _
   ·have hf:f=0:=by
     have hg':lG [(je,true)] f=some g:=hg;unfold lG at hg';by_cases h1:f<0
     ·rw[if_pos h1]at hg';cases hg'
     ·rw[if_neg h1]at hg';by_cases h2:f=0
      ·exact h2
      ·obtain⟨j,hj⟩:∃j,f.toNat=j+1:=⟨f.toNat-1,by omega⟩;rw[hj]at hg';cases hg'
    exact⟨0,EB,hf,by omega,rfl,by show(0:Nat)<=100000;omega,by show(0:Int)<=0/\(0:Int)<=1000000000;omega⟩
  ·intro en w' hr;exact⟨_,_,_,rfl,hr⟩
 |i+4,hm,he=>exact absurd he (by simp[Bf])
end
section
variable{W w w':aF}{R:aJ}{b:Nat}{md:Int}{c:nK}{s q n:Nat}{k:Int}{ch:vD}{aZ:zG}{L:List Rec}{act:bq}{g:Bool}{fa:aY}{fc:Nat}
def evO(g:Bool):Nt:=⟨11,0,0,0,⟨#[]⟩,[g]⟩
def evS(g:Bool):Nt:=⟨1,0,0,0,⟨#[]⟩,[g]⟩
theorem aeO(g:Bool):VH (evO g)=true:=rfl
theorem aaO(g:Bool):VH (evS g)=true:=rfl
theorem Bh{N:Nat}(hc:ch.Ok N)(o:Own w (aK b (mI c s q k ch aZ act L)::fV fa 1 fc [g]::R)):
  Calls prog 10 #[b,xG (evO g) fa fc] w (aR (Il 0 0) (aK b (mI c s q k (BJ ch g) aZ act L)::fV fa 1 fc [g]::R) w):=by
 refine(Bd (A:=fV fa 1 fc [g]) (Pr:=fun v er m'=>v=0/\er=0/\m'=Xy [g] (mI c s q k ch aZ act L)) rfl (aeO g) (fun w1 R1 o1=>?_) o).mono ?_
 ·refine(Xz (e:=evO g) rfl (by show(1:Nat)<=16;omega) rfl (fun i st hs=>?_) o1).mono ?_
  ·match i,hs with
   |0,hs=>injection hs with hs;subst hs;exact hc.ln
   |i+1,hs=>exact absurd hs (by simp[mI])
  ·intro en w' hr;exact⟨0,0,_,⟨rfl,rfl,rfl⟩,hr⟩
 ·rintro en w'⟨v,er,m',⟨rfl,rfl,rfl⟩,hr⟩;rw[ah1]at hr;exact hr
theorem Ua(h:fq md c)(hW:WaS c n aZ act)(hL:L.length<=900)(hn:n<=299){N:Nat}(hc:ch.Ok N)(hN:N<=1000000)(hb:eB ch=false)(hk:0<=k/\k<=1000)(o:Own w (aK b (mI c s q k ch aZ act L)::fV fa 1 fc [g]::R)):
  Calls prog 10 #[b,xG (evS g) fa fc] w (fun en w'=>∃mP L',Vq c (n+1) mP/\L'.length<=L.length+2/\aR (Il 0 0) (aK b (mI c s q (k+1) (zS ch g) mP [0] L')::fV fa 1 fc [g]::R) w en w'):=by
 obtain⟨hpre,hpost⟩:=XK (s:=s) (q:=q) (g:=g) h hW hL hn hc hN hb hk;refine(Bd (A:=fV fa 1 fc [g]) (Pr:=fun v er m'=>er=0/\SlR [g] (mI c s q k ch aZ act L) v m') rfl (aaO g) (fun w1 R1 o1=>?_) o).mono ?_
 ·refine(Vi (e:=evS g) rfl (by show(1:Nat)<=16;omega) hpre o1).mono ?_;rintro en w'⟨v,m',hs,hr⟩;exact⟨v,0,m',⟨rfl,hs⟩,hr⟩
 ·rintro en w'⟨v,er,m',⟨rfl,hs⟩,hr⟩;obtain⟨rfl,mP,L',h1,rfl,h3⟩:=hpost v m' hs;exact⟨mP,L',h1,h3,hr⟩
theorem Iu(h:fq md c)(hW:WaS c n aZ act)(hL:L.length<=900)(hn:n<=299){N:Nat}(hc:ch.Ok N)(hN:N<=1000000)(hb:eB ch=true)(hk:0<=k/\k<=1000)(o:Own w (aK b (mI c s q k ch aZ act L)::fV fa 1 fc [true]::R)):
  Calls prog 10 #[b,xG (evS true) fa fc] w (fun en w'=>∃m',(m'.jy=Bg/\(act=[]->m'.log=L++[aaC k]++[Jy k]++[Jz k]++[Np k]))/\aR (Il 0 1) (aK b m'::fV fa 1 fc [true]::R) w en w'):=by
 obtain⟨hpre,hpost⟩:=XO (s:=s) (q:=q) h hW hL hn hc hN hb hk;refine(Bd (A:=fV fa 1 fc [true]) (Pr:=fun v er m'=>er=0/\SlR [true] (mI c s q k ch aZ act L) v m') rfl (aaO true) (fun w1 R1 o1=>?_) o).mono ?_
 ·refine(Vi (e:=evS true) rfl (by show(1:Nat)<=16;omega) hpre o1).mono ?_;rintro en w'⟨v,m',hs,hr⟩;exact⟨v,0,m',⟨rfl,hs⟩,hr⟩
 ·rintro en w'⟨v,er,m',⟨rfl,hs⟩,hr⟩;obtain⟨rfl,h1,h2⟩:=hpost v m' hs;exact⟨m',⟨h1,h2⟩,hr⟩
end
section
section
variable{W w w':aF}{R:aJ}{b:Nat}{md:Int}{c:nK}
def aco:dw:=[aC,aC,aC,aC,aC,aC,aC,aC,aC,aC,aC,aC,aC,aC,.slice none 0 0]
def aaP(c:nK)(W:aF)(b g k1:Nat)(ra:aY)(rc:Nat)(R:aJ)(w:aF)(v5:aL)(wr:aF):Prop:=
 ∃(i:Nat)(m:aX),v5=↑(i:Int)/\i<=4/\StA c i m/\Own wr (aK b m::old W::slc 47 6 (some ⟨g,0,none⟩) 4 4 (flat evC Bf)::aH k1 37 (jX c ra rc)::jG ra rc c.bQ::R)/\Calm w wr
attribute [local go_sem↓] CK zC
theorem Ea(kd k n:Int):∀m:Nat,mV (BI kd k n) m=m
 |0=>rfl
 |m+1=>by unfold mV;rw[Ea kd k n m,if_pos (by unfold sK;rw[bz (by show 0<m+1;omega),Bool.true_or])]
theorem Ub(h:fq md c):eB (BI c.kd c.pk c.pn)=true:=by
 have hp:=h.ok.pr;unfold eB;show(if c.kd=1 then decide (c.pk<=(mV (BI c.kd c.pk c.pn) c.pn.toNat:Nat))else if c.kd=2/\false=true then false else sK (BI c.kd c.pk c.pn) 1)=true;by_cases h1:c.kd=1
 ·rw[if_pos h1,Ea];unfold IQ at hp;rw[if_neg (by omega),if_pos h1]at hp;simp only[Bt,xM]at hp;exact bz (by omega)
 ·rw[if_neg h1,if_neg (by simp)];rfl
theorem Uc(hW:kF W)(hM:AU W)(o:Own w (old W::R)):Calls prog 13 #[] w (aR (.bool true) (old W::R) w):=by
 have hS:=Ip o;clear o;go_enter func13,ntmps13;go_wp2_with fail;refine hS.mono ?_;rintro _ w1⟨c,ra,rc,g,hcg,rfl,o1,k1⟩;have oA:Own (w1.alloc (.cells #[aC,aC,aC,aC,aC,aC,aC,aC,aC,aC,aC,aC,aC,aC,.slice none 0 0] 37)) (aH w1.heap.size 37 aco::_):=o1.alloc (.cells #[aC,aC,aC,aC,aC,aC,aC,aC,aC,aC,aC,aC,aC,aC,.slice none 0 0] 37);have kA:=aj (x:=.cells #[aC,aC,aC,aC,aC,aC,aC,aC,aC,aC,aC,aC,aC,aC,.slice none 0 0] 37) k1;have hst:=wZ (c:=c) (ra:=ra) (rc:=rc) oA;have oG:=Own.setCells (old:=aco) (vs:=jX c ra rc) oA rfl;have X6:=az hcg;obtain⟨CV,hcv⟩:=aP (wh c ra rc);have HCV:=az hcv;obtain⟨CC,hcc⟩:=aP (jX c ra rc);have HCC:=az hcc;rw[hcv];rw[hcv,hcc]at hst;rw[hcc]at oG;clear hS k1 o1 oA hcv hcc hcg;go_upto_region 2 with fail;have KG:=kA.trans (Calm.setCells w1.heap.size CC 0 _);generalize (w1.alloc (.cells #[aC,aC,aC,aC,aC,aC,aC,aC,aC,aC,aC,aC,aC,aC,.slice none 0 0] 37)).setCells w1.heap.size 0 CC=w2 at*;generalize w1.heap.size=k1 at*;have oH:Own w2 (aH k1 37 (jX c ra rc)::jG ra rc c.bQ::slc 47 6 (some ⟨g,0,none⟩) 4 4 (flat evC Bf)::old W::R):=by rw[HCC.out];exact oG
 have hld:=Io oH;rw[HCV.out]at hld;have hNw:=Kl X6.out.ok (oH.re [1]);rw[HCV.out]at hNw;clear hst oG kA;go_wp2_with fail;refine hNw.mono ?_;rintro _ w3⟨b,rfl,o3,k3⟩;have o4:Own w3 (aK b (m0 c)::old W::slc 47 6 (some ⟨g,0,none⟩) 4 4 (flat evC Bf)::aH k1 37 (jX c ra rc)::jG ra rc c.bQ::R):=o3.re [0,4,3,2,1];have hT:aaP c W b g k1 ra rc R w (.int .i64 0) w3:=⟨0,_,rfl,by omega,rfl,o4,KG.trans k3⟩;clear hNw hld oH o3 k3 KG o4;go_wp2;go_loopw[5] (fun v5 wr=>aaP c W b g k1 ra rc R w v5 wr) (fun v _=>4-(Lib.intOf v).toNat);case atStart=>exact hT
 case round=>
  clear hT;obtain⟨i,m,rfl,hi,hst,oR,kR⟩:=hrel;by_cases hil:i<4
  ·obtain⟨e,he⟩:∃e,Bf[i]?=some e:=⟨_,cZ (by show i<4;exact hil)⟩;have hSt:=Ir X6.out hW hM hst he oR;have hF:e.F=[]:=by have:e∈Bf:=mH he;simp only[Bf,jc,xN,or_false]at this;rcases this with rfl|rfl|rfl|rfl<;>rfl
   unfold xG at hSt;rw[hF]at hSt;obtain⟨g',hg',hc,_,hgl⟩:=(oR.up 2).aG (by omega);injection hg' with hg';injection hg' with hg';subst hg';have e0:=hc (i*6+0) e.k (by rw[aB kV Bf i 0 e he (by omega)];rfl);have e1:=hc (i*6+1) e.a (by rw[aB kV Bf i 1 e he (by omega)];rfl);have e2:=hc (i*6+2) e.b (by rw[aB kV Bf i 2 e he (by omega)];rfl);have e3:=hc (i*6+3) e.c (by rw[aB kV Bf i 3 e he (by omega)];rfl);have e4:=hc (i*6+4) (.string e.s) (by rw[aB kV Bf i 4 e he (by omega)];rfl);have e5:=hc (i*6+5) (.slice none 0 0) (by rw[aB kV Bf i 5 e he (by omega)];rfl);rw[Nat.add_zero]at e0;clear hc hst he hF;go_wp2_with fail;refine hSt.mono ?_;rintro _ w6⟨m',v,SG,rfl,o6,k6⟩;clear hSt e0 e1 e2 e3 e4 e5 oR;go_wp2;go_roundw;case rel=>exact⟨i+1,m',by go_num,by omega,SG,o6,kR.trans k6⟩
   case measure=>simp[Lib.intOf];omega
  ·have hin:i=4:=by omega
   subst hin;obtain⟨s,q,rfl⟩:∃s q,m=mI c s q 0 (BI c.kd c.pk c.pn) (En c c.mode) [] [aaB]:=hst;have oT:Own (wr.alloc (.cells #[.bool true] 4)) (aH wr.heap.size 4 [.bool true]::_):=oR.alloc (.cells #[.bool true] 4);have kT:=aj (x:=.cells #[.bool true] 4) kR;have oF:=tF (size:=1) (n:=1) oT rfl (by omega);have hSt:=Iu (fc:=1) X6.out (.no (.inl X6.out.md)) (by show(1:Nat)<=900;omega) (n:=0) (by omega) (vD.Ok.start X6.out.ok.pr) (by omega) (Ub X6.out) (by omega) (show Own _ (aK b (mI c s q 0 (BI c.kd c.pk c.pn) (En c c.mode) [] [aaB])::fV (some ⟨wr.heap.size,0,none⟩) 1 1 [true]::_)from oF.swap);unfold xG evS Il at hSt;rw[if_pos rfl]at hSt;clear oR oT oF hi hil;go_wp2_with fail;refine hSt.mono ?_;rintro _ w6⟨m2,⟨nG,T_⟩,rfl,o6,k6⟩;have T_:=T_ trivial;have K6:=kT.trans k6;have oU:Own (w6.alloc (.cells #[aC,(1:Int)] 43)) (aH w6.heap.size 43 [aC,(1:Int)]::_):=o6.alloc (.cells #[aC,(1:Int)] 43);have kU:=aj (x:=.cells #[aC,(1:Int)] 43) K6;have hll:m2.log.length=5:=by rw[T_];rfl
   have hLg:=XA (by rw[hll];omega) (oU.up 1);rw[hll]at hLg;have ah2:=az T_;have Xi:=az nG;clear hSt o6 k6 K6 kT kR T_ nG hll;go_wp2_with fail;refine hLg.mono ?_;rintro _ w7⟨al,cl,rfl,o7,k7⟩;have K7:=kU.trans k7;obtain⟨-,-,q0,q1,-⟩:=(o7.up 2).cs;obtain⟨gl,rfl,hc,_,hgl⟩:=o7.aG (by omega);have e25:=hc 25 (4:Int) (by rw[ah2.out];rfl);have nZ:=w_ (N:=2) 1 (by rw[Xi.out];exact Nr) (o7.up 1);rw[Xi.out,Vr]at nZ;clear hLg oU kU hc;go_wp2_with fail;refine nZ.mono ?_;rintro _ w8⟨rfl,o8,k8⟩;have oZ:=o8.re [0,1,2,3,5,6,7] 7;clear nZ o7 o8 q0 q1 e25;go_wp2;go_ret;exact⟨rfl,oZ,K7.trans k8⟩
end
end
section
section
variable{W w w':aF}{R:aJ}{b:Nat}{md:Int}{c:nK}
def idC(c:nK)(x:Int):nK:={c with mode:=x,kd:=2,pk:=0,pn:=0}
theorem aeP(h:fq 1 c){x:Int}(hx:1<=x/\x<=3):fq x (idC c x):=
 ⟨⟨hx.1,hx.2,h.ok.al,rfl,h.ok.cp,h.ok.t1,h.ok.t2,h.ok.w1,h.ok.w2,h.ok.q1,h.ok.q2,h.ok.c1,h.ok.c2,h.ok.r1,h.ok.r2,h.ok.ra,h.ok.l1,h.ok.l2⟩,rfl,h.p1,h.p2,h.p3,h.t,h.rt,h.cp⟩
def adv(c:nK)(W:aF)(b g k1 cb:Nat)(ra:aY)(rc:Nat)(R:aJ)(w:aF)(v8:aL)(wr:aF):Prop:=
 ∃(i:Nat)(m:aX),v8=↑(i:Int)/\i<=4/\StA c i m/\Own wr (aK b m::old W::slc 47 6 (some ⟨g,0,none⟩) 4 4 (flat evC Bf)::aH k1 37 (jX c ra rc)::jG ra rc c.bQ::Ch W cb 1::R)/\Calm w wr
def adw(c:nK)(W:aF)(b cb s q:Nat)(R:aJ)(w:aF)(v9 _:aL)(wr:aF):Prop:=
 ∃(i:Nat)(ch:vD)(aZ:zG)(act:bq)(L:List Rec),v9=↑(i:Int)/\i<=6/\WaS c i aZ act/\L.length<=1+2*i/\(ch.Ok i/\ch.kd=2)/\Own wr (aK b (mI c s q (i:Int) ch aZ act L)::Ch W cb (1+2*i)::old W::R)/\Calm w wr
attribute [local go_sem↓] CK zC
theorem CL(a:aY)(len cap:Nat)(zs:bq)(hz:Ac .i64 W a len cap zs)(hW:kF W)(hM:AU W)(o:Own w (old W::R)):Calls prog 4 #[.slice a len cap] w (aR (.bool true) (old W::R) w):=by
 have hN:=OL a len cap zs hz o;clear o hz;go_enter func4,ntmps4;go_wp2_with fail;refine hN.mono ?_;rintro _ w0⟨cb,rfl,o0,k0⟩;have hS:=Ip o0.swap;clear hN;go_wp2_with fail;refine hS.mono ?_;rintro _ w1⟨c,ra,rc,g,hcg,rfl,o1,k1'⟩;have k1:=k0.trans k1';have oA:Own (w1.alloc (.cells #[aC,aC,aC,aC,aC,aC,aC,aC,aC,aC,aC,aC,aC,aC,.slice none 0 0] 37)) (aH w1.heap.size 37 aco::_):=o1.alloc (.cells #[aC,aC,aC,aC,aC,aC,aC,aC,aC,aC,aC,aC,aC,aC,.slice none 0 0] 37);have kA:=aj (x:=.cells #[aC,aC,aC,aC,aC,aC,aC,aC,aC,aC,aC,aC,aC,aC,.slice none 0 0] 37) k1;have hst:=wZ (c:=c) (ra:=ra) (rc:=rc) oA;have oG:=Own.setCells (old:=aco) (vs:=jX c ra rc) oA rfl;have X6:=az hcg;obtain⟨CV,hcv⟩:=aP (wh c ra rc);have HCV:=az hcv;obtain⟨CC,hcc⟩:=aP (jX c ra rc);have HCC:=az hcc;rw[hcv];rw[hcv,hcc]at hst;rw[hcc]at oG;clear hS k1 k1' k0 o0 o1 oA hcv hcc hcg;go_upto_region 3 with fail;have KG:=kA.trans (Calm.setCells w1.heap.size CC 0 _);generalize (w1.alloc (.cells #[aC,aC,aC,aC,aC,aC,aC,aC,aC,aC,aC,aC,aC,aC,.slice none 0 0] 37)).setCells w1.heap.size 0 CC=w2 at*;generalize w1.heap.size=k1 at*;have oH:Own w2 (aH k1 37 (jX c ra rc)::jG ra rc c.bQ::slc 47 6 (some ⟨g,0,none⟩) 4 4 (flat evC Bf)::old W::Ch W cb 0::R):=by rw[HCC.out];exact oG
 have hMd:=Ng (ab7 W cb) (by omega) (oH.re [4,3]);unfold aav at hMd;clear hst oG kA;go_wp2_with fail;refine hMd.mono ?_;rintro _ w3⟨x,hx,rfl,o3,k3⟩;have K3:=KG.trans k3;obtain⟨rf,rl,r0,-,-,r3,r4,r5,-⟩:=(o3.up 2).cs;have oK:=((((o3.up 2).setCell 0 x).setCell 3 (2:Int)).setCell 4 aC).setCell 5 aC;have KK:=ay (x:=⟨k1,5,none⟩) (v:=.int .i64 0) (ay (x:=⟨k1,4,none⟩) (v:=.int .i64 0) (ay (x:=⟨k1,3,none⟩) (v:=.int .i64 2) (ay (x:=⟨k1,0,none⟩) (v:=.int .i64 x) K3)));clear hMd oH KG k3 o3 K3;go_upto_region 4 with fail;have agM:=aeP X6.out hx;have Ud:=az agM;generalize (((w3.setCell ⟨k1,0,none⟩ x).setCell ⟨k1,3,none⟩ (2:Int)).setCell ⟨k1,4,none⟩ aC).setCell ⟨k1,5,none⟩ aC=w4 at*;have oL:Own w4 (aH k1 37 (jX (idC c x) ra rc)::jG ra rc (idC c x).bQ::slc 47 6 (some ⟨g,0,none⟩) 4 4 (flat evC Bf)::old W::Ch W cb 1::R):=oK.re [0,3,4,2,1];have hkd:(idC c x).kd=2:=rfl;generalize idC c x=d at*;clear oK r0 r3 r4 r5 rf rl agM;have hld:=Io oL;have hNw:=Kl Ud.out.ok (oL.re [1]);obtain⟨DV,hdv⟩:=aP (wh d ra rc);rw[hdv]at hld hNw;clear hdv;go_wp2_with fail;refine hNw.mono ?_;rintro _ w5⟨b,rfl,o5,k5⟩;have o6:Own w5 (aK b (m0 d)::old W::slc 47 6 (some ⟨g,0,none⟩) 4 4 (flat evC Bf)::aH k1 37 (jX d ra rc)::jG ra rc d.bQ::Ch W cb 1::R):=o5.re [0,4,3,2,1];have hT:adv d W b g k1 cb ra rc R w (.int .i64 0) w5:=⟨0,_,rfl,by omega,rfl,o6,KK.trans k5⟩;clear hNw hld oL o5 k5 KK o6;go_wp2;go_loopw[8] (fun v8 wr=>adv d W b g k1 cb ra rc R w v8 wr) (fun v _=>4-(Lib.intOf v).toNat);case atStart=>exact hT
 case round=>
  clear hT;obtain⟨i,m,rfl,hi,hst,oR,kR⟩:=hrel;by_cases hil:i<4
  ·obtain⟨e,he⟩:∃e,Bf[i]?=some e:=⟨_,cZ (by show i<4;exact hil)⟩;have hSt:=Ir Ud.out hW hM hst he oR;have hF:e.F=[]:=by have:e∈Bf:=mH he;simp only[Bf,jc,xN,or_false]at this;rcases this with rfl|rfl|rfl|rfl<;>rfl
   unfold xG at hSt;rw[hF]at hSt;obtain⟨g',hg',hc,_,hgl⟩:=(oR.up 2).aG (by omega);injection hg' with hg';injection hg' with hg';subst hg';have e0:=hc (i*6+0) e.k (by rw[aB kV Bf i 0 e he (by omega)];rfl);have e1:=hc (i*6+1) e.a (by rw[aB kV Bf i 1 e he (by omega)];rfl);have e2:=hc (i*6+2) e.b (by rw[aB kV Bf i 2 e he (by omega)];rfl);have e3:=hc (i*6+3) e.c (by rw[aB kV Bf i 3 e he (by omega)];rfl);have e4:=hc (i*6+4) (.string e.s) (by rw[aB kV Bf i 4 e he (by omega)];rfl);have e5:=hc (i*6+5) (.slice none 0 0) (by rw[aB kV Bf i 5 e he (by omega)];rfl);rw[Nat.add_zero]at e0;clear hc hst he hF;go_wp2_with fail;refine hSt.mono ?_;rintro _ w6⟨m',v,SG,rfl,o6,k6⟩;clear hSt e0 e1 e2 e3 e4 e5 oR;go_wp2;go_roundw;case rel=>exact⟨i+1,m',by go_num,by omega,SG,o6,kR.trans k6⟩
   case measure=>simp[Lib.intOf];omega
  ·have hin:i=4:=by omega
   rw[hin]at hst;have hd4:=bW (show¬((i:Int)<4)by omega);clear hin;obtain⟨s,q,rfl⟩:∃s q,m=mI d s q 0 (BI d.kd d.pk d.pn) (En d d.mode) [] [aaB]:=hst;have hmo:d.mode=1\/d.mode=2\/d.mode=3:=by have h1:=Ud.out.ok.m1;have h2:=Ud.out.ok.m2;omega
   have Ef:adw d W b cb s q R w (.int .i64 0) undef wr:=⟨0,_,_,_,_,rfl,by omega,.no hmo,by show(1:Nat)<=1;omega,⟨vD.Ok.start Ud.out.ok.pr,hkd⟩,oR.re [0,5,1]|>fun oo=>oo.re [3,4,5] 3,kR⟩;clear oR kR hi hil;generalize (i:Int)=i4 at*;go_wp2;clear hd4;go_loopw[9,10] (fun v9 v10 wr=>adw d W b cb s q R w v9 v10 wr) (fun v _ _=>6-(Lib.intOf v).toNat);case atStart=>exact Ef
   case round=>
    clear Ef;obtain⟨i,ch,aZ,act,L,rfl,hi,hWa,hLl,⟨hch,hk2⟩,oR,kR⟩:=hrel;have m_:=BQ W cb (1+2*i) 6 _ _ (by omega) (by omega) (by omega) (oR.re [1,2]);unfold Ad at m_;clear hx;go_wp2_with fail;refine m_.mono ?_;rintro _ w6⟨y,hy0,hy1,rfl,o6,k6⟩;have K6:=kR.trans k6;have hw1:IntKind.i64.wrap (1+y)=1+y:=by rw[gB];omega
    clear m_ oR kR k6;by_cases hlt:(i:Int)<1+y
    ·have hd:decide ((i:Int)<1+y)=true:=bz hlt;have hi5:i<=5:=by omega
     have o7:Own w6 (aK b (mI d s q (i:Int) ch aZ act L)::Ch W cb (1+2*i+1)::old W::R):=o6.re [2];have oT:=o7.alloc (.cells #[.bool false] 4);have kT:=aj (x:=.cells #[.bool false] 4) K6;have oF:=(tF (size:=1) (n:=1) oT rfl (by omega)).swap;have hO:=Bh (g:=false) (fa:=some ⟨w6.heap.size,0,none⟩) (fc:=1) hch oF;unfold xG evO Il at hO;rw[if_pos rfl]at hO;clear o6 o7 oT oF hlt;go_wp2_with fail;refine hO.mono ?_;rintro _ w7⟨rfl,o8,k8⟩;have K8:=kT.trans k8;have o9:Own w7 (Ch W cb (1+2*i+1)::old W::aK b (mI d s q (i:Int) (BJ ch false) aZ act L)::R):=o8.re [2,3,0,1]|>fun oo=>oo.re [3] 1;have hNy:=BQ W cb (1+2*i+1) 2 _ _ (by omega) (by omega) (by omega) o9;unfold Ad at hNy;clear hO kT k8 o8 K6 hd hw1;go_wp2_with fail;refine hNy.mono ?_;rintro _ w8⟨z,hz0,hz1,rfl,oA,kA⟩;have KA:=K8.trans kA;obtain⟨gz,hgz⟩:=aP ((z==0):Bool);have HGZ:=az hgz;have oT2:=(oA.re [2]).alloc (.cells #[.bool gz] 4);have kT2:=aj (x:=.cells #[.bool gz] 4) KA;have oF2:=(tF (size:=1) (n:=1) oT2 rfl (by omega)).swap;have hI:=Ua (g:=gz) (fa:=some ⟨w8.heap.size,0,none⟩) (fc:=1) Ud.out hWa (by omega) (by omega) (hch.ann false) (by omega) (QN hk2 false) (by omega) oF2;unfold xG evS Il at hI;rw[if_pos rfl]at hI;clear hNy oA oT2 oF2 o9 K8 kA KA;go_wp2_with fail;refine hI.mono ?_;rintro _ w9⟨mP,L',hS',hL',rfl,oC,kC⟩;have KC:=kT2.trans kC;have oD:Own (w9.alloc (.cells #[aC,aC] 43)) (aH w9.heap.size 43 [aC,aC]::_):=oC.alloc (.cells #[aC,aC] 43);have KD:=aj (x:=.cells #[aC,aC] 43) KC;obtain⟨-,-,q0,q1,-⟩:=oD.cs;have nZ:=w_ (N:=1) 1 (show(mI d s q ((i:Int)+1) (zS (BJ ch false) gz) mP [0] L').jy.Ok 1 from Nk) (oD.up 1);rw[show lstate (mI d s q ((i:Int)+1) (zS (BJ ch false) gz) mP [0] L').jy 1=1 from aci]at nZ;have HS':=az hS';clear hI oC kC KC kT2 hgz hz0 hz1 oD;go_wp2_with fail;refine nZ.mono ?_;rintro _ wb⟨rfl,oE,kE⟩;have KE:=KD.trans kE;have oG:=(oE.re [1,2] 2).re [1];clear nZ q0 q1 oE KD kE;go_wp2;go_roundw;case rel=>exact⟨i+1,zS (BJ ch false) gz,mP,[0],L',by go_num,by omega,.yes _ _ HS'.out,by omega,⟨(hch.ann false).obs gz,hk2⟩,(Ch.upTo (by omega) oG).swap,KE⟩
     case measure=>simp[Lib.intOf];omega
    ·have hd:decide ((i:Int)<1+y)=false:=bW hlt;have o7:Own w6 (aK b (mI d s q (i:Int) ch aZ act L)::Ch W cb (1+2*i+1)::old W::R):=o6.re [2];have oT:=o7.alloc (.cells #[.bool true] 4);have kT:=aj (x:=.cells #[.bool true] 4) K6;have oF:=(tF (size:=1) (n:=1) oT rfl (by omega)).swap;have hO:=Bh (g:=true) (fa:=some ⟨w6.heap.size,0,none⟩) (fc:=1) hch oF;unfold xG evO Il at hO;rw[if_pos rfl]at hO;clear o6 o7 oT oF hlt;go_wp2_with fail;refine hO.mono ?_;rintro _ w7⟨rfl,o8,k8⟩;have K8:=kT.trans k8;have o9:Own w7 (aK b (mI d s q (i:Int) (BJ ch true) aZ act L)::Ch W cb (1+2*i+1)::old W::R):=o8.re [1] 1;have oT2:=o9.alloc (.cells #[.bool true] 4);have kT2:=aj (x:=.cells #[.bool true] 4) K8;have oF2:=(tF (size:=1) (n:=1) oT2 rfl (by omega)).swap;have hG:=Iu (fa:=some ⟨w7.heap.size,0,none⟩) (fc:=1) Ud.out hWa (by omega) (by omega) (hch.ann true) (by omega) (QN hk2 true) (by omega) oF2;unfold xG evS Il at hG;rw[if_pos rfl]at hG;clear hO kT k8 o8 K6 hd hw1 K8 o9 oT2 oF2;go_wp2_with fail;refine hG.mono ?_;rintro _ w8⟨m2,⟨nG,_⟩,rfl,oA,kA⟩;have KA:=kT2.trans kA;have oD:Own (w8.alloc (.cells #[aC,(1:Int)] 43)) (aH w8.heap.size 43 [aC,(1:Int)]::_):=oA.alloc (.cells #[aC,(1:Int)] 43);have KD:=aj (x:=.cells #[aC,(1:Int)] 43) KA;obtain⟨-,-,q0,q1,-⟩:=oD.cs;have nZ:=w_ (N:=2) 1 (by rw[nG];exact Nr) (oD.up 1);rw[nG,Vr]at nZ;clear hG oA kA KA kT2 nG oD;go_wp2_with fail;refine nZ.mono ?_;rintro _ wb⟨rfl,oE,kE⟩;have KE:=KD.trans kE;have hAw:=Uc hW hM (oE.re [4]);clear nZ q0 q1 oE KD kE;go_wp2_with fail;refine hAw.mono ?_;rintro _ wc⟨rfl,oH,kH⟩;clear hAw;go_wp2;go_ret;exact⟨rfl,oH.re [1,2,3,4] 4,KE.trans kH⟩
end
end
theorem Bi(a0:aY)(XP cap0:Nat)(z0:bq)(w:aF)(w0:Ac .i64 w a0 XP cap0 z0)(hT:kF w)(hm:AU w):
  Calls prog 4 #[.slice a0 XP cap0] w fun e w'=>e=.returned (.bool true)/\Below w.heap.size w w':=by
 refine(CL a0 XP cap0 z0 w0 hT hm (Own.start w)).mono ?_;rintro e w'⟨rfl,o,k⟩;exact⟨rfl,o.below k⟩
end Go.Proofs.YtfejhikpfhgbeaaGreatDoor
