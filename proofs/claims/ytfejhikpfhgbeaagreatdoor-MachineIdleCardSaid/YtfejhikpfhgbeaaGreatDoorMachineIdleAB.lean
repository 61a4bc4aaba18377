import Derived.Test.YtfejhikpfhgbeaaGreatDoorMachineIdleZ
import Derived.Test.YtfejhikpfhgbeaaGreatDoorMachineIdleAA
set_option maxHeartbeats 25600000
set_option maxRecDepth 100000
set_option linter.all false
namespace Go.Proofs.YtfejhikpfhgbeaaGreatDoor
open Go.Proofs.Tryz
open Go.RowKit
open SP
section
variable{w w':aF}{R:aJ}{b:Nat}{m:aX}
theorem ah.afX{x:MB}(o:Own w (ah b m x::R)):lI w x.aa m.act:=by obtain⟨_,o1⟩:=ah.iff.1 o;exact lI.own (o1.up 10)
theorem ah.sv{x:MB}(o:Own w (ah b m x::R)):Own w (dR b m.cfg x.sv m.aZ::(bX b m x).eraseIdx 9++R):=by obtain⟨_,o1⟩:=ah.iff.1 o;exact o1.up 9
theorem nM{x:MB}(r:Rec)(Iz:m.log.length<=1000000)(o:Own w (ah b m x::R)):
  Calls prog 69 #[b,.agg #[r.slot,r.kind,r.gK,r.oJ,r.why,r.value]] w
   (fun e w'=>∃la lc,aR (.tuple #[]) (ah b (jM m r) {x with la:=la,lc:=lc}::R) w e w'):=by
 obtain⟨hx,o1⟩:=ah.iff.1 o;refine(wm (b:=b) (cs:=aW m x) (slot:=m.slot) (L:=m.log) r (Cm m x) rfl rfl Iz (o1.re [0,11])).mono ?_;rintro e w2⟨la,lc,rfl,o3,k3⟩;refine⟨la,lc,rfl,ah.iff.2 ⟨hx,?_⟩,k3⟩;have e1:aW (jM m r) {x with la:=la,lc:=lc}=(aW m x).set 28 (.slice la (m.log.length+1) lc):=by unfold jM aW;dsimp only;rw[jf];rfl
 unfold bX;rw[e1];unfold jM;dsimp only;rw[jf];exact o3.re [0,2,3,4,5,6,7,8,9,10,11,1]
def u6:zG->Int->Int×zG
 |.fair N s,f=>((rW s f).1.1,.fair N (rW s f).2)
 |.bD s,f=>((nD s f).1.1,.bD (nD s f).2)
 |.timed r M,f=>match M.findIdx? (fun y=>y.1==f)with
  |some i=>(0,.timed (lvT r (M.eraseIdx i) ((M[i]?.map (·.2.id)).getD 0)) (M.eraseIdx i))
  |none=>(0,.timed r M)
def Z7:zG->Int->Prop
 |.fair N s,_=>(N:Int)<=1000000000000/\bL s.n
 |.bD s,_=>∃N,MV N s
 |.timed r M,f=>bL M/\r.O.length<=100/\∃(i:Nat)(s:rV),M[i]?=some (f,s)/\∀j,yR r.O s.id=j->0<=j/\j.toNat<r.O.length
theorem Ti{M:List (Int×rV)}{i:Nat}{f:Int}{s:rV}(hu:bL M)(hi:M[i]?=some (f,s)):M.findIdx? (fun y=>y.1==f)=some i:=by
 rw[List.findIdx?_eq_some_iff_getElem];obtain⟨h1,h2⟩:=eU.1 hi;refine⟨h1,by simp[h2],fun j hj=>?_⟩;have hlt:j<M.length:=by omega
 intro hc;have hc':M[j].1=f:=by simpa using hc
 unfold bL at hu;have hjm:j<(M.map (·.1)).length:=by rw[iP];exact hlt
 have him:i<(M.map (·.1)).length:=by rw[iP];exact h1
 refine List.pairwise_iff_getElem.1 hu j i hjm him hj ?_;rw[List.getElem_map,List.getElem_map,hc',h2]
theorem Hq{x:MB}{s2:zG}{P:Program}{g:Nat}{args:Array aL}{Y:Type}{v:Y->aL}{E:Y->aJ}(h:gy P g args w v E (dR b m.cfg x.sv m.aZ) (dR b m.cfg x.sv s2))(o:Own w (ah b m x::R)):
  Calls P g args w (fun e w'=>∃y,aR (v y) (E y++ah b {m with aZ:=s2} x::R) w e w'):=
 ah.MM (m':={m with aZ:=s2}) (x':=x) 9 (A:=dR b m.cfg x.sv m.aZ) (A':=dR b m.cfg x.sv s2) (fun _=>rfl) (fun _=>rfl) ⟨rfl,rfl,rfl,rfl⟩ h o
theorem dR.DX{c:nK}{v:aL}{N:Nat}{s:Cq}:Own w (dR b c v (.fair N s)::R)↔∃p:Nat,v=.iface 116 (dz p)/\Own w (vg p (c.nu:Int) (c.de:Int) c.aI N s::R):=by
 constructor
 ·intro o;obtain⟨p,h⟩:=Own.ex.1 o;obtain⟨h1,h2⟩:=Own.pu.1 (Own.st.1 h);exact⟨p,h1,h2⟩
 ·rintro⟨p,h1,h2⟩;exact Own.ex.2 ⟨p,Own.st.2 (Own.pu.2 ⟨h1,h2⟩)⟩
theorem dR.wL{c:nK}{v:aL}{s:Iw}:Own w (dR b c v (.bD s)::R)↔∃p:Nat,v=.iface 121 (dz p)/\Own w (wu p c.aI s::R):=by
 constructor
 ·intro o;obtain⟨p,h⟩:=Own.ex.1 o;obtain⟨h1,h2⟩:=Own.pu.1 (Own.st.1 h);exact⟨p,h1,h2⟩
 ·rintro⟨p,h1,h2⟩;exact Own.ex.2 ⟨p,Own.st.2 (Own.pu.2 ⟨h1,h2⟩)⟩
theorem dR.wM{c:nK}{v:aL}{r:I4}{M:List (Int×rV)}:Own w (dR b c v (.timed r M)::R)↔∃(x1 rb mb:Nat)(ks:List Nat),(v=.iface 125 (.pointer (some ⟨x1,0,none⟩))/\ks.length=M.length)/\Own w (Et x1 rb mb b::dX rb r::bB pv mb (mF ks M)::SP.st (List.zipWith mK ks M)::R):=by
 constructor
 ·intro o;obtain⟨⟨x1,rb,mb,ks⟩,h⟩:=Own.ex.1 o;obtain⟨h1,h2⟩:=Own.pu.1 (Own.st.1 h);exact⟨x1,rb,mb,ks,h1,h2⟩
 ·rintro⟨x1,rb,mb,ks,h1,h2⟩;exact Own.ex.2 ⟨(x1,rb,mb,ks),Own.st.2 (Own.pu.2 ⟨h1,h2⟩)⟩
theorem Tj{c:nK}{v:aL}{p:Nat}{N N2:Nat}{s s2:Cq}{P:Program}{g:Nat}{args:Array aL}{u:aL}(hv:v=.iface 116 (dz p))
  (hp:∀(w1:aF)(R1:aJ),Own w1 (dR b c v (.fair N s)::R1)->Own w1 (vg p (c.nu:Int) (c.de:Int) c.aI N s::R1))
  (h:∀R1,Own w (vg p (c.nu:Int) (c.de:Int) c.aI N s::R1)->Calls P g args w (aR u (vg p (c.nu:Int) (c.de:Int) c.aI N2 s2::R1) w)):gy P g args w (fun _:Unit=>u) (fun _=>[]) (dR b c v (.fair N s)) (dR b c v (.fair N2 s2)):=
 fun R1 o=>(h R1 (hp _ _ o)).mono fun e w' hr=>⟨(),hr.1,dR.DX.2 ⟨p,hv,hr.2.1⟩,hr.2.2⟩
theorem Tk{c:nK}{v:aL}{p:Nat}{N:Nat}{s:Cq}(hv:v=.iface 116 (dz p))(w1:aF)(R1:aJ)(o:Own w1 (dR b c v (.fair N s)::R1)):Own w1 (vg p (c.nu:Int) (c.de:Int) c.aI N s::R1):=by
 obtain⟨q,hq,h⟩:=dR.DX.1 o;have e:p=q:=by rw[hv]at hq;unfold dz at hq;simpa using hq
 rw[e];exact h
theorem abB{c:nK}{v:aL}{p:Nat}{s:Iw}(hv:v=.iface 121 (dz p))(w1:aF)(R1:aJ)(o:Own w1 (dR b c v (.bD s)::R1)):Own w1 (wu p c.aI s::R1):=by
 obtain⟨q,hq,h⟩:=dR.wL.1 o;have e:p=q:=by rw[hv]at hq;unfold dz at hq;simpa using hq
 rw[e];exact h
theorem MX{c:nK}{v:aL}{p:Nat}{s s2:Iw}{P:Program}{g:Nat}{args:Array aL}{u:aL}(hv:v=.iface 121 (dz p))
  (h:∀R1,Own w (wu p c.aI s::R1)->Calls P g args w (aR u (wu p c.aI s2::R1) w)):gy P g args w (fun _:Unit=>u) (fun _=>[]) (dR b c v (.bD s)) (dR b c v (.bD s2)):=
 fun R1 o=>(h R1 (abB hv _ _ o)).mono fun e w' hr=>⟨(),hr.1,dR.wL.2 ⟨p,hv,hr.2.1⟩,hr.2.2⟩
theorem Xc{x:MB}{f:Int}(hok:Z7 m.aZ f)(o:Own w (ah b m x::R)):
  (∃p,x.sv=.iface 116 (dz p)/\Calls prog 340 #[dz p,f] w (aR (.int .i64 (u6 m.aZ f).1) (ah b {m with aZ:=(u6 m.aZ f).2} x::R) w))\/
  (∃p,x.sv=.iface 121 (dz p)/\Calls prog 410 #[dz p,f] w (aR (.int .i64 (u6 m.aZ f).1) (ah b {m with aZ:=(u6 m.aZ f).2} x::R) w))\/
  (∃p:Nat,x.sv=.iface 125 (.pointer (some ⟨p,0,none⟩))/\Calls prog 447 #[.pointer (some ⟨p,0,none⟩),f] w (aR (.int .i64 (u6 m.aZ f).1) (ah b {m with aZ:=(u6 m.aZ f).2} x::R) w)):=by
 have oS:=ah.sv o;cases hs:m.aZ with
 |fair N s=>rw[hs]at oS hok;obtain⟨p,hv,_⟩:=dR.DX.1 oS;refine .inl ⟨p,hv,?_⟩;refine(Hq (s2:=.fair N (rW s f).2) (by rw[hs];exact Tj hv (Tk hv) fun R1 oo=>GM f hok.1 hok.2 oo) o).mono ?_;rintro e w'⟨⟨⟩,h1,h2,h3⟩;exact⟨h1,h2,h3⟩
 |bD s=>rw[hs]at oS hok;obtain⟨p,hv,_⟩:=dR.wL.1 oS;obtain⟨N,hI⟩:=hok;refine .inr (.inl ⟨p,hv,?_⟩);refine(Hq (s2:=.bD (nD s f).2) (by rw[hs];exact MX hv fun R1 oo=>Es f hI oo) o).mono ?_;rintro e w'⟨⟨⟩,h1,h2,h3⟩;exact⟨h1,h2,h3⟩
 |timed r M=>
  rw[hs]at oS hok;obtain⟨x1,rb,mb,ks,⟨hv,hl⟩,_⟩:=dR.wM.1 oS;obtain⟨hu,hrl,i,st,hi,hr⟩:=hok;have hlv:u6 (.timed r M) f=(0,.timed (lvT r (M.eraseIdx i) st.id) (M.eraseIdx i)):=by unfold u6;dsimp only;rw[Ti hu hi];dsimp only;rw[hi];rfl
  rw[hlv];refine .inr (.inr ⟨x1,hv,?_⟩)
  refine(Hq (v:=fun _:Unit=>.int .i64 0) (E:=fun _=>[]) (s2:=.timed (lvT r (M.eraseIdx i) st.id) (M.eraseIdx i)) (by
   rw[hs];intro R1 oo;obtain⟨x1',rb,mb,ks,⟨hv',hl⟩,o1⟩:=dR.wM.1 oo;have e:x1=x1':=by rw[hv]at hv';simpa using hv'
   subst e;refine(Eu hl hu hi hr hrl o1).mono ?_;rintro e w'⟨h1,h2,h3⟩
   exact⟨(),h1,dR.wM.2 ⟨x1,rb,mb,ks.eraseIdx i,⟨hv,by rw[List.length_eraseIdx,List.length_eraseIdx,hl]⟩,h2⟩,h3⟩) o).mono ?_
  rintro e w'⟨⟨⟩,h1,h2,h3⟩;exact⟨h1,h2,h3⟩
theorem KJ:∀{L:bq}{f:Int},f∈L->∃i:Nat,L[i]?=some f/\(∀j,j<i->∀y,L[j]?=some y->y≠f)/\L.eraseIdx i=L.erase f
 |[],f,h=>by cases h
 |x::L,f,h=>by
  by_cases he:x=f
  ·subst he;exact⟨0,rfl,fun j hj=>absurd hj (Nat.not_lt_zero _),by simp⟩
  ·have hm:f∈L:=by
    rcases jc.1 h with h1|h1
    ·exact absurd h1.symm he
    ·exact h1
   obtain⟨i,h1,h2,h3⟩:=KJ hm;refine⟨i+1,by simpa using h1,fun j hj y hy=>?_,?_⟩
   ·cases j with
    |zero=>
     have:x=y:=by simpa using hy
     rw[<-this];exact he
    |succ j=>exact h2 j (by omega) y (by simpa using hy)
   ·rw[List.eraseIdx_cons_succ,h3,List.erase_cons_tail (by simpa using he)]
def UZ(m:aX)(f:Int):aX:=jM {m with act:=m.act.erase f,aZ:=(u6 m.aZ f).2} ⟨0,7,f,0,0,(u6 m.aZ f).1⟩
theorem MZ{f:Int}(hf:f∈m.act)(hal:m.act.length<=1000)(hok:Z7 m.aZ f)(Iz:m.log.length<=1000000)(o:Own w (aK b m::R)):
  Calls prog 81 #[b,f] w (aR (.tuple #[]) (aK b (UZ m f)::R) w):=by
 obtain⟨x,oX⟩:=ah.of o;obtain⟨i,hi,hia,hie⟩:∃i:Nat,FE m.act f=(i:Int)/\i<m.act.length/\m.act.eraseIdx i=m.act.erase f:=by obtain⟨i,h1,h2,h3⟩:=KJ hf;exact⟨i,JJ h1 h2,(eU.1 h1).1,h3⟩
 obtain⟨Ev,hbl⟩:=ah.cell (k:=27) rfl oX;have hIx:=Dc (c:=x.ac) f (by omega) (ah.afX oX);rw[hi]at hIx;have hw:IntKind.i64.wrap ((i:Int)+1)=(i:Int)+1:=by rw[gB];omega
 obtain⟨xJ,oP⟩:=ah.iff.1 oX;have hDe:=MW (i:=i) hia (by omega) (oP.up 10);have HIE:=az hie;have HIA:=az hia;have XX:=az xJ;have OH:=az hok;obtain⟨n,hn⟩:=aP m.act.length;have HN:=az hn;change World.cell? w ⟨b,27,none⟩=some (.slice x.aa m.act.length x.ac)at Ev;rw[hn]at hIx hDe Ev;clear hf hal hok hi hia hie xJ hn o oX oP;go_enter func81,ntmps81;go_wp2_with fail;refine hIx.mono ?_;rintro _ w1⟨rfl,rfl⟩;go_wp2_with fail;refine hDe.mono ?_;rintro _ w2⟨rfl,o2,k2⟩;have oC:Own w2 (aH b 75 (aW m x)::_):=o2.up 1;have d27:=Own.cell oC 27 rfl;obtain⟨df,dl,-⟩:=oC.cs;have hle:(m.act.erase f).length=n-1:=by rw[<-HIE.out,List.length_eraseIdx_of_lt HIA.out,HN.out]
 have V7:Own (w2.setCell ⟨b,27,none⟩ (.slice x.aa (n-1) x.ac)) (ah b {m with act:=m.act.erase f} x::R):=by
  refine ah.iff.2 ⟨XX.out,?_⟩;have oC2:=oC.setCell 27 (.slice x.aa (n-1) x.ac);have e1:(aW m x).set 27 (.slice x.aa (n-1) x.ac)=aW {m with act:=m.act.erase f} x:=by unfold aW;dsimp only;rw[hle];rfl
  rw[e1,HIE.out]at oC2;exact oC2.re [0,2,3,4,5,6,7,8,9,10,1]
 have K2:=ay (x:=⟨b,27,none⟩) (v:=.slice x.aa (n-1) x.ac) k2;have hSc:=Xc (m:={m with act:=m.act.erase f}) OH.out V7;obtain⟨Tm,_⟩:=ah.cell (k:=26) rfl V7;change World.cell? _ ⟨b,26,none⟩=some x.sv at Tm;have HL:=az Iz;clear hIx hDe Ev o2 oC V7 Iz k2 hle;rcases hSc with⟨p,hv,hC⟩|⟨p,hv,hC⟩|⟨p,hv,hC⟩
 all_goals
  rw[hv]at Tm;go_wp2_with fail;refine hC.mono ?_;rintro _ w3⟨rfl,o3,k3⟩;have hW:=nM (m:={m with act:=m.act.erase f,aZ:=(u6 m.aZ f).2}) ⟨0,7,f,0,0,(u6 m.aZ f).1⟩ HL.out o3;clear hC Tm d27 df dl hv;go_wp2_with fail;refine hW.mono ?_;rintro _ w4⟨la,lc,rfl,o4,k4⟩;go_wp2;go_end0;exact⟨rfl,ah.to o4,(K2.trans k3).trans k4⟩
end
section
variable{W w w':aF}{R:aJ}{b:Nat}{m:aX}
def wN(T:yV):zG->jd->zG
 |.fair N s,f=>.fair N (wH s f.id f.wt).2
 |.bD s,f=>.bD (wz s f.id f.wt f.lag f.lead).2
 |.timed r M,f=>match WI T.S f.fU with
  |some st=>.timed (Au r st.id st.wt).2 (M++[(f.id,st)])
  |none=>.timed r M
def Z8(T:yV):zG->jd->Prop
 |.fair _ s,f=>gG s.R f.id f.wt=0->(jD s.D f.id f.wt).1=0
 |.bD _,_=>True
 |.timed r M,f=>f.id∉M.map (·.1)/\r.O.length<=100/\(256<=r.q/\r.q<=1048576)/\∃st:rV,WI T.S f.fU=some st/\(0<=st.id/\st.id<16)/\(1<=st.wt/\st.wt<=16)
theorem Z9{x:MB}{f:jd}(hT:m.tab.Ok)(hok:Z8 m.tab m.aZ f)(o:Own w (ah b m x::R)):
  (∃p,x.sv=.iface 116 (dz p)/\Calls prog 339 #[dz p,lN f] w (aR (.tuple #[]) (ah b {m with aZ:=wN m.tab m.aZ f} x::R) w))\/
  (∃p,x.sv=.iface 121 (dz p)/\Calls prog 409 #[dz p,lN f] w (aR (.tuple #[]) (ah b {m with aZ:=wN m.tab m.aZ f} x::R) w))\/
  (∃p:Nat,x.sv=.iface 125 (.pointer (some ⟨p,0,none⟩))/\Calls prog 446 #[.pointer (some ⟨p,0,none⟩),lN f] w (aR (.tuple #[]) (ah b {m with aZ:=wN m.tab m.aZ f} x::R) w)):=by
 have oS:=ah.sv o;cases hs:m.aZ with
 |fair N s=>rw[hs]at oS hok;obtain⟨p,hv,_⟩:=dR.DX.1 oS;refine .inl ⟨p,hv,?_⟩;refine(Hq (s2:=.fair N (wH s f.id f.wt).2) (by rw[hs];exact Tj hv (Tk hv) fun R1 oo=>Jh f hok oo) o).mono ?_;rintro e w'⟨⟨⟩,h1,h2,h3⟩;exact⟨h1,h2,h3⟩
 |bD s=>rw[hs]at oS hok;obtain⟨p,hv,_⟩:=dR.wL.1 oS;refine .inr (.inl ⟨p,hv,?_⟩);refine(Hq (s2:=.bD (wz s f.id f.wt f.lag f.lead).2) (by rw[hs];exact MX hv fun R1 oo=>G9 f oo) o).mono ?_;rintro e w'⟨⟨⟩,h1,h2,h3⟩;exact⟨h1,h2,h3⟩
 |timed r M=>
  rw[hs]at hok;obtain⟨hno,hrl,hq,st,hst,hi,hw⟩:=hok;obtain⟨hx,o1⟩:=ah.iff.1 o
  have o2:Own w (dR b m.cfg x.sv (.timed r M)::aH b 75 (aW m x)::dM x.tb m.tab::slc 206 5 x.ua m.rules.length x.uc (flat IA m.rules)::slc 136 1 x.qa m.qs.length x.qc (m.qs.map pv)::SP.st (List.zipWith dQ m.qs m.Q)::
    slc 176 1 x.sa m.ss.length x.sc (m.ss.map pv)::SP.st (List.zipWith iN m.ss m.S)::iV x.lb m.jy::slc 170 5 x.pa m.dY.length x.pc (flat bR m.dY)::bZ x.aa x.ac m.act::slc 51 6 x.la m.log.length x.lc (flat recC m.log)::jG x.ra x.rc m.cfg.bQ::R):=by
   rw[<-hs];exact o1.re [9,0,1]
  obtain⟨x1,rb,mb,ks,⟨hv,hl⟩,o3⟩:=dR.wM.1 o2;have hlv:wN m.tab (.timed r M) f=.timed (Au r st.id st.wt).2 (M++[(f.id,st)]):=by unfold wN;dsimp only;rw[hst]
  rw[hlv];refine .inr (.inr ⟨x1,hv,?_⟩);refine(Ho (cs:=aW m x) (tb:=x.tb) rfl hT hst hl hno hi hw hq hrl (o3.re [0,1,2,3,4,5])).mono ?_;rintro e w'⟨k,h1,h2,h3⟩;refine⟨h1,ah.iff.2 ⟨hx,?_⟩,h3⟩;have h4:Own w' (dR b m.cfg x.sv (.timed (Au r st.id st.wt).2 (M++[(f.id,st)]))::_):=dR.wM.2 ⟨x1,rb,mb,ks++[k],⟨hv,by rw[jf,jf,hl];rfl⟩,h2⟩;exact h4.re [1,2,3,4,5,6,7,8,9,0]
def Ht(m:aX)(f:jd):aX:=jM {m with act:=iI (m.act++[f.id]),aZ:=wN m.tab m.aZ f} ⟨0,8,f.id,0,0,f.wt⟩
theorem Qo{f:jd}(hal:m.act.length<=1000)(hT:m.tab.Ok)(hok:Z8 m.tab m.aZ f)(Iz:m.log.length<=1000000)(o:Own w (aK b m::R)):
  Calls prog 94 #[b,lN f] w (aR (.tuple #[]) (aK b (Ht m f)::R) w):=by
 obtain⟨x,oX⟩:=ah.of o;obtain⟨fid,fst,wt,pk,eG,lag,lead⟩:=f;have HM:=az (show Ht m ⟨fid,fst,wt,pk,eG,lag,lead⟩=jM {m with act:=iI (m.act++[fid]),aZ:=wN m.tab m.aZ ⟨fid,fst,wt,pk,eG,lag,lead⟩} ⟨0,8,fid,0,0,wt⟩from rfl);show Calls _ _ #[_,.agg #[fid,fst,wt,pk,eG,lag,lead]] w _;have oA:Own (w.alloc (.cells #[fid,fst,wt,pk,eG,lag,lead] 167)) (aH w.heap.size 167 [fid,fst,wt,pk,eG,lag,lead]::ah b m x::R):=oX.alloc (.cells #[fid,fst,wt,pk,eG,lag,lead] 167);have K0:=aj (x:=.cells #[fid,fst,wt,pk,eG,lag,lead] 167) (Calm.refl w);have OH:=az hok;have HT:=az hT;have HL:=az Iz;obtain⟨n,hn⟩:=aP m.act.length;have HN:=az hn;rw[hn]at hal;clear hok hT Iz o oX hn;go_enter func94,ntmps94;go_upto_region 1 with fail;generalize w.alloc (.cells #[fid,fst,wt,pk,eG,lag,lead] 167)=w0 at*;generalize w.heap.size=kf at*;obtain⟨xJ,oP⟩:=ah.iff.1 (oA.up 1);have XX:=az xJ;have oQ:Own w0 (aH kf 167 [fid,fst,wt,pk,eG,lag,lead]::bZ x.aa x.ac m.act::aH b 75 (aW m x)::_):=oP.re [13,10,0];have f0:=oQ.cell 0;change World.cell? _ ⟨kf,0,none⟩=some ↑fid at f0;have Ev:=Own.cell (oQ.up 2) 27 rfl;obtain⟨cf,cl,-⟩:=(oQ.up 2).cs;have fl:=oQ.aS;change World.cell? _ ⟨b,27,none⟩=some (.slice x.aa m.act.length x.ac)at Ev;rw[HN.out]at Ev;have oI:=oQ.up 1;unfold bZ at oI;rw[HN.out]at oI;have oY:Own (w0.drew.alloc (.cells #[fid] 3)) (aH w0.heap.size 3 [fid]::_):=oI.drew.alloc (.cells #[fid] 3);have hnw:=Own.news (T:=3) (vs:=[fid]) oY;clear oA oP xJ oQ
 go_region_law(first
  |(refine gD rfl _ _ rfl Tryz.intTk rfl (oY.up 1) rfl ⟨_,_,rfl,rfl,by intro u hu;simp only[jc,xN,or_false]at hu;subst hu;rfl,.inr ⟨_,rfl,hnw⟩⟩ (by unfold maxLen;omega) (by omega) ?_;intro a2 c2 w5 o5 k5;have z27:=Own.cell (o5.up 3) 27 rfl;have zf:=(o5.up 3).frozen;have zl:=(o5.up 3).aS))
 all_goals
  have KF:=ay (x:=⟨b,27,none⟩) (v:=.slice a2 (n+1) c2) ((aj (aD K0)).trans k5);have oG:=(o5.up 3).setCell 27 (.slice a2 (n+1) c2);have hlen:(m.act++[fid]).length=n+1:=by rw[jf,HN.out];rfl
  have e1:(aW m x).set 27 (.slice a2 (n+1) c2)=aW {m with act:=m.act++[fid]} {x with aa:=a2,ac:=c2}:=by unfold aW;dsimp only;rw[hlen];rfl
  rw[e1]at oG;have oH:Own (w5.setCell ⟨b,27,none⟩ (.slice a2 (n+1) c2)) (ah b {m with act:=m.act++[fid]} {x with aa:=a2,ac:=c2}::aH kf 167 [fid,fst,wt,pk,eG,lag,lead]::R):=by
   refine ah.iff.2 ⟨XX.out,?_⟩;have hS:bZ a2 c2 (m.act++[fid])=slc 3 1 a2 (n+1) c2 (m.act.map (Value.int .i64)++[.int .i64 fid]):=by unfold bZ;rw[hlen,tJ];rfl
   unfold bX;dsimp only;rw[hS];exact oG.re [2,0,4,5,6,7,8,9,10,11,12,1,13,14,3] 1
  generalize w5.setCell ⟨b,27,none⟩ (.slice a2 (n+1) c2)=w6 at*;clear hnw oY o5 k5 z27 zf zl Ev cf cl f0 fl oI oG e1;obtain⟨d27,dl⟩:=ah.cell (k:=27) rfl oH;change World.cell? _ ⟨b,27,none⟩=some (.slice a2 (m.act++[fid]).length c2)at d27;rw[hlen]at d27;have hso:=ah.MM (b:=b) (m:={m with act:=m.act++[fid]}) (x:={x with aa:=a2,ac:=c2}) (m':={m with act:=iI (m.act++[fid])}) (x':={x with aa:=a2,ac:=c2}) 10 (A:=bZ a2 c2 (m.act++[fid])) (A':=bZ a2 c2 (iI (m.act++[fid]))) (fun _=>rfl)
   (fun R=>by
    have e2:aW {m with act:=m.act++[fid]} {x with aa:=a2,ac:=c2}=aW {m with act:=iI (m.act++[fid])} {x with aa:=a2,ac:=c2}:=by unfold aW;dsimp only;rw[qd]
    show aH b _ (aW {m with act:=m.act++[fid]} {x with aa:=a2,ac:=c2})::_=aH b _ (aW {m with act:=iI (m.act++[fid])} {x with aa:=a2,ac:=c2})::_;rw[e2]
    rfl)
   ⟨rfl,rfl,rfl,rfl⟩ (gy.one fun R1 oo=>Mc (by rw[hlen];omega) oo) oH
  rw[hlen]at hso;go_wp2_with fail;refine hso.mono ?_;rintro _ w7⟨⟨⟩,rfl,o7,k7⟩;have K7:=KF.trans k7;have o8:Own w7 (ah b {m with act:=iI (m.act++[fid])} {x with aa:=a2,ac:=c2}::aH kf 167 [fid,fst,wt,pk,eG,lag,lead]::R):=o7;clear hso oH d27 dl KF k7 o7;obtain⟨-,-,f0,f1,f2,f3,f4,f5,f6,-⟩:=(o8.up 1).cs;change World.cell? _ ⟨kf,0,none⟩=some ↑fid at f0;change World.cell? _ ⟨kf,1,none⟩=some ↑fst at f1;change World.cell? _ ⟨kf,2,none⟩=some ↑wt at f2;change World.cell? _ ⟨kf,3,none⟩=some ↑pk at f3;change World.cell? _ ⟨kf,4,none⟩=some ↑eG at f4;change World.cell? _ ⟨kf,5,none⟩=some ↑lag at f5;change World.cell? _ ⟨kf,6,none⟩=some ↑lead at f6;have fl:=(o8.up 1).aS;obtain⟨Tm,_⟩:=ah.cell (k:=26) rfl o8;change World.cell? _ ⟨b,26,none⟩=some x.sv at Tm;have hSc:=Z9 (m:={m with act:=iI (m.act++[fid])}) (x:={x with aa:=a2,ac:=c2}) (f:=⟨fid,fst,wt,pk,eG,lag,lead⟩) HT.out OH.out o8.drew;rcases hSc with⟨p,hv,hC⟩|⟨p,hv,hC⟩|⟨p,hv,hC⟩
  all_goals
   change Calls _ _ #[_,.agg #[fid,fst,wt,pk,eG,lag,lead]] _ _ at hC;change x.sv=_ at hv;rw[hv]at Tm;go_upto_region 3 with fail;refine wp_region_tail 5 (by kernel_rfl) (by kernel_rfl) ?_;simp only[xe,List.take_zero,yB,List.drop_zero];repeat still_step
   refine wpStill_nil ?_;go_wp2_with fail;refine hC.mono ?_;rintro _ w9⟨rfl,o9,k9⟩;have K9:=(aD K7).trans k9;have hW:=nM (m:={m with act:=iI (m.act++[fid]),aZ:=wN m.tab m.aZ ⟨fid,fst,wt,pk,eG,lag,lead⟩}) ⟨0,8,fid,0,0,wt⟩ HL.out o9;obtain⟨-,-,g0,-,g2,-⟩:=(o9.up 1).cs;change World.cell? _ ⟨kf,0,none⟩=some ↑fid at g0;change World.cell? _ ⟨kf,2,none⟩=some ↑wt at g2;clear hC Tm f0 f1 f2 f3 f4 f5 f6 fl hv;go_wp2_with fail;refine hW.mono ?_;rintro _ wa⟨la,lc,rfl,oa,ka⟩;go_wp2;go_end0;rw[HM.out];exact⟨rfl,ah.to (oa.re [1] 1),K9.trans ka⟩
def A7(m:aX)(f:jd):Bool:=match m.S[f.fU.toNat]?,m.Q[f.id.toNat]? with
 |some s,some q=>PN m s q f.id
 |_,_=>false
structure U0(m:aX)(f:jd):Prop where
 ex:∃(i j:Nat)(s:lM)(q:xP),f.id=(j:Int)/\f.fU=(i:Int)/\m.S[i]?=some s/\m.Q[j]?=some q/\s.sd.Ok/\∀x∈s.sd.P,1<=x.id/\x.id<=(m.dY.length:Int)
 pk:m.dY.length<=1000000
theorem zo{x:MB}{f:jd}(h:U0 m f)(o:Own w (ah b m x::R)):
  Calls prog 93 #[b,lN f] w (aR (.bool (A7 m f)) (ah b m x::R) w):=by
 obtain⟨i,j,s,q,h1,h2,h3,h4,h5,h6⟩:=h.ex;obtain⟨hx,_⟩:=ah.iff.1 o;obtain⟨p,hp⟩:∃p,m.ss[i]?=some p:=⟨_,cZ (by rw[hx.2];exact(eU.1 h3).1)⟩;obtain⟨pq,hpq⟩:∃p,m.qs[j]?=some p:=⟨_,cZ (by rw[hx.1];exact(eU.1 h4).1)⟩;have e:A7 m f=PN m s q f.id:=by unfold A7;rw[h1,h2,Int.toNat_natCast,Int.toNat_natCast,h3,h4]
 rw[e];exact Cs h1 h2 hp h3 hpq h4 h5 h6 h.pk o
def fJ(m:aX)(id:Int):aX:=match lG m.tab.F id with
 |some f=>if A7 m f=true then m else UZ m id
 |none=>m
structure afY(m:aX)(id:Int):Prop where
 fl:∃f,lG m.tab.F id=some f/\U0 m f
 ac:id∈m.act
 al:m.act.length<=1000
 ok:Z7 m.aZ id
 lg:m.log.length<=1000000
 tab:m.tab.Ok
def nE(m:aX)(f:jd):aX:=if(A7 m f&&!m.act.contains f.id)=true then Ht m f else m
structure afZ(m:aX)(f:jd):Prop where
 bk:U0 m f
 al:m.act.length<=1000
 ok:(A7 m f&&!m.act.contains f.id)=true->Z8 m.tab m.aZ f
 lg:m.log.length<=1000000
 tab:m.tab.Ok
def dK(m:aX):aX:=(dO (m.act.foldl fJ m).tab.F).foldl nE (m.act.foldl fJ m)
structure Qp(m:aX):Prop where
 al:m.act.length<=1000
 lv:∀(k:Nat)(id:Int),m.act[k]?=some id->afY ((m.act.take k).foldl fJ m) id
 tab:(m.act.foldl fJ m).tab.Ok
 jn:∀(k:Nat)(f:jd),(dO (m.act.foldl fJ m).tab.F)[k]?=some f->afZ (((dO (m.act.foldl fJ m).tab.F).take k).foldl nE (m.act.foldl fJ m)) f
def acY(m:aX)(b:Nat)(L:bq)(a:aY)(c:Nat)(R:aJ)(w:aF)(_ _ _ v14:aL)(wr:aF):Prop:=
 ∃i:Nat,v14=↑(i:Int)/\i<=L.length/\Own wr (aK b ((L.take i).foldl fJ m)::bZ a c L::R)/\Calm w wr
theorem lH{α β:Type}(g:β->α->β)(L:List α)(i:Nat)(x:α)(hx:L[i]?=some x)(y:β):(L.take (i+1)).foldl g y=g ((L.take i).foldl g y) x:=by rw[tH,hx,Option.toList_some,List.foldl_append];rfl
def acZ(m:aX)(b:Nat)(L:List jd)(n:Nat)(a:aY)(c:Nat)(R:aJ)(w:aF)(_ v41:aL)(wr:aF):Prop:=
 ∃i:Nat,v41=↑(i:Int)/\i<=n/\Own wr (aK b ((L.take i).foldl nE m)::slc 167 7 a n c (flat jv L)::R)/\Calm w wr
theorem Jm(hP:Qp m)(o:Own w (aK b m::R)):
  Calls prog 59 #[b] w (aR (.tuple #[]) (aK b (dK m)::R) w):=by
 obtain⟨x,oX⟩:=ah.of o;obtain⟨xJ,oP⟩:=ah.iff.1 oX;have hCl:=I1 (L:=m.act) (by have:=hP.al;omega) (oP.up 10);obtain⟨Ev,hbl⟩:=ah.cell (k:=27) rfl oX;change World.cell? _ ⟨b,27,none⟩=some (.slice x.aa m.act.length x.ac)at Ev;have HP:=az hP;have HX:=az xJ;obtain⟨L,hL⟩:=aP m.act;have HL:=az hL;obtain⟨n,hn⟩:=aP m.act.length;have HN:=az hn;rw[hn]at hCl Ev;have hn1:n<=1000:=by rw[<-hn];exact hP.al
 clear hP xJ hL hn o oX;go_enter func59,ntmps59;go_wp2_with fail;refine hCl.mono ?_;rintro _ w2⟨a1,c1,rfl,o2,k2⟩;have o3:Own w2 (aK b m::bZ a1 c1 m.act::R):=ah.to (ah.iff.2 ⟨HX.out,o2.re [2,3,4,5,6,7,8,9,10,11,1,12,13,0]⟩);rw[HL.out]at o3;have hT:acY m b L a1 c1 R w undef undef undef (.int .i64 0) w2:=⟨0,rfl,by omega,o3,k2⟩;clear hCl Ev o2 k2 o3 oP hbl;go_wp2;go_loopw[3,4,5,14] (fun v3 v4 v5 v14 wr=>acY m b L a1 c1 R w v3 v4 v5 v14 wr) (fun _ _ _ v _=>n-(Lib.intOf v).toNat);case atStart=>exact hT
 case round=>
  clear hT;obtain⟨i,rfl,hi,oR,kR⟩:=hrel;have hln:L.length=n:=by rw[<-HL.out,HN.out]
  have Eo:=az hln;rw[hln]at hi;clear hln;by_cases hil:i<n
  ·obtain⟨id,hid⟩:∃id,L[i]?=some id:=⟨_,cZ (by rw[Eo.out];exact hil)⟩;have hLv:=HP.out.lv i id (by rw[HL.out];exact hid);rw[HL.out]at hLv;have Ee:=az (lH fJ L i id hid m);obtain⟨mk,hmk⟩:=aP ((L.take i).foldl fJ m);have U1:=az hmk;rw[hmk]at oR hLv;obtain⟨f,hf,hbk⟩:=hLv.fl;have HF:=az hf;have HBK:=az hbk;have HLV:=az hLv;obtain⟨x',oX⟩:=ah.of oR;have hv:GJ mk.tab.F id=.tuple #[.agg (jv f).toArray,.bool true]:=by unfold GJ;rw[hf]
   have Tn:=ah.SL (gy.one fun R1 oo=>rH id hLv.tab oo) oX;rw[hv]at Tn;unfold jv at Tn;obtain⟨c20,cl⟩:=ah.cell (k:=20) rfl oX;change World.cell? _ ⟨b,20,none⟩=some (.pointer (some ⟨x'.tb,0,none⟩))at c20;have oI:=oX.up 1;unfold bZ at oI;rw[Eo.out]at oI;obtain⟨g,rfl,hc,_,hgl⟩:=oI.aG (by omega);have e0:=hc i (.int .i64 id) (by rw[kI,hid];rfl);clear hc oI hmk hf hbk hLv hid hv;go_wp2_with fail;refine Tn.mono ?_;rintro _ w3⟨⟨⟩,rfl,o3,k3⟩;have K3:=kR.trans k3;have o4:Own (w3.alloc (.cells #[f.id,f.fU,f.wt,f.pk,f.eG,f.lag,f.lead] 167)) (aH w3.heap.size 167 [f.id,f.fU,f.wt,f.pk,f.eG,f.lag,f.lead]::ah b mk x'::bZ (some ⟨g,0,none⟩) c1 L::R):=o3.alloc (.cells #[f.id,f.fU,f.wt,f.pk,f.eG,f.lag,f.lead] 167);have K4:=aj (x:=.cells #[f.id,f.fU,f.wt,f.pk,f.eG,f.lag,f.lead] 167) K3;have hB:=zo HBK.out (o4.up 1);unfold lN at hB;clear Tn c20 cl e0 hgl o3 k3 oX K3 kR;go_wp2_with fail;refine hB.mono ?_;rintro _ w5⟨rfl,o5,k5⟩;have K5:=K4.trans k5;obtain⟨Z,hZ⟩:=aP (A7 mk f);have HZ:=az hZ;rw[hZ];clear hB o4 K4 k5 hZ;cases Z with
   |true=>
    go_wp2;go_roundw;case rel=>refine⟨i+1,by go_num,by rw[Eo.out];omega,?_,K5⟩;rw[Ee.out,U1.out];unfold fJ;rw[HF.out];dsimp only;rw[if_pos HZ.out];exact(ah.to (o5.re [1] 1))
    case measure=>simp[Lib.intOf];omega
   |false=>
    have Z_:=MZ HLV.out.ac HLV.out.al HLV.out.ok HLV.out.lg (ah.to (o5.re [1] 1));go_wp2_with fail;refine Z_.mono ?_;rintro _ w6⟨rfl,o6,k6⟩;clear Z_ o5;go_wp2;go_roundw;case rel=>refine⟨i+1,by go_num,by rw[Eo.out];omega,?_,K5.trans k6⟩;rw[Ee.out,U1.out];unfold fJ;rw[HF.out];dsimp only;rw[if_neg (by rw[HZ.out];decide)];exact o6
    case measure=>simp[Lib.intOf];omega
  ·have hin:i=n:=by omega
   have Ef:(L.take i).foldl fJ m=m.act.foldl fJ m:=by rw[hin,<-Eo.out,List.take_length,HL.out]
   rw[Ef]at oR;subst hin;clear Ef;have hMM:=az (show dK m=(dO (m.act.foldl fJ m).tab.F).foldl nE (m.act.foldl fJ m)from rfl);have Qq:=HP.out.tab;have hJn:=HP.out.jn;generalize m.act.foldl fJ m=m2 at*;obtain⟨x2,oX⟩:=ah.of oR;have U2:=ah.SL (P:=prog) (g:=56) (args:=#[x2.tb]) (v:=fun y:aY×Nat=>.slice y.1 (dO m2.tab.F).length y.2) (E:=fun y=>[slc 167 7 y.1 (dO m2.tab.F).length y.2 (flat jv (dO m2.tab.F))])
    (fun R1 oo=>(zn Qq oo).mono fun e w'⟨a',c',h⟩=>⟨(a',c'),h⟩) oX
   obtain⟨c20,cl⟩:=ah.cell (k:=20) rfl oX;change World.cell? _ ⟨b,20,none⟩=some (.pointer (some ⟨x2.tb,0,none⟩))at c20;obtain⟨F,hF⟩:=aP (dO m2.tab.F);have Tn:F.length<=32:=by rw[<-hF];unfold dO;rw[iP];exact Nat.le_trans (List.length_filter_le _ _) Qq.fl
   rw[hF]at U2 hMM hJn;obtain⟨nf,hnf⟩:=aP F.length;have HNF:=az hnf;have HJN:=az hJn;rw[hnf]at U2 Tn;clear hnf hF hJn hil hi oR;go_wp2_with fail;refine U2.mono ?_;rintro _ w3⟨⟨a3,c3⟩,rfl,o3,k3⟩;have o4:Own w3 (aK b m2::slc 167 7 a3 nf c3 (flat jv F)::bZ a1 c1 L::R):=ah.to (o3.re [1]);have hT:acZ m2 b F nf a3 c3 (bZ a1 c1 L::R) w undef (.int .i64 0) w3:=⟨0,rfl,by omega,o4,kR.trans k3⟩;clear U2 c20 cl o3 k3 o4 oX kR;go_wp2;go_loopw[7,41] (fun v7 v41 wr=>acZ m2 b F nf a3 c3 (bZ a1 c1 L::R) w v7 v41 wr) (fun _ v _=>nf-(Lib.intOf v).toNat);case atStart=>exact hT
   case round=>
    clear hT;obtain⟨j,rfl,hj,oR,kR⟩:=hrel;by_cases hjl:j<nf
    ·obtain⟨f,hf⟩:∃f,F[j]?=some f:=⟨_,cZ (by rw[HNF.out];exact hjl)⟩;have hJ:=HJN.out j f hf;have Ee:=az (lH nE F j f hf m2);obtain⟨mk,hmk⟩:=aP ((F.take j).foldl nE m2);have U1:=az hmk;rw[hmk]at oR hJ;have HJ:=az hJ;obtain⟨x',oX⟩:=ah.of oR;obtain⟨g,rfl,hc,_,hgl⟩:=(oX.up 1).aG (by omega);have e0:=hc (j*7+0) f.id (by rw[aB dN F j 0 f hf (by omega)];rfl);have e1:=hc (j*7+1) f.fU (by rw[aB dN F j 1 f hf (by omega)];rfl);have e2:=hc (j*7+2) f.wt (by rw[aB dN F j 2 f hf (by omega)];rfl);have e3:=hc (j*7+3) f.pk (by rw[aB dN F j 3 f hf (by omega)];rfl);have e4:=hc (j*7+4) f.eG (by rw[aB dN F j 4 f hf (by omega)];rfl);have e5:=hc (j*7+5) f.lag (by rw[aB dN F j 5 f hf (by omega)];rfl);have e6:=hc (j*7+6) f.lead (by rw[aB dN F j 6 f hf (by omega)];rfl);rw[Nat.add_zero]at e0;have oA:Own (wr.alloc (.cells #[f.id,f.fU,f.wt,f.pk,f.eG,f.lag,f.lead] 167)) (aH wr.heap.size 167 [f.id,f.fU,f.wt,f.pk,f.eG,f.lag,f.lead]::ah b mk x'::_):=oX.alloc (.cells #[f.id,f.fU,f.wt,f.pk,f.eG,f.lag,f.lead] 167);have kA:=aj (x:=.cells #[f.id,f.fU,f.wt,f.pk,f.eG,f.lag,f.lead] 167) kR;clear hc hf hmk hJ oX oR kR;go_upto_region 10 with fail;clear e0 e1 e2 e3 e4 e5 e6 hgl;generalize wr.alloc (.cells #[f.id,f.fU,f.wt,f.pk,f.eG,f.lag,f.lead] 167)=w4 at*;generalize wr.heap.size=kx at*;have hB:=zo HJ.out.bk (oA.drew.up 1);unfold lN at hB;obtain⟨-,-,f0,f1,f2,f3,f4,f5,f6,-⟩:=oA.cs;change World.cell? _ ⟨kx,0,none⟩=some ↑f.id at f0;change World.cell? _ ⟨kx,1,none⟩=some ↑f.fU at f1;change World.cell? _ ⟨kx,2,none⟩=some ↑f.wt at f2;change World.cell? _ ⟨kx,3,none⟩=some ↑f.pk at f3;change World.cell? _ ⟨kx,4,none⟩=some ↑f.eG at f4;change World.cell? _ ⟨kx,5,none⟩=some ↑f.lag at f5;change World.cell? _ ⟨kx,6,none⟩=some ↑f.lead at f6;obtain⟨na,hna⟩:=aP mk.act.length;have HNA:=az hna;have hal:=HJ.out.al;rw[hna]at hal;obtain⟨Ev,cl⟩:=ah.cell (k:=27) rfl (oA.up 1);change World.cell? _ ⟨b,27,none⟩=some (.slice x'.aa mk.act.length x'.ac)at Ev;rw[hna]at Ev;clear hna;obtain⟨Z,hZ⟩:=aP (A7 mk f);have HZ:=az hZ;rw[hZ]at hB;clear hZ;cases Z with
     |true=>
      obtain⟨CB,hCB⟩:=aP (mk.act.contains f.id);have HCB:=az hCB;clear hCB
      go_region_held3(fun w'=>w'.cell? ⟨kx,0,none⟩=some ↑f.id/\w'.cell? ⟨kx,1,none⟩=some ↑f.fU/\w'.cell? ⟨kx,2,none⟩=some ↑f.wt/\w'.cell? ⟨kx,3,none⟩=some ↑f.pk/\w'.cell? ⟨kx,4,none⟩=some ↑f.eG/\w'.cell? ⟨kx,5,none⟩=some ↑f.lag/\w'.cell? ⟨kx,6,none⟩=some ↑f.lead/\w'.cell? ⟨b,27,none⟩=some (.slice x'.aa na x'.ac)) (go_keep) (first
       |(go_at_call 93;(with_reducible refine Calls.mono hB ?_);rintro _ w8⟨rfl,o8,k8⟩;have z0:=(o8.up 1).cell 0;have z1:=(o8.up 1).cell 1;have z2:=(o8.up 1).cell 2;have z3:=(o8.up 1).cell 3;have z4:=(o8.up 1).cell 4;have z5:=(o8.up 1).cell 5;have z6:=(o8.up 1).cell 6;change World.cell? w8 ⟨kx,0,none⟩=some ↑f.id at z0;change World.cell? w8 ⟨kx,1,none⟩=some ↑f.fU at z1;change World.cell? w8 ⟨kx,2,none⟩=some ↑f.wt at z2;change World.cell? w8 ⟨kx,3,none⟩=some ↑f.pk at z3;change World.cell? w8 ⟨kx,4,none⟩=some ↑f.eG at z4;change World.cell? w8 ⟨kx,5,none⟩=some ↑f.lag at z5;change World.cell? w8 ⟨kx,6,none⟩=some ↑f.lead at z6;obtain⟨z27,_⟩:=ah.cell (k:=27) rfl o8;change World.cell? w8 ⟨b,27,none⟩=some (.slice x'.aa mk.act.length x'.ac)at z27;rw[HNA.out]at z27;have hCo:=De (c:=x'.ac) f.id (by rw[HNA.out];omega) (ah.afX o8);rw[HNA.out,HCB.out]at hCo)
       |(go_at_call 79;(with_reducible refine Calls.mono hCo ?_);rintro _ _⟨rfl,rfl⟩))
      have KF:=(aD kA).trans k8;clear hCo hB z27 f0 f1 f2 f3 f4 f5 f6 Ev cl;cases CB with
      |true=>
       go_wp2;go_roundw;case rel=>refine⟨j+1,by go_num,by omega,?_,KF⟩;rw[Ee.out,U1.out];unfold nE;rw[HZ.out,HCB.out,if_neg (by decide)];exact ah.to (o8.re [1] 1)
       case measure=>simp[Lib.intOf];omega
      |false=>
       have hJo:=Qo HJ.out.al HJ.out.tab (HJ.out.ok (by rw[HZ.out,HCB.out];rfl)) HJ.out.lg (ah.to (o8.re [1] 1));unfold lN at hJo;obtain⟨-,-,z0,z1,z2,z3,z4,z5,z6,-⟩:=(o8.up 1).cs;change World.cell? w8 ⟨kx,0,none⟩=some ↑f.id at z0;change World.cell? w8 ⟨kx,1,none⟩=some ↑f.fU at z1;change World.cell? w8 ⟨kx,2,none⟩=some ↑f.wt at z2;change World.cell? w8 ⟨kx,3,none⟩=some ↑f.pk at z3;change World.cell? w8 ⟨kx,4,none⟩=some ↑f.eG at z4;change World.cell? w8 ⟨kx,5,none⟩=some ↑f.lag at z5;change World.cell? w8 ⟨kx,6,none⟩=some ↑f.lead at z6;go_wp2_with fail;refine hJo.mono ?_;rintro _ w9⟨rfl,o9,k9⟩;clear hJo o8 z0 z1 z2 z3 z4 z5 z6;go_wp2;go_roundw;case rel=>refine⟨j+1,by go_num,by omega,?_,KF.trans k9⟩;rw[Ee.out,U1.out];unfold nE;rw[HZ.out,HCB.out,if_pos (by decide)];exact o9
       case measure=>simp[Lib.intOf];omega
     |false=>
      have HB:=az (fun(w1:aF)(R1:aJ)(oo:Own w1 (ah b mk x'::R1))=>show Calls prog 93 #[b,.agg #[f.id,f.fU,f.wt,f.pk,f.eG,f.lag,f.lead]] w1 (aR (.bool false) (ah b mk x'::R1) w1)by
       have h1:=zo HJ.out.bk oo;rw[HZ.out]at h1
       exact h1)
      obtain⟨PA,hPA⟩:=aP (bZ a1 c1 L);have HPA:=az hPA;rw[hPA]at oA;clear hPA hB f0 f1 f2 f3 f4 f5 f6 Ev cl;refine bY (fun L v wc=>Own wc (aH kx 167 [f.id,f.fU,f.wt,f.pk,f.eG,f.lag,f.lead]::ah b mk x'::slc 167 7 (some ⟨g,0,none⟩) nf c3 (flat jv F)::PA::R)/\Calm w wc/\ji (fun i=>([some (.pointer (some ⟨b,0,none⟩)),some (.agg #[f.id,f.fU,f.wt,f.pk,f.eG,f.lag,f.lead]),some (.bool false),some (.bool false),some (undef),some (undef),some (undef),some (undef),some (undef),some (undef),some (undef),some (undef),some (.bool false)]:List (Option aL)).getD i none) L v) (by kernel_rfl) (by kernel_rfl) (by kernel_rfl) ?h0 ?step ?fin;case h0=>exact⟨oA.drew,aD kA,ji.no⟩
      case step=>
       refine⟨au.mk rfl ?_,au.mk rfl ?_,au.mk rfl ?_,au.mk rfl ?_,au.skip rfl rfl (by kernel_rfl) (fun L v w hI hl=>hI.2.2 3 _ rfl hl) (fun L v w hL hI=>⟨hI.1,hI.2.1,hI.2.2.put 4 dS⟩),au.skip rfl rfl (by kernel_rfl) (fun L v w hI hl=>hI.2.2 3 _ rfl hl) (fun L v w hL hI=>⟨hI.1,hI.2.1,hI.2.2.put 5 dS⟩),au.skip rfl rfl (by kernel_rfl) (fun L v w hI hl=>hI.2.2 3 _ rfl hl) (fun L v w hL hI=>⟨hI.1,hI.2.1,hI.2.2.put 6 dS⟩),au.skip rfl rfl (by kernel_rfl) (fun L v w hI hl=>hI.2.2 3 _ rfl hl) (fun L v w hL hI=>⟨hI.1,hI.2.1,hI.2.2.put 7 dS⟩),au.skip rfl rfl (by kernel_rfl) (fun L v w hI hl=>hI.2.2 3 _ rfl hl) (fun L v w hL hI=>⟨hI.1,hI.2.1,hI.2.2.put 8 dS⟩),au.skip rfl rfl (by kernel_rfl) (fun L v w hI hl=>hI.2.2 3 _ rfl hl) (fun L v w hL hI=>⟨hI.1,hI.2.1,hI.2.2.put 9 dS⟩),au.skip rfl rfl (by kernel_rfl) (fun L v w hI hl=>hI.2.2 3 _ rfl hl) (fun L v w hL hI=>⟨hI.1,hI.2.1,hI.2.2.put 10 dS⟩),au.skip rfl rfl (by kernel_rfl) (fun L v w hI hl=>hI.2.2 3 _ rfl hl) (fun L v w hL hI=>⟨hI.1,hI.2.1,hI.2.2.put 11 dS⟩),au.mk rfl ?_,trivial⟩;all_goals intro L v Gg wc hL hd hA hI K' hK
       all_goals obtain⟨oD,kD,hv⟩:=hI
       all_goals simp[Region.binds]at hd
       all_goals have HV:=az hv
       all_goals clear hv
       ·have OX:=hA.base 0 (by rfl);simp only[o_,pJ,rO,p8]at OX;go_simp;exact hK.out _ _ ⟨oD,kD,HV.out.put 0 dS⟩
       ·have c7_:=hA.base 7 (by rfl);simp only[o_,pJ,rO,p8]at c7_;have u0_:World.cell? wc ⟨kx,0,none⟩=some ↑f.id:=oD.cell 0;have u1_:World.cell? wc ⟨kx,1,none⟩=some ↑f.fU:=oD.cell 1;have u2_:World.cell? wc ⟨kx,2,none⟩=some ↑f.wt:=oD.cell 2;have u3_:World.cell? wc ⟨kx,3,none⟩=some ↑f.pk:=oD.cell 3;have u4_:World.cell? wc ⟨kx,4,none⟩=some ↑f.eG:=oD.cell 4;have u5_:World.cell? wc ⟨kx,5,none⟩=some ↑f.lag:=oD.cell 5;have u6_:World.cell? wc ⟨kx,6,none⟩=some ↑f.lead:=oD.cell 6;go_simp;exact hK.out _ _ ⟨oD,kD,HV.out.put 1 dS⟩
       ·have Nz:L 0=true:=by simp[hd]
        have aiS:=hA.gt HV 0 Nz;have NA:L 1=true:=by simp[hd]
        have af0:=hA.gt HV 1 NA;go_simp;refine(HB.out _ _ (oD.up 1)).mono ?_;rintro _ w3_⟨rfl,Xd,Xe⟩;exact hK.out _ _ ⟨Xd.re [1],kD.trans Xe,HV.out.put 2 dS⟩
       ·have RQ:L 2=true:=by simp[hd]
        have af1:=hA.gt HV 2 RQ;go_simp;exact hK.out _ _ ⟨oD,kD,HV.out.put 3 dS⟩
       ·have RU:L 3=true:=by simp[hd]
        have af2:=hA.gt HV 3 RU;have ZG:L 11=true:=by simp[hd]
        have ahp:=hA.gt HV 11 ZG;go_simp;exact hK.out _ _ ⟨oD,kD,HV.out.put 12 dS⟩
      case fin=>
       rintro L v wc hall⟨oD,kD,hv⟩;have h_:=hv 12 _ rfl (hall 12 (by decide));clear hv hall;simp only[jV,Act.put,List.setIfInBounds_toArray,List.set_cons_zero,List.set_cons_succ,Nat.zero_add,Nat.reduceAdd];rw[h_];go_wp2;rw[<-HPA.out]at oD;go_roundw;case rel=>refine⟨j+1,by go_num,by omega,?_,kD⟩;rw[Ee.out,U1.out];unfold nE;rw[HZ.out,Bool.false_and,if_neg (by decide)];exact ah.to (oD.re [1,2,3]|>fun oo=>(oo.up 3).drop)
       case measure=>simp[Lib.intOf];omega
    ·have hjn:j=nf:=by omega
     have Ef:(F.take j).foldl nE m2=dK m:=by rw[hjn,<-HNF.out,List.take_length,hMM.out]
     rw[Ef]at oR;subst hjn;clear Ef;go_wp2;go_end0;exact⟨rfl,oR.re [1,2] 2,kR⟩
def eP(c:nK)(s:zG)(H:List Head):LM×Int×zG:=match s with
 |.fair N s=>((j_ (c.nu:Int) (c.de:Int) c.aI s H).1,(j_ (c.nu:Int) (c.de:Int) c.aI s H).2.1,.fair (N+1) (j_ (c.nu:Int) (c.de:Int) c.aI s H).2.2)
 |.bD s=>((pz c.aI s H).1,(pz c.aI s H).2.1,.bD (pz c.aI s H).2.2)
 |s=>(⟨0,0,0⟩,0,s)
def jU(s:zG):Int:=match s with
 |.fair _ s=>s.R.aw
 |.bD s=>s.R.aw
 |_=>0
def U9(c:nK)(s:zG)(H:List Head):Prop:=match s with
 |.fair N s=>fQ N N N s/\N<=299/\RV c.nu c.de/\jh s.R.L H=true/\H≠[]
 |.bD s=>ZI c.aI s/\jh s.R.L H=true/\H≠[]
 |_=>False
theorem QD{x:MB}{Sp:SP}{a:aY}{n c:Nat}{H:List Head}(hok:U9 m.cfg m.aZ H)(h1:eH Sp a H)(hn:n=H.length)(hl:n<=32)(o:Own w (ah b m x::Sp::R)):
  (∃p,x.sv=.iface 116 (dz p)/\Calls prog 342 #[dz p,.slice a n c] w (aR (.tuple #[nQ (eP m.cfg m.aZ H).1,.int .i64 (eP m.cfg m.aZ H).2.1]) (ah b {m with aZ:=(eP m.cfg m.aZ H).2.2} x::Sp::R) w))\/
  (∃p,x.sv=.iface 121 (dz p)/\Calls prog 412 #[dz p,.slice a n c] w (aR (.tuple #[nQ (eP m.cfg m.aZ H).1,.int .i64 (eP m.cfg m.aZ H).2.1]) (ah b {m with aZ:=(eP m.cfg m.aZ H).2.2} x::Sp::R) w)):=by
 obtain⟨hx,o1⟩:=ah.iff.1 o;have o2:Own w (dR b m.cfg x.sv m.aZ::((bX b m x).eraseIdx 9++(Sp::R))):=o1.up 9;cases hs:m.aZ with
 |fair N s=>rw[hs]at o2 hok;obtain⟨p,hv,o3⟩:=dR.DX.1 o2;obtain⟨q1,q2,q3,q4,q5⟩:=hok;refine .inl ⟨p,hv,(Ji q1 q2 q3 h1 hn hl q4 q5 (o3.re [0,13])).mono ?_⟩;rintro e w'⟨rfl,o4,k4⟩;have o5:Own w' (dR b m.cfg x.sv (eP m.cfg (.fair N s) H).2.2::Sp::((bX b m x).eraseIdx 9++R)):=dR.DX.2 ⟨p,hv,o4⟩;exact⟨rfl,ah.iff.2 ⟨hx,o5.re [2,3,4,5,6,7,8,9,10,0,11,12,13,1]⟩,k4⟩
 |bD s=>rw[hs]at o2 hok;obtain⟨p,hv,o3⟩:=dR.wL.1 o2;obtain⟨q1,q4,q5⟩:=hok;refine .inr ⟨p,hv,(G_ q1 h1 hn q4 q5 (o3.re [0,13])).mono ?_⟩;rintro e w'⟨rfl,o4,k4⟩;have o5:Own w' (dR b m.cfg x.sv (eP m.cfg (.bD s) H).2.2::Sp::((bX b m x).eraseIdx 9++R)):=dR.wL.2 ⟨p,hv,o4⟩;exact⟨rfl,ah.iff.2 ⟨hx,o5.re [2,3,4,5,6,7,8,9,10,0,11,12,13,1]⟩,k4⟩
 |timed r M=>rw[hs]at hok;exact hok.elim
theorem QE{x:MB}{p N:Nat}{s:Cq}(hs:m.aZ=.fair N s)(hv:x.sv=.iface 116 (dz p))(o:Own w (ah b m x::R)):
  Calls prog 341 #[dz p] w (aR (.int .i64 (jU m.aZ)) (ah b m x::R) w):=by
 have h:=Hq (s2:=m.aZ) (v:=fun _:Unit=>.int .i64 (jU m.aZ)) (E:=fun _=>[]) (b:=b) (m:=m) (x:=x) (R:=R) (w:=w) (P:=prog) (g:=341) (args:=#[dz p]) (by
  rw[hs]
  exact Tj hv (Tk hv) fun R1 oo=>MO oo) o
 refine h.mono ?_;rintro e w'⟨⟨⟩,h1,h2,h3⟩;exact⟨h1,h2,h3⟩
theorem Lb{x:MB}{p:Nat}{s:Iw}(hs:m.aZ=.bD s)(hv:x.sv=.iface 121 (dz p))(o:Own w (ah b m x::R)):
  Calls prog 411 #[dz p] w (aR (.int .i64 (jU m.aZ)) (ah b m x::R) w):=by
 have h:=Hq (s2:=m.aZ) (v:=fun _:Unit=>.int .i64 (jU m.aZ)) (E:=fun _=>[]) (b:=b) (m:=m) (x:=x) (R:=R) (w:=w) (P:=prog) (g:=411) (args:=#[dz p]) (by
  rw[hs]
  exact MX hv fun R1 oo=>Jl oo) o
 refine h.mono ?_;rintro e w'⟨⟨⟩,h1,h2,h3⟩;exact⟨h1,h2,h3⟩
theorem Xm{x:MB}{p N:Nat}{s:Cq}{Sp:SP}{a:aY}{n c:Nat}{H:List Head}(hs:m.aZ=.fair N s)(hv:x.sv=.iface 116 (dz p))(hok:U9 m.cfg m.aZ H)(h1:eH Sp a H)(hn:n=H.length)(hl:n<=32)(o:Own w (ah b m x::Sp::R)):
  Calls prog 342 #[dz p,.slice a n c] w (aR (.tuple #[nQ (eP m.cfg m.aZ H).1,.int .i64 (eP m.cfg m.aZ H).2.1]) (ah b {m with aZ:=(eP m.cfg m.aZ H).2.2} x::Sp::R) w):=by
 rcases QD (c:=c) hok h1 hn hl o with⟨q,hq,h⟩|⟨q,hq,h⟩
 ·have e:p=q:=by rw[hv]at hq;unfold dz at hq;simpa using hq
  rw[e];exact h
 ·obtain⟨_,o1⟩:=ah.iff.1 o;rw[hv]at hq;simp at hq
theorem TA{x:MB}{p:Nat}{s:Iw}{Sp:SP}{a:aY}{n c:Nat}{H:List Head}(hs:m.aZ=.bD s)(hv:x.sv=.iface 121 (dz p))(hok:U9 m.cfg m.aZ H)(h1:eH Sp a H)(hn:n=H.length)(hl:n<=32)(o:Own w (ah b m x::Sp::R)):
  Calls prog 412 #[dz p,.slice a n c] w (aR (.tuple #[nQ (eP m.cfg m.aZ H).1,.int .i64 (eP m.cfg m.aZ H).2.1]) (ah b {m with aZ:=(eP m.cfg m.aZ H).2.2} x::Sp::R) w):=by
 rcases QD (c:=c) hok h1 hn hl o with⟨q,hq,h⟩|⟨q,hq,h⟩
 ·rw[hv]at hq;simp at hq
 ·have e:p=q:=by rw[hv]at hq;unfold dz at hq;simpa using hq
  rw[e];exact h
end
end Go.Proofs.YtfejhikpfhgbeaaGreatDoor
