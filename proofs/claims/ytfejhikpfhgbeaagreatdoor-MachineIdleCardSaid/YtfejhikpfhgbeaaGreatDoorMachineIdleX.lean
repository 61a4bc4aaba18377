import Derived.ChangeKeysEq
import Derived.Laws.StructEq
import Derived.Test.YtfejhikpfhgbeaaGreatDoorMachineIdleV
import Derived.Test.YtfejhikpfhgbeaaGreatDoorMachineIdleW
set_option maxHeartbeats 25600000
set_option maxRecDepth 100000
set_option linter.all false
namespace Go.Proofs.YtfejhikpfhgbeaaGreatDoor
open Go.Proofs.Tryz
open Go.RowKit
open SP
structure MB where
 ra:aY
 rc:Nat
 tb:Nat
 ua:aY
 uc:Nat
 qa:aY
 qc:Nat
 sa:aY
 sc:Nat
 lb:Nat
 pa:aY
 pc:Nat
 sv:aL
 aa:aY
 ac:Nat
 la:aY
 lc:Nat
def aW(m:aX)(x:MB):dw:=jX m.cfg x.ra x.rc++[.int .i64 m.mode,.int .i64 m.slot,.int .i64 m.time,.bool m.stop,.int .i64 m.lost,.pointer (some ⟨x.tb,0,none⟩),.slice x.ua m.rules.length x.uc,.slice x.qa m.qs.length x.qc,.slice x.sa m.ss.length x.sc,.pointer (some ⟨x.lb,0,none⟩),.slice x.pa m.dY.length x.pc,x.sv,.slice x.aa m.act.length x.ac,.slice x.la m.log.length x.lc]
theorem Cm(m:aX)(x:MB):(aW m x).length=29:=rfl
def bX(b:Nat)(m:aX)(x:MB):aJ:=
 [aH b 75 (aW m x),dM x.tb m.tab,slc 206 5 x.ua m.rules.length x.uc (flat IA m.rules),slc 136 1 x.qa m.qs.length x.qc (m.qs.map pv),st (List.zipWith dQ m.qs m.Q),
  slc 176 1 x.sa m.ss.length x.sc (m.ss.map pv),st (List.zipWith iN m.ss m.S),iV x.lb m.jy,slc 170 5 x.pa m.dY.length x.pc (flat bR m.dY),dR b m.cfg x.sv m.aZ,
  bZ x.aa x.ac m.act,slc 51 6 x.la m.log.length x.lc (flat recC m.log),jG x.ra x.rc m.cfg.bQ]
def aK(b:Nat)(m:aX):SP:=ex fun(x:MB)=>st (pu (m.qs.length=m.Q.length/\m.ss.length=m.S.length)::bX b m x)
section
variable{w w':aF}{R:aJ}{b:Nat}
theorem dR.val{c:nK}{v:aL}{s:zG}(o:Own w (dR b c v s::R)):∃t x,v=.iface t x:=by
 cases s with
 |fair N s=>obtain⟨p,h⟩:=Own.ex.1 o;exact⟨_,_,(Own.pu.1 (Own.st.1 h)).1⟩
 |bD s=>obtain⟨p,h⟩:=Own.ex.1 o;exact⟨_,_,(Own.pu.1 (Own.st.1 h)).1⟩
 |timed r M=>obtain⟨p,h⟩:=Own.ex.1 o;exact⟨_,_,(Own.pu.1 (Own.st.1 h)).1.1⟩
theorem Own.acI(o:Own w R):Own w (SP.st []::R):=Own.st.2 o
theorem aK.iff{m:aX}:Own w (aK b m::R)↔∃x:MB,(m.qs.length=m.Q.length/\m.ss.length=m.S.length)/\Own w (bX b m x++R):=by
 constructor
 ·intro o;obtain⟨x,h⟩:=Own.ex.1 o;obtain⟨h1,h2⟩:=Own.pu.1 (Own.st.1 h);exact⟨x,h1,h2⟩
 ·rintro⟨x,h1,h2⟩;exact Own.ex.2 ⟨x,Own.st.2 (Own.pu.2 ⟨h1,h2⟩)⟩
theorem Tryz.rateT:bS prog 35 62 2 16:=bS.mk' underlying35 (z:=.agg #[aC,aC]) (by kernel_rfl) (by kernel_rfl) (by omega)
theorem WE(L:bO):∀u∈flat uV L,u.oneCell'=true:=by intro u hu;obtain⟨s,_,hs⟩:=List.mem_flatMap.1 hu;simp only[uV,jc,xN,or_false]at hs;rcases hs with rfl|rfl<;>rfl
theorem GD{a:aY}{n c:Nat}{L:bO}(hn:n<=1000)(o:Own w (slc 62 2 a n c (flat uV L)::R)):
  Calls prog 17 #[.slice a n c] w fun e w'=>∃a' c',aR (.slice a' n c') (slc 62 2 a' n c' (flat uV L)::slc 62 2 a n c (flat uV L)::R) w e w':=by
 have hnil:=fun(w:aF)(a:aY)(n c:Nat)=>Lib.run_eql_slice_nil w 35 62 a n c 0 0 underlying35;rcases Own.slc.1 o with⟨rfl,rfl,rfl,hS,o1⟩|⟨g,sp,rfl,h1,h2,h3,h4,o1⟩
 ·have o2:=Own.bH (e:=62) (size:=2) o;rw[<-hS]at o2;clear hS;go_enter func17,ntmps17;go_wp2;go_ret;exact⟨none,0,rfl,o2,Calm.refl w⟩
 ·clear o1 h1 h2 h3 h4 sp;have oZ:=sG (e:=62) (size:=2) (o.alloc (.cells #[] 62));have hsrc:=sI (WE L) (oZ.up 1);go_enter func17,ntmps17;go_wp2_with(at_builtin;refine aQ rfl _ _ rfl Tryz.rateT rfl oZ rfl hsrc (by unfold maxLen;omega) (by omega) ?k1);case k1=>intro a' c' w6 o6 k6;go_wp2;go_ret;exact⟨a',c',rfl,o6,k6.al⟩
def m0(c:nK):aX:=⟨c,c.mode,0,0,false,0,⟨c.cap,(c.bQ.length:Int),[],[]⟩,[],[],[],Sj,[],En c c.mode,[],[],[],[]⟩
theorem Kl{c:nK}{ra:aY}{rc:Nat}(h:c.Ok)(o:Own w (jG ra rc c.bQ::R)):
  Calls prog 6 #[wh c ra rc] w fun e w'=>∃b,aR (.tuple #[.pointer (some ⟨b,0,none⟩),.int .i64 0]) (aK b (m0 c)::jG ra rc c.bQ::R) w e w':=by
 have oA:Own (w.alloc (.cells (jX c ra rc).toArray 37)) (aH w.heap.size 37 (jX c ra rc)::jG ra rc c.bQ::R):=o.alloc (.cells (jX c ra rc).toArray 37);have hv:=OY h (oA.up 1);have hl1:=h.l1;have hl2:=h.l2;have hcl:=fun(w1:aF)(R1:aJ)(o1:Own w1 (jG ra rc c.bQ::R1))=>GD (n:=c.bQ.length) (by omega) o1;have hfl:=fun(w1:aF)(R1:aJ)(o1:Own w1 R1)=>Si c.cap (c.bQ.length:Int) ⟨h.c1,h.c2⟩ ⟨by omega,by omega⟩ o1;have hmode:c.mode=1\/c.mode=2\/c.mode=3:=by have:=h.m1;have:=h.m2;omega
 have hbg:=fun(w1:aF)(R1:aJ)(a1:aY)(c1:Nat)(b:Nat)(cs:dw)(hcs:∀(i:Nat)(v:aL),(jX c a1 c1)[i]?=some v->cs[i]?=some v)(o1:Own w1 (aH b 75 cs::R1))=>PL h hmode hcs o1;have HBG:=az hbg;have b0:=oA.cell 0;have b1:=oA.cell 1;have b2:=oA.cell 2;have b3:=oA.cell 3;have b4:=oA.cell 4;have b5:=oA.cell 5;have b6:=oA.cell 6;have b7:=oA.cell 7;have b8:=oA.cell 8;have b9:=oA.cell 9;have b10:=oA.cell 10;have b11:=oA.cell 11;have b12:=oA.cell 12;have b13:=oA.cell 13;have b14:=oA.cell 14;unfold wh at*;clear hbg h hmode;go_enter func6,ntmps6;go_wp2_with fail;refine hv.mono ?_;rintro _ w1⟨rfl,o1,k1⟩;have K1:=(aj (x:=.cells (jX c ra rc).toArray 37) (Calm.refl w)).trans k1;have hC:=hcl _ _ o1;have q14:=(o1.up 1).cell 14;have q12:=(o1.up 1).cell 12;generalize w.heap.size=kb at*;clear hv hcl k1 oA b0 b1 b2 b3 b4 b5 b6 b7 b8 b9 b10 b11 b12 b13 b14 o;obtain⟨n,hn⟩:∃n,c.bQ.length=n:=⟨_,rfl⟩;have HN:=az hn;have abm:jX c ra rc=[.int .i64 c.mode,.int .i64 (c.nu:Int),.int .i64 (c.de:Int),.int .i64 c.kd,.int .i64 c.pk,.int .i64 c.pn,.int .i64 c.caps.1,.int .i64 c.caps.2.1,.int .i64 c.caps.2.2,.int .i64 c.tries,.int .i64 c.win,.int .i64 c.qu,.int .i64 c.cap,.int .i64 c.aI,.slice ra n rc]:=by rw[<-hn];rfl
 rw[abm]at o1 hC;have e14:World.cell? w1 ⟨kb,14,none⟩=some (.slice ra n rc):=by rw[<-hn];exact q14
 rw[hn]at hC hfl hl1 hl2;clear q14 abm;rw[hn];clear hn;go_wp2_with fail;refine hC.mono ?_;rintro _ w2⟨a1,c1,rfl,o2,k2⟩;have o3:=(o2.up 2).setCell 14 (.slice a1 n c1);have o3':Own (w2.setCell ⟨kb,14,none⟩ (.slice a1 n c1)) (aH kb 37 [.int .i64 c.mode,.int .i64 (c.nu:Int),.int .i64 (c.de:Int),.int .i64 c.kd,.int .i64 c.pk,.int .i64 c.pn,.int .i64 c.caps.1,.int .i64 c.caps.2.1,.int .i64 c.caps.2.2,.int .i64 c.tries,.int .i64 c.win,.int .i64 c.qu,.int .i64 c.cap,.int .i64 c.aI,.slice a1 n c1]::slc 62 2 a1 n c1 (flat uV c.bQ)::slc 62 2 ra n rc (flat uV c.bQ)::R):=o3;have f14:=(o2.up 2).cell 14;have ff:=(o2.up 2).frozen;have fl:=(o2.up 2).aS;have f12:=o3'.cell 12;have ahg:=o3'.cell 14;have hF:=hfl _ _ o3';have K2:=ay (x:=⟨kb,14,none⟩) (v:=.slice a1 n c1) (K1.trans k2);clear hC o1 e14 q12 o3 o2 hfl;go_wp2_with fail;refine hF.mono ?_;rintro _ w3⟨tb,rfl,o4,k4⟩;have K3:=K2.trans k4;clear hF f12 f14 ahg ff fl o3' k4 k2;have hLf:=Mr o4.drew;have Dr:=o4.up 1;have y0:=(Dr).cell 0;have y1:=(Dr).cell 1;have y2:=(Dr).cell 2;have y3:=(Dr).cell 3;have y4:=(Dr).cell 4;have y5:=(Dr).cell 5;have y6:=(Dr).cell 6;have y7:=(Dr).cell 7;have y8:=(Dr).cell 8;have y9:=(Dr).cell 9;have y10:=(Dr).cell 10;have y11:=(Dr).cell 11;have y12:=(Dr).cell 12;have y13:=(Dr).cell 13;have y14:=(Dr).cell 14;go_upto_region 5 with fail
 go_region_held3(fun w'=>w'.cell? ⟨kb,0,none⟩=some ↑c.mode/\w'.cell? ⟨kb,1,none⟩=some ↑(c.nu:Int)/\w'.cell? ⟨kb,2,none⟩=some ↑(c.de:Int)/\w'.cell? ⟨kb,3,none⟩=some ↑c.kd/\w'.cell? ⟨kb,4,none⟩=some ↑c.pk/\w'.cell? ⟨kb,5,none⟩=some ↑c.pn/\w'.cell? ⟨kb,6,none⟩=some ↑c.caps.1/\w'.cell? ⟨kb,7,none⟩=some ↑c.caps.2.1/\w'.cell? ⟨kb,8,none⟩=some ↑c.caps.2.2/\w'.cell? ⟨kb,9,none⟩=some ↑c.tries/\w'.cell? ⟨kb,10,none⟩=some ↑c.win/\w'.cell? ⟨kb,11,none⟩=some ↑c.qu/\w'.cell? ⟨kb,12,none⟩=some ↑c.cap/\w'.cell? ⟨kb,13,none⟩=some ↑c.aI/\w'.cell? ⟨kb,14,none⟩=some (.slice a1 n c1)) (go_keep) (first
  |(go_at_call 19;(with_reducible refine Calls.mono hLf ?_);rintro _ w4⟨lb,rfl,o5,k5⟩;have QT:=o5.up 2;have z0:=QT.cell 0;have z1:=QT.cell 1;have z2:=QT.cell 2;have z3:=QT.cell 3;have z4:=QT.cell 4;have z5:=QT.cell 5;have z6:=QT.cell 6;have z7:=QT.cell 7;have z8:=QT.cell 8;have z9:=QT.cell 9;have z10:=QT.cell 10;have z11:=QT.cell 11;have z12:=QT.cell 12;have z13:=QT.cell 13;have z14:=QT.cell 14))
 have o6:Own (w4.alloc (.cells ([.int .i64 c.mode,.int .i64 (c.nu:Int),.int .i64 (c.de:Int),.int .i64 c.kd,.int .i64 c.pk,.int .i64 c.pn,.int .i64 c.caps.1,.int .i64 c.caps.2.1,.int .i64 c.caps.2.2,.int .i64 c.tries,.int .i64 c.win,.int .i64 c.qu,.int .i64 c.cap,.int .i64 c.aI,.slice a1 n c1,.int .i64 c.mode,.int .i64 0,.int .i64 0,.bool false,.int .i64 0,.pointer (some ⟨tb,0,none⟩),.slice none 0 0,.slice none 0 0,.slice none 0 0,.pointer (some ⟨lb,0,none⟩),.slice none 0 0,.nilIface,.slice none 0 0,.slice none 0 0]:dw).toArray 75)) (aH w4.heap.size 75 [.int .i64 c.mode,.int .i64 (c.nu:Int),.int .i64 (c.de:Int),.int .i64 c.kd,.int .i64 c.pk,.int .i64 c.pn,.int .i64 c.caps.1,.int .i64 c.caps.2.1,.int .i64 c.caps.2.2,.int .i64 c.tries,.int .i64 c.win,.int .i64 c.qu,.int .i64 c.cap,.int .i64 c.aI,.slice a1 n c1,.int .i64 c.mode,.int .i64 0,.int .i64 0,.bool false,.int .i64 0,.pointer (some ⟨tb,0,none⟩),.slice none 0 0,.slice none 0 0,.slice none 0 0,.pointer (some ⟨lb,0,none⟩),.slice none 0 0,.nilIface,.slice none 0 0,.slice none 0 0]::_):=o5.alloc (.cells ([.int .i64 c.mode,.int .i64 (c.nu:Int),.int .i64 (c.de:Int),.int .i64 c.kd,.int .i64 c.pk,.int .i64 c.pn,.int .i64 c.caps.1,.int .i64 c.caps.2.1,.int .i64 c.caps.2.2,.int .i64 c.tries,.int .i64 c.win,.int .i64 c.qu,.int .i64 c.cap,.int .i64 c.aI,.slice a1 n c1,.int .i64 c.mode,.int .i64 0,.int .i64 0,.bool false,.int .i64 0,.pointer (some ⟨tb,0,none⟩),.slice none 0 0,.slice none 0 0,.slice none 0 0,.pointer (some ⟨lb,0,none⟩),.slice none 0 0,.nilIface,.slice none 0 0,.slice none 0 0]:dw).toArray 75);have K4:=aj (x:=.cells ([.int .i64 c.mode,.int .i64 (c.nu:Int),.int .i64 (c.de:Int),.int .i64 c.kd,.int .i64 c.pk,.int .i64 c.pn,.int .i64 c.caps.1,.int .i64 c.caps.2.1,.int .i64 c.caps.2.2,.int .i64 c.tries,.int .i64 c.win,.int .i64 c.qu,.int .i64 c.cap,.int .i64 c.aI,.slice a1 n c1,.int .i64 c.mode,.int .i64 0,.int .i64 0,.bool false,.int .i64 0,.pointer (some ⟨tb,0,none⟩),.slice none 0 0,.slice none 0 0,.slice none 0 0,.pointer (some ⟨lb,0,none⟩),.slice none 0 0,.nilIface,.slice none 0 0,.slice none 0 0]:dw).toArray 75) ((aD K3).trans k5)
 have hB:=HBG.out _ _ a1 c1 w4.heap.size [.int .i64 c.mode,.int .i64 (c.nu:Int),.int .i64 (c.de:Int),.int .i64 c.kd,.int .i64 c.pk,.int .i64 c.pn,.int .i64 c.caps.1,.int .i64 c.caps.2.1,.int .i64 c.caps.2.2,.int .i64 c.tries,.int .i64 c.win,.int .i64 c.qu,.int .i64 c.cap,.int .i64 c.aI,.slice a1 n c1,.int .i64 c.mode,.int .i64 0,.int .i64 0,.bool false,.int .i64 0,.pointer (some ⟨tb,0,none⟩),.slice none 0 0,.slice none 0 0,.slice none 0 0,.pointer (some ⟨lb,0,none⟩),.slice none 0 0,.nilIface,.slice none 0 0,.slice none 0 0] (fun i v hv=>by
  have e1:([.int .i64 c.mode,.int .i64 (c.nu:Int),.int .i64 (c.de:Int),.int .i64 c.kd,.int .i64 c.pk,.int .i64 c.pn,.int .i64 c.caps.1,.int .i64 c.caps.2.1,.int .i64 c.caps.2.2,.int .i64 c.tries,.int .i64 c.win,.int .i64 c.qu,.int .i64 c.cap,.int .i64 c.aI,.slice a1 n c1,.int .i64 c.mode,.int .i64 0,.int .i64 0,.bool false,.int .i64 0,.pointer (some ⟨tb,0,none⟩),.slice none 0 0,.slice none 0 0,.slice none 0 0,.pointer (some ⟨lb,0,none⟩),.slice none 0 0,.nilIface,.slice none 0 0,.slice none 0 0]:dw)=jX c a1 c1++[.int .i64 c.mode,.int .i64 0,.int .i64 0,.bool false,.int .i64 0,.pointer (some ⟨tb,0,none⟩),.slice none 0 0,.slice none 0 0,.slice none 0 0,.pointer (some ⟨lb,0,none⟩),.slice none 0 0,.nilIface,.slice none 0 0,.slice none 0 0]:=by rw[<-HN.out];rfl
  rw[e1,List.getElem?_append_left (List.getElem?_eq_some_iff.1 hv).1]
  exact hv) o6
 have y0:=(o6.up 3).cell 0;clear hLf QT o5 z0 z1 z2 z3 z4 z5 z6 z7 z8 z9 z10 z11 z12 z13 z14 Dr o4 o6 K3 k5;generalize hw5:w4.alloc (.cells ([.int .i64 c.mode,.int .i64 (c.nu:Int),.int .i64 (c.de:Int),.int .i64 c.kd,.int .i64 c.pk,.int .i64 c.pn,.int .i64 c.caps.1,.int .i64 c.caps.2.1,.int .i64 c.caps.2.2,.int .i64 c.tries,.int .i64 c.win,.int .i64 c.qu,.int .i64 c.cap,.int .i64 c.aI,.slice a1 n c1,.int .i64 c.mode,.int .i64 0,.int .i64 0,.bool false,.int .i64 0,.pointer (some ⟨tb,0,none⟩),.slice none 0 0,.slice none 0 0,.slice none 0 0,.pointer (some ⟨lb,0,none⟩),.slice none 0 0,.nilIface,.slice none 0 0,.slice none 0 0]:dw).toArray 75)=w5 at*;go_wp2_with fail;refine hB.mono ?_;rintro _ w6⟨v,rfl,o7,k7⟩;obtain⟨vt,vx,rfl⟩:=dR.val (o7.up 1);have z26:=o7.cell 26;have zf:=o7.frozen;have zl:=o7.aS;have oE:=(o7.setCell 26 (.iface vt vx)).re [4];have KF:=ay (x:=⟨w4.heap.size,26,none⟩) (v:=.iface vt vx) (K4.trans k7);have n0:=oE.drop;have n1:=Own.bH (e:=206) (size:=5) n0;have n2:=Own.bH (e:=136) (size:=1) n1;have n3:=Own.acI n2;have n4:=Own.bH (e:=176) (size:=1) n3;have n5:=Own.acI n4;have n6:=Own.bH (e:=170) (size:=5) n5;have n7:=Own.bH (e:=3) (size:=1) n6;have n8:=(Own.bH (e:=51) (size:=6) n7).re [8,11,7,6,5,4,3,10,2,9,1,0];clear hB y0 o7 oE n0 n1 n2 n3 n4 n5 n6 n7 K4 k7;have oF:Own (w6.setCell ⟨w4.heap.size,26,none⟩ (.iface vt vx)) (aK w4.heap.size (m0 c)::jG ra rc c.bQ::R):=by refine aK.iff.2 ⟨⟨a1,c1,tb,none,0,none,0,none,0,lb,none,0,.iface vt vx,none,0,none,0⟩,⟨rfl,rfl⟩,?_⟩;unfold bX aW jG bZ m0 jX;dsimp only;rw[HN.out];exact n8
 clear n8;go_wp2;go_ret2;exact⟨_,rfl,oF,KF⟩
end
section
variable{W w w':aF}{R:aJ}{b:Nat}{m:aX}
def jM(m:aX)(r:Rec):aX:={m with log:=m.log++[r.at' m.slot]}
def GG(m:aX)(p:iA)(id reason:Int):aX:=jM {m with jy:=adV m.jy id reason} ⟨0,2,p.fl,id,reason,0⟩
theorem Cn{p:iA}{k:Nat}(hp:m.dY[k]?=some p)(hk:k<=1000000)(o:Own w (aK b m::R)):
  Calls prog 141 #[b,((k:Int)+1:Int)] w (bN (.int .i64 p.len) w):=by
 obtain⟨x,hx,o1⟩:=aK.iff.1 o;have oM:Own w (aH b 75 (aW m x)::_):=o1;have DK:=Own.cell oM 25 (show(aW m x)[25]?=some (.slice x.pa m.dY.length x.pc)from rfl);have oP:Own w (slc 170 5 x.pa m.dY.length x.pc (flat bR m.dY)::_):=o1.up 8;have hkl:=(eU.1 hp).1;obtain⟨g,hg,hc,_,hgl⟩:=oP.aG (by omega);rw[hg]at DK;have d2:=hc (k*5+2) p.len (by rw[aB aT m.dY k 2 p hp (by omega)];rfl);have hw:IntKind.i64.wrap ((k:Int)+1-1)=(k:Int):=by rw[gB];omega
 clear hc oP oM o1 hp hg;generalize m.dY.length=n at*;go_enter func141,ntmps141;go_wp2;go_ret;exact⟨rfl,rfl⟩
theorem GH{N:Nat}{p:iA}{k:Nat}{reason:Int}(hp:m.dY[k]?=some p)(hk:k<=1000000)(hL:m.jy.Ok N)(hN:N<=1000000000)(Iz:m.log.length<=1000000)(o:Own w (aK b m::R)):
  Calls prog 58 #[b,((k:Int)+1:Int),reason] w (aR (.tuple #[]) (aK b (GG m p ((k:Int)+1) reason)::R) w):=by
 obtain⟨x,hx,o1⟩:=aK.iff.1 o;have oM:Own w (aH b 75 (aW m x)::_):=o1;have c24:=Own.cell oM 24 (show(aW m x)[24]?=some (.pointer (some ⟨x.lb,0,none⟩))from rfl);have hD:=Ja ((k:Int)+1) reason hL hN (o1.up 7);have hkl:=(eU.1 hp).1;have hw:IntKind.i64.wrap ((k:Int)+1-1)=(k:Int):=by rw[gB];omega
 have HX:=az hx;have HP:=az hp;clear oM o1 o hp hx hL;go_enter func58,ntmps58;go_wp2_with fail;refine hD.mono ?_;rintro _ w1⟨rfl,o2,k2⟩;clear hD c24;have oM:Own w1 (aH b 75 (aW m x)::_):=o2.up 1;have DK:=Own.cell oM 25 (show(aW m x)[25]?=some (.slice x.pa m.dY.length x.pc)from rfl);have oP:Own w1 (slc 170 5 x.pa m.dY.length x.pc (flat bR m.dY)::_):=o2.up 8;obtain⟨g,hg,hc,_,hgl⟩:=oP.aG (by omega);rw[hg]at DK;have d1:=hc (k*5+1) p.fl (by rw[aB aT m.dY k 1 p HP.out (by omega)];rfl);have hW:=wm (b:=b) (cs:=aW m x) (slot:=m.slot) (L:=m.log) ⟨0,2,p.fl,(k:Int)+1,reason,0⟩ (Cm m x) (show(aW m x)[16]?=some ↑m.slot from rfl) (show(aW m x)[28]?=some (.slice x.la m.log.length x.lc)from rfl) Iz (o2.re [1,11]);dsimp only at hW;clear hc oP oM hg;have HO:=az o2;clear o2;obtain⟨n,hn⟩:=aP m.dY.length;rw[hn]at DK hkl;clear hn;go_wp2_with fail;refine hW.mono ?_;rintro _ w2⟨la,lc,rfl,o3,k3⟩;clear hW DK d1;go_wp2;go_end0;refine⟨rfl,?_,k2.trans k3⟩;have e1:aW (GG m p ((k:Int)+1) reason) {x with la:=la,lc:=lc}=(aW m x).set 28 (.slice la (m.log.length+1) lc):=by unfold GG jM aW;dsimp only;rw[jf];rfl
 refine aK.iff.2 ⟨{x with la:=la,lc:=lc},HX.out,?_⟩;unfold bX;rw[e1];unfold GG jM;dsimp only;rw[jf];exact o3.re [0,3,4,5,6,7,8,2,9,10,11,1]
def Jd(m:aX)(id:Int):aX:=jM {m with jy:=Pz m.jy id} ⟨0,4,(match m.dY[id.toNat-1]? with|some p=>p.fl|none=>0),id,0,0⟩
def mD(m:aX)(L:bq):aX:=L.foldl Jd m
theorem SC(m:aX)(L:bq)(x:Int):mD m (L++[x])=Jd (mD m L) x:=by unfold mD;rw[List.foldl_append];rfl
theorem DL:∀(L:bq)(m:aX),(mD m L).dY=m.dY/\(mD m L).log.length=m.log.length+L.length/\(mD m L).slot=m.slot
 |[],m=>⟨rfl,rfl,rfl⟩
 |x::L,m=>by obtain⟨h1,h2,h3⟩:=DL L (Jd m x);refine⟨h1,?_,h3⟩;show(mD (Jd m x) L).log.length=_;rw[h2];show(m.log++[_]).length+L.length=m.log.length+(L.length+1);rw[jf];show m.log.length+1+L.length=_;omega
theorem Km:∀(L:bq){N:Nat}{m:aX},m.jy.Ok N->(mD m L).jy.Ok (N+L.length)
 |[],_,_,h=>h
 |x::L,N,m,h=>by have h1:=Km L (m:=Jd m x) (N:=N+1) (UI h x);rw[List.length_cons,show N+(L.length+1)=N+1+L.length by omega];exact h1
def afD(m:aX)(b:Nat)(L:bq)(a:aY)(c:Nat)(R:aJ)(w:aF)(_ v8:aL)(wr:aF):Prop:=
 ∃i:Nat,v8=↑(i:Int)/\i<=L.length/\Own wr (aK b (mD m (L.take i))::bZ a c L::R)/\Calm w wr
theorem yj{N:Nat}{L:bq}{a:aY}{c:Nat}(hid:∀x∈L,1<=x/\x<=(m.dY.length:Int))(hpk:m.dY.length<=1000000)(hL:m.jy.Ok N)(hN:N<=900000000)(hLn:L.length<=100000)(Iz:m.log.length<=800000)(o:Own w (aK b m::bZ a c L::R)):
  Calls prog 108 #[b,.slice a L.length c] w (aR (.tuple #[]) (aK b (mD m L)::bZ a c L::R) w):=by
 obtain⟨n,hn0⟩:=aP L.length;have HN:=az hn0;have HID:=az hid;have HL:=az hL;rw[hn0]at hLn⊢;clear hn0 hid hL;go_enter func108,ntmps108;go_wp2;go_loopw[5,8] (fun v5 v8 wr=>afD m b L a c R w v5 v8 wr) (fun _ v _=>n-(Lib.intOf v).toNat);case atStart=>exact⟨0,rfl,by omega,o,Calm.refl w⟩
 case round=>
  clear o;obtain⟨i,rfl,hi,oR,kR⟩:=hrel;rw[HN.out]at hi;by_cases hil:i<n
  ·obtain⟨y,hy⟩:∃y,L[i]?=some y:=⟨_,cZ (by rw[HN.out];exact hil)⟩;obtain⟨g,hg,hc,hgl⟩:∃g,a=some ⟨g,0,none⟩/\(∀(j:Nat)x,L[j]?=some x->wr.cell? ⟨g,j,none⟩=some ↑x)/\g<wr.heap.size:=by
    rcases lI.own (oR.up 1)with h0|h0
    ·rw[h0]at hy;cases hy
    ·exact h0
   have hcx:=hc i y hy;have hyr:=HID.out y (mH hy);obtain⟨k,rfl⟩:∃k:Nat,y=(k:Int)+1:=⟨(y-1).toNat,by omega⟩;have HT:=az (show mD m (L.take (i+1))=Jd (mD m (L.take i)) ((k:Int)+1)by rw[tH,hy];exact SC _ _ _);obtain⟨hk1,hk2,hk3⟩:=DL (L.take i) m;have hlf:=Km (L.take i) HL.out;have htl:(L.take i).length=i:=by rw[rZ,HN.out];omega
   rw[htl]at hk2 hlf;generalize mD m (L.take i)=M at*;subst hg;obtain⟨p,hp⟩:∃p,M.dY[k]?=some p:=⟨_,cZ (by rw[hk1];omega)⟩;have hkl:k<M.dY.length:=by rw[hk1];omega
   obtain⟨x,hx,o1⟩:=aK.iff.1 oR;have oM:Own wr (aH b 75 (aW M x)::_):=o1;have c24:=Own.cell oM 24 (show(aW M x)[24]?=some (.pointer (some ⟨x.lb,0,none⟩))from rfl);have hD:=MC ((k:Int)+1) hlf (by omega) (o1.up 7);have hw:IntKind.i64.wrap ((k:Int)+1-1)=(k:Int):=by rw[gB];omega
   have hk6:k<=1000000:=by omega
   have HX:=az hx;have HP:=az hp;have abn:M.log.length<=1000000:=by omega
   have YR:=az (show Jd M ((k:Int)+1)=jM {M with jy:=Pz M.jy ((k:Int)+1)} ⟨0,4,p.fl,(k:Int)+1,0,0⟩by
    unfold Jd
    rw[show((k:Int)+1).toNat-1=k by omega,hp])
   clear oM o1 hx hp hc hy hyr hk1 hk2 hk3 hlf htl oR;go_wp2_with fail;refine hD.mono ?_;rintro _ w1⟨rfl,o2,k2⟩;clear hD c24 hcx;have oM:Own w1 (aH b 75 (aW M x)::_):=o2.up 1;have DK:=Own.cell oM 25 (show(aW M x)[25]?=some (.slice x.pa M.dY.length x.pc)from rfl);have oP:Own w1 (slc 170 5 x.pa M.dY.length x.pc (flat bR M.dY)::_):=o2.up 8;obtain⟨g2,hg2,hc,_,SE⟩:=oP.aG (by omega);rw[hg2]at DK;have d1:=hc (k*5+1) p.fl (by rw[aB aT M.dY k 1 p HP.out (by omega)];rfl);have hW:=wm (b:=b) (cs:=aW M x) (slot:=M.slot) (L:=M.log) ⟨0,4,p.fl,(k:Int)+1,0,0⟩ (Cm M x) (show(aW M x)[16]?=some ↑M.slot from rfl) (show(aW M x)[28]?=some (.slice x.la M.log.length x.lc)from rfl) abn (o2.re [1,11]);dsimp only at hW;clear hc oP oM hg2 o2;obtain⟨np,hnp⟩:=aP M.dY.length;rw[hnp]at DK hkl;clear hnp;go_wp2_with fail;refine hW.mono ?_;rintro _ w2⟨la,lc,rfl,o3,k3⟩;have oF:Own w2 (aK b (Jd M ((k:Int)+1))::bZ (some ⟨g,0,none⟩) c L::R):=by
    rw[YR.out];have e1:aW (jM {M with jy:=Pz M.jy ((k:Int)+1)} ⟨0,4,p.fl,(k:Int)+1,0,0⟩) {x with la:=la,lc:=lc}=(aW M x).set 28 (.slice la (M.log.length+1) lc):=by unfold jM aW;dsimp only;rw[jf];rfl
    refine aK.iff.2 ⟨{x with la:=la,lc:=lc},HX.out,?_⟩;unfold bX;rw[e1];unfold jM;dsimp only;rw[jf];exact o3.re [0,3,4,5,6,7,8,2,9,10,11,1]
   clear hW DK d1 o3;go_wp2;go_roundw;case rel=>exact⟨i+1,by go_num,by rw[HN.out];omega,by rw[HT.out];exact oF,(kR.trans k2).trans k3⟩
   case measure=>simp[Lib.intOf];omega
  ·have hin:i=n:=by omega
   have HT:=az (show L.take i=L by rw[hin,<-HN.out,List.take_length]);subst hin;go_wp2;go_end0;rw[HT.out]at oR;exact⟨rfl,oR,kR⟩
theorem aK.fU{i p:Nat}{s:lM}(hp:m.ss[i]?=some p)(hs:m.S[i]?=some s)(o:Own w (aK b m::R)):
  ∃(x:MB)(a d r:Nat),(m.qs.length=m.Q.length/\m.ss.length=m.S.length)/\
   Own w (aH p 181 [a,d,r,s.nx,s.IB]::pR a s.ch::dP d s.sd::eY r s.rv::
    st ((List.zipWith iN m.ss m.S).eraseIdx i)::((bX b m x).eraseIdx 6++R)):=by
 obtain⟨x,hx,o1⟩:=aK.iff.1 o;have hz:(List.zipWith iN m.ss m.S)[i]?=some (iN p s):=by rw[List.getElem?_zipWith,hp,hs]
 have o2:Own w (st (List.zipWith iN m.ss m.S)::((bX b m x).eraseIdx 6++R)):=o1.up 6;have o3:=Own.focus hz o2;obtain⟨⟨a,d,r⟩,h⟩:=Own.ex.1 o3;exact⟨x,a,d,r,hx,Own.st.1 h⟩
theorem aK.xz{i p:Nat}{s s':lM}{x:MB}{a d r:Nat}(hp:m.ss[i]?=some p)(hs:m.S[i]?=some s)(hx:m.qs.length=m.Q.length/\m.ss.length=m.S.length)
  (o:Own w (aH p 181 [a,d,r,s'.nx,s'.IB]::pR a s'.ch::dP d s'.sd::eY r s'.rv::
    st ((List.zipWith iN m.ss m.S).eraseIdx i)::((bX b m x).eraseIdx 6++R))):Own w (aK b {m with S:=m.S.set i s'}::R):=by
 have hz:(List.zipWith iN m.ss m.S)[i]?=some (iN p s):=by rw[List.getElem?_zipWith,hp,hs]
 have o1:Own w (iN p s'::st ((List.zipWith iN m.ss m.S).eraseIdx i)::((bX b m x).eraseIdx 6++R)):=Own.ex.2 ⟨(a,d,r),Own.st.2 o⟩;have o2:=Own.qY hz o1;have e1:(List.zipWith iN m.ss m.S).set i (iN p s')=List.zipWith iN m.ss (m.S.set i s'):=by
  apply List.ext_getElem?;intro j;rw[List.getElem?_set,List.getElem?_zipWith,List.getElem?_zipWith,List.getElem?_set];by_cases hj:i=j
  ·subst hj;rw[if_pos rfl,if_pos rfl,hp];have h1:i<m.S.length:=(eU.1 hs).1;have h2:i<(List.zipWith iN m.ss m.S).length:=(eU.1 hz).1;rw[if_pos h1,if_pos h2]
  ·rw[if_neg hj,if_neg hj]
 rw[e1]at o2;refine aK.iff.2 ⟨x,⟨hx.1,by show m.ss.length=(m.S.set i s').length;rw[List.length_set];exact hx.2⟩,?_⟩;exact o2.re [1,2,3,4,5,6,0]
def UJ(m:aX)(i:Nat)(s:lM):aX:=mD {m with S:=m.S.set i {s with rv:=(XT s.rv (dV s.sd)).1}} (XT s.rv (dV s.sd)).2
theorem SF{N i p:Nat}{s:lM}(hp:m.ss[i]?=some p)(hs:m.S[i]?=some s)(hsd:s.sd.Ok)(Je:s.rv.Ok)(hmv:mvE s.rv (dV s.sd)=0)
  (hid:∀x∈(XT s.rv (dV s.sd)).2,1<=x/\x<=(m.dY.length:Int))(hpk:m.dY.length<=1000000)(hL:m.jy.Ok N)(hN:N<=900000000)(Iz:m.log.length<=800000)(o:Own w (aK b m::R)):
  Calls prog 113 #[b,p] w (aR (.tuple #[]) (aK b (UJ m i s)::R) w):=by
 obtain⟨x,a,d,r,hx,o1⟩:=aK.fU hp hs o;obtain⟨-,-,-,c1,c2,-⟩:=o1.cs;have hB:=pO hsd (o1.drew.up 2);have hSk:=fun(w1:aF)(R1:aJ)(o2:Own w1 (eY r s.rv::R1))=>Oo Je (qb hsd) hmv o2;have ad4:=hSk _ _ (o1.drew.up 3);have HP:=az hp;have HS:=az hs;have HX:=az hx;clear hp hs hx o;unfold UJ;have hout:(XT s.rv (dV s.sd)).2.length<=100000:=by
  have h1:=EG (skN s.rv (dV s.sd)) (s.rv,[]);have h2:∀(k:Nat)(y:jw×bq),(rlF k y).1.H.length+(rlF k y).2.length=y.1.H.length+y.2.length:=by
   intro k;induction k with
   |zero=>intro y;rfl
   |succ k ih=>
    intro y;unfold rlF;split
    ·exact(ih (CX y)).trans (zQ y.1 y.2)
    ·rfl
  have h3:=h2 (ve (dV s.sd) (s.rv,[])).1.H.length (ve (dV s.sd) (s.rv,[]));have h4:=Je.len;have h5:(ve (dV s.sd) (s.rv,[])).1.H.length+(ve (dV s.sd) (s.rv,[])).2.length=s.rv.H.length+([]:bq).length:=h1;have h6:(XT s.rv (dV s.sd)).1.H.length+(XT s.rv (dV s.sd)).2.length=(ve (dV s.sd) (s.rv,[])).1.H.length+(ve (dV s.sd) (s.rv,[])).2.length:=h3;simp only[List.length_nil]at h5;omega
 obtain⟨y,hy⟩:=aP (XT s.rv (dV s.sd));rw[hy]at hSk ad4 hid hout⊢;clear hy hmv Je hsd;go_enter func113,ntmps113;go_upto_region 0 with fail
 go_region_held3(fun w'=>w'.cell? ⟨p,1,none⟩=some (.pointer (some ⟨d,0,none⟩))/\w'.cell? ⟨p,2,none⟩=some (.pointer (some ⟨r,0,none⟩))) (go_keep) (first
  |(go_at_call 107;(with_reducible refine Calls.mono hB ?_);rintro _ _⟨rfl,rfl⟩)
  |(go_at_call 169;(with_reducible refine Calls.mono ad4 ?_);rintro _ w2⟨a3,c3,rfl,o2,k2⟩;have z1:=(o2.up 2).cell 1;have z2:=(o2.up 2).cell 2))
 have o3:=aK.xz (s':={s with rv:=y.1}) (R:=bZ a3 c3 y.2::R) HP.out HS.out HX.out (o2.re [2,3,4,0,5,6,7,8,9,10,11,12,13,14,15,16,17,1]);have hD:=yj (N:=N) (m:={m with S:=m.S.set i {s with rv:=y.1}}) (L:=y.2) hid hpk hL hN hout Iz o3;have K2:=(aD (Calm.refl w)).trans k2;clear hB hSk ad4 o2 k2 z1 z2 c1 c2 o1 o3;go_wp2_with fail;refine hD.mono ?_;rintro _ w4⟨rfl,o4,k4⟩;go_wp2;go_end0;exact⟨rfl,o4.re [1] 1,K2.trans k4⟩
theorem rG{g:Nat}{args:Array aL}{v:aL}{w:aF}(h:Calls prog g args w (bN v w)):Calls prog g args w (fun e w'=>e=.returned v/\w'=w):=h.mono (by rintro e w'⟨rfl,rfl⟩;exact⟨rfl,rfl⟩)
def Co(m:aX)(i:Nat)(s:lM)(j:Nat):aX:={m with S:=m.S.set i {s with sd:=Yl s.sd j}}
def sW(m:aX)(i:Nat)(s:lM)(j:Nat)(q:lX)(pk:iA)(reason:Int):aX:=
 if lstate m.jy q.id=2/\yH s.rv q.id=false then GG (Co m i s j) pk q.id reason else Co m i s j
theorem Jf{N i p j k:Nat}{s:lM}{q:lX}{pk:iA}{reason:Int}(hp:m.ss[i]?=some p)(hs:m.S[i]?=some s)(hsd:s.sd.Ok)(Je:s.rv.Ok)(hi:BF s.sd.P q.seq=(j:Int))(hj:s.sd.P[j]?=some q)
  (hid:q.id=(k:Int)+1)(hpk:m.dY[k]?=some pk)(hk:k<=1000000)(hL:m.jy.Ok N)(hN:N<=900000000)(Iz:m.log.length<=800000)(o:Own w (aK b m::R)):
  Calls prog 112 #[b,p,Fv q,reason] w (aR (.tuple #[]) (aK b (sW m i s j q pk reason)::R) w):=by
 obtain⟨x,a,d,r,hx,o1⟩:=aK.fU hp hs o;have oA:Own (w.alloc (.cells #[q.seq,q.id,q.tr] 258)) (aH w.heap.size 258 [q.seq,q.id,q.tr]::_):=o1.alloc (.cells #[q.seq,q.id,q.tr] 258);have K0:=aj (x:=.cells #[q.seq,q.id,q.tr] 258) (Calm.refl w);have k0:=oA.cell 0;obtain⟨-,pl,-,cb,-⟩:=o1.cs;have c1:=(oA.up 1).cell 1;have hD:=Re (q:=q.seq) hsd hi hj (oA.drew.up 3);have HP:=az hp;have HS:=az hs;have HX:=az hx;have HID:=az hid;unfold Fv;clear hid hp hs hx o hi hj hsd o1;go_enter func112,ntmps112;go_upto_region 1 with fail;generalize w.heap.size=kb at*;refine wp_region_tail 6 (by kernel_rfl) (by kernel_rfl) ?_;simp only[xe,List.take_zero,yB,List.drop_zero];repeat still_step
 refine wpStill_nil ?_;go_wp2_with fail;refine hD.mono ?_;rintro _ w2⟨rfl,o2,k2⟩;have K2:=(aD K0).trans k2;clear hD k0 c1 oA K0 k2;have hSt:=qI q.id hL (o2.drew.up 12);have hHo:=IL (id:=q.id) Je (o2.drew.up 4);have oC:Own w2 (aH b 75 (aW m x)::_):=o2.up 6;have c24:=Own.cell oC 24 (show(aW m x)[24]?=some (.pointer (some ⟨x.lb,0,none⟩))from rfl);have z1:=(o2.up 1).cell 1;have y2:=(o2.up 2).cell 2;clear oC;have HO:=az o2;have afE:=fun(n:Nat)=>qI q.id hL ((o2.drewN n).up 12);clear o2;by_cases hst:lstate m.jy q.id=2;rotate_left
 ·have HM:=az (show sW m i s j q pk reason=Co m i s j by unfold sW;rw[if_neg (fun hc=>hst hc.1)]);have hd:(lstate m.jy q.id==2)=false:=by rw[Ec];exact hst
  generalize lstate m.jy q.id=st at*;clear hst hHo hSt;go_upto_region 2 with fail;go_quiet((go_at_call 30;exact Calls.quiet_of_same (rG (afE _))))
  ·have o3:=aK.xz (s':={s with sd:=Yl s.sd j}) (R:=aH kb 258 [q.seq,q.id,q.tr]::R) HP.out HS.out HX.out ((HO.out.drewN nq).re [2,3,0,4,5,6,7,8,9,10,11,12,13,14,15,16,17,1]);go_wp2;go_end0;rw[HM.out];exact⟨rfl,o3.re [1] 1,K2.dn _⟩
 ·have hd:(lstate m.jy q.id==2)=true:=by rw[hst];rfl
  obtain⟨Z,hZ⟩:=aP (yH s.rv q.id);have HZ:=az hZ;have HST:=az hst;rw[hZ]at hHo;clear afE;generalize lstate m.jy q.id=st at hd hSt;clear hZ hst;have SG:st=2:=by simpa using hd
  subst SG;clear hd;go_upto_region 2 with fail
  go_region_held3(fun w'=>w'.cell? ⟨kb,1,none⟩=some ↑q.id/\w'.cell? ⟨p,2,none⟩=some (.pointer (some ⟨r,0,none⟩))/\w'.cell? ⟨b,24,none⟩=some (.pointer (some ⟨x.lb,0,none⟩))) (go_keep) (first
   |(go_at_call 30;(with_reducible refine Calls.mono hSt ?_);rintro _ _⟨rfl,rfl⟩)
   |(go_at_call 168;(with_reducible refine Calls.mono hHo ?_);rintro _ w5⟨rfl,o5,k5⟩;have v1:=(o5.up 2).cell 1;have v2:=(o5.up 3).cell 2;have v24:=Own.cell (show Own w5 (aH b 75 (aW m x)::_)from o5.up 6) 24 (show(aW m x)[24]?=some (.pointer (some ⟨x.lb,0,none⟩))from rfl)))
  have o3:=aK.xz (s':={s with sd:=Yl s.sd j}) (R:=aH kb 258 [q.seq,q.id,q.tr]::R) HP.out HS.out HX.out (o5.re [3,4,1,0,5,6,7,8,9,10,11,12,13,14,15,16,17,2]);have K5:=(aD K2).trans k5;clear hHo hSt o5 k5 v2 v24 z1 y2 c24 K2;cases Z with
  |true=>have HM:=az (show sW m i s j q pk reason=Co m i s j by unfold sW;rw[if_neg (fun hc=>by have h2:=hc.2;rw[HZ.out]at h2;cases h2)]);go_wp2;go_end0;rw[HM.out];exact⟨rfl,o3.re [1] 1,K5⟩
  |false=>have HM:=az (show sW m i s j q pk reason=GG (Co m i s j) pk q.id reason by unfold sW;rw[if_pos ⟨HST.out,HZ.out⟩]);have hDr:=GH (m:=Co m i s j) (reason:=reason) (N:=N) hpk hk hL (by omega) (by show m.log.length<=1000000;omega) o3;rw[<-HID.out]at hDr;clear o3;go_wp2_with fail;refine hDr.mono ?_;rintro _ w6⟨rfl,o6,k6⟩;go_wp2;go_end0;rw[HM.out];exact⟨rfl,o6.re [1] 1,K5.trans k6⟩
def dF(c:Int×Int):dw:=[c.1,c.2]
theorem fE(c:Int×Int):(dF c).length=2:=rfl
theorem Tryz.canT:bS prog 172 238 2 16:=bS.mk' underlying172 (z:=.agg #[aC,aC]) (by kernel_rfl) (by kernel_rfl) (by omega)
def lN(f:jd):aL:=.agg #[f.id,f.fU,f.wt,f.pk,f.eG,f.lag,f.lead]
def qJ(m:aX)(id:Int):Int:=match m.dY[id.toNat-1]? with
 |some p=>p.fl
 |none=>-1
def jo(m:aX)(s:lM)(f:Int):bO:=(s.sd.P.filter fun q=>qJ m q.id==f).map fun q=>(q.id,q.seq)
def ah(b:Nat)(m:aX)(x:MB):SP:=st (pu (m.qs.length=m.Q.length/\m.ss.length=m.S.length)::bX b m x)
theorem ah.iff{x:MB}:Own w (ah b m x::R)↔(m.qs.length=m.Q.length/\m.ss.length=m.S.length)/\Own w (bX b m x++R):=⟨fun o=>Own.pu.1 (Own.st.1 o),fun h=>Own.st.2 (Own.pu.2 h)⟩
theorem ah.of(o:Own w (aK b m::R)):∃x,Own w (ah b m x::R):=by obtain⟨x,h⟩:=aK.iff.1 o;exact⟨x,ah.iff.2 h⟩
theorem ah.to{x:MB}(o:Own w (ah b m x::R)):Own w (aK b m::R):=aK.iff.2 ⟨x,ah.iff.1 o⟩
theorem ah.fU{x:MB}{i p:Nat}{s:lM}(hp:m.ss[i]?=some p)(hs:m.S[i]?=some s)(o:Own w (ah b m x::R)):
  ∃(a d r:Nat),(m.qs.length=m.Q.length/\m.ss.length=m.S.length)/\
   Own w (aH p 181 [a,d,r,s.nx,s.IB]::pR a s.ch::dP d s.sd::eY r s.rv::
    st ((List.zipWith iN m.ss m.S).eraseIdx i)::((bX b m x).eraseIdx 6++R)):=by
 obtain⟨hx,o1⟩:=ah.iff.1 o;have hz:(List.zipWith iN m.ss m.S)[i]?=some (iN p s):=by rw[List.getElem?_zipWith,hp,hs]
 have o2:Own w (st (List.zipWith iN m.ss m.S)::((bX b m x).eraseIdx 6++R)):=o1.up 6;have o3:=Own.focus hz o2;obtain⟨⟨a,d,r⟩,h⟩:=Own.ex.1 o3;exact⟨a,d,r,hx,Own.st.1 h⟩
theorem abo{i p:Nat}{s s':lM}(hp:m.ss[i]?=some p)(hs:m.S[i]?=some s):(List.zipWith iN m.ss m.S).set i (iN p s')=List.zipWith iN m.ss (m.S.set i s'):=by
 have hz:(List.zipWith iN m.ss m.S)[i]?=some (iN p s):=by rw[List.getElem?_zipWith,hp,hs]
 apply List.ext_getElem?;intro j;rw[List.getElem?_set,List.getElem?_zipWith,List.getElem?_zipWith,List.getElem?_set];by_cases hj:i=j
 ·subst hj;rw[if_pos rfl,if_pos rfl,hp];have h1:i<m.S.length:=(eU.1 hs).1;have h2:i<(List.zipWith iN m.ss m.S).length:=(eU.1 hz).1;rw[if_pos h1,if_pos h2]
 ·rw[if_neg hj,if_neg hj]
theorem ah.xz{i p:Nat}{s s':lM}{x:MB}{a d r:Nat}(hp:m.ss[i]?=some p)(hs:m.S[i]?=some s)(hx:m.qs.length=m.Q.length/\m.ss.length=m.S.length)
  (o:Own w (aH p 181 [a,d,r,s'.nx,s'.IB]::pR a s'.ch::dP d s'.sd::eY r s'.rv::
    st ((List.zipWith iN m.ss m.S).eraseIdx i)::((bX b m x).eraseIdx 6++R))):Own w (ah b {m with S:=m.S.set i s'} x::R):=by
 have hz:(List.zipWith iN m.ss m.S)[i]?=some (iN p s):=by rw[List.getElem?_zipWith,hp,hs]
 have o1:Own w (iN p s'::st ((List.zipWith iN m.ss m.S).eraseIdx i)::((bX b m x).eraseIdx 6++R)):=Own.ex.2 ⟨(a,d,r),Own.st.2 o⟩;have o2:=Own.qY hz o1;rw[abo hp hs]at o2;refine ah.iff.2 ⟨⟨hx.1,by show m.ss.length=(m.S.set i s').length;rw[List.length_set];exact hx.2⟩,?_⟩;exact o2.re [1,2,3,4,5,6,0]
theorem ah.cell{x:MB}{k:Nat}{v:aL}(h:(aW m x)[k]?=some v)(o:Own w (ah b m x::R)):w.cell? ⟨b,k,none⟩=some v/\b<w.heap.size:=by obtain⟨_,o1⟩:=ah.iff.1 o;have oM:Own w (aH b 75 (aW m x)::_):=o1;exact⟨Own.cell oM k h,oM.aS⟩
theorem ah.pkt{x:MB}{k:Nat}{p:iA}(hp:m.dY[k]?=some p)(o:Own w (ah b m x::R)):
  ∃(g:Nat),x.pa=some ⟨g,0,none⟩/\w.cell? ⟨b,25,none⟩=some (.slice (some ⟨g,0,none⟩) m.dY.length x.pc)/\w.cell? ⟨g,k*5+1,none⟩=some ↑p.fl/\b<w.heap.size/\g<w.heap.size/\k<m.dY.length:=by
 obtain⟨_,o1⟩:=ah.iff.1 o;have oM:Own w (aH b 75 (aW m x)::_):=o1;have DK:=Own.cell oM 25 (show(aW m x)[25]?=some (.slice x.pa m.dY.length x.pc)from rfl);have oP:Own w (slc 170 5 x.pa m.dY.length x.pc (flat bR m.dY)::_):=o1.up 8;have hkl:=(eU.1 hp).1;obtain⟨g,hg,hc,_,hgl⟩:=oP.aG (by omega);rw[hg]at DK;exact⟨g,hg,DK,hc (k*5+1) p.fl (by rw[aB aT m.dY k 1 p hp (by omega)];rfl),oM.aS,hgl,hkl⟩
theorem ah.ym{x:MB}{i p:Nat}(hp:m.qs[i]?=some p)(o:Own w (ah b m x::R)):
  ∃(g:Nat),x.qa=some ⟨g,0,none⟩/\w.cell? ⟨b,22,none⟩=some (.slice (some ⟨g,0,none⟩) m.qs.length x.qc)/\w.cell? ⟨g,i,none⟩=some (.pointer (some ⟨p,0,none⟩))/\b<w.heap.size/\g<w.heap.size/\i<m.qs.length:=by
 obtain⟨_,o1⟩:=ah.iff.1 o;have oM:Own w (aH b 75 (aW m x)::_):=o1;have EU:=Own.cell oM 22 (show(aW m x)[22]?=some (.slice x.qa m.qs.length x.qc)from rfl);have oP:Own w (slc 136 1 x.qa m.qs.length x.qc (m.qs.map pv)::_):=o1.up 3;have hil:=(eU.1 hp).1;obtain⟨g,hg,hc,_,hgl⟩:=oP.aG (by omega);have hgi:=hc i (pv p) (by rw[kI,hp];rfl);rw[hg]at EU;exact⟨g,hg,EU,hgi,oM.aS,hgl,hil⟩
theorem ah.DN{x:MB}{i p:Nat}(hp:m.ss[i]?=some p)(o:Own w (ah b m x::R)):
  ∃(g:Nat),x.sa=some ⟨g,0,none⟩/\w.cell? ⟨b,23,none⟩=some (.slice (some ⟨g,0,none⟩) m.ss.length x.sc)/\w.cell? ⟨g,i,none⟩=some (.pointer (some ⟨p,0,none⟩))/\b<w.heap.size/\g<w.heap.size/\i<m.ss.length:=by
 obtain⟨_,o1⟩:=ah.iff.1 o;have oM:Own w (aH b 75 (aW m x)::_):=o1;have c23:=Own.cell oM 23 (show(aW m x)[23]?=some (.slice x.sa m.ss.length x.sc)from rfl);have oP:Own w (slc 176 1 x.sa m.ss.length x.sc (m.ss.map pv)::_):=o1.up 5;have hil:=(eU.1 hp).1;obtain⟨g,hg,hc,_,hgl⟩:=oP.aG (by omega);have hgi:=hc i (pv p) (by rw[kI,hp];rfl);rw[hg]at c23;exact⟨g,hg,c23,hgi,oM.aS,hgl,hil⟩
def qK(m:aX)(s:lM)(f:Int)(i:Nat):bO:=((s.sd.P.take i).filter fun q=>qJ m q.id==f).map fun q=>(q.id,q.seq)
def afF(m:aX)(x:MB)(b:Nat)(s:lM)(f:jd)(kb:Nat)(a1:aY)(c1:Nat)(R:aJ)(w:aF)(v5 v21:aL)(wr:aF):Prop:=
 ∃(i:Nat)(a:aY)(n c:Nat),v21=↑(i:Int)/\i<=s.sd.P.length/\v5=.slice a n c/\(qK m s f.id i).length=n/\n<=i/\
  Own wr (slc 238 2 a n c (flat dF (qK m s f.id i))::ah b m x::slc 258 3 a1 s.sd.P.length c1 (flat b_ s.sd.P)::aH kb 167 (jv f)::R)/\Calm w wr
theorem Cr{α:Type}{L:List α}{i:Nat}{x:α}(h:L[i]?=some x):L.set i x=L:=by
 apply List.ext_getElem?;intro j;rw[List.getElem?_set];split
 ·next h1=>subst h1;rw[h,if_pos (eU.1 h).1]
 ·rfl
theorem yt{x:MB}{i p:Nat}{s:lM}{f:jd}(hf:f.fU=(i:Int))(hp:m.ss[i]?=some p)(hs:m.S[i]?=some s)(hsd:s.sd.Ok)(hid:∀q∈s.sd.P,1<=q.id/\q.id<=(m.dY.length:Int))(hpk:m.dY.length<=1000000)(o:Own w (ah b m x::R)):
  Calls prog 138 #[b,lN f] w
   fun e w'=>∃a c,aR (.slice a (jo m s f.id).length c) (slc 238 2 a (jo m s f.id).length c (flat dF (jo m s f.id))::ah b m x::R) w e w':=by
 obtain⟨a,d,r,hx,o1⟩:=ah.fU hp hs o;have oA:Own (w.alloc (.cells #[f.id,(i:Int),f.wt,f.pk,f.eG,f.lag,f.lead] 167)) (aH w.heap.size 167 [f.id,(i:Int),f.wt,f.pk,f.eG,f.lag,f.lead]::_):=o1.alloc (.cells #[f.id,(i:Int),f.wt,f.pk,f.eG,f.lag,f.lead] 167);have K0:=aj (x:=.cells #[f.id,(i:Int),f.wt,f.pk,f.eG,f.lag,f.lead] 167) (Calm.refl w);have k1:=oA.cell 1;change World.cell? _ ⟨w.heap.size,1,none⟩=some ↑(i:Int)at k1;have p1:=(oA.up 1).cell 1;have oC:Own _ (aH b 75 (aW m x)::_):=oA.up 6;have c23:=Own.cell oC 23 (show(aW m x)[23]?=some (.slice x.sa m.ss.length x.sc)from rfl);have oS:Own _ (slc 176 1 x.sa m.ss.length x.sc (m.ss.map pv)::_):=oA.up 11;have hil:=(eU.1 hp).1;obtain⟨g,hg,hc,_,hgl⟩:=oS.aG (by omega);have hgi:=hc i (pv p) (by rw[kI,hp];rfl);unfold pv at hgi;rw[hg]at c23;have hPe:=kN hsd (oA.drew.up 3);have HP:=az hp;have HS:=az hs;have HX:=az hx;have HI:=az hid;have HF:=az hf;have HG:=az hg;obtain⟨n,hn⟩:=aP m.ss.length;have HN:=az hn;rw[hn]at c23 hil;unfold lN;rw[hf];have hlen:=hsd.len;clear hn hp hs hx hid hf hc oS oC o o1 hg hsd;go_enter func138,ntmps138;go_upto_region 2 with fail;generalize w.alloc (.cells #[f.id,(i:Int),f.wt,f.pk,f.eG,f.lag,f.lead] 167)=w0 at*;generalize w.heap.size=kb at*
 go_region_held3(fun w'=>w'.cell? ⟨b,23,none⟩=some (.slice (some ⟨g,0,none⟩) n x.sc)/\w'.cell? ⟨kb,1,none⟩=some ↑(i:Int)/\w'.cell? ⟨g,i,none⟩=some (.pointer (some ⟨p,0,none⟩))/\w'.cell? ⟨p,1,none⟩=some (.pointer (some ⟨d,0,none⟩))) (go_keep) (first
  |(go_at_call 131;(with_reducible refine Calls.mono hPe ?_);rintro _ w2⟨a1,c1,rfl,o2,k2⟩;have z23:=Own.cell (show Own w2 (aH b 75 (aW m x)::_)from o2.up 7) 23 (show(aW m x)[23]?=some (.slice x.sa m.ss.length x.sc)from rfl);rw[HG.out,HN.out]at z23;have z1:World.cell? w2 ⟨kb,1,none⟩=some ↑(i:Int):=(o2.up 2).cell 1;have y1:=(o2.up 3).cell 1;obtain⟨g3,hg3,hc3,_,ahh⟩:=(show Own w2 (slc 176 1 x.sa m.ss.length x.sc (m.ss.map pv)::_)from o2.up 12).aG (by rw[HN.out];omega);have zi:=hc3 i (pv p) (by rw[kI,HP.out];rfl);rw[HG.out]at hg3;injection hg3 with hg3;injection hg3 with hg3;subst hg3;unfold pv at zi;clear hc3))
 have o3:=ah.xz (s':=s) (R:=slc 258 3 a1 s.sd.P.length c1 (flat b_ s.sd.P)::aH kb 167 [f.id,(i:Int),f.wt,f.pk,f.eG,f.lag,f.lead]::R) HP.out HS.out HX.out (o2.re [3,4,1,5,6,7,8,9,10,11,12,13,14,15,16,17,18,0,2]);rw[Cr HS.out,<-HF.out]at o3;have o4:Own w2 (slc 238 2 none 0 0 []::ah b m x::slc 258 3 a1 s.sd.P.length c1 (flat b_ s.sd.P)::aH kb 167 (jv f)::R):=Own.bH o3;have K2:=(aD K0).trans k2;clear hPe oA p1 c23 hgl hgi o2 k2 z23 z1 y1 ahh zi k1 K0 o3 hil HX HN HG HF HP HS;obtain⟨ln,hln⟩:=aP s.sd.P.length;have Eo:=az hln;rw[hln]at hlen⊢;clear hln;go_wp2;go_loopw[5,7,21] (fun v5 _ v21 wr=>afF m x b s f kb a1 c1 R w v5 v21 wr) (fun _ _ v _=>ln-(Lib.intOf v).toNat);case atStart=>exact⟨0,none,0,0,rfl,by omega,rfl,rfl,by omega,o4,K2⟩
 case round=>
  clear o4 K2;obtain⟨j,a5,n5,c5,rfl,hj,rfl,hn5,hn6,oR,kR⟩:=hrel;rw[Eo.out]at hj;have HN5:=az hn5;clear hn5;by_cases hjl:j<ln
  ·obtain⟨q,hq⟩:∃q,s.sd.P[j]?=some q:=⟨_,cZ (by rw[Eo.out];exact hjl)⟩;have oS:=oR.up 2;rw[Eo.out]at oS;obtain⟨g3,rfl,hc,_,hgl⟩:=oS.aG (by omega);have hqr:=HI.out q (mH hq);obtain⟨k,hk⟩:∃k:Nat,q.id=(k:Int)+1:=⟨(q.id-1).toNat,by omega⟩;have e0:=hc (j*3+0) q.seq (by rw[aB bu s.sd.P j 0 q hq (by omega)];rfl);have e1:=hc (j*3+1) q.id (by rw[aB bu s.sd.P j 1 q hq (by omega)];rfl);have e2:=hc (j*3+2) q.tr (by rw[aB bu s.sd.P j 2 q hq (by omega)];rfl);rw[Nat.add_zero]at e0;rw[hk]at e1;obtain⟨p,hp⟩:∃p,m.dY[k]?=some p:=⟨_,cZ (by omega)⟩;obtain⟨g,_,d0,d1,hbl,SE,hkl⟩:=ah.pkt hp (oR.re [1,0]);have kk0:=(oR.up 3).cell 0;change World.cell? _ ⟨kb,0,none⟩=some ↑f.id at kk0;have kl:=(oR.up 3).aS;have hw:IntKind.i64.wrap ((k:Int)+1-1)=(k:Int):=by rw[gB];omega
   have HT:=az (show qK m s f.id (j+1)=qK m s f.id j++(if p.fl=f.id then[((k:Int)+1,q.seq)]else[])by
    unfold qK;have hfo:qJ m q.id=p.fl:=by unfold qJ;rw[hk,show((k:Int)+1).toNat-1=k by omega,hp]
    rw[tH,hq,Option.toList_some,List.filter_append,tJ];congr 1;by_cases h:p.fl=f.id
    ·rw[if_pos h,List.filter_cons,hfo,h];simp[hk]
    ·rw[if_neg h,List.filter_cons,hfo];simp[h])
   have oX:Own (wr.alloc (.cells #[q.seq,((k:Int)+1:Int),q.tr] 258)) (aH wr.heap.size 258 [q.seq,((k:Int)+1:Int),q.tr]::_):=oR.alloc (.cells #[q.seq,((k:Int)+1:Int),q.tr] 258);have kX:=aj (x:=.cells #[q.seq,((k:Int)+1:Int),q.tr] 258) kR;obtain⟨np,hnp⟩:=aP m.dY.length;rw[hnp]at d0 hkl hpk;clear hnp hc oS hq hp hk hqr;by_cases hfl:p.fl=f.id
   ·have YT:(p.fl==f.id)=true:=beq_iff_eq.2 hfl;rw[if_pos hfl]at HT;clear hfl;go_upto_region 5 with fail;go_quiet(fail);go_upto_region 6 with fail;have oX1:=oX.drewN nq;have kX1:=kX.dn nq;obtain⟨-,-,y0,y1,-⟩:=oX.cs;change World.cell? _ ⟨wr.heap.size,0,none⟩=some ↑q.seq at y0;change World.cell? _ ⟨wr.heap.size,1,none⟩=some ↑((k:Int)+1:Int)at y1;have y0':World.cell? ((wr.alloc (.cells #[q.seq,((k:Int)+1:Int),q.tr] 258)).drewN nq) ⟨wr.heap.size,0,none⟩=some ↑q.seq:=y0;have y1':World.cell? ((wr.alloc (.cells #[q.seq,((k:Int)+1:Int),q.tr] 258)).drewN nq) ⟨wr.heap.size,1,none⟩=some ↑((k:Int)+1:Int):=y1;have yl:=oX1.aS;clear y0 y1 d0 d1 kk0 kl e0 e1 e2 hgl SE hbl oX oR kX;generalize wr.heap.size=kx at*;generalize (wr.alloc (.cells #[q.seq,((k:Int)+1:Int),q.tr] 258)).drewN nq=w5 at*;have oY:=oX1.alloc (.cells #[((k:Int)+1:Int),q.seq] 238);have hnw:=Own.news (T:=238) (vs:=[((k:Int)+1:Int),q.seq]) oY;go_wp2_with(at_builtin;refine aQ rfl _ _ rfl Tryz.canT rfl (oY.up 2) rfl ⟨_,_,rfl,rfl,by intro u hu;simp only[jc,xN,or_false]at hu;rcases hu with rfl|rfl<;>rfl,.inr ⟨_,rfl,hnw⟩⟩ (by unfold maxLen;omega) (by omega) ?kK);case kK=>
     intro a6 c6 w6 o6 k6;have o7:=o6.re [1,2] 2;have K6:=kX1.trans ((aj (Calm.refl _)).trans k6);clear hnw y0' y1' yl oX1 oY o6 k6;go_wp2;go_roundw;case rel=>refine⟨j+1,a6,n5+1,c6,by go_num,by rw[Eo.out];omega,rfl,by rw[HT.out,jf,HN5.out];rfl,by omega,?_,K6⟩;rw[HT.out,aO];exact o7
     case measure=>simp[Lib.intOf];omega
   ·have YT:(p.fl==f.id)=false:=Ec.2 hfl;rw[if_neg hfl,List.append_nil]at HT;clear hfl;go_upto_region 5 with fail;go_quiet(fail);go_wp2;go_roundw;case rel=>exact⟨j+1,a5,n5,c5,by go_num,by rw[Eo.out];omega,rfl,by rw[HT.out,HN5.out],by omega,by rw[HT.out];exact(oX.re [0] 1).drewN _,kX.dn _⟩
    case measure=>simp[Lib.intOf];omega
  ·have hin:j=ln:=by omega
   have HT:=az (show qK m s f.id j=jo m s f.id by unfold qK jo;rw[hin,<-Eo.out,List.take_length]);subst hin;rw[HT.out]at oR;have HN6:=az (show(jo m s f.id).length=n5 by rw[<-HT.out];exact HN5.out);clear HN5 HT;go_wp2;go_ret;refine⟨a5,c5,by rw[HN6.out];rfl,?_,kR⟩;rw[HN6.out];exact oR.re [2,3] 2
theorem ah.que{x:MB}{i p:Nat}{q:xP}(hp:m.qs[i]?=some p)(hq:m.Q[i]?=some q)(o:Own w (ah b m x::R)):
  (m.qs.length=m.Q.length/\m.ss.length=m.S.length)/\Own w (dQ p q::st ((List.zipWith dQ m.qs m.Q).eraseIdx i)::((bX b m x).eraseIdx 4++R)):=by
 obtain⟨hx,o1⟩:=ah.iff.1 o;have hz:(List.zipWith dQ m.qs m.Q)[i]?=some (dQ p q):=by rw[List.getElem?_zipWith,hp,hq]
 have o2:Own w (st (List.zipWith dQ m.qs m.Q)::((bX b m x).eraseIdx 4++R)):=o1.up 4;exact⟨hx,Own.focus hz o2⟩
theorem ah.abp{i p:Nat}{q q':xP}{x:MB}(hp:m.qs[i]?=some p)(hq:m.Q[i]?=some q)(hx:m.qs.length=m.Q.length/\m.ss.length=m.S.length)
  (o:Own w (dQ p q'::st ((List.zipWith dQ m.qs m.Q).eraseIdx i)::((bX b m x).eraseIdx 4++R))):Own w (ah b {m with Q:=m.Q.set i q'} x::R):=by
 have hz:(List.zipWith dQ m.qs m.Q)[i]?=some (dQ p q):=by rw[List.getElem?_zipWith,hp,hq]
 have o2:=Own.qY hz o;have e1:(List.zipWith dQ m.qs m.Q).set i (dQ p q')=List.zipWith dQ m.qs (m.Q.set i q'):=by
  apply List.ext_getElem?;intro j;rw[List.getElem?_set,List.getElem?_zipWith,List.getElem?_zipWith,List.getElem?_set];by_cases hj:i=j
  ·subst hj;rw[if_pos rfl,if_pos rfl,hp];have h1:i<m.Q.length:=(eU.1 hq).1;have h2:i<(List.zipWith dQ m.qs m.Q).length:=(eU.1 hz).1;rw[if_pos h1,if_pos h2]
  ·rw[if_neg hj,if_neg hj]
 rw[e1]at o2;refine ah.iff.2 ⟨⟨by show m.qs.length=(m.Q.set i q').length;rw[List.length_set];exact hx.1,hx.2⟩,?_⟩;exact o2.re [1,2,3,4,0]
theorem UK{x:MB}{i p:Nat}{q:xP}(hp:m.qs[i]?=some p)(hq:m.Q[i]?=some q)(o:Own w (ah b m x::R)):
  Calls prog 137 #[p] w (bN (.int .i64 (q.P.length:Nat)) w):=by
 obtain⟨_,o1⟩:=ah.que hp hq o;exact N9 o1
def PN(m:aX)(s:lM)(q:xP)(f:Int):Bool:=decide (0<q.P.length)||decide (0<(jo m s f).length)
theorem Cs{x:MB}{i p j pq:Nat}{s:lM}{q:xP}{f:jd}(hfi:f.id=(j:Int))(hf:f.fU=(i:Int))(hp:m.ss[i]?=some p)(hs:m.S[i]?=some s)(hpq:m.qs[j]?=some pq)(hq:m.Q[j]?=some q)
  (hsd:s.sd.Ok)(hid:∀q∈s.sd.P,1<=q.id/\q.id<=(m.dY.length:Int))(hpk:m.dY.length<=1000000)(o:Own w (ah b m x::R)):
  Calls prog 93 #[b,lN f] w (aR (.bool (PN m s q f.id)) (ah b m x::R) w):=by
 obtain⟨fid,fst,wt,pk,eG,lag,lead⟩:=f;change fid=_ at hfi;change fst=_ at hf;subst hfi hf;have HB:PN m s q (j:Int)=(decide (0<q.P.length)||decide (0<(jo m s (j:Int)).length)):=rfl;show Calls _ _ #[_,.agg #[(j:Int),(i:Int),wt,pk,eG,lag,lead]] w (aR (.bool (PN m s q (j:Int))) (ah b m x::R) w);rw[HB];have oA:Own (w.alloc (.cells #[(j:Int),(i:Int),wt,pk,eG,lag,lead] 167)) (aH w.heap.size 167 [(j:Int),(i:Int),wt,pk,eG,lag,lead]::ah b m x::R):=o.alloc (.cells #[(j:Int),(i:Int),wt,pk,eG,lag,lead] 167);have K0:=aj (x:=.cells #[(j:Int),(i:Int),wt,pk,eG,lag,lead] 167) (Calm.refl w);have hL:=UK hpq hq (oA.drew.up 1);have hLn:=fun(n:Nat)=>UK hpq hq ((oA.drewN n).up 1);obtain⟨g,hg,EU,cgj,hbl,hgl,hjl⟩:=ah.ym hpq (oA.up 1);have HG:=az hg;clear hg;have Zt:=yt (f:=⟨(j:Int),(i:Int),wt,pk,eG,lag,lead⟩) rfl hp hs hsd hid hpk (oA.drew.up 1);change Calls _ _ #[_,.agg #[(j:Int),(i:Int),wt,pk,eG,lag,lead]] _ (fun e w'=>∃a c,aR (.slice a (jo m s (j:Int)).length c) (slc _ 2 a (jo m s (j:Int)).length c (flat dF (jo m s (j:Int)))::ah b m x::_) _ e w')at Zt;obtain⟨-,-,k0,k1,k2,k3,k4,k5,k6,-⟩:=oA.cs;change World.cell? _ ⟨w.heap.size,0,none⟩=some ↑(j:Int)at k0;change World.cell? _ ⟨w.heap.size,1,none⟩=some ↑(i:Int)at k1;change World.cell? _ ⟨w.heap.size,2,none⟩=some ↑wt at k2;change World.cell? _ ⟨w.heap.size,3,none⟩=some ↑pk at k3;change World.cell? _ ⟨w.heap.size,4,none⟩=some ↑eG at k4;change World.cell? _ ⟨w.heap.size,5,none⟩=some ↑lag at k5;change World.cell? _ ⟨w.heap.size,6,none⟩=some ↑lead at k6;obtain⟨n,hn⟩:=aP m.qs.length;rw[hn]at EU hjl;obtain⟨ql,PO⟩:=aP q.P.length;rw[PO]at hL hLn⊢;have WG:=az hpq;have HN:=az hn;obtain⟨pl,hpl⟩:=aP (jo m s (j:Int));rw[hpl]at Zt⊢;obtain⟨ll,hll⟩:=aP pl.length;rw[hll]at Zt⊢;clear PO hn hp hs hpq hq hsd hid HB hpl hll o;go_enter func93,ntmps93;go_upto_region 1 with fail;generalize w.alloc (.cells #[(j:Int),(i:Int),wt,pk,eG,lag,lead] 167)=w0 at*;generalize w.heap.size=kb at*;by_cases hZ:0<ql
 ·have hd:decide (0<ql)=true:=bz hZ;have hd2:=bz (show(0:Int)<(ql:Int)by omega);clear k1 k2 k3 k4 k5 k6 hL Zt;go_quiet((go_at_call 137;exact Calls.quiet_of_same (rG (hLn _))));go_wp2;go_ret;exact⟨by rw[hd];rfl,(oA.re [0] 1).drewN _,K0.dn _⟩
 ·have hd:decide (0<ql)=false:=bW hZ;clear hLn;have hq0:ql=0:=by omega
  subst hq0;clear hZ hd
  go_region_held3(fun w'=>w'.cell? ⟨b,22,none⟩=some (.slice (some ⟨g,0,none⟩) n x.qc)/\w'.cell? ⟨g,j,none⟩=some (.pointer (some ⟨pq,0,none⟩))/\w'.cell? ⟨kb,0,none⟩=some ↑(j:Int)/\w'.cell? ⟨kb,1,none⟩=some ↑(i:Int)/\w'.cell? ⟨kb,2,none⟩=some ↑wt/\w'.cell? ⟨kb,3,none⟩=some ↑pk/\w'.cell? ⟨kb,4,none⟩=some ↑eG/\w'.cell? ⟨kb,5,none⟩=some ↑lag/\w'.cell? ⟨kb,6,none⟩=some ↑lead) (go_keep) (first
   |(go_at_call 137;(with_reducible refine Calls.mono hL ?_);rintro _ _⟨rfl,rfl⟩)
   |(go_at_call 138;(with_reducible refine Calls.mono Zt ?_);rintro _ w2⟨a1,c1,rfl,o2,q2⟩;obtain⟨g3,hg3,ahi,aiE,_,_,_⟩:=ah.ym WG.out (o2.up 1);rw[HG.out]at hg3;injection hg3 with hg3;injection hg3 with hg3;subst hg3;rw[HN.out]at ahi;have z0:=(o2.up 2).cell 0;have z1:=(o2.up 2).cell 1;have z2:=(o2.up 2).cell 2;have z3:=(o2.up 2).cell 3;have z4:=(o2.up 2).cell 4;have z5:=(o2.up 2).cell 5;have z6:=(o2.up 2).cell 6;change World.cell? w2 ⟨kb,0,none⟩=some ↑(j:Int)at z0;change World.cell? w2 ⟨kb,1,none⟩=some ↑(i:Int)at z1;change World.cell? w2 ⟨kb,2,none⟩=some ↑wt at z2;change World.cell? w2 ⟨kb,3,none⟩=some ↑pk at z3;change World.cell? w2 ⟨kb,4,none⟩=some ↑eG at z4;change World.cell? w2 ⟨kb,5,none⟩=some ↑lag at z5;change World.cell? w2 ⟨kb,6,none⟩=some ↑lead at z6))
  have o3:=o2.re [0,2] 2;have K2:=(aD K0).trans q2;go_wp2;go_ret;exact⟨rfl,o3,K2⟩
def MH(c:Int×Int):aL:=.agg #[c.1,c.2]
noncomputable def Jg(i:Nat):Field:=(prog.fieldsOf 238).getD i default
theorem acJ(p q:Int×Int)(w:aF):(binOp .eql 238 (.agg #[p.1,p.2]) (.agg #[q.1,q.2])).run prog w=.ok (.bool (p==q)) w:=by
 rw[run_eql_struct,run_equalIn_agg w 9999 _ _ _ (by kernel_rfl) (by kernel_rfl)];have hf:(prog.fieldsOf 238).toList=[Jg 0,Jg 1]:=by kernel_rfl
 have h0:(Jg 0).name= "id":=by kernel_rfl
 have h1:(Jg 1).name= "seq":=by kernel_rfl
 have t0:(Jg 0).type=3:=by kernel_rfl
 have t1:(Jg 1).type=3:=by kernel_rfl
 have o0:(Jg 0).offset=0:=by kernel_rfl
 have o1:(Jg 1).offset=1:=by kernel_rfl
 rw[hf];obtain⟨p0,p1⟩:=p;obtain⟨q0,q1⟩:=q;have hu:=underlying3;have hk:prog.plainKey 3=true:=by kernel_rfl
 have e1:=run_part_plain (v:=.int .i64 p0) (P:=prog) (w:=w) hk (xs:=#[p0,p1]) (off:=0) rfl;have e2:=run_part_plain (v:=.int .i64 q0) (P:=prog) (w:=w) hk (xs:=#[q0,q1]) (off:=0) rfl;have e3:=run_part_plain (v:=.int .i64 p1) (P:=prog) (w:=w) hk (xs:=#[p0,p1]) (off:=1) rfl;have e4:=run_part_plain (v:=.int .i64 q1) (P:=prog) (w:=w) hk (xs:=#[q0,q1]) (off:=1) rfl;have g0:(Jg 0).name≠ "_":=by rw[h0];decide
 have g1:(Jg 1).name≠ "_":=by rw[h1];decide
 obtain⟨n,hn⟩:∃n:Nat,(9999:Nat)=n+1:=⟨9998,rfl⟩;rw[hn];clear hn;simp only[Op.eqFields,t0,t1,o0,o1,e1,e2,e3,e4,ne_eq,g0,g1,not_false_eq_true,if_true,Sem.run_bind,Result.andThen_ok,run_equalIn_int _ _ _ _ _ _ _ hu,Sem.run_pure];have hb:((p0,p1)==(q0,q1))=(p0==q0&&p1==q1):=rfl;rw[hb];cases h:(p0==q0)<;>cases h':(p1==q1)<;>simp[Op.eqFields,e3,e4,run_equalIn_int _ _ _ _ _ _ _ hu,h']
def yu(L:bO)(x:Int×Int):Int:=match L.findIdx? (fun y=>y==x)with
 |some i=>(i:Int)
 |none=>-1
theorem SH{L:bO}{x:Int×Int}{i:Nat}(h:L[i]?=some x)(hno:∀j,j<i->∀y,L[j]?=some y->y≠x):yu L x=(i:Int):=by
 unfold yu;have hf:L.findIdx? (fun y=>y==x)=some i:=by
  rw[List.findIdx?_eq_some_iff_getElem];obtain⟨h1,h2⟩:=eU.1 h;refine⟨h1,by simp[h2],fun j hj=>?_⟩;have hlt:j<L.length:=by omega
  have:=hno j hj L[j] (cZ hlt);simpa using this
 rw[hf]
theorem SI{L:bO}{x:Int×Int}(hno:∀y∈L,y≠x):yu L x=-1:=by
 unfold yu;have hf:L.findIdx? (fun y=>y==x)=none:=by rw[List.findIdx?_eq_none_iff];intro y hy;simpa using hno y hy
 rw[hf]
theorem GI(L:bO)(x:Int×Int):decide (0<=yu L x)=L.contains x:=by
 unfold yu;cases h:L.findIdx? (fun y=>y==x)with
 |none=>
  have h1:=List.findIdx?_eq_none_iff.1 h;have:L.contains x=false:=by
   rw[Bool.eq_false_iff];intro hc;have h2:x∈L:=by simpa using hc
   have:=h1 x h2;simp at this
  rw[this];rfl
 |some i=>
  obtain⟨h1,h2,_⟩:=List.findIdx?_eq_some_iff_getElem.1 h;have h3:L[i]=x:=by simpa using h2
  have:L.contains x=true:=by rw[List.contains_iff_mem,<-h3];exact List.getElem_mem _
  rw[this];simp
def afG(L:bO)(x:Int×Int)(n:Nat)(l:aJ)(w:aF)(_ v8:aL)(wr:aF):Prop:=
 ∃i:Nat,v8=↑(i:Int)/\i<=n/\(∀j,j<i->∀y,L[j]?=some y->y≠x)/\Own wr l/\Calm w wr
theorem PS{a:aY}{c n:Nat}{L:bO}(x:Int×Int)(hn0:L.length=n)(hn:n<=100000)(o:Own w (slc 238 2 a n c (flat dF L)::R)):
  Calls prog 243 #[.slice a n c,.agg #[x.1,x.2]] w (aR (.int .i64 (yu L x)) (slc 238 2 a n c (flat dF L)::R) w):=by
 have HN:=az hn0;have oA:Own (w.alloc (.cells #[x.1,x.2] 238)) (aH w.heap.size 238 [x.1,x.2]::_):=o.alloc (.cells #[x.1,x.2] 238);have K0:=aj (x:=.cells #[x.1,x.2] 238) (Calm.refl w);have heq:=acJ;clear hn0 o;go_enter func243,ntmps243;go_wp2;generalize w.heap.size=kb at*;generalize w.alloc (.cells #[x.1,x.2] 238)=w0 at*;go_loopw[5,8] (fun v5 v8 wr=>afG L x n (aH kb 238 [x.1,x.2]::slc 238 2 a n c (flat dF L)::R) w v5 v8 wr) (fun _ v _=>n-(Lib.intOf v).toNat);case atStart=>exact⟨0,rfl,by omega,fun j hj=>absurd hj (Nat.not_lt_zero _),oA,K0⟩
 case round=>
  clear oA K0;obtain⟨i,rfl,hi,hno,oR,kR⟩:=hrel;by_cases hil:i<n
  ·obtain⟨y,hy⟩:∃y,L[i]?=some y:=⟨_,cZ (by rw[HN.out];exact hil)⟩;obtain⟨g,rfl,hc,_,hgl⟩:=(oR.up 1).aG (by omega);have e0:=hc (i*2+0) y.1 (by rw[aB fE L i 0 y hy (by omega)];rfl);have e1:=hc (i*2+1) y.2 (by rw[aB fE L i 1 y hy (by omega)];rfl);rw[Nat.add_zero]at e0;obtain⟨-,kl,k0,k1,-⟩:=oR.cs;change World.cell? _ ⟨kb,0,none⟩=some ↑x.1 at k0;change World.cell? _ ⟨kb,1,none⟩=some ↑x.2 at k1;clear hc;have hq:=fun w=>acJ x y w;by_cases hxy:y=x
   ·have HF:=az (show yu L x=(i:Int)from SH (by rw[hy,hxy]) hno);have hd:(x==y)=true:=by rw[hxy];exact beq_self_eq_true x
    rw[hd]at hq;clear hy hno hxy hd heq;go_upto_region 4 with fail;go_quiet(fail);go_wp2;go_ret;exact⟨by rw[HF.out];rfl,(oR.re [0] 1).drewN _,kR.dn _⟩
   ·have hd:(x==y)=false:=by rw[Ec];exact fun h=>hxy h.symm
    rw[hd]at hq
    have HX:=az (show∀j,j<i+1->∀z,L[j]?=some z->z≠x from fun j hj z hz=>by
     by_cases he:j=i
     ·subst he;rw[hy]at hz;cases hz;exact hxy
     ·exact hno j (by omega) z hz)
    clear hxy hy hno hd heq;go_upto_region 4 with fail;go_quiet(fail);go_wp2;go_roundw;case rel=>exact⟨i+1,by go_num,by omega,HX.out,oR.drewN _,kR.dn _⟩
    case measure=>simp[Lib.intOf];omega
  ·have hin:i=n:=by omega
   have HF:=az (show yu L x=-1 from SI fun y hy=>by
    obtain⟨j,hj,rfl⟩:=List.getElem_of_mem hy
    exact hno j (by rw[hin,<-HN.out];exact hj) _ (cZ hj))
   subst hin;clear hno heq;go_wp2;go_ret;exact⟨by rw[HF.out];rfl,oR.re [0] 1,kR⟩
theorem PT{a:aY}{c n:Nat}{L:bO}(x:Int×Int)(hn0:L.length=n)(hn:n<=100000)(o:Own w (slc 238 2 a n c (flat dF L)::R)):
  Calls prog 187 #[.slice a n c,.agg #[x.1,x.2]] w (aR (.bool (L.contains x)) (slc 238 2 a n c (flat dF L)::R) w):=by
 have oA:Own (w.alloc (.cells #[x.1,x.2] 238)) (aH w.heap.size 238 [x.1,x.2]::_):=o.alloc (.cells #[x.1,x.2] 238);have K0:=aj (x:=.cells #[x.1,x.2] 238) (Calm.refl w);have hi:=PS (c:=c) x hn0 hn (oA.up 1);rw[<-GI];generalize yu L x=I at*;clear hn hn0 o;go_enter func187,ntmps187;go_wp2_with fail;refine hi.mono ?_;rintro e1 w1⟨rfl,o1,k1⟩;go_wp2;go_ret;exact⟨rfl,o1.re [1] 1,K0.trans k1⟩
theorem GK{x:MB}{i j:Nat}{st:rV}{rt:Int×Int}(hT:m.tab.Ok)(hs:m.tab.S[i]?=some st)(hj:st.rate=(j:Int))(hr:m.cfg.bQ[j]?=some rt)(o:Own w (ah b m x::R)):
  Calls prog 105 #[b,(i:Int)] w (aR (nO rt) (ah b m x::R) w):=by
 obtain⟨hx,o1⟩:=ah.iff.1 o;have oA:Own (w.alloc (.cells #[aC,aC] 62)) (aH w.heap.size 62 [aC,aC]::(bX b m x++R)):=o1.alloc (.cells #[aC,aC] 62);have K0:=aj (x:=.cells #[aC,aC] 62) (Calm.refl w);have oC:Own _ (aH b 75 (aW m x)::_):=oA.up 1;have c20:=Own.cell oC 20 (show(aW m x)[20]?=some (.pointer (some ⟨x.tb,0,none⟩))from rfl);have hSt:=uM (i:Int) hT (oA.up 2);have HV:WJ m.tab.S (i:Int)=.tuple #[.agg (qW st).toArray,.bool true]:=by unfold WJ WI;rw[if_neg (by omega),Int.toNat_natCast,hs]
 rw[HV]at hSt;have HJ:=az hj;have HR:=az hr;have HX:=az hx;have hcl:(List.length m.cfg.bQ)=(List.length m.cfg.bQ):=rfl;unfold qW at hSt;rw[hj]at hSt;have hjl:=(eU.1 hr).1;obtain⟨n,hn⟩:=aP m.cfg.bQ.length;have HN:=az hn;rw[hn]at hjl;clear hn hj hr hx HV hT hs o o1 oC hcl;go_enter func105,ntmps105;go_wp2_with fail;generalize w.heap.size=kb at*;generalize w.alloc (.cells #[aC,aC] 62)=w0 at*;refine hSt.mono ?_;rintro _ w2⟨rfl,o2,k2⟩;have K2:=K0.trans k2;have oB:Own (w2.alloc (.cells #[st.id,.string st.nm,st.wt,(j:Int)] 269)) (aH w2.heap.size 269 [st.id,.string st.nm,st.wt,(j:Int)]::_):=o2.alloc (.cells #[st.id,.string st.nm,st.wt,(j:Int)] 269);have d3:=oB.cell 3;have oC:Own _ (aH b 75 (aW m x)::_):=oB.up 3;have c14:=Own.cell oC 14 (show(aW m x)[14]?=some (.slice x.ra m.cfg.bQ.length x.rc)from rfl);have oR:Own _ (slc 62 2 x.ra m.cfg.bQ.length x.rc (flat uV m.cfg.bQ)::_):=oB.up 14;obtain⟨g,hg,hc,_,hgl⟩:=oR.aG (by rw[HN.out];omega);have e0:=hc (j*2+0) rt.1 (by rw[aB xw m.cfg.bQ j 0 rt HR.out (by omega)];rfl);have e1:=hc (j*2+1) rt.2 (by rw[aB xw m.cfg.bQ j 1 rt HR.out (by omega)];rfl);rw[Nat.add_zero]at e0;rw[hg,HN.out]at c14;obtain⟨kf,kl,k0,k1,-⟩:=(oB.up 2).cs;clear hc oC oR hSt c20 hg;go_upto_region 2 with fail;refine wp_region_tail 7 (by kernel_rfl) (by kernel_rfl) ?_;simp only[xe,List.take_zero,yB,List.drop_zero];repeat still_step
 refine wpStill_nil ?_;go_wp2
 (try simp only[Exit.inBlock,Exit.then])
 refine bodyPost_ret (v:=nO rt) ?_ rfl ⟨rfl,?_,?_⟩
 ·unfold nO;rw[C8 rfl];go_simp
 ·have oE:=((oB.drew.up 2).setCell 0 rt.1).setCell 1 rt.2;have oF:=oE.re [0,1,3,2] 2;exact ah.iff.2 ⟨HX.out,oF⟩
 ·exact ay (ay (aD (aj K2)))
def gy(P:Program)(g:Nat)(args:Array aL)(w:aF){Y:Type}(v:Y->aL)(E:Y->aJ)(A A':SP):Prop:=
 ∀R1:aJ,Own w (A::R1)->Calls P g args w (fun e w'=>∃y,aR (v y) (E y++A'::R1) w e w')
theorem gy.one{P:Program}{g:Nat}{args:Array aL}{A A':SP}{v:aL}(h:∀R1:aJ,Own w (A::R1)->Calls P g args w (aR v (A'::R1) w)):gy P g args w (fun _:Unit=>v) (fun _=>[]) A A':=
 fun R1 o=>(h R1 o).mono fun _ _ hr=>⟨(),hr⟩
theorem gy.still{P:Program}{g:Nat}{args:Array aL}{A:SP}{v:aL}(h:∀R1:aJ,Own w (A::R1)->Calls P g args w (bN v w)):gy P g args w (fun _:Unit=>v) (fun _=>[]) A A:=
 fun R1 o=>(h R1 o).mono fun _ _ hr=>⟨(),by obtain⟨rfl,rfl⟩:=hr;exact⟨rfl,o,Calm.refl _⟩⟩
theorem gy.at{P:Program}{g:Nat}{args:Array aL}{Y:Type}{v:Y->aL}{E:Y->aJ}{A A':SP}{l:aJ}(k:Nat)(h:gy P g args w v E A A')(hk:l[k]?=some A)(o:Own w l):
  Calls P g args w (fun e w'=>∃y,aR (v y) (E y++l.set k A') w e w'):=by
 have o1:=o.perm (zI k l A hk);refine(h _ o1).mono ?_;rintro e w2⟨y,h1,o2,k2⟩;refine⟨y,h1,o2.perm (List.Perm.append_left _ ?_),k2⟩;have hl:=(eU.1 hk).1;have h2:=zI k (l.set k A') A' (by rw[List.getElem?_set_self hl]);have h3:(l.set k A').eraseIdx k=l.eraseIdx k:=List.eraseIdx_set_eq;rw[h3]at h2;exact h2.symm
theorem Own.under{E L M:aJ}(h:∀R':aJ,Own w (L++R')->Own w (M++R'))(o:Own w (E++(L++R))):Own w (E++(M++R)):=by
 have h1:(E++(L++R)).Perm (L++(E++R)):=by rw[<-List.append_assoc,<-List.append_assoc];exact List.Perm.append_right R List.perm_append_comm
 have h2:(M++(E++R)).Perm (E++(M++R)):=by rw[<-List.append_assoc,<-List.append_assoc];exact List.Perm.append_right R List.perm_append_comm
 exact(h _ (o.perm h1)).perm h2
def GL(s:lM)(a d r:Nat):dw:=[a,d,r,s.nx,s.IB]
def PU(b:Nat)(m:aX)(x:MB)(i p:Nat)(s:lM)(a d r:Nat):aJ:=
 [aH p 181 (GL s a d r),pR a s.ch,dP d s.sd,eY r s.rv,st ((List.zipWith iN m.ss m.S).eraseIdx i)]++(bX b m x).eraseIdx 6
theorem ah.MK{x:MB}{i p:Nat}{s:lM}(hp:m.ss[i]?=some p)(hs:m.S[i]?=some s)(o:Own w (ah b m x::R)):
  ∃(a d r:Nat),(m.qs.length=m.Q.length/\m.ss.length=m.S.length)/\Own w (PU b m x i p s a d r++R):=by
 obtain⟨a,d,r,hx,h⟩:=ah.fU hp hs o;exact⟨a,d,r,hx,h⟩
theorem ah.ML{i p:Nat}{s s':lM}{x:MB}{a d r:Nat}(hp:m.ss[i]?=some p)(hs:m.S[i]?=some s)(hx:m.qs.length=m.Q.length/\m.ss.length=m.S.length)
  (o:Own w (PU b m x i p s' a d r++R)):Own w (ah b {m with S:=m.S.set i s'} x::R):=ah.xz (R:=R) hp hs hx o
structure fu(w:aF)(p a d r:Nat):Prop where
 c0:w.cell? ⟨p,0,none⟩=some (.pointer (some ⟨a,0,none⟩))
 c1:w.cell? ⟨p,1,none⟩=some (.pointer (some ⟨d,0,none⟩))
 c2:w.cell? ⟨p,2,none⟩=some (.pointer (some ⟨r,0,none⟩))
 lt:p<w.heap.size
 fz:∀k,w.frozen? ⟨p,k,none⟩=false
theorem fu.of{s:lM}{p a d r:Nat}(o:Own w (aH p 181 (GL s a d r)::R)):fu w p a d r:=⟨Own.cell o 0 rfl,Own.cell o 1 rfl,Own.cell o 2 rfl,o.aS,fun k=>o.frozen k⟩
theorem fu.eq{p a d r a' d' r':Nat}(h:fu w p a d r)(h':fu w p a' d' r'):a=a'/\d=d'/\r=r':=by
 have e0:=h.c0.symm.trans h'.c0;have e1:=h.c1.symm.trans h'.c1;have e2:=h.c2.symm.trans h'.c2;refine⟨?_,?_,?_⟩
 ·injection e0 with e;injection e with e;injection e with e;injection e
 ·injection e1 with e;injection e with e;injection e with e;injection e
 ·injection e2 with e;injection e with e;injection e with e;injection e
theorem fu.drewN{p a d r:Nat}(h:fu w p a d r)(n:Nat):fu (w.drewN n) p a d r:=⟨h.c0,h.c1,h.c2,h.lt,h.fz⟩
theorem ah.pts{x:MB}{i p:Nat}{s:lM}(hp:m.ss[i]?=some p)(hs:m.S[i]?=some s)(o:Own w (ah b m x::R)):∃a d r,fu w p a d r:=by obtain⟨a,d,r,hx,oS⟩:=ah.MK hp hs o;exact⟨a,d,r,fu.of (s:=s) oS⟩
theorem ah.DR{x:MB}{i p a d r:Nat}{s:lM}(hp:m.ss[i]?=some p)(hs:m.S[i]?=some s)(hpt:fu w p a d r)(o:Own w (ah b m x::R)):
  (m.qs.length=m.Q.length/\m.ss.length=m.S.length)/\Own w (PU b m x i p s a d r++R):=by
 obtain⟨a',d',r',hx,oS⟩:=ah.MK hp hs o;obtain⟨rfl,rfl,rfl⟩:=hpt.eq (fu.of (s:=s) oS);exact⟨hx,oS⟩
theorem ah.Zw{x:MB}{i p a d r:Nat}{s s':lM}(k:Nat){A A':SP}{P:Program}{g:Nat}{args:Array aL}{Y:Type}{v:Y->aL}{E:Y->aJ}
  (h1:∀R:aJ,(PU b m x i p s a d r++R)[k]?=some A)(h2:∀R:aJ,(PU b m x i p s a d r++R).set k A'=PU b m x i p s' a d r++R)
  (hp:m.ss[i]?=some p)(hs:m.S[i]?=some s)(hpt:fu w p a d r)(h:gy P g args w v E A A')(o:Own w (ah b m x::R)):
  Calls P g args w (fun e w'=>∃y,fu w' p a d r/\aR (v y) (E y++ah b {m with S:=m.S.set i s'} x::R) w e w'):=by
 obtain⟨hx,oS⟩:=ah.DR hp hs hpt o;refine(h.at k (h1 R) oS).mono ?_;rintro e w2⟨y,e1,o2,k2⟩;rw[h2 R]at o2;have o4:Own w2 (E y++([ah b {m with S:=m.S.set i s'} x]++R)):=Own.under (fun R' oR=>ah.ML hp hs hx oR) o2;have hk:(E y++(PU b m x i p s' a d r++R))[(E y).length]?=some (aH p 181 (GL s' a d r)):=by rw[List.getElem?_append_right (Nat.le_refl _),Nat.sub_self];rfl
 exact⟨y,fu.of (s:=s') (o2.up _ hk),e1,o4,k2⟩
theorem ah.snd{x:MB}{i p a d r:Nat}{s:lM}{d2:sH}{P:Program}{g:Nat}{args:Array aL}{Y:Type}{v:Y->aL}{E:Y->aJ}(hp:m.ss[i]?=some p)(hs:m.S[i]?=some s)(hpt:fu w p a d r)
  (h:gy P g args w v E (dP d s.sd) (dP d d2))(o:Own w (ah b m x::R)):
  Calls P g args w (fun e w'=>∃y,fu w' p a d r/\aR (v y) (E y++ah b {m with S:=m.S.set i {s with sd:=d2}} x::R) w e w'):=
 ah.Zw (s:=s) (s':={s with sd:=d2}) 2 (A:=dP d s.sd) (A':=dP d d2) (fun _=>rfl) (fun _=>rfl) hp hs hpt h o
theorem ah.rcv{x:MB}{i p a d r:Nat}{s:lM}{d2:jw}{P:Program}{g:Nat}{args:Array aL}{Y:Type}{v:Y->aL}{E:Y->aJ}(hp:m.ss[i]?=some p)(hs:m.S[i]?=some s)(hpt:fu w p a d r)
  (h:gy P g args w v E (eY r s.rv) (eY r d2))(o:Own w (ah b m x::R)):
  Calls P g args w (fun e w'=>∃y,fu w' p a d r/\aR (v y) (E y++ah b {m with S:=m.S.set i {s with rv:=d2}} x::R) w e w'):=
 ah.Zw (s:=s) (s':={s with rv:=d2}) 3 (A:=eY r s.rv) (A':=eY r d2) (fun _=>rfl) (fun _=>rfl) hp hs hpt h o
theorem ah.chn{x:MB}{i p a d r:Nat}{s:lM}{d2:vD}{P:Program}{g:Nat}{args:Array aL}{Y:Type}{v:Y->aL}{E:Y->aJ}(hp:m.ss[i]?=some p)(hs:m.S[i]?=some s)(hpt:fu w p a d r)
  (h:gy P g args w v E (pR a s.ch) (pR a d2))(o:Own w (ah b m x::R)):
  Calls P g args w (fun e w'=>∃y,fu w' p a d r/\aR (v y) (E y++ah b {m with S:=m.S.set i {s with ch:=d2}} x::R) w e w'):=
 ah.Zw (s:=s) (s':={s with ch:=d2}) 1 (A:=pR a s.ch) (A':=pR a d2) (fun _=>rfl) (fun _=>rfl) hp hs hpt h o
theorem AV{i:Nat}{s:lM}(hs:m.S[i]?=some s):{m with S:=m.S.set i s}=m:=by rw[Cr hs]
theorem ah.Zx{x:MB}{i p a d r:Nat}{s:lM}{P:Program}{g:Nat}{args:Array aL}{Y:Type}{v:Y->aL}{E:Y->aJ}(hp:m.ss[i]?=some p)(hs:m.S[i]?=some s)(hpt:fu w p a d r)
  (h:gy P g args w v E (dP d s.sd) (dP d s.sd))(o:Own w (ah b m x::R)):
  Calls P g args w (fun e w'=>∃y,fu w' p a d r/\aR (v y) (E y++ah b m x::R) w e w'):=by
 have h1:=ah.snd hp hs hpt h o;rw[show{s with sd:=s.sd}=s from rfl,AV hs]at h1;exact h1
theorem ah.ahk{x:MB}{i p a d r:Nat}{s:lM}{P:Program}{g:Nat}{args:Array aL}{Y:Type}{v:Y->aL}{E:Y->aJ}(hp:m.ss[i]?=some p)(hs:m.S[i]?=some s)(hpt:fu w p a d r)
  (h:gy P g args w v E (eY r s.rv) (eY r s.rv))(o:Own w (ah b m x::R)):
  Calls P g args w (fun e w'=>∃y,fu w' p a d r/\aR (v y) (E y++ah b m x::R) w e w'):=by
 have h1:=ah.rcv hp hs hpt h o;rw[show{s with rv:=s.rv}=s from rfl,AV hs]at h1;exact h1
theorem ah.afI{x:MB}{i p a d r:Nat}{s:lM}{P:Program}{g:Nat}{args:Array aL}{Y:Type}{v:Y->aL}{E:Y->aJ}(hp:m.ss[i]?=some p)(hs:m.S[i]?=some s)(hpt:fu w p a d r)
  (h:gy P g args w v E (pR a s.ch) (pR a s.ch))(o:Own w (ah b m x::R)):
  Calls P g args w (fun e w'=>∃y,fu w' p a d r/\aR (v y) (E y++ah b m x::R) w e w'):=by
 have h1:=ah.chn hp hs hpt h o;rw[show{s with ch:=s.ch}=s from rfl,AV hs]at h1;exact h1
theorem ah.Zy{x:MB}{i p a d r:Nat}{s s':lM}{k:Nat}{u:aL}(hc:(GL s a d r).set k u=GL s' a d r)(h3:s'.ch=s.ch/\s'.sd=s.sd/\s'.rv=s.rv)(hp:m.ss[i]?=some p)(hs:m.S[i]?=some s)(hpt:fu w p a d r)(o:Own w (ah b m x::R)):
  Own (w.setCell ⟨p,k,none⟩ u) (ah b {m with S:=m.S.set i s'} x::R)/\fu (w.setCell ⟨p,k,none⟩ u) p a d r:=by
 obtain⟨hx,oS⟩:=ah.DR hp hs hpt o;have oC:Own w (aH p 181 (GL s a d r)::_):=oS;have o2:=Own.setCell oC k u;rw[hc]at o2;refine⟨ah.ML (s':=s') (a:=a) (d:=d) (r:=r) hp hs hx ?_,fu.of (s:=s') o2⟩;unfold PU;rw[h3.1,h3.2.1,h3.2.2];exact o2
theorem ah.UL{x:MB}{j pq:Nat}{q q2:xP}{P:Program}{g:Nat}{args:Array aL}{Y:Type}{v:Y->aL}{E:Y->aJ}(hp:m.qs[j]?=some pq)(hq:m.Q[j]?=some q)
  (h:gy P g args w v E (dQ pq q) (dQ pq q2))(o:Own w (ah b m x::R)):
  Calls P g args w (fun e w'=>∃y,aR (v y) (E y++ah b {m with Q:=m.Q.set j q2} x::R) w e w'):=by
 obtain⟨hx,oS⟩:=ah.que hp hq o;refine(h.at (l:=dQ pq q::st ((List.zipWith dQ m.qs m.Q).eraseIdx j)::((bX b m x).eraseIdx 4++R)) 0 rfl oS).mono ?_;rintro e w2⟨y,e1,o2,k2⟩;have o3:Own w2 (E y++(([dQ pq q2,st ((List.zipWith dQ m.qs m.Q).eraseIdx j)]++(bX b m x).eraseIdx 4)++R)):=o2;exact⟨y,e1,Own.under (M:=[ah b {m with Q:=m.Q.set j q2} x]) (fun R' oR=>ah.abp hp hq hx oR) o3,k2⟩
theorem PV{j:Nat}{q:xP}(hq:m.Q[j]?=some q):{m with Q:=m.Q.set j q}=m:=by rw[Cr hq]
theorem ah.ad6{x:MB}{j pq:Nat}{q:xP}{P:Program}{g:Nat}{args:Array aL}{Y:Type}{v:Y->aL}{E:Y->aJ}(hp:m.qs[j]?=some pq)(hq:m.Q[j]?=some q)
  (h:gy P g args w v E (dQ pq q) (dQ pq q))(o:Own w (ah b m x::R)):
  Calls P g args w (fun e w'=>∃y,aR (v y) (E y++ah b m x::R) w e w'):=by
 have h1:=ah.UL hp hq h o;rw[PV hq]at h1;exact h1
theorem ah.MM{x x':MB}{m':aX}(k:Nat){A A':SP}{P:Program}{g:Nat}{args:Array aL}{Y:Type}{v:Y->aL}{E:Y->aJ}
  (h1:∀R:aJ,(bX b m x++R)[k]?=some A)(h2:∀R:aJ,(bX b m x++R).set k A'=bX b m' x'++R)(h3:m'.qs=m.qs/\m'.Q=m.Q/\m'.ss=m.ss/\m'.S=m.S)
  (h:gy P g args w v E A A')(o:Own w (ah b m x::R)):Calls P g args w (fun e w'=>∃y,aR (v y) (E y++ah b m' x'::R) w e w'):=by
 obtain⟨hx,oS⟩:=ah.iff.1 o;refine(h.at k (h1 R) oS).mono ?_;rintro e w2⟨y,e1,o2,k2⟩;rw[h2 R]at o2;refine⟨y,e1,Own.under (M:=[ah b m' x']) (fun R' oR=>ah.iff.2 ⟨?_,oR⟩) o2,k2⟩;rw[h3.1,h3.2.1,h3.2.2.1,h3.2.2.2];exact hx
theorem ah.acK{x:MB}{T:yV}{P:Program}{g:Nat}{args:Array aL}{Y:Type}{v:Y->aL}{E:Y->aJ}(h:gy P g args w v E (dM x.tb m.tab) (dM x.tb T))(o:Own w (ah b m x::R)):
  Calls P g args w (fun e w'=>∃y,aR (v y) (E y++ah b {m with tab:=T} x::R) w e w'):=
 ah.MM (m':={m with tab:=T}) (x':=x) 1 (A:=dM x.tb m.tab) (A':=dM x.tb T) (fun _=>rfl) (fun _=>rfl) ⟨rfl,rfl,rfl,rfl⟩ h o
theorem ah.SL{x:MB}{P:Program}{g:Nat}{args:Array aL}{Y:Type}{v:Y->aL}{E:Y->aJ}(h:gy P g args w v E (dM x.tb m.tab) (dM x.tb m.tab))(o:Own w (ah b m x::R)):
  Calls P g args w (fun e w'=>∃y,aR (v y) (E y++ah b m x::R) w e w'):=ah.acK h o
theorem ah.UM{x:MB}{T:vE}{P:Program}{g:Nat}{args:Array aL}{Y:Type}{v:Y->aL}{E:Y->aJ}(h:gy P g args w v E (iV x.lb m.jy) (iV x.lb T))(o:Own w (ah b m x::R)):
  Calls P g args w (fun e w'=>∃y,aR (v y) (E y++ah b {m with jy:=T} x::R) w e w'):=
 ah.MM (m':={m with jy:=T}) (x':=x) 7 (A:=iV x.lb m.jy) (A':=iV x.lb T) (fun _=>rfl) (fun _=>rfl) ⟨rfl,rfl,rfl,rfl⟩ h o
theorem ah.afJ{x x':MB}{m':aX}(k:Nat)(u:aL)(hc:(aW m x).set k u=aW m' x')(ht:(bX b m x).tail=(bX b m' x').tail)(h3:m'.qs=m.qs/\m'.Q=m.Q/\m'.ss=m.ss/\m'.S=m.S)(o:Own w (ah b m x::R)):
  Own (w.setCell ⟨b,k,none⟩ u) (ah b m' x'::R):=by
 obtain⟨hx,oS⟩:=ah.iff.1 o;have oC:Own w (aH b 75 (aW m x)::((bX b m x).tail++R)):=oS;have o2:=Own.setCell oC k u;rw[hc,ht]at o2;refine ah.iff.2 ⟨?_,o2⟩;rw[h3.1,h3.2.1,h3.2.2.1,h3.2.2.2];exact hx
theorem ah.frozen{x:MB}(o:Own w (ah b m x::R))(k:Nat):w.frozen? ⟨b,k,none⟩=false:=by obtain⟨hx,oS⟩:=ah.iff.1 o;have oC:Own w (aH b 75 (aW m x)::((bX b m x).tail++R)):=oS;exact oC.frozen k
end
end Go.Proofs.YtfejhikpfhgbeaaGreatDoor
