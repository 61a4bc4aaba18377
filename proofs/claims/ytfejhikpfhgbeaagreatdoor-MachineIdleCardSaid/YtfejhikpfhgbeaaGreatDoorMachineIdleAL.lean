import Derived.Test.YtfejhikpfhgbeaaGreatDoorMachineIdleAK
set_option maxHeartbeats 25600000
set_option maxRecDepth 100000
set_option linter.all false
namespace Go.Proofs.YtfejhikpfhgbeaaGreatDoor
open Go.Proofs.Tryz
open Go.RowKit
open SP
section
variable{W w w':aF}{R:aJ}{b:Nat}{m:aX}
def Il(er v:Int):aL:=.agg #[er,(if er=0 then v else 0:Int)]
theorem wY{w:aF}{R:aJ}{fn:Func}{p pb:Nat}{er v:Int}(h:fn.results=#[.cell p 43]){tmps:Array aL}(hp:tmps.getD p undef=.pointer (some ⟨pb,0,none⟩))
  (o:Own w (aH pb 43 [er,v]::R)):(results fn tmps).run prog w=.ok (.agg #[er,v]) w:=
 results_cell_row h _ _ pb _ _ _ _ hp o.blk underlying43 rfl (by kernel_rfl)
theorem Bd{e:Nt}{fa:aY}{fc:Nat}{A:SP}{Pr:Int->Int->aX->Prop}(hst:m.stop=false)(hok:VH e=true)
  (hE:∀(w1:aF)(R1:aJ),Own w1 (aK b m::A::R1)->Calls prog 28 #[b,xG e fa fc] w1 (fun en w'=>∃v er m',Pr v er m'/\aR (.tuple #[.int .i64 v,.int .i64 er]) (aK b m'::A::R1) w1 en w'))
  (o:Own w (aK b m::A::R)):
  Calls prog 10 #[b,xG e fa fc] w (fun en w'=>∃v er m',Pr v er m'/\aR (Il er v) (aK b m'::A::R) w en w'):=by
 have oA:Own (w.alloc (.cells #[e.k,e.a,e.b,e.c,.string e.s,.slice fa e.F.length fc] 47)) (aH w.heap.size 47 [e.k,e.a,e.b,e.c,.string e.s,.slice fa e.F.length fc]::aK b m::A::R):=o.alloc (.cells #[e.k,e.a,e.b,e.c,.string e.s,.slice fa e.F.length fc] 47);have oB:Own _ (aH _ 43 [aC,aC]::_):=oA.alloc (.cells #[aC,aC] 43);rw[World.size_alloc]at oB;have K0:=aj (x:=.cells #[aC,aC] 43) (aj (x:=.cells #[e.k,e.a,e.b,e.c,.string e.s,.slice fa e.F.length fc] 47) (Calm.refl w));have hV:=LA (e:=e) (fa:=fa) (fc:=fc) oB;rw[hok]at hV;obtain⟨x,oX⟩:=ah.of (oB.up 2);obtain⟨c18,cl⟩:=ah.cell (k:=18) rfl oX;change World.cell? _ ⟨b,18,none⟩=some (.bool m.stop)at c18;rw[hst]at c18;obtain⟨-,-,e0,e1,e2,e3,e4,e5,-⟩:=(oB.up 1).cs;unfold xG at hV⊢;have HE:=az hE;clear oA oX hst hok o hE;go_enter func10,ntmps10;go_wp2_with fail;refine hV.mono ?_;rintro _ w2⟨rfl,o2,k2⟩;have K2:=K0.trans k2;have hS:=HE.out w2 _ (o2.re [2,3]);unfold xG at hS;obtain⟨-,-,e0,e1,e2,e3,e4,e5,-⟩:=(o2.up 1).cs;clear hV oB K0 k2;go_wp2_with fail;refine hS.mono ?_;rintro _ w3⟨v,er,m',hpr,rfl,o3,k3⟩;have HPR:=az hpr;have K3:=K2.trans k3;obtain⟨zf,zl,z0,z1,-⟩:=(o3.up 2).cs;clear hS o2 hpr K2 k3;by_cases her:er=0
 ·subst her;have oF:=((o3.up 2).setCell 0 aC).setCell 1 (.int .i64 v);go_wp2
  (try simp only[Exit.inBlock,Exit.then])
  refine bodyPost_ret (v:=.agg #[aC,.int .i64 v]) (wY rfl rfl oF) rfl ⟨v,0,m',HPR.out,?_,oF.re [0,3] 2,ay (ay K3)⟩;unfold Il;rw[if_pos rfl];all_goals rfl
 ·have dn:(er !=0)=true:=by rw[bne_iff_ne];exact her
  have oF:=((o3.up 2).setCell 0 (.int .i64 er)).setCell 1 aC;go_wp2
  (try simp only[Exit.inBlock,Exit.then])
  refine bodyPost_ret (v:=.agg #[.int .i64 er,aC]) (wY rfl rfl oF) rfl ⟨v,er,m',HPR.out,?_,oF.re [0,3] 2,ay (ay K3)⟩;unfold Il;rw[if_neg her];all_goals rfl
end
section
structure Chs(W:aF)(C:Nat->SP)(cb:Nat):Prop where
 up:∀{w:aF}{R:aJ}{N M:Nat},N<=M->Own w (C N::R)->Own w (C M::R)
 next:∀(N:Nat)(n:Int)(R:aJ)(w:aF),1<=n->n<=4611686018427387904->(N:Int)<=1000000000000->Own w (C N::old W::R)->
  Calls prog 15 #[cb,n] w (fun e w'=>∃x:Int,0<=x/\x<n/\e=.returned (.int .i64 x)/\Own w' (C (N+1)::old W::R)/\Calm w w')
theorem ab7(W:aF)(cb:Nat):Chs W (Ch W cb) cb:=⟨fun h o=>Ch.upTo h o,fun N n R w h1 h2 h3 o=>BQ W cb N n R w h1 h2 h3 o⟩
variable{W w w':aF}{R:aJ}{b cb K:Nat}{C:Nat->SP}
def aav(W:aF)(C:Nat->SP)(K:Nat)(R:aJ)(w:aF)(e:Ending)(w':aF):Prop:=∃x:Int,(1<=x/\x<=3)/\aR (.int .i64 x) (C (K+1)::old W::R) w e w'
theorem Ng(hC:Chs W C cb)(hK:K<=800000000)(o:Own w (C K::old W::R)):Calls prog 8 #[cb] w (aav W C K R w):=by
 have hN:=hC.next K 3 R w (by omega) (by omega) (by omega) o;clear o;go_enter func8,ntmps8;go_wp2_with fail;refine hN.mono ?_;rintro e1 w1⟨x,hx0,hx1,rfl,o1,k1⟩;have hw:IntKind.i64.wrap (1+x)=1+x:=by rw[gB];omega
 clear hN;go_wp2;go_ret;exact⟨1+x,by omega,rfl,o1,k1⟩
def aeI(W:aF)(C:Nat->SP)(K:Nat)(R:aJ)(w:aF)(e:Ending)(w':aF):Prop:=∃kd k n:Int,IQ kd k n=true/\aR (.agg #[kd,k,n]) (C (K+3)::old W::R) w e w'
theorem aaw{fn:Func}(h:fn.results=#[.cell 2 32]){tmps:Array aL}{p:Nat}{x y z:aL}(hp:tmps.getD 2 undef=.pointer (some ⟨p,0,none⟩))
  (o:Own w (aH p 32 [x,y,z]::R)):(results fn tmps).run prog w=.ok (.agg #[x,y,z]) w:=
 results_cell_row h _ _ p _ _ _ _ hp o.blk underlying32 rfl (by kernel_rfl)
theorem Nh(hC:Chs W C cb)(hK:K<=800000000)(o:Own w (C K::old W::R)):Calls prog 22 #[cb] w (aeI W C K R w):=by
 have oA:Own (w.alloc (.cells #[aC,aC,aC] 32)) (aH w.heap.size 32 [aC,aC,aC]::C K::old W::R):=o.alloc (.cells #[aC,aC,aC] 32);have K0:=aj (x:=.cells #[aC,aC,aC] 32) (Calm.refl w);have hN:=hC.next K 3 _ _ (by omega) (by omega) (by omega) (oA.re [1,2]);clear o oA;go_enter func22,ntmps22;go_wp2_with fail;refine hN.mono ?_;rintro e1 w1⟨x,hx0,hx1,rfl,o1,k1⟩;have K1:=K0.trans k1;clear hN K0 k1;generalize w.heap.size=kp at*;obtain⟨zf,zl,z0,z1,z2,-⟩:=(o1.up 2).cs;by_cases h0:x=0
 ·subst h0;have oZ:=(((o1.up 2).setCell 0 (2:Int)).setCell 1 aC).setCell 2 aC;go_wp2;refine bodyPost_ret (v:=.agg #[(2:Int),aC,aC]) (aaw (p:=kp) rfl rfl oZ) rfl ⟨2,0,0,by decide,rfl,?_,ay (ay (ay K1))⟩;exact hC.up (by omega) oZ.drop
 ·by_cases h1:x=1
  ·subst h1;clear h0;have hN2:=hC.next (K+1) 5 _ _ (by omega) (by omega) (by omega) o1;clear z0 z1 z2 zf zl;go_wp2_with fail;refine hN2.mono ?_;rintro e2 w2⟨y,hy0,hy1,rfl,o2,k2⟩;have hw:IntKind.i64.wrap (1+y)=1+y:=by rw[gB];omega
   have K2:=K1.trans k2;have hN3:=hC.next (K+1+1) (1+y) _ _ (by omega) (by omega) (by omega) o2;clear hN2 o1 K1 k2;go_wp2_with fail;refine hN3.mono ?_;rintro e3 w3⟨z,hz0,hz1,rfl,o3,k3⟩;have hw2:IntKind.i64.wrap (1+z)=1+z:=by rw[gB];omega
   obtain⟨zf,zl,z0,z1,z2,-⟩:=(o3.up 2).cs;have oZ:=(((o3.up 2).setCell 0 (1:Int)).setCell 1 (1+z:Int)).setCell 2 (1+y:Int);have hpr:IQ 1 (1+z) (1+y)=true:=by unfold IQ;rw[if_neg (by omega),if_pos rfl];simp only[Bt,xM];omega
   have HPR:=az hpr;clear hN3 o2 hpr;go_wp2;refine bodyPost_ret (v:=.agg #[(1:Int),(1+z:Int),(1+y:Int)]) (aaw (p:=kp) rfl rfl oZ) rfl ⟨1,1+z,1+y,HPR.out,rfl,?_,ay (ay (ay (K2.trans k3)))⟩;exact hC.up (by omega) oZ.drop
  ·have hb0:(x==0)=false:=by rw[Ec];exact h0
   have hb1:(x==1)=false:=by rw[Ec];exact h1
   have oZ:=(((o1.up 2).setCell 0 aC).setCell 1 aC).setCell 2 aC;clear h0 h1;go_wp2;refine bodyPost_ret (v:=.agg #[aC,aC,aC]) (aaw (p:=kp) rfl rfl oZ) rfl ⟨0,0,0,by decide,rfl,?_,ay (ay (ay K1))⟩;exact hC.up (by omega) oZ.drop
theorem aeJ{fn:Func}(h:fn.results=#[.cell 2 30]){tmps:Array aL}{p:Nat}{x y:aL}(hp:tmps.getD 2 undef=.pointer (some ⟨p,0,none⟩))
  (o:Own w (aH p 30 [x,y]::R)):(results fn tmps).run prog w=.ok (.agg #[x,y]) w:=
 results_cell_row h _ _ p _ _ _ _ hp o.blk underlying30 rfl (by kernel_rfl)
def ab8(W:aF)(C:Nat->SP)(K:Nat)(R:aJ)(w:aF)(e:Ending)(w':aF):Prop:=
 ∃nu de:Nat,RV nu de/\aR (.agg #[(nu:Int),(de:Int)]) (C (K+1)::old W::R) w e w'
theorem QM(hC:Chs W C cb)(hK:K<=800000000)(o:Own w (C K::old W::R)):
  Calls prog 21 #[cb] w (ab8 W C K R w):=by
 have oA:=(o.alloc (.cells #[aC,aC] 30)).alloc (.cells #[(1:Int),(2:Int),(9:Int),(10:Int),(1:Int),(10:Int),(2:Int),(3:Int),(1048575:Int),(1048576:Int),(1:Int),(1048576:Int)] 30);simp only[World.size_alloc]at oA;go_enter func21,ntmps21;go_wp2_with fail;refine(hC.next K 6 _ _ (by omega) (by omega) (by omega) (oA.re [2,3,0,1])).mono ?_;rintro e1 w1⟨x,hx0,hx1,rfl,o1,k1⟩;obtain⟨j,rfl⟩:∃j:Nat,x=(j:Int):=⟨x.toNat,by omega⟩;have key:∃nu de:Nat,RV nu de/\w1.cell? ⟨w.heap.size+1,j*2,none⟩=some ↑(nu:Int)/\w1.cell? ⟨w.heap.size+1,j*2+1,none⟩=some ↑(de:Int):=by
  have hj:j=0\/j=1\/j=2\/j=3\/j=4\/j=5:=by omega
  rcases hj with rfl|rfl|rfl|rfl|rfl|rfl
  ·exact⟨1,2,⟨by decide,by decide,by decide⟩,Own.cell (T:=30) (vs:=[(1:Int),(2:Int),(9:Int),(10:Int),(1:Int),(10:Int),(2:Int),(3:Int),(1048575:Int),(1048576:Int),(1:Int),(1048576:Int)]) (o1.up 2) 0,Own.cell (T:=30) (vs:=[(1:Int),(2:Int),(9:Int),(10:Int),(1:Int),(10:Int),(2:Int),(3:Int),(1048575:Int),(1048576:Int),(1:Int),(1048576:Int)]) (o1.up 2) 1⟩
  ·exact⟨9,10,⟨by decide,by decide,by decide⟩,Own.cell (T:=30) (vs:=[(1:Int),(2:Int),(9:Int),(10:Int),(1:Int),(10:Int),(2:Int),(3:Int),(1048575:Int),(1048576:Int),(1:Int),(1048576:Int)]) (o1.up 2) 2,Own.cell (T:=30) (vs:=[(1:Int),(2:Int),(9:Int),(10:Int),(1:Int),(10:Int),(2:Int),(3:Int),(1048575:Int),(1048576:Int),(1:Int),(1048576:Int)]) (o1.up 2) 3⟩
  ·exact⟨1,10,⟨by decide,by decide,by decide⟩,Own.cell (T:=30) (vs:=[(1:Int),(2:Int),(9:Int),(10:Int),(1:Int),(10:Int),(2:Int),(3:Int),(1048575:Int),(1048576:Int),(1:Int),(1048576:Int)]) (o1.up 2) 4,Own.cell (T:=30) (vs:=[(1:Int),(2:Int),(9:Int),(10:Int),(1:Int),(10:Int),(2:Int),(3:Int),(1048575:Int),(1048576:Int),(1:Int),(1048576:Int)]) (o1.up 2) 5⟩
  ·exact⟨2,3,⟨by decide,by decide,by decide⟩,Own.cell (T:=30) (vs:=[(1:Int),(2:Int),(9:Int),(10:Int),(1:Int),(10:Int),(2:Int),(3:Int),(1048575:Int),(1048576:Int),(1:Int),(1048576:Int)]) (o1.up 2) 6,Own.cell (T:=30) (vs:=[(1:Int),(2:Int),(9:Int),(10:Int),(1:Int),(10:Int),(2:Int),(3:Int),(1048575:Int),(1048576:Int),(1:Int),(1048576:Int)]) (o1.up 2) 7⟩
  ·exact⟨1048575,1048576,⟨by decide,by decide,by decide⟩,Own.cell (T:=30) (vs:=[(1:Int),(2:Int),(9:Int),(10:Int),(1:Int),(10:Int),(2:Int),(3:Int),(1048575:Int),(1048576:Int),(1:Int),(1048576:Int)]) (o1.up 2) 8,Own.cell (T:=30) (vs:=[(1:Int),(2:Int),(9:Int),(10:Int),(1:Int),(10:Int),(2:Int),(3:Int),(1048575:Int),(1048576:Int),(1:Int),(1048576:Int)]) (o1.up 2) 9⟩
  ·exact⟨1,1048576,⟨by decide,by decide,by decide⟩,Own.cell (T:=30) (vs:=[(1:Int),(2:Int),(9:Int),(10:Int),(1:Int),(10:Int),(2:Int),(3:Int),(1048575:Int),(1048576:Int),(1:Int),(1048576:Int)]) (o1.up 2) 10,Own.cell (T:=30) (vs:=[(1:Int),(2:Int),(9:Int),(10:Int),(1:Int),(10:Int),(2:Int),(3:Int),(1048575:Int),(1048576:Int),(1:Int),(1048576:Int)]) (o1.up 2) 11⟩
 obtain⟨nu,de,hA,d0,d1⟩:=key;obtain⟨zf,zl,z0,z1,-⟩:=Own.cs (T:=30) (vs:=[aC,aC]) (o1.up 3);have oZ:Own _ (aH w.heap.size 30 [(nu:Int),(de:Int)]::_):=(Own.setCell (T:=30) (vs:=[aC,aC]) (o1.up 3) 0 (.int .i64 (nu:Int))).setCell 1 (de:Int);go_wp2;refine bodyPost_ret (v:=.agg #[(nu:Int),(de:Int)]) ?_ rfl ?_
 ·exact aeJ (p:=w.heap.size) rfl rfl oZ
 ·exact⟨nu,de,hA,rfl,oZ.re [0,3] 2,ay (ay ((aj (aj (Calm.refl w))).trans k1))⟩
end
section
variable{W w w':aF}{R:aJ}{b cb K:Nat}{C:Nat->SP}
structure fq(md:Int)(c:nK):Prop where
 ok:c.Ok
 md:c.mode=md
 p1:c.caps.1<=4
 p2:4096<=c.caps.2.1/\c.caps.2.1<=8096
 p3:c.caps.2.2=1048576
 t:c.tries<=4
 rt:c.bQ=[(6000,100),(54000,50)]
 cp:6<=c.cap
def aax(W:aF)(C:Nat->SP)(K:Nat)(md:Int)(R:aJ)(w:aF)(e:Ending)(w':aF):Prop:=
 ∃(c:nK)(ra:aY)(rc:Nat),fq md c/\aR (wh c ra rc) (jG ra rc c.bQ::C (K+12)::old W::R) w e w'
theorem aeK{fn:Func}(h:fn.results=#[.cell 4 37]){tmps:Array aL}{p:Nat}{c:nK}{ra:aY}{rc:Nat}(hp:tmps.getD 4 undef=.pointer (some ⟨p,0,none⟩))
  (o:Own w (aH p 37 (jX c ra rc)::R)):(results fn tmps).run prog w=.ok (wh c ra rc) w:=
 results_cell_row h _ _ p _ _ _ _ hp o.blk underlying37 rfl (by kernel_rfl)
theorem Im{md:Int}(hC:Chs W C cb)(hm:1<=md/\md<=3)(hK:K<=700000000)(o:Own w (C K::old W::R)):
  Calls prog 7 #[.pointer (some ⟨cb,0,none⟩),.int .i64 md] w (aax W C K md R w):=by
 have oA:Own (w.alloc (.cells #[.int .i64 0,.int .i64 0,.int .i64 0,.int .i64 0,.int .i64 0,.int .i64 0,.int .i64 0,.int .i64 0,.int .i64 0,.int .i64 0,.int .i64 0,.int .i64 0,.int .i64 0,.int .i64 0,.slice none 0 0] 37)) (aH w.heap.size 37 [.int .i64 0,.int .i64 0,.int .i64 0,.int .i64 0,.int .i64 0,.int .i64 0,.int .i64 0,.int .i64 0,.int .i64 0,.int .i64 0,.int .i64 0,.int .i64 0,.int .i64 0,.int .i64 0,.slice none 0 0]::C K::old W::R):=o.alloc (.cells #[.int .i64 0,.int .i64 0,.int .i64 0,.int .i64 0,.int .i64 0,.int .i64 0,.int .i64 0,.int .i64 0,.int .i64 0,.int .i64 0,.int .i64 0,.int .i64 0,.int .i64 0,.int .i64 0,.slice none 0 0] 37);have K0:=aj (x:=.cells #[.int .i64 0,.int .i64 0,.int .i64 0,.int .i64 0,.int .i64 0,.int .i64 0,.int .i64 0,.int .i64 0,.int .i64 0,.int .i64 0,.int .i64 0,.int .i64 0,.int .i64 0,.int .i64 0,.slice none 0 0] 37) (Calm.refl w);have hA:=QM hC (by omega) (oA.re [1,2]);clear o oA;go_enter func7,ntmps7;go_wp2_with fail;refine hA.mono ?_;rintro e1 w1⟨nu,de,hal,rfl,o1,k1⟩;have K1:=K0.trans k1;have HAL:=az hal;have EX:=Nh hC (by omega) o1;clear hA K0 k1 hal;generalize w.heap.size=k4 at*;go_wp2_with fail;refine EX.mono ?_;rintro e2 w2⟨kd,pk,pn,hpr,rfl,o2,k2⟩;have K2:=K1.trans k2;have HPR:=az hpr;have hN:=hC.next _ 4 _ _ (by omega) (by omega) (by omega) o2;clear EX K1 k2 hpr o1;go_wp2_with fail;refine hN.mono ?_;rintro e3 w3⟨x,hx0,hx1,rfl,o3,k3⟩;have K3:=K2.trans k3;have hw1:IntKind.i64.wrap (1+x)=1+x:=by rw[IntKind.wrap_i64];omega
 have hN2:=hC.next _ 3 _ _ (by omega) (by omega) (by omega) o3;clear hN K2 k3 o2;go_wp2_with fail;refine hN2.mono ?_;rintro e4 w4⟨y,hy0,hy1,rfl,o4,k4'⟩;have K4:=K3.trans k4';have hw2:IntKind.i64.wrap (2000*y)=2000*y:=by rw[IntKind.wrap_i64];omega
 have hw3:IntKind.i64.wrap (4096+2000*y)=4096+2000*y:=by rw[IntKind.wrap_i64];omega
 obtain⟨RR,hRR⟩:∃RR,aH k4 37 [.int .i64 0,.int .i64 0,.int .i64 0,.int .i64 0,.int .i64 0,.int .i64 0,.int .i64 0,.int .i64 0,.int .i64 0,.int .i64 0,.int .i64 0,.int .i64 0,.int .i64 0,.int .i64 0,.slice none 0 0]::R=RR:=⟨_,rfl⟩;have HRR:=az hRR;rw[hRR]at o4;have oB:Own (w4.alloc (.cells #[.int .i64 md,.int .i64 (nu:Int),.int .i64 (de:Int),.int .i64 kd,.int .i64 pk,.int .i64 pn,.int .i64 (1+x),.int .i64 (4096+2000*y),.int .i64 1048576,.int .i64 0,.int .i64 0,.int .i64 0,.int .i64 0,.int .i64 0,.slice none 0 0] 37)) (aH w4.heap.size 37 [.int .i64 md,.int .i64 (nu:Int),.int .i64 (de:Int),.int .i64 kd,.int .i64 pk,.int .i64 pn,.int .i64 (1+x),.int .i64 (4096+2000*y),.int .i64 1048576,.int .i64 0,.int .i64 0,.int .i64 0,.int .i64 0,.int .i64 0,.slice none 0 0]::C (K+1+3+1+1)::old W::RR):=o4.alloc (.cells #[.int .i64 md,.int .i64 (nu:Int),.int .i64 (de:Int),.int .i64 kd,.int .i64 pk,.int .i64 pn,.int .i64 (1+x),.int .i64 (4096+2000*y),.int .i64 1048576,.int .i64 0,.int .i64 0,.int .i64 0,.int .i64 0,.int .i64 0,.slice none 0 0] 37);have KB:=aj (x:=.cells #[.int .i64 md,.int .i64 (nu:Int),.int .i64 (de:Int),.int .i64 kd,.int .i64 pk,.int .i64 pn,.int .i64 (1+x),.int .i64 (4096+2000*y),.int .i64 1048576,.int .i64 0,.int .i64 0,.int .i64 0,.int .i64 0,.int .i64 0,.slice none 0 0] 37) K4;clear hN2 K3 k4' o3 o4 hRR;go_upto_region 2 with fail;generalize w4.alloc (.cells #[.int .i64 md,.int .i64 (nu:Int),.int .i64 (de:Int),.int .i64 kd,.int .i64 pk,.int .i64 pn,.int .i64 (1+x),.int .i64 (4096+2000*y),.int .i64 1048576,.int .i64 0,.int .i64 0,.int .i64 0,.int .i64 0,.int .i64 0,.slice none 0 0] 37)=w5 at*;generalize w4.heap.size=k5 at*;obtain⟨La,hcp1⟩:∃z,1+x=z:=⟨_,rfl⟩;obtain⟨cp2,hcp2⟩:∃z,4096+2000*y=z:=⟨_,rfl⟩;obtain⟨M,hM⟩:∃M,K+1+3+1+1=M:=⟨_,rfl⟩;rw[hcp1,hcp2]at oB⊢;rw[hM]at oB;have hc1:1<=La/\La<=4:=by omega
 have hc2:4096<=cp2/\cp2<=8096:=by omega
 have hMK:M=K+6:=by omega
 have U1:=az hMK;have hM7:M<=700000006:=by omega
 have oS:Own w5 (C M::old W::aH k5 37 [.int .i64 md,.int .i64 (nu:Int),.int .i64 (de:Int),.int .i64 kd,.int .i64 pk,.int .i64 pn,.int .i64 La,.int .i64 cp2,.int .i64 1048576,.int .i64 0,.int .i64 0,.int .i64 0,.int .i64 0,.int .i64 0,.slice none 0 0]::RR):=oB.re [1,2,0];have KS:=KB;clear hw1 hw2 hw3 hx0 hx1 hy0 hy1 hcp1 hcp2 hM oB K4 KB hMK
 refine bY (fun L v wc=>Own wc (C (M+iT (L 1)+iT (L 5)+iT (L 10)+iT (L 15))::old W::Tb (L 3) (v 3) 3 [.int .i64 1,.int .i64 2,.int .i64 4,.int .i64 64]::Tb (L 8) (v 8) 2 [.int .i64 256,.int .i64 1000,.int .i64 5000]::Tb (L 13) (v 13) 3 [.int .i64 512,.int .i64 20,.int .i64 6]::aH k5 37 [.int .i64 md,.int .i64 (nu:Int),.int .i64 (de:Int),.int .i64 kd,.int .i64 pk,.int .i64 pn,.int .i64 La,.int .i64 cp2,.int .i64 1048576,cond (L 19) (v 2) (.int .i64 0),cond (L 21) (v 7) (.int .i64 0),cond (L 23) (v 12) (.int .i64 0),cond (L 25) (v 17) (.int .i64 0),.int .i64 0,.slice none 0 0]::RR)/\Calm w wc/\
  (L 0=true->v 0=.pointer (some ⟨cb,0,none⟩))/\(L 1=true->∃x:Int,(0<=x/\x<4)/\v 1=↑x)/\(L 2=true->∃x:Int,(1<=x/\x<=4)/\v 2=↑x)/\TD L v cb 3 4 5 6 7 [.int .i64 1,.int .i64 2,.int .i64 4,.int .i64 64]/\TD L v cb 8 9 10 11 12 [.int .i64 256,.int .i64 1000,.int .i64 5000]/\TD L v cb 13 14 15 16 17 [.int .i64 512,.int .i64 20,.int .i64 6]/\
  (L 18=true->v 18=.pointer (some ⟨k5,9,none⟩))/\(L 20=true->v 20=.pointer (some ⟨k5,10,none⟩))/\(L 22=true->v 22=.pointer (some ⟨k5,11,none⟩))/\(L 24=true->v 24=.pointer (some ⟨k5,12,none⟩))/\(L 19=true->L 2=true)/\(L 21=true->L 7=true)/\(L 23=true->L 12=true)/\(L 25=true->L 17=true)) (by kernel_rfl) (by kernel_rfl) (by kernel_rfl) ?h0 ?step ?fin
 case h0=>exact⟨((Tb.no (Tb.no (Tb.no oS))).re [3,4,0,1,2,5]).same rfl,⟨KS.os,KS.tape,KS.output⟩,fun h=>(Bool.false_ne_true h).elim,fun h=>(Bool.false_ne_true h).elim,fun h=>(Bool.false_ne_true h).elim,TD.no,TD.no,TD.no,fun h=>(Bool.false_ne_true h).elim,fun h=>(Bool.false_ne_true h).elim,fun h=>(Bool.false_ne_true h).elim,fun h=>(Bool.false_ne_true h).elim,fun h=>(Bool.false_ne_true h).elim,fun h=>(Bool.false_ne_true h).elim,fun h=>(Bool.false_ne_true h).elim,fun h=>(Bool.false_ne_true h).elim⟩
 case step=>
  refine⟨au.mk rfl ?_,au.mk rfl ?_,au.mk rfl ?_,au.mk rfl ?_,au.mk rfl ?_,au.mk rfl ?_,au.mk rfl ?_,au.mk rfl ?_,au.mk rfl ?_,au.mk rfl ?_,au.mk rfl ?_,au.mk rfl ?_,au.mk rfl ?_,au.mk rfl ?_,au.mk rfl ?_,au.mk rfl ?_,au.mk rfl ?_,au.mk rfl ?_,au.mk rfl ?_,au.mk rfl ?_,au.mk rfl ?_,au.mk rfl ?_,au.mk rfl ?_,au.mk rfl ?_,au.mk rfl ?_,au.mk rfl ?_,trivial⟩;all_goals intro L v a wc hL hd hA hI K' hK
  all_goals obtain⟨oD,kD,n0,n1,n2,t1,t2,t3,Bo,Bp,Bq,Br,CE,CF,CG,CJ⟩:=hI
  all_goals simp[Region.binds]at hd
  ·have c0:=hA.base 0 (by rfl);simp only[List.getElem?_toArray,List.getElem?_cons_zero,Option.getD_some]at c0;go_simp;exact hK.out _ _ ⟨oD,kD,fun _=>rfl,n1,n2,t1.other _ hL (by decide),t2.other _ hL (by decide),t3.other _ hL (by decide),Bo,Bp,Bq,Br,CE,CF,CG,CJ⟩
  ·have c0:=(hA.get 0 hd).trans (n0 hd);go_simp;rw[hL]at oD;have b5:=kP (L 5);have b10:=kP (L 10);have b15:=kP (L 15);refine(hC.next _ 4 _ _ (by omega) (by omega) (by simp only[uR];omega) oD).mono ?_;rintro e6 w6⟨z,hz0,hz1,rfl,o6,k6⟩;exact hK.out _ _ ⟨hC.up (by show _<=M+iT true+iT (L 5)+iT (L 10)+iT (L 15);simp only[uR,Be];omega) o6,kD.trans k6,n0,fun _=>⟨z,⟨hz0,hz1⟩,rfl⟩,n2,t1.other _ hL (by decide),t2.other _ hL (by decide),t3.other _ hL (by decide),Bo,Bp,Bq,Br,CE,CF,CG,CJ⟩
  ·obtain⟨x,hx,hv⟩:=n1 hd;have c0:=(hA.get 1 hd).trans hv;have h19:L 19=false:=by cases h:L 19 with|false=>rfl|true=>(rw[CE h]at hL;cases hL)
   have hw:IntKind.i64.wrap (1+x)=1+x:=by rw[IntKind.wrap_i64];omega
   go_simp;rw[show cond (L 19) (v 2) (.int .i64 0)=cond (L 19) (.int .i64 (1+x)) (.int .i64 0)by rw[h19];rfl]at oD;exact hK.out _ _ ⟨oD,kD,n0,n1,fun _=>⟨1+x,by omega,rfl⟩,t1.other _ hL (by decide),t2.other _ hL (by decide),t3.other _ hL (by decide),Bo,Bp,Bq,Br,fun _=>rfl,CF,CG,CJ⟩
  ·go_simp;rw[hL]at oD;exact hK.out _ _ ⟨(Tb.new (oD.up 2) _ (((oD.up 2).alloc (.cells #[Value.int .i64 1,.int .i64 2,.int .i64 4,.int .i64 64] 3)))).re [1,2,0,3],⟨kD.os,kD.tape,kD.output⟩,n0,n1,n2,t1.other _ hL (by decide),t2.other _ hL (by decide),t3.other _ hL (by decide),Bo,Bp,Bq,Br,CE,CF,CG,CJ⟩
  ·have c0:=hA.base 0 (by rfl);simp only[List.getElem?_toArray,List.getElem?_cons_zero,Option.getD_some]at c0;go_simp;exact hK.out _ _ ⟨oD,kD,n0,n1,n2,t1.RF hL (by decide),t2.other _ hL (by decide),t3.other _ hL (by decide),Bo,Bp,Bq,Br,CE,CF,CG,CJ⟩
  ·have HDM:L 4=true:=by first|exact hd|exact hd.1|exact hd.2|exact hd.2.1
   have c0:=(hA.get 4 HDM).trans (t1.move HDM);go_simp;rw[hL]at oD;have b1:=kP (L 1);have b10:=kP (L 10);have b15:=kP (L 15);refine(hC.next _ 4 _ _ (by omega) (by omega) (by simp only[uR];omega) oD).mono ?_;rintro e6 w6⟨z,hz0,hz1,rfl,o6,k6⟩;obtain⟨j,rfl⟩:∃j:Nat,z=(j:Int):=⟨z.toNat,by omega⟩;exact hK.out _ _ ⟨hC.up (by show _<=M+iT (L 1)+iT true+iT (L 10)+iT (L 15);simp only[uR,Be];omega) o6,kD.trans k6,n0,n1,n2,t1.RG hL (by decide) (show j<4 by omega),t2.other _ hL (by decide),t3.other _ hL (by decide),Bo,Bp,Bq,Br,CE,CF,CG,CJ⟩
  ·obtain⟨j,hj,hv⟩:=t1.call hd.2;rw[hd.1]at oD;have c0:=hA.get 3 hd.1;have c2:=(hA.get 5 hd.2).trans hv;obtain⟨g,hg⟩:=Tb.val (oD.up 2);rw[hg]at c0;have hj':(j:Int)<4:=by have h4:j<4:=hj;omega
   go_simp;exact hK.out _ _ ⟨by rw[<-hd.1]at oD;exact oD,kD,n0,n1,n2,t1.RH hL (by decide) hd.1 hj hg,t2.other _ hL (by decide),t3.other _ hL (by decide),Bo,Bp,Bq,Br,CE,CF,CG,CJ⟩
  ·obtain⟨h0,g,j,hj,h1,h2⟩:=t1.addr hd;have hs:L 21=false:=by cases h:L 21 with|false=>rfl|true=>(rw[CF h]at hL;cases hL)
   have oE:=oD;rw[h0,h1]at oE;have c3:=(hA.get 6 hd).trans h2;have cc:=Tb.at (oE.up 2) hj;have hx:([.int .i64 1,.int .i64 2,.int .i64 4,.int .i64 64]:dw)[j]∈([.int .i64 1,.int .i64 2,.int .i64 4,.int .i64 64]:dw):=List.getElem_mem hj;obtain⟨x,hx0⟩:=BZ [1,2,4,64] hx;generalize ([.int .i64 1,.int .i64 2,.int .i64 4,.int .i64 64]:dw)[j]=y at*;subst hx0;go_simp;rw[show cond (L 21) (v 7) (.int .i64 0)=cond (L 21) (.int .i64 x) (.int .i64 0)by rw[hs];rfl]at oD;exact hK.out _ _ ⟨oD,kD,n0,n1,n2,t1.RI hL (by decide) hx,t2.other _ hL (by decide),t3.other _ hL (by decide),Bo,Bp,Bq,Br,CE,fun _=>rfl,CG,CJ⟩
  ·go_simp;rw[hL]at oD;exact hK.out _ _ ⟨(Tb.new (oD.up 3) _ (((oD.up 3).alloc (.cells #[Value.int .i64 256,.int .i64 1000,.int .i64 5000] 2)))).re [1,2,3,0],⟨kD.os,kD.tape,kD.output⟩,n0,n1,n2,t1.other _ hL (by decide),t2.other _ hL (by decide),t3.other _ hL (by decide),Bo,Bp,Bq,Br,CE,CF,CG,CJ⟩
  ·have c0:=hA.base 0 (by rfl);simp only[List.getElem?_toArray,List.getElem?_cons_zero,Option.getD_some]at c0;go_simp;exact hK.out _ _ ⟨oD,kD,n0,n1,n2,t1.other _ hL (by decide),t2.RF hL (by decide),t3.other _ hL (by decide),Bo,Bp,Bq,Br,CE,CF,CG,CJ⟩
  ·have HDM:L 9=true:=by first|exact hd|exact hd.1|exact hd.2|exact hd.2.1
   have c0:=(hA.get 9 HDM).trans (t2.move HDM);go_simp;rw[hL]at oD;have b1:=kP (L 1);have b5:=kP (L 5);have b15:=kP (L 15);refine(hC.next _ 3 _ _ (by omega) (by omega) (by simp only[uR];omega) oD).mono ?_;rintro e6 w6⟨z,hz0,hz1,rfl,o6,k6⟩;obtain⟨j,rfl⟩:∃j:Nat,z=(j:Int):=⟨z.toNat,by omega⟩;exact hK.out _ _ ⟨hC.up (by show _<=M+iT (L 1)+iT (L 5)+iT true+iT (L 15);simp only[uR,Be];omega) o6,kD.trans k6,n0,n1,n2,t1.other _ hL (by decide),t2.RG hL (by decide) (show j<3 by omega),t3.other _ hL (by decide),Bo,Bp,Bq,Br,CE,CF,CG,CJ⟩
  ·obtain⟨j,hj,hv⟩:=t2.call hd.2;rw[hd.1]at oD;have c0:=hA.get 8 hd.1;have c2:=(hA.get 10 hd.2).trans hv;obtain⟨g,hg⟩:=Tb.val (oD.up 3);rw[hg]at c0;have hj':(j:Int)<3:=by have h4:j<3:=hj;omega
   go_simp;exact hK.out _ _ ⟨by rw[<-hd.1]at oD;exact oD,kD,n0,n1,n2,t1.other _ hL (by decide),t2.RH hL (by decide) hd.1 hj hg,t3.other _ hL (by decide),Bo,Bp,Bq,Br,CE,CF,CG,CJ⟩
  ·obtain⟨h0,g,j,hj,h1,h2⟩:=t2.addr hd;have hs:L 23=false:=by cases h:L 23 with|false=>rfl|true=>(rw[CG h]at hL;cases hL)
   have oE:=oD;rw[h0,h1]at oE;have c3:=(hA.get 11 hd).trans h2;have cc:=Tb.at (oE.up 3) hj;have hx:([.int .i64 256,.int .i64 1000,.int .i64 5000]:dw)[j]∈([.int .i64 256,.int .i64 1000,.int .i64 5000]:dw):=List.getElem_mem hj;obtain⟨x,hx0⟩:=BZ [256,1000,5000] hx;generalize ([.int .i64 256,.int .i64 1000,.int .i64 5000]:dw)[j]=y at*;subst hx0;go_simp;rw[show cond (L 23) (v 12) (.int .i64 0)=cond (L 23) (.int .i64 x) (.int .i64 0)by rw[hs];rfl]at oD;exact hK.out _ _ ⟨oD,kD,n0,n1,n2,t1.other _ hL (by decide),t2.RI hL (by decide) hx,t3.other _ hL (by decide),Bo,Bp,Bq,Br,CE,CF,fun _=>rfl,CJ⟩
  ·go_simp;rw[hL]at oD;exact hK.out _ _ ⟨(Tb.new (oD.up 4) _ (((oD.up 4).alloc (.cells #[Value.int .i64 512,.int .i64 20,.int .i64 6] 3)))).re [1,2,3,4,0],⟨kD.os,kD.tape,kD.output⟩,n0,n1,n2,t1.other _ hL (by decide),t2.other _ hL (by decide),t3.other _ hL (by decide),Bo,Bp,Bq,Br,CE,CF,CG,CJ⟩
  ·have c0:=hA.base 0 (by rfl);simp only[List.getElem?_toArray,List.getElem?_cons_zero,Option.getD_some]at c0;go_simp;exact hK.out _ _ ⟨oD,kD,n0,n1,n2,t1.other _ hL (by decide),t2.other _ hL (by decide),t3.RF hL (by decide),Bo,Bp,Bq,Br,CE,CF,CG,CJ⟩
  ·have HDM:L 14=true:=by first|exact hd|exact hd.1|exact hd.2|exact hd.2.1
   have c0:=(hA.get 14 HDM).trans (t3.move HDM);go_simp;rw[hL]at oD;have b1:=kP (L 1);have b5:=kP (L 5);have b10:=kP (L 10);refine(hC.next _ 3 _ _ (by omega) (by omega) (by simp only[uR];omega) oD).mono ?_;rintro e6 w6⟨z,hz0,hz1,rfl,o6,k6⟩;obtain⟨j,rfl⟩:∃j:Nat,z=(j:Int):=⟨z.toNat,by omega⟩;exact hK.out _ _ ⟨hC.up (by show _<=M+iT (L 1)+iT (L 5)+iT (L 10)+iT true;simp only[uR,Be];omega) o6,kD.trans k6,n0,n1,n2,t1.other _ hL (by decide),t2.other _ hL (by decide),t3.RG hL (by decide) (show j<3 by omega),Bo,Bp,Bq,Br,CE,CF,CG,CJ⟩
  ·obtain⟨j,hj,hv⟩:=t3.call hd.2;rw[hd.1]at oD;have c0:=hA.get 13 hd.1;have c2:=(hA.get 15 hd.2).trans hv;obtain⟨g,hg⟩:=Tb.val (oD.up 4);rw[hg]at c0;have hj':(j:Int)<3:=by have h4:j<3:=hj;omega
   go_simp;exact hK.out _ _ ⟨by rw[<-hd.1]at oD;exact oD,kD,n0,n1,n2,t1.other _ hL (by decide),t2.other _ hL (by decide),t3.RH hL (by decide) hd.1 hj hg,Bo,Bp,Bq,Br,CE,CF,CG,CJ⟩
  ·obtain⟨h0,g,j,hj,h1,h2⟩:=t3.addr hd;have hs:L 25=false:=by cases h:L 25 with|false=>rfl|true=>(rw[CJ h]at hL;cases hL)
   have oE:=oD;rw[h0,h1]at oE;have c3:=(hA.get 16 hd).trans h2;have cc:=Tb.at (oE.up 4) hj;have hx:([.int .i64 512,.int .i64 20,.int .i64 6]:dw)[j]∈([.int .i64 512,.int .i64 20,.int .i64 6]:dw):=List.getElem_mem hj;obtain⟨x,hx0⟩:=BZ [512,20,6] hx;generalize ([.int .i64 512,.int .i64 20,.int .i64 6]:dw)[j]=y at*;subst hx0;go_simp;rw[show cond (L 25) (v 17) (.int .i64 0)=cond (L 25) (.int .i64 x) (.int .i64 0)by rw[hs];rfl]at oD;exact hK.out _ _ ⟨oD,kD,n0,n1,n2,t1.other _ hL (by decide),t2.other _ hL (by decide),t3.RI hL (by decide) hx,Bo,Bp,Bq,Br,CE,CF,CG,fun _=>rfl⟩
  ·have c5:=hA.base 5 (by rfl);simp only[List.getElem?_toArray,List.getElem?_cons_zero,List.getElem?_cons_succ,Option.getD_some]at c5;go_simp;exact hK.out _ _ ⟨oD,kD,n0,n1,n2,t1.other _ hL (by decide),t2.other _ hL (by decide),t3.other _ hL (by decide),fun _=>rfl,Bp,Bq,Br,CE,CF,CG,CJ⟩
  ·have OZ:L 2=true:=by simp[hd]
   obtain⟨x,_,hv⟩:=n2 OZ;have HP:L 18=true:=by simp[hd]
   have ca:=(hA.get 18 HP).trans (Bo HP);have cv:=(hA.get 2 OZ).trans hv;have u_:=(oD.up 5).cell 9;have uf:=(oD.up 5).frozen;have ul:=(oD.up 5).aS;go_simp;have oY:=((oD.up 5).setCell 9 (.int .i64 x)).re [1,2,3,4,5,0];refine hK.out undef _ ⟨?_,ay kD,n0,n1,n2,t1.other _ hL (by decide),t2.other _ hL (by decide),t3.other _ hL (by decide),Bo,Bp,Bq,Br,fun _=>OZ,CF,CG,CJ⟩;show Own _ (C (M+iT (L 1)+iT (L 5)+iT (L 10)+iT (L 15))::old W::Tb (L 3) (v 3) 3 [.int .i64 1,.int .i64 2,.int .i64 4,.int .i64 64]::Tb (L 8) (v 8) 2 [.int .i64 256,.int .i64 1000,.int .i64 5000]::Tb (L 13) (v 13) 3 [.int .i64 512,.int .i64 20,.int .i64 6]::aH k5 37 [.int .i64 md,.int .i64 (nu:Int),.int .i64 (de:Int),.int .i64 kd,.int .i64 pk,.int .i64 pn,.int .i64 La,.int .i64 cp2,.int .i64 1048576,v 2,cond (L 21) (v 7) (.int .i64 0),cond (L 23) (v 12) (.int .i64 0),cond (L 25) (v 17) (.int .i64 0),.int .i64 0,.slice none 0 0]::RR);rw[hv];exact oY
  ·have c5:=hA.base 5 (by rfl);simp only[List.getElem?_toArray,List.getElem?_cons_zero,List.getElem?_cons_succ,Option.getD_some]at c5;go_simp;exact hK.out _ _ ⟨oD,kD,n0,n1,n2,t1.other _ hL (by decide),t2.other _ hL (by decide),t3.other _ hL (by decide),Bo,fun _=>rfl,Bq,Br,CE,CF,CG,CJ⟩
  ·have OZ:L 7=true:=by simp[hd]
   obtain⟨x,hv⟩:=BZ [1,2,4,64] (t1.load OZ);have HP:L 20=true:=by simp[hd]
   have ca:=(hA.get 20 HP).trans (Bp HP);have cv:=(hA.get 7 OZ).trans hv;have u_:=(oD.up 5).cell 10;have uf:=(oD.up 5).frozen;have ul:=(oD.up 5).aS;go_simp;have oY:=((oD.up 5).setCell 10 (.int .i64 x)).re [1,2,3,4,5,0];refine hK.out undef _ ⟨?_,ay kD,n0,n1,n2,t1.other _ hL (by decide),t2.other _ hL (by decide),t3.other _ hL (by decide),Bo,Bp,Bq,Br,CE,fun _=>OZ,CG,CJ⟩;show Own _ (C (M+iT (L 1)+iT (L 5)+iT (L 10)+iT (L 15))::old W::Tb (L 3) (v 3) 3 [.int .i64 1,.int .i64 2,.int .i64 4,.int .i64 64]::Tb (L 8) (v 8) 2 [.int .i64 256,.int .i64 1000,.int .i64 5000]::Tb (L 13) (v 13) 3 [.int .i64 512,.int .i64 20,.int .i64 6]::aH k5 37 [.int .i64 md,.int .i64 (nu:Int),.int .i64 (de:Int),.int .i64 kd,.int .i64 pk,.int .i64 pn,.int .i64 La,.int .i64 cp2,.int .i64 1048576,cond (L 19) (v 2) (.int .i64 0),v 7,cond (L 23) (v 12) (.int .i64 0),cond (L 25) (v 17) (.int .i64 0),.int .i64 0,.slice none 0 0]::RR);rw[hv];exact oY
  ·have c5:=hA.base 5 (by rfl);simp only[List.getElem?_toArray,List.getElem?_cons_zero,List.getElem?_cons_succ,Option.getD_some]at c5;go_simp;exact hK.out _ _ ⟨oD,kD,n0,n1,n2,t1.other _ hL (by decide),t2.other _ hL (by decide),t3.other _ hL (by decide),Bo,Bp,fun _=>rfl,Br,CE,CF,CG,CJ⟩
  ·have OZ:L 12=true:=by simp[hd]
   obtain⟨x,hv⟩:=BZ [256,1000,5000] (t2.load OZ);have HP:L 22=true:=by simp[hd]
   have ca:=(hA.get 22 HP).trans (Bq HP);have cv:=(hA.get 12 OZ).trans hv;have u_:=(oD.up 5).cell 11;have uf:=(oD.up 5).frozen;have ul:=(oD.up 5).aS;go_simp;have oY:=((oD.up 5).setCell 11 (.int .i64 x)).re [1,2,3,4,5,0];refine hK.out undef _ ⟨?_,ay kD,n0,n1,n2,t1.other _ hL (by decide),t2.other _ hL (by decide),t3.other _ hL (by decide),Bo,Bp,Bq,Br,CE,CF,fun _=>OZ,CJ⟩;show Own _ (C (M+iT (L 1)+iT (L 5)+iT (L 10)+iT (L 15))::old W::Tb (L 3) (v 3) 3 [.int .i64 1,.int .i64 2,.int .i64 4,.int .i64 64]::Tb (L 8) (v 8) 2 [.int .i64 256,.int .i64 1000,.int .i64 5000]::Tb (L 13) (v 13) 3 [.int .i64 512,.int .i64 20,.int .i64 6]::aH k5 37 [.int .i64 md,.int .i64 (nu:Int),.int .i64 (de:Int),.int .i64 kd,.int .i64 pk,.int .i64 pn,.int .i64 La,.int .i64 cp2,.int .i64 1048576,cond (L 19) (v 2) (.int .i64 0),cond (L 21) (v 7) (.int .i64 0),v 12,cond (L 25) (v 17) (.int .i64 0),.int .i64 0,.slice none 0 0]::RR);rw[hv];exact oY
  ·have c5:=hA.base 5 (by rfl);simp only[List.getElem?_toArray,List.getElem?_cons_zero,List.getElem?_cons_succ,Option.getD_some]at c5;go_simp;exact hK.out _ _ ⟨oD,kD,n0,n1,n2,t1.other _ hL (by decide),t2.other _ hL (by decide),t3.other _ hL (by decide),Bo,Bp,Bq,fun _=>rfl,CE,CF,CG,CJ⟩
  ·have OZ:L 17=true:=by simp[hd]
   obtain⟨x,hv⟩:=BZ [512,20,6] (t3.load OZ);have HP:L 24=true:=by simp[hd]
   have ca:=(hA.get 24 HP).trans (Br HP);have cv:=(hA.get 17 OZ).trans hv;have u_:=(oD.up 5).cell 12;have uf:=(oD.up 5).frozen;have ul:=(oD.up 5).aS;go_simp;have oY:=((oD.up 5).setCell 12 (.int .i64 x)).re [1,2,3,4,5,0];refine hK.out undef _ ⟨?_,ay kD,n0,n1,n2,t1.other _ hL (by decide),t2.other _ hL (by decide),t3.other _ hL (by decide),Bo,Bp,Bq,Br,CE,CF,CG,fun _=>OZ⟩;show Own _ (C (M+iT (L 1)+iT (L 5)+iT (L 10)+iT (L 15))::old W::Tb (L 3) (v 3) 3 [.int .i64 1,.int .i64 2,.int .i64 4,.int .i64 64]::Tb (L 8) (v 8) 2 [.int .i64 256,.int .i64 1000,.int .i64 5000]::Tb (L 13) (v 13) 3 [.int .i64 512,.int .i64 20,.int .i64 6]::aH k5 37 [.int .i64 md,.int .i64 (nu:Int),.int .i64 (de:Int),.int .i64 kd,.int .i64 pk,.int .i64 pn,.int .i64 La,.int .i64 cp2,.int .i64 1048576,cond (L 19) (v 2) (.int .i64 0),cond (L 21) (v 7) (.int .i64 0),cond (L 23) (v 12) (.int .i64 0),v 17,.int .i64 0,.slice none 0 0]::RR);rw[hv];exact oY
 case fin=>
  rintro L v wc hall⟨oD,kD,n0,n1,n2,t1,t2,t3,Bo,Bp,Bq,Br,CE,CF,CG,CJ⟩;obtain⟨x,hx,hv2⟩:=n2 (hall 2 (by decide));have hm0:=t1.load (hall 7 (by decide));have hm1:=t2.load (hall 12 (by decide));have hm2:=t3.load (hall 17 (by decide));rw[hall 1 (by decide),hall 5 (by decide),hall 10 (by decide),hall 15 (by decide),hall 19 (by decide),hall 21 (by decide),hall 23 (by decide),hall 25 (by decide)]at oD;simp only[cond_true,Be,hv2]at oD;obtain⟨x7,hx7,hv7⟩:∃z:Int,(1<=z/\z<=64)/\v 7=.int .i64 z:=by
   simp only[List.mem_cons,List.not_mem_nil,or_false]at hm0;rcases hm0 with h|h|h|h
   ·exact⟨1,by omega,h⟩
   ·exact⟨2,by omega,h⟩
   ·exact⟨4,by omega,h⟩
   ·exact⟨64,by omega,h⟩
  obtain⟨x12,ahZ,agx⟩:∃z:Int,(256<=z/\z<=5000)/\v 12=.int .i64 z:=by
   simp only[List.mem_cons,List.not_mem_nil,or_false]at hm1;rcases hm1 with h|h|h
   ·exact⟨256,by omega,h⟩
   ·exact⟨1000,by omega,h⟩
   ·exact⟨5000,by omega,h⟩
  obtain⟨x17,agy,agz⟩:∃z:Int,(6<=z/\z<=512)/\v 17=.int .i64 z:=by
   simp only[List.mem_cons,List.not_mem_nil,or_false]at hm2;rcases hm2 with h|h|h
   ·exact⟨512,by omega,h⟩
   ·exact⟨20,by omega,h⟩
   ·exact⟨6,by omega,h⟩
  simp only[hv7,agx,agz]at oD;have oE:Own wc (C (M+1+1+1+1)::old W::aH k5 37 [.int .i64 md,.int .i64 (nu:Int),.int .i64 (de:Int),.int .i64 kd,.int .i64 pk,.int .i64 pn,.int .i64 La,.int .i64 cp2,.int .i64 1048576,.int .i64 x,.int .i64 x7,.int .i64 x12,.int .i64 x17,.int .i64 0,.slice none 0 0]::RR):=oD.re [2,3,4] 3;clear oD hm0 hm1 hm2 hv2 hv7 agx agz t1 t2 t3 n0 n1 n2 Bo Bp Bq Br CE CF CG CJ hall oS KS;simp only[jV,Act.put,List.setIfInBounds_toArray,List.set_cons_zero,List.set_cons_succ];have oT:Own (wc.alloc (.cells #[.int .i64 1099511627776,.int .i64 1,.int .i64 268435456,.int .i64 1073741824] 2)) (aH wc.heap.size 2 [.int .i64 1099511627776,.int .i64 1,.int .i64 268435456,.int .i64 1073741824]::_):=oE.alloc (.cells #[.int .i64 1099511627776,.int .i64 1,.int .i64 268435456,.int .i64 1073741824] 2);have KT:=aj (x:=.cells #[.int .i64 1099511627776,.int .i64 1,.int .i64 268435456,.int .i64 1073741824] 2) kD;have hN:=hC.next _ 4 _ _ (by omega) (by omega) (by omega) (oT.re [1,2]);clear oE oT kD;go_wp2_with fail;refine hN.mono ?_;rintro e6 w6⟨z,hz0,hz1,rfl,o6,k6⟩;have K6:=KT.trans k6;generalize wc.heap.size=kt at*;obtain⟨j,rfl⟩:∃j:Nat,z=(j:Int):=⟨z.toNat,by omega⟩;obtain⟨rb,hrb,Je⟩:∃y:Int,(1<=y/\y<=1099511627776)/\w6.cell? ⟨kt,j,none⟩=some ↑y:=by
   have hj:j=0\/j=1\/j=2\/j=3:=by omega
   rcases hj with rfl|rfl|rfl|rfl
   ·exact⟨1099511627776,by omega,Own.cell (T:=2) (vs:=[.int .i64 1099511627776,.int .i64 1,.int .i64 268435456,.int .i64 1073741824]) (o6.up 2) 0⟩
   ·exact⟨1,by omega,Own.cell (T:=2) (vs:=[.int .i64 1099511627776,.int .i64 1,.int .i64 268435456,.int .i64 1073741824]) (o6.up 2) 1⟩
   ·exact⟨268435456,by omega,Own.cell (T:=2) (vs:=[.int .i64 1099511627776,.int .i64 1,.int .i64 268435456,.int .i64 1073741824]) (o6.up 2) 2⟩
   ·exact⟨1073741824,by omega,Own.cell (T:=2) (vs:=[.int .i64 1099511627776,.int .i64 1,.int .i64 268435456,.int .i64 1073741824]) (o6.up 2) 3⟩
  have q13:=(o6.up 3).cell 13;have qf:=(o6.up 3).frozen;have ql:=(o6.up 3).aS;have o7:=(o6.up 3).setCell 13 (.int .i64 rb);have K7:=ay (x:=⟨k5,13,none⟩) (v:=.int .i64 rb) K6;clear hN KT k6 K6;go_upto_region 4 with fail;have o8:Own (w6.setCell ⟨k5,13,none⟩ (.int .i64 rb)) (aH k5 37 [.int .i64 md,.int .i64 (nu:Int),.int .i64 (de:Int),.int .i64 kd,.int .i64 pk,.int .i64 pn,.int .i64 La,.int .i64 cp2,.int .i64 1048576,.int .i64 x,.int .i64 x7,.int .i64 x12,.int .i64 x17,.int .i64 rb,.slice none 0 0]::C (M+1+1+1+1+1)::old W::RR):=o7.re [0,1,2,3] 0|>fun oo=>oo.re [3] 1;generalize w6.setCell ⟨k5,13,none⟩ (.int .i64 rb)=w7 at*;clear o7 o6 Je q13 qf ql;have oR:Own (w7.alloc (.cells #[.int .i64 6000,.int .i64 100,.int .i64 54000,.int .i64 50] 62)) (aH w7.heap.size 62 [.int .i64 6000,.int .i64 100,.int .i64 54000,.int .i64 50]::_):=o8.alloc (.cells #[.int .i64 6000,.int .i64 100,.int .i64 54000,.int .i64 50] 62);have KR:=aj (x:=.cells #[.int .i64 6000,.int .i64 100,.int .i64 54000,.int .i64 50] 62) K7;have r14:=(oR.up 1).cell 14;have rf:=(oR.up 1).frozen;have rl:=(oR.up 1).aS;have o9:Own ((w7.alloc (.cells #[.int .i64 6000,.int .i64 100,.int .i64 54000,.int .i64 50] 62)).setCell ⟨k5,14,none⟩ (.slice (some ⟨w7.heap.size,0,none⟩) 2 2)) (aH k5 37 [.int .i64 md,.int .i64 (nu:Int),.int .i64 (de:Int),.int .i64 kd,.int .i64 pk,.int .i64 pn,.int .i64 La,.int .i64 cp2,.int .i64 1048576,.int .i64 x,.int .i64 x7,.int .i64 x12,.int .i64 x17,.int .i64 rb,.slice (some ⟨w7.heap.size,0,none⟩) 2 2]::_):=(oR.up 1).setCell 14 (.slice (some ⟨w7.heap.size,0,none⟩) 2 2);have K9:=ay (x:=⟨k5,14,none⟩) (v:=.slice (some ⟨w7.heap.size,0,none⟩) 2 2) KR;clear o8 K7;go_upto_region 5 with fail;generalize (w7.alloc (.cells #[.int .i64 6000,.int .i64 100,.int .i64 54000,.int .i64 50] 62)).setCell ⟨k5,14,none⟩ (.slice (some ⟨w7.heap.size,0,none⟩) 2 2)=wf at*;generalize w7.heap.size=kr at*;clear oR KR r14 rf rl;have oF:Own wf (aH k5 37 [.int .i64 md,.int .i64 (nu:Int),.int .i64 (de:Int),.int .i64 kd,.int .i64 pk,.int .i64 pn,.int .i64 La,.int .i64 cp2,.int .i64 1048576,.int .i64 x,.int .i64 x7,.int .i64 x12,.int .i64 x17,.int .i64 rb,.slice (some ⟨kr,0,none⟩) 2 2]::aH kr 62 [.int .i64 6000,.int .i64 100,.int .i64 54000,.int .i64 50]::C (M+1+1+1+1+1)::old W::aH k4 37 [.int .i64 0,.int .i64 0,.int .i64 0,.int .i64 0,.int .i64 0,.int .i64 0,.int .i64 0,.int .i64 0,.int .i64 0,.int .i64 0,.int .i64 0,.int .i64 0,.int .i64 0,.int .i64 0,.slice none 0 0]::R):=by rw[HRR.out];exact o9
  have KF:=K9;clear o9 K9;have a0:=oF.cell 0;have a1:=oF.cell 1;have a2:=oF.cell 2;have a3:=oF.cell 3;have a4:=oF.cell 4;have a5:=oF.cell 5;have a6:=oF.cell 6;have a7:=oF.cell 7;have a8:=oF.cell 8;have a9:=oF.cell 9;have QZ:=oF.cell 10;have X9:=oF.cell 11;have a12:=oF.cell 12;have XQ:=oF.cell 13;have a14:=oF.cell 14;have af:=oF.frozen;have b0:=(oF.up 4).cell 0;have b1:=(oF.up 4).cell 1;have b2:=(oF.up 4).cell 2;have b3:=(oF.up 4).cell 3;have b4:=(oF.up 4).cell 4;have b5:=(oF.up 4).cell 5;have b6:=(oF.up 4).cell 6;have b7:=(oF.up 4).cell 7;have b8:=(oF.up 4).cell 8;have b9:=(oF.up 4).cell 9;have b10:=(oF.up 4).cell 10;have b11:=(oF.up 4).cell 11;have b12:=(oF.up 4).cell 12;have b13:=(oF.up 4).cell 13;have b14:=(oF.up 4).cell 14;have bf:=(oF.up 4).frozen;have bl:=(oF.up 4).aS;have oE:=((((((((((((((((oF.up 4).setCell 0 (.int .i64 md)).setCell 1 (.int .i64 (nu:Int))).setCell 2 (.int .i64 (de:Int))).setCell 3 (.int .i64 kd)).setCell 4 (.int .i64 pk)).setCell 5 (.int .i64 pn)).setCell 6 (.int .i64 La)).setCell 7 (.int .i64 cp2)).setCell 8 (.int .i64 1048576)).setCell 9 (.int .i64 x)).setCell 10 (.int .i64 x7)).setCell 11 (.int .i64 x12)).setCell 12 (.int .i64 x17)).setCell 13 (.int .i64 rb)).setCell 14 (.slice (some ⟨kr,0,none⟩) 2 2));have oG:Own _ (aH k4 37 (jX ⟨md,nu,de,kd,pk,pn,(La,cp2,1048576),x,x7,x12,x17,rb,[(6000,100),(54000,50)]⟩ (some ⟨kr,0,none⟩) 2)::aH k5 37 [.int .i64 md,.int .i64 (nu:Int),.int .i64 (de:Int),.int .i64 kd,.int .i64 pk,.int .i64 pn,.int .i64 La,.int .i64 cp2,.int .i64 1048576,.int .i64 x,.int .i64 x7,.int .i64 x12,.int .i64 x17,.int .i64 rb,.slice (some ⟨kr,0,none⟩) 2 2]::aH kr 62 [.int .i64 6000,.int .i64 100,.int .i64 54000,.int .i64 50]::C (M+1+1+1+1+1)::old W::R):=oE;have oH:=oG.re [2,3,4,0,1];have oI:Own _ (jG (some ⟨kr,0,none⟩) 2 [(6000,100),(54000,50)]::_):=Own.slc.2 (.inr ⟨kr,[],rfl,Nat.le_refl _,by unfold maxLen;omega,rfl,rfl,oH⟩);have hcg:fq md ⟨md,nu,de,kd,pk,pn,(La,cp2,1048576),x,x7,x12,x17,rb,[(6000,100),(54000,50)]⟩:=by
   refine⟨⟨hm.1,hm.2,HAL.out,HPR.out,?_,hx.1,by show x<=16;omega,hx7.1,hx7.2,ahZ.1,by show x12<=1048576;omega,by show 1<=x17;omega,agy.2,hrb.1,hrb.2,?_,by show(1:Nat)<=[((6000:Int),(100:Int)),(54000,50)].length;decide,by show[((6000:Int),(100:Int)),(54000,50)].length<=12;decide⟩,rfl,hc1.2,hc2,rfl,hx.2,rfl,agy.1⟩
   ·exact⟨hc1.1,by show La<=32;omega,by show 1<=cp2;omega,by show cp2<=262144;omega,by show(1:Int)<=1048576;omega,by show(1048576:Int)<=1048576;omega⟩
   ·intro r hr;simp only[List.mem_cons,List.not_mem_nil,or_false]at hr;rcases hr with rfl|rfl<;>exact⟨by decide,by decide,by decide,by decide⟩
  have X6:=az hcg;clear hcg oE oH oF;go_wp2;refine bodyPost_ret (v:=wh ⟨md,nu,de,kd,pk,pn,(La,cp2,1048576),x,x7,x12,x17,rb,[(6000,100),(54000,50)]⟩ (some ⟨kr,0,none⟩) 2) (aeK (p:=k4) rfl rfl oG) rfl ⟨_,_,_,X6.out,rfl,?_,ay (ay (ay (ay (ay (ay (ay (ay (ay (ay (ay (ay (ay (ay (ay (KF)))))))))))))))⟩;exact(hC.up (N:=M+1+1+1+1+1) (M:=K+12) (by have:=U1.out;omega) (oI.re [1,0])).re [3,4] 2|>.swap
end
section
variable{W w w':aF}{R:aJ}{b cb K:Nat}
def Vk(g cb N:Nat):SP:=ex fun(at_:Int)=>st [pu (0<=at_/\at_<=(N:Int)),aH cb 58 [.slice (some ⟨g,0,none⟩) 1 1,at_],aH g 3 [aC]]
theorem Vk.open{g N:Nat}(o:Own w (Vk g cb N::R)):∃at_:Int,(0<=at_/\at_<=(N:Int))/\Own w (aH cb 58 [.slice (some ⟨g,0,none⟩) 1 1,at_]::aH g 3 [aC]::R):=by obtain⟨at_,h⟩:=Own.ex.1 o;obtain⟨h1,h2⟩:=Own.pu.1 (Own.st.1 h);exact⟨at_,h1,h2⟩
theorem Vk.shut{g N:Nat}{at_:Int}(h:0<=at_/\at_<=(N:Int))(o:Own w (aH cb 58 [.slice (some ⟨g,0,none⟩) 1 1,at_]::aH g 3 [aC]::R)):Own w (Vk g cb N::R):=Own.ex.2 ⟨at_,Own.st.2 (Own.pu.2 ⟨h,o⟩)⟩
theorem TT(g cb N:Nat)(n:Int)(R:aJ)(w:aF)(hn:1<=n)(hn2:n<=4611686018427387904)(hN:(N:Int)<=1000000000000)(o:Own w (Vk g cb N::old W::R)):
  Calls prog 15 #[cb,n] w (fun e w'=>∃x:Int,0<=x/\x<n/\e=.returned (.int .i64 x)/\Own w' (Vk g cb (N+1)::old W::R)/\Calm w w'):=by
 obtain⟨at_,⟨h0,h1⟩,o1⟩:=Vk.open o;obtain⟨hf,-,c0,c1,-⟩:=o1.cs;have hd0:n≠0:=by omega
 have fin:∀(m:Nat)(x:Int),0<=x->x<n->(fun(e:Ending)(w':aF)=>∃x:Int,0<=x/\x<n/\e=.returned (.int .i64 x)/\Own w' (Vk g cb (N+1)::old W::R)/\Calm w w') (.returned (.int .i64 x)) ((w.drewN m).setCell ⟨cb,1,none⟩ (at_+1:Int)):=by intro m x hx1 hx2;exact⟨x,hx1,hx2,rfl,Vk.shut ⟨by omega,by omega⟩ ((o1.drewN m).setCell 1 _),⟨rfl,rfl,rfl⟩⟩
 by_cases hlt:at_<1
 ·have ha:at_=0:=by omega
  subst ha;have hc:=(o1.up 1).cell 0;have hr:=FT (x:=0) hn;go_enter func15,ntmps15;go_wp2;go_quiet(fail);go_wp2;go_quiet(fail);go_wp2;all_goals go_ret
  all_goals exact fin _ _ (by omega) (by omega)
 ·have hr1:=Int.emod_nonneg (7*at_+3) hd0;have hr2:=Int.emod_lt_of_pos (7*at_+3) (show 0<n by omega);go_enter func15,ntmps15;go_wp2;go_quiet(fail);go_wp2;go_ret;exact fin _ _ hr1 hr2
theorem ab9(W:aF)(g cb:Nat):Chs W (Vk g cb) cb:=⟨fun h o=>by obtain⟨a,h1,o1⟩:=Vk.open o;exact Vk.shut ⟨h1.1,by omega⟩ o1,fun N n R w h1 h2 h3 o=>TT g cb N n R w h1 h2 h3 o⟩
end
section
section
variable{W w w':aF}{R:aJ}{b cb K:Nat}
def hdA:Hd:=⟨[97],0,0,100,0⟩
def hdS:ByteArray:=Vh (ab1 hdA)
def Bf:List Nt:=[⟨4,1,0,0,⟨#[97]⟩,[]⟩,⟨5,0,1,0,⟨#[]⟩,[]⟩,⟨6,0,0,0,⟨#[42,32,42,32,42,32,62,48]⟩,[]⟩,⟨2,0,0,0,hdS,[]⟩]
def evC(e:Nt):dw:=[e.k,e.a,e.b,e.c,.string e.s,.slice none 0 0]
theorem kV(e:Nt):(evC e).length=6:=rfl
noncomputable def aay(v:aL):Sem aL:=Instr.loadAt 37 v
noncomputable def Vl(p v:aL):Sem Unit:=Instr.storeAt 37 p v
theorem CK(v:aL):Instr.loadAt 37 v=aay v:=rfl
theorem zC(p v:aL):Instr.storeAt 37 p v=Vl p v:=rfl
theorem Io{c:nK}{ra:aY}{rc q:Nat}(o:Own w (aH q 37 (jX c ra rc)::R)):(aay (.pointer (some ⟨q,0,none⟩))).run prog w=.ok (wh c ra rc) w:=
 run_loadAt_mid (P:=prog) w q 0 37 (jX c ra rc) _ (Own.rangeAt o) underlying37 rfl (by kernel_rfl)
theorem wZ{c:nK}{ra:aY}{rc q:Nat}{old:dw}(o:Own w (aH q 37 old::R))(h:old.length=15:=by rfl):(Vl (.pointer (some ⟨q,0,none⟩)) (wh c ra rc)).run prog w=.ok () (w.setCells q 0 (jX c ra rc)):=
 run_storeAt_mid (P:=prog) w q 0 37 (jX c ra rc).toArray (Own.there o h.symm) (by kernel_rfl) (by unfold jX;simp[Value.oneCell'])
theorem tF{e:TypeId}{size n:Nat}{vs:dw}(o:Own w (aH b e vs::R))(h:vs.length=n*size)(hn:n<=1000):Own w (slc e size (some ⟨b,0,none⟩) n n vs::R):=
 Own.slc.2 (.inr ⟨b,[],rfl,Nat.le_refl _,by unfold maxLen;omega,h,by simp,by rw[List.append_nil];exact o⟩)
theorem aeL:qP hdA=true:=by decide
theorem Ni{w:aF}{R:aJ}{fn:Func}{p e pb:Nat}{c:nK}{ra:aY}{rc:Nat}{v:aL}(h:fn.results=#[.cell p 37,.tmp e])(tmps:Array aL)(hp:tmps.getD p undef=.pointer (some ⟨pb,0,none⟩))(he:tmps.getD e undef=v)
  (o:Own w (aH pb 37 (jX c ra rc)::R)):(results fn tmps).run prog w=.ok (.tuple #[wh c ra rc,v]) w:=by
 obtain⟨-,-,g0,g1,g2,g3,g4,g5,g6,g7,g8,g9,g10,g11,g12,g13,g14,-⟩:=o.cs;rw[results_cell_tmp h,hp,he];unfold wh;go_simp;all_goals rfl
attribute [local go_sem↓] CK zC
theorem Ip(o:Own w (old W::R)):
  Calls prog 14 #[] w (fun e w'=>∃(c:nK)(ra:aY)(rc:Nat)(g:Nat),fq 1 c/\aR (.tuple #[wh c ra rc,.slice (some ⟨g,0,none⟩) 4 4]) (jG ra rc c.bQ::slc 47 6 (some ⟨g,0,none⟩) 4 4 (flat evC Bf)::old W::R) w e w'):=by
 have oA:Own (w.alloc (.cells #[.int .i64 0,.int .i64 0,.int .i64 0,.int .i64 0,.int .i64 0,.int .i64 0,.int .i64 0,.int .i64 0,.int .i64 0,.int .i64 0,.int .i64 0,.int .i64 0,.int .i64 0,.int .i64 0,.slice none 0 0] 37)) (aH w.heap.size 37 [.int .i64 0,.int .i64 0,.int .i64 0,.int .i64 0,.int .i64 0,.int .i64 0,.int .i64 0,.int .i64 0,.int .i64 0,.int .i64 0,.int .i64 0,.int .i64 0,.int .i64 0,.int .i64 0,.slice none 0 0]::old W::R):=o.alloc (.cells #[.int .i64 0,.int .i64 0,.int .i64 0,.int .i64 0,.int .i64 0,.int .i64 0,.int .i64 0,.int .i64 0,.int .i64 0,.int .i64 0,.int .i64 0,.int .i64 0,.int .i64 0,.int .i64 0,.slice none 0 0] 37);have K0:=aj (x:=.cells #[.int .i64 0,.int .i64 0,.int .i64 0,.int .i64 0,.int .i64 0,.int .i64 0,.int .i64 0,.int .i64 0,.int .i64 0,.int .i64 0,.int .i64 0,.int .i64 0,.int .i64 0,.int .i64 0,.slice none 0 0] 37) (Calm.refl w);have hF:=TK hdA aeL oA;have hSd:Vh (ab1 hdA)=hdS:=rfl;rw[hSd]at hF;have XU:=az (show flat evC Bf=[.int .i64 4,.int .i64 1,.int .i64 0,.int .i64 0,.string ⟨#[97]⟩,.slice none 0 0,.int .i64 5,.int .i64 0,.int .i64 1,.int .i64 0,.string ⟨#[]⟩,.slice none 0 0,.int .i64 6,.int .i64 0,.int .i64 0,.int .i64 0,.string ⟨#[42,32,42,32,42,32,62,48]⟩,.slice none 0 0,.int .i64 2,.int .i64 0,.int .i64 0,.int .i64 0,.string hdS,.slice none 0 0]from rfl);unfold QX hdA at hF;dsimp only at hF;generalize hdS=S at*;clear o oA hSd;change Calls _ _ #[.agg #[.string ⟨#[97]⟩,.int .i64 0,.int .i64 0,.int .i64 100,.int .i64 0]] _ _ at hF;go_enter func14,ntmps14;go_wp2_with fail;refine hF.mono ?_;rintro _ w1⟨rfl,o1,k1⟩;have K1:=K0.trans k1;generalize w.heap.size=k0 at*;have oB:Own (w1.alloc (.cells #[.int .i64 0] 3)) (aH w1.heap.size 3 [.int .i64 0]::_):=o1.alloc (.cells #[.int .i64 0] 3);have KB:=aj (x:=.cells #[.int .i64 0] 3) K1;have hN:Calls prog 5 #[.slice (some ⟨w1.heap.size,0,none⟩) 1 1] (w1.alloc (.cells #[.int .i64 0] 3)) (fun e w'=>∃cb,e=.returned (.pointer (some ⟨cb,0,none⟩))/\Own w' (aH cb 58 [.slice (some ⟨w1.heap.size,0,none⟩) 1 1,.int .i64 0]::aH w1.heap.size 3 [.int .i64 0]::aH k0 37 [.int .i64 0,.int .i64 0,.int .i64 0,.int .i64 0,.int .i64 0,.int .i64 0,.int .i64 0,.int .i64 0,.int .i64 0,.int .i64 0,.int .i64 0,.int .i64 0,.int .i64 0,.int .i64 0,.slice none 0 0]::old W::R)/\Calm (w1.alloc (.cells #[.int .i64 0] 3)) w'):=by have oN:=oB.alloc (.cells #[.slice (some ⟨w1.heap.size,0,none⟩) 1 1,.int .i64 0] 58);rw[World.size_alloc]at oN;go_enter func5,ntmps5;go_wp2;go_ret;exact⟨_,rfl,oN,⟨rfl,rfl,rfl⟩⟩
 clear hF K0 k1 o1 K1 oB;go_wp2_with fail;refine hN.mono ?_;rintro _ w2⟨cb,rfl,o2,k2⟩;have K2:=KB.trans k2;generalize w1.heap.size=kg at*;have oC:Own w2 (Vk kg cb 0::old W::aH k0 37 [.int .i64 0,.int .i64 0,.int .i64 0,.int .i64 0,.int .i64 0,.int .i64 0,.int .i64 0,.int .i64 0,.int .i64 0,.int .i64 0,.int .i64 0,.int .i64 0,.int .i64 0,.int .i64 0,.slice none 0 0]::R):=(Vk.shut ⟨by omega,by omega⟩ o2).re [0,2,1];have hCg:=Im (md:=1) (ab9 W kg cb) (by omega) (by omega) oC;unfold aax at hCg;clear hN KB k2 o2 oC;go_wp2_with fail;refine hCg.mono ?_;rintro _ w3⟨c,ra,rc,hcg,rfl,o3,k3⟩;have K3:=K2.trans k3;have X6:=az hcg;have o4:Own w3 (aH k0 37 [.int .i64 0,.int .i64 0,.int .i64 0,.int .i64 0,.int .i64 0,.int .i64 0,.int .i64 0,.int .i64 0,.int .i64 0,.int .i64 0,.int .i64 0,.int .i64 0,.int .i64 0,.int .i64 0,.slice none 0 0]::jG ra rc c.bQ::old W::R):=o3.re [3,0,2]|>fun oo=>oo.re [3] 1;obtain⟨CV,hcv⟩:∃v,wh c ra rc=v:=⟨_,rfl⟩;have HCV:=az hcv;rw[hcv];clear hCg K2 k3 o3 hcg;have oE:Own (w3.alloc (.cells #[.int .i64 4,.int .i64 1,.int .i64 0,.int .i64 0,.string ⟨#[97]⟩,.slice none 0 0,.int .i64 5,.int .i64 0,.int .i64 1,.int .i64 0,.string ⟨#[]⟩,.slice none 0 0,.int .i64 6,.int .i64 0,.int .i64 0,.int .i64 0,.string ⟨#[42,32,42,32,42,32,62,48]⟩,.slice none 0 0,.int .i64 2,.int .i64 0,.int .i64 0,.int .i64 0,.string S,.slice none 0 0] 47)) (aH w3.heap.size 47 [.int .i64 4,.int .i64 1,.int .i64 0,.int .i64 0,.string ⟨#[97]⟩,.slice none 0 0,.int .i64 5,.int .i64 0,.int .i64 1,.int .i64 0,.string ⟨#[]⟩,.slice none 0 0,.int .i64 6,.int .i64 0,.int .i64 0,.int .i64 0,.string ⟨#[42,32,42,32,42,32,62,48]⟩,.slice none 0 0,.int .i64 2,.int .i64 0,.int .i64 0,.int .i64 0,.string S,.slice none 0 0]::_):=o4.alloc (.cells #[.int .i64 4,.int .i64 1,.int .i64 0,.int .i64 0,.string ⟨#[97]⟩,.slice none 0 0,.int .i64 5,.int .i64 0,.int .i64 1,.int .i64 0,.string ⟨#[]⟩,.slice none 0 0,.int .i64 6,.int .i64 0,.int .i64 0,.int .i64 0,.string ⟨#[42,32,42,32,42,32,62,48]⟩,.slice none 0 0,.int .i64 2,.int .i64 0,.int .i64 0,.int .i64 0,.string S,.slice none 0 0] 47);have KE:=aj (x:=.cells #[.int .i64 4,.int .i64 1,.int .i64 0,.int .i64 0,.string ⟨#[97]⟩,.slice none 0 0,.int .i64 5,.int .i64 0,.int .i64 1,.int .i64 0,.string ⟨#[]⟩,.slice none 0 0,.int .i64 6,.int .i64 0,.int .i64 0,.int .i64 0,.string ⟨#[42,32,42,32,42,32,62,48]⟩,.slice none 0 0,.int .i64 2,.int .i64 0,.int .i64 0,.int .i64 0,.string S,.slice none 0 0] 47) K3;have hst:=wZ (c:=c) (ra:=ra) (rc:=rc) (oE.up 1);have oG:=Own.setCells (old:=[.int .i64 0,.int .i64 0,.int .i64 0,.int .i64 0,.int .i64 0,.int .i64 0,.int .i64 0,.int .i64 0,.int .i64 0,.int .i64 0,.int .i64 0,.int .i64 0,.int .i64 0,.int .i64 0,.slice none 0 0]) (vs:=jX c ra rc) (oE.up 1) rfl;rw[hcv]at hst;obtain⟨CC,hcc⟩:∃v,jX c ra rc=v:=⟨_,rfl⟩;have HCC:=az hcc;rw[hcc]at hst oG;clear hcv o4 K3 oE hcc;go_wp2;have oS:=tF (size:=6) (n:=4) (oG.re [1]) rfl (by omega);refine bodyPost_ret (v:=.tuple #[wh c ra rc,.slice (some ⟨w3.heap.size,0,none⟩) 4 4]) (Ni (pb:=k0) rfl _ rfl rfl (by rw[HCC.out];exact oG)) rfl ⟨c,ra,rc,w3.heap.size,X6.out,rfl,?_,KE.trans (Calm.setCells _ _ _ _)⟩;rw[XU.out];exact(oS.re [1] 1).swap
end
end
section
variable{W w w':aF}{R:aJ}{b:Nat}{m:aX}
theorem w_{N:Nat}(id:Int)(hL:m.jy.Ok N)(o:Own w (aK b m::R)):Calls prog 12 #[b,id] w (aR (.int .i64 (lstate m.jy id)) (aK b m::R) w):=by obtain⟨x,oX⟩:=ah.of o;have hS:=ah.UM (gy.still fun R1 oo=>qI id hL oo) oX;obtain⟨c24,cl⟩:=ah.cell (k:=24) rfl oX;change World.cell? _ ⟨b,24,none⟩=some (.pointer (some ⟨x.lb,0,none⟩))at c24;clear hL o oX;go_enter func12,ntmps12;go_wp2_with fail;refine hS.mono ?_;rintro _ w2⟨⟨⟩,rfl,o2,k2⟩;clear hS c24;go_wp2;go_ret;exact⟨rfl,ah.to o2,k2⟩
theorem aaz(L:List Rec):∀u∈flat recC L,u.oneCell'=true:=by intro u hu;obtain⟨s,_,hs⟩:=List.mem_flatMap.1 hu;simp only[recC,jc,xN,or_false]at hs;rcases hs with rfl|rfl|rfl|rfl|rfl|rfl<;>rfl
theorem Jv{a:aY}{n c:Nat}{L:List Rec}(hn:n<=1000000)(o:Own w (slc 51 6 a n c (flat recC L)::R)):
  Calls prog 29 #[.slice a n c] w fun e w'=>∃a' c',aR (.slice a' n c') (slc 51 6 a' n c' (flat recC L)::slc 51 6 a n c (flat recC L)::R) w e w':=by
 have hnil:=fun(w:aF)(a:aY)(n c:Nat)=>Lib.run_eql_slice_nil w 48 51 a n c 0 0 underlying48;rcases Own.slc.1 o with⟨rfl,rfl,rfl,hS,o1⟩|⟨g,sp,rfl,h1,h2,h3,h4,o1⟩
 ·have o2:=Own.bH (e:=51) (size:=6) o;rw[<-hS]at o2;clear hS;go_enter func29,ntmps29;go_wp2;go_ret;exact⟨none,0,rfl,o2,Calm.refl w⟩
 ·clear o1 h1 h2 h3 h4 sp;have oZ:=sG (e:=51) (size:=6) (o.alloc (.cells #[] 51));have hsrc:=sI (aaz L) (oZ.up 1);go_enter func29,ntmps29;go_wp2_with(at_builtin;refine aQ rfl _ _ rfl Tryz.recT6 rfl oZ rfl hsrc (by unfold maxLen;omega) (by omega) ?k1);case k1=>intro a' c' w6 o6 k6;go_wp2;go_ret;exact⟨a',c',rfl,o6,k6.al⟩
theorem XA(hn:m.log.length<=1000000)(o:Own w (aK b m::R)):
  Calls prog 11 #[b] w fun e w'=>∃a c,aR (.slice a m.log.length c) (slc 51 6 a m.log.length c (flat recC m.log)::aK b m::R) w e w':=by
 obtain⟨x,oX⟩:=ah.of o;obtain⟨hx,oP⟩:=ah.iff.1 oX;have hC:=Jv hn (oP.up 11);obtain⟨c28,cl⟩:=ah.cell (k:=28) rfl oX;change World.cell? _ ⟨b,28,none⟩=some (.slice x.la m.log.length x.lc)at c28;have HX:=az hx;clear o oX oP hx;go_enter func11,ntmps11;go_wp2_with fail;refine hC.mono ?_;rintro _ w2⟨a,c,rfl,o2,k2⟩;have o3:Own w2 (ah b m x::slc 51 6 a m.log.length c (flat recC m.log)::R):=ah.iff.2 ⟨HX.out,o2.re [2,3,4,5,6,7,8,9,10,11,12,1,13,0]⟩;clear hC c28 o2;go_wp2;go_ret;exact⟨a,c,rfl,(ah.to o3).swap,k2⟩
end
def ruA:Ru:=⟨[],-1,0,65535,0⟩
theorem XB:jY [42,32,42,32,42,32,62,48]=(ruA,0):=by rfl
theorem XC:dh hdS.data.toList=(hdA,0):=by rfl
theorem nmA:dG [97]=true:=by decide
def nA:ByteArray:=⟨#[97]⟩
def nI:rV:=⟨0,nA,1,0⟩
def je:jd:=⟨0,0,1,64,262144,1099511627776,1099511627776⟩
def vC(c:nK):yV:=⟨c.cap,2,[nI],[(je,true)]⟩
def Vm:iA:=⟨1,0,100,0,-1⟩
def aaA:vE:=Mm Sj 0 100
def aaB:Rec:=⟨0,1,0,1,0,100⟩
def mI(c:nK)(s q:Nat)(k:Int)(ch:vD)(aZ:zG)(act:bq)(L:List Rec):aX:=
 ⟨c,c.mode,k,0,false,0,vC c,[ruA],[⟨64,262144,[Vm]⟩],[⟨ch,⟨c.win,c.tries,0,[]⟩,⟨c.win,0,[]⟩,0,0⟩],aaA,[Vm],aZ,act,L,[s],[q]⟩
section
variable{md:Int}{c:nK}
theorem agA(h:fq md c):ig (m0 c).tab nA 1 0=0:=by unfold ig m0;dsimp only;rw[h.rt,show dG nA.data.toList=true from nmA,if_neg (by decide),if_neg (by decide),if_neg (by decide)]
theorem agB(h:fq md c)(s:Nat):mG (m0 c) nA 1 0 s={m0 c with tab:=⟨c.cap,2,[nI],[]⟩,S:=[newS c],ss:=[s]}:=by unfold mG staT;rw[if_pos (agA h),if_pos (agA h)];unfold m0;dsimp only;rw[h.rt];rfl
theorem agC(h:fq md c):iq ⟨c.cap,2,[nI],[]⟩ 0 1=0:=by have:=h.cp;unfold iq;dsimp only;rw[if_neg (by decide),if_neg (by decide),if_neg (by decide),if_neg (by show¬c.cap<0+1;omega)]
theorem agD(h:fq md c)(m:aX)(ht:m.tab=⟨c.cap,2,[nI],[]⟩)(q:Nat):D_ m 0 1 q={m with tab:=vC c,Q:=m.Q++[EB],qs:=m.qs++[q]}:=by unfold D_ floT;rw[ht,if_pos (agC h),if_pos (agC h)];rfl
theorem agE(m:aX)(ht:m.tab=vC c)(hr:m.rules=[]):tC m ⟨#[42,32,42,32,42,32,62,48]⟩=({m with rules:=[ruA]},0,0):=by unfold tC;rw[show jY (⟨#[42,32,42,32,42,32,62,48]⟩:ByteArray).data.toList=(ruA,0)from XB,ht,hr];rfl
theorem agF(m:aX)(ht:m.tab=vC c)(hr:m.rules=[ruA])(hQ:m.Q=[EB])(hp:m.dY=[])(hs:m.slot=0)(hl:m.jy=Sj)(hg:m.log=[]):jT m hdS=({m with Q:=[⟨64,262144,[Vm]⟩],jy:=aaA,dY:=[Vm],log:=[aaB]},1,0):=by
 have hf:TQ m hdA=some 0:=by unfold TQ;rw[ht,hr];rfl
 unfold jT;rw[XC];dsimp only;rw[if_neg (by decide),hf];dsimp only;rw[hQ,hp,hs,hl];have hP:TP m 0 hdA=Vm:=by unfold TP;rw[hp,hs];rfl
 rw[hP];unfold jM;dsimp only;rw[hg];rfl
end
def sJ:Cq:=(wH cq0 0 1).2
def hB:List Head:=[⟨0,100,false⟩]
def hG:List Head:=[⟨0,100,true⟩]
theorem Nj:jh sJ.R.L hB=true/\jh sJ.R.L hG=true:=⟨rfl,rfl⟩
theorem agG:nR sJ.C (Ab sJ.D hB)=sJ.C:=rfl
theorem agH:nR sJ.X (nT sJ.D hB)=sJ.X:=rfl
theorem B_(tg:bO):bJ [] tg=-1:=by unfold bJ lU;rw[List.map_nil,List.mergeSort_nil];rfl
theorem aeM(nu de:Int):l9 nu de {sJ with C:=nR sJ.C (Ab sJ.D hB),X:=nR sJ.X (nT sJ.D hB)} hB (!(nT sJ.D hB).isEmpty)=gu:=by rw[agG,agH];unfold l9;dsimp only;rw[show(bC hB (dD sJ.R.L).1).good=false from rfl,Bool.false_and,if_neg (by decide),show bJ sJ.C.el sJ.C.tg=-1 from B_ _,if_neg (by decide),if_neg (by decide),show(!(nT sJ.D hB).isEmpty)=false from rfl,if_neg (by decide)]
theorem Vn(nu de aI:Int):j_ nu de aI sJ hB=(gu,0,sJ):=by unfold j_;rw[if_neg (by rw[Nj.1];decide),if_neg (by intro h;cases h)];dsimp only;rw[aeM,if_pos rfl,agG,agH]
theorem XD(aI:Int)(h:1<=aI):bF aI sJ.R 0 100=(0,EI sJ.R ⟨0,1,0⟩ 72072000):=by unfold bF;rw[show cB sJ.R.L 0=some ⟨0,1,0⟩from rfl];dsimp only;rw[if_neg (by decide)];unfold vU;rw[show(mX 0 100 1).1=72072000 from rfl,show Nu (EI sJ.R ⟨0,1,0⟩ 72072000)=0 from rfl,if_pos (by omega)]
theorem XE(nu de:Int):l9 nu de {sJ with C:=nR sJ.C (Ab sJ.D hG),X:=nR sJ.X (nT sJ.D hG)} hG (!(nT sJ.D hG).isEmpty)=⟨0,0,1⟩:=by rfl
theorem XF(aI:Int)(C X:Ord)(len:Int):gI aI C X ⟨0,0,1⟩ len=(0,C,X):=by unfold gI;dsimp only;rw[if_neg (by decide),if_neg (by decide)]
theorem acd(nu de aI:Int)(h:1<=aI):∃s',j_ nu de aI sJ hG=(⟨0,0,1⟩,0,s')/\s'.R.aw=0:=by
 have e:j_ nu de aI sJ hG=(⟨0,0,1⟩,0,(j_ nu de aI sJ hG).2.2)/\(j_ nu de aI sJ hG).2.2.R.aw=0:=by unfold j_;rw[if_neg (by rw[Nj.2];decide),if_neg (by intro h;cases h)];dsimp only;rw[XE,if_neg (by decide)];dsimp only;rw[show(bC hG 0).len=100 from rfl,XD aI h];dsimp only;rw[if_neg (by decide)];rw[XF];dsimp only;rw[if_neg (by decide),if_neg (show¬(j4 sJ.D 0 0 100).1≠0 by rw[show(j4 sJ.D 0 0 100).1=0 from rfl];decide)];exact⟨rfl,rfl⟩
 exact⟨_,e⟩
def iJ:Iw:=(wz iw0 0 1 1099511627776 1099511627776).2
theorem TU:jh iJ.R.L hB=true/\jh iJ.R.L hG=true:=⟨rfl,rfl⟩
theorem Vo(aI:Int):pz aI iJ hB=(gu,0,iJ):=by rfl
section
variable{md:Int}{c:nK}{s q:Nat}{k:Int}{ch:vD}{aZ:zG}{L:List Rec}{act:bq}
def aaC(k:Int):Rec:=⟨k,8,0,0,0,1⟩
theorem ace:Ex (mI c s q k ch aZ act L) je=mI c s q k ch aZ act L:=rfl
theorem EY:uP (mI c s q k ch aZ act L)=mI c s q k ch aZ act L:=by unfold uP;rw[show dO (mI c s q k ch aZ act L).tab.F=[je]from rfl];exact ace
theorem Vp:A7 (mI c s q k ch aZ act L) je=true:=rfl
theorem Lf(x:Int):iI [x]=[x]:=by unfold iI;exact List.mergeSort_singleton x
theorem agI:dK (mI c s q k ch aZ [] L)=mI c s q k ch (wN (vC c) aZ je) [0] (L++[aaC k]):=by
 have e:Ht (mI c s q k ch aZ [] L) je=mI c s q k ch (wN (vC c) aZ je) [0] (L++[aaC k]):=by unfold Ht jM;dsimp only;rw[show(mI c s q k ch aZ [] L).act++[je.id]=[0]from rfl,Lf];rfl
 unfold dK;rw[show(mI c s q k ch aZ [] L).act.foldl fJ (mI c s q k ch aZ [] L)=mI c s q k ch aZ [] L from rfl,show dO (mI c s q k ch aZ [] L).tab.F=[je]from rfl];rw[List.foldl_cons,List.foldl_nil];unfold nE;rw[Vp,if_pos (by rfl),e]
theorem lv1:fJ (mI c s q k ch aZ [0] L) 0=mI c s q k ch aZ [0] L:=by unfold fJ;rw[show lG (mI c s q k ch aZ [0] L).tab.F 0=some je from rfl];dsimp only;rw[Vp,if_pos rfl]
theorem mem1:dK (mI c s q k ch aZ [0] L)=mI c s q k ch aZ [0] L:=by unfold dK;rw[show(mI c s q k ch aZ [0] L).act.foldl fJ (mI c s q k ch aZ [0] L)=fJ (mI c s q k ch aZ [0] L) 0 from rfl,lv1,show dO (mI c s q k ch aZ [0] L).tab.F=[je]from rfl];rw[List.foldl_cons,List.foldl_nil];unfold nE;rw[Vp,if_neg (by show¬(true&&![(0:Int)].contains 0)=true;decide)]
theorem iO(h:fq md c):(vC c).Ok:=by
 have h1:=h.ok.c1;have h2:=h.ok.c2;have h3:=h.cp;refine⟨⟨h1,h2⟩,by show(1:Int)<=2/\(2:Int)<=12;omega,by show(1:Nat)<=16;omega,by show(1:Nat)<=32;omega,?_,?_,?_,by show(1:Int)<=c.cap;omega⟩
 ·intro i s hs
  match i,hs with
  |0,hs=>injection hs with hs;rw[<-hs];rfl
  |i+1,hs=>exact absurd hs (by simp[vC])
 ·intro s hs;have:s=nI:=by simpa[vC]using hs
  rw[this];exact nmA
 ·intro p hp;have:p=(je,true):=by simpa[vC]using hp
  rw[this];exact⟨by decide,by decide⟩
theorem EZ(h:fq md c):(⟨c.win,c.tries,0,[]⟩:sH).Ok:=by have h1:=h.ok.t1;have h2:=h.ok.t2;exact⟨h.ok.w1,h.ok.w2,h1,h2,⟨by show(0:Int)<=0;omega,by show(0:Int)<65536;omega⟩,fun p hp=>(by cases hp),fun p hp=>(by cases hp),by show(0:Nat)<=64;omega⟩
theorem Nk:aaA.Ok 1:=abj vE.Ok.start (by rfl)
theorem agJ:abl Vm:=⟨by decide,by decide⟩
theorem bkA(h:fq md c):U0 (mI c s q k ch aZ act L) je:=
 ⟨⟨0,0,_,_,rfl,rfl,rfl,rfl,EZ h,fun x hx=>(by cases hx)⟩,by show(1:Nat)<=1000000;omega⟩
theorem adt(h:fq md c):xQ (⟨c.win,c.tries,0,[]⟩:sH)=true:=by have h1:=h.ok.w1;exact bz (by show((0:Int)-0+65536)%65536<c.win;omega)
theorem acf(h:fq md c):vB (mI c s q k ch aZ act L) je=((1,-1),true):=by have e:vB (mI c s q k ch aZ act L) je=((1,-1),xQ (⟨c.win,c.tries,0,[]⟩:sH)):=rfl;rw[e,adt h]
theorem XG(h:fq md c):qO (mI c s q k ch aZ [0] L)=[⟨0,100,eB ch⟩]:=by have e:qO (mI c s q k ch aZ [0] L)=[⟨0,100,(vB (mI c s q k ch aZ [0] L) je).2&&eB ch⟩]:=rfl;rw[e,acf h,Bool.true_and]
theorem fiA(h:fq md c){N:Nat}(hc:ch.Ok N)(hN:N<=1000000000):H6 (mI c s q k ch aZ act L) je:=
 ⟨⟨0,0,_,_,N,rfl,rfl,rfl,rfl,EZ h,fun x hx=>(by cases hx),fun x hx=>(by cases hx),by show(1:Nat)<=100000;omega,hc,hN⟩,by show(1:Nat)<=1000000;omega,by rw[acf h];show(1:Int)<=1/\(1:Int)<=1;omega⟩
theorem E5(h:fq md c){N:Nat}(hc:ch.Ok N)(hN:N<=1000000000):adk (mI c s q k ch aZ [0] L):=
 ⟨iO h,by show(1:Nat)<=32;omega,fun id hid=>by
  have:id=0:=by simpa[mI]using hid
  rw[this]
  exact⟨je,rfl,fiA h hc hN⟩⟩
theorem mbA(h:fq md c)(hL:L.length<=1000)(hj:Z8 (vC c) aZ je):Qp (mI c s q k ch aZ [] L):=by
 refine⟨by show(0:Nat)<=1000;omega,fun i id hi=>(by cases hi),iO h,?_⟩;intro i f hf;have hf0:i=0/\f=je:=by
  have h1:([je]:List jd)[i]?=some f:=hf
  match i,h1 with
  |0,h1=>injection h1 with h1;exact⟨rfl,h1.symm⟩
  |i+1,h1=>exact absurd h1 (by simp)
 obtain⟨rfl,rfl⟩:=hf0;exact⟨bkA h,by show(0:Nat)<=1000;omega,fun _=>hj,by show L.length<=1000000;omega,iO h⟩
theorem mbB(h:fq md c)(hL:L.length<=1000)(hv:Z7 aZ 0):Qp (mI c s q k ch aZ [0] L):=by
 have e1:(mI c s q k ch aZ [0] L).act.foldl fJ (mI c s q k ch aZ [0] L)=mI c s q k ch aZ [0] L:=by show fJ (mI c s q k ch aZ [0] L) 0=_;exact lv1
 refine⟨by show(1:Nat)<=1000;omega,?_,by rw[e1];exact iO h,?_⟩
 ·intro i id hi;have h0:i=0/\id=0:=by
   have h1:([0]:bq)[i]?=some id:=hi
   match i,h1 with
   |0,h1=>injection h1 with h1;exact⟨rfl,h1.symm⟩
   |i+1,h1=>exact absurd h1 (by simp)
  obtain⟨rfl,rfl⟩:=h0;exact⟨⟨je,rfl,bkA h⟩,List.mem_singleton.2 rfl,by show(1:Nat)<=1000;omega,hv,by show L.length<=1000000;omega,iO h⟩
 ·intro i f hf;rw[e1]at hf⊢;have hf0:i=0/\f=je:=by
   have h1:([je]:List jd)[i]?=some f:=hf
   match i,h1 with
   |0,h1=>injection h1 with h1;exact⟨rfl,h1.symm⟩
   |i+1,h1=>exact absurd h1 (by simp)
  obtain⟨rfl,rfl⟩:=hf0;exact⟨bkA h,by show(1:Nat)<=1000;omega,fun hc=>absurd hc (by rw[show((List.take 0 (dO (mI c s q k ch aZ [0] L).tab.F)).foldl nE (mI c s q k ch aZ [0] L))=mI c s q k ch aZ [0] L from rfl,Vp];show¬(true&&![(0:Int)].contains 0)=true;decide),by show L.length<=1000000;omega,iO h⟩
theorem exA(h:fq md c)(i:Nat)(f:jd)(hf:(dO (mI c s q k ch aZ act L).tab.F)[i]?=some f):adm (((dO (mI c s q k ch aZ act L).tab.F).take i).foldl Ex (mI c s q k ch aZ act L)) f:=by
 have hf0:i=0/\f=je:=by
  have h1:([je]:List jd)[i]?=some f:=hf
  match i,h1 with
  |0,h1=>injection h1 with h1;exact⟨rfl,h1.symm⟩
  |i+1,h1=>exact absurd h1 (by simp)
 obtain⟨rfl,rfl⟩:=hf0;refine⟨0,_,rfl,rfl,?_,by show(1:Nat)<=1000;omega,?_⟩
 ·intro p hp;have:p=Vm:=by simpa using hp
  rw[this];exact agJ
 ·intro j p hp;exact absurd hp (by simp[AQ,dJ,Vm])
end
end Go.Proofs.YtfejhikpfhgbeaaGreatDoor
