import Derived.Test.YtfejhikpfhgbeaaGreatDoorMachineIdleJ
import Derived.Test.YtfejhikpfhgbeaaGreatDoorMachineIdleAE
import Derived.Test.YtfejhikpfhgbeaaGreatDoorMachineIdleAF
set_option maxHeartbeats 25600000
set_option maxRecDepth 100000
set_option linter.all false
namespace Go.Proofs.YtfejhikpfhgbeaaGreatDoor
open Go.Proofs.Tryz
open Go.RowKit
open SP
section
variable{w:aF}{R:aJ}{b:Nat}{T:TypeId}
theorem Own.c5{a0 a1 a2 a3 a4:aL}(o:Own w (aH b T [a0,a1,a2,a3,a4]::R)):w.cell? ⟨b,0,none⟩=some a0/\w.cell? ⟨b,1,none⟩=some a1/\w.cell? ⟨b,2,none⟩=some a2/\w.cell? ⟨b,3,none⟩=some a3/\w.cell? ⟨b,4,none⟩=some a4/\(∀j,w.frozen? ⟨b,j,none⟩=false)/\b<w.heap.size:=
 ⟨o.cell 0,o.cell 1,o.cell 2,o.cell 3,o.cell 4,o.frozen,o.aS⟩
end
section
open Go.Shelf
section
variable{W w w':aF}{R:aJ}
structure Hd where
 st:qR
 cls:Int
 port:Int
 len:Int
 life:Int
def hdC(r:Hd):dw:=[.string (dx r.st),r.cls,r.port,r.len,r.life]
def QX(r:Hd):aL:=.agg #[.string (dx r.st),r.cls,r.port,r.len,r.life]
def qP(r:Hd):Bool:=dG r.st&&decide (0<=r.cls/\r.cls<=7/\0<=r.port/\r.port<=65535/\1<=r.len/\r.len<=4096/\0<=r.life/\r.life<=65535)
theorem gV{r:Hd}(h:¬(0<=r.cls/\r.cls<=7/\0<=r.port/\r.port<=65535/\1<=r.len/\r.len<=4096/\0<=r.life/\r.life<=65535)):qP r=false:=by unfold qP;rw[bW h,Bool.and_false]
theorem QI{r:Hd}(h2:dG r.st=false):qP r=false:=by unfold qP;rw[h2];rfl
theorem Le{r:Hd}(h1:dG r.st=true)(h:0<=r.cls/\r.cls<=7/\0<=r.port/\r.port<=65535/\1<=r.len/\r.len<=4096/\0<=r.life/\r.life<=65535):qP r=true:=by unfold qP;rw[bz h,Bool.and_true,h1]
theorem Bb(r:Hd)(hs:r.st.length<=2000000)(o:Own w R):Calls prog 117 #[QX r] w (aR (.bool (qP r)) R w):=by
 obtain⟨st,c,p,n,y⟩:=r;have H1:=az fun(w1:aF)(R1:aJ)(o1:Own w1 R1)=>DJ (dx st) (by rw[fI];exact hs) o1;rw[iW]at H1;unfold QX;dsimp only;have o1:=o.alloc (.cells #[.string (dx st),c,p,n,y] 94);generalize dx st=B at*;cases hnb:dG st with
 |false=>have HV:=az (QI (r:=⟨st,c,p,n,y⟩) hnb);rw[hnb]at H1;clear hnb;go_enter func117,ntmps117;go_wp2_with fail;refine(H1.out _ _ o1).mono ?_;rintro e2 w2⟨rfl,o2,k2⟩;go_wp2;go_ret;exact⟨by rw[HV.out];rfl,o2.drop,k2.al⟩
 |true=>
  rw[hnb]at H1;by_cases g0:0<=c;rotate_left
  ·have HV:=az (gV (r:=⟨st,c,p,n,y⟩) fun h=>g0 h.1);have d0:=bW g0;clear g0 hnb;go_enter func117,ntmps117;go_wp2_with fail;refine(H1.out _ _ o1).mono ?_;rintro e2 w2⟨rfl,o2,k2⟩;obtain⟨-,-,-,q1,q2,q3,q4,-⟩:=o2.cs;go_wp2;go_ret;exact⟨by rw[HV.out];rfl,o2.drop,k2.al⟩
  by_cases g1:c<=7;rotate_left
  ·have HV:=az (gV (r:=⟨st,c,p,n,y⟩) fun h=>g1 h.2.1);have d0:=bz g0;have d1:=bW g1;clear g0 g1 hnb;go_enter func117,ntmps117;go_wp2_with fail;refine(H1.out _ _ o1).mono ?_;rintro e2 w2⟨rfl,o2,k2⟩;obtain⟨-,-,-,q1,q2,q3,q4,-⟩:=o2.cs;go_wp2;go_ret;exact⟨by rw[HV.out];rfl,o2.drop,k2.al⟩
  by_cases g2:0<=p;rotate_left
  ·have HV:=az (gV (r:=⟨st,c,p,n,y⟩) fun h=>g2 h.2.2.1);have d0:=bz g0;have d1:=bz g1;have d2:=bW g2;clear g0 g1 g2 hnb;go_enter func117,ntmps117;go_wp2_with fail;refine(H1.out _ _ o1).mono ?_;rintro e2 w2⟨rfl,o2,k2⟩;obtain⟨-,-,-,q1,q2,q3,q4,-⟩:=o2.cs;go_wp2;go_ret;exact⟨by rw[HV.out];rfl,o2.drop,k2.al⟩
  by_cases g3:p<=65535;rotate_left
  ·have HV:=az (gV (r:=⟨st,c,p,n,y⟩) fun h=>g3 h.2.2.2.1);have d0:=bz g0;have d1:=bz g1;have d2:=bz g2;have d3:=bW g3;clear g0 g1 g2 g3 hnb;go_enter func117,ntmps117;go_wp2_with fail;refine(H1.out _ _ o1).mono ?_;rintro e2 w2⟨rfl,o2,k2⟩;obtain⟨-,-,-,q1,q2,q3,q4,-⟩:=o2.cs;go_wp2;go_ret;exact⟨by rw[HV.out];rfl,o2.drop,k2.al⟩
  by_cases g4:1<=n;rotate_left
  ·have HV:=az (gV (r:=⟨st,c,p,n,y⟩) fun h=>g4 h.2.2.2.2.1);have d0:=bz g0;have d1:=bz g1;have d2:=bz g2;have d3:=bz g3;have d4:=bW g4;clear g0 g1 g2 g3 g4 hnb;go_enter func117,ntmps117;go_wp2_with fail;refine(H1.out _ _ o1).mono ?_;rintro e2 w2⟨rfl,o2,k2⟩;obtain⟨-,-,-,q1,q2,q3,q4,-⟩:=o2.cs;go_wp2;go_ret;exact⟨by rw[HV.out];rfl,o2.drop,k2.al⟩
  by_cases g5:n<=4096;rotate_left
  ·have HV:=az (gV (r:=⟨st,c,p,n,y⟩) fun h=>g5 h.2.2.2.2.2.1);have d0:=bz g0;have d1:=bz g1;have d2:=bz g2;have d3:=bz g3;have d4:=bz g4;have d5:=bW g5;clear g0 g1 g2 g3 g4 g5 hnb;go_enter func117,ntmps117;go_wp2_with fail;refine(H1.out _ _ o1).mono ?_;rintro e2 w2⟨rfl,o2,k2⟩;obtain⟨-,-,-,q1,q2,q3,q4,-⟩:=o2.cs;go_wp2;go_ret;exact⟨by rw[HV.out];rfl,o2.drop,k2.al⟩
  by_cases g6:0<=y;rotate_left
  ·have HV:=az (gV (r:=⟨st,c,p,n,y⟩) fun h=>g6 h.2.2.2.2.2.2.1);have d0:=bz g0;have d1:=bz g1;have d2:=bz g2;have d3:=bz g3;have d4:=bz g4;have d5:=bz g5;have d6:=bW g6;clear g0 g1 g2 g3 g4 g5 g6 hnb;go_enter func117,ntmps117;go_wp2_with fail;refine(H1.out _ _ o1).mono ?_;rintro e2 w2⟨rfl,o2,k2⟩;obtain⟨-,-,-,q1,q2,q3,q4,-⟩:=o2.cs;go_wp2;go_ret;exact⟨by rw[HV.out];rfl,o2.drop,k2.al⟩
  by_cases g7:y<=65535;rotate_left
  ·have HV:=az (gV (r:=⟨st,c,p,n,y⟩) fun h=>g7 h.2.2.2.2.2.2.2);have d0:=bz g0;have d1:=bz g1;have d2:=bz g2;have d3:=bz g3;have d4:=bz g4;have d5:=bz g5;have d6:=bz g6;have d7:=bW g7;clear g0 g1 g2 g3 g4 g5 g6 g7 hnb;go_enter func117,ntmps117;go_wp2_with fail;refine(H1.out _ _ o1).mono ?_;rintro e2 w2⟨rfl,o2,k2⟩;obtain⟨-,-,-,q1,q2,q3,q4,-⟩:=o2.cs;go_wp2;go_ret;exact⟨by rw[HV.out];rfl,o2.drop,k2.al⟩
  have good:=Le (r:=⟨st,c,p,n,y⟩) hnb ⟨g0,g1,g2,g3,g4,g5,g6,g7⟩;have HV:=az good;have d0:=bz g0;have d1:=bz g1;have d2:=bz g2;have d3:=bz g3;have d4:=bz g4;have d5:=bz g5;have d6:=bz g6;have d7:=bz g7;clear g0 g1 g2 g3 g4 g5 g6 g7 hnb good;go_enter func117,ntmps117;go_wp2_with fail;refine(H1.out _ _ o1).mono ?_;rintro e2 w2⟨rfl,o2,k2⟩;obtain⟨-,-,-,q1,q2,q3,q4,-⟩:=o2.cs;go_wp2;go_ret;exact⟨by rw[HV.out];rfl,o2.drop,k2.al⟩
theorem Ey(r:Hd)(hs:r.st.length<=2000000)(o:Own w R):Calls prog 50 #[QX r] w (aR (.bool (qP r)) R w):=by
 obtain⟨st,c,p,n,y⟩:=r;have H1:=az fun(w1:aF)(R1:aJ)(o1:Own w1 R1)=>Gp (dx st) (by rw[fI];exact hs) o1;rw[iW]at H1;unfold QX;dsimp only;have o1:=o.alloc (.cells #[.string (dx st),c,p,n,y] 94);generalize dx st=B at*;cases hnb:dG st with
 |false=>have HV:=az (QI (r:=⟨st,c,p,n,y⟩) hnb);rw[hnb]at H1;clear hnb;go_enter func50,ntmps50;go_wp2_with fail;refine(H1.out _ _ o1).mono ?_;rintro e2 w2⟨rfl,o2,k2⟩;go_wp2;go_ret;exact⟨by rw[HV.out];rfl,o2.drop,k2.al⟩
 |true=>
  rw[hnb]at H1;by_cases g0:0<=c;rotate_left
  ·have HV:=az (gV (r:=⟨st,c,p,n,y⟩) fun h=>g0 h.1);have d0:=bW g0;clear g0 hnb;go_enter func50,ntmps50;go_wp2_with fail;refine(H1.out _ _ o1).mono ?_;rintro e2 w2⟨rfl,o2,k2⟩;obtain⟨-,-,-,q1,q2,q3,q4,-⟩:=o2.cs;go_wp2;go_ret;exact⟨by rw[HV.out];rfl,o2.drop,k2.al⟩
  by_cases g1:c<=7;rotate_left
  ·have HV:=az (gV (r:=⟨st,c,p,n,y⟩) fun h=>g1 h.2.1);have d0:=bz g0;have d1:=bW g1;clear g0 g1 hnb;go_enter func50,ntmps50;go_wp2_with fail;refine(H1.out _ _ o1).mono ?_;rintro e2 w2⟨rfl,o2,k2⟩;obtain⟨-,-,-,q1,q2,q3,q4,-⟩:=o2.cs;go_wp2;go_ret;exact⟨by rw[HV.out];rfl,o2.drop,k2.al⟩
  by_cases g2:0<=p;rotate_left
  ·have HV:=az (gV (r:=⟨st,c,p,n,y⟩) fun h=>g2 h.2.2.1);have d0:=bz g0;have d1:=bz g1;have d2:=bW g2;clear g0 g1 g2 hnb;go_enter func50,ntmps50;go_wp2_with fail;refine(H1.out _ _ o1).mono ?_;rintro e2 w2⟨rfl,o2,k2⟩;obtain⟨-,-,-,q1,q2,q3,q4,-⟩:=o2.cs;go_wp2;go_ret;exact⟨by rw[HV.out];rfl,o2.drop,k2.al⟩
  by_cases g3:p<=65535;rotate_left
  ·have HV:=az (gV (r:=⟨st,c,p,n,y⟩) fun h=>g3 h.2.2.2.1);have d0:=bz g0;have d1:=bz g1;have d2:=bz g2;have d3:=bW g3;clear g0 g1 g2 g3 hnb;go_enter func50,ntmps50;go_wp2_with fail;refine(H1.out _ _ o1).mono ?_;rintro e2 w2⟨rfl,o2,k2⟩;obtain⟨-,-,-,q1,q2,q3,q4,-⟩:=o2.cs;go_wp2;go_ret;exact⟨by rw[HV.out];rfl,o2.drop,k2.al⟩
  by_cases g4:1<=n;rotate_left
  ·have HV:=az (gV (r:=⟨st,c,p,n,y⟩) fun h=>g4 h.2.2.2.2.1);have d0:=bz g0;have d1:=bz g1;have d2:=bz g2;have d3:=bz g3;have d4:=bW g4;clear g0 g1 g2 g3 g4 hnb;go_enter func50,ntmps50;go_wp2_with fail;refine(H1.out _ _ o1).mono ?_;rintro e2 w2⟨rfl,o2,k2⟩;obtain⟨-,-,-,q1,q2,q3,q4,-⟩:=o2.cs;go_wp2;go_ret;exact⟨by rw[HV.out];rfl,o2.drop,k2.al⟩
  by_cases g5:n<=4096;rotate_left
  ·have HV:=az (gV (r:=⟨st,c,p,n,y⟩) fun h=>g5 h.2.2.2.2.2.1);have d0:=bz g0;have d1:=bz g1;have d2:=bz g2;have d3:=bz g3;have d4:=bz g4;have d5:=bW g5;clear g0 g1 g2 g3 g4 g5 hnb;go_enter func50,ntmps50;go_wp2_with fail;refine(H1.out _ _ o1).mono ?_;rintro e2 w2⟨rfl,o2,k2⟩;obtain⟨-,-,-,q1,q2,q3,q4,-⟩:=o2.cs;go_wp2;go_ret;exact⟨by rw[HV.out];rfl,o2.drop,k2.al⟩
  by_cases g6:0<=y;rotate_left
  ·have HV:=az (gV (r:=⟨st,c,p,n,y⟩) fun h=>g6 h.2.2.2.2.2.2.1);have d0:=bz g0;have d1:=bz g1;have d2:=bz g2;have d3:=bz g3;have d4:=bz g4;have d5:=bz g5;have d6:=bW g6;clear g0 g1 g2 g3 g4 g5 g6 hnb;go_enter func50,ntmps50;go_wp2_with fail;refine(H1.out _ _ o1).mono ?_;rintro e2 w2⟨rfl,o2,k2⟩;obtain⟨-,-,-,q1,q2,q3,q4,-⟩:=o2.cs;go_wp2;go_ret;exact⟨by rw[HV.out];rfl,o2.drop,k2.al⟩
  by_cases g7:y<=65535;rotate_left
  ·have HV:=az (gV (r:=⟨st,c,p,n,y⟩) fun h=>g7 h.2.2.2.2.2.2.2);have d0:=bz g0;have d1:=bz g1;have d2:=bz g2;have d3:=bz g3;have d4:=bz g4;have d5:=bz g5;have d6:=bz g6;have d7:=bW g7;clear g0 g1 g2 g3 g4 g5 g6 g7 hnb;go_enter func50,ntmps50;go_wp2_with fail;refine(H1.out _ _ o1).mono ?_;rintro e2 w2⟨rfl,o2,k2⟩;obtain⟨-,-,-,q1,q2,q3,q4,-⟩:=o2.cs;go_wp2;go_ret;exact⟨by rw[HV.out];rfl,o2.drop,k2.al⟩
  have good:=Le (r:=⟨st,c,p,n,y⟩) hnb ⟨g0,g1,g2,g3,g4,g5,g6,g7⟩;have HV:=az good;have d0:=bz g0;have d1:=bz g1;have d2:=bz g2;have d3:=bz g3;have d4:=bz g4;have d5:=bz g5;have d6:=bz g6;have d7:=bz g7;clear g0 g1 g2 g3 g4 g5 g6 g7 hnb good;go_enter func50,ntmps50;go_wp2_with fail;refine(H1.out _ _ o1).mono ?_;rintro e2 w2⟨rfl,o2,k2⟩;obtain⟨-,-,-,q1,q2,q3,q4,-⟩:=o2.cs;go_wp2;go_ret;exact⟨by rw[HV.out];rfl,o2.drop,k2.al⟩
end
end
section
open Go.Shelf
section
variable{W w w':aF}{R:aJ}
def D8(a:Ru)(h:Hd):Bool:=AR a&&qP h&&(decide (a.st=[])||decide (Wl (dx a.st) (dx h.st)=0))&&(decide (a.cls=-1)||decide (a.cls=h.cls))&&decide (a.first<=h.port)&&decide (h.port<=a.last)
theorem Xq(a b:ByteArray)(ha:a.size<=2000000)(hb:b.size<=2000000)(hT:kF W)(o:Own w (old W::R)):
  Calls prog 174 #[.string a,.string b] w (aR (.int .i64 (Wl a b)) (old W::R) w):=Ez a b ha hb hT o
end
end
section
open Go.Shelf
section
variable{W w w':aF}{R:aJ}
theorem Ia(a:Ru)(b:Hd)(ha:a.st.length<=2000000)(hb:b.st.length<=2000000)(hT:kF W)(o:Own w (old W::R)):
  Calls prog 119 #[ruV a,QX b] w (aR (.bool (D8 a b)) (old W::R) w):=by
 have VA:=az fun(w1:aF)(R1:aJ)(o1:Own w1 R1)=>uL a ha o1;have VB:=az fun(w1:aF)(R1:aJ)(o1:Own w1 R1)=>Bb b hb o1;have CM:=az fun(w1:aF)(R1:aJ)(o1:Own w1 (old W::R1))=>Xq (dx a.st) (dx b.st) (by rw[fI];exact ha) (by rw[fI];exact hb) hT o1;have hP:D8 a b=(AR a&&qP b&&(decide (a.st=[])||decide (Wl (dx a.st) (dx b.st)=0))&&(decide (a.cls=-1)||decide (a.cls=b.cls))&&decide (a.first<=b.port)&&decide (b.port<=a.last)):=rfl;have ea:=Gz (dx a.st);rw[iW]at ea;have o1:=(o.alloc (.cells #[.string (dx a.st),a.cls,a.first,a.last,a.gK] 206)).alloc (.cells #[.string (dx b.st),b.cls,b.port,b.len,b.life] 94);simp only[World.size_alloc]at o1;unfold ruV at VA⊢;unfold QX at VB⊢;generalize AR a=za at*;generalize qP b=zb at*;generalize Wl (dx a.st) (dx b.st)=cm at*;generalize decide (a.st=[])=em at*;generalize dx a.st=SA at*;generalize dx b.st=SB at*;generalize a.cls=ca at*;generalize a.first=fa at*;generalize a.last=la at*;generalize a.gK=ya at*;generalize b.cls=cb at*;generalize b.port=pb at*;generalize b.len=nb at*;generalize b.life=yb at*;obtain⟨F1,f1⟩:=aP ((ca==-1));obtain⟨F2,f2⟩:=aP ((ca==cb));obtain⟨D3,d3⟩:=aP (decide (fa<=pb));obtain⟨D4,d4⟩:=aP (decide (pb<=la));obtain⟨C,ec⟩:=aP ((cm==0));rw[show decide (cm=0)=C from ec,show decide (ca=-1)=F1 from f1,show decide (ca=cb)=F2 from f2,d3,d4]at hP;have HP:=az hP;clear hP;go_enter func119,ntmps119;go_wp2_with fail;refine(VA.out _ _ o1).mono ?_;rintro e1 w1⟨rfl,o2,k2⟩;have k2:=k2.al.al;obtain⟨-,-,p0,p1,p2,p3,p4,-⟩:=o2.cs;obtain⟨-,-,q0,q1,q2,q3,q4,-⟩:=(o2.up 1).cs;cases za
 ·go_wp2;go_ret;exact⟨by rw[HP.out];rfl,o2.drop.drop,k2⟩
 go_wp2_with fail;refine(VB.out _ _ o2).mono ?_;rintro e2 w2⟨rfl,o3,k3⟩;have K3:=k2.trans k3;clear p0 p1 p2 p3 p4 q0 q1 q2 q3 q4;obtain⟨-,-,p0,p1,p2,p3,p4,-⟩:=o3.cs;obtain⟨-,-,q0,q1,q2,q3,q4,-⟩:=(o3.up 1).cs;cases zb
 ·go_wp2;go_ret;exact⟨by rw[HP.out];rfl,o3.drop.drop,K3⟩
 cases em
 ·go_wp2_with fail;refine(CM.out _ _ (o3.up 2)).mono ?_;rintro e3 w3⟨rfl,o4,k4⟩;have o5:=o4.re [1,2];have K5:=K3.trans k4;clear p0 p1 p2 p3 p4 q0 q1 q2 q3 q4;obtain⟨-,-,p0,p1,p2,p3,p4,-⟩:=o5.cs;obtain⟨-,-,q0,q1,q2,q3,q4,-⟩:=(o5.up 1).cs;cases C<;>cases F1<;>cases F2<;>cases D3<;>cases D4;all_goals
   go_wp2;go_ret;exact⟨by rw[HP.out];rfl,o5.drop.drop,K5⟩
 ·cases F1<;>cases F2<;>cases D3<;>cases D4;all_goals
   go_wp2;go_ret;exact⟨by rw[HP.out];cases C<;>rfl,o3.drop.drop,K3⟩
end
end
section
variable{w w':aF}{R:aJ}{b:Nat}
theorem Tb.agv{v:aL}{T:TypeId}{xs:dw}(o:Own w (Tb true v T xs::R)):∃g:Nat,v=.slice (some ⟨g,0,none⟩) xs.length xs.length/\Own w (aH g T xs::R):=by unfold Tb at o;rw[if_pos rfl]at o;obtain⟨g,o⟩:=Own.ex.1 o;obtain⟨h,o2⟩:=Own.pu.1 (Own.st.1 o);exact⟨g,h,o2⟩
def ab1(h:Hd):ByteArray:=⟨#[165,1]⟩++dx [UInt8.ofNat h.cls.toNat]++dx (uQ h.port.toNat)++dx (uQ h.len.toNat)++dx (uQ h.life.toNat)++dx [UInt8.ofNat h.st.length]++dx h.st
def Vh(s:ByteArray):ByteArray:=s++dx (uQ (Vg s.data.toList))
theorem QK(u:Nat)(hu:u<256)(w:aF)(R:aJ)(g:Nat)(o:Own w (aH g 5 [.int .u8 (u:Int)]::R)):
  (convert 131 9 (.slice (some ⟨g,0,none⟩) 1 1)).run prog w=.ok (.string (dx [UInt8.ofNat u])) w:=by
 have e1:((UInt8.ofNat u).toNat:Int)=(u:Int):=by rw[UInt8.toNat_ofNat'];omega
 have o2:Own w (aH g 5 (Xt [UInt8.ofNat u])::R):=by unfold Xt;rw[iD,List.map_nil,e1];exact o
 exact Ii o2 1
theorem TK(h:Hd)(hok:qP h=true)(o:Own w R):Calls prog 31 #[QX h] w (aR (.tuple #[.string (Vh (ab1 h)),aC]) R w):=by
 obtain⟨st,c,p,n,y⟩:=h;have hb:=hok;unfold qP at hb;rw[Bt]at hb;have hb2:=of_decide_eq_true hb.2;have hst:st.length<=24:=by have h1:=hb.1;unfold dG at h1;simp only[Bt,xM]at h1;exact h1.2
 dsimp only at hb2;obtain⟨c,rfl⟩:=Int.eq_ofNat_of_zero_le hb2.1;obtain⟨p,rfl⟩:=Int.eq_ofNat_of_zero_le hb2.2.2.1;obtain⟨n,rfl⟩:=Int.eq_ofNat_of_zero_le (a:=n) (by omega);obtain⟨y,rfl⟩:=Int.eq_ofNat_of_zero_le (a:=y) (by omega);have hc:c<=7:=by omega
 have hp:p<=65535:=by omega
 have hn:n<=4096:=by omega
 have hy:y<=65535:=by omega
 have hV:=Ey ⟨st,c,p,n,y⟩ (by show st.length<=_;omega) (o.alloc (.cells #[.string (dx st),(c:Int),(p:Int),(n:Int),(y:Int)] 94));have oA:Own (w.alloc (.cells #[.string (dx st),(c:Int),(p:Int),(n:Int),(y:Int)] 94)) (aH w.heap.size 94 [.string (dx st),(c:Int),(p:Int),(n:Int),(y:Int)]::R):=o.alloc (.cells #[.string (dx st),(c:Int),(p:Int),(n:Int),(y:Int)] 94);rw[hok]at hV;obtain⟨-,-,b0,b1,b2,b3,b4,-⟩:=oA.cs;have H2:=az fun(w1:aF)(R1:aJ)(o1:Own w1 R1)=>rM p (by omega) o1;have H3:=az fun(w1:aF)(R1:aJ)(o1:Own w1 R1)=>rM n (by omega) o1;have H4:=az fun(w1:aF)(R1:aJ)(o1:Own w1 R1)=>rM y (by omega) o1;have HC:=az (QK c (by omega));have HM:=az (QK st.length (by omega));have hfm:ab1 ⟨st,(c:Int),(p:Int),(n:Int),(y:Int)⟩=⟨#[165,1]⟩++dx [UInt8.ofNat c]++dx (uQ p)++dx (uQ n)++dx (uQ y)++dx [UInt8.ofNat st.length]++dx st:=rfl;rw[hfm];have z2:(dx [UInt8.ofNat c]).size=1:=rfl;have z3:(dx (uQ p)).size=2:=rfl;have z4:(dx (uQ n)).size=2:=rfl;have z5:(dx (uQ y)).size=2:=rfl;have z6:(dx [UInt8.ofNat st.length]).size=1:=rfl;have z7:(dx st).size=st.length:=fI st;have z1:(⟨#[165,1]⟩:ByteArray).size=2:=rfl;unfold QX at*;dsimp only at hV⊢;generalize dx [UInt8.ofNat c]=a2 at*;generalize dx (uQ p)=a3 at*;generalize dx (uQ n)=a4 at*;generalize dx (uQ y)=a5 at*;generalize dx [UInt8.ofNat st.length]=a6 at*;generalize dx st=a7 at*;generalize st.length=m at*;have H5:=az fun(w1:aF)(R1:aJ)(o1:Own w1 R1)=>Ij (⟨#[165,1]⟩++a2++a3++a4++a5++a6++a7) (by simp only[ByteArray.size_append];omega) o1;unfold Vh;obtain⟨a1,ha1⟩:∃a1:ByteArray,a1=⟨#[165,1]⟩:=⟨_,rfl⟩;rw[<-ha1]at z1 H5⊢;obtain⟨F,hF⟩:=aP (a1++a2++a3++a4++a5++a6++a7++dx (uQ (Vg (a1++a2++a3++a4++a5++a6++a7).data.toList)));rw[hF]at H5⊢;have n2:(a1++a2).size=3:=by rw[ByteArray.size_append];omega
 have n3:(a1++a2++a3).size=5:=by rw[ByteArray.size_append];omega
 have n4:(a1++a2++a3++a4).size=7:=by rw[ByteArray.size_append];omega
 have n5:(a1++a2++a3++a4++a5).size=9:=by rw[ByteArray.size_append];omega
 have n6:(a1++a2++a3++a4++a5++a6).size=10:=by rw[ByteArray.size_append];omega
 have q1:IntKind.u8.wrap (c:Int)=(c:Int):=by rw[IntKind.wrap_u8];omega
 have q2:IntKind.u8.wrap (m:Int)=(m:Int):=by rw[IntKind.wrap_u8];omega
 have K0:Calm w (w.alloc (.cells #[.string a7,(c:Int),(p:Int),(n:Int),(y:Int)] 94)):=⟨rfl,rfl,rfl⟩;have HA1:=az ha1;clear hF hb hb2 hok hfm ha1 o;go_enter func31,ntmps31;go_wp2_with fail;refine hV.mono ?_;rintro e1 w1⟨rfl,o1',k1⟩;have K1:Calm w w1:=K0.trans k1;have o1:=o1'.drew;clear hV b0 b1 b2 b3 b4 oA k1 K0;generalize w.heap.size=hb at*;go_upto_region 3 with fail;refine bY (fun L v wc=>Own wc (aH hb 94 [.string a7,(c:Int),(p:Int),(n:Int),(y:Int)]::Tb (L 3) (v 3) 5 [.int .u8 (c:Int)]::Tb (L 22) (v 22) 5 [.int .u8 (m:Int)]::R)/\Calm w wc/\ji (fun i=>([some (.pointer (some ⟨hb,1,none⟩)),some (.int .i64 (c:Int)),some (.int .u8 (c:Int)),none,some (.string (a2)),some (.string (a1++a2)),some (.pointer (some ⟨hb,2,none⟩)),some (.int .i64 (p:Int)),some (.string (a3)),some (.string (a1++a2++a3)),some (.pointer (some ⟨hb,3,none⟩)),some (.int .i64 (n:Int)),some (.string (a4)),some (.string (a1++a2++a3++a4)),some (.pointer (some ⟨hb,4,none⟩)),some (.int .i64 (y:Int)),some (.string (a5)),some (.string (a1++a2++a3++a4++a5)),some (.pointer (some ⟨hb,0,none⟩)),some (.string (a7)),some (.int .i64 (m:Int)),some (.int .u8 (m:Int)),none,some (.string (a6)),some (.string (a1++a2++a3++a4++a5++a6)),some (.pointer (some ⟨hb,0,none⟩)),some (.string (a7)),some (.string (a1++a2++a3++a4++a5++a6++a7)),some (.string (F)),some (.string (F)),some (.int .i64 0)]:List (Option aL)).getD i none) L v) (by kernel_rfl) (by kernel_rfl) (by kernel_rfl) ?h0 ?step ?fin;case h0=>exact⟨(Tb.no (Tb.no o1)).re [2,0,1],aD K1,ji.no⟩
 case step=>
  refine⟨au.mk rfl ?_,au.mk rfl ?_,au.mk rfl ?_,au.mk rfl ?_,au.mk rfl ?_,au.mk rfl ?_,au.mk rfl ?_,au.mk rfl ?_,au.mk rfl ?_,au.mk rfl ?_,au.mk rfl ?_,au.mk rfl ?_,au.mk rfl ?_,au.mk rfl ?_,au.mk rfl ?_,au.mk rfl ?_,au.mk rfl ?_,au.mk rfl ?_,au.mk rfl ?_,au.mk rfl ?_,au.mk rfl ?_,au.mk rfl ?_,au.mk rfl ?_,au.mk rfl ?_,au.mk rfl ?_,au.mk rfl ?_,au.mk rfl ?_,au.mk rfl ?_,au.mk rfl ?_,au.mk rfl ?_,au.mk rfl ?_,trivial⟩;all_goals intro L v ac wc hL hd hA hI K' hK
  all_goals obtain⟨oD,kD,hv⟩:=hI
  all_goals simp[Region.binds]at hd
  all_goals have HV:=az hv
  all_goals clear hv
  ·have c1:=hA.base 1 (by rfl);simp only[o_,pJ,rO,p8]at c1;go_simp;exact hK.out _ _ ⟨oD,kD,HV.out.put 0 dS⟩
  ·have h0:L 0=true:=by simp[hd]
   have c7:ac.tmps[7]?.getD undef=.pointer (some ⟨hb,1,none⟩):=(hA.get 0 h0).trans (HV.out 0 _ rfl h0);have cc:=oD.cell 1;go_simp;exact hK.out _ _ ⟨oD,kD,HV.out.put 1 dS⟩
  ·have h1:L 1=true:=by simp[hd]
   have c8:ac.tmps[8]?.getD undef=.int .i64 (c:Int):=(hA.get 1 h1).trans (HV.out 1 _ rfl h1);go_simp;exact hK.out _ _ ⟨oD,kD,HV.out.put 2 dS⟩
  ·have h2:L 2=true:=by simp[hd]
   have c9:ac.tmps[9]?.getD undef=.int .u8 (c:Int):=(hA.get 2 h2).trans (HV.out 2 _ rfl h2);go_simp;rw[hL]at oD;exact hK.out _ _ ⟨(Tb.new (oD.up 1) _ ((oD.up 1).alloc (.cells #[.int .u8 (c:Int)] 5))).re [1,0],⟨kD.os,kD.tape,kD.output⟩,HV.out.put 3 (fun _ h=>by cases h)⟩
  ·have h3:L 3=true:=by simp[hd]
   have c10:=hA.get 3 h3;rw[h3]at oD;obtain⟨g,hg,oG⟩:=Tb.agv (oD.up 1);rw[hg]at c10;have hcv:=HC.out _ _ _ oG;go_simp;rw[<-h3]at oD;exact hK.out _ _ ⟨oD,kD,HV.out.put 4 dS⟩
  ·have h4:L 4=true:=by simp[hd]
   have c11:ac.tmps[11]?.getD undef=.string (a2):=(hA.get 4 h4).trans (HV.out 4 _ rfl h4);go_simp;rw[<-HA1.out];first|(rw[if_neg (by omega)];go_simp)|skip
   exact hK.out _ _ ⟨oD,kD,HV.out.put 5 dS⟩
  ·have c1:=hA.base 1 (by rfl);simp only[o_,pJ,rO,p8]at c1;go_simp;exact hK.out _ _ ⟨oD,kD,HV.out.put 6 dS⟩
  ·have h6:L 6=true:=by simp[hd]
   have c13:ac.tmps[13]?.getD undef=.pointer (some ⟨hb,2,none⟩):=(hA.get 6 h6).trans (HV.out 6 _ rfl h6);have cc:=oD.cell 2;go_simp;exact hK.out _ _ ⟨oD,kD,HV.out.put 7 dS⟩
  ·have h7:L 7=true:=by simp[hd]
   have c14:ac.tmps[14]?.getD undef=.int .i64 (p:Int):=(hA.get 7 h7).trans (HV.out 7 _ rfl h7);go_simp;refine(H2.out _ _ oD).mono ?_;rintro _ w3⟨rfl,o3,k3⟩;exact hK.out _ _ ⟨o3,kD.trans k3,HV.out.put 8 dS⟩
  ·have h5:L 5=true:=by simp[hd]
   have c12:ac.tmps[12]?.getD undef=.string (a1++a2):=(hA.get 5 h5).trans (HV.out 5 _ rfl h5);have h8:L 8=true:=by simp[hd]
   have c15:ac.tmps[15]?.getD undef=.string (a3):=(hA.get 8 h8).trans (HV.out 8 _ rfl h8);go_simp;first|(rw[if_neg (by omega)];go_simp)|skip
   exact hK.out _ _ ⟨oD,kD,HV.out.put 9 dS⟩
  ·have c1:=hA.base 1 (by rfl);simp only[o_,pJ,rO,p8]at c1;go_simp;exact hK.out _ _ ⟨oD,kD,HV.out.put 10 dS⟩
  ·have h10:L 10=true:=by simp[hd]
   have c17:ac.tmps[17]?.getD undef=.pointer (some ⟨hb,3,none⟩):=(hA.get 10 h10).trans (HV.out 10 _ rfl h10);have cc:=oD.cell 3;go_simp;exact hK.out _ _ ⟨oD,kD,HV.out.put 11 dS⟩
  ·have h11:L 11=true:=by simp[hd]
   have c18:ac.tmps[18]?.getD undef=.int .i64 (n:Int):=(hA.get 11 h11).trans (HV.out 11 _ rfl h11);go_simp;refine(H3.out _ _ oD).mono ?_;rintro _ w3⟨rfl,o3,k3⟩;exact hK.out _ _ ⟨o3,kD.trans k3,HV.out.put 12 dS⟩
  ·have h9:L 9=true:=by simp[hd]
   have c16:ac.tmps[16]?.getD undef=.string (a1++a2++a3):=(hA.get 9 h9).trans (HV.out 9 _ rfl h9);have h12:L 12=true:=by simp[hd]
   have c19:ac.tmps[19]?.getD undef=.string (a4):=(hA.get 12 h12).trans (HV.out 12 _ rfl h12);go_simp;first|(rw[if_neg (by omega)];go_simp)|skip
   exact hK.out _ _ ⟨oD,kD,HV.out.put 13 dS⟩
  ·have c1:=hA.base 1 (by rfl);simp only[o_,pJ,rO,p8]at c1;go_simp;exact hK.out _ _ ⟨oD,kD,HV.out.put 14 dS⟩
  ·have J2:L 14=true:=by simp[hd]
   have c21:ac.tmps[21]?.getD undef=.pointer (some ⟨hb,4,none⟩):=(hA.get 14 J2).trans (HV.out 14 _ rfl J2);have cc:=oD.cell 4;go_simp;exact hK.out _ _ ⟨oD,kD,HV.out.put 15 dS⟩
  ·have h15:L 15=true:=by simp[hd]
   have EU:ac.tmps[22]?.getD undef=.int .i64 (y:Int):=(hA.get 15 h15).trans (HV.out 15 _ rfl h15);go_simp;refine(H4.out _ _ oD).mono ?_;rintro _ w3⟨rfl,o3,k3⟩;exact hK.out _ _ ⟨o3,kD.trans k3,HV.out.put 16 dS⟩
  ·have EK:L 13=true:=by simp[hd]
   have c20:ac.tmps[20]?.getD undef=.string (a1++a2++a3++a4):=(hA.get 13 EK).trans (HV.out 13 _ rfl EK);have h16:L 16=true:=by simp[hd]
   have c23:ac.tmps[23]?.getD undef=.string (a5):=(hA.get 16 h16).trans (HV.out 16 _ rfl h16);go_simp;first|(rw[if_neg (by omega)];go_simp)|skip
   exact hK.out _ _ ⟨oD,kD,HV.out.put 17 dS⟩
  ·have c1:=hA.base 1 (by rfl);simp only[o_,pJ,rO,p8]at c1;go_simp;exact hK.out _ _ ⟨oD,kD,HV.out.put 18 dS⟩
  ·have h18:L 18=true:=by simp[hd]
   have DK:ac.tmps[25]?.getD undef=.pointer (some ⟨hb,0,none⟩):=(hA.get 18 h18).trans (HV.out 18 _ rfl h18);have cc:=oD.cell 0;go_simp;exact hK.out _ _ ⟨oD,kD,HV.out.put 19 dS⟩
  ·have h19:L 19=true:=by simp[hd]
   have Tm:ac.tmps[26]?.getD undef=.string (a7):=(hA.get 19 h19).trans (HV.out 19 _ rfl h19);go_simp;exact hK.out _ _ ⟨oD,kD,HV.out.put 20 dS⟩
  ·have h20:L 20=true:=by simp[hd]
   have Ev:ac.tmps[27]?.getD undef=.int .i64 (m:Int):=(hA.get 20 h20).trans (HV.out 20 _ rfl h20);go_simp;exact hK.out _ _ ⟨oD,kD,HV.out.put 21 dS⟩
  ·have h21:L 21=true:=by simp[hd]
   have c28:ac.tmps[28]?.getD undef=.int .u8 (m:Int):=(hA.get 21 h21).trans (HV.out 21 _ rfl h21);go_simp;rw[hL]at oD;exact hK.out _ _ ⟨(Tb.new (oD.up 2) _ ((oD.up 2).alloc (.cells #[.int .u8 (m:Int)] 5))).re [1,2,0],⟨kD.os,kD.tape,kD.output⟩,HV.out.put 22 (fun _ h=>by cases h)⟩
  ·have h22:L 22=true:=by simp[hd]
   have c29:=hA.get 22 h22;rw[h22]at oD;obtain⟨g,hg,oG⟩:=Tb.agv (oD.up 2);rw[hg]at c29;have hcv:=HM.out _ _ _ oG;go_simp;rw[<-h22]at oD;exact hK.out _ _ ⟨oD,kD,HV.out.put 23 dS⟩
  ·have h17:L 17=true:=by simp[hd]
   have c24:ac.tmps[24]?.getD undef=.string (a1++a2++a3++a4++a5):=(hA.get 17 h17).trans (HV.out 17 _ rfl h17);have h23:L 23=true:=by simp[hd]
   have c30:ac.tmps[30]?.getD undef=.string (a6):=(hA.get 23 h23).trans (HV.out 23 _ rfl h23);go_simp;first|(rw[if_neg (by omega)];go_simp)|skip
   exact hK.out _ _ ⟨oD,kD,HV.out.put 24 dS⟩
  ·have c1:=hA.base 1 (by rfl);simp only[o_,pJ,rO,p8]at c1;go_simp;exact hK.out _ _ ⟨oD,kD,HV.out.put 25 dS⟩
  ·have h25:L 25=true:=by simp[hd]
   have c32:ac.tmps[32]?.getD undef=.pointer (some ⟨hb,0,none⟩):=(hA.get 25 h25).trans (HV.out 25 _ rfl h25);have cc:=oD.cell 0;go_simp;exact hK.out _ _ ⟨oD,kD,HV.out.put 26 dS⟩
  ·have h24:L 24=true:=by simp[hd]
   have c31:ac.tmps[31]?.getD undef=.string (a1++a2++a3++a4++a5++a6):=(hA.get 24 h24).trans (HV.out 24 _ rfl h24);have h26:L 26=true:=by simp[hd]
   have c33:ac.tmps[33]?.getD undef=.string (a7):=(hA.get 26 h26).trans (HV.out 26 _ rfl h26);go_simp;first|(rw[if_neg (by omega)];go_simp)|skip
   exact hK.out _ _ ⟨oD,kD,HV.out.put 27 dS⟩
  ·have h27:L 27=true:=by simp[hd]
   have c34:ac.tmps[34]?.getD undef=.string (a1++a2++a3++a4++a5++a6++a7):=(hA.get 27 h27).trans (HV.out 27 _ rfl h27);go_simp;refine(H5.out _ _ oD).mono ?_;rintro _ w3⟨rfl,o3,k3⟩;exact hK.out _ _ ⟨o3,kD.trans k3,HV.out.put 28 dS⟩
  ·have h28:L 28=true:=by simp[hd]
   have c35:ac.tmps[35]?.getD undef=.string (F):=(hA.get 28 h28).trans (HV.out 28 _ rfl h28);go_simp;exact hK.out _ _ ⟨oD,kD,HV.out.put 29 dS⟩
  ·go_simp;exact hK.out _ _ ⟨oD,kD,HV.out.put 30 dS⟩
 case fin=>rintro L v wc hall⟨oD,kD,hv⟩;have e28:v 29=.string F:=(hv 29 _ rfl (hall 29 (by decide)));have e29:v 30=.int .i64 0:=hv 30 _ rfl (hall 30 (by decide));clear hall hv;simp only[jV,Act.put,List.setIfInBounds_toArray,List.set_cons_zero,List.set_cons_succ];rw[e28,e29];go_wp2;go_ret2;exact⟨rfl,oD.drop.drop.drop,kD⟩
def hd0:Hd:=⟨[],0,0,0,0⟩
def xK(s:qR):Hd:=⟨(s.take (s.length-2)).drop 10,(s.getD 2 0).toNat,zB s 3,zB s 5,zB s 7⟩
def dh(s:qR):Hd×Int:=
 if s.length<12 then(hd0,9)
 else if s.take 2≠[165,1]then(hd0,11)
 else if s.length<12+(s.getD 9 0).toNat then(hd0,9)
 else if 12+(s.getD 9 0).toNat<s.length then(hd0,11)
 else if zB s (s.length-2)≠Vg (s.take (s.length-2))then(hd0,10)
 else if qP (xK s)=true then(xK s,0)
 else(hd0,1)
def pkV(x:Hd×Int):aL:=.tuple #[QX x.1,x.2]
theorem nH{b0:Nat}{h:Hd}{e:Int}(o:Own w (aH b0 94 (hdC h)::R))(tmps:Array aL)(hp:tmps.getD 2 undef=.pointer (some ⟨b0,0,none⟩))(hq:tmps.getD 3 undef=↑e):
  (results f63 tmps).run prog w=.ok (pkV (h,e)) w:=by
 obtain⟨-,-,g0,g1,g2,g3,g4,-⟩:=o.cs;rw[results_cell_tmp rfl,hp,hq];unfold hdC at*;go_simp;rfl
theorem Nb(s:ByteArray)(hs:s.size<=1000)(o:Own w R):Calls prog 63 #[.string s] w (aR (pkV (dh s.data.toList)) R w):=by
 have hl:s.data.toList.length=s.size:=(Lib.size_eq s).symm;have oA:Own (w.alloc (.cells #[.string s] 9)) (aH w.heap.size 9 [.string s]::R):=o.alloc (.cells #[.string s] 9);have oB:Own ((w.alloc (.cells #[.string s] 9)).alloc (.cells #[.string ⟨#[]⟩,aC,aC,aC,aC] 94)) (aH (w.alloc (.cells #[.string s] 9)).heap.size 94 (hdC hd0)::aH w.heap.size 9 [.string s]::R):=oA.alloc (.cells #[.string ⟨#[]⟩,aC,aC,aC,aC] 94);rw[World.size_alloc]at oB;have K0:Calm w ((w.alloc (.cells #[.string s] 9)).alloc (.cells #[.string ⟨#[]⟩,aC,aC,aC,aC] 94)):=⟨rfl,rfl,rfl⟩;have c0:=(oB.up 1).cell 0;by_cases h12:s.size<12
 ·have d1:=bz (show(s.size:Int)<12 by omega);have hP:dh s.data.toList=(hd0,9):=by unfold dh;rw[if_pos (by omega)]
  rw[hP];obtain⟨f0,g0,-⟩:=oB.cs;go_enter func63,ntmps63;go_wp2;exact bodyPost_ret (v:=pkV (hd0,9)) (nH oB _ rfl rfl) rfl ⟨rfl,oB.drop.drop,K0⟩
 have d1:=bW (show¬((s.size:Int)<12)by omega);have z9:9<s.size:=by omega
 have z9':(9:Int)<(s.size:Int):=by omega
 have z2':(2:Int)<=(s.size:Int):=by omega
 obtain⟨e,he⟩:∃e,s.size=e+2:=⟨s.size-2,by omega⟩;have HE:=az he;have we:IntKind.i64.wrap ((s.size:Int)-2)=(e:Int):=by rw[gB];omega
 have we2:wrap64 ((s.size:Int)-2)=(e:Int):=by unfold wrap64;omega
 have DZ:s.data.toList.getD 9 0=s[9]'z9:=by rw[Eb,WA s 9 z9];rfl
 have hu:=(s[9]'z9).toNat_lt
 have w9:IntKind.i64.wrap ((s[9]'z9).toNat:Int)=((s[9]'z9).toNat:Int):=by rw[gB];omega
 have w9b:IntKind.i64.wrap (12+((s[9]'z9).toNat:Int))=12+((s[9]'z9).toNat:Int):=by rw[gB];omega
 have w9c:wrap64 (12+((s[9]'z9).toNat:Int))=12+((s[9]'z9).toNat:Int):=by unfold wrap64;omega
 have ht2:(s.extract 0 2).toList=s.data.toList.take 2:=by rw[Lib.extract_toList];rfl
 obtain⟨f0,g0,b0,b1,b2,b3,b4,-⟩:=Own.cs (vs:=.string ⟨#[]⟩::_::_::_::_::_) oB;change World.cell? _ ⟨w.heap.size+1,1,none⟩=some ↑aC at b1;change World.cell? _ ⟨w.heap.size+1,2,none⟩=some ↑aC at b2;change World.cell? _ ⟨w.heap.size+1,3,none⟩=some ↑aC at b3;change World.cell? _ ⟨w.heap.size+1,4,none⟩=some ↑aC at b4;by_cases hm:s.data.toList.take 2=[165,1];rotate_left
 ·have hP:=az (show dh s.data.toList=(hd0,11)by unfold dh;rw[if_neg (by omega),if_pos hm]);have e2:((s.extract 0 2).toList==[165,1])=false:=by rw[ht2,Ec];exact hm
  clear hm ht2 he hl DZ;go_enter func63,ntmps63;go_wp2;exact bodyPost_ret (v:=pkV (hd0,11)) (nH oB _ rfl rfl) rfl ⟨by rw[hP.out],oB.drop.drop,K0⟩
 have e2:((s.extract 0 2).toList==[165,1])=true:=by rw[ht2,beq_iff_eq];exact hm
 by_cases ha:s.size<12+(s[9]'z9).toNat
 ·have hP:=az (show dh s.data.toList=(hd0,9)by unfold dh;rw[if_neg (by omega),if_neg (by rw[hm];decide),DZ,if_pos (by omega)])
  have d3:=bz (show(s.size:Int)<12+((s[9]'z9).toNat:Int)by omega)
  have n3:(s.size:Int)<12+((s[9]'z9).toNat:Int):=by omega
  clear hm ht2 he hl DZ;go_enter func63,ntmps63;go_wp2;exact bodyPost_ret (v:=pkV (hd0,9)) (nH oB _ rfl rfl) rfl ⟨by rw[hP.out],oB.drop.drop,K0⟩
 have d3:=bW (show¬((s.size:Int)<12+((s[9]'z9).toNat:Int))by omega)
 have n3:¬(s.size:Int)<12+((s[9]'z9).toNat:Int):=by omega
 by_cases hb:12+(s[9]'z9).toNat<s.size
 ·have hP:=az (show dh s.data.toList=(hd0,11)by unfold dh;rw[if_neg (by omega),if_neg (by rw[hm];decide),DZ,if_neg (by omega),if_pos (by omega)])
  have d4:=bz (show 12+((s[9]'z9).toNat:Int)<(s.size:Int)by omega)
  have n4:12+((s[9]'z9).toNat:Int)<(s.size:Int):=by omega
  clear hm ht2 he hl DZ;go_enter func63,ntmps63;go_wp2;exact bodyPost_ret (v:=pkV (hd0,11)) (nH oB _ rfl rfl) rfl ⟨by rw[hP.out],oB.drop.drop,K0⟩
 have d4:=bW (show¬(12+((s[9]'z9).toNat:Int)<(s.size:Int))by omega)
 have n4:¬12+((s[9]'z9).toNat:Int)<(s.size:Int):=by omega
 have hx0:(s.extract 0 e).data.toList=s.data.toList.take e:=Lib.extract_from_zero s e;have hN:=fun(i:Nat)(hi:i+1<s.size)(w1:aF)(R1:aJ)(o1:Own w1 (aH w.heap.size 9 [.string s]::R1))=>TJ s i hi (by omega) o1;have hC:=fun(w1:aF)(R1:aJ)(o1:Own w1 R1)=>TI (s.extract 0 e) (by rw[ByteArray.size_extract];omega) o1;rw[hx0]at hC;have hN1:=hN e (by omega) _ _ (oB.up 1).drew;have he':(e:Int)<=(s.size:Int):=by omega
 have ajd:e<=s.size:=by omega
 have HH:=az (show dh s.data.toList=if zB s.data.toList e≠Vg (s.data.toList.take e)then(hd0,10)else if qP (xK s.data.toList)=true then(xK s.data.toList,0)else(hd0,1)by
  unfold dh;rw[if_neg (by omega),if_neg (by rw[hm];decide),DZ,if_neg (by omega),if_neg (by omega),hl,he,Nat.add_sub_cancel])
 have HL:=az hl;generalize hq1:zB s.data.toList e=q1 at*;generalize hq2:Vg (s.data.toList.take e)=q2 at*;clear hm ht2 he hl DZ ha hb hx0 hq1 hq2 h12;go_enter func63,ntmps63;go_upto_region 12 with fail
 go_region_held3(fun w'=>w'.cell? ⟨w.heap.size,0,none⟩=some (.string s)) (go_keep) (first
  |(go_at_call 115;(with_reducible refine Calls.mono hN1 ?_);rintro _ w1⟨rfl,o1,k1⟩;have k0:=o1.cell 0;have hC1:=hC _ _ o1)
  |(go_at_call 116;(with_reducible refine Calls.mono hC1 ?_);rintro _ w2⟨rfl,o2,k2⟩;have k0':=o2.cell 0))
 have K2:Calm w w2:=((aD K0).trans k1).trans k2;have o3:Own w2 (aH (w.heap.size+1) 94 (hdC hd0)::aH w.heap.size 9 [.string s]::R):=o2.swap;clear hN1 hC hC1 k0 k0' o1 o2 k1 k2 b0 b1 b2 b3 b4 f0 g0 c0 oA oB K0;have c0:=(o3.up 1).cell 0;obtain⟨f0,g0,b0,b1,b2,b3,b4,-⟩:=Own.cs (vs:=.string ⟨#[]⟩::_::_::_::_::_) o3;change World.cell? _ ⟨w.heap.size+1,1,none⟩=some ↑aC at b1;change World.cell? _ ⟨w.heap.size+1,2,none⟩=some ↑aC at b2;change World.cell? _ ⟨w.heap.size+1,3,none⟩=some ↑aC at b3;change World.cell? _ ⟨w.heap.size+1,4,none⟩=some ↑aC at b4;by_cases hq:q1=q2;rotate_left
 ·have hP:=az (show dh s.data.toList=(hd0,10)by rw[HH.out,if_pos hq]);have dq:((q1:Int)!=(q2:Int))=true:=by rw[bne_iff_ne];omega
  have oS:=((((o3.setCell 0 (.string ⟨#[]⟩)).setCell 1 aC).setCell 2 aC).setCell 3 aC).setCell 4 aC;have KS:=ay (x:=⟨w.heap.size+1,4,none⟩) (v:=.int .i64 0) (ay (x:=⟨w.heap.size+1,3,none⟩) (v:=.int .i64 0) (ay (x:=⟨w.heap.size+1,2,none⟩) (v:=.int .i64 0) (ay (x:=⟨w.heap.size+1,1,none⟩) (v:=.int .i64 0) (ay (x:=⟨w.heap.size+1,0,none⟩) (v:=.string ⟨#[]⟩) K2))));clear hq;go_wp2;exact bodyPost_ret (v:=pkV (hd0,10)) (nH oS _ rfl rfl) rfl ⟨by rw[hP.out],oS.drop.drop,KS⟩
 have HQ:=az (show dh s.data.toList=if qP (xK s.data.toList)=true then(xK s.data.toList,0)else(hd0,1)by rw[HH.out,if_neg (by simpa using hq)]);have dq:((q1:Int)!=(q2:Int))=false:=by subst hq;exact bne_self_eq_false _
 have z2:2<s.size:=by omega
 have z2':(2:Int)<(s.size:Int):=by omega
 have hg2:s.data.toList.getD 2 0=s[2]'z2:=by rw[Eb,WA s 2 z2];rfl
 have u2:=(s[2]'z2).toNat_lt
 have w2':IntKind.i64.wrap ((s[2]'z2).toNat:Int)=((s[2]'z2).toNat:Int):=by rw[gB];omega
 have t10:(10:Int)<=(e:Int):=by have:=HE.out;omega
 have aje:10<=e:=by omega
 have hst:s.extract 10 e=dx ((s.data.toList.take e).drop 10):=by rw[Lib.extract_eq,List.drop_take];rfl
 have hpk:xK s.data.toList=⟨(s.data.toList.take e).drop 10,((s[2]'z2).toNat:Int),zB s.data.toList 3,zB s.data.toList 5,zB s.data.toList 7⟩:=by unfold xK;rw[HL.out,HE.out,Nat.add_sub_cancel,hg2]
 have HN3:=az (hN 3 (by omega));have HN5:=az (hN 5 (by omega));have HN7:=az (hN 7 (by omega));have Xv:=fun(w1:aF)(R1:aJ)(o1:Own w1 R1)=>Bb (xK s.data.toList) (by rw[hpk];show((s.data.toList.take e).drop 10).length<=2000000;rw[List.length_drop,rZ];omega) o1;have QS:=az hpk;have HST:=az hst;rw[hpk]at Xv;unfold QX at Xv;dsimp only at Xv;rw[<-hst]at Xv;generalize zB s.data.toList 3=m3 at*;generalize zB s.data.toList 5=m5 at*;generalize zB s.data.toList 7=m7 at*;clear hpk hst hg2 hN hq;go_upto_region 14 with fail
 refine bY (fun L v wc=>Own wc (Pb (L 13) (L 14) (v 13) 94 [.string ⟨#[]⟩,aC,aC,aC,aC] [.string (s.extract 10 e),((s[2]'z2).toNat:Int),(m3:Int),(m5:Int),(m7:Int)]::aH w.heap.size 9 [.string s]::aH (w.heap.size+1) 94 (hdC hd0)::R)/\Calm w wc/\ji (fun i=>([some (.string s),some (.int .i64 (e:Int)),some (.string (s.extract 10 e)),some (.string s),some (.int .u8 ((s[2]'z2).toNat:Int)),some (.int .i64 ((s[2]'z2).toNat:Int)),some (.func (.func 115) #[] #[w.heap.size]),some (.int .i64 (m3:Int)),some (.func (.func 115) #[] #[w.heap.size]),some (.int .i64 (m5:Int)),some (.func (.func 115) #[] #[w.heap.size]),some (.int .i64 (m7:Int)),some (.agg #[.string (s.extract 10 e),((s[2]'z2).toNat:Int),(m3:Int),(m5:Int),(m7:Int)]),none,none]:List (Option aL)).getD i none) L v) (by kernel_rfl) (by kernel_rfl) (by kernel_rfl) ?h0 ?step ?fin
 case h0=>exact⟨Pb.no (o3.swap).drew,aD K2,ji.no⟩
 case step=>
  refine⟨au.mk rfl ?_,au.mk rfl ?_,au.mk rfl ?_,au.mk rfl ?_,au.mk rfl ?_,au.mk rfl ?_,au.mk rfl ?_,au.mk rfl ?_,au.mk rfl ?_,au.mk rfl ?_,au.mk rfl ?_,au.mk rfl ?_,au.mk rfl ?_,au.mk rfl ?_,au.mk rfl ?_,trivial⟩;all_goals intro L v Gg wc hL hd hA hI K' hK
  all_goals obtain⟨oD,kD,hv⟩:=hI
  all_goals simp[Region.binds]at hd
  all_goals have HV:=az hv
  all_goals clear hv
  ·have c1_:=hA.base 1 (by rfl);simp only[o_,pJ,rO,p8]at c1_;have cc:=(oD.up 1).cell 0;go_simp;exact hK.out _ _ ⟨oD,kD,HV.out.put 0 dS⟩
  ·have c5_:=hA.base 5 (by rfl);simp only[o_,pJ,rO,p8]at c5_;go_simp;exact hK.out _ _ ⟨oD,kD,HV.out.put 1 dS⟩
  ·have Nz:L 0=true:=by simp[hd]
   have af1:=hA.gt HV 0 Nz;have NA:L 1=true:=by simp[hd]
   have af2:=hA.gt HV 1 NA;go_simp;exact hK.out _ _ ⟨oD,kD,HV.out.put 2 dS⟩
  ·have c1_:=hA.base 1 (by rfl);simp only[o_,pJ,rO,p8]at c1_;have cc:=(oD.up 1).cell 0;go_simp;exact hK.out _ _ ⟨oD,kD,HV.out.put 3 dS⟩
  ·have RU:L 3=true:=by simp[hd]
   have ahN:=hA.gt HV 3 RU;go_simp;exact hK.out _ _ ⟨oD,kD,HV.out.put 4 dS⟩
  ·have V4:L 4=true:=by simp[hd]
   have ahS:=hA.gt HV 4 V4;go_simp;exact hK.out _ _ ⟨oD,kD,HV.out.put 5 dS⟩
  ·have c4_:=hA.base 4 (by rfl);simp only[o_,pJ,rO,p8]at c4_;go_simp;exact hK.out _ _ ⟨oD,kD,HV.out.put 6 dS⟩
  ·have V6:L 6=true:=by simp[hd]
   have ahQ:=hA.gt HV 6 V6;go_simp;refine(HN3.out _ _ (oD.up 1)).mono ?_;rintro _ w3_⟨rfl,Xd,Xe⟩;exact hK.out _ _ ⟨Xd.swap,kD.trans Xe,HV.out.put 7 dS⟩
  ·have c4_:=hA.base 4 (by rfl);simp only[o_,pJ,rO,p8]at c4_;go_simp;exact hK.out _ _ ⟨oD,kD,HV.out.put 8 dS⟩
  ·have UN:L 8=true:=by simp[hd]
   have ajf:=hA.gt HV 8 UN;go_simp;refine(HN5.out _ _ (oD.up 1)).mono ?_;rintro _ w3_⟨rfl,Xd,Xe⟩;exact hK.out _ _ ⟨Xd.swap,kD.trans Xe,HV.out.put 9 dS⟩
  ·have c4_:=hA.base 4 (by rfl);simp only[o_,pJ,rO,p8]at c4_;go_simp;exact hK.out _ _ ⟨oD,kD,HV.out.put 10 dS⟩
  ·have zh:L 10=true:=by simp[hd]
   have ajg:=hA.gt HV 10 zh;go_simp;refine(HN7.out _ _ (oD.up 1)).mono ?_;rintro _ w3_⟨rfl,Xd,Xe⟩;exact hK.out _ _ ⟨Xd.swap,kD.trans Xe,HV.out.put 11 dS⟩
  ·have RQ:L 2=true:=by simp[hd]
   have ahM:=hA.gt HV 2 RQ;have V5:L 5=true:=by simp[hd]
   have ahP:=hA.gt HV 5 V5;have Ma:L 7=true:=by simp[hd]
   have ajh:=hA.gt HV 7 Ma;have XW:L 9=true:=by simp[hd]
   have ahp:=hA.gt HV 9 XW;have ZG:L 11=true:=by simp[hd]
   have aji:=hA.gt HV 11 ZG;go_simp;exact hK.out _ _ ⟨oD,kD,HV.out.put 12 dS⟩
  ·rw[hL]at oD;go_simp;exact hK.out _ _ ⟨Pb.new oD,⟨kD.os,kD.tape,kD.output⟩,HV.out.put 13 (fun _ h=>by cases h)⟩
  ·have SY:L 13=true:=by simp[hd]
   have c7_:=hA.get 13 SY;have GX:L 12=true:=by simp[hd]
   have ajj:=hA.gt HV 12 GX;rw[SY,hL]at oD;obtain⟨gN,hgN,oN⟩:=Pb.val oD;rw[hgN]at c7_;have hgN:=az hgN;obtain⟨nf_,nl_,n0_,n1_,n2_,n3_,n4_,-⟩:=oN.cs;go_simp
   have oY:=((((oN.setCell 0 (.string (s.extract 10 e))).setCell 1 ((s[2]'z2).toNat:Int)).setCell 2 (m3:Int)).setCell 3 (m5:Int)).setCell 4 (m7:Int)
   have oQ:=Pb.put (l:=L 13) (v:=v 13) (zs:=[.string ⟨#[]⟩,aC,aC,aC,aC]) oY SY hgN.out;exact hK.out undef _ ⟨oQ,ay (ay (ay (ay (ay kD)))),HV.out.put 14 (fun _ h=>by cases h)⟩
 case fin=>
  rintro L v wc hall⟨oD,kD,hv⟩;rw[hall 13 (by decide),hall 14 (by decide)]at oD;obtain⟨gN,hgN,oN⟩:=Pb.got oD;clear hv hall oD o3 K2;simp only[jV,Act.put,List.setIfInBounds_toArray,List.set_cons_zero,List.set_cons_succ];rw[hgN];obtain⟨-,-,n0,n1,n2,n3',n4',-⟩:=oN.cs;have hV:=Xv _ _ oN;clear Xv hgN;have DV:=az (show qP (xK s.data.toList)=qP (xK s.data.toList)from rfl);obtain⟨Z,hZ⟩:=aP (qP (xK s.data.toList));rw[QS.out]at hZ;rw[hZ]at hV;rw[<-QS.out]at hZ;have HZ:=az hZ;clear hZ DV c0 b0 b1 b2 b3 b4 f0 g0;go_wp2_with fail;refine hV.mono ?_;rintro _ w9⟨rfl,o9,k9⟩;clear hV n0 n1 n2 n3' n4' oN;obtain⟨-,-,n0,n1,n2,n3',n4',-⟩:=o9.cs;obtain⟨f0,g0,b0,b1,b2,b3,b4,-⟩:=Own.cs (vs:=.string ⟨#[]⟩::_::_::_::_::_) (o9.up 2);change World.cell? _ ⟨w.heap.size+1,1,none⟩=some ↑aC at b1;change World.cell? _ ⟨w.heap.size+1,2,none⟩=some ↑aC at b2;change World.cell? _ ⟨w.heap.size+1,3,none⟩=some ↑aC at b3;change World.cell? _ ⟨w.heap.size+1,4,none⟩=some ↑aC at b4;have K9:=kD.trans k9;cases Z with
  |true=>
   have hP:=az (show dh s.data.toList=(xK s.data.toList,0)by rw[HQ.out,if_pos HZ.out])
   have oS:=(((((o9.up 2).setCell 0 (.string (s.extract 10 e))).setCell 1 ((s[2]'z2).toNat:Int)).setCell 2 (m3:Int)).setCell 3 (m5:Int)).setCell 4 (m7:Int)
   have KS:=ay (x:=⟨w.heap.size+1,4,none⟩) (v:=.int .i64 (m7:Int)) (ay (x:=⟨w.heap.size+1,3,none⟩) (v:=.int .i64 (m5:Int)) (ay (x:=⟨w.heap.size+1,2,none⟩) (v:=.int .i64 (m3:Int)) (ay (x:=⟨w.heap.size+1,1,none⟩) (v:=.int .i64 ((s[2]'z2).toNat:Int)) (ay (x:=⟨w.heap.size+1,0,none⟩) (v:=.string (s.extract 10 e)) K9))))
   go_wp2
   have hcl:([.string (s.extract 10 e),((s[2]'z2).toNat:Int),(m3:Int),(m5:Int),(m7:Int)]:dw)=hdC (xK s.data.toList):=by rw[QS.out];unfold hdC;dsimp only;rw[<-HST.out]
   have oF:=(show Own _ (aH (w.heap.size+1) 94 [.string (s.extract 10 e),((s[2]'z2).toNat:Int),(m3:Int),(m5:Int),(m7:Int)]::_)from oS)
   rw[hcl]at oF;exact bodyPost_ret (v:=pkV (xK s.data.toList,0)) (nH oF _ rfl rfl) rfl ⟨by rw[hP.out],oF.drop.drop.drop,KS⟩
  |false=>have hP:=az (show dh s.data.toList=(hd0,1)by rw[HQ.out,if_neg (by rw[HZ.out];decide)]);have oS:=(((((o9.up 2).setCell 0 (.string ⟨#[]⟩)).setCell 1 aC).setCell 2 aC).setCell 3 aC).setCell 4 aC;have KS:=ay (x:=⟨w.heap.size+1,4,none⟩) (v:=.int .i64 0) (ay (x:=⟨w.heap.size+1,3,none⟩) (v:=.int .i64 0) (ay (x:=⟨w.heap.size+1,2,none⟩) (v:=.int .i64 0) (ay (x:=⟨w.heap.size+1,1,none⟩) (v:=.int .i64 0) (ay (x:=⟨w.heap.size+1,0,none⟩) (v:=.string ⟨#[]⟩) K9))));go_wp2;exact bodyPost_ret (v:=pkV (hd0,1)) (nH oS _ rfl rfl) rfl ⟨by rw[hP.out],oS.drop.drop.drop,KS⟩
end
end Go.Proofs.YtfejhikpfhgbeaaGreatDoor
