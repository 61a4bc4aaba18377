import Derived.Test.YtfejhikpfhgbeaaGreatDoorMachineIdleI
import Derived.Test.YtfejhikpfhgbeaaGreatDoorMachineIdleK
set_option maxHeartbeats 25600000
set_option maxRecDepth 100000
set_option linter.all false
namespace Go.Proofs.YtfejhikpfhgbeaaGreatDoor
open Go.Proofs.Tryz
open Go.RowKit
open SP
structure Head where
 f:Int
 len:Int
 good:Bool
structure Ord where
 el:bO
 tg:bO
 tm:Int
structure Cq where
 R:St
 D:List Tg
 C:Ord
 X:Ord
 n:List (Int×(Int×Int))
structure LM where
 ch:Int
 sv:Int
 why:Int
instance:DecidableEq LM:=fun a b=>decidable_of_iff (a.ch=b.ch/\a.sv=b.sv/\a.why=b.why) ⟨fun⟨h1,h2,h3⟩=>by cases a;cases b;simp_all,fun h=>by rw[h];exact⟨rfl,rfl,rfl⟩⟩
def nQ(c:LM):aL:=.agg #[c.ch,c.sv,c.why]
def XV:LM:=⟨0,0,0⟩
def gu:LM:=⟨-1,-1,6⟩
def nR(o:Ord)(l:bO):Ord:=⟨qC l [],lZ o.el o.tm l o.tg,o.tm⟩
def nS(aI:Int)(o:Ord)(f len:Int):Int×Ord:=
 if xU o.el o.tg f len≠0 then(xU o.el o.tg f len,o)else
 if l6 o.el o.tg o.tm f len<aI then(0,⟨o.el,g_ o.el o.tg f len,mZ o.tg o.tm f⟩)else
 (0,⟨o.el,lower (l6 o.el o.tg o.tm f len) (g_ o.el o.tg f len),mZ o.tg o.tm f-l6 o.el o.tg o.tm f len⟩)
def tZ(D:List Tg)(f:Int):Int:=((cB D f).map (·.s)).getD 0
def mJ(n:List (Int×(Int×Int)))(f:Int):Int×Int:=(a_ n f).getD (0,0)
def jh(L:List Tg)(H:List Head):Bool:=decide (H.map (·.f)=L.map (·.f))&&H.all fun h=>decide (1<=h.len/\h.len<=4096)
def Dm(D:List Tg)(p:Head->Bool)(H:List Head):bO:=((H.zip (bM D)).filter fun x=>p x.1).map (·.2)
def nT(D:List Tg)(H:List Head):bO:=Dm D (fun h=>h.good) H
def Ab(D:List Tg)(H:List Head):bO:=Dm D (fun h=>h.good&&decide (0<tZ D h.f)) H
def bC(H:List Head)(f:Int):Head:=(H.find? fun h=>h.f==f).getD ⟨0,0,false⟩
def rU(num den:Int)(c:Int×Int):Bool:=decide (c.2*den<=num*c.1)
def l9(num den:Int)(s:Cq)(H:List Head)(some_:Bool):LM:=
 let k:=(dD s.R.L).1;let can:=(bC H k).good
 if(can&&(!decide (tZ s.D k<0)||rU num den (mJ s.n k)))=true then⟨k,k,1⟩
 else if 0<=bJ s.C.el s.C.tg then⟨k,bJ s.C.el s.C.tg,if can=true then 2 else 3⟩
 else if can=true then⟨k,k,1⟩
 else if some_=true then⟨k,if 0<=bJ s.X.el s.X.tg then bJ s.X.el s.X.tg else 0,4⟩
 else gu
def gI(aI:Int)(C X:Ord)(c:LM)(len:Int):Int×Ord×Ord:=
 if c.why=2\/c.why=3 then((nS aI C c.sv len).1,(nS aI C c.sv len).2,X)
 else if c.why=4 then((nS aI X c.sv len).1,C,(nS aI X c.sv len).2)
 else(0,C,X)
def lD(num den:Int)(s:Cq)(c:LM):Bool:=decide (tZ s.D c.ch<0)&&(decide (c.why=2)||(decide (c.why=1)&&rU num den (mJ s.n c.ch)))
def yM(D:List Tg)(n:List (Int×(Int×Int))):List (Int×(Int×Int)):=n.filter fun x=>decide (tZ D x.1<0)
def FP(n:List (Int×(Int×Int)))(c:LM)(len:Int):List (Int×(Int×Int)):=bA n c.ch ((mJ n c.ch).1+len,if c.ch=c.sv then(mJ n c.ch).2+len else(mJ n c.ch).2)
def j_(num den aI:Int)(s:Cq)(H:List Head):LM×Int×Cq:=
 if jh s.R.L H=false then(XV,1,s)
 else if H=[]then(XV,5,s)
 else
  let C:=nR s.C (Ab s.D H);let X:=nR s.X (nT s.D H);let c:=l9 num den {s with C:=C,X:=X} H (!(nT s.D H).isEmpty)
  if c=gu then(c,0,{s with C:=C,X:=X})
  else
   let len:=(bC H c.sv).len;let r:=bF aI s.R c.ch len
   if r.1≠0 then(XV,r.1,s)
   else
    let o:=gI aI C X c len
    if o.1≠0 then(XV,o.1,s)
    else
     let d:=j4 s.D c.ch c.sv len
     if d.1≠0 then(XV,d.1,s)
     else(c,0,⟨r.2,d.2,o.2.1,o.2.2,yM d.2 (if lD num den s c=true then FP s.n c len else s.n)⟩)
section
variable{W w w':aF}{R:aJ}
def Dp(h:Head):dw:=[h.f,h.len,.bool h.good]
def JP(h:Head):aL:=.agg #[h.f,h.len,.bool h.good]
theorem BR(h:Head):(Dp h).length=3:=rfl
def eH(Sp:SP)(a:aY)(H:List Head):Prop:=∀(w:aF)(R:aJ),Own w (Sp::R)->∀(i:Nat)(h:Head),H[i]?=some h->
 ∃g,a=some ⟨g,0,none⟩/\w.cell? ⟨g,i*3,none⟩=some ↑h.f/\w.cell? ⟨g,i*3+1,none⟩=some ↑h.len/\w.cell? ⟨g,i*3+2,none⟩=some (.bool h.good)
theorem Dq{T:TypeId}(a:aY)(n c:Nat)(H:List Head)(hn:n=H.length):eH (slc T 3 a n c (flat Dp H)) a H:=by
 intro w R o i t ht;have:=(eU.1 ht).1;obtain⟨g,h,hc,hf,hg⟩:=o.aG (by omega);refine⟨g,h,?_,?_,?_⟩
 ·exact hc (i*3+0) _ (aB BR H i 0 t ht (by omega))
 ·exact hc (i*3+1) _ (aB BR H i 1 t ht (by omega))
 ·exact hc (i*3+2) _ (aB BR H i 2 t ht (by omega))
def yN(f:Int):Nat->List Head->Int
 |_,[]=>-1
 |i,h::l=>if h.f=f then(i:Int)else yN f (i+1) l
theorem VV{f:Int}{H:List Head}{i:Nat}{h:Head}(e:H[i]?=some h):yN f i (H.drop i)=if h.f=f then(i:Int)else yN f (i+1) (H.drop (i+1)):=by obtain⟨h1,h2⟩:=eU.1 e;rw[List.drop_eq_getElem_cons h1,h2];rfl
theorem OO(h:Head){f:Int}{p:Nat}(o:Own w (aH p 3 [f]::R)):
  Calls prog 380 #[JP h,p] w (aR (.bool (h.f==f)) (aH p 3 [f]::R) w):=by
 unfold JP;obtain⟨-,hl,c,-⟩:=o.cs;go_enter func380,ntmps380;go_wp2;go_ret;exact⟨rfl,(o.alloc _).drop,⟨rfl,rfl,rfl⟩⟩
def Uu(Sp:SP)(p:Nat)(f:Int)(H:List Head)(R:aJ)(w:aF)(v:aL)(wr:aF):Prop:=
 ∃i:Nat,v=↑(i:Int)/\i<=H.length/\yN f 0 H=yN f i (H.drop i)/\Own wr (aH p 3 [f]::Sp::R)/\Calm w wr
theorem FU{Sp:SP}{a:aY}{n c p:Nat}{f:Int}{H:List Head}(h1:eH Sp a H)(hn:n=H.length)(hl:n<=1000)(o:Own w (aH p 3 [f]::Sp::R)):
  Calls prog 379 #[.slice a n c,.func (.func 380) #[] #[p]] w (aR (.int .i64 (yN f 0 H)) (aH p 3 [f]::Sp::R) w):=by
 obtain⟨X,hX⟩:=aP (yN f 0 H);have hT:Uu Sp p f H R w (.int .i64 0) w:=⟨0,rfl,by omega,rfl,o,Calm.refl w⟩;have Hn:=az hn;have HX:=az hX;rw[hX];clear hn hX;go_enter func379,ntmps379;go_wp2;go_loopw[8] (fun v wr=>Uu Sp p f H R w v wr) (fun v _=>n-(Lib.intOf v).toNat);case atStart=>exact hT
 case round=>
  clear hT;obtain⟨i,rfl,hi,hid,oR,kR⟩:=hrel;have HI:=az hid;clear hid;by_cases hlt:i<n
  ·obtain⟨h,hh⟩:∃h,H[i]?=some h:=⟨_,cZ (by have:=Hn.out;omega)⟩;obtain⟨g,rfl,d0,d1,d2⟩:=h1 _ _ (oR.up 1) i _ hh;have HST:=az (VV (f:=f) hh);clear hh;have hc:=OO h oR;by_cases he:h.f=f
   ·have hb:(h.f==f)=true:=by simpa using he
    rw[hb]at hc;have hv:X=(i:Int):=by rw[<-HX.out,HI.out,HST.out,if_pos he]
    have HV:=az hv;clear he hv;go_wp2_with fail;refine hc.mono ?_;rintro e1 w1⟨rfl,o1,k1⟩;clear hc;go_wp2;go_ret;exact⟨by rw[HV.out];rfl,o1,Calm.trans kR k1⟩
   ·have hb:(h.f==f)=false:=by simpa using he
    rw[hb]at hc;have hv:yN f 0 H=yN f (i+1) (H.drop (i+1)):=by rw[HI.out,HST.out,if_neg he]
    have HV:=az hv;clear he hv;go_wp2_with fail;refine hc.mono ?_;rintro e1 w1⟨rfl,o1,k1⟩;clear hc;go_wp2;go_roundw;case rel=>exact⟨i+1,by go_num,by have:=Hn.out;omega,HV.out,o1,Calm.trans kR k1⟩
    case measure=>simp[Lib.intOf];omega
  ·have hn:=Hn.out;have hv:X=-1:=by rw[<-HX.out,HI.out,List.drop_eq_nil_of_le (by omega)];rfl
   have HV:=az hv;clear hv hn;go_wp2;go_ret;exact⟨by rw[HV.out];rfl,oR,kR⟩
theorem gJ{Sp:SP}{a:aY}{n c:Nat}{f:Int}{H:List Head}(h1:eH Sp a H)(hn:n=H.length)(hl:n<=1000)(o:Own w (Sp::R)):
  Calls prog 362 #[.slice a n c,f] w (aR (.int .i64 (yN f 0 H)) (Sp::R) w):=by
 have oA:Own (w.alloc (.cells #[f] 3)) (aH w.heap.size 3 [f]::Sp::R):=o.alloc _;have hi:=FU (c:=c) h1 hn hl oA;generalize yN f 0 H=X at*;have HI:=az hi;clear h1 hn hl hi o;go_enter func362,ntmps362;go_wp2_with fail;refine HI.out.mono ?_;rintro e1 w1⟨rfl,o1,k1⟩;go_wp2;go_ret;exact⟨rfl,o1.drop,⟨k1.os,k1.tape,k1.output⟩⟩
def qE(h:Head)(t:Tg):Bool:=h.f==t.f&&(decide (1<=h.len)&&decide (h.len<=4096))
def ko:List Head->List Tg->Bool
 |[],[]=>true
 |h::H,t::L=>qE h t&&ko H L
 |_,_=>false
theorem BU:∀{H:List Head}{L:List Tg},H.length≠L.length->ko H L=false
 |[],[],h=>absurd rfl h
 |[],_::_,_=>rfl
 |_::_,[],_=>rfl
 |h::H,t::L,hl=>by have:=BU (H:=H) (L:=L) (by simpa using hl);simp[ko,this]
theorem FV:∀(H:List Head)(L:List Tg),ko H L=jh L H
 |[],[]=>by simp[ko,jh]
 |[],_::_=>by simp[ko,jh]
 |_::_,[]=>by simp[ko,jh]
 |h::H,t::L=>by have:=FV H L;simp only[ko,this,jh,qE,iD,List.all_cons,List.cons.injEq];by_cases h1:h.f=t.f<;>by_cases h2:H.map (·.f)=L.map (·.f)<;>by_cases h3:1<=h.len<;>by_cases h4:h.len<=4096<;>simp[h1,h2,h3,h4]
theorem FW{H:List Head}{L:List Tg}{i:Nat}{h:Head}{t:Tg}(e1:H[i]?=some h)(e2:L[i]?=some t):ko (H.drop i) (L.drop i)=(qE h t&&ko (H.drop (i+1)) (L.drop (i+1))):=by obtain⟨h1,h2⟩:=eU.1 e1;obtain⟨g1,g2⟩:=eU.1 e2;rw[List.drop_eq_getElem_cons h1,h2,List.drop_eq_getElem_cons g1,g2];rfl
theorem Rv(h:Head)(t:Tg)(o:Own w R):
  Calls prog 373 #[JP h,iL t] w (aR (.bool (qE h t)) R w):=by
 unfold JP iL;by_cases h1:h.f=t.f
 ·by_cases h2:1<=h.len
  ·by_cases h3:h.len<=4096
   ·have e:qE h t=true:=by simp[qE,h1,h2,h3]
    rw[e];clear e;go_enter func373,ntmps373;go_wp2;go_ret;exact⟨rfl,((o.alloc _).drop.alloc _).drop,⟨rfl,rfl,rfl⟩⟩
   ·have e:qE h t=false:=by simp[qE,h3]
    rw[e];clear e;go_enter func373,ntmps373;go_wp2;go_ret;exact⟨rfl,((o.alloc _).drop.alloc _).drop,⟨rfl,rfl,rfl⟩⟩
  ·have e:qE h t=false:=by simp[qE,h2]
   rw[e];clear e;go_enter func373,ntmps373;go_wp2;go_ret;exact⟨rfl,((o.alloc _).drop.alloc _).drop,⟨rfl,rfl,rfl⟩⟩
 ·have e:qE h t=false:=by simp[qE,h1]
  have hb:(h.f==t.f)=false:=by simpa using h1
  rw[e];clear e;go_enter func373,ntmps373;go_wp2;go_ret;exact⟨rfl,((o.alloc _).drop.alloc _).drop,⟨rfl,rfl,rfl⟩⟩
def LP(S1 S2:SP)(H:List Head)(L:List Tg)(R:aJ)(w:aF)(v:aL)(wr:aF):Prop:=
 ∃i:Nat,v=↑(i:Int)/\i<=H.length/\ko H L=ko (H.drop i) (L.drop i)/\Own wr (S1::S2::R)/\Calm w wr
theorem FX{S1 S2:SP}{a a':aY}{n c n' c':Nat}{H:List Head}{L:List Tg}(h1:eH S1 a H)(h2:BC S2 a' L)(hn:n=H.length)(hn':n'=L.length)(hl:n<=1000)(o:Own w (S1::S2::R)):
  Calls prog 371 #[.slice a n c,.slice a' n' c',.func (.func 373) #[] #[]] w (aR (.bool (ko H L)) (S1::S2::R) w):=by
 obtain⟨X,hX⟩:=aP (ko H L);rw[hX];by_cases hne:n=n'
 ·subst hne;have hT:LP S1 S2 H L R w (.int .i64 0) w:=⟨0,rfl,by omega,rfl,o,Calm.refl w⟩;have Hn:=az hn;have Hn':=az hn';have HX:=az hX;clear hn hX hn';go_enter func371,ntmps371;go_wp2;go_loopw[17] (fun v wr=>LP S1 S2 H L R w v wr) (fun v _=>n-(Lib.intOf v).toNat);case atStart=>exact hT
  case round=>
   clear hT;obtain⟨i,rfl,hi,hid,oR,kR⟩:=hrel;have HI:=az hid;clear hid;by_cases hlt:i<n
   ·obtain⟨h,hh⟩:∃h,H[i]?=some h:=⟨_,cZ (by have:=Hn.out;omega)⟩;obtain⟨t,ht⟩:∃t,L[i]?=some t:=⟨_,cZ (by have:=Hn'.out;omega)⟩;obtain⟨g,rfl,d0,d1,d2⟩:=h1 _ _ oR i _ hh;obtain⟨g',so,rfl,e0,e1,e2⟩:=h2 _ _ (oR.up 1) i _ ht;have HST:=az (FW hh ht);have oA:=(oR.alloc (.cells #[h.f,h.len,.bool h.good] 294)).drop;obtain⟨g2,so2,hq,f0,f1,f2⟩:=h2 _ _ (oA.up 1) i _ ht;cases hq;have oB:=((oR.alloc (.cells #[h.f,h.len,.bool h.good] 294)).drop.alloc (.cells #[t.f,t.w,t.s] 484)).drop;have hc:=Rv h t oB;clear hh ht;by_cases he:qE h t=true
    ·rw[he]at hc;have hv:ko H L=ko (H.drop (i+1)) (L.drop (i+1)):=by rw[HI.out,HST.out,he];rfl
     have HV:=az hv;clear he hv;go_wp2_with fail;refine hc.mono ?_;rintro e1 w1⟨rfl,o1,k1⟩;clear hc;go_wp2;go_roundw;case rel=>exact⟨i+1,by go_num,by have:=Hn.out;omega,HV.out,o1,Calm.trans kR ⟨k1.os,k1.tape,k1.output⟩⟩
     case measure=>simp[Lib.intOf];omega
    ·rw[Bool.not_eq_true]at he;rw[he]at hc;have hv:X=false:=by rw[<-HX.out,HI.out,HST.out,he];rfl
     have HV:=az hv;clear he hv;go_wp2_with fail;refine hc.mono ?_;rintro e1 w1⟨rfl,o1,k1⟩;clear hc;go_wp2;go_ret;exact⟨by rw[HV.out];rfl,o1,Calm.trans kR ⟨k1.os,k1.tape,k1.output⟩⟩
   ·have hn:=Hn.out;have hn':=Hn'.out;have hv:X=true:=by rw[<-HX.out,HI.out,List.drop_eq_nil_of_le (by omega),List.drop_eq_nil_of_le (by omega)];rfl
    have HV:=az hv;clear hv hn hn';go_wp2;go_ret;exact⟨by rw[HV.out];rfl,oR,kR⟩
 ·have hv:X=false:=by rw[<-hX];exact BU (by omega)
  have HV:=az hv;clear hv hX hn hn';go_enter func371,ntmps371;go_wp2;go_ret;exact⟨by rw[HV.out];rfl,o,Calm.refl w⟩
end
section
variable{W w w':aF}{R:aJ}{b rp lp cp xp nb N:Nat}{num den aI:Int}{S:St}{D:List Tg}
abbrev zF(b:Nat)(num den:Int)(rp lp cp xp nb:Nat):SP:=aH b 154 [num,den,rp,lp,cp,xp,.map (some nb)]
theorem VW{S1:SP}{a:aY}{n c:Nat}{H:List Head}(h1:eH S1 a H)(hn:n=H.length)(hl:n<=1000)(o:Own w (zF b num den rp lp cp xp nb::bU rp aI S::S1::R)):
  Calls prog 356 #[b,.slice a n c] w (aR (.bool (jh S.L H)) (zF b num den rp lp cp xp nb::bU rp aI S::S1::R) w):=by
 obtain⟨-,hlt,-,-,c2,-⟩:=o.cs;rw[<-FV];obtain⟨X,hX⟩:=aP (ko H S.L);rw[hX];have HX:=az hX;have Hn:=az hn;clear hX hn;go_enter func356,ntmps356;go_wp2_with fail;refine(l_ (o.re [1,0,2])).mono ?_;rintro e1 w1⟨a',c',rfl,o1,k1⟩;have he:=FX (c:=c) (n':=S.L.length) (c':=c') h1 (qm a' S.L.length c' S.L rfl) Hn.out rfl hl (o1.re [3,0,1,2]);rw[HX.out]at he;go_wp2_with fail;refine he.mono ?_;rintro e2 w2⟨rfl,o2,k2⟩;clear he;go_wp2;go_ret;exact⟨rfl,(o2.re [1,3,2,0]).drop,Calm.trans k1 k2⟩
theorem Uv(D:List Tg)(f:Int):∃z,YH D f=.tuple #[(tZ D f:Int),.bool z]:=by unfold YH tZ;cases cB D f<;>exact⟨_,rfl⟩
theorem jR(f:Int)(o:Own w (zF b num den rp lp cp xp nb::fD lp N D::R)):
  Calls prog 354 #[b,f] w (aR (.bool (decide (tZ D f<0))) (zF b num den rp lp cp xp nb::fD lp N D::R) w):=by
 obtain⟨-,hlt,-,-,-,c3,-⟩:=o.cs;obtain⟨z,hz⟩:=Uv D f;have hc:=Di f (o.up 1);rw[hz]at hc;clear hz;generalize tZ D f=X at*;go_enter func354,ntmps354;go_wp2_with fail;refine hc.mono ?_;rintro e1 w1⟨rfl,o1,k1⟩;clear hc;go_wp2;go_ret;exact⟨rfl,o1.up 1,k1⟩
end
section
variable{W w w':aF}{R:aJ}{b rp lp cp xp nb N:Nat}{num den aI:Int}{S:St}{D:List Tg}{m:List (Int×(Int×Int))}
def pV(x:Int×Int):aL:=.agg #[x.1,x.2]
theorem Tryz.zeroCnt(w:aF):(zeroValue 482).run prog w=.ok (.agg #[aC,aC]) w:=by kernel_rfl
theorem acB(o:Own w (bB pV nb m::R))(k:Int):
  (Instr.lookup 151 (.map (some nb)) (.int .i64 k) false).run prog w=.ok (pV (mJ m k)) w:=by
 rw[bI underlying151 underlying3 Tryz.zeroCnt o k false];unfold mJ;cases a_ m k<;>rfl
theorem aa7(x y:Int):(gT x y<=0)=(x<=y):=by
 unfold gT;by_cases h1:x<y
 ·rw[if_pos h1];simp;omega
 ·by_cases h2:y<x
  ·rw[if_neg h1,if_pos h2];simp;omega
  ·rw[if_neg h1,if_neg h2];simp;omega
theorem Uw{x:Nat}(h:x<9223372036854775808):IntKind.u64.wrap (x:Int)=(x:Int):=by rw[IntKind.wrap_u64];omega
theorem Ux{x y:Nat}(hx:x<1099511627776)(hy:y<4194304):x*y<9223372036854775808:=by have h1:x*y<=1099511627776*4194304:=Nat.mul_le_mul (by omega) (by omega);omega
theorem uj{nu de cr cl:Nat}(f:Int)(hnu:nu<4194304)(hde:de<4194304)(hcr:cr<1099511627776)(hcl:cl<1099511627776)(hc:mJ m f=((cr:Int),(cl:Int)))
  (o:Own w (zF b (nu:Int) (de:Int) rp lp cp xp nb::bB pV nb m::R)):
  Calls prog 364 #[b,f] w (aR (.bool (rU (nu:Int) (de:Int) (mJ m f))) (zF b (nu:Int) (de:Int) rp lp cp xp nb::bB pV nb m::R) w):=by
 have hlk:=acB (o.up 1) f;obtain⟨-,hlt,-,-,-,-,-,-,c6,-⟩:=o.cs;have oA:=o.alloc (.cells #[(cr:Int),(cl:Int)] 482);have oB:=(oA.up 1);obtain⟨-,-,d0,d1,-⟩:=oB.cs;rw[hc]at hlk⊢;have w1:=Uw (x:=cl) (by omega);have w2:=Uw (x:=de) (by omega);have w3:=Uw (x:=nu) (by omega);have w4:=Uw (x:=cr) (by omega);have hq:=fun W(o':Own W (blk w.heap.size (.cells #[(cr:Int),(cl:Int)] 482)::zF b (nu:Int) (de:Int) rp lp cp xp nb::bB pV nb m::R))=>Rx cl de nu cr (by omega) (by omega) (by omega) (by omega) (Ux hcl hde) (by rw[Nat.mul_comm];exact Ux hcr hnu) o';have hv:rU (nu:Int) (de:Int) ((cr:Int),(cl:Int))=decide (gT ((cl*de:Nat):Int) ((nu*cr:Nat):Int)<=0):=by unfold rU;rw[decide_eq_decide,aa7];push_cast;exact Iff.rfl
 rw[hv];clear hv hc;generalize gT ((cl*de:Nat):Int) ((nu*cr:Nat):Int)=X at*;unfold pV at hlk;go_enter func364,ntmps364;go_wp2;refine wp_region_tail 18 (by kernel_rfl) (by kernel_rfl) ?_;simp only[xe,List.take_zero,yB,List.drop_zero];repeat still_step
 refine wpStill_nil ?_;go_wp2_with fail;refine(hq _ oA.drew).mono ?_;rintro e1 w5⟨rfl,o1,k1⟩;go_wp2;go_ret;exact⟨rfl,o1.drop,⟨k1.os,k1.tape,k1.output⟩⟩
end
section
variable{α:Type}{f:α->aL}{w w':aF}{R:aJ}{tb ib:Nat}{m:List (Int×α)}{S:Int->Bool}{cur:Option Int}
variable{P:Program}{t kt et:TypeId}
theorem FY(k:Int):∀(m:List (Int×α))(i:Nat),midx m k=some i->dW m k=m.eraseIdx i
 |[],_,h=>by simp[midx]at h
 |(k',v')::m,i,h=>by
  by_cases hk:k=k'
  ·subst hk;simp[midx]at h;subst h;simp[dW]
  ·simp only[midx,if_neg hk,Option.map_eq_some_iff]at h;obtain⟨j,hj,rfl⟩:=h;simp[dW,hk,FY k m j hj]
theorem FZ(ty:TypeId)(ht:P.underlying t=some (.map kt et))(hk:P.underlying kt=some (.int .i64))(o:Own w (SP.fZ f tb ib m S cur::R))(k:Int)(hin:(a_ m k).isSome=true)(ts:Array TypeId)(hts:ts[0]?=some t):
  ∃w',(Builtin.delete_ ts ty #[.map (some tb),.int .i64 k]).run P w=.ok (.tuple #[]) w'/\Own w' (SP.fZ f tb ib (dW m k) S none::R)/\Calm w w':=by
 obtain⟨es,clock,seen,h1,h2,h3,h4,h5,o⟩:=Own.fZ.1 o;have hb:=o.blk;have hm:=iZ m k;have hf:=fG (P:=P) hk h1 k w;obtain⟨h6,h7⟩:=yC (f:=f) k es.toList m h1;obtain⟨x,E9⟩:=Option.isSome_iff_exists.1 hin;obtain⟨i,uS⟩:∃i,midx m k=some i:=by rw[hin]at hm;exact Option.isSome_iff_exists.1 hm
 simp[uS,E9]at hf;have e1:(es.eraseIdxIfInBounds i).toList=es.toList.eraseIdx i:=by simp
 refine⟨_,?_,Own.fZ.2 ⟨es.eraseIdxIfInBounds i,clock,seen,?_,?_,?_,?_,(fun k h=>by cases h),o.lq _⟩,⟨rfl,rfl,rfl⟩⟩
 ·simp[Builtin.delete_,hts,run_underlying ht,getObj,setObj,Sem.run,hb,dH hk,hf]
 ·rw[e1];exact h6 i uS
 ·rw[e1];exact h2.sublist (List.eraseIdx_sublist _ _)
 ·rw[e1];exact fun e he=>h3 e ((List.eraseIdx_sublist _ _).subset he)
 ·rw[e1,FY k m i uS];intro j e y he hy;rw[List.getElem?_eraseIdx]at he hy;split at he
  ·rename_i hlt;rw[if_pos hlt]at hy;exact h4 j e y he hy
  ·rename_i hlt;rw[if_neg hlt]at hy;exact h4 (j+1) e y he hy
theorem Af{ops:Array Oper}{rest:List Oper}{op:Oper}{A:Act}{Q:Exit->Act->aF->Prop}(hgd:op.guard=none)(x y:Operand)
  (hop:op.op=.call {callee:=.builtin .delete,args:=#[x,y],argTypes:=#[t,kt]})
  (ht:P.underlying t=some (.map kt et))(hk:P.underlying kt=some (.int .i64))(o:Own w (SP.fZ f tb ib m S cur::R))(k:Int)(hin:(a_ m k).isSome=true)
  (hx:A.eval x=.map (some tb))(hy:A.eval y=↑k)
  (h:∀w',Own w' (SP.fZ f tb ib (dW m k) S none::R)->Calm w w'->wpList P ops Q rest (A.put op.dst (.tuple #[])) w'):wpList P ops Q (op::rest) A w:=by
 refine wpList_plain hgd fun K hK=>?_;obtain⟨w',hr,h2,h3⟩:=FZ op.type ht hk o k hin #[t,kt] rfl;unfold Oper.wp execOp;simp only[hop,resolve,invoke,builtin,Sem.run_bind,Sem.run_pure,Result.andThen_ok,List.map_toArray,iD,List.map_nil,hx,hy,hr];exact hK _ _ (h w' h2 h3)
theorem yO:∀{m:List (Int×α)}(k:Int),bL m->dW m k=m.filter fun x=>!(x.1==k)
 |[],_,_=>rfl
 |(k',v)::m,k,hu=>by
  have hu':k'∉m.map (·.1)/\bL m:=by unfold bL at*;simpa using hu
  by_cases hk:k=k'
  ·subst hk;have:m.filter (fun x=>!(x.1==k))=m:=List.filter_eq_self.2 fun x hx=>by have:x.1≠k:=fun e=>hu'.1 (gW.2 ⟨x,hx,e⟩);simpa using this
   simp[dW,this]
  ·have ih:=yO k hu'.2;have:(k'==k)=false:=by simpa using fun e=>hk e.symm
   simp[dW,hk,ih,this]
theorem VY{m m':List (Int×α)}(h:m'.Sublist m)(S:Int->Bool):vN m' S<=vN m S:=by unfold vN;exact((h.map _).filter _).length_le
def left(p S:Int->Bool)(n:List (Int×α)):List (Int×α):=n.filter fun x=>!(S x.1)||p x.1
theorem JR{p S:Int->Bool}{n:List (Int×α)}(h:bL n):bL (left p S n):=by unfold bL at*;exact h.sublist ((List.filter_sublist).map _)
theorem Ry(p:Int->Bool)(n:List (Int×α)):left p (fun _=>false) n=n:=List.filter_eq_self.2 fun _ _=>rfl
theorem VZ{p S:Int->Bool}{n:List (Int×α)}{k:Int}(h:p k=true):left p (fun z=>S z||z==k) n=left p S n:=by
 unfold left;refine List.filter_congr fun x _=>?_;dsimp only;by_cases e:x.1=k
 ·rw[e,h];simp
 ·have:(x.1==k)=false:=by simpa using e
  rw[this];simp
theorem YO{p S:Int->Bool}{n:List (Int×α)}{k:Int}(hu:bL n)(h:p k=false):left p (fun z=>S z||z==k) n=dW (left p S n) k:=by
 rw[yO k (JR hu)];unfold left;rw[List.filter_filter];refine List.filter_congr fun x _=>?_;dsimp only;by_cases e:x.1=k
 ·rw[e,h];simp
 ·have:(x.1==k)=false:=by simpa using e
  rw[this];simp
theorem left_done{p S:Int->Bool}{n:List (Int×α)}(h:∀x∈left p S n,S x.1=true):left p S n=n.filter fun x=>p x.1:=by
 unfold left at*;refine List.filter_congr fun x hx=>?_;cases hS:S x.1 with
 |true=>simp
 |false=>have:=h x (List.mem_filter.2 ⟨hx,by simp[hS]⟩);rw[hS]at this;cases this
end
section
variable{W w w':aF}{R:aJ}{b rp lp cp xp nb N:Nat}{num den aI:Int}{S:St}{D:List Tg}{m:List (Int×(Int×Int))}
def YP(b:Nat)(num den:Int)(rp lp cp xp nb N:Nat)(D:List Tg)(p:Int->Bool)(ib:Nat)(m:List (Int×(Int×Int)))(R:aJ)(w:aF)(wr:aF):Prop:=
 ∃(S:Int->Bool)(cur:Option Int),Own wr (fZ pV nb ib (left p S m) S cur::zF b num den rp lp cp xp nb::fD lp N D::R)/\Calm w wr
theorem F3(hu:bL m)(o:Own w (zF b num den rp lp cp xp nb::fD lp N D::bB pV nb m::R)):
  Calls prog 337 #[b] w (aR (.tuple #[]) (zF b num den rp lp cp xp nb::fD lp N D::bB pV nb (yM D m)::R) w):=by
 obtain⟨-,hlt,-,-,-,-,-,-,c6,-⟩:=o.cs;obtain⟨p,hp⟩:∃p:Int->Bool,p=fun k=>decide (tZ D k<0):=⟨_,rfl⟩;have hres:yM D m=m.filter fun x=>p x.1:=by rw[hp];rfl
 have hlp:∀k,decide (tZ D k<0)=p k:=fun k=>by rw[hp]
 rw[hres];obtain⟨w5,VE,o9,k9⟩:=gL (P:=prog) underlying151 (o.up 2);have hT:YP b num den rp lp cp xp nb N D p w.heap.size m R w w5:=⟨fun _=>false,none,by rw[Ry];exact o9,k9⟩;generalize hib:w.heap.size=ib at*;have HU:=az hu;have HP:=az hlp;clear o9 k9 hib hres hp hlp hu;go_enter func337,ntmps337;go_wp2;go_loopw[2] (fun _ wr=>YP b num den rp lp cp xp nb N D p ib m R w wr) (fun _ wr=>iE wr nb ib);case atStart=>exact hT
 case round=>
  clear hT VE c6 o hlt;obtain⟨S,cur,oR,kR⟩:=hrel;have BH:=JR (p:=p) (S:=S) HU.out;rcases iM (P:=prog) 0 BH oR with⟨hd,hr⟩|⟨x,w6,hx,hS,hr,jN,k10⟩
  ·have hall:=left_done hd;have oD:=oR.lV;rw[hall]at oD;clear hd hall BH;go_wp2;go_end0;exact⟨rfl,oD.re [1,2,0],kR⟩
  ·have hmv:=eO BH hx;have hen:=gP (P:=prog) BH jN hmv;have hlt2:=qi hx hS;have hw:=oR.iE;obtain⟨k,t⟩:=x;dsimp only at hS hmv hen jN hlt2 hr;have hc:=jR k (jN.re [1,2,0]);rw[HP.out]at hc;have HLT:=az hlt2;have HW:=az hw;have HX:=az hx;have HUM:=az BH;clear hlt2 hw hx BH;unfold pV at hr hen;cases hpk:p k with
   |true=>
    rw[hpk]at hc;have QS:=az hpk;clear hpk;go_wp2_with fail;refine hc.mono ?_;rintro e1 w7⟨rfl,o7,k7⟩;clear hc;go_wp2;go_roundw;case rel=>exact⟨fun z=>S z||z==k,some k,by rw[VZ QS.out];exact o7.re [2,0,1],⟨(k7.os.trans k10.os).trans kR.os,(k7.tape.trans k10.tape).trans kR.tape,(k7.output.trans k10.output).trans kR.output⟩⟩
    case measure=>rw[(o7.re [2,0,1]).iE,HW.out];exact HLT.out
   |false=>
    rw[hpk]at hc;have QS:=az hpk;clear hpk;go_wp2_with fail;refine hc.mono ?_;rintro e1 w7⟨rfl,o7,k7⟩;clear hc;obtain⟨-,hb7,-,-,-,-,-,-,d6,-⟩:=o7.cs;go_wp2_with(at_delete;refine Af rfl _ _ rfl underlying151 underlying3 (o7.re [2,0,1]) k (by rw[hmv];rfl) rfl rfl ?c1);case c1=>
    intro w8 o8 k8;go_wp2;go_roundw;case rel=>exact⟨fun z=>S z||z==k,none,by rw[YO HU.out QS.out];exact o8,⟨((k8.os.trans k7.os).trans k10.os).trans kR.os,((k8.tape.trans k7.tape).trans k10.tape).trans kR.tape,((k8.output.trans k7.output).trans k10.output).trans kR.output⟩⟩
    case measure=>rw[o8.iE,HW.out];refine Nat.lt_of_le_of_lt (VY ?_ _) HLT.out;rw[yO k HUM.out];exact List.filter_sublist
end
section
variable{W w w':aF}{R:aJ}{b rp lp cp xp nb N:Nat}{num den aI:Int}{S:St}{D:List Tg}
def iH(D:List Tg)(p:Head->Bool)(H:List Head)(i:Nat):bO:=(((H.zip (bM D)).take i).filter fun x=>p x.1).map (·.2)
theorem JU{D:List Tg}{p:Head->Bool}{H:List Head}{i:Nat}(h:H.length<=i):iH D p H i=Dm D p H:=by unfold iH Dm;rw[List.take_of_length_le (by rw[List.length_zip];omega)]
theorem F4{D:List Tg}{p:Head->Bool}{H:List Head}{i:Nat}{h:Head}{t:Tg}(e1:H[i]?=some h)(e2:D[i]?=some t):
  iH D p H (i+1)=if p h then iH D p H i++[(t.f,t.w)]else iH D p H i:=by
 have e:(H.zip (bM D))[i]?=some (h,(t.f,t.w)):=by rw[List.getElem?_zip_eq_some];exact⟨e1,by unfold bM;rw[kI,e2];rfl⟩
 unfold iH;rw[tH,e];simp only[Option.toList_some,List.filter_append,tJ];by_cases hp:p h=true
 ·rw[if_pos hp,List.filter_cons_of_pos (by simpa using hp)];simp
 ·rw[if_neg hp,List.filter_cons_of_neg (by simpa using hp)];simp
theorem JV(D:List Tg)(p:Head->Bool)(H:List Head)(i:Nat):(iH D p H i).length<=i:=by unfold iH;rw[iP];exact Nat.le_trans (List.length_filter_le _ _) (by rw[rZ];omega)
def rC(h:Head):Bool:=h.good
def Ag(D:List Tg)(h:Head):Bool:=h.good&&decide (0<tZ D h.f)
def YQ(b:Nat)(num den:Int)(rp lp cp xp nb N:Nat)(D:List Tg)(H:List Head)(ap:aY)(pc:Nat)(Sp:SP)(R:aJ)(w:aF)(v4 v5 v18:aL)(wr:aF):Prop:=
 ∃(i:Nat)(a1 a2:aY)(c1 c2:Nat),v18=↑(i:Int)/\i<=H.length/\v4=.slice a1 (iH D rC H i).length c1/\v5=.slice a2 (iH D (Ag D) H i).length c2/\
  Own wr (slc 493 2 a1 (iH D rC H i).length c1 (flat part (iH D rC H i))::slc 493 2 a2 (iH D (Ag D) H i).length c2 (flat part (iH D (Ag D) H i))::
   slc 493 2 ap D.length pc (flat part (bM D))::zF b num den rp lp cp xp nb::fD lp N D::Sp::R)/\Calm w wr
def aa8(b:Nat)(num den:Int)(rp lp cp xp nb N:Nat)(D:List Tg)(H:List Head)(Sp:SP)(R:aJ)(w:aF)(e:Ending)(w':aF):Prop:=
 ∃(a1 a2:aY)(c1 c2:Nat),aR (.tuple #[.slice a1 (nT D H).length c1,.slice a2 (Ab D H).length c2])
  (slc 493 2 a1 (nT D H).length c1 (flat part (nT D H))::slc 493 2 a2 (Ab D H).length c2 (flat part (Ab D H))::zF b num den rp lp cp xp nb::fD lp N D::Sp::R) w e w'
theorem LW{Sp:SP}{a:aY}{n c:Nat}{H:List Head}(h1:eH Sp a H)(hn:n=H.length)(hD:D.length=n)(hl:n<=32)(o:Own w (zF b num den rp lp cp xp nb::fD lp N D::Sp::R)):
  Calls prog 359 #[.pointer (some ⟨b,0,none⟩),.slice a n c] w (aa8 b num den rp lp cp xp nb N D H Sp R w):=by
 have c3:=o.cell 3;have hlt:=o.aS;have Hn:=az hn;have HD:=az hD;clear hn hD;go_enter func359,ntmps359;go_wp2_with fail;refine(xS (o.up 1)).mono ?_;rintro e1 w1⟨ap,pc,rfl,o1,k1⟩;have hT:YQ b num den rp lp cp xp nb N D H ap pc Sp R w (.slice none 0 0) (.slice none 0 0) (.int .i64 0) w1:=
  ⟨0,none,none,0,0,rfl,by omega,rfl,rfl,Own.bH (Own.bH (o1.re [0,2,1,3])),k1⟩
 clear o1 k1 c3 hlt o;go_wp2;go_loopw[4,5,18] (fun v4 v5 v18 wr=>YQ b num den rp lp cp xp nb N D H ap pc Sp R w v4 v5 v18 wr) (fun _ _ v _=>n-(Lib.intOf v).toNat);case atStart=>exact hT
 case round=>
  clear hT;obtain⟨i,a1,a2,q1,q2,rfl,hi,rfl,rfl,oR,kR⟩:=hrel;by_cases hil:i<n
  ·obtain⟨h,hh⟩:∃h,H[i]?=some h:=⟨_,List.getElem?_eq_getElem (by have:=Hn.out;omega)⟩;obtain⟨t,ht⟩:∃t,D[i]?=some t:=⟨_,List.getElem?_eq_getElem (by have:=HD.out;omega)⟩;have st1:=F4 (p:=rC) hh ht;have st2:=F4 (p:=Ag D) hh ht;have l1:=JV D rC H i;have l2:=JV D (Ag D) H i;obtain⟨g,rfl,d0,d1,d2⟩:=h1 _ _ (oR.up 5) i _ hh;obtain⟨gp,rfl,Ah,_,_⟩:=(oR.up 2).aG (by have:=HD.out;omega);have HF0:=az (show(flat part (bM D))[i*2+0]?=some ↑t.f by rw[aB zV (bM D) i 0 (t.f,t.w) (by unfold bM;rw[List.getElem?_map,ht];rfl) (by omega)];rfl);have HF1:=az (show(flat part (bM D))[i*2+1]?=some ↑t.w by rw[aB zV (bM D) i 1 (t.f,t.w) (by unfold bM;rw[List.getElem?_map,ht];rfl) (by omega)];rfl);have oB:=oR.alloc (.cells #[.int .i64 h.f,.int .i64 h.len,.bool h.good] 294);clear Ah hh ht;cases hg:h.good with
   |false=>
    have e1:rC h=false:=hg;have e2:Ag D h=false:=by unfold Ag;rw[hg];rfl
    rw[e1]at st1;rw[e2]at st2;rw[hg]at d2 oB;simp only[Bool.false_eq_true,if_false]at st1 st2;have ST1:=az st1;have ST2:=az st2;clear st1 st2 e1 e2;go_wp2;go_roundw;case rel=>exact⟨i+1,a1,a2,q1,q2,by go_num,by have:=Hn.out;omega,by rw[ST1.out],by rw[ST2.out],by rw[ST1.out,ST2.out];exact oB.drop,⟨kR.os,kR.tape,kR.output⟩⟩
    case measure=>simp[Lib.intOf];omega
   |true=>
    have e1:rC h=true:=hg;rw[e1]at st1;rw[hg]at d2 oB;simp only[if_true]at st1;have ST1:=az st1;clear st1 e1;obtain⟨gp2,hq,Ah,_,_⟩:=(oB.up 3).aG (by have:=HD.out;omega);cases hq;have b0:=Ah (i*2+0) (.int .i64 t.f) (HF0.out);rw[Nat.add_zero]at b0;have b1:=Ah (i*2+1) (.int .i64 t.w) (HF1.out);have oA:=oB.alloc (.cells #[.int .i64 t.f,.int .i64 t.w] 493);simp only[World.size_alloc]at oA;have hiD:i<D.length:=by have:=HD.out;omega
    clear Ah;go_wp2_with(at_builtin;refine aU rfl _ _ rfl Tryz.partT rfl (oA.up 2) ⟨wr.heap.size+1,0,none⟩ 1 1 [.int .i64 t.f,.int .i64 t.w] rfl rfl ?c1 ?c2 ?c3 ?c4 ?c5);case c1=>exact Own.news (T:=493) oA
    case c2=>intro u hu;simp at hu;rcases hu with rfl|rfl<;>rfl
    case c3=>unfold maxLen;omega
    case c4=>omega
    case c5=>
    intro a3 q3 w5 o5 k5;have o6:=(o5.up 1).drop;have o7:=o6.drew.re [5,4,1,0,2,3];have x3:=(o7.up 1).cell 3;have xb:=Own.cell (T:=294) (vs:=[.int .i64 h.f,.int .i64 h.len,.bool true]) (o7.up 2) 0;have hfl:flat part (iH D rC H i)++[.int .i64 t.f,.int .i64 t.w]=flat part (iH D rC H (i+1)):=by rw[ST1.out];unfold flat;simp[part]
    have YR:=az hfl;clear hfl;obtain⟨z,hz⟩:=Uv D h.f;have hcall:=Di h.f o7;rw[hz]at hcall;clear hz;have e2:Ag D h=decide (0<tZ D h.f):=by unfold Ag;rw[hg];rfl
    rw[e2]at st2;clear e2 hg;generalize tZ D h.f=lg at*;have aff:=az st2;clear st2;go_wp2_with fail;go_region_held3(fun w'=>w'.cell? ⟨b,3,none⟩=some (.pointer (some ⟨lp,0,none⟩))/\w'.cell? ⟨wr.heap.size,0,none⟩=some ↑h.f) (go_keep) (first|(go_at_call 370;(with_reducible refine hcall.mono ?_);rintro e6 w6⟨rfl,o8,k8⟩;have y3:=(o8.up 1).cell 3;have yb:=Own.cell (T:=294) (vs:=[.int .i64 h.f,.int .i64 h.len,.bool true]) (o8.up 2) 0));clear hcall;by_cases Iz:0<lg
    ·have hst:=aff.out;rw[if_pos (by simpa using Iz)]at hst;have ST2:=az hst;clear hst;obtain⟨gp3,hq,Ah,_,_⟩:=(o8.up 5).aG (by omega);cases hq;have m0:=Ah (i*2+0) (.int .i64 t.f) (HF0.out);rw[Nat.add_zero]at m0;have m1:=Ah (i*2+1) (.int .i64 t.w) (HF1.out);have oC:=o8.alloc (.cells #[.int .i64 t.f,.int .i64 t.w] 493);clear Ah;go_wp2_with(at_builtin;refine aU rfl _ _ rfl Tryz.partT rfl (oC.up 5) ⟨w6.heap.size,0,none⟩ 1 1 [.int .i64 t.f,.int .i64 t.w] rfl rfl ?d1 ?d2 ?d3 ?d4 ?d5);case d1=>exact Own.news (T:=493) oC
     case d2=>intro u hu;simp at hu;rcases hu with rfl|rfl<;>rfl
     case d3=>unfold maxLen;omega
     case d4=>omega
     case d5=>
     intro a4 q4 w7 o9 k9;have afg:flat part (iH D (Ag D) H i)++[.int .i64 t.f,.int .i64 t.w]=flat part (iH D (Ag D) H (i+1)):=by rw[ST2.out];unfold flat;simp[part]
     have ag2:=az afg;clear afg;have oE:=(((o9.up 1).drop.up 3).drop).re [3,0,4,2,1];go_wp2;go_roundw;case rel=>
      refine⟨i+1,a3,a4,q3,q4,by go_num,by have:=Hn.out;omega,by rw[ST1.out,List.length_append];rfl,by rw[ST2.out,List.length_append];rfl,?_,kR.trans (Calm.trans ⟨k5.os,k5.tape,k5.output⟩ (Calm.trans ⟨k8.os,k8.tape,k8.output⟩ ⟨k9.os,k9.tape,k9.output⟩))⟩;rw[YR.out,ag2.out]at oE;have z1:(iH D rC H (i+1)).length=(iH D rC H i).length+1:=by rw[ST1.out,List.length_append];rfl
      have z2:(iH D (Ag D) H (i+1)).length=(iH D (Ag D) H i).length+1:=by rw[ST2.out,List.length_append];rfl
      rw[z1,z2];exact oE
     case measure=>simp[Lib.intOf];omega
    ·have hst:=aff.out;rw[if_neg (by simpa using Iz)]at hst;have ST2:=az hst;clear hst;have oE:=((o8.up 2).drop).re [2,3,4,1,0];go_wp2;go_roundw;case rel=>
      refine⟨i+1,a3,a2,q3,q2,by go_num,by have:=Hn.out;omega,by rw[ST1.out,List.length_append];rfl,by rw[ST2.out],?_,kR.trans (Calm.trans ⟨k5.os,k5.tape,k5.output⟩ ⟨k8.os,k8.tape,k8.output⟩)⟩;rw[YR.out]at oE;have z1:(iH D rC H (i+1)).length=(iH D rC H i).length+1:=by rw[ST1.out,List.length_append];rfl
      rw[z1,ST2.out];exact oE
     case measure=>simp[Lib.intOf];omega
  ·have hin:H.length<=i:=by have:=Hn.out;omega
   have e1:iH D rC H i=nT D H:=JU hin;have e2:iH D (Ag D) H i=Ab D H:=JU hin;rw[e1,e2]at oR⊢;clear e1 e2 hin;go_wp2;go_ret2;exact⟨a1,a2,q1,q2,rfl,((oR.up 2).drop),kR⟩
end
section
variable{W w w':aF}{R:aJ}{b rp lp cp xp nb N:Nat}{num den aI:Int}{S:St}{D:List Tg}{C X:Ord}
def ku(b:Nat)(aI:Int)(o:Ord):SP:=bP b aI o.el o.tg o.tm
structure rD(o:Ord):Prop where
 key:uT o.el
 len:o.el.length<=1000
 uniq:bL o.tg
 val:∀x∈o.tg,0<=x.2/\x.2<=1099511627776
 tm:0<=o.tm/\o.tm<=1099511627776
theorem F5(f len:Int)(hC:rD C)(o:Own w (ku b aI C::R)):
  Calls prog 382 #[b,f,len] w (aR (.int .i64 (nS aI C f len).1) (ku b aI (nS aI C f len).2::R) w):=by
 refine(Rn f len hC.key hC.len hC.uniq hC.val hC.tm o).mono ?_;intro e w' h;unfold nP at h;unfold nS;by_cases h1:xU C.el C.tg f len≠0
 ·rw[if_pos h1]at h⊢;exact h
 ·rw[if_neg h1]at h⊢;by_cases h2:l6 C.el C.tg C.tm f len<aI
  ·rw[if_pos h2]at h⊢;exact h
  ·rw[if_neg h2]at h⊢;exact h
def yP(b:Nat)(num den:Int)(rp lp cp xp nb:Nat)(aI:Int)(S:St)(C X:Ord)(c:LM)(len:Int)(R:aJ)(w:aF)(e:Ending)(w':aF):Prop:=
 if(bF aI S c.ch len).1≠0 then aR (.int .i64 (bF aI S c.ch len).1) (zF b num den rp lp cp xp nb::bU rp aI (bF aI S c.ch len).2::ku cp aI C::ku xp aI X::R) w e w'
 else aR (.int .i64 (gI aI C X c len).1) (zF b num den rp lp cp xp nb::bU rp aI (bF aI S c.ch len).2::ku cp aI (gI aI C X c len).2.1::ku xp aI (gI aI C X c len).2.2::R) w e w'
theorem LY(c:LM)(len:Int)(haw:0<=S.aw/\S.aw<=1152921504606846976)(hC:rD C)(hX:rD X)(o:Own w (zF b num den rp lp cp xp nb::bU rp aI S::ku cp aI C::ku xp aI X::R)):
  Calls prog 363 #[b,nQ c,len] w (yP b num den rp lp cp xp nb aI S C X c len R w):=by
 obtain⟨-,hlt,-,-,c2,-⟩:=o.cs;unfold nQ;obtain⟨ch,sv,why⟩:=c;have oA:=o.alloc (.cells #[ch,sv,why] 297);have hq:=qD ch len haw (oA.drew.re [2,0,1]);unfold yP;dsimp only;obtain⟨Y,hY⟩:=aP (bF aI S ch len);rw[hY]at hq⊢;clear hY;obtain⟨y,S'⟩:=Y;dsimp only at hq⊢;by_cases hy:y=0
 ·subst hy;simp only[ne_eq,not_true_eq_false,if_false];obtain⟨V,hV⟩:=aP (gI aI C X ⟨ch,sv,why⟩ len);rw[hV];have HV:=az hV;clear hV;go_enter func363,ntmps363;go_wp2;refine wp_region_tail 7 (by kernel_rfl) (by kernel_rfl) ?_;simp only[xe,List.take_zero,yB,List.drop_zero];repeat still_step
  refine wpStill_nil ?_;go_wp2_with fail;refine hq.mono ?_;rintro e1 w1⟨rfl,o1,k1⟩;clear hq;obtain⟨-,xl,-,-,-,-,x4,x5,-⟩:=(o1.up 2).cs;obtain⟨-,-,-,z1,z2,-⟩:=Own.cs (T:=297) (vs:=[ch,sv,why]) (o1.up 1);by_cases h23:why=2\/why=3
  ·have e:gI aI C X ⟨ch,sv,why⟩ len=((nS aI C sv len).1,(nS aI C sv len).2,X):=by unfold gI;rw[if_pos h23]
   have hs:=F5 sv len hC (o1.drew.re [3,0,1,2]);have hv:=HV.out;rw[e]at hv;clear e HV;subst hv;rcases h23 with rfl|rfl
   ·go_wp2;refine wp_region_tail 7 (by kernel_rfl) (by kernel_rfl) ?_;simp only[xe,List.take_zero,yB,List.drop_zero];repeat still_step
    refine wpStill_nil ?_;go_wp2_with fail;refine hs.mono ?_;rintro e2 w2⟨rfl,o2,k2⟩;clear hs;go_wp2;go_ret;exact⟨rfl,((o2.up 2).drop).re [2,1,0],Calm.trans ⟨k1.os,k1.tape,k1.output⟩ ⟨k2.os,k2.tape,k2.output⟩⟩
   ·go_wp2;refine wp_region_tail 7 (by kernel_rfl) (by kernel_rfl) ?_;simp only[xe,List.take_zero,yB,List.drop_zero];repeat still_step
    refine wpStill_nil ?_;go_wp2_with fail;refine hs.mono ?_;rintro e2 w2⟨rfl,o2,k2⟩;clear hs;go_wp2;go_ret;exact⟨rfl,((o2.up 2).drop).re [2,1,0],Calm.trans ⟨k1.os,k1.tape,k1.output⟩ ⟨k2.os,k2.tape,k2.output⟩⟩
  ·have n2:(why==2)=false:=by simpa using fun e=>h23 (.inl e)
   have n3:(why==3)=false:=by simpa using fun e=>h23 (.inr e)
   by_cases h4:why=4
   ·have e:gI aI C X ⟨ch,sv,why⟩ len=((nS aI X sv len).1,C,(nS aI X sv len).2):=by unfold gI;rw[if_neg h23,if_pos h4]
    have hs:=F5 sv len hX (o1.drew.re [4,0,1,2,3]);have hv:=HV.out;rw[e]at hv;clear e HV;subst hv;subst h4;go_wp2;refine wp_region_tail 7 (by kernel_rfl) (by kernel_rfl) ?_;simp only[xe,List.take_zero,yB,List.drop_zero];repeat still_step
    refine wpStill_nil ?_;go_wp2_with fail;refine hs.mono ?_;rintro e2 w2⟨rfl,o2,k2⟩;clear hs;go_wp2;go_ret;exact⟨rfl,((o2.up 2).drop).re [2,1,3,0],Calm.trans ⟨k1.os,k1.tape,k1.output⟩ ⟨k2.os,k2.tape,k2.output⟩⟩
   ·have e:gI aI C X ⟨ch,sv,why⟩ len=(0,C,X):=by unfold gI;rw[if_neg h23,if_neg h4]
    have n4:(why==4)=false:=by simpa using h4
    have hv:=HV.out;rw[e]at hv;clear e HV;subst hv;go_wp2;go_ret;exact⟨rfl,((o1.up 1).drop).re [1,0],⟨k1.os,k1.tape,k1.output⟩⟩
 ·have hb:(y==0)=false:=by simpa using hy
  have hb':(y !=0)=true:=by simpa using hy
  simp only[ne_eq,hy,not_false_eq_true,if_true];go_enter func363,ntmps363;go_wp2;refine wp_region_tail 7 (by kernel_rfl) (by kernel_rfl) ?_;simp only[xe,List.take_zero,yB,List.drop_zero];repeat still_step
  refine wpStill_nil ?_;go_wp2_with fail;refine hq.mono ?_;rintro e1 w1⟨rfl,o1,k1⟩;clear hq;go_wp2;go_ret;exact⟨rfl,((o1.up 1).drop).re [1,0],⟨k1.os,k1.tape,k1.output⟩⟩
end
section
variable{W w w':aF}{R:aJ}{b rp lp cp xp nb N:Nat}{num den aI:Int}{S:St}{D:List Tg}{C X:Ord}{m:List (Int×(Int×Int))}
theorem JW{k:Int}:∀(j:Nat)(H:List Head),(∃h∈H,h.f=k)->∃(i:Nat)(h:Head),H[i]?=some h/\yN k j H=((j+i:Nat):Int)/\H.find? (fun h=>h.f==k)=some h
 |_,[],h=>by obtain⟨_,h,_⟩:=h;cases h
 |j,x::H,h=>by
  by_cases hx:x.f=k
  ·exact⟨0,x,rfl,by simp[yN,hx],by simp[hx]⟩
  ·obtain⟨y,hy,hyk⟩:=h;have hin:y∈H:=by
    rcases jc.1 hy with rfl|h
    ·exact absurd hyk hx
    ·exact h
   obtain⟨i,h,h1,h2,h3⟩:=JW (j+1) H ⟨y,hin,hyk⟩;refine⟨i+1,h,by simpa using h1,?_,?_⟩
   ·unfold yN;rw[if_neg hx,h2];congr 1;omega
   ·rw[List.find?_cons_of_neg (by simpa using hx)];exact h3
theorem jF{k:Int}{H:List Head}(h:∃h∈H,h.f=k):∃(i:Nat),H[i]?=some (bC H k)/\yN k 0 H=(i:Int):=by obtain⟨i,x,h1,h2,h3⟩:=JW 0 H h;exact⟨i,by unfold bC;rw[h3];exact h1,by rw[h2,Nat.zero_add]⟩
theorem F6{fn:Func}(h:fn.results=#[.cell 6 297]){tmps:Array aL}{p:Nat}{x y z:aL}(hp:tmps.getD 6 undef=.pointer (some ⟨p,0,none⟩))
  (o:Own w (aH p 297 [x,y,z]::R)):(results fn tmps).run prog w=.ok (.agg #[x,y,z]) w:=
 results_cell_row h _ _ p _ _ _ _ hp o.blk underlying297 rfl (by kernel_rfl)
abbrev gU(b:Nat)(num den:Int)(rp lp cp xp nb N:Nat)(aI:Int)(S:St)(D:List Tg)(C X:Ord)(m:List (Int×(Int×Int)))(Sp:SP)(R:aJ):aJ:=
 zF b num den rp lp cp xp nb::bU rp aI S::fD lp N D::bB pV nb m::ku cp aI C::ku xp aI X::Sp::R
theorem Rz{Sp:SP}{a:aY}{n c:Nat}{H:List Head}{so:Bool}(h1:eH Sp a H)(hn:n=H.length)(hl:n<=32)(hk:∃h∈H,h.f=(dD S.L).1)
  (hg:(bC H (dD S.L).1).good=true)(hld:decide (tZ D (dD S.L).1<0)=false)(o:Own w (gU b num den rp lp cp xp nb N aI S D C X m Sp R)):
  Calls prog 361 #[b,.slice a n c,.bool so] w (aR (nQ ⟨(dD S.L).1,(dD S.L).1,1⟩) (gU b num den rp lp cp xp nb N aI S D C X m Sp R) w):=by
 unfold nQ;dsimp only;obtain⟨-,hlt,-,-,c2,-⟩:=o.cs;obtain⟨i,hi,hix⟩:=jF hk;have hin:i<n:=by have:=(eU.1 hi).1;omega
 have HI:=az hi;have Hn:=az hn;have oA:=o.alloc (.cells #[aC,aC,aC] 297);have hsel:=fO (oA.up 2);have HLD:=az hld;obtain⟨K,hK⟩:=aP (bC H (dD S.L).1);rw[hK]at hg HI;generalize (dD S.L).1=k at*;generalize (dD S.L).2=e at*;clear hi hn hk hld hK;go_enter func361,ntmps361;go_wp2_with fail;refine hsel.mono ?_;rintro e1 w1⟨rfl,o1,k1⟩;clear hsel;have hidx:=gJ (f:=k) (c:=c) h1 Hn.out (by omega) (o1.up 7);rw[hix]at hidx;go_wp2_with fail;refine hidx.mono ?_;rintro e2 w2⟨rfl,o2,k2⟩;clear hidx hix;obtain⟨g,rfl,d0,d1,d2⟩:=h1 _ _ o2 i _ HI.out;rw[hg]at d2;have o3:=(o2.alloc (.cells #[k,k,(1:Int)] 297)).re [4,5,0,1,2,3];have hlead:=jR k o3;rw[HLD.out]at hlead;go_wp2_with fail;refine hlead.mono ?_;rintro e3 w3⟨rfl,o4,k3⟩;clear hlead;obtain⟨-,-,y0,y1,y2,-⟩:=Own.cs (T:=297) (vs:=[k,k,(1:Int)]) (o4.up 2);obtain⟨zf,zl,z0,z1,z2,-⟩:=Own.cs (T:=297) (vs:=[aC,aC,aC]) (o4.up 5);have o5:=Own.setCell (T:=297) (vs:=[aC,aC,aC]) (o4.up 5) 0 (.int .i64 k);have o6:=Own.setCell (T:=297) (vs:=[k,aC,aC]) o5 1 (.int .i64 k);have o7:=Own.setCell (T:=297) (vs:=[k,k,aC]) o6 2 (.int .i64 1);go_wp2;refine bodyPost_ret (v:=.agg #[k,k,(1:Int)]) ?_ rfl ?_
 ·exact F6 (p:=w.heap.size) rfl rfl o7
 ·exact⟨rfl,((o7.drop).up 2).drop.re [0,3,1,4,5,6,2],⟨k3.os.trans (k2.os.trans k1.os),k3.tape.trans (k2.tape.trans k1.tape),k3.output.trans (k2.output.trans k1.output)⟩⟩
theorem LZ{nu de cr cl:Nat}(hnu:nu<4194304)(hde:de<4194304)(hcr:cr<1099511627776)(hcl:cl<1099511627776)(hc:mJ m (dD S.L).1=((cr:Int),(cl:Int))){Sp:SP}{a:aY}{n c:Nat}{H:List Head}{so:Bool}(h1:eH Sp a H)(hn:n=H.length)(hl:n<=32)(hk:∃h∈H,h.f=(dD S.L).1)
  (hg:(bC H (dD S.L).1).good=true)(hld:decide (tZ D (dD S.L).1<0)=true)(hkp:rU (nu:Int) (de:Int) (mJ m (dD S.L).1)=true)(o:Own w (gU b (nu:Int) (de:Int) rp lp cp xp nb N aI S D C X m Sp R)):
  Calls prog 361 #[b,.slice a n c,.bool so] w (aR (nQ ⟨(dD S.L).1,(dD S.L).1,1⟩) (gU b (nu:Int) (de:Int) rp lp cp xp nb N aI S D C X m Sp R) w):=by
 unfold nQ;dsimp only;obtain⟨-,hlt,-,-,c2,-⟩:=o.cs;obtain⟨i,hi,hix⟩:=jF hk;have hin:i<n:=by have:=(eU.1 hi).1;omega
 have HI:=az hi;have Hn:=az hn;have oA:=o.alloc (.cells #[aC,aC,aC] 297);have hsel:=fO (oA.up 2);have HLD:=az hld;have HKP:=az hkp;have HC:=az hc;obtain⟨K,hK⟩:=aP (bC H (dD S.L).1);rw[hK]at hg HI;generalize (dD S.L).1=k at*;generalize (dD S.L).2=e at*;clear hi hn hk hld hK hkp hc;go_enter func361,ntmps361;go_wp2_with fail;refine hsel.mono ?_;rintro e1 w1⟨rfl,o1,k1⟩;clear hsel;have hidx:=gJ (f:=k) (c:=c) h1 Hn.out (by omega) (o1.up 7);rw[hix]at hidx;go_wp2_with fail;refine hidx.mono ?_;rintro e2 w2⟨rfl,o2,k2⟩;clear hidx hix;obtain⟨g,rfl,d0,d1,d2⟩:=h1 _ _ o2 i _ HI.out;rw[hg]at d2;have o3:=(o2.alloc (.cells #[k,k,(1:Int)] 297)).re [4,5,0,1,2,3];have hlead:=jR k o3;rw[HLD.out]at hlead;go_wp2_with fail;refine hlead.mono ?_;rintro e3 w3⟨rfl,o4,k3⟩;clear hlead;have hkeep:=uj k hnu hde hcr hcl HC.out (o4.re [0,6,1,2,3,4,5]);rw[HKP.out]at hkeep;go_wp2_with fail;refine hkeep.mono ?_;rintro e4 w4⟨rfl,Dr,k4⟩;clear hkeep;obtain⟨-,-,y0,y1,y2,-⟩:=Own.cs (T:=297) (vs:=[k,k,(1:Int)]) (Dr.up 3);obtain⟨zf,zl,z0,z1,z2,-⟩:=Own.cs (T:=297) (vs:=[aC,aC,aC]) (Dr.up 6);have o5:=Own.setCell (T:=297) (vs:=[aC,aC,aC]) (Dr.up 6) 0 (.int .i64 k);have o6:=Own.setCell (T:=297) (vs:=[k,aC,aC]) o5 1 (.int .i64 k);have o7:=Own.setCell (T:=297) (vs:=[k,k,aC]) o6 2 (.int .i64 1);go_wp2;refine bodyPost_ret (v:=.agg #[k,k,(1:Int)]) ?_ rfl ?_
 ·exact F6 (p:=w.heap.size) rfl rfl o7
 ·exact⟨rfl,((o7.drop).up 3).drop.re [0,4,2,1,5,6,3],⟨k4.os.trans (k3.os.trans (k2.os.trans k1.os)),k4.tape.trans (k3.tape.trans (k2.tape.trans k1.tape)),k4.output.trans (k3.output.trans (k2.output.trans k1.output))⟩⟩
theorem L6{Sp:SP}{a:aY}{n c:Nat}{H:List Head}{so:Bool}(h1:eH Sp a H)(hn:n=H.length)(hl:n<=32)(hk:∃h∈H,h.f=(dD S.L).1)
  (hg:(bC H (dD S.L).1).good=false)(hC:rD C)(hj:0<=bJ C.el C.tg)(o:Own w (gU b num den rp lp cp xp nb N aI S D C X m Sp R)):
  Calls prog 361 #[b,.slice a n c,.bool so] w (aR (nQ ⟨(dD S.L).1,bJ C.el C.tg,3⟩) (gU b num den rp lp cp xp nb N aI S D C X m Sp R) w):=by
 unfold nQ;dsimp only;obtain⟨-,hlt,-,-,c2,-⟩:=o.cs;obtain⟨i,hi,hix⟩:=jF hk;have hin:i<n:=by have:=(eU.1 hi).1;omega
 have HI:=az hi;have Hn:=az hn;have oA:=o.alloc (.cells #[aC,aC,aC] 297);have hsel:=fO (oA.up 2);obtain⟨K,hK⟩:=aP (bC H (dD S.L).1);rw[hK]at hg HI;generalize (dD S.L).1=k at*;generalize (dD S.L).2=e at*;clear hi hn hk hK;go_enter func361,ntmps361;go_wp2_with fail;refine hsel.mono ?_;rintro e1 w1⟨rfl,o1,k1⟩;clear hsel;have hidx:=gJ (f:=k) (c:=c) h1 Hn.out (by omega) (o1.up 7);rw[hix]at hidx;go_wp2_with fail;refine hidx.mono ?_;rintro e2 w2⟨rfl,o2,k2⟩;clear hidx hix;obtain⟨g,rfl,d0,d1,d2⟩:=h1 _ _ o2 i _ HI.out;rw[hg]at d2;have o3:=(o2.alloc (.cells #[k,k,(1:Int)] 297)).up 7;have hlead:=lK hC.key hC.len o3;have x4:=(o3.up 5).cell 4;have hsv:zZ C.el C.tg=.tuple #[(bJ C.el C.tg:Int),aC]:=by unfold zZ;rw[if_neg (by omega)]
 rw[hsv]at hlead;clear hsv;generalize bJ C.el C.tg=jj at*;go_wp2_with fail;refine hlead.mono ?_;rintro e3 w3⟨rfl,o4,k3⟩;clear hlead;obtain⟨-,-,y0,y1,y2,-⟩:=Own.cs (T:=297) (vs:=[k,k,(1:Int)]) (o4.up 1);obtain⟨zf,zl,z0,z1,z2,-⟩:=Own.cs (T:=297) (vs:=[aC,aC,aC]) (o4.up 4);have o5:=Own.setCell (T:=297) (vs:=[aC,aC,aC]) (o4.up 4) 0 (.int .i64 k);have o6:=Own.setCell (T:=297) (vs:=[k,aC,aC]) o5 1 (.int .i64 jj);have o7:=Own.setCell (T:=297) (vs:=[k,jj,aC]) o6 2 (.int .i64 3);go_wp2;refine bodyPost_ret (v:=.agg #[k,jj,(3:Int)]) ?_ rfl ?_
 ·exact F6 (p:=w.heap.size) rfl rfl o7
 ·exact⟨rfl,((o7.drop).up 1).drop.re [3,2,4,5,0,6,1],⟨k3.os.trans (k2.os.trans k1.os),k3.tape.trans (k2.tape.trans k1.tape),k3.output.trans (k2.output.trans k1.output)⟩⟩
theorem OQ{nu de cr cl:Nat}(hnu:nu<4194304)(hde:de<4194304)(hcr:cr<1099511627776)(hcl:cl<1099511627776)(hc:mJ m (dD S.L).1=((cr:Int),(cl:Int))){Sp:SP}{a:aY}{n c:Nat}{H:List Head}{so:Bool}(h1:eH Sp a H)(hn:n=H.length)(hl:n<=32)(hk:∃h∈H,h.f=(dD S.L).1)
  (hg:(bC H (dD S.L).1).good=true)(hld:decide (tZ D (dD S.L).1<0)=true)(hkp:rU (nu:Int) (de:Int) (mJ m (dD S.L).1)=false)(hC:rD C)(hj:0<=bJ C.el C.tg)(o:Own w (gU b (nu:Int) (de:Int) rp lp cp xp nb N aI S D C X m Sp R)):
  Calls prog 361 #[b,.slice a n c,.bool so] w (aR (nQ ⟨(dD S.L).1,bJ C.el C.tg,2⟩) (gU b (nu:Int) (de:Int) rp lp cp xp nb N aI S D C X m Sp R) w):=by
 unfold nQ;dsimp only;obtain⟨-,hlt,-,-,c2,-⟩:=o.cs;obtain⟨i,hi,hix⟩:=jF hk;have hin:i<n:=by have:=(eU.1 hi).1;omega
 have HI:=az hi;have Hn:=az hn;have oA:=o.alloc (.cells #[aC,aC,aC] 297);have hsel:=fO (oA.up 2);have HLD:=az hld;have HKP:=az hkp;have HC:=az hc;obtain⟨K,hK⟩:=aP (bC H (dD S.L).1);rw[hK]at hg HI;generalize (dD S.L).1=k at*;generalize (dD S.L).2=e at*;clear hi hn hk hld hK hkp hc;go_enter func361,ntmps361;go_wp2_with fail;refine hsel.mono ?_;rintro e1 w1⟨rfl,o1,k1⟩;clear hsel;have hidx:=gJ (f:=k) (c:=c) h1 Hn.out (by omega) (o1.up 7);rw[hix]at hidx;go_wp2_with fail;refine hidx.mono ?_;rintro e2 w2⟨rfl,o2,k2⟩;clear hidx hix;obtain⟨g,rfl,d0,d1,d2⟩:=h1 _ _ o2 i _ HI.out;rw[hg]at d2;have o3:=(o2.alloc (.cells #[k,k,(1:Int)] 297)).re [4,5,0,1,2,3];have hlead:=jR k o3;rw[HLD.out]at hlead;go_wp2_with fail;refine hlead.mono ?_;rintro e3 w3⟨rfl,o4,k3⟩;clear hlead;have hkeep:=uj k hnu hde hcr hcl HC.out (o4.re [0,6,1,2,3,4,5]);rw[HKP.out]at hkeep;go_wp2_with fail;refine hkeep.mono ?_;rintro e4 w4⟨rfl,Dr,k4⟩;clear hkeep;have vY:=lK hC.key hC.len (Dr.up 7);have x4:=Dr.cell 4;have hsv:zZ C.el C.tg=.tuple #[(bJ C.el C.tg:Int),aC]:=by unfold zZ;rw[if_neg (by omega)]
 rw[hsv]at vY;clear hsv;generalize bJ C.el C.tg=jj at*;go_wp2_with fail;refine vY.mono ?_;rintro e5 w5⟨rfl,o8,k5⟩;clear vY;obtain⟨-,-,y0,y1,y2,-⟩:=Own.cs (T:=297) (vs:=[k,k,(1:Int)]) (o8.up 4);obtain⟨zf,zl,z0,z1,z2,-⟩:=Own.cs (T:=297) (vs:=[aC,aC,aC]) (o8.up 7);have o5:=Own.setCell (T:=297) (vs:=[aC,aC,aC]) (o8.up 7) 0 (.int .i64 k);have o6:=Own.setCell (T:=297) (vs:=[k,aC,aC]) o5 1 (.int .i64 jj);have o7:=Own.setCell (T:=297) (vs:=[k,jj,aC]) o6 2 (.int .i64 2);go_wp2;refine bodyPost_ret (v:=.agg #[k,jj,(2:Int)]) ?_ rfl ?_
 ·exact F6 (p:=w.heap.size) rfl rfl o7
 ·exact⟨rfl,((o7.drop).up 4).drop.re [1,5,3,2,0,6,4],⟨k5.os.trans (k4.os.trans (k3.os.trans (k2.os.trans k1.os))),k5.tape.trans (k4.tape.trans (k3.tape.trans (k2.tape.trans k1.tape))),k5.output.trans (k4.output.trans (k3.output.trans (k2.output.trans k1.output)))⟩⟩
theorem OT{nu de cr cl:Nat}(hnu:nu<4194304)(hde:de<4194304)(hcr:cr<1099511627776)(hcl:cl<1099511627776)(hc:mJ m (dD S.L).1=((cr:Int),(cl:Int))){Sp:SP}{a:aY}{n c:Nat}{H:List Head}{so:Bool}(h1:eH Sp a H)(hn:n=H.length)(hl:n<=32)(hk:∃h∈H,h.f=(dD S.L).1)
  (hg:(bC H (dD S.L).1).good=true)(hld:decide (tZ D (dD S.L).1<0)=true)(hkp:rU (nu:Int) (de:Int) (mJ m (dD S.L).1)=false)(hC:rD C)(hj:bJ C.el C.tg<0)(o:Own w (gU b (nu:Int) (de:Int) rp lp cp xp nb N aI S D C X m Sp R)):
  Calls prog 361 #[b,.slice a n c,.bool so] w (aR (nQ ⟨(dD S.L).1,(dD S.L).1,1⟩) (gU b (nu:Int) (de:Int) rp lp cp xp nb N aI S D C X m Sp R) w):=by
 unfold nQ;dsimp only;obtain⟨-,hlt,-,-,c2,-⟩:=o.cs;obtain⟨i,hi,hix⟩:=jF hk;have hin:i<n:=by have:=(eU.1 hi).1;omega
 have HI:=az hi;have Hn:=az hn;have oA:=o.alloc (.cells #[aC,aC,aC] 297);have hsel:=fO (oA.up 2);have HLD:=az hld;have HKP:=az hkp;have HC:=az hc;obtain⟨K,hK⟩:=aP (bC H (dD S.L).1);rw[hK]at hg HI;generalize (dD S.L).1=k at*;generalize (dD S.L).2=e at*;clear hi hn hk hld hK hkp hc;go_enter func361,ntmps361;go_wp2_with fail;refine hsel.mono ?_;rintro e1 w1⟨rfl,o1,k1⟩;clear hsel;have hidx:=gJ (f:=k) (c:=c) h1 Hn.out (by omega) (o1.up 7);rw[hix]at hidx;go_wp2_with fail;refine hidx.mono ?_;rintro e2 w2⟨rfl,o2,k2⟩;clear hidx hix;obtain⟨g,rfl,d0,d1,d2⟩:=h1 _ _ o2 i _ HI.out;rw[hg]at d2;have o3:=(o2.alloc (.cells #[k,k,(1:Int)] 297)).re [4,5,0,1,2,3];have hlead:=jR k o3;rw[HLD.out]at hlead;go_wp2_with fail;refine hlead.mono ?_;rintro e3 w3⟨rfl,o4,k3⟩;clear hlead;have hkeep:=uj k hnu hde hcr hcl HC.out (o4.re [0,6,1,2,3,4,5]);rw[HKP.out]at hkeep;go_wp2_with fail;refine hkeep.mono ?_;rintro e4 w4⟨rfl,Dr,k4⟩;clear hkeep;have vY:=lK hC.key hC.len (Dr.up 7);have x4:=Dr.cell 4;have hsv:zZ C.el C.tg=.tuple #[aC,(5:Int)]:=by unfold zZ;rw[if_pos hj]
 rw[hsv]at vY;clear hsv;clear hj;go_wp2_with fail;refine vY.mono ?_;rintro e5 w5⟨rfl,o8,k5⟩;clear vY;obtain⟨-,-,y0,y1,y2,-⟩:=Own.cs (T:=297) (vs:=[k,k,(1:Int)]) (o8.up 4);obtain⟨zf,zl,z0,z1,z2,-⟩:=Own.cs (T:=297) (vs:=[aC,aC,aC]) (o8.up 7);have o5:=Own.setCell (T:=297) (vs:=[aC,aC,aC]) (o8.up 7) 0 (.int .i64 k);have o6:=Own.setCell (T:=297) (vs:=[k,aC,aC]) o5 1 (.int .i64 k);have o7:=Own.setCell (T:=297) (vs:=[k,k,aC]) o6 2 (.int .i64 1);go_wp2;refine bodyPost_ret (v:=.agg #[k,k,(1:Int)]) ?_ rfl ?_
 ·exact F6 (p:=w.heap.size) rfl rfl o7
 ·exact⟨rfl,((o7.drop).up 4).drop.re [1,5,3,2,0,6,4],⟨k5.os.trans (k4.os.trans (k3.os.trans (k2.os.trans k1.os))),k5.tape.trans (k4.tape.trans (k3.tape.trans (k2.tape.trans k1.tape))),k5.output.trans (k4.output.trans (k3.output.trans (k2.output.trans k1.output)))⟩⟩
theorem OU{Sp:SP}{a:aY}{n c:Nat}{H:List Head}(h1:eH Sp a H)(hn:n=H.length)(hl:n<=32)(hk:∃h∈H,h.f=(dD S.L).1)
  (hg:(bC H (dD S.L).1).good=false)(hC:rD C)(hj:bJ C.el C.tg<0)(o:Own w (gU b num den rp lp cp xp nb N aI S D C X m Sp R)):
  Calls prog 361 #[b,.slice a n c,.bool false] w (aR (nQ gu) (gU b num den rp lp cp xp nb N aI S D C X m Sp R) w):=by
 unfold nQ gu;dsimp only;obtain⟨-,hlt,-,-,c2,-⟩:=o.cs;obtain⟨i,hi,hix⟩:=jF hk;have hin:i<n:=by have:=(eU.1 hi).1;omega
 have HI:=az hi;have Hn:=az hn;have oA:=o.alloc (.cells #[aC,aC,aC] 297);have hsel:=fO (oA.up 2);obtain⟨K,hK⟩:=aP (bC H (dD S.L).1);rw[hK]at hg HI;generalize (dD S.L).1=k at*;generalize (dD S.L).2=e at*;clear hi hn hk hK;go_enter func361,ntmps361;go_wp2_with fail;refine hsel.mono ?_;rintro e1 w1⟨rfl,o1,k1⟩;clear hsel;have hidx:=gJ (f:=k) (c:=c) h1 Hn.out (by omega) (o1.up 7);rw[hix]at hidx;go_wp2_with fail;refine hidx.mono ?_;rintro e2 w2⟨rfl,o2,k2⟩;clear hidx hix;obtain⟨g,rfl,d0,d1,d2⟩:=h1 _ _ o2 i _ HI.out;rw[hg]at d2;have o3:=(o2.alloc (.cells #[k,k,(1:Int)] 297)).up 7;have hlead:=lK hC.key hC.len o3;have x4:=(o3.up 5).cell 4;have hsv:zZ C.el C.tg=.tuple #[aC,(5:Int)]:=by unfold zZ;rw[if_pos hj]
 rw[hsv]at hlead;clear hsv;clear hj;go_wp2_with fail;refine hlead.mono ?_;rintro e3 w3⟨rfl,o4,k3⟩;clear hlead;obtain⟨-,-,y0,y1,y2,-⟩:=Own.cs (T:=297) (vs:=[k,k,(1:Int)]) (o4.up 1);obtain⟨zf,zl,z0,z1,z2,-⟩:=Own.cs (T:=297) (vs:=[aC,aC,aC]) (o4.up 4);have o5:=Own.setCell (T:=297) (vs:=[aC,aC,aC]) (o4.up 4) 0 (.int .i64 (-1));have o6:=Own.setCell (T:=297) (vs:=[(-1:Int),aC,aC]) o5 1 (.int .i64 (-1));have o7:=Own.setCell (T:=297) (vs:=[(-1:Int),(-1:Int),aC]) o6 2 (.int .i64 6);go_wp2;refine bodyPost_ret (v:=.agg #[(-1:Int),(-1:Int),(6:Int)]) ?_ rfl ?_
 ·exact F6 (p:=w.heap.size) rfl rfl o7
 ·exact⟨rfl,((o7.drop).up 1).drop.re [3,2,4,5,0,6,1],⟨k3.os.trans (k2.os.trans k1.os),k3.tape.trans (k2.tape.trans k1.tape),k3.output.trans (k2.output.trans k1.output)⟩⟩
theorem IX{Sp:SP}{a:aY}{n c:Nat}{H:List Head}(h1:eH Sp a H)(hn:n=H.length)(hl:n<=32)(hk:∃h∈H,h.f=(dD S.L).1)
  (hg:(bC H (dD S.L).1).good=false)(hC:rD C)(hX:rD X)(hj:bJ C.el C.tg<0)(o:Own w (gU b num den rp lp cp xp nb N aI S D C X m Sp R)):
  Calls prog 361 #[b,.slice a n c,.bool true] w (aR (nQ ⟨(dD S.L).1,if 0<=bJ X.el X.tg then bJ X.el X.tg else 0,4⟩) (gU b num den rp lp cp xp nb N aI S D C X m Sp R) w):=by
 unfold nQ;dsimp only;obtain⟨-,hlt,-,-,c2,-⟩:=o.cs;obtain⟨i,hi,hix⟩:=jF hk;have hin:i<n:=by have:=(eU.1 hi).1;omega
 have HI:=az hi;have Hn:=az hn;have oA:=o.alloc (.cells #[aC,aC,aC] 297);have hsel:=fO (oA.up 2);obtain⟨K,hK⟩:=aP (bC H (dD S.L).1);rw[hK]at hg HI;generalize (dD S.L).1=k at*;generalize (dD S.L).2=e at*;clear hi hn hk hK;have hse:∃code,zZ X.el X.tg=.tuple #[(if 0<=bJ X.el X.tg then bJ X.el X.tg else 0:Int),.int .i64 code]:=by
  unfold zZ;by_cases h:bJ X.el X.tg<0
  ·rw[if_pos h,if_neg (by omega)];exact⟨_,rfl⟩
  ·rw[if_neg h,if_pos (by omega)];exact⟨_,rfl⟩
 have HSE:=az hse;clear hse;generalize (if 0<=bJ X.el X.tg then bJ X.el X.tg else 0)=jj at*;go_enter func361,ntmps361;go_wp2_with fail;refine hsel.mono ?_;rintro e1 w1⟨rfl,o1,k1⟩;clear hsel;have hidx:=gJ (f:=k) (c:=c) h1 Hn.out (by omega) (o1.up 7);rw[hix]at hidx;go_wp2_with fail;refine hidx.mono ?_;rintro e2 w2⟨rfl,o2,k2⟩;clear hidx hix;obtain⟨g,rfl,d0,d1,d2⟩:=h1 _ _ o2 i _ HI.out;rw[hg]at d2;have o3:=(o2.alloc (.cells #[k,k,(1:Int)] 297)).up 7;have hlead:=lK hC.key hC.len o3;have x4:=(o3.up 5).cell 4;have hsv:zZ C.el C.tg=.tuple #[aC,(5:Int)]:=by unfold zZ;rw[if_pos hj]
 rw[hsv]at hlead;clear hsv;clear hj;go_wp2_with fail;refine hlead.mono ?_;rintro e3 w3⟨rfl,o4,k3⟩;clear hlead;have vY:=lK hX.key hX.len (o4.up 8);have x5:=(o4.up 5).cell 5;obtain⟨code,hcode⟩:=HSE.out;rw[hcode]at vY;clear hcode HSE;go_wp2_with fail;refine vY.mono ?_;rintro e6 w6⟨rfl,o9,k6⟩;clear vY;obtain⟨-,-,y0,y1,y2,-⟩:=Own.cs (T:=297) (vs:=[k,k,(1:Int)]) (o9.up 2);obtain⟨zf,zl,z0,z1,z2,-⟩:=Own.cs (T:=297) (vs:=[aC,aC,aC]) (o9.up 5);have o5:=Own.setCell (T:=297) (vs:=[aC,aC,aC]) (o9.up 5) 0 (.int .i64 k);have o6:=Own.setCell (T:=297) (vs:=[k,aC,aC]) o5 1 (.int .i64 jj);have o7:=Own.setCell (T:=297) (vs:=[k,jj,aC]) o6 2 (.int .i64 4);go_wp2;refine bodyPost_ret (v:=.agg #[k,jj,(4:Int)]) ?_ rfl ?_
 ·exact F6 (p:=w.heap.size) rfl rfl o7
 ·exact⟨rfl,((o7.drop).up 2).drop.re [4,3,5,6,1,0,2],⟨k6.os.trans (k3.os.trans (k2.os.trans k1.os)),k6.tape.trans (k3.tape.trans (k2.tape.trans k1.tape)),k6.output.trans (k3.output.trans (k2.output.trans k1.output))⟩⟩
end
section
variable{w w':aF}{R:aJ}{b rp lp cp xp nb N:Nat}{aI:Int}{s:Cq}
theorem choose_spec{nu de cr cl:Nat}(hnu:nu<4194304)(hde:de<4194304)(hcr:cr<1099511627776)(hcl:cl<1099511627776)(hc:mJ s.n (dD s.R.L).1=((cr:Int),(cl:Int)))
  {Sp:SP}{a:aY}{n c:Nat}{H:List Head}{so:Bool}(h1:eH Sp a H)(hn:n=H.length)(hl:n<=32)(hk:∃h∈H,h.f=(dD s.R.L).1)(hC:rD s.C)(hX:rD s.X)
  (o:Own w (gU b (nu:Int) (de:Int) rp lp cp xp nb N aI s.R s.D s.C s.X s.n Sp R)):
  Calls prog 361 #[b,.slice a n c,.bool so] w
   (aR (nQ (l9 (nu:Int) (de:Int) s H so)) (gU b (nu:Int) (de:Int) rp lp cp xp nb N aI s.R s.D s.C s.X s.n Sp R) w):=by
 unfold l9;dsimp only;cases hg:(bC H (dD s.R.L).1).good with
 |true=>
  cases hld:decide (tZ s.D (dD s.R.L).1<0)with
  |false=>simp only[Bool.true_and,Bool.not_false,Bool.true_or,if_true];exact Rz h1 hn hl hk hg hld o
  |true=>
   cases hkp:rU (nu:Int) (de:Int) (mJ s.n (dD s.R.L).1)with
   |true=>simp only[Bool.true_and,Bool.not_true,Bool.false_or,if_true];exact LZ hnu hde hcr hcl hc h1 hn hl hk hg hld hkp o
   |false=>
    simp only[Bool.true_and,Bool.not_true,Bool.false_or,Bool.false_eq_true,if_false,if_true];by_cases hj:0<=bJ s.C.el s.C.tg
    ·rw[if_pos hj];exact OQ hnu hde hcr hcl hc h1 hn hl hk hg hld hkp hC hj o
    ·rw[if_neg hj];exact OT hnu hde hcr hcl hc h1 hn hl hk hg hld hkp hC (by omega) o
 |false=>
  simp only[Bool.false_and,Bool.false_eq_true,if_false];by_cases hj:0<=bJ s.C.el s.C.tg
  ·rw[if_pos hj];exact L6 h1 hn hl hk hg hC hj o
  ·rw[if_neg hj];cases so with
   |true=>simp only[if_true];exact IX h1 hn hl hk hg hC hX (by omega) o
   |false=>simp only[Bool.false_eq_true,if_false];exact OU h1 hn hl hk hg hC (by omega) o
end
abbrev Acc:=Int×Int×Int
structure Iw where
 R:St
 m:List (Int×Acc)
def cu(m:List (Int×Acc))(f:Int):Acc:=(a_ m f).getD (0,0,0)
def Pg(m:List (Int×Acc))(k j len:Int):Bool:=decide (k=j)||(decide ((cu m k).1+len<=(cu m k).2.1)&&decide (-(cu m j).2.2<=(cu m j).1-len))
def Eh(m:List (Int×Acc))(t:Tg):Int:=t.s-(cu m t.f).1*iG t.w
def I6(key:Tg->Int)(a b:Tg):Bool:=decide (key a<key b\/key a=key b/\a.f<b.f)
def R8(key:Tg->Int)(x:Tg):List Tg->List Tg
 |[]=>[x]
 |t::l=>if I6 key x t=true then x::t::l else t::R8 key x l
def uB(key:Tg->Int):List Tg->List Tg
 |[]=>[]
 |t::l=>R8 key t (uB key l)
theorem Cc(key:Tg->Int)(x:Tg):∀l,(R8 key x l).Perm (x::l)
 |[]=>.refl _
 |t::l=>by
  unfold R8;split
  ·exact .refl _
  ·exact((Cc key x l).cons t).trans (.swap x t l)
theorem xx(key:Tg->Int):∀l,(uB key l).Perm l
 |[]=>.refl _
 |t::l=>(Cc key t _).trans ((xx key l).cons t)
theorem Av(key:Tg->Int)(l:List Tg):(uB key l).length=l.length:=(xx key l).length_eq
theorem Gj{key:Tg->Int}{l:List Tg}{t:Tg}:t∈uB key l↔t∈l:=(xx key l).mem_iff
theorem Ce{key:Tg->Int}{a b c:Tg}(h1:I6 key a b=true)(h2:I6 key b c=true):I6 key a c=true:=by unfold I6 at*;rw[xM]at*;omega
theorem Gl(key:Tg->Int)(a:Tg):I6 key a a=false:=by unfold I6;rw[decide_eq_false_iff_not];omega
theorem Y2{key:Tg->Int}{a b:Tg}(h:a.f≠b.f)(h1:¬I6 key a b=true):I6 key b a=true:=by unfold I6 at*;rw[xM]at*;omega
theorem Dw{key:Tg->Int}{x:Tg}:∀{l:List Tg},l.Pairwise (fun a b=>I6 key a b=true)->(∀t∈l,t.f≠x.f)->(R8 key x l).Pairwise (fun a b=>I6 key a b=true)
 |[],_,_=>by unfold R8;exact List.pairwise_singleton _ _
 |t::l,h,hx=>by
  unfold R8;rw[List.pairwise_cons]at h;split
  ·rename_i hlt;refine List.pairwise_cons.2 ⟨fun u hu=>?_,List.pairwise_cons.2 h⟩;rcases jc.1 hu with rfl|hu
   ·exact hlt
   ·exact Ce hlt (h.1 u hu)
  ·rename_i hlt;refine List.pairwise_cons.2 ⟨fun u hu=>?_,Dw h.2 fun u hu=>hx u (by simp[hu])⟩;rcases jc.1 ((Cc key x l).mem_iff.1 hu)with rfl|hu
   ·exact Y2 (fun e=>hx t (by simp) e.symm) hlt
   ·exact h.1 u hu
theorem Dx{key:Tg->Int}:∀{l:List Tg},l.Pairwise (fun a b=>a.f<b.f)->(uB key l).Pairwise (fun a b=>I6 key a b=true)
 |[],_=>.nil
 |t::l,h=>by rw[List.pairwise_cons]at h;exact Dw (Dx h.2) fun u hu e=>by have:=h.1 u (Gj.1 hu);omega
theorem J7{key:Tg->Int}:∀{l1 l2:List Tg},l1.Perm l2->l1.Pairwise (fun a b=>I6 key a b=true)->l2.Pairwise (fun a b=>I6 key a b=true)->l1=l2
 |[],l2,hp,_,_=>(List.nil_perm.1 hp).symm
 |a::l1,[],hp,_,_=>by have:=hp.length_eq;simp at this
 |a::l1,b::l2,hp,h1,h2=>by
  rw[List.pairwise_cons]at h1 h2;have hab:a=b:=by
   have ha:a∈b::l2:=hp.mem_iff.1 (by simp);have hb:b∈a::l1:=hp.mem_iff.2 (by simp);rcases jc.1 ha with e|ha
   ·exact e
   ·rcases jc.1 hb with e|hb
    ·exact e.symm
    ·have:=Ce (h1.1 b hb) (h2.1 a ha);rw[Gl]at this;cases this
  subst hab;rw[J7 (List.Perm.cons_inv hp) h1.2 h2.2]
def Aw(ok:Tg->Tg->Bool)(js:List Tg):List Tg->Option (Tg×Tg)
 |[]=>none
 |k::ks=>match js.find? (ok k)with
  |some j=>some (k,j)
  |none=>Aw ok js ks
def Y3(m:List (Int×Acc))(H:List Head)(k j:Tg):Bool:=(bC H j.f).good&&Pg m k.f j.f (bC H j.f).len
def Cf(a:Acc)(d:Int):Acc:=(a.1+d,a.2)
def pz(aI:Int)(s:Iw)(H:List Head):LM×Int×Iw:=
 if jh s.R.L H=false then(XV,1,s)
 else if H=[]then(XV,5,s)
 else match Aw (Y3 s.m H) (uB (Eh s.m) s.R.L) (uB (·.s) s.R.L)with
  |none=>(gu,0,s)
  |some (k,j)=>
   let len:=(bC H j.f).len;let r:=bF aI s.R k.f len
   if r.1≠0 then(XV,r.1,s)
   else if k.f=j.f then(⟨k.f,k.f,1⟩,0,⟨r.2,s.m⟩)
   else(⟨k.f,j.f,5⟩,0,⟨r.2,bA (bA s.m k.f (Cf (cu s.m k.f) len)) j.f (Cf (cu s.m j.f) (-len))⟩)
section
variable{S:St}{i:Nat}{s:Iw}{H:List Head}{aI:Int}
structure TB(i:Nat)(S:St):Prop where
 ok:qy S
 act:∀t∈S.L,t.s<=i*2952069120
 tm:S.tm<=i*2952069120
 old:∀f,S.old f<=i*2952069120
 aw0:0<=S.aw
 aw1:S.aw<=i*1099511627776
theorem TB.start:TB 0 ⟨[],fun _=>0,0,0⟩:=⟨qy.start,by simp,by simp,fun f=>by simp,by simp,by simp⟩
theorem TB.join(h:TB i S){f w:Int}(he:gG S f w=0):TB i (pg S f w):=by
 obtain⟨h1,h2,h3,h4,h5,h6⟩:=h.ok.join he;refine⟨h1,fun t ht=>?_,h.tm,fun g=>?_,h.aw0,h.aw1⟩
 ·unfold pg at ht;dsimp only at ht;have hp:t=⟨f,w,max S.tm (S.old f)⟩\/t∈S.L:=by
   have:∀(L:List Tg)(x:Tg),t∈jB x L->t=x\/t∈L:=fun L x=>by
    induction L with
    |nil=>intro h;unfold jB at h;simpa using h
    |cons u L ih=>
     intro h;unfold jB at h;split at h
     ·rcases jc.1 h with h|h
      ·right;simp[h]
      ·rcases ih h with h|h
       ·left;exact h
       ·right;simp[h]
     ·rcases jc.1 h with h|h
      ·left;exact h
      ·right;exact h
   exact this _ _ ht
  rcases hp with rfl|hp
  ·have:=h.tm;have:=h.old f;show max S.tm (S.old f)<=_;omega
  ·exact h.act t hp
 ·show(if g=f then 0 else S.old g)<=_;have:=h.old g;split<;>omega
theorem Y4{L:List Tg}(h:ED L){t:Tg}(ht:t∈L)(nx:Int):(dU ⟨t.f,t.w,nx⟩ L).map (fun u=>(u.f,u.w))=L.map (fun u=>(u.f,u.w)):=by
 unfold dU;rw[List.map_map];refine List.map_congr_left fun u hu=>?_;show((if u.f=t.f then(⟨t.f,t.w,nx⟩:Tg)else u).f,(if u.f=t.f then(⟨t.f,t.w,nx⟩:Tg)else u).w)=(u.f,u.w);split
 ·rename_i e;rw[h.inj hu ht e]
 ·rfl
theorem TB.Rh(h:TB i S)(hi:i<=371){t:Tg}(ht:t∈S.L){len:Int}(h1:1<=len)(h2:len<=4096)(r:Int):
  (bF r S t.f len).1=0/\TB (i+1) (bF r S t.f len).2/\(bF r S t.f len).2.L.map (fun u=>(u.f,u.w))=S.L.map (fun u=>(u.f,u.w)):=by
 have hr:=h.ok.ok.fZ t ht;have hts:=h.act t ht;have hc:=mW hr.2.2.1 hr.2.2.2.1 h1 h2;have hg:cB S.L t.f=some t:=vH h.ok.ok ht;have hfin:mX t.s len t.w=(t.s+cst len t.w,0):=by unfold mX;rw[if_neg (by unfold lY;omega),if_neg (by omega)]
 have hq:bF r S t.f len=(0,vU r (EI S t (t.s+cst len t.w))):=by unfold bF;rw[hg];dsimp only;rw[hfin];rfl
 have hch:TB (i+1) (EI S t (t.s+cst len t.w)):=by
  refine⟨h.ok.ch ht (by omega),fun u hu=>?_,?_,fun f=>?_,h.aw0,?_⟩
  ·unfold EI dU at hu;dsimp only at hu;obtain⟨v,hv,rfl⟩:=gW.1 hu;have:=h.act v hv;split
   ·show t.s+cst len t.w<=_;push_cast;omega
   ·push_cast;omega
  ·show max S.tm t.s<=_;have:=h.tm;push_cast;omega
  ·have:=h.old f;show S.old f<=_;push_cast;omega
  ·have:=h.aw1;show S.aw<=_;push_cast;omega
 have hne:(EI S t (t.s+cst len t.w)).L≠[]:=zU (List.ne_nil_of_mem ht);have hpt:(EI S t (t.s+cst len t.w)).L.map (fun u=>(u.f,u.w))=S.L.map (fun u=>(u.f,u.w)):=Y4 h.ok.ok ht _;rw[hq];refine⟨rfl,?_,?_⟩
 ·dsimp only;unfold vU;split
  ·exact hch
  ·obtain⟨b0,b1,b2⟩:=EJ hch.ok hne;have Ul:=hch.tm;refine⟨hch.ok.sub b0 b1 b2,fun u hu=>?_,?_,fun f=>?_,?_,?_⟩
   ·unfold BL at hu;dsimp only at hu;obtain⟨v,hv,rfl⟩:=gW.1 hu;have:=hch.act v hv;show v.s-_<=_;omega
   ·show(EI S t (t.s+cst len t.w)).tm-_<=_;omega
   ·have:=hch.old f;show max ((EI S t (t.s+cst len t.w)).old f-_) 0<=_;omega
   ·show 0<=S.aw+_;have:=h.aw0;omega
   ·have:=h.aw1;show S.aw+Nu (EI S t (t.s+cst len t.w))<=_;have:(EI S t (t.s+cst len t.w)).tm<=1099511627776:=hch.ok.tm.2;push_cast;omega
 ·dsimp only;unfold vU;split
  ·exact hpt
  ·rw[<-hpt];unfold BL;dsimp only;rw[List.map_map];rfl
theorem Ph{j:Int}(h:(bC H j).good=true):∃x∈H,x.f=j/\bC H j=x:=by
 unfold bC at*;cases hf:H.find? (fun h=>h.f==j)with
 |none=>rw[hf]at h;cases h
 |some x=>exact⟨x,List.mem_of_find?_eq_some hf,by simpa using List.find?_some hf,rfl⟩
theorem Y5{L:List Tg}(h:jh L H=true):H.map (·.f)=L.map (·.f)/\∀x∈H,1<=x.len/\x.len<=4096:=by unfold jh at h;rw[Bt,xM,List.all_eq_true]at h;exact⟨h.1,fun x hx=>by simpa using h.2 x hx⟩
theorem Y6(hf:jh s.R.L H=true)(hne:H≠[]):pz aI s H=match Aw (Y3 s.m H) (uB (Eh s.m) s.R.L) (uB (·.s) s.R.L)with
  |none=>(gu,0,s)
  |some (k,j)=>if(bF aI s.R k.f (bC H j.f).len).1≠0 then(XV,(bF aI s.R k.f (bC H j.f).len).1,s)
   else if k.f=j.f then(⟨k.f,k.f,1⟩,0,⟨(bF aI s.R k.f (bC H j.f).len).2,s.m⟩)
   else(⟨k.f,j.f,5⟩,0,⟨(bF aI s.R k.f (bC H j.f).len).2,bA (bA s.m k.f (Cf (cu s.m k.f) (bC H j.f).len)) j.f (Cf (cu s.m j.f) (-(bC H j.f).len))⟩):=by
 unfold pz;rw[if_neg (by rw[hf];simp),if_neg hne];all_goals rfl
end
end Go.Proofs.YtfejhikpfhgbeaaGreatDoor
