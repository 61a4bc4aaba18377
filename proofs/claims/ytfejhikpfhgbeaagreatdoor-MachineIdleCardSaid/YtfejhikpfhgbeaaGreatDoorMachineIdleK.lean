import Derived.Lib.MinMax
import Derived.Test.YtfejhikpfhgbeaaGreatDoorMachineIdleB
import Derived.Test.YtfejhikpfhgbeaaGreatDoorMachineIdleJ
set_option maxHeartbeats 25600000
set_option maxRecDepth 100000
set_option linter.all false
namespace Go.Proofs.YtfejhikpfhgbeaaGreatDoor
open Go.Proofs.Tryz
open Go.RowKit
open SP
section
variable{W w w':aF}{b N:Nat}{L:List Tg}{R:aJ}
def sM(t:Tg):aL:=.agg #[t.w,t.s]
def fD(b N:Nat)(L:List Tg):SP:=ex fun(p:Nat×List (Int×Tg))=>st [pu (jC p.2 L/\qU N L),aH b 221 [.map (some p.1)],bB sM p.1 p.2]
theorem fD.iff:Own w (fD b N L::R)↔∃ab m,jC m L/\qU N L/\Own w (aH b 221 [.map (some ab)]::bB sM ab m::R):=by
 constructor
 ·intro o;obtain⟨⟨ab,m⟩,h⟩:=Own.ex.1 o;obtain⟨⟨h1,h2⟩,h5⟩:=Own.pu.1 (Own.st.1 h);exact⟨ab,m,h1,h2,h5⟩
 ·rintro⟨ab,m,h1,h2,h5⟩;exact Own.ex.2 ⟨(ab,m),Own.st.2 (Own.pu.2 ⟨⟨h1,h2⟩,h5⟩)⟩
theorem fD.le{M:Nat}(h:N<=M)(o:Own w (fD b N L::R)):Own w (fD b M L::R):=by obtain⟨ab,m,h1,h2,h3⟩:=fD.iff.1 o;exact fD.iff.2 ⟨ab,m,h1,h2.le h,h3⟩
theorem Tryz.zeroAcc(w:aF):(zeroValue 487).run prog w=.ok (.agg #[aC,aC]) w:=by kernel_rfl
section
variable{ab:Nat}{m:List (Int×Tg)}{k:Int}{t:Tg}
theorem qz(o:Own w (bB sM ab m::R))(hm:jC m L)(h:cB L k=some t):
  (Instr.lookup 219 (.map (some ab)) (.int .i64 k) true).run prog w=.ok (.tuple #[.agg #[t.w,t.s],.bool true]) w:=by
 rw[bI underlying219 underlying3 Tryz.zeroAcc o k true,hm.get,h];rfl
theorem BM(o:Own w (bB sM ab m::R))(hm:jC m L)(h:cB L k=some t):
  (Instr.lookup 219 (.map (some ab)) (.int .i64 k) false).run prog w=.ok (.agg #[t.w,t.s]) w:=by
 rw[bI underlying219 underlying3 Tryz.zeroAcc o k false,hm.get,h];rfl
theorem qA(o:Own w (bB sM ab m::R))(hm:jC m L)(h:cB L k=none):
  (Instr.lookup 219 (.map (some ab)) (.int .i64 k) true).run prog w=.ok (.tuple #[.agg #[aC,aC],.bool false]) w:=by
 rw[bI underlying219 underlying3 Tryz.zeroAcc o k true,hm.get,h];rfl
end
theorem Dh(o:Own w R):Calls prog 54 #[] w fun e w'=>∃b,aR (.pointer (some ⟨b,0,none⟩)) (fD b 0 []::R) w e w':=by have hmm:=@run_makeMap prog;go_enter func54,ntmps54;go_wp2;go_ret;have o1:=o.gF (f:=sM);have o2:=o1.alloc (.cells #[.map (some w.heap.size)] 221);simp only[World.size_alloc]at o2;exact⟨_,rfl,fD.iff.2 ⟨w.heap.size,[],jC.start,qU.start,o2⟩,⟨rfl,rfl,rfl⟩⟩
theorem LG(f wt:Int)(o:Own w (fD b N L::R)):
  Calls prog 350 #[b,f,wt] w (aR (.int .i64 (jD L f wt).1) (fD b N (jD L f wt).2::R) w):=by
 obtain⟨ab,m,hm,hok,o1⟩:=fD.iff.1 o;have c1:=o1.cell 0;have hok':=NM hok f wt;by_cases hbad:f<0\/32<=f\/wt<1\/16<wt
 ·have e:jD L f wt=(1,L):=by unfold jD;rw[if_pos hbad]
  rw[e];clear e hok';have fin:∀x,aR (.int .i64 1) (fD b N L::R) w (.returned (.int .i64 1)) (w.alloc x):=fun x=>⟨rfl,o.more x,⟨rfl,rfl,rfl⟩⟩;have key:∃(t:Tg)(z:Bool),(Instr.lookup 219 (.map (some ab)) (.int .i64 f) true).run prog w=.ok (.tuple #[.agg #[t.w,t.s],.bool z]) w:=by
   cases hf:cB L f with
   |none=>exact⟨⟨0,0,0⟩,false,qA (o1.up 1) hm hf⟩
   |some t=>exact⟨t,true,qz (o1.up 1) hm hf⟩
  obtain⟨t,z,hlk⟩:=key;by_cases h1:f<0
  ·clear hbad;go_enter func350,ntmps350;go_wp2;go_ret;exact fin _
  ·by_cases h2:32<=f
   ·clear hbad;go_enter func350,ntmps350;go_wp2;go_ret;exact fin _
   ·by_cases h3:wt<1
    ·clear hbad;go_enter func350,ntmps350;go_wp2;go_ret;exact fin _
    ·have h4:16<wt:=by omega
     clear hbad;go_enter func350,ntmps350;go_wp2;go_ret;exact fin _
 ·have h1:¬f<0:=by omega
  have h2:¬32<=f:=by omega
  have h3:¬wt<1:=by omega
  have h4:¬16<wt:=by omega
  cases hf:cB L f with
  |some t=>
   have e:jD L f wt=(7,L):=by unfold jD;rw[if_neg hbad,hf];rfl
   rw[e];clear e hbad hok';have hlk:=qz (o1.up 1) hm hf;clear hf;go_enter func350,ntmps350;go_wp2;go_ret;exact⟨rfl,o.more _,⟨rfl,rfl,rfl⟩⟩
  |none=>
   have e:jD L f wt=(0,jB ⟨f,wt,0⟩ L):=by unfold jD;rw[if_neg hbad,hf];rfl
   rw[e]at hok'⊢;clear e hbad;have hlk:=qA (o1.up 1) hm hf;have hom:=o1.alloc (.cells #[aC,aC] 487);have hrep:jC (bA m f ⟨f,wt,0⟩) (jB ⟨f,wt,0⟩ L):=hm.ins (x:=⟨f,wt,0⟩) hf (by refine⟨?_,?_,?_,?_⟩<;>(simp only;omega));have hbl:=o1.aS;clear hf;go_enter func350,ntmps350;go_wp2_with(at_mapUpdate;refine bg (f:=sM) rfl _ _ _ rfl underlying219 underlying3 (hom.up 2) f ⟨f,wt,0⟩ rfl rfl rfl ?c1);case c1=>
   intro w1 o2 k2;go_wp2;go_ret;exact⟨rfl,fD.iff.2 ⟨ab,_,hrep,hok',o2.re [1,2,0] 1⟩,k2.al⟩
def YH(L:List Tg)(f:Int):aL:=match cB L f with
 |some t=>.tuple #[t.s,.bool true]
 |none=>.tuple #[aC,.bool false]
theorem Di(f:Int)(o:Own w (fD b N L::R)):
  Calls prog 370 #[b,f] w (aR (YH L f) (fD b N L::R) w):=by
 obtain⟨ab,m,hm,hok,o1⟩:=fD.iff.1 o;have c1:=o1.cell 0;have key:∃(wt s:Int)(z:Bool),(Instr.lookup 219 (.map (some ab)) (.int .i64 f) true).run prog w=.ok (.tuple #[.agg #[wt,s],.bool z]) w/\YH L f=.tuple #[s,.bool z]:=by
  unfold YH;cases hf:cB L f with
  |none=>exact⟨0,0,false,qA (o1.up 1) hm hf,rfl⟩
  |some t=>exact⟨t.w,t.s,true,qz (o1.up 1) hm hf,rfl⟩
 obtain⟨wt,s,z,hlk,e⟩:=key;rw[e];clear e;go_enter func370,ntmps370;go_wp2;go_ret2;exact⟨rfl,o.more _,⟨rfl,rfl,rfl⟩⟩
end
section
variable{W w w':aF}{b N:Nat}{L:List Tg}{R:aJ}
theorem agY(x y:Int)(w:aF):(Instr.field 487 (.agg #[x,y]) 0).run prog w=.ok (.int .i64 x) w:=by kernel_rfl
def bM(L:List Tg):bO:=L.map fun t=>(t.f,t.w)
theorem lJ(L:List Tg):(bM L).length=L.length:=by unfold bM;rw[iP]
theorem OA(h:Ed L):lQ (bM L):=by
 refine⟨?_,fun p hp=>?_,by rw[lJ];exact h.len⟩
 ·unfold bM;rw[List.pairwise_map];exact h.yD
 ·obtain⟨t,ht,rfl⟩:=gW.1 hp;exact h.fZ t ht
theorem Uo(L:List Tg):xm (bM L)=wts L:=by unfold xm bM wts;rw[List.map_map];rfl
def acw(b ab:Nat)(L:List Tg)(m:List (Int×Tg))(a:aY)(cap:Nat)(ks:bq)(R:aJ)(w:aF)(v3 v13:aL)(wr:aF):Prop:=
 ∃(i:Nat)(a':aY)(c':Nat),v13=↑(i:Int)/\i<=L.length/\v3=.slice a' i c'/\
  Own wr (slc 493 2 a' i c' (flat part ((bM L).take i))::slc 3 1 a ks.length cap (ks.map (Value.int .i64))::aH b 221 [.map (some ab)]::bB sM ab m::R)/\Calm w wr
def VP(b N:Nat)(L:List Tg)(R:aJ)(w:aF)(e:Ending)(w':aF):Prop:=
 ∃(a:aY)(c:Nat),aR (.slice a L.length c) (slc 493 2 a L.length c (flat part (bM L))::fD b N L::R) w e w'
theorem xS(o:Own w (fD b N L::R)):
  Calls prog 368 #[b] w (VP b N L R w):=by
 obtain⟨ab,m,hm,hok,o1⟩:=fD.iff.1 o;have c1:=o1.cell 0;have hlen:=hm.ok.len;have hml:=hm.len;have hks:=hm.sort;have hbl:=o1.aS;go_enter func368,ntmps368;go_wp2_with fail;refine(LF _ _).mono ?_;rintro e1 w1⟨rfl,rfl⟩;have o2:=((o1.alloc (.cells #[.map (some ab)] 219)).up 2).up 1;go_wp2_with fail;refine(FK w.heap.size hm.Yb (by omega) o2).mono ?_;rintro e2 w2⟨a,cap,rfl,o3,k3⟩;rw[hks]at o3;have hkl:(L.map (·.f)).length=m.length:=by rw[iP,hml]
 rw[<-hkl]at o3⊢;have hget:∀(i:Nat)(t:Tg),L[i]?=some t->(L.map (·.f))[i]?=some t.f:=fun i t h=>by rw[kI,h];rfl
 have adH:=az hget;have hkn:(L.map (·.f)).length=L.length:=iP _;generalize L.map (·.f)=ks at*;have hT:acw b ab L m a cap ks R w (.slice none 0 0) (.int .i64 0) w2:=
  ⟨0,none,0,rfl,by omega,rfl,Own.bH (o3.re [0,2,1]),⟨k3.os,k3.tape,k3.output⟩⟩
 have Hkn:=az hkn;have LH:ks.length<=32:=by omega
 clear hkn hkl hks hml o3 k3 o2 o1 c1 hget hbl;go_wp2;go_loopw[3,13] (fun v3 v13 wr=>acw b ab L m a cap ks R w v3 v13 wr) (fun _ v13 _=>ks.length-(pM v13).toNat);case atStart=>exact hT
 case round=>
  clear hT;obtain⟨i,a',c',rfl,hi,rfl,oR,kR⟩:=hrel;by_cases hlt:i<ks.length
  ·obtain⟨t,ht⟩:∃t,L[i]?=some t:=⟨_,cZ (by have:=Hkn.out;omega)⟩;have hkt:=adH.out i t ht;obtain⟨g,rfl,hc,_,_⟩:=(oR.up 1).aG (by omega);have d0:=hc i t.f (by rw[kI,hkt];rfl);have c1:=(oR.up 2).cell 0;have hfg:=su hm.ok (mH ht);have hlk:=BM (oR.up 3) hm hfg;have htk:(bM L).take (i+1)=(bM L).take i++[(t.f,t.w)]:=by rw[tH];unfold bM;rw[kI,ht];rfl
   have VQ:=az htk;have hfl:=agY t.w t.s;have oA:=oR.alloc (.cells #[t.f,t.w] 493);clear hc hkt ht hfg htk;go_wp2_with(at_builtin;refine aU rfl _ _ rfl Tryz.partT rfl (oA.up 1) ⟨wr.heap.size,0,none⟩ 1 1 [t.f,t.w] rfl rfl ?c1 ?c2 ?c3 ?c4 ?c5);case c1=>exact Own.news (T:=493) oA
   case c2=>intro u hu;simp at hu;rcases hu with rfl|rfl<;>rfl
   case c3=>unfold maxLen;omega
   case c4=>omega
   case c5=>
   intro a2 c2 w5 o5 k5;go_wp2;go_roundw;case rel=>refine⟨i+1,a2,c2,by go_num,by have:=Hkn.out;omega,rfl,?_,kR.trans ⟨k5.os,k5.tape,k5.output⟩⟩;rw[VQ.out,aO];exact(o5.up 1).drop
   case measure=>simp[pM];omega
  ·have hin:i=L.length:=by have:=Hkn.out;omega
   subst hin;rw[List.take_of_length_le (by rw[lJ];omega)]at oR;go_wp2;go_ret;exact⟨a',c',rfl,Own.swap (fD.iff.2 ⟨ab,m,hm,hok,oR.re [1,2,3,0] 1⟩),kR⟩
theorem VS{l l':bq}(h:l.Perm l'):bG l=bG l':=by
 induction h with
 |nil=>rfl
 |cons x _ ih=>rw[aV,aV,ih]
 |swap x y l=>rw[aV,aV,aV,aV];omega
 |trans _ _ h1 h2=>rw[h1,h2]
theorem Ga{c s n:Int}(h:cB L c=none\/cB L s=none):j4 L c s n=(6,L):=by
 unfold j4;rcases h with h|h
 ·rw[h]
 ·rw[h];cases cB L c<;>rfl
theorem yQ{c s n:Int}{a d:Tg}(hc:cB L c=some a)(hs:cB L s=some d):j4 L c s n=
  if n<1\/4096<n then(1,L)else if c=s then(0,L)
  else if 1099511627776<a.s+n\/1099511627776<d.s-n\/a.s+n< -1099511627776\/d.s-n< -1099511627776 then(2,L)
  else(0,dU ⟨s,d.w,d.s-n⟩ (dU ⟨c,a.w,a.s+n⟩ L)):=by
 unfold j4;rw[hc,hs]
theorem JZ{ab:Nat}{m:List (Int×Tg)}(o:Own w (bB sM ab m::R))(hm:jC m L)(k:Int):
  ∃(wt s:Int)(z:Bool),(Instr.lookup 219 (.map (some ab)) (.int .i64 k) true).run prog w=.ok (.tuple #[.agg #[wt,s],.bool z]) w/\(z=true->∃t,cB L k=some t/\t.w=wt/\t.s=s)/\(z=false->cB L k=none):=by
 cases hf:cB L k with
 |none=>exact⟨0,0,false,qA o hm hf,fun h=>by simp at h,fun _=>rfl⟩
 |some t=>exact⟨t.w,t.s,true,qz o hm hf,fun _=>⟨t,rfl,rfl,rfl⟩,fun h=>by simp at h⟩
def nU(c s:Int)(a d:Tg)(x y:Int)(m:List (Int×Tg))(L:Nat->Bool):List (Int×Tg):=
 if L 17 then bA (bA m c ⟨c,a.w,x⟩) s ⟨s,d.w,y⟩else if L 14 then bA m c ⟨c,a.w,x⟩else m
def afh(b h g ab:Nat)(c s:Int)(a d:Tg)(x y:Int)(m:List (Int×Tg))(R:aJ)(w:aF)(L:Nat->Bool)(v:Nat->aL)(wc:aF):Prop:=
 Own wc (bB sM ab (nU c s a d x y m L)::aH g 487 [d.w,y]::aH h 487 [a.w,x]::aH b 221 [.map (some ab)]::R)/\Calm w wc/\
 ((L 0=true->v 0=.pointer (some ⟨b,0,none⟩))/\(L 1=true->v 1=.pointer (some ⟨b,0,none⟩))/\(L 2=true->v 2=.pointer (some ⟨b,0,none⟩))/\(L 3=true->v 3=.map (some ab))/\
 (L 4=true->v 4=↑c)/\(L 5=true->v 5=.pointer (some ⟨b,0,none⟩))/\(L 6=true->v 6=.pointer (some ⟨b,0,none⟩))/\(L 7=true->v 7=.pointer (some ⟨b,0,none⟩))/\
 (L 8=true->v 8=.map (some ab))/\(L 9=true->v 9=↑s)/\(L 10=true->v 10=.agg #[a.w,x])/\(L 11=true->v 11=.agg #[d.w,y]))/\
 (L 12=true->∃born:Nat,v 12=.tuple #[sM a,(born:Int)]/\(L 13=true->v 13=↑(born:Int))/\(L 14=false->oz m wc ab c born))/\
 (L 15=true->∃born:Nat,v 15=.tuple #[sM d,(born:Int)]/\(L 16=true->v 16=↑(born:Int))/\(L 17=false->oz (bA m c ⟨c,a.w,x⟩) wc ab s born))/\
 (L 13=true->L 12=true)/\(L 14=true->L 13=true)/\(L 15=true->L 14=true)/\(L 16=true->L 15=true)/\(L 17=true->L 16=true)
theorem L8(c s n:Int)(hN:(N:Int)<=1000000000000)(o:Own w (fD b N L::R)):
  Calls prog 365 #[b,c,s,n] w (aR (.int .i64 (j4 L c s n).1) (fD b (N+1) (j4 L c s n).2::R) w):=by
 obtain⟨ab,m,hm,hok,o1⟩:=fD.iff.1 o;have o':=fD.le (Nat.le_succ N) o;obtain⟨-,hbl,c1,-⟩:=o1.cs;have hbn:b≠w.heap.size:=by omega
 have aiz:b≠w.heap.size+1:=by omega
 obtain⟨wa,sa,za,hla,ta,fa⟩:=JZ (o1.up 1) hm c;obtain⟨wd,sd,zd,hld,td,fd⟩:=JZ ((o1.alloc (.cells #[wa,sa] 487)).up 2) hm s;have fin:∀x y,aR (.int .i64 6) (fD b (N+1) L::R) w (.returned (.int .i64 6)) ((w.alloc x).alloc y):=fun x y=>⟨rfl,(o'.more x).more y,⟨rfl,rfl,rfl⟩⟩;cases za with
 |false=>
  rw[Ga (.inl (fa rfl))];clear ta fa td fd;cases zd;all_goals
   go_enter func365,ntmps365;go_wp2;go_ret;exact fin _ _
 |true=>
  cases zd with
  |false=>rw[Ga (.inr (fd rfl))];clear ta fa td fd;go_enter func365,ntmps365;go_wp2;go_ret;exact fin _ _
  |true=>
   obtain⟨a,hfa,rfl,rfl⟩:=ta rfl;obtain⟨d,YT,rfl,rfl⟩:=td rfl;rw[yQ hfa YT];clear fin ta fa td fd;by_cases hbad:n<1\/4096<n
   ·rw[if_pos hbad];have fin:∀x y,aR (.int .i64 1) (fD b (N+1) L::R) w (.returned (.int .i64 1)) ((w.alloc x).alloc y):=fun x y=>⟨rfl,(o'.more x).more y,⟨rfl,rfl,rfl⟩⟩;by_cases h1:n<1
    ·clear hbad;go_enter func365,ntmps365;go_wp2;go_ret;exact fin _ _
    ·have h2:4096<n:=by omega
     clear hbad;go_enter func365,ntmps365;go_wp2;go_ret;exact fin _ _
   ·rw[if_neg hbad];have h1:¬n<1:=by omega
    have h2:¬4096<n:=by omega
    clear hbad;by_cases hcs:c=s
    ·rw[if_pos hcs];subst hcs;have fin:∀x y,aR (.int .i64 0) (fD b (N+1) L::R) w (.returned (.int .i64 0)) ((w.alloc x).alloc y):=fun x y=>⟨rfl,(o'.more x).more y,⟨rfl,rfl,rfl⟩⟩;go_enter func365,ntmps365;go_wp2;go_ret;exact fin _ _
    ·rw[if_neg hcs];have hcb:(c==s)=false:=by simpa using hcs
     have afi:=hok.lag (cK hfa).1;have afj:=hok.lag (cK YT).1;have hra:=hok.ok.fZ a (cK hfa).1;have hrd:=hok.ok.fZ d (cK YT).1;obtain⟨x,hx⟩:=aP (a.s+n);obtain⟨y,hy⟩:=aP (d.s-n);have wx:IntKind.i64.wrap (a.s+n)=x:=by rw[gB];omega
     have wy:IntKind.i64.wrap (d.s-n)=y:=by rw[gB];omega
     have hms:=Ff hok c s n;rw[yQ hfa YT,if_neg (by omega),if_neg hcs]at hms;rw[hx,hy]at hms⊢;obtain⟨M,hM⟩:=aP (max x y);obtain⟨K,hK⟩:=aP (min x y);by_cases hr:1099511627776<x\/1099511627776<y\/x< -1099511627776\/y< -1099511627776
     ·rw[if_pos hr];clear hms hx hy afi afj hra hrd;by_cases hM2:1099511627776<M
      ·have f1:decide (1099511627776<M)=true:=bz hM2;go_enter func365,ntmps365;go_wp2;go_ret;exact⟨rfl,(o'.more _).more _,⟨rfl,rfl,rfl⟩⟩
      ·have f1:decide (1099511627776<M)=false:=bW hM2;have f2:=bz (show K< -1099511627776 by omega);go_enter func365,ntmps365;go_wp2;go_ret;exact⟨rfl,(o'.more _).more _,⟨rfl,rfl,rfl⟩⟩
     ·rw[if_neg hr]at hms⊢;have f1:=bW (show¬(1099511627776<M)by omega);have f2:=bW (show¬(K< -1099511627776)by omega);have Uy:jC (bA m c ⟨c,a.w,x⟩) (dU ⟨c,a.w,x⟩ L):=hm.set (x:=⟨c,a.w,x⟩) (by show cB L c≠none;rw[hfa];simp) (by have:=(cK hfa).2;refine⟨?_,?_,?_,?_⟩<;>(simp only;omega));have adJ:cB (dU ⟨c,a.w,x⟩ L) s=some d:=by have h5:=su Uy.ok (vJ (cK YT).1 (x:=⟨c,a.w,x⟩) (by have:=(cK YT).2;simp only;omega));rw[(cK YT).2]at h5;exact h5
      have afk:jC (bA (bA m c ⟨c,a.w,x⟩) s ⟨s,d.w,y⟩) (dU ⟨s,d.w,y⟩ (dU ⟨c,a.w,x⟩ L)):=Uy.set (x:=⟨s,d.w,y⟩) (by show cB _ s≠none;rw[adJ];simp) (by have:=(cK YT).2;refine⟨?_,?_,?_,?_⟩<;>(simp only;omega));have hga:a_ m c=some a:=by rw[hm.get];exact hfa
      have hgd:a_ (bA m c ⟨c,a.w,x⟩) s=some d:=by rw[Uy.get];exact adJ
      have hok2:=hms.1;have oA:=o1.alloc (.cells #[a.w,.int .i64 x] 487);have oB:=oA.alloc (.cells #[d.w,.int .i64 y] 487);clear hms hr hx hy afi afj hra hrd Uy adJ hfa YT o' hm hok;go_enter func365,ntmps365;go_wp2;refine bY (afh b w.heap.size (w.heap.size+1) ab c s a d x y m R w) (by kernel_rfl) (by kernel_rfl) (by kernel_rfl) ?h0 ?step ?fin;case h0=>have F:∀{p:Prop},false=true->p:=fun h=>(zH h).elim;simp only[World.size_alloc]at oB;exact⟨(oB.re [3,0,1,2]).drew,⟨rfl,rfl,rfl⟩,⟨F,F,F,F,F,F,F,F,F,F,F,F⟩,F,F,F,F,F,F,F⟩
      case step=>
       refine⟨au.mk rfl ?_,au.mk rfl ?_,au.mk rfl ?_,au.mk rfl ?_,au.mk rfl ?_,au.mk rfl ?_,au.mk rfl ?_,au.mk rfl ?_,au.mk rfl ?_,au.mk rfl ?_,au.mk rfl ?_,au.mk rfl ?_,au.mk rfl ?_,au.mk rfl ?_,au.mk rfl ?_,au.mk rfl ?_,au.mk rfl ?_,au.mk rfl ?_,trivial⟩;all_goals intro L v ac wc hL hd hA hI K' hK
       all_goals obtain⟨oD,kD,⟨f0,f1,f2,f3,f4,f5,f6,f7,f8,f9,f10,f11⟩,e12,e15,uu,uw,uy,sO,uz⟩:=hI
       all_goals simp[Region.binds]at hd
       ·have c0:=hA.base 0 (by rfl);simp only[o_,pJ,p8]at c0;go_simp;exact hK.out _ _ ⟨oD,kD,⟨fun _=>rfl,f1,f2,f3,f4,f5,f6,f7,f8,f9,f10,f11⟩,e12,e15,uu,uw,uy,sO,uz⟩
       ·have c0:=(hA.get 0 hd).trans (f0 hd);go_simp;exact hK.out _ _ ⟨oD,kD,⟨f0,fun _=>rfl,f2,f3,f4,f5,f6,f7,f8,f9,f10,f11⟩,e12,e15,uu,uw,uy,sO,uz⟩
       ·have c0:=(hA.get 1 hd).trans (f1 hd);go_simp;exact hK.out _ _ ⟨oD,kD,⟨f0,f1,fun _=>rfl,f3,f4,f5,f6,f7,f8,f9,f10,f11⟩,e12,e15,uu,uw,uy,sO,uz⟩
       ·have c0:=(hA.get 2 hd).trans (f2 hd);have cc:=(oD.up 3).cell 0;go_simp;exact hK.out _ _ ⟨oD,kD,⟨f0,f1,f2,fun _=>rfl,f4,f5,f6,f7,f8,f9,f10,f11⟩,e12,e15,uu,uw,uy,sO,uz⟩
       ·have c0:=hA.base 1 (by rfl);simp only[o_,pJ,rO,p8]at c0;go_simp;exact hK.out _ _ ⟨oD,kD,⟨f0,f1,f2,f3,fun _=>rfl,f5,f6,f7,f8,f9,f10,f11⟩,e12,e15,uu,uw,uy,sO,uz⟩
       ·have c0:=hA.base 0 (by rfl);simp only[o_,pJ,p8]at c0;go_simp;exact hK.out _ _ ⟨oD,kD,⟨f0,f1,f2,f3,f4,fun _=>rfl,f6,f7,f8,f9,f10,f11⟩,e12,e15,uu,uw,uy,sO,uz⟩
       ·have c0:=(hA.get 5 hd).trans (f5 hd);go_simp;exact hK.out _ _ ⟨oD,kD,⟨f0,f1,f2,f3,f4,f5,fun _=>rfl,f7,f8,f9,f10,f11⟩,e12,e15,uu,uw,uy,sO,uz⟩
       ·have c0:=(hA.get 6 hd).trans (f6 hd);go_simp;exact hK.out _ _ ⟨oD,kD,⟨f0,f1,f2,f3,f4,f5,f6,fun _=>rfl,f8,f9,f10,f11⟩,e12,e15,uu,uw,uy,sO,uz⟩
       ·have c0:=(hA.get 7 hd).trans (f7 hd);have cc:=(oD.up 3).cell 0;go_simp;exact hK.out _ _ ⟨oD,kD,⟨f0,f1,f2,f3,f4,f5,f6,f7,fun _=>rfl,f9,f10,f11⟩,e12,e15,uu,uw,uy,sO,uz⟩
       ·have c0:=hA.base 2 (by rfl);simp only[o_,pJ,rO,p8]at c0;go_simp;exact hK.out _ _ ⟨oD,kD,⟨f0,f1,f2,f3,f4,f5,f6,f7,f8,fun _=>rfl,f10,f11⟩,e12,e15,uu,uw,uy,sO,uz⟩
       ·have c0:=hA.base 9 (by rfl);simp only[o_,pJ,rO,p8]at c0;obtain⟨-,-,cc,cc1,-⟩:=(oD.up 2).cs;go_simp;exact hK.out _ _ ⟨oD,kD,⟨f0,f1,f2,f3,f4,f5,f6,f7,f8,f9,fun _=>rfl,f11⟩,e12,e15,uu,uw,uy,sO,uz⟩
       ·have c0:=hA.base 11 (by rfl);simp only[o_,pJ,rO,p8]at c0;obtain⟨-,-,cc,cc1,-⟩:=(oD.up 1).cs;go_simp;exact hK.out _ _ ⟨oD,kD,⟨f0,f1,f2,f3,f4,f5,f6,f7,f8,f9,f10,fun _=>rfl⟩,e12,e15,uu,uw,uy,sO,uz⟩
       ·have c0:=(hA.get 3 hd.1).trans (f3 hd.1);have c4:=(hA.get 4 hd.2.1).trans (f4 hd.2.1);have n13:L 13=false:=by cases h:L 13 with|false=>rfl|true=>rw[uu h]at hL;cases hL
        have n14:L 14=false:=by cases h:L 14 with|false=>rfl|true=>rw[uw h]at n13;cases n13
        have n15:L 15=false:=by cases h:L 15 with|false=>rfl|true=>rw[uy h]at n14;cases n14
        have n16:L 16=false:=by cases h:L 16 with|false=>rfl|true=>rw[sO h]at n15;cases n15
        have n17:L 17=false:=by cases h:L 17 with|false=>rfl|true=>rw[uz h]at n16;cases n16
        have eM:nU c s a d x y m L=m:=by unfold nU;rw[n17,n14];rfl
        rw[eM]at oD;obtain⟨w2,born,hr,hB,o2,k2⟩:=jQ underlying219 underlying3 oD c hga;have o3:Own w2 (bB sM ab (nU c s a d x y m L)::aH (w.heap.size+1) 487 [d.w,.int .i64 y]::aH w.heap.size 487 [a.w,.int .i64 x]::aH b 221 [.map (some ab)]::R):=by rw[eM];exact o2
        go_simp;exact hK.out _ _ ⟨o3,kD.trans k2,⟨f0,f1,f2,f3,f4,f5,f6,f7,f8,f9,f10,f11⟩,fun _=>⟨born,rfl,fun h=>(zH (n13.symm.trans h)).elim,fun _=>hB⟩,fun h=>(zH (n15.symm.trans h)).elim,fun h=>rfl,uw,uy,sO,uz⟩
       ·obtain⟨born,h12,EK,hB⟩:=e12 hd;have c0:=(hA.get 12 hd).trans h12;go_simp;exact hK.out _ _ ⟨oD,kD,⟨f0,f1,f2,f3,f4,f5,f6,f7,f8,f9,f10,f11⟩,fun _=>⟨born,h12,fun _=>rfl,hB⟩,e15,fun _=>hd,fun h=>rfl,uy,sO,uz⟩
       ·obtain⟨born,h12,EK,hB⟩:=e12 hd.2.2.2.1;have c0:=(hA.get 3 hd.1).trans (f3 hd.1);have c1':=(hA.get 13 hd.2.1).trans (EK hd.2.1);have c2:=(hA.get 10 hd.2.2.1).trans (f10 hd.2.2.1);have adK:=hd.2.1;have n15:L 15=false:=by cases h:L 15 with|false=>rfl|true=>rw[uy h]at hL;cases hL
        have n16:L 16=false:=by cases h:L 16 with|false=>rfl|true=>rw[sO h]at n15;cases n15
        have n17:L 17=false:=by cases h:L 17 with|false=>rfl|true=>rw[uz h]at n16;cases n16
        have eM:nU c s a d x y m L=m:=by unfold nU;rw[n17,hL];rfl
        rw[eM]at oD;obtain⟨w2,hr,o2,k2⟩:=fM (P:=prog) (t:=219) oD c ⟨c,a.w,x⟩ (hB hL);have o3:Own w2 (bB sM ab (nU c s a d x y m (dI L 14))::aH (w.heap.size+1) 487 [d.w,.int .i64 y]::aH w.heap.size 487 [a.w,.int .i64 x]::aH b 221 [.map (some ab)]::R):=by
         have:nU c s a d x y m (dI L 14)=bA m c ⟨c,a.w,x⟩:=by unfold nU;rw[show dI L 14 17=L 17 from rfl,n17];rfl
         rw[this];exact o2
        have hr':(Instr.entryStore 219 (.map (some ab)) (.int .i64 (born:Int)) (.agg #[a.w,.int .i64 x])).run prog wc=.ok () w2:=hr;go_simp;exact hK.out undef _ ⟨o3,kD.trans k2,⟨f0,f1,f2,f3,f4,f5,f6,f7,f8,f9,f10,f11⟩,fun h=>⟨born,h12,EK,fun h=>(zH h.symm).elim⟩,fun h=>(zH (n15.symm.trans h)).elim,uu,fun _=>adK,fun h=>rfl,sO,uz⟩
       ·have c0:=(hA.get 8 hd.1).trans (f8 hd.1);have c4:=(hA.get 9 hd.2.1).trans (f9 hd.2.1);have J2:=hd.2.2.1;have n16:L 16=false:=by cases h:L 16 with|false=>rfl|true=>rw[sO h]at hL;cases hL
        have n17:L 17=false:=by cases h:L 17 with|false=>rfl|true=>rw[uz h]at n16;cases n16
        have eM:nU c s a d x y m L=bA m c ⟨c,a.w,x⟩:=by unfold nU;rw[n17,J2];rfl
        rw[eM]at oD;obtain⟨w2,born,hr,hB,o2,k2⟩:=jQ underlying219 underlying3 oD s hgd;have o3:Own w2 (bB sM ab (nU c s a d x y m L)::aH (w.heap.size+1) 487 [d.w,.int .i64 y]::aH w.heap.size 487 [a.w,.int .i64 x]::aH b 221 [.map (some ab)]::R):=by rw[eM];exact o2
        have RJ:∃born:Nat,v 12=.tuple #[sM a,(born:Int)]/\(L 13=true->v 13=↑(born:Int))/\(L 14=false->oz m w2 ab c born):=by obtain⟨b0,h1,h2,_⟩:=e12 (uu (uw J2));exact⟨b0,h1,h2,fun h=>(by rw[J2]at h;cases h)⟩
        go_simp;exact hK.out _ _ ⟨o3,kD.trans k2,⟨f0,f1,f2,f3,f4,f5,f6,f7,f8,f9,f10,f11⟩,fun _=>RJ,fun _=>⟨born,rfl,fun h=>(zH (n16.symm.trans h)).elim,fun _=>hB⟩,uu,uw,fun _=>J2,fun h=>rfl,uz⟩
       ·obtain⟨born,h12,EK,hB⟩:=e15 hd;have c0:=(hA.get 15 hd).trans h12;go_simp;exact hK.out _ _ ⟨oD,kD,⟨f0,f1,f2,f3,f4,f5,f6,f7,f8,f9,f10,f11⟩,e12,fun _=>⟨born,h12,fun _=>rfl,hB⟩,uu,uw,uy,fun _=>hd,fun h=>rfl⟩
       ·obtain⟨born,h12,EK,hB⟩:=e15 hd.2.2.2.1;have c0:=(hA.get 8 hd.1).trans (f8 hd.1);have c1':=(hA.get 16 hd.2.1).trans (EK hd.2.1);have c2:=(hA.get 11 hd.2.2.1).trans (f11 hd.2.2.1);have YU:=hd.2.1;have J2:=uy (sO YU);have eM:nU c s a d x y m L=bA m c ⟨c,a.w,x⟩:=by unfold nU;rw[hL,J2];rfl
        rw[eM]at oD;obtain⟨w2,hr,o2,k2⟩:=fM (P:=prog) (t:=219) oD s ⟨s,d.w,y⟩ (hB hL);have o3:Own w2 (bB sM ab (nU c s a d x y m (dI L 17))::aH (w.heap.size+1) 487 [d.w,.int .i64 y]::aH w.heap.size 487 [a.w,.int .i64 x]::aH b 221 [.map (some ab)]::R):=o2;have hr':(Instr.entryStore 219 (.map (some ab)) (.int .i64 (born:Int)) (.agg #[d.w,.int .i64 y])).run prog wc=.ok () w2:=hr;have RJ:∃born:Nat,v 12=.tuple #[sM a,(born:Int)]/\(L 13=true->v 13=↑(born:Int))/\(L 14=false->oz m w2 ab c born):=by obtain⟨b0,h1,h2,_⟩:=e12 (uu (uw J2));exact⟨b0,h1,h2,fun h=>(by rw[J2]at h;cases h)⟩
        go_simp;exact hK.out undef _ ⟨o3,kD.trans k2,⟨f0,f1,f2,f3,f4,f5,f6,f7,f8,f9,f10,f11⟩,fun _=>RJ,fun h=>⟨born,h12,EK,fun h=>(zH h.symm).elim⟩,uu,uw,uy,sO,fun _=>YU⟩
      case fin=>
       rintro L v wc hall⟨oD,kD,_⟩;have eM:nU c s a d x y m L=bA (bA m c ⟨c,a.w,x⟩) s ⟨s,d.w,y⟩:=by unfold nU;rw[hall 17 (by decide)];rfl
       rw[eM]at oD;clear hall;simp only[jV,Act.put,List.setIfInBounds_toArray,List.set_cons_zero,List.set_cons_succ];go_wp2;go_ret;exact⟨rfl,fD.iff.2 ⟨ab,_,afk,hok2,oD.re [3,0,1,2]|>.re [0,1]|>fun q=>(q.up 2).drop.up 2|>.drop⟩,kD⟩
theorem J3{x:Tg}:∀{L:List Tg},(∀t∈L,t.f≠x.f)->dU x L=L
 |[],_=>rfl
 |a::L,h=>by show(if a.f=x.f then x else a)::dU x L=_;rw[if_neg (h a (by simp)),J3 fun t ht=>h t (by simp[ht])]
theorem J4:∀{L:List Tg}{Q:bq}{i:Nat}{t:Tg}{q:Int},(L.map (·.f)).Pairwise (·<·)->L[i]?=some t->Q[i]?=some q->
  (yE L (Q.take i))[i]?=some t/\dU ⟨t.f,t.w,t.s+q⟩ (yE L (Q.take i))=yE L (Q.take (i+1))
 |[],_,i,t,q,_,h,_=>by simp at h
 |_::_,[],i,t,q,_,_,h=>by simp at h
 |a::L,p::Q,0,t,q,hp,h,h'=>by rw[iD,List.pairwise_cons]at hp;simp only[pJ,Option.some.injEq]at h h';subst h;subst h';rw[List.take_zero,zL];refine⟨rfl,?_⟩;show(if a.f=a.f then(⟨a.f,a.w,a.s+p⟩:Tg)else a)::dU ⟨a.f,a.w,a.s+p⟩ L=⟨a.f,a.w,a.s+p⟩::yE L [];rw[if_pos rfl,zL,J3];intro u hu;have:=hp.1 u.f (gW.2 ⟨u,hu,rfl⟩);simp only;omega
 |a::L,p::Q,i+1,t,q,hp,h,h'=>by rw[iD,List.pairwise_cons]at hp;rw[rO]at h h';obtain⟨h1,h2⟩:=J4 (L:=L) (Q:=Q) hp.2 h h';rw[xe,xe,sw,sw];refine⟨by rw[rO];exact h1,?_⟩;have hlt:=hp.1 t.f (gW.2 ⟨t,mH h,rfl⟩);show(if a.f=t.f then _ else _)::dU _ _=_;rw[if_neg (by omega),h2]
theorem qU.del(h:qU N L){t:Tg}(ht:t∈L):qU N (j3 t.f L):=
 ⟨h.ok.del _,by have h1:=(Bz h.ok.Yf ht).1;have h2:=h.sm;have h3:=xh t.s;omega⟩
def acD(b ab h:Nat)(t:Tg)(D:List Tg)(Q:bq)(ga pa:aY)(gc pc:Nat)(R:aJ)(w:aF)(v41:aL)(wr:aF):Prop:=
 ∃(i:Nat)(m:List (Int×Tg)),v41=↑(i:Int)/\i<=D.length/\jC m (yE D (Q.take i))/\
  Own wr (aH b 221 [.map (some ab)]::bB sM ab m::slc 2 1 ga D.length gc (iB Q)::slc 493 2 pa D.length pc (flat part (bM D))::aH h 487 [t.w,t.s]::R)/\Calm w wr
theorem IZ(f:Int)(hN:(N:Int)<=1000000000000)(o:Own w (fD b N L::R)):
  Calls prog 352 #[b,f] w (aR (.tuple #[.int .i64 (ou L f).1.1,.int .i64 (ou L f).1.2]) (fD b N (ou L f).2::R) w):=by
 obtain⟨ab,m,hm,hok,o1⟩:=fD.iff.1 o;obtain⟨-,hbl,c1,-⟩:=o1.cs;cases hf:cB L f with
 |none=>
  have e:ou L f=((0,6),L):=by unfold ou;rw[hf]
  rw[e];clear e;have hlk:=qA (o1.up 1) hm hf;clear hf;go_enter func352,ntmps352;go_wp2;go_ret2;exact⟨rfl,o.more _,⟨rfl,rfl,rfl⟩⟩
 |some t=>
  have e:ou L f=((t.s,0),yE (j3 f L) (bV t.s (wts (j3 f L)))):=by unfold ou;rw[hf]
  have hok':=Vw hok f;rw[e]at hok'⊢;clear e;obtain⟨ht,rfl⟩:=cK hf;have hlk:=qz (o1.up 1) hm hf;have hbn:b≠w.heap.size:=by omega
  have YV:=hok.del ht;have acE:=hm.del t.f;have hts:=hok.lag ht;have o2:=o1.alloc (.cells #[t.w,t.s] 487);have Aj:=OA YV.ok;have hpw:=Uo (j3 t.f L);have acF:∀u∈j3 t.f L,-(8192*(N:Int))<=u.s/\u.s<=8192*(N:Int):=fun u hu=>YV.lag hu;generalize j3 t.f L=D at*;have HLD:=az acF;clear acF;go_enter func352,ntmps352;go_wp2_with(first|fail|(at_delete;refine dL rfl _ _ rfl underlying219 underlying3 (o2.up 2) t.f rfl rfl ?c2));case c2=>
  intro w1 o3 k3;have o4:Own w1 (fD b N D::blk w.heap.size (.cells #[t.w,t.s] 487)::R):=fD.iff.2 ⟨ab,_,acE,YV,o3.re [2,0,1]⟩;go_wp2_with fail;refine(xS o4).mono ?_;rintro e1 w2⟨pa,pc,rfl,o5,k5⟩;have cA:=(o5.up 2).cell (T:=487) (vs:=[t.w,t.s]) 1;have hsp:=zX (w:=w2) (c:=pc) t.s (by unfold Go.Proofs.YtfejhikpfhgbeaaGreatDoor.ab;omega) (ry pa D.length pc (bM D) (lJ D).symm) Aj (lJ D).symm o5;go_wp2_with fail;refine hsp.mono ?_;rintro e2 w3⟨ga,gc,rfl,o6,k6⟩;rw[Uo,lJ]at o6;rw[lJ];obtain⟨er,her⟩:∃er:Int,(if bM D=[]then(5:Int)else 0)=er:=⟨_,rfl⟩;rw[her];clear her;obtain⟨ab3,m3,Ny,aa9,o7⟩:=fD.iff.1 (o6.up 2);have hQl:(bV t.s (wts D)).length=D.length:=by rw[tK];unfold wts;rw[iP]
  have hQa:=zK t.s (Uf aa9.ok);have afl:Go.Proofs.YtfejhikpfhgbeaaGreatDoor.ab t.s<=8192*(N:Int):=by unfold Go.Proofs.YtfejhikpfhgbeaaGreatDoor.ab;omega
  generalize bV t.s (wts D)=Q at*;have hasc:=aa9.ok.Yf;have aiA:=aa9.ok.len;have hAD:=HLD.out;have hT:acD b ab3 w.heap.size t D Q ga pa gc pc R w (.int .i64 0) w3:=⟨0,m3,rfl,by omega,by rw[List.take_zero,zL];exact Ny,o7.re [0,1,2,3,4],((⟨k3.os,k3.tape,k3.output⟩:Calm w w1).trans k5).trans k6⟩;have HQ:=az hQl;have HQA:=az (And.intro hQa afl);have HO':=az hok';have ag4:=az hasc;have ag5:=az YV;have HN:=az hN;have ag6:=az hAD;clear hQl hQa afl hok' hasc YV hN hAD o7 o6 o5 o4 o3 o2 o1 o hsp cA k6 k5 k3 Aj hpw acE hm hok Ny aa9 ht hlk hts hbl hbn c1;go_wp2;go_loopw[41] (fun v wr=>acD b ab3 w.heap.size t D Q ga pa gc pc R w v wr) (fun v _=>D.length-(pM v).toNat);case atStart=>exact hT
  case round=>
   clear hT;obtain⟨i,m,rfl,hi,hm,oR,kR⟩:=hrel;by_cases hlt:i<D.length
   ·obtain⟨u,hu⟩:∃u,D[i]?=some u:=⟨_,cZ hlt⟩;obtain⟨q,hq⟩:∃q,Q[i]?=some q:=⟨_,cZ (by rw[HQ.out];exact hlt)⟩;obtain⟨hg,hset⟩:=J4 (Q:=Q) (q:=q) ag4.out hu hq;have hfg:=su hm.ok (mH hg);have hlk:=BM (oR.drew.up 1) hm hfg;obtain⟨g,rfl,hc,_,_⟩:=(oR.up 2).aG (by omega);have d0:=hc i (.int .i64 q) (by unfold iB;rw[kI,hq];rfl);obtain⟨gp,rfl,d1,d2⟩:=mY (oR.up 3) (i:=i) (y:=(u.f,u.w)) (by unfold bM;rw[kI,hu];rfl) (by omega);have c1:=oR.cell 0;dsimp only at d1 d2;have hu2:=ag6.out u (mH hu);have hq2:Go.Proofs.YtfejhikpfhgbeaaGreatDoor.ab q<=8192*(N:Int):=Int.le_trans (vL (mH hq)) (Int.le_trans HQA.out.1 HQA.out.2);have hur:=ag5.out.ok.fZ u (mH hu);have hw:IntKind.i64.wrap (u.s+q)=u.s+q:=by have:=HN.out;unfold Go.Proofs.YtfejhikpfhgbeaaGreatDoor.ab at hq2;rw[gB];omega
    have hrep:jC (bA m u.f ⟨u.f,u.w,u.s+q⟩) (yE D (Q.take (i+1))):=by rw[<-hset];exact hm.set (x:=⟨u.f,u.w,u.s+q⟩) (by show cB _ u.f≠none;rw[hfg];simp) (by refine⟨?_,?_,?_,?_⟩<;>(simp only;omega))
    have HR:=az hrep;have oA:=oR.alloc (.cells #[u.w,(u.s+q:Int)] 487);clear hc hg hset hu hq hu2 hq2 hur hrep;have lbl:=oR.aS;have hbw:b≠wr.heap.size:=by omega
    have hgp:gp<wr.heap.size:=World.block_lt_of_cell? _ _ d1;have hgw:gp≠wr.heap.size:=by omega
    have hlk2:=BM ((oR.alloc (.cells #[aC,aC] 487)).drew.up 2) hm hfg;clear hfg hm;go_wp2;go_region_law(fail);all_goals go_wp2
    all_goals refine wp_region_tail 10 (by kernel_rfl) (by kernel_rfl) ?_
    all_goals simp only[xe,List.take_zero,yB,List.drop_zero]
    all_goals repeat still_step
    all_goals refine wpStill_nil ?_
    all_goals go_wp2_with(at_mapUpdate;refine bg (f:=sM) rfl _ _ _ rfl underlying219 underlying3 ((oA.up 2).drewN 2) u.f ⟨u.f,u.w,u.s+q⟩ rfl rfl rfl ?_)
    all_goals
     intro w4 o4 k4;go_wp2;go_roundw;case rel=>exact⟨i+1,_,by go_num,by omega,HR.out,o4.re [1,2,0,3,4,5] 1,kR.trans ⟨k4.os,k4.tape,k4.output⟩⟩
     case measure=>simp[pM];omega
   ·have hin:i=D.length:=by omega
    subst hin;rw[List.take_of_length_le (by rw[HQ.out];omega)]at hm;obtain⟨-,-,c0,c1,-⟩:=(oR.up 4).cs;go_wp2;go_ret2;exact⟨rfl,fD.iff.2 ⟨_,_,hm,HO'.out,oR.re [2,3,4,0,1] 3⟩,kR⟩
end
end Go.Proofs.YtfejhikpfhgbeaaGreatDoor
