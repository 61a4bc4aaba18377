import Derived.Shelf.Bits.Mul64
import Derived.Laws.Rows
import Derived.Laws.MakeOwn
import Derived.Test.YtfejhikpfhgbeaaGreatDoorMachineIdleA
set_option maxHeartbeats 25600000
set_option maxRecDepth 100000
set_option linter.all false
namespace Go.Proofs.YtfejhikpfhgbeaaGreatDoor
open Go.Proofs.Tryz
open Go.RowKit
open SP
section
open Go.Shelf
def Tryz.mul64_ren:Go.Shelf.Ren:=⟨fun|264=>251|n=>n,fun|53=>251|46=>264|n=>n,fun|n=>n⟩
theorem Tryz.mul64:Go.Proofs.Lays.n264 prog Tryz.mul64_ren:={
 mixed:=by kernel_rfl
 f264:=func251.trans (congrArg some (by kernel_rfl))
 t46:=underlying264
 a46:=isAgg264
 z46:=sizeOf264
 v46:=zeroValue264
 t53:=underlying251
 a53:=isAgg251
 z53:=sizeOf251
 v53:=zeroValue251}
end
section
open Go.Shelf
section
variable{w w':aF}{R:aJ}
theorem size_pos(x:Nat)(hx:x<=9223372036854775807):Calls prog 199 #[(x:Int)] w (bN (.int .u64 (x:Int)) w):=by
 have hw:IntKind.u64.wrap (x:Int)=(x:Int):=by rw[IntKind.wrap_u64];omega
 go_enter func199,ntmps199;go_wp2;go_ret;exact⟨rfl,rfl⟩
theorem Yg(x:Nat)(h0:0<x)(hx:x<=9223372036854775807):Calls prog 199 #[(-(x:Int):Int)] w (bN (.int .u64 (x:Int)) w):=by
 have hd:=bz (show-(x:Int)<0 by omega);have hw:IntKind.u64.wrap (-IntKind.u64.wrap (-(x:Int)))=(x:Int):=by rw[IntKind.wrap_u64,IntKind.wrap_u64];omega
 go_enter func199,ntmps199;go_wp2;go_ret;exact⟨rfl,rfl⟩
theorem pK(x y:Nat)(hx:x<18446744073709551616)(hy:y<18446744073709551616)(hp:x*y<9223372036854775808)(o:Own w R):
  Calls prog 201 #[.int .u64 (x:Int),.int .u64 (y:Int)] w (aR (.agg #[.int .u64 0,.int .u64 ((x*y:Nat):Int)]) R w):=by
 have hm:∀W:aF,Calls prog 251 #[.int .u64 (x:Int),.int .u64 (y:Int)] W fun e w'=>e=.returned (.tuple #[.int .u64 0,.int .u64 ((x*y:Nat):Int)])/\w'=W:=fun W=>by have:=Any.bits_Mul64 Tryz.mul64 x y hx hy W;rw[Nat.div_eq_of_lt (by omega),Nat.mod_eq_of_lt (by omega)]at this;exact this
 have HM:=az hm;clear hm;go_enter func201,ntmps201;go_wp2_with fail;refine(HM.out _).mono ?_;rintro e1 w1⟨rfl,rfl⟩;go_wp2;refine bodyPost_ret (v:=.agg #[.int .u64 0,.int .u64 ((x*y:Nat):Int)]) ?_ rfl ?_
 ·exact results_cell_row rfl _ _ w.heap.size _ _ (0,0) _ rfl (heap_alloc_new _ _) underlying352 rfl (by kernel_rfl)
 ·exact⟨rfl,(o.alloc _).drop,⟨rfl,rfl,rfl⟩⟩
theorem Q4(x y:Nat)(hx:x<18446744073709551616)(hy:y<18446744073709551616)(h0:0<y):
  Calls prog 250 #[.int .u64 0,.int .u64 (x:Int),.int .u64 (y:Int)] w (fun e w'=>e=.returned (.tuple #[.int .u64 ((x/y:Nat):Int),.int .u64 ((x%y:Nat):Int)])/\∃m,w'=w.drewN m):=by
 have h1:¬(y:Int)=0:=by omega
 have h2:=bW (show¬((y:Int)<=0)by omega);have hq:x/y<=x:=Nat.div_le_self x y;have hw:IntKind.u64.wrap ((x:Int)/(y:Int))=((x/y:Nat):Int):=by
  rw[IntKind.wrap_u64,<-Int.natCast_ediv];have hq2:x/y<18446744073709551616:=by omega
  generalize x/y=q at*;omega
 have hr:(x:Int)%(y:Int)=((x%y:Nat):Int):=(Int.natCast_emod x y).symm;go_enter func250,ntmps250;go_wp2;go_quiet(fail);go_wp2;go_ret2;exact⟨rfl,_,rfl⟩
theorem zM(x d:Nat)(hx:x<9223372036854775808)(hd:d<9223372036854775808)(h0:0<d)(o:Own w R):
  Calls prog 200 #[.agg #[.int .u64 0,.int .u64 (x:Int)],.int .u64 (d:Int)] w (aR (.tuple #[.int .u64 ((x/d:Nat):Int),.int .u64 ((x%d:Nat):Int),aC]) R w):=by
 have h1:=bW (show¬((d:Int)<=0)by omega);have h2:¬(d:Int)=0:=by omega
 have hm:∀W:aF,Calls prog 250 #[.int .u64 0,.int .u64 (x:Int),.int .u64 (d:Int)] W (fun e w'=>e=.returned (.tuple #[.int .u64 ((x/d:Nat):Int),.int .u64 ((x%d:Nat):Int)])/\∃m,w'=W.drewN m):=
  fun W=>Q4 x d (by omega) (by omega) h0
 have HM:=az hm;clear hm;generalize x/d=q at*;generalize x%d=r at*;go_enter func200,ntmps200;go_wp2_with fail;refine(HM.out _).mono ?_;rintro e1 w1⟨rfl,m,rfl⟩;go_wp2
 go_ret3
 exact⟨rfl,o.more _,⟨rfl,rfl,rfl⟩⟩
theorem aaR(r d:Nat)(neg:Bool):Calls prog 202 #[.int .u64 (r:Int),.int .u64 (d:Int),(if neg then 1 else 0:Int),.bool neg] w (bN (.bool false) w):=by
 cases neg;all_goals
  go_enter func202,ntmps202;go_wp2;go_ret;exact⟨rfl,rfl⟩
theorem vM(q:Nat)(neg:Bool)(hq:q<9223372036854775808):Calls prog 203 #[.int .u64 (q:Int),.bool neg] w (bN (.tuple #[(if neg then-(q:Int)else(q:Int):Int),aC]) w):=by
 have h1:IntKind.i64.wrap (IntKind.u64.wrap (-(q:Int)))=-(q:Int):=by rw[IntKind.wrap_u64,gB];omega
 have h2:IntKind.i64.wrap (q:Int)=(q:Int):=by rw[gB];omega
 have h3:=bz (show(q:Int)<=9223372036854775808 by omega);have h4:=bz (show(q:Int)<=9223372036854775807 by omega);cases neg;all_goals
  go_enter func203,ntmps203;go_wp2;go_ret2;exact⟨rfl,rfl⟩
theorem NP(x b c:Nat)(neg:Bool)(hn:neg=true->0<x)(hx:x<9223372036854775808)(hb:b<9223372036854775808)(hp:x*b<9223372036854775808)(hc:c<9223372036854775808)(h0:0<c)(o:Own w R):
  Calls prog 152 #[(if neg then-(x:Int)else(x:Int):Int),(b:Int),(c:Int),(if neg then 1 else 0:Int)] w
   (aR (.tuple #[(if neg then-((x*b/c:Nat):Int)else((x*b/c:Nat):Int):Int),aC]) R w):=by
 have hsa:∀W:aF,Calls prog 199 #[(if neg then-(x:Int)else(x:Int):Int)] W (bN (.int .u64 (x:Int)) W):=fun W=>by
  cases neg with
  |false=>exact size_pos x (by omega)
  |true=>exact Yg x (hn rfl) (by omega)
 have HSA:=az hsa;have hsb:∀W:aF,Calls prog 199 #[(b:Int)] W (bN (.int .u64 (b:Int)) W):=fun W=>size_pos b (by omega);have HSB:=az hsb;have hsc:∀W:aF,Calls prog 199 #[(c:Int)] W (bN (.int .u64 (c:Int)) W):=fun W=>size_pos c (by omega);have Yh:=az hsc;have hq:x*b/c<=x*b:=Nat.div_le_self _ _;have hM:∀(W:aF)(R':aJ),Own W R'->Calls prog 201 #[.int .u64 (x:Int),.int .u64 (b:Int)] W (aR (.agg #[.int .u64 0,.int .u64 ((x*b:Nat):Int)]) R' W):=
  fun W R' o'=>pK x b (by omega) (by omega) hp o'
 have HM:=az hM;have hD:∀(W:aF)(R':aJ),Own W R'->Calls prog 200 #[.agg #[.int .u64 0,.int .u64 ((x*b:Nat):Int)],.int .u64 (c:Int)] W (aR (.tuple #[.int .u64 ((x*b/c:Nat):Int),.int .u64 ((x*b%c:Nat):Int),aC]) R' W):=
  fun W R' o'=>zM (x*b) c hp hc h0 o'
 have HD:=az hD;have hS:∀W:aF,Calls prog 203 #[.int .u64 ((x*b/c:Nat):Int),.bool neg] W (bN (.tuple #[(if neg then-((x*b/c:Nat):Int)else((x*b/c:Nat):Int):Int),aC]) W):=
  fun W=>vM (x*b/c) neg (by omega)
 have HS:=az hS;have hA:∀W:aF,Calls prog 202 #[.int .u64 ((x*b%c:Nat):Int),.int .u64 (c:Int),(if neg then 1 else 0:Int),.bool neg] W (bN (.bool false) W):=
  fun W=>aaR (x*b%c) c neg
 have HA:=az hA;clear hsa hsb hsc hM hD hS hA;generalize x*b/c=q at*;generalize x*b%c=r at*;generalize x*b=p at*;have hcn:=bW (show¬((c:Int)<0)by omega);have hbn:=bW (show¬((b:Int)<0)by omega);cases neg with
 |false=>
  have han:=bW (show¬((x:Int)<0)by omega);go_enter func152,ntmps152;go_wp2_with fail;refine(Yh.out _).mono ?_;rintro e1 w1⟨rfl,rfl⟩;go_wp2_with fail;refine(HSA.out _).mono ?_;rintro e1 w1⟨rfl,rfl⟩;go_wp2_with fail;refine(HSB.out _).mono ?_;rintro e1 w1⟨rfl,rfl⟩;go_wp2_with fail;refine(HM.out _ _ o).mono ?_;rintro e1 w1⟨rfl,o1,k1⟩;go_wp2_with fail;refine(HD.out _ _ o1).mono ?_;rintro e2 w2⟨rfl,o2,k2⟩;by_cases hr:r=0
  ·subst hr;go_wp2_with fail;refine(HS.out _).mono ?_;rintro e3 w3⟨rfl,rfl⟩;go_wp2;go_ret2;exact⟨rfl,o2,k1.trans k2⟩
  ·have hr0:=bz (show 0<r by omega);go_wp2_with fail;refine(HA.out _).mono ?_;rintro e3 w3⟨rfl,rfl⟩;go_wp2_with fail;refine(HS.out _).mono ?_;rintro e3 w3⟨rfl,rfl⟩;go_wp2;go_ret2;exact⟨rfl,o2,k1.trans k2⟩
 |true=>
  have han:decide (-(x:Int)<0)=true:=bz (by have:=hn rfl;omega);go_enter func152,ntmps152;go_wp2_with fail;refine(Yh.out _).mono ?_;rintro e1 w1⟨rfl,rfl⟩;go_wp2_with fail;refine(HSA.out _).mono ?_;rintro e1 w1⟨rfl,rfl⟩;go_wp2_with fail;refine(HSB.out _).mono ?_;rintro e1 w1⟨rfl,rfl⟩;go_wp2_with fail;refine(HM.out _ _ o).mono ?_;rintro e1 w1⟨rfl,o1,k1⟩;go_wp2_with fail;refine(HD.out _ _ o1).mono ?_;rintro e2 w2⟨rfl,o2,k2⟩;by_cases hr:r=0
  ·subst hr;go_wp2_with fail;refine(HS.out _).mono ?_;rintro e3 w3⟨rfl,rfl⟩;go_wp2;go_ret2;exact⟨rfl,o2,k1.trans k2⟩
  ·have hr0:=bz (show 0<r by omega);go_wp2_with fail;refine(HA.out _).mono ?_;rintro e3 w3⟨rfl,rfl⟩;go_wp2_with fail;refine(HS.out _).mono ?_;rintro e3 w3⟨rfl,rfl⟩;go_wp2;go_ret2;exact⟨rfl,o2,k1.trans k2⟩
def pM:aL->Int
 |.int _ q=>q
 |_=>0
end
end
section
variable{w w':aF}{R:aJ}
structure lQ(l:bO):Prop where
 yD:l.Pairwise (fun a b=>a.1<b.1)
 fZ:∀p∈l,0<=p.1/\p.1<32/\1<=p.2/\p.2<=16
 len:l.length<=32
def xm(l:bO):bq:=l.map (·.2)
def acu(l:bO)(Sp:SP)(R:aJ)(w:aF)(v3 v8:aL)(wr:aF):Prop:=
 ∃(i:Nat)(last:Int),v8=↑(i:Int)/\v3=↑last/\i<=l.length/\(∀t,l[i]?=some t->last<t.1)/\Own wr (Sp::R)/\Calm w wr
theorem zW{Sp:SP}{l:bO}{a:aY}{n c:Nat}(hS:PartsAt Sp a l)(hok:lQ l)(hn:n=l.length)(o:Own w (Sp::R)):
  Calls prog 386 #[.slice a n c] w (aR (.bool true) (Sp::R) w):=by
 have hT:acu l Sp R w (.int .i64 (-1)) (.int .i64 0) w:=⟨0,-1,rfl,rfl,by omega,fun t ht=>by have:=hok.fZ t (mH ht);omega,o,Calm.refl w⟩;have hl:=hok.len;have hn2:n<=32:=by omega
 have aiw:=bz (show(n:Int)<=64 by omega);have Hn:=az hn;clear hn;go_enter func386,ntmps386;go_wp2;go_loopw[3,8] (fun v3 v8 wr=>acu l Sp R w v3 v8 wr) (fun _ v8 _=>n-(pM v8).toNat);case atStart=>exact hT
 case round=>
  clear hT;obtain⟨i,last,rfl,rfl,hi,hlast,oR,kR⟩:=hrel;by_cases hlt:i<n
  ·obtain⟨t,ht⟩:∃t,l[i]?=some t:=⟨_,cZ (by have:=Hn.out;omega)⟩;obtain⟨g,so,rfl,d0,d1⟩:=hS _ _ oR i _ ht;have h1:=hlast t ht;have h2:=hok.fZ t (mH ht);have hnext:∀u,l[i+1]?=some u->t.1<u.1:=fun u hu=>by have:=List.pairwise_iff_getElem.1 hok.yD i (i+1) (eU.1 ht).1 (eU.1 hu).1 (by omega);rw[(eU.1 ht).2,(eU.1 hu).2]at this;exact this
   have HN:=az hnext;obtain⟨x,y⟩:=t;dsimp only at d0 d1 h1 h2 HN;clear ht hlast hnext;obtain⟨h2,h3,h4,h5⟩:=h2;have f1:=bW (show¬(x<=last)by omega);have f2:=bW (show¬(y<1)by omega);have f3:=bW (show¬(2147483648<y)by omega);have oA:=oR.alloc (.cells #[x,y] 493);go_wp2;go_roundw;case rel=>exact⟨i+1,x,by go_num,rfl,by have:=Hn.out;omega,HN.out,oA.drop,⟨kR.os,kR.tape,kR.output⟩⟩
   case measure=>simp[pM];omega
  ·go_wp2;go_ret;exact⟨rfl,oR,kR⟩
theorem YD(x b c:Nat)(neg:Bool):((if neg then-(x:Int)else(x:Int))*(b:Int)).tdiv (c:Int)=if neg then-((x*b/c:Nat):Int)else((x*b/c:Nat):Int):=by
 cases neg
 ·show((x:Int)*(b:Int)).tdiv (c:Int)=_;rw[<-Int.natCast_mul];rfl
 ·show(-(x:Int)*(b:Int)).tdiv (c:Int)=-_;rw[Int.neg_mul,Int.neg_tdiv,<-Int.natCast_mul];rfl
theorem agW(a:Int):∃(x:Nat)(neg:Bool),(a=if neg then-(x:Int)else(x:Int))/\(neg=true->0<x)/\neg=decide (a<0)/\(x:Int)=ab a:=by
 by_cases h:a<0
 ·exact⟨(-a).toNat,true,by simp;omega,fun _=>by omega,by simp[h],by unfold ab;omega⟩
 ·exact⟨a.toNat,false,by simp;omega,fun h=>by simp at h,by simp[h],by unfold ab;omega⟩
theorem YE(x b:Nat)(hx:x<=36028797018963968)(hb:b<=16):x*b<9223372036854775808:=by have:=Nat.mul_le_mul hx hb;omega
theorem LD(a wt T:Int)(ha:ab a<=36028797018963968)(h1:1<=wt)(h2:wt<=16)(h3:1<=T)(h4:T<=1000000)(o:Own w R):
  Calls prog 152 #[a,wt,T,(if a<0 then 1 else 0:Int)] w (aR (.tuple #[((a*wt).tdiv T:Int),aC]) R w):=by
 obtain⟨x,neg,e,hn,hd,hx⟩:=agW a;obtain⟨b,rfl⟩:∃b:Nat,wt=(b:Int):=⟨wt.toNat,by omega⟩;obtain⟨c,rfl⟩:∃c:Nat,T=(c:Int):=⟨T.toNat,by omega⟩;have:=NP x b c neg hn (by omega) (by omega) (YE x b (by omega) (by omega)) (by omega) (by omega) o;rw[<-YD,<-e]at this;have e2:(if a<0 then(1:Int)else 0)=if neg then 1 else 0:=by rw[hd];by_cases h:a<0<;>simp[h]
 rw[e2];exact this
def iB(l:bq):dw:=l.map (Value.int .i64)
theorem VL(n:Nat):madeCells (Value.int .i64 0).cells n=(List.replicate n (Value.int .i64 0)).toArray:=by apply Array.ext';unfold madeCells;simp only[Array.toList_map,Array.toList_range];refine List.ext_getElem (by simp) fun i h1 h2=>?_;simp only[List.getElem_map,List.getElem_range,List.getElem_replicate];show(#[Value.int .i64 0]:Array aL)[i%1]! =_;rw[Nat.mod_one];rfl
theorem JL(n:Nat)(hn:n<=1000000)(W:aF):
  (Instr.makeSlice 79 (.int .i64 (n:Int)) (.int .i64 (n:Int))).run prog W=.ok (.slice (some ⟨W.heap.size,0,none⟩) n n) (W.alloc (.cells (List.replicate n (Value.int .i64 0)).toArray 2)):=by
 have hh:(prog.info? 2).map (fun i=>(i.zero,i.size,i.bytes))=some (some (.int .i64 0),1,8):=by kernel_rfl
 obtain⟨i,hi,he⟩:=Option.map_eq_some_iff.1 hh;simp only[Prod.mk.injEq]at he;obtain⟨hz,hs,hb⟩:=he;have:=run_make (P:=prog) W 79 2 i (.int .i64 0) underlying79 hi hz .i64 .i64 (n:Int) (n:Int) (by omega) (Int.le_refl _) (by rw[hb];omega) (by omega);rw[hs,Int.toNat_natCast,Nat.mul_one,VL]at this;exact this
theorem aa3{l:bO}(h:lQ l):∀x∈xm l,1<=x:=by intro x hx;obtain⟨p,hp,rfl⟩:=gW.1 hx;exact(h.fZ p hp).2.2.1
theorem Un:∀(l:bq),(∀x∈l,x<=16)->bG l<=16*(l.length:Int)
 |[],_=>by show(0:Int)<=_;simp
 |x::l,h=>by have:=Un l fun y hy=>h y (by simp[hy]);have:=h x (by simp);rw[aV,List.length_cons];omega
theorem vW:∀(l:bq),(∀x∈l,0<=x)->0<=bG l
 |[],_=>Int.le_refl _
 |x::l,h=>by have:=vW l fun y hy=>h y (by simp[hy]);have:=h x (by simp);rw[aV];omega
def adE(l:bO)(Sp:SP)(R:aJ)(w:aF)(v6 v24:aL)(wr:aF):Prop:=
 ∃(i:Nat)(s:Int),v24=↑(i:Int)/\v6=↑s/\i<=l.length/\0<=s/\s+bG (xm (l.drop i))=bG (xm l)/\Own wr (Sp::R)/\Calm w wr
def adF(a T:Int)(l:bO)(g:Nat)(Sp:SP)(R:aJ)(w:aF)(v11 v41:aL)(wr:aF):Prop:=
 ∃(i:Nat)(s:Int),v41=↑(i:Int)/\v11=↑(a-s:Int)/\i<=l.length/\s=bG ((eF a T (xm l)).take i)/\ab s<=(i:Int)*36028797018963968/\
  Own wr (aH g 2 (iB ((eF a T (xm l)).take i)++List.replicate (l.length-i) (.int .i64 0))::Sp::R)/\Calm w wr
def Ri(a:Int)(l:bO)(Sp:SP)(R:aJ)(w:aF)(e:Ending)(w':aF):Prop:=
 ∃g c,e=.returned (.tuple #[.slice g l.length c,(if l=[]then 5 else 0:Int)])/\Own w' (slc 2 1 g l.length c (iB (bV a (xm l)))::Sp::R)/\Calm w w'
theorem YF{l:bO}{i:Nat}{p:Int×Int}(h:l[i]?=some p):bG (xm (l.drop i))=p.2+bG (xm (l.drop (i+1))):=by rw[drop_cons h];rfl
theorem FJ{l:bO}{i:Nat}{p:Int×Int}(a T:Int)(h:l[i]?=some p):(eF a T (xm l))[i]?=some ((a*p.2).tdiv T):=by unfold eF xm;rw[kI,kI,h];rfl
theorem JM{l:bq}{i:Nat}{x:Int}(h:l[i]?=some x):l.take (i+1)=l.take i++[x]:=by rw[tH,h];rfl
theorem VM(l:bq)(x:Int):bG (l++[x])=bG l+x:=by rw[CS];show _+(x+0)=_;omega
theorem yL(a T:Int)(W:bq):(eF a T W).length=W.length:=by unfold eF;rw[iP]
theorem VN{ds:bq}{i n:Nat}{x:Int}(hx:ds[i]?=some x)(hi:i<n):
  (iB (ds.take i)++List.replicate (n-i) (Value.int .i64 0)).set i (.int .i64 x)=iB (ds.take (i+1))++List.replicate (n-(i+1)) (Value.int .i64 0):=by
 have hl:(iB (ds.take i)).length=i:=by unfold iB;rw[iP,rZ];have:=(eU.1 hx).1;omega
 rw[List.set_append_right _ _ (by omega),hl,Nat.sub_self,JM hx];obtain⟨k,hk⟩:∃k,n-i=k+1:=⟨n-i-1,by omega⟩;rw[hk,List.replicate_succ,List.set_cons_zero,show n-(i+1)=k by omega];unfold iB;rw[tJ,List.append_assoc];rfl
theorem JN(a y s:Int)(h0:0<=y)(h1:y<=s)(hs:1<=s):ab ((a*y).tdiv s)<=ab a:=by
 have h:((a*y).tdiv s).natAbs<=a.natAbs:=by
  rw[Int.natAbs_tdiv,Int.natAbs_mul];have hys:y.natAbs<=s.natAbs:=by omega
  have:a.natAbs*y.natAbs<=a.natAbs*s.natAbs:=Nat.mul_le_mul_left _ hys
  calc a.natAbs*y.natAbs/s.natAbs<=a.natAbs*s.natAbs/s.natAbs:=Nat.div_le_div_right this
   _=a.natAbs:=Nat.mul_div_cancel _ (by omega)
 unfold ab;omega
theorem rz:∀{l:bq},(∀x∈l,0<=x)->∀{y:Int},y∈l->y<=bG l
 |x::l,h,y,hy=>by
  have h1:=vW l fun z hz=>h z (by simp[hz]);rw[aV];rcases jc.1 hy with rfl|hy
  ·omega
  ·have:=rz (fun z hz=>h z (by simp[hz])) hy;have:=h x (by simp);omega
theorem YG{ds:bq}{j n:Nat}(hl:ds.length=n)(hj:j<n):
  (iB (ds.take j)++List.replicate (n-j) (Value.int .i64 0))[j]?=some ↑aC:=by
 have h:(iB (ds.take j)).length=j:=by unfold iB;rw[iP,rZ];omega
 rw[List.getElem?_append_right (by omega),h,Nat.sub_self,List.getElem?_replicate,if_pos (by omega)]
theorem VO{ds:bq}{n:Nat}(hl:ds.length=n):iB (ds.take n)++List.replicate (n-n) (Value.int .i64 0)=iB ds:=by rw[Nat.sub_self,List.replicate_zero,List.append_nil,List.take_of_length_le (by omega)]
theorem adG{a:Int}{l:bO}{Sp:SP}{R:aJ}{w w1:aF}{g:Nat}{q0:Int}{ds:bq}(hd:eF a (bG (xm l)) (xm l)=q0::ds)(hl:l.length<=32)
  (o:Own w1 (aH g 2 ((iB (q0::ds)).set 0 (.int .i64 (q0+(a-bG (q0::ds)))))::Sp::R))(k:Calm w w1)(hne:l≠[]):
  Ri a l Sp R w (.returned (.tuple #[.slice (some ⟨g,0,none⟩) l.length l.length,aC])) w1:=by
 have hlen:(q0::ds).length=l.length:=by rw[<-hd,yL];unfold xm;rw[iP]
 refine⟨some ⟨g,0,none⟩,l.length,by rw[if_neg hne],Own.slc.2 (.inr ⟨g,[],rfl,by omega,by unfold maxLen;omega,?_,by simp,?_⟩),k⟩
 ·unfold iB bV;rw[iP,JC,hd,hlen,Nat.mul_one]
 ·rw[List.append_nil];unfold bV;rw[hd];exact o
theorem zX{Sp:SP}{l:bO}{ar:aY}{n c:Nat}(a:Int)(ha:ab a<=36028797018963968)(hS:PartsAt Sp ar l)(hok:lQ l)(hn:n=l.length)(o:Own w (Sp::R)):
  Calls prog 369 #[.int .i64 a,.slice ar n c] w (Ri a l Sp R w):=by
 have hv:=zW (c:=c) hS hok hn o;have hl:=hok.len;have hn2:n<=32:=by omega
 by_cases h0:l=[]
 ·subst h0;have:n=0:=hn;subst this;clear hn hl hn2 hok hS;go_enter func369,ntmps369;go_wp2_with fail;refine hv.mono ?_;rintro e1 w1⟨rfl,o1,k1⟩;go_wp2;go_ret2;exact⟨none,0,rfl,o1.bH,k1⟩
 ·have hpos:0<n:=by rw[hn];exact List.length_pos_iff.2 h0
  have hn0:((n:Int)==0)=false:=by simp;omega
  have hrest:∀p∈l,1<=p.2/\p.2<=16:=fun p hp=>⟨(hok.fZ p hp).2.2.1,(hok.fZ p hp).2.2.2⟩;have acv:0<bG (xm l):=zJ (by unfold xm;simpa using h0) (aa3 hok);have agX:bG (xm l)<=16*(l.length:Int):=by
   have:=Un (xm l) fun x hx=>by obtain⟨p,hp,rfl⟩:=List.mem_map.1 hx;exact(hrest p hp).2
   unfold xm at this;rw[List.length_map]at this;exact this
  have hdrop:∀i,0<=bG (xm (l.drop i)):=fun i=>vW _ fun x hx=>by obtain⟨p,hp,rfl⟩:=List.mem_map.1 hx;have:=hrest p (List.mem_of_mem_drop hp);omega
  have HTl:=az (show bG (xm l)<=512 by omega);have HTp:=az acv;have HN:=az hn;have HDr:=az hdrop;have Oz:=az hrest;have H0:=az h0;have hmk:=JL n (by omega);clear hn acv agX hdrop hrest hl h0;go_enter func369,ntmps369;go_wp2_with fail;refine hv.mono ?_;rintro e1 w1⟨rfl,o1,k1⟩;clear hv;go_wp2;go_loopw[6,24] (fun v6 v24 wr=>adE l Sp R w v6 v24 wr) (fun _ v _=>n-(pM v).toNat);case atStart=>exact⟨0,0,rfl,rfl,by omega,by omega,by rw[List.drop_zero];omega,o1,k1⟩
  case round=>
   obtain⟨i,s,rfl,rfl,hi,hs0,hs,oR,kR⟩:=hrel;by_cases hlt:i<n
   ·obtain⟨t,ht⟩:∃t,l[i]?=some t:=⟨_,List.getElem?_eq_getElem (by have:=HN.out;omega)⟩;obtain⟨g,so,rfl,d0,d1⟩:=hS _ _ oR i _ ht;have h2:=Oz.out t (List.mem_of_getElem? ht);have hs2:=hs;rw[YF ht]at hs2;have hdn:=HDr.out (i+1);have QO:=HTl.out;obtain⟨x,y⟩:=t;dsimp only at d0 d1 h2 hs2;have hw:IntKind.i64.wrap (s+y)=s+y:=by rw[IntKind.wrap_i64];omega
    have hlen:=HN.out;have HS:=az hs2;have HL:=az hlen;clear hs2 hdn QO hs ht hlen;go_wp2;go_roundw;case rel=>exact⟨i+1,s+y,by go_num,rfl,by have:=HL.out;omega,by omega,by have:=HS.out;omega,(oR.alloc _).drop,⟨kR.os,kR.tape,kR.output⟩⟩
    case measure=>simp[pM];omega
   ·have hil:i=l.length:=by have:=HN.out;omega
    have hsT:s=bG (xm l):=by rw[hil,List.drop_length]at hs;have:bG (xm ([]:bO))=0:=rfl;omega
    have HT1:=az hsT;have hT1:1<=s/\s<=512:=by have:=HTl.out;have:=HTp.out;omega
    clear hsT hs hil hs0;have hMD:∀(x:Int)(W:aF)(R':aJ),1<=x->x<=16->Own W R'->Calls prog 152 #[.int .i64 a,.int .i64 x,.int .i64 s,.int .i64 (if a<0 then 1 else 0)] W (aR (.tuple #[.int .i64 ((a*x).tdiv s),.int .i64 0]) R' W):=
     fun x W R' h1 h2 o'=>LD a x s ha h1 h2 (by omega) (by omega) o'
    have HMD:=az hMD;clear hMD;obtain⟨rd,hrd⟩:∃x:Int,(if a<0 then(1:Int)else 0)=x:=⟨_,rfl⟩;rw[hrd]at HMD;by_cases hneg:a<0
    case' pos=>have f1:decide (a<0)=true:=decide_eq_true hneg;rw[if_pos hneg]at hrd;subst hrd
    case' neg=>have f1:decide (a<0)=false:=decide_eq_false hneg;rw[if_neg hneg]at hrd;subst hrd
    all_goals
     have HA:=az ha;have aix:=az hneg;clear hneg ha hT1;go_wp2;have oZ:=oR.alloc (.cells (List.replicate n (Value.int .i64 0)).toArray 2);generalize hg:wr.heap.size=g at*;have HG:=az hg;clear hg;go_loopw[11,41] (fun v11 v41 wr'=>adF a s l g Sp R w v11 v41 wr') (fun _ v _=>n-(pM v).toNat);case atStart=>exact⟨0,0,rfl,by rw[Int.sub_zero],by omega,rfl,by decide,by rw[List.take_zero,Nat.sub_zero,<-HN.out];exact oZ,⟨kR.os,kR.tape,kR.output⟩⟩
     case round=>
      obtain⟨j,sm,rfl,rfl,hj,hsm,hsb,oQ,kQ⟩:=hrel;by_cases hlt2:j<n
      ·obtain⟨t,ht⟩:∃t,l[j]?=some t:=⟨_,List.getElem?_eq_getElem (by have:=HN.out;omega)⟩;obtain⟨g2,so,rfl,d0,d1⟩:=hS _ _ (oQ.up 1) j _ ht;have h2:=Oz.out t (List.mem_of_getElem? ht);have hget:=FJ a s ht;obtain⟨x,y⟩:=t;dsimp only at d0 d1 h2 hget;obtain⟨q,hq⟩:=aP ((a*y).tdiv s);have hcall:=fun(W:aF)(R':aJ)(o':Own W R')=>HMD.out y W R' h2.1 h2.2 o';rw[hq]at hcall
       have hy:y<=s:=by rw[HT1.out];exact rz (fun z hz=>by
        obtain⟨p,hp,rfl⟩:=List.mem_map.1 hz
        have:=Oz.out p hp;omega) (List.mem_map.2 ⟨(x,y),List.mem_of_getElem? ht,rfl⟩)
       have hqa:ab q<=36028797018963968:=by rw[<-hq];exact Int.le_trans (JN a y s (by omega) hy (by omega)) HA.out
       have hla:(eF a s (xm l)).length=l.length:=by rw[yL];unfold xm;rw[List.length_map]
       have hA2:=HA.out;have hj2:(j:Int)<=31:=by omega
       have hw:IntKind.i64.wrap (a-sm-q)=a-(sm+q):=by unfold ab at hsb hqa hA2;rw[IntKind.wrap_i64];omega
       have ae6:ab (sm+q)<=((j+1:Nat):Int)*36028797018963968:=by unfold ab at hsb hqa⊢;omega
       rw[hq]at hget;have HC:=az hcall;have HB2:=az ae6;have Nv:=HN.out;have c0z:=YG (j:=j) hla (by omega);have hzs:=VN (n:=l.length) hget (by omega);have ae7:sm+q=bG ((eF a s (xm l)).take (j+1)):=by rw[JM hget,VM,<-hsm]
       have HS2:=az ae7;have HZS:=az hzs;have HZ:=az c0z;have aa4:=az Nv;clear hcall hq hy hqa hla hA2 ae6 hsb hget c0z hzs ae7 hsm Nv ht;have oA:=oQ.alloc (.cells #[.int .i64 x,.int .i64 y] 493);go_wp2_with fail;refine(HC.out _ _ oA).mono ?_;rintro e3 w3⟨rfl,o3,k3⟩;have c1:=(o3.up 1).cell j HZ.out;have hf:=(o3.up 1).frozen;have hlt3:=(o3.up 1).aS;have oS:=(o3.up 1).setCell j (.int .i64 q);rw[HZS.out]at oS;go_wp2;go_roundw;case rel=>exact⟨j+1,sm+q,by go_num,rfl,by have:=aa4.out;omega,HS2.out,HB2.out,(oS.up 1).drop,⟨k3.os.trans kQ.os,k3.tape.trans kQ.tape,k3.output.trans kQ.output⟩⟩
       case measure=>simp[pM];omega
      ·have hjl:j=l.length:=by have:=HN.out;omega
       subst hjl;have hla:(eF a s (xm l)).length=l.length:=by rw[yL];unfold xm;rw[List.length_map]
       rw[VO hla]at oQ;rw[List.take_of_length_le (by omega)]at hsm;obtain⟨q0,ds,hds⟩:∃q0 ds,eF a s (xm l)=q0::ds:=by
        cases hT:eF a s (xm l)with
        |nil=>rw[hT]at hla;have:=H0.out;simp at hla;exact absurd (List.eq_nil_of_length_eq_zero hla.symm) this
        |cons q0 ds=>exact⟨_,_,rfl⟩
       rw[hds]at oQ hsm;have c1:=oQ.cell 0;have hf:=oQ.frozen;have hlt3:=oQ.aS;obtain⟨p0,hp0⟩:∃p,l[0]?=some p:=⟨_,List.getElem?_eq_getElem (by have:=HN.out;omega)⟩;have hq0:ab q0<=36028797018963968:=by
        have h1:=FJ a s hp0;rw[hds]at h1;have h2:=Oz.out p0 (List.mem_of_getElem? hp0);have e:q0=(a*p0.2).tdiv s:=by simpa using h1
        rw[e];refine Int.le_trans (JN a p0.2 s (by omega) ?_ (by have:=HT1.out;have:=HTp.out;omega)) HA.out
        rw[HT1.out];exact rz (fun z hz=>by
        obtain⟨p,hp,rfl⟩:=List.mem_map.1 hz
        have:=Oz.out p hp;omega) (List.mem_map.2 ⟨p0,List.mem_of_getElem? hp0,rfl⟩)
       have hA2:=HA.out;have hw:IntKind.i64.wrap (q0+(a-sm))=q0+(a-sm):=by have:=HN.out;unfold ab at hsb hq0 hA2;rw[IntKind.wrap_i64];omega
       have oS:=oQ.setCell 0 (.int .i64 (q0+(a-sm)));have HDS:=az hds;have XU:=az hsm;have aa4:=az HN.out;clear hds hsm hsb hq0 hA2 hp0 hla;go_wp2;go_ret2;have hne:=H0.out;have hds:=HDS.out;rw[HT1.out]at hds;have hsm:=XU.out;rw[hsm]at oS;have:=adG hds (by have:=aa4.out;omega) oS (Calm.trans kQ ⟨rfl,rfl,rfl⟩) hne;rw[<-aa4.out,<-hsm]at this;exact this
end
section
variable{W w w':aF}{R:aJ}
def gT(x y:Int):Int:=if x<y then-1 else if y<x then 1 else 0
def orZ(x y:Int):Int:=if x≠0 then x else y
theorem BV(x:Int)(w:aF):Calls prog 406 #[.int .u64 x] w (fun e w'=>e=.returned (.bool false)/\w=w'):=by go_enter func406,ntmps406;go_wp2;go_ret;simp
theorem JQ(x y:Int)(w:aF):Calls prog 402 #[.int .u64 x,.int .u64 y] w (bN (.int .i64 (gT x y)) w):=by
 by_cases h1:x<y
 ·have e:gT x y=-1:=if_pos h1;rw[e];clear e;go_enter func402,ntmps402;go_wp2_with(go_at_call 406;refine(BV _ _).mono ?_;rintro e w'⟨rfl,rfl⟩);go_ret;exact⟨rfl,rfl⟩
 ·by_cases h2:y<x
  ·have e:gT x y=1:=by unfold gT;rw[if_neg h1,if_pos h2]
   rw[e];clear e;go_enter func402,ntmps402;go_wp2_with(go_at_call 406;refine(BV _ _).mono ?_;rintro e w'⟨rfl,rfl⟩);go_ret;exact⟨rfl,rfl⟩
  ·have e:gT x y=0:=by unfold gT;rw[if_neg h1,if_neg h2]
   rw[e];clear e;go_enter func402,ntmps402;go_wp2_with(go_at_call 406;refine(BV _ _).mono ?_;rintro e w'⟨rfl,rfl⟩);go_ret;exact⟨rfl,rfl⟩
def zOf:aL->Int
 |.int _ x=>x
 |_=>0
def afe(x y:Int)(i:aL):Prop:=i=↑aC\/(i=↑(1:Int)/\x=0)\/(i=↑(2:Int)/\x=0/\y=0)
theorem LQ(g:Nat)(x y:Int)(w:aF)(h0:w.cell? ⟨g,0,none⟩=some ↑x)(h1:w.cell? ⟨g,1,none⟩=some ↑y):
  Calls prog 401 #[.slice (some ⟨g,0,none⟩) 2 2] w (bN (.int .i64 (orZ x y)) w):=by
 go_enter func401,ntmps401;go_wp2
 go_loop [8] (fun i=>afe x y i) (fun i=>2-(zOf i).toNat)
 case atStart=>exact .inl rfl
 case round=>
  rcases hrel with rfl|⟨rfl,rfl⟩|⟨rfl,rfl,rfl⟩
  ·by_cases hx:x=0
   ·subst hx;go_wp2
    go_round
    case rel=>exact .inr (.inl ⟨rfl,rfl⟩)
    case measure=>simp[zOf]
   ·have hb:(x==0)=false:=by simpa using hx
    have hb':(x !=0)=true:=by simpa using hx
    go_wp2;go_ret;exact⟨by unfold orZ;rw[if_pos hx];rfl,rfl⟩
  ·by_cases hx:y=0
   ·subst hx;go_wp2
    go_round
    case rel=>exact .inr (.inr ⟨rfl,rfl,rfl⟩)
    case measure=>simp[zOf]
   ·have hb:(y==0)=false:=by simpa using hx
    have hb':(y !=0)=true:=by simpa using hx
    go_wp2;go_ret;exact⟨rfl,rfl⟩
  ·go_wp2;go_ret;exact⟨rfl,rfl⟩
theorem Rw(x y:Int)(o:Own w R):
  Calls prog 393 #[.agg #[.int .u64 0,.int .u64 x],.agg #[.int .u64 0,.int .u64 y]] w (aR (.int .i64 (gT x y)) R w):=by
 go_enter func393,ntmps393;go_wp2;refine wp_region_tail 9 (by kernel_rfl) (by kernel_rfl) ?_;simp only[xe,List.take_zero,yB,List.drop_zero];repeat still_step
 still_call (bN.still (JQ _ _ _))
 repeat still_step
 refine wpStill_nil ?_;go_wp2_with(go_at_call 402;refine(JQ _ _ _).mono ?_;rintro e w'⟨rfl,rfl⟩);refine(LQ (w.heap.size+1+1) (gT 0 0) (gT x y) _ ?_ ?_).mono ?_
 ·go_simp
 ·go_simp
 rintro e w'⟨rfl,rfl⟩;go_wp2;go_ret;refine⟨?_,?_,?_⟩
 ·rfl
 ·have:=(((o.alloc (.cells #[.int .u64 0,.int .u64 x] 352)).drop.alloc (.cells #[.int .u64 0,.int .u64 y] 352)).drop.alloc (.cells #[(gT 0 0:Int),(gT x y:Int)] 3)).drop;exact this
 ·exact⟨rfl,rfl,rfl⟩
theorem Rx(a b c d:Nat)(ha:a<18446744073709551616)(hb:b<18446744073709551616)(hc:c<18446744073709551616)(hd:d<18446744073709551616)(h1:a*b<9223372036854775808)(h2:c*d<9223372036854775808)(o:Own w R):
  Calls prog 383 #[.int .u64 (a:Int),.int .u64 (b:Int),.int .u64 (c:Int),.int .u64 (d:Int)] w (aR (.int .i64 (gT ((a*b:Nat):Int) ((c*d:Nat):Int))) R w):=by
 go_enter func383,ntmps383;go_wp2_with fail;refine(pK a b ha hb h1 o).mono ?_;rintro e1 w1⟨rfl,o1,k1⟩;go_wp2_with fail;refine(pK c d hc hd h2 o1).mono ?_;rintro e2 w2⟨rfl,o2,k2⟩;go_wp2_with fail;refine(Rw _ _ o2).mono ?_;rintro e3 w3⟨rfl,o3,k3⟩;go_wp2;go_ret;exact⟨rfl,o3,Calm.trans k1 (Calm.trans k2 k3)⟩
end
end Go.Proofs.YtfejhikpfhgbeaaGreatDoor
