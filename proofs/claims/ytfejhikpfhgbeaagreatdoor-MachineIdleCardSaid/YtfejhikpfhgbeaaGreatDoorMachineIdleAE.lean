import Derived.Laws.IdiomStrings
import Derived.Test.YtfejhikpfhgbeaaGreatDoorMachineIdleU
set_option maxHeartbeats 25600000
set_option maxRecDepth 100000
set_option linter.all false
namespace Go.Proofs.YtfejhikpfhgbeaaGreatDoor
open Go.Proofs.Tryz
open Go.RowKit
open SP
section
open Go.Shelf
section
variable{W w w':aF}{R:aJ}
def adq(n:Nat):aL:=.int .i32 (n:Int)
def runs(l:List Nat):dw:=l.map adq
theorem QJ{l:List Nat}{i r:Nat}(h:l[i]?=some r):(runs l)[i]?=some (.int .i32 (r:Int)):=by unfold runs;rw[kI,h];rfl
theorem wV(l:List Nat):(runs l).length=l.length:=iP _
theorem Bc(s:ByteArray):∀(bound i:Nat)(acc:Array aL),s.size<=i+bound->(Conv.runesFrom s bound i acc).toList=acc.toList++runs (runesL (s.data.toList.drop i))
 |0,i,acc,h=>by rw[uE s i (by omega)];simp[Conv.runesFrom,runs]
 |bound+1,i,acc,h=>by
  unfold Conv.runesFrom;by_cases hp:i<s.size
  ·have hw:=Lib.decode_width_pos s i hp;rw[if_pos hp];have:=Bc s bound (i+(Utf8.decode s i).2) (acc.push (.int .i32 (Int.ofNat (Utf8.decode s i).1))) (by omega);rw[Ci s i hp];refine this.trans ?_;simp[runs,adq]
  ·rw[if_neg hp,uE s i hp];simp[runs]
theorem H8(s:ByteArray):Conv.runesFrom s s.size 0 #[]=(runs (runesL s.data.toList)).toArray:=by apply Array.toList_inj.1;rw[Bc s s.size 0 #[] (by omega)];rfl
theorem M_(l:qR):runesL (rF l)=fF l:=by unfold rF;exact mg _ (uD l)
theorem wW(s:ByteArray)(hs:s.size<=2000000)(hT:kF W)(o:Own w (old W::R)):
  Calls prog 217 #[.string s] w (fun e w'=>∃a c,e=.returned (.slice a (fF s.data.toList).length c)/\Own w' (slc 21 1 a (fF s.data.toList).length c (runs (fF s.data.toList))::old W::R)/\Calm w w'):=by
 have hM:=Any.strings_Map_grows Tryz.laysMap Tryz.extraM 173 #[] (enters_of func173 (by kernel_rfl) rfl) sP s w (by omega) (J_ _) Dz (Own.tabs hT o);rw[J9]at hM;have hlen:(fF s.data.toList).length<=2000000:=by unfold fF;rw[iP];have h1:=nL s.data.toList;have h2:s.data.toList.length=s.size:=(Lib.size_eq s).symm;omega
 have hrn:Conv.runesFrom (⟨(rF s.data.toList).toArray⟩:ByteArray) (⟨(rF s.data.toList).toArray⟩:ByteArray).size 0 #[]=(runs (fF s.data.toList)).toArray:=by rw[H8];rw[show(⟨(rF s.data.toList).toArray⟩:ByteArray).data.toList=rF s.data.toList from rfl,M_]
 obtain⟨rs,hrs⟩:=aP (fF s.data.toList);rw[hrs]at hrn hlen⊢;have hcv:∀w:aF,_:=fun w=>run_runes_of_string w 9 368 21 (⟨(rF s.data.toList).toArray⟩:ByteArray) underlying9 underlying368 underlying21 (by rw[hrn,List.size_toArray,wV];omega);simp only[hrn,List.size_toArray,wV]at hcv;obtain⟨t,ht⟩:=aP ((⟨(rF s.data.toList).toArray⟩:ByteArray));rw[ht]at hM hcv;clear hrn hrs ht;go_enter func217,ntmps217;go_wp2_with fail;refine hM.mono ?_;rintro e2 w2⟨rfl,hbel⟩;clear hM;have o2:=o.sS hbel;go_wp2;go_ret;refine⟨_,_,rfl,?_,Calm.trans (Calm.AA hbel) ⟨rfl,rfl,rfl⟩⟩;refine Own.slc.2 (.inr ⟨w2.heap.size,List.replicate (grownCap w2 rs.length 0 21-rs.length) (.int .i32 0),rfl,grownCap_ge _ _ _ _,grownCap_le_maxLen _ _ _ _ (by unfold maxLen;omega),by rw[wV];omega,by rw[List.length_replicate];omega,?_⟩);have e:(runs rs).toArray++Array.replicate (grownCap w2 rs.length 0 21-rs.length) (Value.int .i32 0)=(runs rs++List.replicate (grownCap w2 rs.length 0 21-rs.length) (Value.int .i32 0)).toArray:=by simp
 rw[e];exact(o2.alloc _).drew
def Xo(x y:Nat):Int:=if x<y then-1 else if y<x then 1 else 0
theorem H9(x:Nat):Calls prog 285 #[.int .i32 (x:Int)] w (bN (.bool false) w):=by go_enter func285,ntmps285;go_wp2;go_ret;exact⟨by simp,rfl⟩
theorem Na(x y:Nat):Calls prog 256 #[.int .i32 (x:Int),.int .i32 (y:Int)] w (bN (.int .i64 (Xo x y)) w):=by
 have h1:=H9 (w:=w) x;have h2:=H9 (w:=w) y;unfold Xo;by_cases c1:x<y
 ·have d1:=bz (show x<y by omega);rw[if_pos c1];clear c1;go_enter func256,ntmps256;go_wp2_with fail;refine h1.mono ?_;rintro e1 w1⟨rfl,rfl⟩;go_wp2_with fail;refine h2.mono ?_;rintro e1 w1⟨rfl,rfl⟩;go_wp2;go_ret;exact⟨rfl,rfl⟩
 ·have d1:=bW (show¬(x<y)by omega);rw[if_neg c1];by_cases c2:y<x
  ·have d2:=bz (show y<x by omega);rw[if_pos c2];clear c1 c2;go_enter func256,ntmps256;go_wp2_with fail;refine h1.mono ?_;rintro e1 w1⟨rfl,rfl⟩;go_wp2_with fail;refine h2.mono ?_;rintro e1 w1⟨rfl,rfl⟩;go_wp2;go_ret;exact⟨rfl,rfl⟩
  ·have d2:=bW (show¬(y<x)by omega);rw[if_neg c2];clear c1 c2;go_enter func256,ntmps256;go_wp2_with fail;refine h1.mono ?_;rintro e1 w1⟨rfl,rfl⟩;go_wp2_with fail;refine h2.mono ?_;rintro e1 w1⟨rfl,rfl⟩;go_wp2;go_ret;exact⟨rfl,rfl⟩
def abY(x y:List Nat)(p p2:aY)(c c2:Nat)(R:aJ)(w:aF)(v:aL)(wr:aF):Prop:=
 ∃i:Nat,v=↑(i:Int)/\i<=x.length/\i<=y.length/\yT x y=yT (x.drop i) (y.drop i)/\
  Own wr (slc 21 1 p2 y.length c2 (runs y)::slc 21 1 p x.length c (runs x)::R)/\Calm w wr
theorem Xp{x y:List Nat}{i:Nat}(hi:i<x.length)(hj:i=y.length):yT (x.drop i) (y.drop i)=1:=by rw[Po (by omega) (by omega) (by omega),if_neg (by omega),if_pos (by omega)]
theorem abZ{x y:List Nat}{i a b:Nat}(hx:x[i]?=some a)(hy:y[i]?=some b):yT (x.drop i) (y.drop i)=if Xo a b=0 then yT (x.drop (i+1)) (y.drop (i+1))else Xo a b:=by
 rw[Wm hx hy];unfold Xo
 repeat' split
 all_goals omega
theorem H_(x y:List Nat)(p p2:aY)(c c2:Nat)(hx:x.length<=2000000)(hy:y.length<=2000000)(o:Own w (slc 21 1 p2 y.length c2 (runs y)::slc 21 1 p x.length c (runs x)::R)):
  Calls prog 216 #[.slice p x.length c,.slice p2 y.length c2] w (aR (.int .i64 (yT x y)) R w):=by
 go_enter func216,ntmps216;go_wp2;go_loopw[11] (fun v wr=>abY x y p p2 c c2 R w v wr) (fun v _=>x.length-(intOf v).toNat);case atStart=>exact⟨0,rfl,by omega,by omega,rfl,o,Calm.refl w⟩
 case round=>
  obtain⟨i,rfl,hi,hj,hc,oR,kR⟩:=hrel;have fin:∀(z:Int),yT x y=z->aR (.int .i64 (yT x y)) R w (.returned (.int .i64 z)) wr:=fun z hz=>⟨by rw[hz],oR.drop.drop,kR⟩;by_cases h1:i<x.length
  ·obtain⟨u,hu⟩:∃u,x[i]?=some u:=⟨_,cZ h1⟩;obtain⟨g1,rfl,hc1,_,_⟩:=(oR.up 1).aG (by omega);have d1:=hc1 i _ (QJ hu);clear hc1;by_cases h2:i<y.length
   ·obtain⟨t,ht⟩:∃t,y[i]?=some t:=⟨_,cZ h2⟩;have hst:=abZ hu ht;rw[<-hc]at hst;obtain⟨g2,rfl,hc2,_,_⟩:=oR.aG (by omega);have d2:=hc2 i _ (QJ ht);clear hc2;have d3:=bW (show¬(y.length<=i)by omega);have hcm:=Na (w:=wr) u t;obtain⟨z,hz⟩:=aP (Xo u t);rw[hz]at hcm hst;clear hz;go_wp2_with fail;refine hcm.mono ?_;rintro e1 w1⟨rfl,rfl⟩;clear hcm;by_cases hz0:z=0
    ·subst hz0;rw[if_pos rfl]at hst;go_wp2;go_roundw;case rel=>exact⟨i+1,by go_num,by omega,by omega,hst,oR,kR⟩
     case measure=>simp[intOf];omega
    ·rw[if_neg hz0]at hst;have d4:(z==0)=false:=Ec.2 hz0;go_wp2;go_ret;exact fin _ hst
   ·have hst:=Xp (x:=x) (y:=y) h1 (by omega);rw[<-hc]at hst;have d3:=bz (show y.length<=i by omega);go_wp2;go_ret;exact fin _ hst
  ·have he:=Po hi hj (by omega);rw[<-hc]at he;have f0:=bW (show¬(i<x.length)by omega);by_cases c1:x.length<y.length
   ·rw[if_pos c1]at he;have f1:=bz (show x.length<y.length by omega);go_wp2;go_ret;exact fin _ he
   ·rw[if_neg c1,if_neg (by omega)]at he;have f1:=bW (show¬(x.length<y.length)by omega);go_wp2;go_ret;exact fin _ he
theorem Ez(a b:ByteArray)(ha:a.size<=2000000)(hb:b.size<=2000000)(hT:kF W)(o:Own w (old W::R)):
  Calls prog 174 #[.string a,.string b] w (aR (.int .i64 (Wl a b)) (old W::R) w):=by
 have h1:=az fun(w1:aF)=>uF (w:=w1) a (by omega);have h2:=az fun(w1:aF)=>uF (w:=w1) b (by omega);have h3:=az fun(w1:aF)(R:aJ)(o1:Own w1 (old W::R))=>wW a ha hT o1;have h4:=az fun(w1:aF)(R:aJ)(o1:Own w1 (old W::R))=>wW b hb hT o1;have lx:(fF a.data.toList).length<=2000000:=by unfold fF;rw[iP];have h1:=nL a.data.toList;have h2:a.data.toList.length=a.size:=(Lib.size_eq a).symm;omega
 have ly:(fF b.data.toList).length<=2000000:=by unfold fF;rw[iP];have h1:=nL b.data.toList;have h2:b.data.toList.length=b.size:=(Lib.size_eq b).symm;omega
 have hC:Wl a b=if dG a.data.toList=true then(if dG b.data.toList=true then yT (fF a.data.toList) (fF b.data.toList)else 1)else(if dG b.data.toList=true then-1 else 0):=rfl;rw[hC];obtain⟨na,hna⟩:=aP (dG a.data.toList);obtain⟨nb,hnb⟩:=aP (dG b.data.toList);obtain⟨x,hx⟩:=aP (fF a.data.toList);obtain⟨y,hy⟩:=aP (fF b.data.toList);rw[hx]at h3 lx⊢;rw[hy]at h4 ly⊢;rw[hna]at h1⊢;rw[hnb]at h2⊢;obtain⟨v,hv⟩:∃v:Int,(if na=true then(if nb=true then yT x y else 1)else(if nb=true then-1 else 0))=v:=⟨_,rfl⟩;rw[hv];have HV:=az hv;clear hx hy hna hnb hC hv;go_enter func174,ntmps174;go_wp2_with fail;refine(h1.out w).mono ?_;rintro e1 w1⟨rfl,pos,rfl⟩;go_wp2_with fail;refine(h2.out _).mono ?_;rintro e2 w2⟨rfl,pos2,rfl⟩;have o2:Own ((w.iter a pos).iter b pos2) (old W::R):=(o.more _).more _;have k2:Calm w ((w.iter a pos).iter b pos2):=⟨rfl,rfl,rfl⟩;obtain⟨w2,hw2⟩:=aP ((w.iter a pos).iter b pos2);rw[hw2]at o2 k2⊢;clear hw2;cases na with
 |true=>
  cases nb with
  |true=>go_wp2_with fail;refine(h3.out _ _ o2).mono ?_;rintro e3 w3⟨p,c,rfl,o3,k3⟩;go_wp2_with fail;refine(h4.out _ _ o3.swap).mono ?_;rintro e4 w4⟨p2,c2,rfl,o4,k4⟩;have hs:=H_ x y p p2 c c2 lx ly (Own.re o4 [0,2,1]);go_wp2_with fail;refine hs.mono ?_;rintro e5 w5⟨rfl,o5,k5⟩;go_wp2;go_ret;exact⟨by rw[<-HV.out];rfl,o5,k2.trans (k3.trans (k4.trans k5))⟩
  |false=>go_wp2;go_ret;exact⟨by rw[<-HV.out];rfl,o2,k2⟩
 |false=>
  cases nb with
  |true=>go_wp2;go_ret;exact⟨by rw[<-HV.out];rfl,o2,k2⟩
  |false=>go_wp2;go_ret;exact⟨by rw[<-HV.out];rfl,o2,k2⟩
end
end
end Go.Proofs.YtfejhikpfhgbeaaGreatDoor
