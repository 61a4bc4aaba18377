import Derived.Lib.ItoaNum
import Derived.Test.YtfejhikpfhgbeaaGreatDoorMachineIdleD
import Derived.Test.YtfejhikpfhgbeaaGreatDoorMachineIdleJ
set_option maxHeartbeats 25600000
set_option maxRecDepth 100000
set_option linter.all false
namespace Go.Proofs.YtfejhikpfhgbeaaGreatDoor
open Go.Proofs.Tryz
open Go.RowKit
open SP
structure Rec where
 slot:Int
 kind:Int
 gK:Int
 oJ:Int
 why:Int
 value:Int
instance:DecidableEq Rec:=fun a b=>decidable_of_iff (a.slot=b.slot/\a.kind=b.kind/\a.gK=b.gK/\a.oJ=b.oJ/\a.why=b.why/\a.value=b.value) ⟨fun⟨h1,h2,h3,h4,h5,h6⟩=>by cases a;cases b;simp_all,fun h=>by rw[h];exact⟨rfl,rfl,rfl,rfl,rfl,rfl⟩⟩
def recC(r:Rec):dw:=[r.slot,r.kind,r.gK,r.oJ,r.why,r.value]
structure aft(r:Rec):Prop where
 slot:0<=r.slot/\r.slot<=16384
 kind:1<=r.kind/\r.kind<=10
 gK:-1<=r.gK/\r.gK<32
 oJ:0<=r.oJ/\r.oJ<=262144
 why:0<=r.why/\r.why<=6
 value:-4611686018427387904<=r.value/\r.value<=4611686018427387904
instance(r:Rec):Decidable (aft r):=decidable_of_iff ((0<=r.slot/\r.slot<=16384)/\(1<=r.kind/\r.kind<=10)/\(-1<=r.gK/\r.gK<32)/\(0<=r.oJ/\r.oJ<=262144)/\(0<=r.why/\r.why<=6)/\-4611686018427387904<=r.value/\r.value<=4611686018427387904)
 ⟨fun⟨h1,h2,h3,h4,h5,h6⟩=>⟨h1,h2,h3,h4,h5,h6⟩,fun h=>⟨h.slot,h.kind,h.gK,h.oJ,h.why,h.value⟩⟩
section
open Go.RowKit Go.Shelf Go.Lib Go.Sort
section
variable{W w w':aF}{R:aJ}{b:Nat}
theorem Own.abb{g:Nat}{xs sp:dw}{F:bq}{n:Nat}{os:Array Obj}{T:TypeId}(o:Own w (SP.blk g (.cells (xs++sp).toArray T (0,0))::R))(hF:F.length=xs.length):
  Own (grow (putRow (Value.int .i64) (Sort.ahead w n) g 0 F.toArray) os) (SP.blk g (.cells (F.map (Value.int .i64)++sp).toArray T (0,0))::R):=by
 have hb:=o.blk;have hlt:=o.lt;refine o.put ?_ (fun k hk hk2=>?_)
 ·have h1:(grow (putRow (Value.int .i64) (Sort.ahead w n) g 0 F.toArray) os).heap[g]?=(putRow (Value.int .i64) (Sort.ahead w n) g 0 F.toArray).heap[g]?:=by unfold grow;show((putRow (Value.int .i64) (Sort.ahead w n) g 0 F.toArray).heap++os)[g]?=_;rw[Array.getElem?_append_left (by simpa[putRow,mapBlock,Sort.ahead]using hlt)]
  rw[h1];show(w.heap.modify g (onCells (putCells (Value.int .i64) 0 F.toArray)))[g]?=_;rw[Array.getElem?_modify,if_pos rfl,hb];simp only[Option.map_some,onCells];congr 2;apply Array.ext_getElem?;intro k;simp only[putCells,Array.getElem?_mapIdx,o_,Nat.zero_le,true_and,Nat.zero_add,Nat.sub_zero,List.size_toArray];by_cases hk:k<F.length
  ·rw[List.getElem?_append_left (by omega),List.getElem?_append_left (by simpa using hk),cZ (by omega)];simp[hk]
  ·rw[List.getElem?_append_right (by omega),List.getElem?_append_right (by simp;omega),iP,hF];simp[hF▸hk,hF]
 ·unfold grow;show((putRow (Value.int .i64) (Sort.ahead w n) g 0 F.toArray).heap++os)[k]?=_;rw[Array.getElem?_append_left (by simpa[putRow,mapBlock,Sort.ahead]using hk2)];show(w.heap.modify g (onCells (putCells (Value.int .i64) 0 F.toArray)))[k]?=_;rw[Array.getElem?_modify,if_neg (fun h=>hk h.symm)]
def iI(L:bq):bq:=L.mergeSort fun x y=>decide (x<=y)
theorem qd(L:bq):(iI L).length=L.length:=List.length_mergeSort L
theorem Mc{a:aY}{c:Nat}{L:bq}(hn:L.length<=100000)(o:Own w (bZ a c L::R)):
  Calls prog 139 #[.slice a L.length c] w (aR (.tuple #[]) (bZ a c (iI L)::R) w):=by
 unfold bZ at*;rw[qd];rcases Own.slc.1 o with⟨rfl,hz,rfl,hx,o1⟩|⟨g,sp,rfl,h1,h2,h3,h4,o1⟩
 ·have hL:L=[]:=CO hz;subst hL;refine(AnyM.slices_Sort_int_none Tryz.sort none 0 w).mono ?_;rintro e w1⟨rfl,rfl⟩;have e0:iI []=[]:=List.mergeSort_nil;rw[e0];exact⟨rfl,o,Calm.refl _⟩
 ·have hH:Holds (Value.int .i64) w g 0 L.toArray:=by
   intro j hj;rw[List.size_toArray]at hj;have hx:(L.map (Value.int .i64)++sp)[j]?=some (Value.int .i64 (L.toArray[j]!)):=by rw[List.getElem?_append_left (by rw[iP];exact hj),kI,cZ hj];simp[hj]
   rw[Nat.zero_add];exact⟨Own.cell o1 j hx,Own.frozen o1 j⟩
  refine(AnyM.slices_Sort_int Tryz.sort g 0 c L w hH o1.aS (by omega)).mono ?_;rintro e w1⟨rfl,n,os,rfl⟩;have hl:(iI L).length=(L.map (Value.int .i64)).length:=by rw[qd,iP]
  have o2:=Own.abb (F:=iI L) (n:=n) (os:=os) o1 hl;refine⟨rfl,Own.slc.2 (.inr ⟨g,sp,rfl,h1,h2,by rw[iP,qd,<-h3,iP],h4,o2⟩),⟨rfl,rfl,rfl⟩⟩
theorem Tryz.intTZ(w:aF):(zeroValue 3).run prog w=.ok (.int .i64 0) w:=by kernel_rfl
theorem O1:∀u∈(Value.int .i64 0).cells.toList,u.oneCell'=true:=by
 intro u hu;have:u=.int .i64 0:=by simpa[Value.cells]using hu
 subst this;rfl
theorem I1{a:aY}{c:Nat}{L:bq}(hn:L.length<=100000)(o:Own w (bZ a c L::R)):
  Calls prog 92 #[.slice a L.length c] w fun e w'=>∃a' c',aR (.slice a' L.length c') (bZ a' c' L::bZ a c L::R) w e w':=by
 unfold bZ at*;obtain⟨n,hn0⟩:=aP L.length;rw[hn0]at o hn⊢;clear hn0;have hnil:=fun(w:aF)(a:aY)(n c:Nat)=>Lib.run_eql_slice_nil w 22 3 a n c 0 0 underlying22;rcases Own.slc.1 o with⟨rfl,rfl,rfl,hS,o1⟩|⟨g,sp,rfl,h1,h2,h3,h4,o1⟩
 ·have o2:=Own.bH (e:=3) (size:=1) o;rw[<-hS]at o2;clear hS;go_enter func92,ntmps92;go_wp2;go_ret;exact⟨none,0,rfl,o2,Calm.refl w⟩
 ·clear o1 h1 h2 h3 h4 sp;have oZ:=sG (e:=3) (size:=1) (o.alloc (.cells #[] 3));have hsrc:=sI (Ym L) (oZ.up 1);go_enter func92,ntmps92;go_wp2_with(at_builtin;refine aQ rfl _ _ rfl Tryz.intTk rfl oZ rfl hsrc (by unfold maxLen;omega) (by omega) ?k1);case k1=>intro a' c' w6 o6 k6;go_wp2;go_ret;exact⟨a',c',rfl,o6,k6.al⟩
end
end
section
variable{w w':aF}{R:aJ}{b kb:Nat}
theorem O5{α:Type}:∀{l:List α}{i:Nat}{x:α},l[i]?=some x->l.set i x=l
 |y::l,0,x,h=>by simp at h;rw[List.set_cons_zero,h]
 |y::l,i+1,x,h=>by rw[List.set_cons_succ,O5 (by simpa using h)]
 |[],i,x,h=>by simp at h
structure lS where
 id:Int
 wt:Int
 df:Int
 tn:Int
structure I4 where
 q:Int
 O:List lS
 snd:Bool
def wo(d:lS):dw:=[d.id,d.wt,d.df,d.tn]
def pv(b:Nat):aL:=.pointer (some ⟨b,0,none⟩)
def pvO(b:Option Nat):aL:=.pointer (b.map fun k=>⟨k,0,none⟩)
def gQ(k:Nat)(d:lS):SP:=aH k 346 (wo d)
def dX(b:Nat)(r:I4):SP:=ex fun(p:List Nat×aY×Nat)=>st [pu (p.1.length=r.O.length),aH b 163 [r.q,.slice p.2.1 p.1.length p.2.2,pvO (if r.snd=true then p.1.head? else none)],mQ 161 1 p.2.1 p.1.length p.2.2 (p.1.map pv),st (List.zipWith gQ p.1 r.O)]
theorem dX.iff{r:I4}:Own w (dX b r::R)↔∃ps a c,ps.length=r.O.length/\Own w (aH b 163 [r.q,.slice a ps.length c,pvO (if r.snd=true then ps.head? else none)]::mQ 161 1 a ps.length c (ps.map pv)::st (List.zipWith gQ ps r.O)::R):=by
 constructor
 ·intro o;obtain⟨⟨ps,a,c⟩,h⟩:=Own.ex.1 o;obtain⟨h1,h2⟩:=Own.pu.1 (Own.st.1 h);exact⟨ps,a,c,h1,h2⟩
 ·rintro⟨ps,a,c,h1,h2⟩;exact Own.ex.2 ⟨(ps,a,c),Own.st.2 (Own.pu.2 ⟨h1,h2⟩)⟩
theorem O6{q:Int}(h1:256<=q)(h2:q<=1048576)(o:Own w R):Calls prog 38 #[.int .i64 q] w
  fun e w'=>∃b,aR (.tuple #[.pointer (some ⟨b,0,none⟩),.int .i64 0]) (dX b ⟨q,[],false⟩::R) w e w':=by
 have oA:=o.alloc (.cells #[.int .i64 q,.slice none 0 0,.pointer none] 163);have d1:decide (q<256)=false:=decide_eq_false (by omega);have d2:decide (1048576<q)=false:=decide_eq_false (by omega);go_enter func38,ntmps38;go_wp2;go_ret2;have o2:Own (w.alloc (.cells #[.int .i64 q,.slice none 0 0,.pointer none] 163)) (st (List.zipWith gQ [] [])::mQ 161 1 none 0 0 []::blk w.heap.size (.cells #[.int .i64 q,.slice none 0 0,.pointer none] 163)::R):=Own.st.2 (Own.abd oA);exact⟨_,rfl,dX.iff.2 ⟨[],none,0,rfl,o2.re [2,1,0]⟩,⟨rfl,rfl,rfl⟩⟩
theorem O7{k:Nat}{d:lS}{x:Int}(o:Own w (gQ k d::aH kb 3 [x]::R)):Calls prog 249 #[pv k,kb] w (aR (.bool (d.id==x)) (gQ k d::aH kb 3 [x]::R) w):=by have c0:=Own.cell (T:=346) (vs:=wo d) o 0;obtain⟨-,kl,k0,-⟩:=(o.up 1).cs;change World.cell? _ ⟨k,0,none⟩=some ↑d.id at c0;unfold pv;obtain⟨Z,hZ⟩:=aP ((d.id==x));rw[hZ];go_enter func249,ntmps249;go_upto_region 1 with fail;go_quiet(fail);go_wp2;go_ret;exact⟨rfl,o.drewN _,(Calm.refl w).dn _⟩
def yR(O:List lS)(x:Int):Int:=match O.findIdx? (fun d=>d.id==x)with
 |some i=>(i:Int)
 |none=>-1
def adO(O:List lS)(x:Int)(n:Nat)(l:aJ)(w:aF)(v:aL)(wr:aF):Prop:=
 ∃i:Nat,v=↑(i:Int)/\i<=n/\(∀j,j<i->∀d,O[j]?=some d->(d.id==x)=false)/\Own wr l/\Calm w wr
theorem YY{ps:List Nat}{O:List lS}{x:Int}{a:aY}{n c:Nat}(hn:n=ps.length)(hO:ps.length=O.length)(hl:n<=100000)(o:Own w (mQ 161 1 a n c (ps.map pv)::st (List.zipWith gQ ps O)::aH kb 3 [x]::R)):
  Calls prog 248 #[.slice a n c,.func (.func 249) #[] #[kb]] w
   (aR (.int .i64 (yR O x)) (mQ 161 1 a n c (ps.map pv)::st (List.zipWith gQ ps O)::aH kb 3 [x]::R) w):=by
 have HN:=az hn;have HO:=az hO;clear hn hO;obtain⟨l,hle⟩:=aP (mQ 161 1 a n c (ps.map pv)::st (List.zipWith gQ ps O)::aH kb 3 [x]::R);have HL:=az hle;rw[hle]at o⊢;clear hle;go_enter func248,ntmps248;go_wp2;go_loopw[5,8] (fun _ v8 wr=>adO O x n l w v8 wr) (fun _ v _=>n-(Lib.intOf v).toNat);case atStart=>exact⟨0,rfl,by omega,fun j hj=>absurd hj (Nat.not_lt_zero _),o,Calm.refl w⟩
 case round=>
  obtain⟨i,rfl,hi,hno,oR,kR⟩:=hrel;by_cases hil:i<n
  ·have hiO:i<O.length:=by rw[<-HO.out,<-HN.out];exact hil
   obtain⟨d,hd⟩:∃d,O[i]?=some d:=⟨_,cZ hiO⟩;obtain⟨k,hk⟩:∃k,ps[i]?=some k:=⟨_,cZ (by rw[<-HN.out];exact hil)⟩;have o2:=oR;rw[<-HL.out]at o2;obtain⟨g,off,rfl,hc,hgl⟩:=o2.Ao (by omega);have d0:=hc i (pv k) (by rw[kI,hk];rfl);have hz:(List.zipWith gQ ps O)[i]?=some (gQ k d):=by rw[List.getElem?_zipWith,hk,hd]
   have o3:=Own.focus hz (o2.up 1);have hf:=O7 (k:=k) (d:=d) (x:=x) (o3.re [0,3]);unfold pv at d0 hf;clear hc;obtain⟨Z,hZ⟩:=aP ((d.id==x));have HZ:=az hZ;rw[hZ]at hf;clear hZ;go_wp2_with fail;refine hf.mono ?_;rintro e1 w1⟨rfl,o4,k4⟩;have o5:Own w1 l:=by have o6:=Own.qY (B:=gQ k d) hz (o4.re [0,2,3,1]);rw[show(List.zipWith gQ ps O).set i (gQ k d)=List.zipWith gQ ps O from O5 hz]at o6;rw[<-HL.out];exact o6.re [1,0,2]
   clear o3 o4 hf o2 d0;cases Z with
   |true=>
    have HF:=az (show yR O x=(i:Int)from by
     have h1:O.findIdx? (fun d=>d.id==x)=some i:=by
      rw[List.findIdx?_eq_some_iff_getElem];obtain⟨hlt,he⟩:=eU.1 hd;refine⟨hlt,?_,fun j hj=>?_⟩
      ·rw[he];exact HZ.out
      ·have h2:=hno j hj _ (cZ (by omega));rw[h2];decide
     unfold yR
     rw[h1])
    clear HZ hd hno;go_wp2;go_ret;exact⟨by rw[HF.out];rfl,o5,kR.trans k4⟩
   |false=>
    have HX:=az (show∀j,j<i+1->∀d,O[j]?=some d->(d.id==x)=false from fun j hj y hy=>by
     by_cases he:j=i
     ·subst he;rw[hd]at hy;cases hy;exact HZ.out
     ·exact hno j (by omega) y hy)
    clear HZ hd hno;go_wp2;go_roundw;case rel=>exact⟨i+1,by go_num,by omega,HX.out,o5,kR.trans k4⟩
    case measure=>simp[Lib.intOf];omega
  ·have hin:i=n:=by omega
   have HF:=az (show yR O x=-1 from by
    have h1:O.findIdx? (fun d=>d.id==x)=none:=by rw[List.findIdx?_eq_none_iff];intro y hy;obtain⟨j,hj,rfl⟩:=List.getElem_of_mem hy;have h2:=hno j (by rw[hin,HN.out,HO.out];exact hj) _ (cZ hj);exact h2
    unfold yR
    rw[h1])
   subst hin;clear hno;go_wp2;go_ret;exact⟨by rw[HF.out];rfl,oR,kR⟩
theorem yS{r:I4}{x:Int}(hl:r.O.length<=1000)(o:Own w (dX b r::R)):Calls prog 196 #[b,x] w (aR (.int .i64 (yR r.O x)) (dX b r::R) w):=by obtain⟨ps,a,c,hp,o1⟩:=dX.iff.1 o;have oA:Own (w.alloc (.cells #[x] 3)) (aH w.heap.size 3 [x]::_):=o1.alloc (.cells #[x] 3);have c1:=(oA.up 1).cell 1;have hix:=YY (kb:=w.heap.size) rfl hp (by omega) (oA.re [2,3,0,1]);have HP:=az hp;clear hp o1 hl;go_enter func196,ntmps196;go_wp2_with fail;refine hix.mono ?_;rintro e1 w1⟨rfl,o2,k2⟩;go_wp2;go_ret;exact⟨rfl,dX.iff.2 ⟨ps,a,c,HP.out,(o2.re [2] 1).re [2,0,1]⟩,(aj (x:=.cells #[x] 3) (Calm.refl w)).trans k2⟩
end
section
variable{w w':aF}{R:aJ}{b kb:Nat}{r:I4}
def Bn(O:List lS)(x:Int):Bool:=decide (0<=yR O x)
def Ap(kb b:Nat):SP:=aH kb 122 [b]
theorem R3{x:Int}(hl:r.O.length<=1000)(o:Own w (Ap kb b::dX b r::R)):Calls prog 195 #[x,kb] w (aR (.bool (Bn r.O x)) (Ap kb b::dX b r::R) w):=by have c0:=Own.cell (T:=122) (vs:=[b]) o 0;have hf:=yS (x:=x) hl (o.up 1);unfold Bn;generalize yR r.O x=I at*;clear hl;go_enter func195,ntmps195;go_wp2_with fail;refine hf.mono ?_;rintro e1 w1⟨rfl,o1,k1⟩;go_wp2;go_ret;exact⟨rfl,o1.swap,k1⟩
def adP(L:bq)(O:List lS)(n:Nat)(l:aJ)(w:aF)(v:aL)(wr:aF):Prop:=
 ∃i:Nat,v=↑(i:Int)/\i<=n/\(∀j,j<i->∀x,L[j]?=some x->Bn O x=false)/\Own wr l/\Calm w wr
def O8(L:bq)(O:List lS):Int:=match L.findIdx? (Bn O)with
 |some i=>(i:Int)
 |none=>-1
theorem YZ{L:bq}{a:aY}{c:Nat}(hn:L.length<=1000)(hl:r.O.length<=1000)(o:Own w (bZ a c L::Ap kb b::dX b r::R)):
  Calls prog 247 #[.slice a L.length c,.func (.func 195) #[] #[kb]] w
   (aR (.int .i64 (O8 L r.O)) (bZ a c L::Ap kb b::dX b r::R) w):=by
 obtain⟨n,hn0⟩:=aP L.length;have HN:=az hn0;rw[hn0]at hn⊢;clear hn0;obtain⟨l,hle⟩:=aP (bZ a c L::Ap kb b::dX b r::R);have HL:=az hle;rw[hle]at o⊢;clear hle;go_enter func247,ntmps247;go_wp2;go_loopw[5,8] (fun _ v8 wr=>adP L r.O n l w v8 wr) (fun _ v _=>n-(Lib.intOf v).toNat);case atStart=>exact⟨0,rfl,by omega,fun j hj=>absurd hj (Nat.not_lt_zero _),o,Calm.refl w⟩
 case round=>
  obtain⟨i,rfl,hi,hno,oR,kR⟩:=hrel;by_cases hil:i<n
  ·obtain⟨x,hx⟩:∃x,L[i]?=some x:=⟨_,cZ (by rw[HN.out];exact hil)⟩;have o2:=oR;rw[<-HL.out]at o2;obtain⟨g,rfl,hc,hgl⟩:∃g,a=some ⟨g,0,none⟩/\(∀(j:Nat)x,L[j]?=some x->wr.cell? ⟨g,j,none⟩=some (.int .i64 x))/\g<wr.heap.size:=by
    rcases lI.own o2 with h0|h0
    ·rw[h0]at hx;cases hx
    ·exact h0
   have d0:=hc i x hx;have hf:=R3 (x:=x) hl (o2.re [1,2]);clear hc;obtain⟨Z,hZ⟩:=aP (Bn r.O x);have HZ:=az hZ;rw[hZ]at hf;clear hZ;go_wp2_with fail;refine hf.mono ?_;rintro e1 w1⟨rfl,o3,k3⟩;have o5:Own w1 l:=by rw[<-HL.out];exact o3.re [2,0,1]
   clear o3 hf o2 d0;cases Z with
   |true=>
    have HF:=az (show O8 L r.O=(i:Int)from by
     have h1:L.findIdx? (Bn r.O)=some i:=by
      rw[List.findIdx?_eq_some_iff_getElem];obtain⟨hlt,he⟩:=eU.1 hx;refine⟨hlt,?_,fun j hj=>?_⟩
      ·rw[he];exact HZ.out
      ·have h2:=hno j hj _ (cZ (by omega));rw[h2];decide
     unfold O8
     rw[h1])
    clear HZ hx hno;go_wp2;go_ret;exact⟨by rw[HF.out];rfl,o5,kR.trans k3⟩
   |false=>
    have HX:=az (show∀j,j<i+1->∀x,L[j]?=some x->Bn r.O x=false from fun j hj y hy=>by
     by_cases he:j=i
     ·subst he;rw[hx]at hy;cases hy;exact HZ.out
     ·exact hno j (by omega) y hy)
    clear HZ hx hno;go_wp2;go_roundw;case rel=>exact⟨i+1,by go_num,by omega,HX.out,o5,kR.trans k3⟩
    case measure=>simp[Lib.intOf];omega
  ·have hin:i=n:=by omega
   have HF:=az (show O8 L r.O=-1 from by
    have h1:L.findIdx? (Bn r.O)=none:=by rw[List.findIdx?_eq_none_iff];intro y hy;obtain⟨j,hj,rfl⟩:=List.getElem_of_mem hy;exact hno j (by rw[hin,<-HN.out];exact hj) _ (cZ hj)
    unfold O8
    rw[h1])
   subst hin;clear hno;go_wp2;go_ret;exact⟨by rw[HF.out];rfl,oR,kR⟩
theorem Y0(L:bq)(O:List lS):decide (0<=O8 L O)=L.any (Bn O):=by
 unfold O8;cases h:L.findIdx? (Bn O)with
 |none=>
  have h1:=List.findIdx?_eq_none_iff.1 h;have:L.any (Bn O)=false:=by rw[List.any_eq_false];intro x hx;rw[h1 x hx];decide
  rw[this];rfl
 |some i=>obtain⟨h1,h2,_⟩:=List.findIdx?_eq_some_iff_getElem.1 h;have:L.any (Bn O)=true:=List.any_eq_true.2 ⟨_,List.getElem_mem h1,h2⟩;rw[this];simp
theorem V9{L:bq}{a:aY}{c:Nat}(hn:L.length<=1000)(hl:r.O.length<=1000)(o:Own w (bZ a c L::Ap kb b::dX b r::R)):
  Calls prog 194 #[.slice a L.length c,.func (.func 195) #[] #[kb]] w
   (aR (.bool (L.any (Bn r.O))) (bZ a c L::Ap kb b::dX b r::R) w):=by
 have hi:=YZ hn hl o;rw[<-Y0];generalize O8 L r.O=I at*;clear hn hl;go_enter func194,ntmps194;go_wp2_with fail;refine hi.mono ?_;rintro e1 w1⟨rfl,o1,k1⟩;go_wp2;go_ret;exact⟨rfl,o1,k1⟩
end
def Md(q:Int)(d:lS):lS:=if d.df<=0 then⟨d.id,d.wt,d.df+q*d.wt,IntKind.i64.wrap (d.tn+1)⟩else d
inductive rE(q:Int)(L:bq):List lS->List lS->Int->Prop
 |here (h:lS) (t:List lS):0<h.df->L.contains h.id=true->rE q L (h::t) (h::t) h.id
 |turn (h:lS) (t O':List lS) (x:Int):¬(0<h.df/\L.contains h.id=true)->rE q L (t++[Md q h]) O' x->rE q L (h::t) O' x
structure adQ(d:lS):Prop where
 i:0<=d.id/\d.id<16
 w:1<=d.wt/\d.wt<=16
 f:-2097152<=d.df/\d.df<=33554432
structure Gi(q:Int)(O:List lS):Prop where
 q1:256<=q
 q2:q<=1048576
 ds:∀d∈O,adQ d
 nd:(O.map (·.id)).Nodup
theorem R4(q:Int)(d:lS):(Md q d).id=d.id:=by unfold Md;split<;>rfl
theorem adR{q:Int}{d:lS}(h1:256<=q)(h2:q<=1048576)(h:adQ d):adQ (Md q d):=by
 have hw:=h.w;have hf:=h.f;unfold Md;split
 ·refine⟨h.i,h.w,?_⟩;have h3:0<=q*d.wt:=Int.mul_nonneg (by omega) (by omega);have h4:q*d.wt<=1048576*16:=by have:=Int.mul_le_mul h2 hw.2 (by omega) (by omega:(0:Int)<=1048576);exact this
  show-2097152<=d.df+q*d.wt/\d.df+q*d.wt<=33554432;omega
 ·exact h
theorem Gi.turn{q:Int}{h:lS}{t:List lS}(k:Gi q (h::t)):Gi q (t++[Md q h]):=by
 refine⟨k.q1,k.q2,?_,?_⟩
 ·intro d hd;rcases List.mem_append.1 hd with h1|h1
  ·exact k.ds d (List.mem_cons_of_mem _ h1)
  ·rw[List.mem_singleton.1 h1];exact adR k.q1 k.q2 (k.ds h List.mem_cons_self)
 ·have h1:=k.nd;rw[iD,List.nodup_cons]at h1;rw[tJ,iD,List.map_nil,R4,List.nodup_append];refine⟨h1.2,by simp,?_⟩;intro a ha c hc;rw[List.mem_singleton.1 hc];exact fun he=>h1.1 (he▸ha)
def Aq(t:Int):List lS->Nat
 |[]=>0
 |d::l=>if d.id=t then 0 else Aq t l+1
def UB(t:Int):List lS->Int
 |[]=>0
 |d::l=>if d.id=t then d.df else UB t l
def O9(t:Int)(O:List lS):Nat:=(1-UB t O).toNat*(O.length+1)+Aq t O
theorem O_(t:Int)(d:lS):∀{l:List lS},t∈l.map (·.id)->Aq t (l++[d])=Aq t l
 |[],h=>by simp at h
 |x::l,h=>by
  rw[List.cons_append];unfold Aq;by_cases hx:x.id=t
  ·rw[if_pos hx,if_pos hx]
  ·rw[if_neg hx,if_neg hx];have:t∈l.map (·.id):=by
    rw[iD,jc]at h;rcases h with h|h
    ·exact absurd h.symm hx
    ·exact h
   rw[O_ t d this]
theorem UC(t:Int)(d:lS):∀{l:List lS},t∈l.map (·.id)->UB t (l++[d])=UB t l
 |[],h=>by simp at h
 |x::l,h=>by
  rw[List.cons_append];unfold UB;by_cases hx:x.id=t
  ·rw[if_pos hx,if_pos hx]
  ·rw[if_neg hx,if_neg hx];have:t∈l.map (·.id):=by
    rw[iD,jc]at h;rcases h with h|h
    ·exact absurd h.symm hx
    ·exact h
   rw[UC t d this]
theorem Pd(t:Int)(d:lS)(hd:d.id=t):∀{l:List lS},t∉l.map (·.id)->Aq t (l++[d])=l.length/\UB t (l++[d])=d.df
 |[],_=>by show(if d.id=t then 0 else 0+1)=0/\(if d.id=t then d.df else 0)=d.df;rw[if_pos hd,if_pos hd];exact⟨rfl,rfl⟩
 |x::l,h=>by have hx:¬x.id=t:=fun e=>h (by rw[iD,e];exact List.mem_cons_self);have h2:=Pd t d hd (l:=l) (fun e=>h (by rw[iD];exact List.mem_cons_of_mem _ e));rw[List.cons_append];unfold Aq UB;rw[if_neg hx,if_neg hx,h2.1,h2.2];exact⟨rfl,rfl⟩
theorem J5{q:Int}{L:bq}{h:lS}{tl:List lS}{t:Int}(k:Gi q (h::tl))(hn:¬(0<h.df/\L.contains h.id=true))(htL:L.contains t=true)(ht:t∈(h::tl).map (·.id)):
  O9 t (tl++[Md q h])<O9 t (h::tl):=by
 have hnd:=k.nd;rw[iD,List.nodup_cons]at hnd;have hw:=(k.ds h List.mem_cons_self).w;have hq:=k.q1;unfold O9;rw[jf,List.length_cons,List.length_cons,List.length_nil];by_cases he:h.id=t
 ·have hdf:h.df<=0:=by
   by_cases h0:0<h.df
   ·exact absurd ⟨h0,by rw[he];exact htL⟩ hn
   ·omega
  have ho:t∉tl.map (·.id):=by rw[<-he];exact hnd.1
  obtain⟨e1,e2⟩:=Pd t (Md q h) ((R4 q h).trans he) ho;have e3:(Md q h).df=h.df+q*h.wt:=by unfold Md;rw[if_pos hdf]
  have e4:UB t (h::tl)=h.df:=by show(if h.id=t then h.df else UB t tl)=_;rw[if_pos he]
  have e5:Aq t (h::tl)=0:=by show(if h.id=t then 0 else Aq t tl+1)=_;rw[if_pos he]
  rw[e1,e2,e3,e4,e5];have h5:1<=q*h.wt:=by have:=Int.mul_le_mul (a:=1) (b:=1) (c:=q) (d:=h.wt) (by omega) hw.1 (by omega) (by omega);omega
  have h6:(1-(h.df+q*h.wt)).toNat+1<=(1-h.df).toNat:=by omega
  have h7:=Nat.mul_le_mul_right (tl.length+2) h6;rw[Nat.add_mul]at h7;show(1-(h.df+q*h.wt)).toNat*(tl.length+2)+tl.length<(1-h.df).toNat*(tl.length+2)+0;omega
 ·have ho:t∈tl.map (·.id):=by
   rw[iD,jc]at ht;rcases ht with h1|h1
   ·exact absurd h1.symm he
   ·exact h1
  rw[O_ t _ ho,UC t _ ho];have e4:UB t (h::tl)=UB t tl:=by show(if h.id=t then h.df else UB t tl)=_;rw[if_neg he]
  have e5:Aq t (h::tl)=Aq t tl+1:=by show(if h.id=t then 0 else Aq t tl+1)=_;rw[if_neg he]
  rw[e4,e5];show(1-UB t tl).toNat*(tl.length+2)+Aq t tl<(1-UB t tl).toNat*(tl.length+2)+(Aq t tl+1);omega
theorem Pe{q:Int}{h:lS}{tl:List lS}{t:Int}(ht:t∈(h::tl).map (·.id)):t∈(tl++[Md q h]).map (·.id):=by
 rw[tJ,iD,List.map_nil,R4,List.mem_append];rw[iD,jc]at ht;rcases ht with h1|h1
 ·exact .inr (by rw[h1];exact List.mem_singleton_self _)
 ·exact .inl h1
theorem adS{L:bq}{O:List lS}(h:L.any (Bn O)=true):∃t,L.contains t=true/\t∈O.map (·.id):=by
 obtain⟨t,h1,h2⟩:=List.any_eq_true.1 h;refine⟨t,by rw[List.contains_iff_mem];exact h1,?_⟩;unfold Bn yR at h2;cases hf:O.findIdx? (fun d=>d.id==t)with
 |none=>rw[hf]at h2;cases h2
 |some i=>
  obtain⟨h3,h4,_⟩:=List.findIdx?_eq_some_iff_getElem.1 hf;have h5:O[i].id=t:=by simpa using h4
  rw[<-h5];exact List.mem_map_of_mem (List.getElem_mem h3)
section
variable{w:aF}{R:aJ}{b:Nat}
def Pf(w:aF)(k j:Nat):Int:=match w.cell? ⟨k,j,none⟩with
 |some (.int _ x)=>x
 |_=>0
def rdD(w:aF)(v:Option aL):lS:=match v with
 |some (.pointer (some a))=>⟨Pf w a.block 0,Pf w a.block 1,Pf w a.block 2,Pf w a.block 3⟩
 |_=>⟨0,0,0,0⟩
def rdO(w:aF)(b:Nat):List lS:=match w.cell? ⟨b,1,none⟩with
 |some (.slice (some a) n _)=>(List.range n).map fun j=>rdD w (w.cell? ⟨a.block,a.off+j,none⟩)
 |_=>[]
theorem Me{r:I4}(o:Own w (dX b r::R)):rdO w b=r.O:=by
 obtain⟨ps,a,c,hp,o1⟩:=dX.iff.1 o;have c1:=o1.cell 1;unfold rdO;rw[c1];by_cases h0:ps.length=0
 ·have:r.O=[]:=CO (by omega);rw[this];cases a with
  |none=>rfl
  |some a=>simp[h0]
 ·obtain⟨g,off,rfl,hc,_⟩:=(o1.up 1).Ao (by omega);show(List.range ps.length).map (fun j=>rdD w (w.cell? ⟨g,off+j,none⟩))=r.O;apply List.ext_getElem?;intro i;rw[kI];by_cases hi:i<ps.length
  ·obtain⟨k,hk⟩:∃k,ps[i]?=some k:=⟨_,cZ hi⟩;obtain⟨d,hd⟩:∃d,r.O[i]?=some d:=⟨_,cZ (by omega)⟩;have hz:(List.zipWith gQ ps r.O)[i]?=some (gQ k d):=by rw[List.getElem?_zipWith,hk,hd]
   have o3:=Own.focus hz (o1.up 2);have k0:=Own.cell (T:=346) (vs:=wo d) o3 0;have k1:=Own.cell (T:=346) (vs:=wo d) o3 1;have k2:=Own.cell (T:=346) (vs:=wo d) o3 2;have k3:=Own.cell (T:=346) (vs:=wo d) o3 3;rw[List.getElem?_range hi,Option.map_some,hc i (pv k) (by rw[kI,hk];rfl),hd];show some (rdD w (some (pv k)))=some d;unfold pv rdD Pf;dsimp only;rw[k0,k1,k2,k3]
  ·rw[QY (by rw[List.length_range];omega),QY (by omega)];rfl
end
section
variable{w w':aF}{R:aJ}{b kb:Nat}{q:Int}{O L:List lS}
theorem Tryz.dstT:bS prog 160 161 1 8:=bS.mk' (z:=.pointer none) underlying160 (by kernel_rfl) rfl (by decide)
def Cb(q:Int)(O:List lS)(L:bq)(b:Nat)(a:aY)(c:Nat)(R:aJ)(w:aF)(e:Ending)(w':aF):Prop:=
 if L.any (Bn O)=true then∃O' x,rE q L O O' x/\aR (.tuple #[.int .i64 x,aC]) (dX b ⟨q,O',true⟩::bZ a c L::R) w e w'
 else aR (.tuple #[aC,(5:Int)]) (dX b ⟨q,O,false⟩::bZ a c L::R) w e w'
structure UD(L:bq):Prop where
 lt:L.Pairwise (·<·)
 r:∀x∈L,0<=x/\x<16
 n:L.length<=100
def R5(L:bq):Int:=L.getLast?.getD (-1)
theorem J6(L:bq)(x:Int):R5 (L++[x])=x:=by unfold R5;rw[List.getLast?_concat];rfl
theorem abe{L:bq}(h:UD L){i:Nat}{x:Int}(hx:L[i]?=some x):R5 (L.take i)<x:=by
 obtain⟨hi,he⟩:=eU.1 hx;rcases List.eq_nil_or_concat (L.take i)with h0|⟨m,y,hm⟩
 ·rw[h0];have:=(h.r x (mH hx)).1;show(-1:Int)<x;omega
 ·rw[hm,List.concat_eq_append,J6];have hl:(L.take i).length=i:=by rw[rZ];omega
  have hml:m.length+1=i:=by rw[<-hl,hm,List.length_concat]
  have hy:(L.take i)[m.length]?=some y:=by rw[hm,List.concat_eq_append];simp
  have hy2:L[m.length]?=some y:=by
   rw[List.getElem?_take]at hy;split at hy
   ·exact hy
   ·cases hy
  obtain⟨hj,hje⟩:=eU.1 hy2;have:=List.pairwise_iff_getElem.1 h.lt m.length i hj hi (by omega);rw[hje,he]at this;exact this
def afu(L:bq)(w:aF)(v6 _ v12:aL)(wr:aF):Prop:=∃i:Nat,v12=↑(i:Int)/\i<=L.length/\v6=↑(R5 (L.take i):Int)/\wr=w
def Y1(q:Int)(O0:List lS)(L:bq)(t:Int)(b kb:Nat)(a:aY)(c:Nat)(R:aJ)(w:aF)(_:aL)(wr:aF):Prop:=
 ∃O:List lS,Gi q O/\O.length=O0.length/\t∈O.map (·.id)/\(∀O' x,rE q L O O' x->rE q L O0 O' x)/\Own wr (dX b ⟨q,O,false⟩::Ap kb b::bZ a c L::R)/\Calm w wr
theorem Ar{W:aF}{k:Nat}{d:lS}{ps:List Nat}{tl:List lS}{a2:aY}{c2:Nat}(hpl:ps.length=tl.length)(o:Own W (aH b 163 [q,.slice a2 (ps.length+1) c2,.pointer none]::mQ 161 1 a2 (ps.length+1) c2 (ps.map pv++[.pointer (some ⟨k,0,none⟩)])::gQ k d::st (List.zipWith gQ ps tl)::R)):
  Own W (dX b ⟨q,tl++[d],false⟩::R):=by
 refine dX.iff.2 ⟨ps++[k],a2,c2,by simp[hpl],?_⟩;rw[jf,tJ];have o2:=Own.BB (o.re [2,3]);have e1:List.zipWith gQ (ps++[k]) (tl++[d])=List.zipWith gQ ps tl++[gQ k d]:=by rw[List.zipWith_append hpl];rfl
 rw[e1];exact o2.re [1,2,0]
theorem R6{O:List lS}{L:bq}{a:aY}{c:Nat}(hO:Gi q O)(hOl:O.length<=100)(hL:UD L)(o:Own w (dX b ⟨q,O,false⟩::bZ a c L::R)):
  Calls prog 144 #[b,.slice a L.length c] w (Cb q O L b a c R w):=by
 have oA:Own (w.alloc (.cells #[b] 122)) (Ap w.heap.size b::dX b ⟨q,O,false⟩::bZ a c L::R):=o.alloc (.cells #[b] 122);have K0:Calm w (w.alloc (.cells #[b] 122)):=⟨rfl,rfl,rfl⟩;have HA:=az (lI.own (oA.up 2));have hcon:=V9 (r:=⟨q,O,false⟩) (by have:=hL.n;omega) (by show O.length<=1000;omega) (oA.re [2,0,1]);dsimp only at hcon;have HL:=az hL;have hLn:=hL.n;obtain⟨n,hn0⟩:=aP L.length;have HN:=az hn0;rw[hn0]at hcon hLn⊢;clear hL hn0;go_enter func144,ntmps144;go_wp2;generalize hw0:w.alloc (.cells #[b] 122)=w0 at*;generalize w.heap.size=kb at*;clear hw0 o;go_loopw[6,8,12] (fun v6 v8 v12 wr=>afu L w0 v6 v8 v12 wr) (fun _ _ v _=>n-(Lib.intOf v).toNat);case atStart=>exact⟨0,rfl,by omega,rfl,rfl⟩
 case round=>
  obtain⟨i,rfl,hi,rfl,rfl⟩:=hrel;rw[HN.out]at hi;by_cases hil:i<n
  ·obtain⟨x,hx⟩:∃x,L[i]?=some x:=⟨_,cZ (by rw[HN.out];exact hil)⟩;obtain⟨g,hg,hc,hgl⟩:∃g,a=some ⟨g,0,none⟩/\(∀(j:Nat)x,L[j]?=some x->wr.cell? ⟨g,j,none⟩=some (.int .i64 x))/\g<wr.heap.size:=by
    rcases HA.out with h0|h0
    ·rw[h0]at hx;cases hx
    ·exact h0
   subst hg;have hcx:=hc i x hx;have UE:=HL.out.r x (mH hx);have hlt:=abe HL.out hx;have HT:=az (show R5 (L.take (i+1))=x by rw[tH,hx];exact J6 _ _);generalize R5 (L.take i)=y at*;have d1:=bW (show¬(x<=y)by omega);have d2:=bW (show¬(16<=x)by omega);clear hc hx hlt UE hcon;go_wp2;go_roundw;case rel=>exact⟨i+1,by go_num,by rw[HN.out];omega,by rw[HT.out],rfl⟩
   case measure=>simp[Lib.intOf];omega
  ·have hin:i=n:=by omega
   have hd:=bW (show¬((i:Int)<(n:Int))by omega);generalize R5 (L.take i)=y at*;subst hin;clear hil hi;obtain⟨Z,hZ⟩:=aP (L.any (Bn O));have HZ:=az hZ;rw[hZ]at hcon;clear hZ;go_wp2_with fail;refine hcon.mono ?_;rintro _ w1⟨rfl,o1,k1⟩;have K1:=K0.trans k1;clear hcon;cases Z with
   |false=>have HP:=az (fun(e:Ending)(w':aF)=>show Cb q O L b a c R w e w'=aR (.tuple #[aC,(5:Int)]) (dX b ⟨q,O,false⟩::bZ a c L::R) w e w' by unfold Cb;rw[if_neg (by rw[HZ.out];decide)]);go_wp2;go_ret2;rw[HP.out];exact⟨rfl,(o1.re [1] 1).swap,K1⟩
   |true=>
    have HP:=az (fun(e:Ending)(w':aF)=>show Cb q O L b a c R w e w'=∃O' x,rE q L O O' x/\aR (.tuple #[.int .i64 x,aC]) (dX b ⟨q,O',true⟩::bZ a c L::R) w e w' by unfold Cb;rw[if_pos HZ.out]);obtain⟨t,htL,ht⟩:=adS HZ.out;have HTL:=az htL;have HT:=az ht;have HO:=az hO;clear htL ht hO;go_wp2;go_loopw[9] (fun v9 wr=>Y1 q O L t b kb a c R w v9 wr) (fun _ wr=>O9 t (rdO wr b));case atStart=>exact⟨O,HO.out,rfl,HT.out,fun _ _ h=>h,o1.re [2,1,0],K1⟩
    case round=>
     clear o1 K1 k1;obtain⟨P,hP,hPl,hPt,hPn,oR,kR⟩:=hrel;obtain⟨h,tl,rfl⟩:∃h tl,P=h::tl:=by
      cases P with
      |nil=>simp at hPt
      |cons h tl=>exact⟨h,tl,rfl⟩
     obtain⟨ps0,pa,pc,abf,o2⟩:=dX.iff.1 oR;dsimp only at abf o2;obtain⟨k,ps,rfl⟩:∃k ps,ps0=k::ps:=by
      cases ps0 with
      |nil=>simp at abf
      |cons k ps=>exact⟨k,ps,rfl⟩
     have hpl:ps.length=tl.length:=by simpa using abf
     have hM:=Me oR;obtain⟨g,off,rfl,hc,hgl⟩:=(o2.up 1).Ao (by simp);have g0:=hc 0 (pv k) rfl;rw[Nat.add_zero]at g0;have oB:Own wr (gQ k h::st (List.zipWith gQ ps tl)::aH b 163 [q,.slice (some ⟨g,off,none⟩) (ps.length+1) pc,.pointer none]::mQ 161 1 (some ⟨g,off,none⟩) (ps.length+1) pc (pv k::ps.map pv)::Ap kb b::bZ a c L::R):=Own.focus (i:=0) rfl (o2.up 2);have s0:=Own.cell (T:=346) (vs:=wo h) oB 0;have s1:=Own.cell (T:=346) (vs:=wo h) oB 1;have s2:=Own.cell (T:=346) (vs:=wo h) oB 2;have s3:=Own.cell (T:=346) (vs:=wo h) oB 3;change World.cell? _ ⟨k,0,none⟩=some ↑h.id at s0;change World.cell? _ ⟨k,1,none⟩=some ↑h.wt at s1;change World.cell? _ ⟨k,2,none⟩=some ↑h.df at s2;change World.cell? _ ⟨k,3,none⟩=some ↑h.tn at s3;have sf:=Own.frozen (T:=346) (vs:=wo h) oB;have sl:=Own.aS (T:=346) (vs:=wo h) oB;obtain⟨rf,rl,r0,r1,r2,-⟩:=(oB.up 2).cs;obtain⟨-,xl,x0,-⟩:=Own.cs (T:=122) (vs:=[b]) (oB.up 4);have hcn:=De (w:=wr) (c:=c) h.id (by rw[HN.out];omega) (lI.own (oB.up 5));rw[HN.out]at hcn;unfold pv at g0;have HPN:=az hPn;have HPL:=az hPl;have V_:=az hPt;have HM:=az hM;have HPO:=az hP;have afv:=hP.ds h List.mem_cons_self;have hq1:=hP.q1;have hq2:=hP.q2;have UF:=az hpl;clear abf hc hPn hPl hPt hM hP hpl o2 oR;by_cases hdf:0<h.df
     ·have d1:decide (0<h.df)=true:=bz hdf;obtain⟨Zc,hZc⟩:=aP (L.contains h.id);have HZC:=az hZc;rw[hZc]at hcn;clear hZc;cases Zc with
      |true=>have HDF:=az hdf;clear hdf;go_wp2_with fail;refine hcn.mono ?_;rintro _ _⟨rfl,rfl⟩;have oE:=(oB.up 2).setCell 2 (.pointer (some ⟨k,0,none⟩));have KE:=ay (x:=⟨b,2,none⟩) (v:=.pointer (some ⟨k,0,none⟩)) kR;clear hcn;go_wp2;go_ret2;rw[HP.out];refine⟨h::tl,h.id,HPN.out _ _ (rE.here h tl HDF.out HZC.out),rfl,?_,KE⟩;have oF:Own _ (st (gQ k h::List.zipWith gQ ps tl)::aH b 163 [q,.slice (some ⟨g,off,none⟩) (ps.length+1) pc,.pointer (some ⟨k,0,none⟩)]::mQ 161 1 (some ⟨g,off,none⟩) (ps.length+1) pc (pv k::ps.map pv)::Ap kb b::bZ a c L::R):=Own.qY (i:=0) (l:=gQ k h::List.zipWith gQ ps tl) (A:=gQ k h) rfl (oE.re [1,2,0]);exact(dX.iff.2 ⟨k::ps,some ⟨g,off,none⟩,pc,by simp[UF.out],(oF.re [3] 1).re [1,2,0]⟩)
      |false=>
       have d2:=bW (show¬(h.df<=0)by omega);have HU:=az (show Md q h=h by unfold Md;rw[if_neg (by omega)]);have hnt:¬(0<h.df/\L.contains h.id=true):=fun hc=>by rw[HZC.out]at hc;exact zH hc.2
       have HX:=az (fun(W:aF)(oW:Own W (dX b ⟨q,tl++[Md q h],false⟩::Ap kb b::bZ a c L::R))(kW:Calm w W)=>show Y1 q O L t b kb a c R w (.pointer (some ⟨k,0,none⟩)) W/\O9 t (rdO W b)<O9 t (rdO wr b)from
        ⟨⟨tl++[Md q h],HPO.out.turn,by have:=HPL.out;simp at this⊢;omega,Pe V_.out,fun O' x hx=>HPN.out O' x (rE.turn h tl O' x hnt hx),oW,kW⟩,by rw[Me oW,HM.out];exact J5 HPO.out hnt HTL.out V_.out⟩)
       clear hdf hnt;go_wp2_with fail;refine hcn.mono ?_;rintro _ _⟨rfl,rfl⟩;clear hcn;have hm1:ps.length+1<=pc:=(oB.up 3).Am.2.1;have hm2:(1:Int)<=(pc:Int):=by omega
       have hm4:(1:Int)<=(ps.length:Int)+1:=by omega
       have Ny:ps.length<=100:=by have:=UF.out;have:=HPL.out;simp at this;omega
       go_upto_region 18 with fail;by_cases hpc:pc=1
       ·subst hpc;have hps:ps=[]:=CO (by omega);subst hps;have oT:=Own.O4 (oB.up 3);have oX:Own (wr.drew.alloc (.cells #[.pointer (some ⟨k,0,none⟩)] 161)) (aH wr.heap.size 161 [.pointer (some ⟨k,0,none⟩)]::_):=oT.drew.alloc (.cells #[.pointer (some ⟨k,0,none⟩)] 161);have hnw:=Own.news (T:=161) (vs:=[.pointer (some ⟨k,0,none⟩)]) oX
        go_region_law(first
         |(refine iU rfl _ _ rfl Tryz.dstT rfl (oX.up 1) _ 1 1 _ rfl (by omega) rfl hnw (by intro u hu;simp only[jc,xN,or_false]at hu;subst hu;rfl) (by unfold maxLen;omega) (by omega) ?_;intro a2 c2 w5 o5 k5;have z1:=(o5.up 4).cell 1;have zf:=(o5.up 4).frozen;have zl:=(o5.up 4).aS;have zx:=Own.cell (T:=122) (vs:=[b]) (o5.up 5) 0))
        all_goals
         have KF:=ay (x:=⟨b,1,none⟩) (v:=.slice a2 1 c2) ((aj (aD kR)).trans k5);have oF:=Ar UF.out (((o5.up 4).setCell 1 (.slice a2 1 c2)).re [2] 1);clear o5 k5 z1 zf zl zx hnw oX oT;go_wp2;exact HX.out _ (by rw[HU.out];exact oF) KF
       ·have oT:=Own.O3 (oB.up 3);have oX:Own (wr.drew.alloc (.cells #[.pointer (some ⟨k,0,none⟩)] 161)) (aH wr.heap.size 161 [.pointer (some ⟨k,0,none⟩)]::_):=oT.drew.alloc (.cells #[.pointer (some ⟨k,0,none⟩)] 161);have hnw:=Own.news (T:=161) (vs:=[.pointer (some ⟨k,0,none⟩)]) oX
        go_region_law(first
         |(refine iU rfl _ _ rfl Tryz.dstT rfl (oX.up 1) _ 1 1 _ rfl (by omega) rfl hnw (by intro u hu;simp only[jc,xN,or_false]at hu;subst hu;rfl) (by unfold maxLen;omega) (by omega) ?_;intro a2 c2 w5 o5 k5;have z1:=(o5.up 4).cell 1;have zf:=(o5.up 4).frozen;have zl:=(o5.up 4).aS;have zx:=Own.cell (T:=122) (vs:=[b]) (o5.up 5) 0))
        all_goals
         have KF:=ay (x:=⟨b,1,none⟩) (v:=.slice a2 (ps.length+1) c2) ((aj (aD kR)).trans k5);have oF:=Ar UF.out (((o5.up 4).setCell 1 (.slice a2 (ps.length+1) c2)).re [2] 1);clear o5 k5 z1 zf zl zx hnw oX oT;go_wp2;exact HX.out _ (by rw[HU.out];exact oF) KF
     ·have d1:decide (0<h.df)=false:=bW hdf;have d2:=bz (show h.df<=0 by omega);have hwt:=afv.w;have hff:=afv.f;have afw:0<=q*h.wt:=Int.mul_nonneg (by omega) (by omega);have afx:q*h.wt<=16777216:=by have:=Int.mul_le_mul hq2 hwt.2 (by omega) (by omega:(0:Int)<=1048576);omega
      have w1:IntKind.i64.wrap (q*h.wt)=q*h.wt:=by rw[gB];omega
      have w2:IntKind.i64.wrap (h.df+q*h.wt)=h.df+q*h.wt:=by rw[gB];omega
      obtain⟨TN,hTN⟩:=aP (IntKind.i64.wrap (h.tn+1));have HU:=az (show Md q h=⟨h.id,h.wt,h.df+q*h.wt,TN⟩by unfold Md;rw[if_pos (by omega),hTN]);have hnt:¬(0<h.df/\L.contains h.id=true):=fun hc=>hdf hc.1
      have HX:=az (fun(W:aF)(oW:Own W (dX b ⟨q,tl++[Md q h],false⟩::Ap kb b::bZ a c L::R))(kW:Calm w W)=>show Y1 q O L t b kb a c R w (.pointer (some ⟨k,0,none⟩)) W/\O9 t (rdO W b)<O9 t (rdO wr b)from
       ⟨⟨tl++[Md q h],HPO.out.turn,by have:=HPL.out;simp at this⊢;omega,Pe V_.out,fun O' x hx=>HPN.out O' x (rE.turn h tl O' x hnt hx),oW,kW⟩,by rw[Me oW,HM.out];exact J5 HPO.out hnt HTL.out V_.out⟩)
      have hk0:=hcn;clear hk0 hcn hnt hdf;go_upto_region 16 with fail;refine wp_region_tail 13 (by kernel_rfl) (by kernel_rfl) ?_;simp only[xe,List.take_zero,yB,List.drop_zero];repeat still_step
      refine wpStill_nil ?_;have oC:=Own.setCell (T:=346) (vs:=wo h) oB 2 (.int .i64 (h.df+q*h.wt));have y3:=Own.cell (T:=346) oC 3;change World.cell? _ ⟨k,3,none⟩=some ↑h.tn at y3;obtain⟨yf,yl,-⟩:=Own.cs (T:=346) oC;have oW:=(Own.setCell (T:=346) oC 3 (.int .i64 TN)).drew;have KW:=aD (ay (x:=⟨k,3,none⟩) (v:=.int .i64 TN) (ay (x:=⟨k,2,none⟩) (v:=.int .i64 (h.df+q*h.wt)) kR));have oD:Own _ (gQ k ⟨h.id,h.wt,h.df+q*h.wt,TN⟩::st (List.zipWith gQ ps tl)::aH b 163 [q,.slice (some ⟨g,off,none⟩) (ps.length+1) pc,.pointer none]::mQ 161 1 (some ⟨g,off,none⟩) (ps.length+1) pc (pv k::ps.map pv)::Ap kb b::bZ a c L::R):=oW;go_upto_region 18 with fail;generalize ((wr.setCell ⟨k,2,none⟩ (h.df+q*h.wt:Int)).setCell ⟨k,3,none⟩ (.int .i64 TN)).drew=wc at*;clear oW oC y3 yf yl oB kR g0 s0 s1 s2 s3 sf sl r0 r1 r2 rf rl x0 xl w1 w2 afw afx hTN;obtain⟨rf,rl,-,r1,-⟩:=(oD.up 2).cs;obtain⟨-,xl,x0,-⟩:=Own.cs (T:=122) (vs:=[b]) (oD.up 4);have hm1:ps.length+1<=pc:=(oD.up 3).Am.2.1;have hm2:(1:Int)<=(pc:Int):=by omega
      have hm4:(1:Int)<=(ps.length:Int)+1:=by omega
      have Ny:ps.length<=100:=by have:=UF.out;have:=HPL.out;simp at this;omega
      by_cases hpc:pc=1
      ·subst hpc;have hps:ps=[]:=CO (by omega);subst hps;have oT:=Own.O4 (oD.up 3);have oX:Own (wc.drew.alloc (.cells #[.pointer (some ⟨k,0,none⟩)] 161)) (aH wc.heap.size 161 [.pointer (some ⟨k,0,none⟩)]::_):=oT.drew.alloc (.cells #[.pointer (some ⟨k,0,none⟩)] 161);have hnw:=Own.news (T:=161) (vs:=[.pointer (some ⟨k,0,none⟩)]) oX
       go_region_law(first
        |(refine iU rfl _ _ rfl Tryz.dstT rfl (oX.up 1) _ 1 1 _ rfl (by omega) rfl hnw (by intro u hu;simp only[jc,xN,or_false]at hu;subst hu;rfl) (by unfold maxLen;omega) (by omega) ?_;intro a2 c2 w5 o5 k5;have z1:=(o5.up 4).cell 1;have zf:=(o5.up 4).frozen;have zl:=(o5.up 4).aS;have zx:=Own.cell (T:=122) (vs:=[b]) (o5.up 5) 0))
       all_goals
        have KF:=ay (x:=⟨b,1,none⟩) (v:=.slice a2 1 c2) ((aj (aD KW)).trans k5);have oF:=Ar UF.out (((o5.up 4).setCell 1 (.slice a2 1 c2)).re [2] 1);clear o5 k5 z1 zf zl zx hnw oX oT;go_wp2;exact HX.out _ (by rw[HU.out];exact oF) KF
      ·have oT:=Own.O3 (oD.up 3);have oX:Own (wc.drew.alloc (.cells #[.pointer (some ⟨k,0,none⟩)] 161)) (aH wc.heap.size 161 [.pointer (some ⟨k,0,none⟩)]::_):=oT.drew.alloc (.cells #[.pointer (some ⟨k,0,none⟩)] 161);have hnw:=Own.news (T:=161) (vs:=[.pointer (some ⟨k,0,none⟩)]) oX
       go_region_law(first
        |(refine iU rfl _ _ rfl Tryz.dstT rfl (oX.up 1) _ 1 1 _ rfl (by omega) rfl hnw (by intro u hu;simp only[jc,xN,or_false]at hu;subst hu;rfl) (by unfold maxLen;omega) (by omega) ?_;intro a2 c2 w5 o5 k5;have z1:=(o5.up 4).cell 1;have zf:=(o5.up 4).frozen;have zl:=(o5.up 4).aS;have zx:=Own.cell (T:=122) (vs:=[b]) (o5.up 5) 0))
       all_goals
        have KF:=ay (x:=⟨b,1,none⟩) (v:=.slice a2 (ps.length+1) c2) ((aj (aD KW)).trans k5);have oF:=Ar UF.out (((o5.up 4).setCell 1 (.slice a2 (ps.length+1) c2)).re [2] 1);clear o5 k5 z1 zf zl zx hnw oX oT;go_wp2;exact HX.out _ (by rw[HU.out];exact oF) KF
end
section
variable{w w':aF}{R:aJ}{b kb:Nat}{r:I4}
def Au(r:I4)(id wt:Int):Int×I4:=if Bn r.O id=true then(7,r)else(0,⟨r.q,r.O++[⟨id,wt,r.q*wt,0⟩],false⟩)
theorem R7{id wt:Int}(hi:0<=id/\id<16)(hw:1<=wt/\wt<=16)(hq:256<=r.q/\r.q<=1048576)(hl:r.O.length<=100)(o:Own w (dX b r::R)):
  Calls prog 449 #[b,id,wt] w (aR (.int .i64 (Au r id wt).1) (dX b (Au r id wt).2::R) w):=by
 have hf:=yS (x:=id) (by omega) o;have d1:=bW (show¬(id<0)by omega);have d2:=bW (show¬(16<=id)by omega);have d3:=bW (show¬(wt<1)by omega);have d4:=bW (show¬(16<wt)by omega);have afw:0<=r.q*wt:=Int.mul_nonneg (by omega) (by omega);have afx:r.q*wt<=16777216:=by have:=Int.mul_le_mul hq.2 hw.2 (by omega) (by omega:(0:Int)<=1048576);omega
 have w1:IntKind.i64.wrap (r.q*wt)=r.q*wt:=by rw[gB];omega
 unfold Au;obtain⟨I,hI⟩:=aP (yR r.O id);have hin:Bn r.O id=decide (0<=I):=by unfold Bn;rw[hI]
 rw[hI]at hf;rw[hin];by_cases h0:0<=I
 ·have d5:decide (0<=I)=true:=bz h0;rw[if_pos d5];clear hI hin h0 hi hw;go_enter func449,ntmps449;go_wp2_with fail;refine hf.mono ?_;rintro e1 w2⟨rfl,o1,k1⟩;go_wp2;go_ret;exact⟨rfl,o1,k1⟩
 ·have d5:decide (0<=I)=false:=bW h0;rw[if_neg (by rw[d5];decide)];clear hI hin h0 hi hw;go_enter func449,ntmps449;go_wp2_with fail;refine hf.mono ?_;rintro e1 w2⟨rfl,o1,k1⟩;clear hf;obtain⟨ps,a,c,hp,o2⟩:=dX.iff.1 o1;have HP:=az hp;have hpl:ps.length<=100:=by omega
  clear hp;obtain⟨cf,cl,c0,c1,c2,-⟩:=o2.cs;have oX:Own (((w2.drew.alloc (.cells #[id,wt,(r.q*wt:Int),aC] 346))).alloc (.cells #[w2.heap.size] 161)) (aH (w2.drew.alloc (.cells #[id,wt,(r.q*wt:Int),aC] 346)).heap.size 161 [w2.heap.size]::gQ w2.heap.size ⟨id,wt,r.q*wt,0⟩::_):=(o2.drew.alloc (.cells #[id,wt,(r.q*wt:Int),aC] 346)).alloc (.cells #[w2.heap.size] 161);rw[World.size_alloc]at oX;have hnw:=Own.news (T:=161) (vs:=[w2.heap.size]) oX;go_upto_region 5 with fail
  go_region_law(first
   |(refine iU rfl _ _ rfl Tryz.dstT rfl (oX.up 3) _ 1 1 _ rfl (by omega) rfl hnw (by intro u hu;simp only[jc,xN,or_false]at hu;subst hu;rfl) (by unfold maxLen;omega) (by omega) ?_;intro a2 c2' w5 o5 k5;have z1:=(o5.up 3).cell 1;have zf:=(o5.up 3).frozen;have zl:=(o5.up 3).aS))
  all_goals
   have KF:=ay (x:=⟨b,2,none⟩) (v:=.pointer none) (ay (x:=⟨b,1,none⟩) (v:=.slice a2 (ps.length+1) c2') ((aj (aj (aD k1))).trans k5));have oG:=(o5.up 3).setCell 1 (.slice a2 (ps.length+1) c2');obtain⟨yf,yl,-,-,y2,-⟩:=oG.cs;have oF:=Ar HP.out ((oG.setCell 2 (.pointer none)).re [2] 1);clear hnw oX o5 k5 z1 zf zl c0 c1 c2 cf cl o2 o1;go_wp2;go_ret;exact⟨rfl,oF,KF⟩
def I5(r:I4)(t:Int):I4:=match r.O with
 |d::l=>⟨r.q,⟨d.id,d.wt,d.df-t,d.tn⟩::l,false⟩
 |[]=>r
theorem Mf{q:Int}{d:lS}{l:List lS}{t:Int}(ht:1<=t/\t<=1048576)(hd:-4611686018427387904<=d.df/\d.df<=4611686018427387904)(o:Own w (dX b ⟨q,d::l,true⟩::R)):
  Calls prog 145 #[b,t] w (aR (.int .i64 0) (dX b (I5 ⟨q,d::l,true⟩ t)::R) w):=by
 obtain⟨ps0,a,c,hp,o1⟩:=dX.iff.1 o;dsimp only at hp o1;obtain⟨k,ps,rfl⟩:∃k ps,ps0=k::ps:=by
  cases ps0 with
  |nil=>simp at hp
  |cons k ps=>exact⟨k,ps,rfl⟩
 have hpl:ps.length=l.length:=by simpa using hp
 have HP:=az hpl;have oB:Own w (gQ k d::st (List.zipWith gQ ps l)::aH b 163 [q,.slice a (ps.length+1) c,.pointer (some ⟨k,0,none⟩)]::mQ 161 1 a (ps.length+1) c (pv k::ps.map pv)::R):=Own.focus (i:=0) rfl (o1.up 2);have s2:=Own.cell (T:=346) (vs:=wo d) oB 2;change World.cell? _ ⟨k,2,none⟩=some ↑d.df at s2;have sf:=Own.frozen (T:=346) (vs:=wo d) oB;have sl:=Own.aS (T:=346) (vs:=wo d) oB;obtain⟨rf,rl,-,-,r2,-⟩:=(oB.up 2).cs;have d1:=bW (show¬(t<1)by omega);have d2:=bW (show¬(1048576<t)by omega);have w1:IntKind.i64.wrap (d.df-t)=d.df-t:=by rw[gB];omega
 clear hp hpl o1 o ht hd;have oC:=Own.setCell (T:=346) (vs:=wo d) oB 2 (.int .i64 (d.df-t));have oD:=(oC.up 2).setCell 2 (.pointer none);have oE:Own _ (gQ k ⟨d.id,d.wt,d.df-t,d.tn⟩::st (List.zipWith gQ ps l)::aH b 163 [q,.slice a (ps.length+1) c,.pointer none]::mQ 161 1 a (ps.length+1) c (pv k::ps.map pv)::R):=oD.re [1,2,0];have oF:Own _ (st (gQ k ⟨d.id,d.wt,d.df-t,d.tn⟩::List.zipWith gQ ps l)::aH b 163 [q,.slice a (ps.length+1) c,.pointer none]::mQ 161 1 a (ps.length+1) c (pv k::ps.map pv)::R):=Own.qY (i:=0) (l:=gQ k ⟨d.id,d.wt,d.df-t,d.tn⟩::List.zipWith gQ ps l) (A:=gQ k ⟨d.id,d.wt,d.df-t,d.tn⟩) rfl oE;have KF:=ay (x:=⟨b,2,none⟩) (v:=.pointer none) (ay (x:=⟨k,2,none⟩) (v:=.int .i64 (d.df-t)) (Calm.refl w));obtain⟨tf,tl,-,-,t2,-⟩:=(oC.up 2).cs;have oG:Own _ (dX b (I5 ⟨q,d::l,true⟩ t)::R):=dX.iff.2 ⟨k::ps,a,c,by simp[I5,HP.out],oF.re [1,2,0]⟩;clear oC oD oE oF oB;go_enter func145,ntmps145;go_wp2;go_ret;exact⟨rfl,oG,KF⟩
end
section
variable{w w':aF}{R:aJ}{b:Nat}{r:I4}
theorem Tryz.dstTZ(w:aF):(zeroValue 161).run prog w=.ok (.pointer none) w:=by kernel_rfl
theorem Ql:∀u∈(Value.pointer none).cells.toList,u.oneCell'=true:=by
 intro u hu;have:u=.pointer none:=by simpa[Value.cells]using hu
 subst this;rfl
theorem Xb(g k j:Nat):(⟨g,k,none⟩:Addr).add j=⟨g,k+j,none⟩:=by unfold Addr.add;split<;>simp_all
theorem aeh(L:List Nat):∀u∈L.map pv,u.oneCell'=true:=by intro u hu;obtain⟨s,_,hs⟩:=gW.1 hu;subst hs;rfl
theorem Qm{a:aY}{n c i:Nat}{L:List Nat}(hn:n=L.length)(hi:i<n)(hl:n<=100000)(o:Own w (mQ 161 1 a n c (L.map pv)::R)):
  Calls prog 451 #[.slice a n c,(i:Int),((i:Int)+1:Int)] w
   (aR (.slice a (n-1) c) (mQ 161 1 a (n-1) c ((L.eraseIdx i).map pv)::R) w):=by
 obtain⟨m,rfl⟩:∃m,n=i+1+m:=⟨n-(i+1),by omega⟩;rw[show i+1+m-1=i+m by omega];obtain⟨g,off,rfl,hc,hgl⟩:=o.Ao (by omega);have hnc:=o.Am.2.1;have hcm:=o.Am;have hsplit:L.map pv=(L.take i).map pv++(L.drop i).map pv:=by rw[<-tJ,List.take_append_drop]
 have htl:((L.take i).map pv).length=i:=by rw[iP,rZ,Nat.min_eq_left (by omega)]
 have oC:Own w (mQ 161 1 (some ⟨g,off,none⟩) i c ((L.take i).map pv)::R):=by rw[hsplit]at o;exact Own.Z5 o (by omega) (by rw[htl,Nat.mul_one])
 have oD:=oC.drew;have hsrc:∀(ad:aY)(c':Nat),(ad=some ⟨g,off+(i+1),none⟩\/m=0)->qX w.drew (.slice ad m c') 1 m ((L.drop (i+1)).map pv):=fun ad c' had=>
  ⟨ad,c',rfl,by rw[iP,List.length_drop,<-hn];omega,aeh _,by
   rcases had with rfl|h0
   ·right;refine⟨_,rfl,fun j u hu=>?_⟩;rw[Xb,Nat.add_assoc];refine hc ((i+1)+j) u ?_;have h2:L.map pv=(L.take (i+1)).map pv++(L.drop (i+1)).map pv:=by rw[<-tJ,List.take_append_drop]
    have h3:((L.take (i+1)).map pv).length=(i+1):=by rw[iP,rZ,Nat.min_eq_left (by omega)]
    rw[h2,List.getElem?_append_right (by omega),h3,show(i+1)+j-(i+1)=j by omega];exact hu
   ·exact .inl h0⟩
 have HS:=az hsrc;have HE:=az (show(L.take i).map pv++(L.drop (i+1)).map pv=(L.eraseIdx i).map pv by rw[<-tJ,List.eraseIdx_eq_take_drop_succ]);have hb1:(i:Int)<=(c:Int):=by omega
 have hb2:(i:Int)+1<=(c:Int):=by omega
 have hb5:(i:Int)<=(i:Int)+1:=by omega
 have hb6:0<=(i:Int)+1:=by omega
 have hb7:(i:Int)+1<=(i:Int)+1+(m:Int):=by omega
 have hb3:i<=c:=by omega
 have hb4:i+1<=c:=by omega
 have hne:((i:Int)==(i:Int)+1)=false:=by simpa using(by omega:¬(i:Int)=(i:Int)+1)
 clear hsrc hsplit htl hc hn o oC hcm;go_enter func451,ntmps451;by_cases hc1:c=i+1
 ·have hm0:m=0:=by omega
  subst hm0;subst hc1;go_upto_region 5 with fail;go_region_law(first|(refine qN rfl _ _ rfl Tryz.dstT rfl oD rfl (HS.out _ _ (.inr rfl)) (by omega) ?_;intro w5 o5 k5));have o6:Own w5 (mQ 161 1 (some ⟨g,off,none⟩) i (i+1) ((L.eraseIdx i).map pv)::R):=by rw[<-HE.out];exact o5
  obtain⟨w6,hcl,o7,k7⟩:=yx 0 Tryz.dstT Tryz.dstTZ rfl Ql o6 (m:=1) (c:=1) (by omega);rw[Nat.mul_one]at hcl;go_wp2;go_ret;exact⟨rfl,o7,(aD (Calm.refl w)).trans (k5.trans k7)⟩
 ·have hx:=HS.out (some ⟨g,off+(i+1),none⟩) (c-(i+1)) (.inl rfl);go_upto_region 5 with fail;go_region_law(first|(refine qN rfl _ _ rfl Tryz.dstT rfl oD ?hxx hx (by omega) ?hkk;(case hxx=>go_simp);intro w5 o5 k5));have o6:Own w5 (mQ 161 1 (some ⟨g,off,none⟩) (i+m) c ((L.eraseIdx i).map pv)::R):=by rw[<-HE.out];exact o5
  obtain⟨w6,hcl,o7,k7⟩:=yx 0 Tryz.dstT Tryz.dstTZ rfl Ql o6 (m:=i+1+m-(i+m)) (c:=c-(i+m)) (by omega);rw[Nat.mul_one]at hcl;go_wp2;go_ret;exact⟨rfl,o7,(aD (Calm.refl w)).trans (k5.trans k7)⟩
def leaveD(r:I4)(i:Nat):I4:=⟨r.q,r.O.eraseIdx i,false⟩
theorem xC{α β γ:Type}(f:α->β->γ):∀(l:List α)(m:List β)(i:Nat),l.length=m.length->(List.zipWith f l m).eraseIdx i=List.zipWith f (l.eraseIdx i) (m.eraseIdx i)
 |[],[],i,_=>by simp
 |a::l,b::m,0,_=>rfl
 |a::l,b::m,i+1,h=>by show f a b::(List.zipWith f l m).eraseIdx i=_;rw[xC f l m i (by simpa using h)];rfl
 |[],_::_,_,h=>by simp at h
 |_::_,[],_,h=>by simp at h
theorem Qn{id:Int}{i:Nat}(hI:yR r.O id=(i:Int))(hi:i<r.O.length)(hl:r.O.length<=100)(o:Own w (dX b r::R)):
  Calls prog 450 #[b,id] w (aR (.int .i64 0) (dX b (leaveD r i)::R) w):=by
 have hf:=yS (x:=id) (by omega) o;rw[hI]at hf;have hw:IntKind.i64.wrap ((i:Int)+1)=(i:Int)+1:=by rw[gB];omega
 go_enter func450,ntmps450;go_wp2_with fail;refine hf.mono ?_;rintro e1 w2⟨rfl,o1,k1⟩;obtain⟨ps,a,c,hp,o2⟩:=dX.iff.1 o1;have HP:=az hp;have hDe:=Qm (i:=i) (L:=ps) rfl (by omega) (by omega) (o2.up 1);have c1:=o2.cell 1;have HI:=az hi;clear hf o o1 hp hI hi hl;go_wp2_with fail;refine hDe.mono ?_;rintro e3 w3⟨rfl,o3,k3⟩;obtain⟨df,dl,-,d1,d2,-⟩:=(o3.up 1).cs;have oG:=((o3.up 1).setCell 1 (.slice a (ps.length-1) c)).setCell 2 (.pointer none);have KG:=ay (x:=⟨b,2,none⟩) (v:=.pointer none) (ay (x:=⟨b,1,none⟩) (v:=.slice a (ps.length-1) c) (k1.trans k3));clear hDe c1 o2 k1 k3;go_wp2;go_ret;refine⟨rfl,?_,KG⟩;obtain⟨d,hd⟩:∃d,r.O[i]?=some d:=⟨_,cZ HI.out⟩;obtain⟨p,hpi⟩:∃p,ps[i]?=some p:=⟨_,cZ (by rw[HP.out];exact HI.out)⟩;have hz:(List.zipWith gQ ps r.O)[i]?=some (gQ p d):=by rw[List.getElem?_zipWith,hpi,hd]
 have oH:=(Own.focus hz (oG.up 2)).drop;rw[xC gQ ps r.O i HP.out]at oH;have hle:(ps.eraseIdx i).length=ps.length-1:=List.length_eraseIdx_of_lt (by rw[HP.out];exact HI.out);refine dX.iff.2 ⟨ps.eraseIdx i,a,c,by show _=(r.O.eraseIdx i).length;rw[hle,HP.out,List.length_eraseIdx_of_lt HI.out],?_⟩;rw[hle];exact oH.re [1,2,0]
end
end Go.Proofs.YtfejhikpfhgbeaaGreatDoor
