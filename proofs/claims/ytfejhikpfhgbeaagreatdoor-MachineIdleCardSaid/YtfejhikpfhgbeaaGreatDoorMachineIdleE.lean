import Derived.Test.YtfejhikpfhgbeaaGreatDoorMachineIdleC
set_option maxHeartbeats 25600000
set_option maxRecDepth 100000
set_option linter.all false
namespace Go.Proofs.YtfejhikpfhgbeaaGreatDoor
open Go.Proofs.Tryz
open Go.RowKit
open SP
structure vD where
 kd:Int
 k:Int
 n:Int
 ss:List Bool
 ct:Nat
 rt:Nat
 an:Bool
 tr:Bool
structure vD.Ok(N:Nat)(c:vD):Prop where
 ln:c.ss.length=32
 ct:c.ct<=N
 rt:c.rt<=N
 n:0<=c.n/\c.n<=32
def IQ(kd k n:Int):Bool:=if kd=0\/kd=2 then decide (k=0)&&decide (n=0)else if kd=1 then decide (1<=n)&&(decide (n<=32)&&(decide (1<=k)&&decide (k<=n)))else false
def BI(kd k n:Int):vD:=⟨kd,k,n,List.replicate 32 false,0,0,false,false⟩
def sK(c:vD)(ago:Nat):Bool:=decide (c.ct<ago)||c.ss.getD ((c.ct-ago)%32) false
def mV(c:vD):Nat->Nat
 |0=>0
 |m+1=>mV c m+(if sK c (m+1)=true then 1 else 0)
def eB(c:vD):Bool:=if c.kd=1 then decide (c.k<=(mV c c.n.toNat:Nat))else if c.kd=2/\c.an=true then c.tr else sK c 1
def zS(c:vD)(good:Bool):vD:={c with rt:=if eB c=good then c.rt+1 else c.rt,ss:=c.ss.set (c.ct%32) good,ct:=c.ct+1,an:=false}
def BJ(c:vD)(good:Bool):vD:={c with an:=true,tr:=good}
theorem vD.Ok.start{kd k n:Int}(h:IQ kd k n=true):(BI kd k n).Ok 0:=⟨List.length_replicate,Nat.le_refl _,Nat.le_refl _,by
 unfold IQ at h;show 0<=n/\n<=32;split at h
 ·simp only[Bt,xM]at h;omega
 ·split at h
  ·simp only[Bt,xM]at h;omega
  ·cases h⟩
theorem vD.Ok.obs{N:Nat}{c:vD}(h:c.Ok N)(good:Bool):(zS c good).Ok (N+1):=by refine⟨by unfold zS;dsimp only;rw[List.length_set];exact h.ln,Nat.succ_le_succ h.ct,?_,h.n⟩;have:=h.rt;unfold zS;dsimp only;split<;>omega
theorem vD.Ok.ann{N:Nat}{c:vD}(h:c.Ok N)(good:Bool):(BJ c good).Ok N:=⟨h.ln,h.ct,h.rt,h.n⟩
theorem JK(c:vD):∀m,mV c m<=m
 |0=>Nat.le_refl _
 |m+1=>by have:=JK c m;unfold mV;split<;>omega
def iR(c:vD):dw:=[.int .i64 c.kd,.int .i64 c.k,.int .i64 c.n]++c.ss.map Value.bool++[.int .i64 c.ct,.int .i64 c.rt,.bool c.an,.bool c.tr]
abbrev pR(b:Nat)(c:vD):SP:=aH b 263 (iR c)
section
variable{w w':aF}{R:aJ}{b N:Nat}{c:vD}
theorem YB{i:Nat}{x:Bool}(h:c.ss[i]?=some x):(iR c)[3+i]?=some (.bool x):=by unfold iR;have hi:=(eU.1 h).1;rw[List.getElem?_append_left (by simp;omega),List.getElem?_append_right (by simp)];show(c.ss.map Value.bool)[3+i-3]?=_;rw[show 3+i-3=i by omega,kI,h];rfl
theorem tT{j:Nat}(h:c.ss.length=32)(hj:j<4):(iR c)[35+j]?=([.int .i64 c.ct,.int .i64 c.rt,.bool c.an,.bool c.tr]:dw)[j]?:=by unfold iR;rw[List.getElem?_append_right (by simp[h])];congr 1;simp[h]
theorem Rf{i:Nat}{x:Bool}(hi:i<32)(h:c.ss.length=32):(iR c).set (3+i) (.bool x)=iR {c with ss:=c.ss.set i x}:=by unfold iR;dsimp only;rw[List.set_append_left _ _ (by simp;omega),List.set_append_right _ _ (by simp)];congr 2;show(c.ss.map Value.bool).set (3+i-3) _=_;rw[show 3+i-3=i by omega,List.map_set]
theorem qp{j:Nat}{v:aL}{c':vD}(h:c.ss.length=32)(_:j<4)(h1:c'.kd=c.kd/\c'.k=c.k/\c'.n=c.n/\c'.ss=c.ss)
  (h2:([.int .i64 c'.ct,.int .i64 c'.rt,.bool c'.an,.bool c'.tr]:dw)=([.int .i64 c.ct,.int .i64 c.rt,.bool c.an,.bool c.tr]:dw).set j v):(iR c).set (35+j) v=iR c':=by
 obtain⟨e1,e2,e3,e4⟩:=h1;unfold iR;rw[List.set_append_right _ _ (by simp[h]),e1,e2,e3,e4,h2];congr 2;simp[h]
theorem Df{kd k n:Int}(h:IQ kd k n=true)(o:Own w R):Calls prog 34 #[.agg #[kd,k,n]] w (aR (.bool true) R w):=by
 have oA:Own _ (aH w.heap.size 32 [kd,k,n]::R):=o.alloc (.cells #[kd,k,n] 32);obtain⟨-,-,c0,c1,c2,-⟩:=oA.cs;unfold IQ at h;by_cases h0:kd=0\/kd=2
 ·rw[if_pos h0]at h;simp only[Bt,xM]at h;obtain⟨rfl,rfl⟩:=h;rcases h0 with rfl|rfl
  all_goals go_enter func34,ntmps34
  all_goals go_wp2
  all_goals go_ret
  all_goals exact⟨rfl,oA.drop,⟨rfl,rfl,rfl⟩⟩
 ·rw[if_neg h0]at h;split at h
  ·rename_i h1;subst h1;simp only[Bt,xM]at h;have d1:decide (1<=n)=true:=bz h.1;have d2:decide (n<=32)=true:=bz h.2.1;have d3:decide (1<=k)=true:=bz h.2.2.1;have d4:decide (k<=n)=true:=bz h.2.2.2;clear h h0;go_enter func34,ntmps34;go_wp2;go_ret;exact⟨by simp[],oA.drop,⟨rfl,rfl,rfl⟩⟩
  ·cases h
theorem VI{kd k n:Int}(h:IQ kd k n=true)(o:Own w R):Calls prog 72 #[.agg #[.int .i64 kd,.int .i64 k,.int .i64 n]] w (fun e w'=>∃b,aR (.tuple #[.pointer (some ⟨b,0,none⟩),.int .i64 0]) (pR b (BI kd k n)::R) w e w'):=by have oA:Own _ (aH w.heap.size 32 [.int .i64 kd,.int .i64 k,.int .i64 n]::R):=o.alloc (.cells #[.int .i64 kd,.int .i64 k,.int .i64 n] 32);have c0:=oA.cell 0;have c1:=oA.cell 1;have c2:=oA.cell 2;go_enter func72,ntmps72;go_wp2_with fail;refine(Df h oA).mono ?_;rintro e1 w1⟨rfl,o1,k1⟩;clear c0 c1 c2;have c0:=o1.cell 0;have c1:=o1.cell 1;have c2:=o1.cell 2;have oB:=o1.alloc (.cells (iR (BI kd k n)).toArray 263);go_wp2;go_ret2;exact⟨_,rfl,oB.re [1] 1,⟨k1.os,k1.tape,k1.output⟩⟩
theorem Ov(good:Bool)(h:c.ss.length=32)(o:Own w (pR b c::R)):Calls prog 82 #[b,.bool good] w (aR (.tuple #[]) (pR b (BJ c good)::R) w):=by have c0:=o.cell 37 (v:=.bool c.an) (by rw[show(37:Nat)=35+2 from rfl,tT h (by omega)];rfl);have c1:=o.cell 38 (v:=.bool c.tr) (by rw[show(38:Nat)=35+3 from rfl,tT h (by omega)];rfl);obtain⟨hf,hl,-⟩:=o.cs;have o1:=o.setCell 37 (.bool true);rw[show(37:Nat)=35+2 from rfl,qp (c':={c with an:=true}) h (by omega) ⟨rfl,rfl,rfl,rfl⟩ rfl]at o1;have c2:=o1.cell 38 (v:=.bool c.tr) (by rw[show(38:Nat)=35+3 from rfl,tT (c:={c with an:=true}) h (by omega)];rfl);obtain⟨hf1,hl1,-⟩:=o1.cs;have o2:=o1.setCell 38 (.bool good);rw[show(38:Nat)=35+3 from rfl,qp (c:={c with an:=true}) (c':=BJ c good) h (by omega) ⟨rfl,rfl,rfl,rfl⟩ rfl]at o2;go_enter func82,ntmps82;go_wp2;go_end0;exact⟨rfl,o2,⟨rfl,rfl,rfl⟩⟩
theorem zT(ago:Nat)(h1:1<=ago)(h2:ago<=32)(hok:c.Ok N)(hN:N<=1000000000)(o:Own w (pR b c::R)):
  Calls prog 170 #[.pointer (some ⟨b,0,none⟩),.int .i64 (ago:Int)] w (fun e w'=>e=.returned (.bool (sK c ago))/\∃q,w'=w.drewN q):=by
 have hln:=hok.ln;have hct:=hok.ct;have c0:=o.cell 35 (v:=.int .i64 c.ct) (by rw[show(35:Nat)=35+0 from rfl,tT hln (by omega)];rfl);by_cases hlt:c.ct<ago
 ·have e:sK c ago=true:=by unfold sK;rw[decide_eq_true hlt];rfl
  have d:=decide_eq_true (show(c.ct:Int)<(ago:Int)by omega);rw[e];go_enter func170,ntmps170;go_upto_region 1 with fail;go_quiet(fail);go_wp2;go_ret;exact⟨rfl,_,rfl⟩
 ·obtain⟨j,hj⟩:=aP ((c.ct-ago)%32);have VJ:j<32:=by rw[<-hj];exact Nat.mod_lt _ (by decide)
  have d:=decide_eq_false (show¬((c.ct:Int)<(ago:Int))by omega);obtain⟨x,hx⟩:∃x,c.ss[j]?=some x:=⟨_,List.getElem?_eq_getElem (by rw[hln];exact VJ)⟩;have e:sK c ago=x:=by unfold sK;rw[decide_eq_false hlt,hj,List.getD_eq_getElem?_getD,hx];rfl
  have c3:=o.cell (3+j) (v:=.bool x) (YB hx);rw[e];have adD:((c.ct:Int)-(ago:Int))%32=(j:Int):=by omega
  have h0:0<=(c.ct:Int)-(ago:Int):=by omega
  have hb:(c.ct:Int)<=1000000000:=by omega
  have hb2:(ago:Int)<=32:=by omega
  clear hx e hlt hln hct hj;generalize (c.ct:Int)=C at*;go_enter func170,ntmps170;go_upto_region 1 with fail;go_quiet(fail);go_wp2;go_ret;exact⟨rfl,_,rfl⟩
def ae4(c:vD)(w:aF)(v3 v4:aL)(wr:aF):Prop:=∃(m q:Nat),v3=↑((mV c m:Nat):Int)/\v4=↑((m:Int)+1:Int)/\(m:Int)<=c.n/\wr=w.drewN q
theorem tV(hok:c.Ok N)(hN:N<=1000000000)(o:Own w (pR b c::R)):
  Calls prog 114 #[b] w (aR (.bool (eB c)) (pR b c::R) w):=by
 have hln:=hok.ln;obtain⟨hn0,hn32⟩:=hok.n;have c0:=o.cell 0 (v:=.int .i64 c.kd) rfl;have c1:=o.cell 1 (v:=.int .i64 c.k) rfl;have c2:=o.cell 2 (v:=.int .i64 c.n) rfl;have c4:=o.cell 37 (v:=.bool c.an) (by rw[show(37:Nat)=35+2 from rfl,tT hln (by omega)];rfl);have c5:=o.cell 38 (v:=.bool c.tr) (by rw[show(38:Nat)=35+3 from rfl,tT hln (by omega)];rfl);by_cases hk:c.kd=1
 ·have e:eB c=decide (c.k<=(mV c c.n.toNat:Nat)):=by unfold eB;rw[if_pos hk]
  rw[e];have z1:(c.kd==1)=true:=by simpa using hk
  clear e hk c4 c5;go_enter func114,ntmps114;go_wp2;go_loopw[3,4] (fun v3 v4 wr=>ae4 c w v3 v4 wr) (fun _ v _=>33-(Lib.intOf v).toNat);case atStart=>exact⟨0,0,rfl,rfl,hn0,rfl⟩
  case round=>
   obtain⟨m,q,rfl,rfl,hm,rfl⟩:=hrel;have hgl:=JK c m;by_cases hlt:(m:Int)+1<=c.n
   ·have d:decide ((m:Int)+1<=c.n)=true:=bz hlt;have hl:=zT (m+1) (by omega) (by omega) hok hN (o.drewN q);have hgs:mV c (m+1)=mV c m+(if sK c (m+1)=true then 1 else 0):=rfl;have hcast:((m+1:Nat):Int)=(m:Int)+1:=by omega
    rw[hcast]at hl;obtain⟨B,hB⟩:=aP (sK c (m+1));rw[hB]at hl hgs;have HG:=az hgs;have ait:m<=32:=by omega
    have aiu:mV c m<=32:=by omega
    clear hB hgs hcast;generalize mV c m=G at*;cases B with
    |true=>
     go_wp2_with fail;refine hl.mono ?_;rintro _ _⟨rfl,q2,rfl⟩;go_wp2;go_roundw;case rel=>exact⟨m+1,_,by rw[HG.out];go_num,by go_num,by omega,rfl⟩
     case measure=>simp[Lib.intOf];omega
    |false=>
     go_wp2_with fail;refine hl.mono ?_;rintro _ _⟨rfl,q2,rfl⟩;go_wp2;go_roundw;case rel=>exact⟨m+1,_,by rw[HG.out];go_num,by go_num,by omega,rfl⟩
     case measure=>simp[Lib.intOf];omega
   ·have d:decide ((m:Int)+1<=c.n)=false:=bW hlt;have hmn:m=c.n.toNat:=by omega
    have HM:=az hmn;clear hmn;go_wp2;go_ret;exact⟨by rw[<-HM.out];rfl,o.drewN q,(Calm.refl w).dn q⟩
 ·have z1:(c.kd==1)=false:=by simpa using hk
  by_cases h2:c.kd=2/\c.an=true
  ·have e:eB c=c.tr:=by unfold eB;rw[if_neg hk,if_pos h2]
   rw[e];have z2:(c.kd==2)=true:=by simpa using h2.1
   rw[h2.2]at c4;clear e hk h2;go_enter func114,ntmps114;go_wp2;go_ret;exact⟨rfl,o,Calm.refl w⟩
  ·have e:eB c=sK c 1:=by unfold eB;rw[if_neg hk,if_neg h2]
   have hl:=zT 1 (by omega) (by omega) hok hN o;rw[e];have hz:((c.kd==2)=true/\c.an=false)\/(c.kd==2)=false:=by
    by_cases h:c.kd=2
    ·exact .inl ⟨by simpa using h,by cases ha:c.an with
      |false=>rfl
      |true=>exact absurd ⟨h,ha⟩ h2⟩
    ·exact .inr (by simpa using h)
   obtain⟨B,hB⟩:=aP (sK c 1);rw[hB]at hl⊢;clear e hk h2 hB;go_enter func114,ntmps114;rcases hz with⟨z2,z3⟩|z2
   ·rw[z3]at c4;go_wp2_with fail;refine hl.mono ?_;rintro _ _⟨rfl,q2,rfl⟩;go_wp2;go_ret;exact⟨rfl,o.drewN q2,(Calm.refl w).dn q2⟩
   ·go_wp2_with fail;refine hl.mono ?_;rintro _ _⟨rfl,q2,rfl⟩;go_wp2;go_ret;exact⟨rfl,o.drewN q2,(Calm.refl w).dn q2⟩
theorem Ow(good:Bool)(hok:c.Ok N)(hN:N<=1000000000)(o:Own w (pR b c::R)):
  Calls prog 62 #[b,.bool good] w (aR (.tuple #[]) (pR b (zS c good)::R) w):=by
 have hln:=hok.ln;have hct:=hok.ct;have hrt:=hok.rt;have hp:=tV hok hN o;obtain⟨B,hB⟩:=aP (eB c);rw[hB]at hp;have HB:=az hB;clear hB;have VJ:c.ct%32<32:=Nat.mod_lt _ (by decide);have adD:(c.ct:Int)%32=((c.ct%32:Nat):Int):=by omega
 have key:∀(rt':Nat)(w1:aF),rt'=(if B=good then c.rt+1 else c.rt)->Own w1 (pR b {c with rt:=rt'}::R)->
   Own ((((w1.setCell ⟨b,3+c.ct%32,none⟩ (.bool good)).drew.setCell ⟨b,35,none⟩ ((c.ct:Int)+1:Int)).setCell ⟨b,37,none⟩ (.bool false))) (pR b (zS c good)::R):=fun rt' w1 agV o1=>by
  have o2:=(o1.setCell (3+c.ct%32) (.bool good)).drew;rw[Rf (c:={c with rt:=rt'}) VJ hln]at o2;have hl2:(c.ss.set (c.ct%32) good).length=32:=by rw[List.length_set];exact hln
  have o3:=o2.setCell 35 ((c.ct:Int)+1:Int);rw[show(35:Nat)=35+0 from rfl,qp (c:={c with rt:=rt',ss:=c.ss.set (c.ct%32) good}) (c':={c with rt:=rt',ss:=c.ss.set (c.ct%32) good,ct:=c.ct+1}) hl2 (by omega) ⟨rfl,rfl,rfl,rfl⟩ rfl]at o3;have o4:Own _ (pR b {c with rt:=rt',ss:=c.ss.set (c.ct%32) good,ct:=c.ct+1}::R):=o3;have o4:=o4.setCell 37 (.bool false);rw[show(37:Nat)=35+2 from rfl,qp (c:={c with rt:=rt',ss:=c.ss.set (c.ct%32) good,ct:=c.ct+1}) (c':={c with rt:=rt',ss:=c.ss.set (c.ct%32) good,ct:=c.ct+1,an:=false}) hl2 (by omega) ⟨rfl,rfl,rfl,rfl⟩ rfl]at o4;have e:zS c good={c with rt:=rt',ss:=c.ss.set (c.ct%32) good,ct:=c.ct+1,an:=false}:=by unfold zS;rw[HB.out,agV]
  rw[e];exact o4
 have HKEY:=az key;clear key;have hb1:(c.ct:Int)<=1000000000:=by omega
 have hb2:(c.rt:Int)<=1000000000:=by omega
 obtain⟨J,hJ⟩:=aP (c.ct%32);rw[hJ]at adD VJ HKEY;clear hJ;go_enter func62,ntmps62;go_wp2_with fail;refine hp.mono ?_;rintro e1 w1⟨rfl,o1,k1⟩;clear hp;obtain⟨hf,hbl,-⟩:=o1.cs;have c36:=o1.cell 36 (v:=.int .i64 c.rt) (by rw[show(36:Nat)=35+1 from rfl,tT hln (by omega)];rfl);have c35:=o1.cell 35 (v:=.int .i64 c.ct) (by rw[show(35:Nat)=35+0 from rfl,tT hln (by omega)];rfl);have c37:=o1.cell 37 (v:=.bool c.an) (by rw[show(37:Nat)=35+2 from rfl,tT hln (by omega)];rfl);obtain⟨x,hx⟩:∃x,c.ss[J]?=some x:=⟨_,cZ (by rw[hln];exact VJ)⟩;have c3J:=o1.cell (3+J) (v:=.bool x) (YB hx);have h0:0<=(c.ct:Int):=by omega
 have aiv:(J:Int)<32:=by omega
 have ah7:(c.ct:Int).tmod 32=(J:Int):=by rw[Int.tmod_eq_emod_of_nonneg h0];exact adD
 clear hx;generalize (c.ct:Int)=C at*;by_cases hg:B=good
 ·have z:(B==good)=true:=by simpa using hg
  have oS:=o1.setCell 36 ((c.rt:Int)+1:Int);rw[show(36:Nat)=35+1 from rfl,qp (c':={c with rt:=c.rt+1}) hln (by omega) ⟨rfl,rfl,rfl,rfl⟩ rfl]at oS;have oF:=HKEY.out (c.rt+1) _ (by rw[if_pos hg]) oS;have HO:=az oF;clear hg hok hct hrt oS oF hln;go_upto_region 2 with fail;go_region_law(fail);go_wp2;go_end0;exact⟨rfl,HO.out,⟨k1.os,k1.tape,k1.output⟩⟩
 ·have z:(B==good)=false:=by simpa using hg
  have oS:=o1;have oF:=HKEY.out c.rt _ (by rw[if_neg hg]) oS;have HO:=az oF;clear hg hok hct hrt oS oF hln;go_upto_region 2 with fail;go_region_law(fail);go_wp2;go_end0;exact⟨rfl,HO.out,⟨k1.os,k1.tape,k1.output⟩⟩
end
end Go.Proofs.YtfejhikpfhgbeaaGreatDoor
