import Derived.Lib.ConvBytes
import Derived.Laws.BytesArg
import Derived.Laws.IdiomStrings
import Derived.Lib.AtoiErrMem
import Derived.Test.YtfejhikpfhgbeaaGreatDoorMachineIdleD
import Derived.Test.YtfejhikpfhgbeaaGreatDoorMachineIdleR
set_option maxHeartbeats 25600000
set_option maxRecDepth 100000
set_option linter.all false
namespace Go.Proofs.YtfejhikpfhgbeaaGreatDoor
open Go.Proofs.Tryz
open Go.RowKit
open SP
section
variable{w w':aF}{R:aJ}{g m m':Nat}{T:TypeId}{bs:qR}{sp:dw}
def Xt(bs:qR):dw:=bs.map fun b=>Value.int .u8 (b.toNat:Int)
theorem Ie(bs:qR):(Xt bs).length=bs.length:=iP _
theorem D9(w:aF)(T:TypeId)(s:ByteArray):Lib.bytesCells w T s=(Xt s.data.toList++List.replicate (grownCap w s.size 0 T-s.size) (Value.int .u8 0)).toArray:=by unfold Lib.bytesCells Xt;apply Array.toList_inj.1;simp
theorem Xu(o:Own w R)(s:ByteArray):∃(sp:dw)(m m':Nat),s.data.toList.length<=m/\Own (Lib.bytesWorld w T s) (SP.blk w.heap.size (.cells (Xt s.data.toList++sp).toArray T (m,m'))::R):=by
 refine⟨_,_,_,?_,Own.put (o.drew.alloc (.cells (Lib.bytesCells w T s) T)) (by rw[<-D9];exact Lib.bytesWorld_at_new w T s) fun k hk hlt=>?_⟩
 ·rw[D9,List.size_toArray,jf,Ie];omega
 ·have hlt2:k<w.heap.size+1:=by simpa using hlt
  have hk2:k<w.heap.size:=by have:k≠w.heap.size:=hk;omega
  rw[Lib.bytesWorld_at_old w T s k hk2];show _=(w.heap.push _)[k]?;rw[Array.getElem?_push,if_neg (by omega)]
theorem aat(o:Own w (SP.blk g (.cells (Xt bs++sp).toArray T (m,m'))::R)){i:Nat}{b:UInt8}(h:bs[i]?=some b):w.cell? ⟨g,i,none⟩=some (.int .u8 (b.toNat:Int)):=by
 have hb:=Own.blk o;have hi:=(eU.1 h).1;simp only[World.cell?,hb];have:(Xt bs++sp)[i]?=some (.int .u8 (b.toNat:Int)):=by rw[List.getElem?_append_left (by rw[Ie];exact hi)];unfold Xt;rw[kI,h];rfl
 simpa using this
end
section
variable{w w':aF}{R:aJ}{b:Nat}
def ckT(x:Nat×Nat)(u:UInt8):Nat×Nat:=((x.1+u.toNat)%255,(x.2+(x.1+u.toNat)%255)%255)
def zA(l:qR):Nat×Nat:=l.foldl ckT (0,0)
def Vg(l:qR):Nat:=256*(zA l).2+(zA l).1
theorem Ig(l:qR)(u:UInt8):zA (l++[u])=ckT (zA l) u:=by unfold zA;rw[List.foldl_append];rfl
theorem Ih(l:qR):(zA l).1<255/\(zA l).2<255:=by
 rcases List.eq_nil_or_concat l with rfl|⟨m,u,rfl⟩
 ·exact⟨by decide,by decide⟩
 ·rw[List.concat_eq_append,Ig];exact⟨Nat.mod_lt _ (by decide),Nat.mod_lt _ (by decide)⟩
theorem aeF(l:qR):Vg l<65536:=by have:=Ih l;unfold Vg;omega
def agt(s:ByteArray)(w:aF)(v3 v4 v5:aL)(wr:aF):Prop:=
 ∃i:Nat,v5=↑(i:Int)/\i<=s.size/\v3=↑(((zA (s.data.toList.take i)).1:Nat):Int)/\v4=↑(((zA (s.data.toList.take i)).2:Nat):Int)/\wr=w
theorem TH(s:ByteArray)(hs:s.size<=100000):Calls prog 87 #[.string s] w (bN (.int .i64 (Vg s.data.toList:Nat)) w):=by
 have hl:s.data.toList.length=s.size:=(Lib.size_eq s).symm;have HL:=az hl;clear hl;go_enter func87,ntmps87;go_wp2;go_loopw[3,4,5] (fun v3 v4 v5 wr=>agt s w v3 v4 v5 wr) (fun _ _ v _=>s.size-(Lib.intOf v).toNat);case atStart=>exact⟨0,rfl,by omega,rfl,rfl,rfl⟩
 case round=>
  obtain⟨i,rfl,hi,rfl,rfl,rfl⟩:=hrel;by_cases hlt:i<s.size
  ·have dl:decide (i<s.size)=true:=bz hlt;have gi:=WA s i hlt
   have HT:=az (show zA (s.data.toList.take (i+1))=ckT (zA (s.data.toList.take i)) (s[i]'hlt)by rw[tH,gi];exact Ig _ _)
   have hlt2:=Ih (s.data.toList.take i)
   have hb256:=(s[i]'hlt).toNat_lt
   obtain⟨a,ha⟩:=aP ((zA (s.data.toList.take i)).1);obtain⟨c,hc⟩:=aP ((zA (s.data.toList.take i)).2)
   have HX:=az (show(zA (s.data.toList.take (i+1))).1=(a+(s[i]'hlt).toNat)%255/\(zA (s.data.toList.take (i+1))).2=(c+(a+(s[i]'hlt).toNat)%255)%255 by rw[HT.out];unfold ckT;rw[ha,hc];exact⟨rfl,rfl⟩)
   rw[ha,hc]at hlt2⊢;clear ha hc gi
   generalize hx:(s[i]'hlt).toNat=x at*
   obtain⟨a',ha'⟩:=aP ((a+x)%255);rw[ha']at HX;obtain⟨c',hc'⟩:=aP ((c+a')%255);rw[hc']at HX;have m1:((a:Int)+(x:Int))%255=(a':Int):=by omega
   have m2:((a:Int)+(x:Int)).tmod 255=(a':Int):=by rw[Int.tmod_eq_emod_of_nonneg (by omega)];exact m1
   have m3:((c:Int)+(a':Int))%255=(c':Int):=by omega
   have m4:((c:Int)+(a':Int)).tmod 255=(c':Int):=by rw[Int.tmod_eq_emod_of_nonneg (by omega)];exact m3
   have w1:IntKind.i64.wrap ((a:Int)+(x:Int))=(a:Int)+(x:Int):=by rw[gB];omega
   have w2:IntKind.i64.wrap ((c:Int)+(a':Int))=(c:Int)+(a':Int):=by rw[gB];omega
   have Ro:=az ha';have BP:=az hc';clear ha' hc' HT;go_wp2;go_roundw;case rel=>exact⟨i+1,by go_num,by omega,by rw[HX.out.1],by rw[HX.out.2],rfl⟩
   case measure=>simp[Lib.intOf];omega
  ·have hin:i=s.size:=by omega
   have HT:=az (show s.data.toList.take i=s.data.toList by rw[hin,<-HL.out,List.take_length]);subst hin;have hlt2:=Ih s.data.toList;rw[HT.out];have HC:=az (show Vg s.data.toList=256*(zA s.data.toList).2+(zA s.data.toList).1 from rfl);generalize (zA s.data.toList).1=a at*;generalize (zA s.data.toList).2=c at*;have w1:IntKind.i64.wrap (256*(c:Int))=256*(c:Int):=by rw[gB];omega
   have w2:IntKind.i64.wrap (256*(c:Int)+(a:Int))=256*(c:Int)+(a:Int):=by rw[gB];omega
   go_wp2;go_ret;refine⟨?_,rfl⟩;rw[HC.out];rfl
theorem Ii{T:TypeId}{g:Nat}{l:qR}(o:Own w (aH g T (Xt l)::R))(c:Nat):
  (convert 131 9 (.slice (some ⟨g,0,none⟩) l.length c)).run prog w=.ok (.string (dx l)) w:=
 run_convert_bytes_back w 131 9 5 ⟨g,0,none⟩ c l underlying131 underlying5 underlying9 fun j hj=>by
  have hadd:(⟨g,0,none⟩:Addr).add j=⟨g,j,none⟩:=by unfold Addr.add;split<;>simp_all
  rw[hadd];refine Own.cell o j ?_;unfold Xt;rw[kI,cZ hj];rfl
def uQ(n:Nat):qR:=[UInt8.ofNat (n/256),UInt8.ofNat (n%256)]
theorem rM(n:Nat)(hn:n<65536)(o:Own w R):Calls prog 52 #[(n:Int)] w (aR (.string (dx (uQ n))) R w):=by
 obtain⟨x,hx⟩:=aP (n/256);obtain⟨y,hy⟩:=aP (n%256);have m1:(n:Int)/256=(x:Int):=by omega
 have m2:(n:Int).tdiv 256=(x:Int):=by rw[Int.tdiv_eq_ediv_of_nonneg (by omega)];exact m1
 have m3:(n:Int)%256=(y:Int):=by omega
 have m4:(n:Int).tmod 256=(y:Int):=by rw[Int.tmod_eq_emod_of_nonneg (by omega)];exact m3
 have w1:IntKind.u8.wrap (x:Int)=(x:Int):=by rw[IntKind.wrap_u8];omega
 have w2:IntKind.u8.wrap (y:Int)=(y:Int):=by rw[IntKind.wrap_u8];omega
 have e1:((UInt8.ofNat x).toNat:Int)=(x:Int):=by rw[UInt8.toNat_ofNat'];omega
 have e2:((UInt8.ofNat y).toNat:Int)=(y:Int):=by rw[UInt8.toNat_ofNat'];omega
 unfold uQ;rw[hx,hy];have oA:Own (w.alloc (.cells #[.int .u8 (x:Int),.int .u8 (y:Int)] 5)) (aH w.heap.size 5 (Xt [UInt8.ofNat x,UInt8.ofNat y])::R):=by have:=o.alloc (.cells #[.int .u8 (x:Int),.int .u8 (y:Int)] 5);unfold Xt;rw[iD,iD,List.map_nil,e1,e2];exact this
 have hcv:=Ii oA 2;dsimp only[List.length_cons,List.length_nil,Nat.zero_add,Nat.reduceAdd]at hcv;clear hx hy e1 e2;go_enter func52,ntmps52;go_wp2;go_ret;exact⟨rfl,oA.drop,⟨rfl,rfl,rfl⟩⟩
theorem Ij(s:ByteArray)(hs:s.size<=100000)(o:Own w R):Calls prog 51 #[.string s] w (aR (.string (s++dx (uQ (Vg s.data.toList)))) R w):=by
 have h1:=fun w=>TH (w:=w) s hs;have h2:=rM (Vg s.data.toList) (aeF _) o;generalize Vg s.data.toList=C at*;have hsz:(dx (uQ C)).size=2:=rfl;generalize dx (uQ C)=T at*;obtain⟨S,hS⟩:=aP (s++T);have hS2:S.size<=1000000:=by rw[<-hS,ByteArray.size_append];omega
 have HS:=az hS;rw[hS];go_enter func51,ntmps51;go_wp2_with fail;refine(h1 _).mono ?_;rintro e1 w1⟨rfl,rfl⟩;go_wp2_with fail;refine h2.mono ?_;rintro e1 w1⟨rfl,o1,k1⟩;go_wp2;go_ret;exact⟨rfl,o1,k1⟩
def agu(bs:qR)(n:Nat)(l:aJ)(w:aF)(v3 v4 v10:aL)(wr:aF):Prop:=
 ∃i:Nat,v10=↑(i:Int)/\i<=n/\v3=↑(((zA (bs.take i)).1:Nat):Int)/\v4=↑(((zA (bs.take i)).2:Nat):Int)/\wr=w
theorem TI(s:ByteArray)(hs:s.size<=100000)(o:Own w R):Calls prog 116 #[.string s] w (aR (.int .i64 (Vg s.data.toList:Nat)) R w):=by
 have hcv:=Lib.run_convert_string_bytes w 9 131 5 s underlying9 underlying131 underlying5;obtain⟨sp,m,m',hbm,o6⟩:=Xu (T:=5) o s;have hxl:s.data.toList.length=s.size:=(Lib.size_eq s).symm;have kB:=Lib.bytesWorld_below w 5 s;have k6:Calm w (Lib.bytesWorld w 5 s):=⟨kB.os,kB.tape,kB.output⟩;generalize Lib.bytesWorld w 5 s=wB at*;generalize w.heap.size=g at*;have hcap:s.size<=grownCap w s.size 0 5:=grownCap_ge _ _ _ _;generalize grownCap w s.size 0 5=cc at*;obtain⟨bs,hbs⟩:=aP s.data.toList;rw[hbs]at o6 hbm hxl⊢;have HL:=az hxl;obtain⟨n,hn⟩:=aP s.size;rw[hn]at HL hcv hcap hs;clear hbs kB hxl hn;go_enter func116,ntmps116;go_wp2;go_loopw[3,4,6,10] (fun v3 v4 _ v10 wr=>agu bs n R wB v3 v4 v10 wr) (fun _ _ _ v _=>n-(Lib.intOf v).toNat);case atStart=>exact⟨0,rfl,by omega,rfl,rfl,rfl⟩
 case round=>
  obtain⟨i,rfl,hi,rfl,rfl,rfl⟩:=hrel;by_cases hlt:i<n
  ·obtain⟨u,hu⟩:∃u,bs[i]?=some u:=⟨_,cZ (by rw[HL.out];exact hlt)⟩;have hc:=aat o6 hu;have HT:=az (show zA (bs.take (i+1))=ckT (zA (bs.take i)) u by rw[tH,hu];exact Ig _ _);have hlt2:=Ih (bs.take i);have hb256:=u.toNat_lt;obtain⟨a,ha⟩:=aP ((zA (bs.take i)).1);obtain⟨c,hc'⟩:=aP ((zA (bs.take i)).2);have HX:=az (show(zA (bs.take (i+1))).1=(a+u.toNat)%255/\(zA (bs.take (i+1))).2=(c+(a+u.toNat)%255)%255 by rw[HT.out];unfold ckT;rw[ha,hc'];exact⟨rfl,rfl⟩);rw[ha,hc']at hlt2⊢;clear ha hc' hu;generalize u.toNat=x at*;obtain⟨a',ha'⟩:=aP ((a+x)%255);rw[ha']at HX;obtain⟨c',hc'⟩:=aP ((c+a')%255);rw[hc']at HX;have m1:((a:Int)+(x:Int))%255=(a':Int):=by omega
   have m2:((a:Int)+(x:Int)).tmod 255=(a':Int):=by rw[Int.tmod_eq_emod_of_nonneg (by omega)];exact m1
   have m3:((c:Int)+(a':Int))%255=(c':Int):=by omega
   have m4:((c:Int)+(a':Int)).tmod 255=(c':Int):=by rw[Int.tmod_eq_emod_of_nonneg (by omega)];exact m3
   have w1:IntKind.i64.wrap ((a:Int)+(x:Int))=(a:Int)+(x:Int):=by rw[gB];omega
   have w2:IntKind.i64.wrap ((c:Int)+(a':Int))=(c:Int)+(a':Int):=by rw[gB];omega
   clear ha' hc' HT;go_wp2;go_roundw;case rel=>exact⟨i+1,by go_num,by omega,by rw[HX.out.1],by rw[HX.out.2],rfl⟩
   case measure=>simp[Lib.intOf];omega
  ·have hin:i=n:=by omega
   have HT:=az (show bs.take i=bs by rw[hin,<-HL.out,List.take_length]);subst hin;have hlt2:=Ih bs;rw[HT.out];have HC:=az (show Vg bs=256*(zA bs).2+(zA bs).1 from rfl);generalize (zA bs).1=a at*;generalize (zA bs).2=c at*;have w1:IntKind.i64.wrap (256*(c:Int))=256*(c:Int):=by rw[gB];omega
   have w2:IntKind.i64.wrap (256*(c:Int)+(a:Int))=256*(c:Int)+(a:Int):=by rw[gB];omega
   go_wp2;go_ret;refine⟨?_,o6.drop,k6⟩;rw[HC.out];rfl
theorem aeG(a b:Nat)(ha:a<256)(hb:b<256):bits BinOp.or IntKind.i64 ((a:Int)*256) (b:Int)=((256*a+b:Nat):Int):=by
 have h1:(BitVec.ofInt 64 ((a:Int)*256)).toNat=256*a:=by rw[show(a:Int)*256=((256*a:Nat):Int)by omega,BitVec.ofInt_natCast,BitVec.toNat_ofNat];exact Nat.mod_eq_of_lt (by omega)
 have h2:(BitVec.ofInt 64 (b:Int)).toNat=b:=by rw[BitVec.ofInt_natCast,BitVec.toNat_ofNat];exact Nat.mod_eq_of_lt (by omega)
 have h3:256*a|||b=256*a+b:=(Nat.two_pow_add_eq_or_of_lt (i:=8) hb a).symm;show IntKind.i64.wrap ((BitVec.ofInt 64 ((a:Int)*256)|||BitVec.ofInt 64 (b:Int)).toNat:Int)=_;rw[BitVec.toNat_or,h1,h2,h3,gB];omega
def zB(l:qR)(i:Nat):Nat:=256*(l.getD i 0).toNat+(l.getD (i+1) 0).toNat
theorem TJ(s:ByteArray)(i:Nat)(hi:i+1<s.size)(hs:s.size<=100000){kb:Nat}(o:Own w (aH kb 9 [.string s]::R)):
  Calls prog 115 #[(i:Int),kb] w (aR (.int .i64 (zB s.data.toList i:Nat)) (aH kb 9 [.string s]::R) w):=by
 have k0:=o.cell 0;have hi2:i<s.size:=by omega
 have g1:=WA s i hi2;have g2:=WA s (i+1) hi
 have hb1:=(s[i]'hi2).toNat_lt
 have hb2:=(s[i+1]'hi).toNat_lt
 have HX:=az (show zB s.data.toList i=256*(s[i]'hi2).toNat+(s[i+1]'hi).toNat by unfold zB;rw[Eb,Eb,g1,g2];rfl)
 have hor:=aeG _ _ hb1 hb2;obtain⟨k,hk⟩:=aP (i+1);subst hk;have w0:IntKind.i64.wrap ((i:Int)+1)=((i+1:Nat):Int):=by rw[gB];omega
 generalize hx:(s[i]'hi2).toNat=x at*
 generalize hy:(s[i+1]'hi).toNat=y at*
 have w1:IntKind.i64.wrap (x:Int)=(x:Int):=by rw[gB];omega
 have w2:IntKind.i64.wrap (y:Int)=(y:Int):=by rw[gB];omega
 have w3:IntKind.i64.wrap ((x:Int)*256)=(x:Int)*256:=by rw[gB];omega
 clear g1 g2;go_enter func115,ntmps115;go_upto_region 1 with fail;go_quiet(fail);go_wp2;go_ret;refine⟨?_,o.drewN _,(Calm.refl w).dn _⟩;rw[HX.out];rfl
end
end Go.Proofs.YtfejhikpfhgbeaaGreatDoor
