import Derived.Handy
import Derived.Lib.AtoiErrMem
import Derived.OwnWalk
import Derived.Deep.DeepHandedRow
import Derived.Lay
import Derived.Shelf.Vars
import Derived.Test.YtfejhikpfhgbeaaGreatDoorMachineIdleN
import Derived.Test.YtfejhikpfhgbeaaGreatDoorMachineIdleS
import Derived.Test.YtfejhikpfhgbeaaGreatDoorMachineIdleT
set_option maxHeartbeats 25600000
set_option maxRecDepth 100000
set_option linter.all false
namespace Go.Proofs.YtfejhikpfhgbeaaGreatDoor
open Go.Proofs.Tryz
open Go.RowKit
open SP
section
variable{w w':aF}{R:aJ}
theorem Tryz.elemI:bS prog 22 3 1 8:=bS.mk' underlying22 (z:=.int .i64 0) (by kernel_rfl) (by kernel_rfl) (by omega)
def aha(n:Nat):aL:=.int .i64 (n:Int)
def ints(l:List Nat):dw:=l.map aha
def qg(l:qR)(R:aJ)(w:aF)(e:Ending)(w':aF):Prop:=
 if Lib.validD l=true then∃a c,e=.returned (.tuple #[.slice a (runesL l).length c,.bool true])/\Own w' (slc 3 1 a (runesL l).length c (ints (runesL l))::R)/\Calm w w'
 else e=.returned (.tuple #[.slice none 0 0,.bool false])/\Own w' R/\Calm w w'
def Y7(s:ByteArray)(R:aJ)(w:aF)(v4 v5:aL)(wr:aF):Prop:=
 ∃(pos n c:Nat)(a:aY)(xs:List Nat),v4=.slice a n c/\v5=↑(pos:Int)/\pos<=s.size/\n<=pos/\xs++runesL (s.data.toList.drop pos)=runesL s.data.toList/\
  Lib.validD (s.data.toList.drop pos)=Lib.validD s.data.toList/\Own wr (slc 3 1 a n c (ints xs)::R)/\Calm w wr
def nV(s:ByteArray)(k:Nat):Nat:=(s.data.toList.getD k 0).toNat
theorem qG(s:ByteArray)(k:Nat)(h:k<s.size):(s[k]'h).toNat=nV s k:=by unfold nV;rw[Lib.getD_get!'];simp[ByteArray.get!,getElem!_pos,h];rfl
theorem jJ(s:ByteArray)(k:Nat):nV s k<256:=(s.data.toList.getD k 0).toNat_lt
def eD(s:ByteArray)(pos:Nat):Option (Nat×Nat):=fT (s.size-pos) (nV s pos) (nV s (pos+1)) (nV s (pos+2)) (nV s (pos+3))
theorem Pm(s:ByteArray)(pos:Nat)(hp:pos<s.size):eD s pos=if(Utf8.decode s pos).1=65533/\(Utf8.decode s pos).2=1 then none else some (Utf8.decode s pos):=by have hl:s.data.toList.length=s.size:=(Lib.size_eq s).symm;unfold eD;rw[We _ _ _ _ _ (by omega) (jJ _ _) (jJ _ _) (jJ _ _) (jJ _ _),Lib.decode_N,hl];rfl
theorem Mj(s:ByteArray)(pos:Nat)(hp:pos<s.size):s.data.toList.drop pos≠[]:=by have hl:s.data.toList.length=s.size:=(Lib.size_eq s).symm;intro e;have:=congrArg List.length e;rw[List.length_drop]at this;simp only[List.length_nil]at this;omega
theorem Sd{s:ByteArray}{pos:Nat}(hp:pos<s.size)(h:eD s pos=none):Lib.validD (s.data.toList.drop pos)=false:=by
 rw[Pm s pos hp]at h;rw[Lib.validD_step _ (Mj s pos hp),Lib.decodeL_drop];split at h
 ·rename_i h1;rw[if_pos h1]
 ·cases h
theorem Sg{s:ByteArray}{pos r n:Nat}(hp:pos<s.size)(h:eD s pos=some (r,n)):
  r<=1114111/\1<=n/\pos+n<=s.size/\Lib.validD (s.data.toList.drop pos)=Lib.validD (s.data.toList.drop (pos+n))/\runesL (s.data.toList.drop pos)=r::runesL (s.data.toList.drop (pos+n)):=by
 have hl:s.data.toList.length=s.size:=(Lib.size_eq s).symm;rw[Pm s pos hp]at h;split at h
 ·cases h
 ·rename_i h1;have h2:=Option.some.inj h;have h3:=Lib.decodeL_le _ (Mj s pos hp);have h4:=jH (s.data.toList.drop pos);have h5:=x8 s pos;rw[Lib.decodeL_drop]at h3 h4;rw[List.length_drop,h2]at h3;rw[h2]at h4 h5 h1;refine⟨h5,h4,?_,?_,?_⟩
  ·dsimp only at h3;omega
  ·rw[Lib.validD_step _ (Mj s pos hp),Lib.decodeL_drop,h2,if_neg h1,List.drop_drop]
  ·rw[Ci s pos hp,h2]
def cls(b0 n least r0:Nat):Prop:=
 (b0<128/\n=1/\least=0/\r0=b0)\/(194<=b0/\b0<224/\n=2/\least=128/\b0-192=r0)\/(224<=b0/\b0<240/\n=3/\least=2048/\b0-224=r0)\/(240<=b0/\b0<245/\n=4/\least=65536/\b0-240=r0)
def abg(b0:Nat)(R:aJ)(w:aF)(v6 v7 v8:aL)(wc:aF):Prop:=
 ∃n least r0:Nat,v6=↑(n:Int)/\v7=↑(least:Int)/\v8=↑(r0:Int)/\cls b0 n least r0/\Own wc R/\Calm w wc
theorem Wi{s:ByteArray}{pos:Nat}(h:(128<=nV s pos/\nV s pos<194)\/245<=nV s pos):eD s pos=none:=by unfold eD fT;rw[if_neg (by omega),if_neg (by omega),if_neg (by omega),if_neg (by omega)]
theorem eZ{s:ByteArray}{pos:Nat}(hp:pos<s.size)(hv:Lib.validD (s.data.toList.drop pos)=Lib.validD s.data.toList)(h:eD s pos=none)(o:Own w' R)(k:Calm w w'):
  qg s.data.toList R w (.returned (.tuple #[.slice none 0 0,.bool false])) w':=by
 unfold qg;rw[<-hv,Sd hp h,if_neg (by decide)];exact⟨rfl,o,k⟩
theorem wD{s:ByteArray}{pos n r m c':Nat}{a':aY}{xs:List Nat}{B:SP}{w1:aF}{v5:aL}(hp:pos<s.size)(h:eD s pos=some (r,m))(hx:xs++runesL (s.data.toList.drop pos)=runesL s.data.toList)
  (hv:Lib.validD (s.data.toList.drop pos)=Lib.validD s.data.toList)(hn:n<=pos)(h5:v5=↑((pos+m:Nat):Int))(o:Own w1 (slc 3 1 a' (n+1) c' (ints xs++[.int .i64 (r:Int)])::B::R))(k:Calm w w1):
  Y7 s R w (.slice a' (n+1) c') v5 w1:=by
 obtain⟨h1,h2,h3,h4,h6⟩:=Sg hp h;refine⟨pos+m,n+1,c',a',xs++[r],rfl,h5,h3,by omega,?_,h4▸hv,?_,k⟩
 ·rw[h6]at hx;rw[<-hx,List.append_assoc];rfl
 ·have e:ints (xs++[r])=ints xs++[.int .i64 (r:Int)]:=by unfold ints;rw[tJ];rfl
  rw[e];exact(o.up 1).drop
theorem Gn(s:ByteArray)(hs:s.size<=2000000)(o:Own w R):Calls prog 182 #[.string s] w (qg s.data.toList R w):=by
 have hl:s.data.toList.length=s.size:=(Lib.size_eq s).symm;go_enter func182,ntmps182;go_wp2;go_loopw[4,5] (fun v4 v5 wr=>Y7 s R w v4 v5 wr) (fun _ v _=>s.size-(intOf v).toNat);case atStart=>exact⟨0,0,0,none,[],rfl,rfl,by omega,by omega,rfl,rfl,o.bH (e:=3) (size:=1),Calm.refl w⟩
 case round=>
  obtain⟨pos,n,c,a,xs,rfl,rfl,hp1,hn1,hx,hv,oR,kR⟩:=hrel;by_cases hp:pos<s.size
  ·have hb0:=qG s pos hp;have ahb:=jJ s pos;obtain⟨b0,e0⟩:=aP (nV s pos);rw[e0]at hb0 ahb;go_upto_block 2 with fail;go_quiet(fail);go_upto_block 2 with fail;go_cut[6,7,8] (fun v6 v7 v8 wc=>abg b0 (slc 3 1 a n c (ints xs)::R) w v6 v7 v8 wc);case first=>
    by_cases c0:b0<128
    ·have d0:=bz (show(b0:Int)<128 by omega);go_wp2;go_meet;exact⟨1,0,b0,rfl,rfl,rfl,.inl ⟨c0,rfl,rfl,rfl⟩,oR.drewN _,kR.dn _⟩
    have d0:=bW (show¬((b0:Int)<128)by omega);by_cases c1:194<=b0/\b0<224
    ·have d1:=bz (show 194<=(b0:Int)by omega);have d2:=bz (show(b0:Int)<224 by omega);have hw1:IntKind.i64.wrap ((b0:Int)-192)=((b0-192:Nat):Int):=by rw[gB];omega
     go_wp2;go_meet;exact⟨2,128,b0-192,rfl,rfl,rfl,.inr (.inl ⟨c1.1,c1.2,rfl,rfl,rfl⟩),oR.drewN _,kR.dn _⟩
    by_cases c2:224<=b0/\b0<240
    ·have d1:=bz (show 194<=(b0:Int)by omega);have d2:=bW (show¬((b0:Int)<224)by omega);have d3:=bz (show 224<=(b0:Int)by omega);have d4:=bz (show(b0:Int)<240 by omega);have hw1:IntKind.i64.wrap ((b0:Int)-224)=((b0-224:Nat):Int):=by rw[gB];omega
     go_wp2;go_meet;exact⟨3,2048,b0-224,rfl,rfl,rfl,.inr (.inr (.inl ⟨c2.1,c2.2,rfl,rfl,rfl⟩)),oR.drewN _,kR.dn _⟩
    by_cases c3:240<=b0/\b0<245
    ·have d1:=bz (show 194<=(b0:Int)by omega);have d2:=bW (show¬((b0:Int)<224)by omega);have d3:=bz (show 224<=(b0:Int)by omega);have d4:=bW (show¬((b0:Int)<240)by omega);have d5:=bz (show 240<=(b0:Int)by omega);have d6:=bz (show(b0:Int)<245 by omega);have hw1:IntKind.i64.wrap ((b0:Int)-240)=((b0-240:Nat):Int):=by rw[gB];omega
     go_wp2;go_meet;exact⟨4,65536,b0-240,rfl,rfl,rfl,.inr (.inr (.inr ⟨c3.1,c3.2,rfl,rfl,rfl⟩)),oR.drewN _,kR.dn _⟩
    have hbad:=Wi (s:=s) (pos:=pos) (by rw[e0];omega);by_cases c4:194<=b0
    ·have d1:=bz (show 194<=(b0:Int)by omega);have d2:=bW (show¬((b0:Int)<224)by omega);have d3:=bz (show 224<=(b0:Int)by omega);have d4:=bW (show¬((b0:Int)<240)by omega);have d5:=bz (show 240<=(b0:Int)by omega);have d6:=bW (show¬((b0:Int)<245)by omega);go_wp2;go_ret2;exact eZ hp hv hbad (oR.drop.drewN _) (kR.dn _)
    ·have d1:=bW (show¬(194<=(b0:Int))by omega);have d3:=bW (show¬(224<=(b0:Int))by omega);have d5:=bW (show¬(240<=(b0:Int))by omega);go_wp2;go_ret2;exact eZ hp hv hbad (oR.drop.drewN _) (kR.dn _)
   case rest=>
    obtain⟨m,least,r0,rfl,rfl,rfl,hcls,oC,kC⟩:=hcut;rcases hcls with⟨z0,rfl,rfl,rfl⟩|⟨z0,z1,rfl,rfl,hr0⟩|⟨z0,z1,rfl,rfl,hr0⟩|⟨z0,z1,rfl,rfl,hr0⟩
    ·have hR:eD s pos=some (r0,1):=by unfold eD fT;rw[e0,if_pos (by omega)]
     have d0:=bW (show¬((s.size:Int)<(pos:Int)+1)by omega);have d1:=bW (show¬((r0:Int)<0)by omega);have d2:=bW (show¬(1114111<(r0:Int))by omega);have d3:=bW (show¬(55296<=(r0:Int))by omega);go_wp2;refine wp_loop_rounds 1 ?_;rw[rounds_succ];have hdn:=oC;have oN:=(oC.alloc (.cells #[(r0:Int)] 3)).up 1;go_wp2_with(at_builtin;refine aU rfl _ _ rfl Tryz.elemI rfl oN ⟨wc.heap.size,0,none⟩ 1 1 [(r0:Int)] rfl rfl ?c1 ?c2 ?c3 ?c4 ?c5);case c1=>exact Own.news (T:=3) (oC.alloc _)
     case c2=>intro u hu;simp at hu;rcases hu with rfl;rfl
     case c3=>unfold maxLen;omega
     case c4=>omega
     case c5=>
      intro a' c' w1 o2 k2;go_wp2;go_roundw;case rel=>exact wD hp hR hx hv hn1 (by go_num) o2 (kC.trans k2.al)
      case measure=>simp[intOf];omega
    ·have hw0:b0-192=r0:=hr0;by_cases hsz:s.size<pos+2
     ·have hR:eD s pos=none:=by unfold eD fT;rw[e0,if_neg (by omega),if_pos (by omega),if_pos (by omega)]
      have d0:=bz (show(s.size:Int)<(pos:Int)+2 by omega);go_wp2;go_ret2;exact eZ hp hv hR oC.drop kC
     have d0:=bW (show¬((s.size:Int)<(pos:Int)+2)by omega);have hb1:=qG s (pos+1) (by omega);have hlt1:=jJ s (pos+1);obtain⟨b1,e1⟩:=aP (nV s (pos+1));rw[e1]at hb1 hlt1;by_cases c1:¬(128<=b1/\b1<192)
     ·have hR:eD s pos=none:=by unfold eD fT;rw[e0,e1,if_neg (by omega),if_pos (by omega),if_pos (by omega)]
      go_wp2;refine wp_loop_rounds 1 ?_;rw[rounds_succ];go_wp2;all_goals go_ret2
      all_goals exact eZ hp hv hR oC.drop kC
     have f1a:=bW (show¬((b1:Int)<128)by omega);have f1b:=bW (show¬(192<=(b1:Int))by omega);obtain⟨r1,hr1⟩:=aP (r0*64+b1-128);have hA1:IntKind.i64.wrap ((r0:Int)*64)=(r0:Int)*64:=by rw[gB];omega
     have hB1:IntKind.i64.wrap ((r0:Int)*64+(b1:Int))=(r0:Int)*64+(b1:Int):=by rw[gB];omega
     have hC1:IntKind.i64.wrap ((r0:Int)*64+(b1:Int)-128)=(r1:Int):=by rw[gB];omega
     have hI1:(r0:Int)*64+(b1:Int)-128=(r1:Int):=by omega
     have hR:eD s pos=some (r1,2):=by unfold eD fT;rw[e0,e1,if_neg (by omega),if_pos (by omega),if_neg (by omega)];subst hw0;subst hr1;rfl
     have g1:=bW (show¬((r1:Int)<128)by omega);have g2:=bW (show¬(1114111<(r1:Int))by omega);have g3:=bW (show¬(55296<=(r1:Int))by omega);go_wp2;refine wp_loop_rounds 2 ?_;rw[rounds_succ];go_wp2;rw[rounds_succ];have hdn:=oC;have oN:=(oC.alloc (.cells #[(r1:Int)] 3)).up 1;go_wp2_with(at_builtin;refine aU rfl _ _ rfl Tryz.elemI rfl oN ⟨wc.heap.size,0,none⟩ 1 1 [(r1:Int)] rfl rfl ?c1 ?c2 ?c3 ?c4 ?c5);case c1=>exact Own.news (T:=3) (oC.alloc _)
     case c2=>intro u hu;simp at hu;rcases hu with rfl;rfl
     case c3=>unfold maxLen;omega
     case c4=>omega
     case c5=>
      intro a' c' w1 o2 k2;go_wp2;go_roundw;case rel=>exact wD hp hR hx hv hn1 (by go_num) o2 (kC.trans k2.al)
      case measure=>simp[intOf];omega
    ·have hw0:b0-224=r0:=hr0;by_cases hsz:s.size<pos+3
     ·have hR:eD s pos=none:=by unfold eD fT;rw[e0,if_neg (by omega),if_neg (by omega),if_pos (by omega),if_pos (by omega)]
      have d0:=bz (show(s.size:Int)<(pos:Int)+3 by omega);go_wp2;go_ret2;exact eZ hp hv hR oC.drop kC
     have d0:=bW (show¬((s.size:Int)<(pos:Int)+3)by omega);have hb1:=qG s (pos+1) (by omega);have hlt1:=jJ s (pos+1);obtain⟨b1,e1⟩:=aP (nV s (pos+1));rw[e1]at hb1 hlt1;have hb2:=qG s (pos+2) (by omega);have hlt2:=jJ s (pos+2);obtain⟨b2,e2⟩:=aP (nV s (pos+2));rw[e2]at hb2 hlt2;by_cases c1:¬(128<=b1/\b1<192)
     ·have hR:eD s pos=none:=by unfold eD fT;rw[e0,e1,e2,if_neg (by omega),if_neg (by omega),if_pos (by omega),if_pos (by omega)]
      go_wp2;refine wp_loop_rounds 1 ?_;rw[rounds_succ];go_wp2;all_goals go_ret2
      all_goals exact eZ hp hv hR oC.drop kC
     have f1a:=bW (show¬((b1:Int)<128)by omega);have f1b:=bW (show¬(192<=(b1:Int))by omega);obtain⟨r1,hr1⟩:=aP (r0*64+b1-128);have hA1:IntKind.i64.wrap ((r0:Int)*64)=(r0:Int)*64:=by rw[gB];omega
     have hB1:IntKind.i64.wrap ((r0:Int)*64+(b1:Int))=(r0:Int)*64+(b1:Int):=by rw[gB];omega
     have hC1:IntKind.i64.wrap ((r0:Int)*64+(b1:Int)-128)=(r1:Int):=by rw[gB];omega
     have hI1:(r0:Int)*64+(b1:Int)-128=(r1:Int):=by omega
     by_cases c2:¬(128<=b2/\b2<192)
     ·have hR:eD s pos=none:=by unfold eD fT;rw[e0,e1,e2,if_neg (by omega),if_neg (by omega),if_pos (by omega),if_pos (by omega)]
      go_wp2;refine wp_loop_rounds 2 ?_;rw[rounds_succ];go_wp2;rw[rounds_succ];go_wp2;all_goals go_ret2
      all_goals exact eZ hp hv hR oC.drop kC
     have f2a:=bW (show¬((b2:Int)<128)by omega);have f2b:=bW (show¬(192<=(b2:Int))by omega);obtain⟨r2,hr2⟩:=aP (r1*64+b2-128);have hA2:IntKind.i64.wrap ((r1:Int)*64)=(r1:Int)*64:=by rw[gB];omega
     have hB2:IntKind.i64.wrap ((r1:Int)*64+(b2:Int))=(r1:Int)*64+(b2:Int):=by rw[gB];omega
     have hC2:IntKind.i64.wrap ((r1:Int)*64+(b2:Int)-128)=(r2:Int):=by rw[gB];omega
     have hI2:(r1:Int)*64+(b2:Int)-128=(r2:Int):=by omega
     by_cases hbad:r2<2048\/(55296<=r2/\r2<57344)
     ·have hR:eD s pos=none:=by unfold eD fT;rw[e0,e1,e2,if_neg (by omega),if_neg (by omega),if_pos (by omega),if_neg (by omega),if_pos (by omega)]
      go_wp2;refine wp_loop_rounds 3 ?_;rw[rounds_succ];go_wp2;rw[rounds_succ];go_wp2;rw[rounds_succ];go_wp2;all_goals go_ret2
      all_goals exact eZ hp hv hR oC.drop kC
     have hR:eD s pos=some (r2,3):=by unfold eD fT;rw[e0,e1,e2,if_neg (by omega),if_neg (by omega),if_pos (by omega),if_neg (by omega),if_neg (by omega)];subst hw0;subst hr1;subst hr2;rfl
     have g1:=bW (show¬((r2:Int)<2048)by omega);have g2:=bW (show¬(1114111<(r2:Int))by omega);by_cases aiB:r2<55296
     ·have g3:=bW (show¬(55296<=(r2:Int))by omega);go_wp2;refine wp_loop_rounds 3 ?_;rw[rounds_succ];go_wp2;rw[rounds_succ];go_wp2;rw[rounds_succ];have hdn:=oC;have oN:=(oC.alloc (.cells #[(r2:Int)] 3)).up 1;go_wp2_with(at_builtin;refine aU rfl _ _ rfl Tryz.elemI rfl oN ⟨wc.heap.size,0,none⟩ 1 1 [(r2:Int)] rfl rfl ?c1 ?c2 ?c3 ?c4 ?c5);case c1=>exact Own.news (T:=3) (oC.alloc _)
      case c2=>intro u hu;simp at hu;rcases hu with rfl;rfl
      case c3=>unfold maxLen;omega
      case c4=>omega
      case c5=>
       intro a' c' w1 o2 k2;go_wp2;go_roundw;case rel=>exact wD hp hR hx hv hn1 (by go_num) o2 (kC.trans k2.al)
       case measure=>simp[intOf];omega
     ·go_wp2;refine wp_loop_rounds 3 ?_;rw[rounds_succ];go_wp2;rw[rounds_succ];go_wp2;rw[rounds_succ];have g3:=bz (show 55296<=(r2:Int)by omega);have g4:=bW (show¬((r2:Int)<57344)by omega);have hdn:=oC;have oN:=(oC.alloc (.cells #[(r2:Int)] 3)).up 1;go_wp2_with(at_builtin;refine aU rfl _ _ rfl Tryz.elemI rfl oN ⟨wc.heap.size,0,none⟩ 1 1 [(r2:Int)] rfl rfl ?c1 ?c2 ?c3 ?c4 ?c5);case c1=>exact Own.news (T:=3) (oC.alloc _)
      case c2=>intro u hu;simp at hu;rcases hu with rfl;rfl
      case c3=>unfold maxLen;omega
      case c4=>omega
      case c5=>
       intro a' c' w1 o2 k2;go_wp2;go_roundw;case rel=>exact wD hp hR hx hv hn1 (by go_num) o2 (kC.trans k2.al)
       case measure=>simp[intOf];omega
    ·have hw0:b0-240=r0:=hr0;by_cases hsz:s.size<pos+4
     ·have hR:eD s pos=none:=by unfold eD fT;rw[e0,if_neg (by omega),if_neg (by omega),if_neg (by omega),if_pos (by omega),if_pos (by omega)]
      have d0:=bz (show(s.size:Int)<(pos:Int)+4 by omega);go_wp2;go_ret2;exact eZ hp hv hR oC.drop kC
     have d0:=bW (show¬((s.size:Int)<(pos:Int)+4)by omega);have hb1:=qG s (pos+1) (by omega);have hlt1:=jJ s (pos+1);obtain⟨b1,e1⟩:=aP (nV s (pos+1));rw[e1]at hb1 hlt1;have hb2:=qG s (pos+2) (by omega);have hlt2:=jJ s (pos+2);obtain⟨b2,e2⟩:=aP (nV s (pos+2));rw[e2]at hb2 hlt2;have hb3:=qG s (pos+3) (by omega);have hlt3:=jJ s (pos+3);obtain⟨b3,e3⟩:=aP (nV s (pos+3));rw[e3]at hb3 hlt3;by_cases c1:¬(128<=b1/\b1<192)
     ·have hR:eD s pos=none:=by unfold eD fT;rw[e0,e1,e2,e3,if_neg (by omega),if_neg (by omega),if_neg (by omega),if_pos (by omega),if_pos (by omega)]
      go_wp2;refine wp_loop_rounds 1 ?_;rw[rounds_succ];go_wp2;all_goals go_ret2
      all_goals exact eZ hp hv hR oC.drop kC
     have f1a:=bW (show¬((b1:Int)<128)by omega);have f1b:=bW (show¬(192<=(b1:Int))by omega);obtain⟨r1,hr1⟩:=aP (r0*64+b1-128);have hA1:IntKind.i64.wrap ((r0:Int)*64)=(r0:Int)*64:=by rw[gB];omega
     have hB1:IntKind.i64.wrap ((r0:Int)*64+(b1:Int))=(r0:Int)*64+(b1:Int):=by rw[gB];omega
     have hC1:IntKind.i64.wrap ((r0:Int)*64+(b1:Int)-128)=(r1:Int):=by rw[gB];omega
     have hI1:(r0:Int)*64+(b1:Int)-128=(r1:Int):=by omega
     by_cases c2:¬(128<=b2/\b2<192)
     ·have hR:eD s pos=none:=by unfold eD fT;rw[e0,e1,e2,e3,if_neg (by omega),if_neg (by omega),if_neg (by omega),if_pos (by omega),if_pos (by omega)]
      go_wp2;refine wp_loop_rounds 2 ?_;rw[rounds_succ];go_wp2;rw[rounds_succ];go_wp2;all_goals go_ret2
      all_goals exact eZ hp hv hR oC.drop kC
     have f2a:=bW (show¬((b2:Int)<128)by omega);have f2b:=bW (show¬(192<=(b2:Int))by omega);obtain⟨r2,hr2⟩:=aP (r1*64+b2-128);have hA2:IntKind.i64.wrap ((r1:Int)*64)=(r1:Int)*64:=by rw[gB];omega
     have hB2:IntKind.i64.wrap ((r1:Int)*64+(b2:Int))=(r1:Int)*64+(b2:Int):=by rw[gB];omega
     have hC2:IntKind.i64.wrap ((r1:Int)*64+(b2:Int)-128)=(r2:Int):=by rw[gB];omega
     have hI2:(r1:Int)*64+(b2:Int)-128=(r2:Int):=by omega
     by_cases c3:¬(128<=b3/\b3<192)
     ·have hR:eD s pos=none:=by unfold eD fT;rw[e0,e1,e2,e3,if_neg (by omega),if_neg (by omega),if_neg (by omega),if_pos (by omega),if_pos (by omega)]
      go_wp2;refine wp_loop_rounds 3 ?_;rw[rounds_succ];go_wp2;rw[rounds_succ];go_wp2;rw[rounds_succ];go_wp2;all_goals go_ret2
      all_goals exact eZ hp hv hR oC.drop kC
     have f3a:=bW (show¬((b3:Int)<128)by omega);have f3b:=bW (show¬(192<=(b3:Int))by omega);obtain⟨r3,hr3⟩:=aP (r2*64+b3-128);have hA3:IntKind.i64.wrap ((r2:Int)*64)=(r2:Int)*64:=by rw[gB];omega
     have hB3:IntKind.i64.wrap ((r2:Int)*64+(b3:Int))=(r2:Int)*64+(b3:Int):=by rw[gB];omega
     have hC3:IntKind.i64.wrap ((r2:Int)*64+(b3:Int)-128)=(r3:Int):=by rw[gB];omega
     have hI3:(r2:Int)*64+(b3:Int)-128=(r3:Int):=by omega
     by_cases hbad:r3<65536\/1114111<r3
     ·have hR:eD s pos=none:=by unfold eD fT;rw[e0,e1,e2,e3,if_neg (by omega),if_neg (by omega),if_neg (by omega),if_pos (by omega),if_neg (by omega),if_pos (by omega)]
      go_wp2;refine wp_loop_rounds 4 ?_;rw[rounds_succ];go_wp2;rw[rounds_succ];go_wp2;rw[rounds_succ];go_wp2;rw[rounds_succ];go_wp2;all_goals go_ret2
      all_goals exact eZ hp hv hR oC.drop kC
     have hR:eD s pos=some (r3,4):=by unfold eD fT;rw[e0,e1,e2,e3,if_neg (by omega),if_neg (by omega),if_neg (by omega),if_pos (by omega),if_neg (by omega),if_neg (by omega)];subst hw0;subst hr1;subst hr2;subst hr3;rfl
     have HR3:=az (show 65536<=r3/\r3<=1114111 by omega);clear hbad;go_wp2;refine wp_loop_rounds 4 ?_;rw[rounds_succ];go_wp2;rw[rounds_succ];go_wp2;rw[rounds_succ];go_wp2;rw[rounds_succ];have aiC:=HR3.out;have g1:=bW (show¬((r3:Int)<65536)by omega);have g2:=bW (show¬(1114111<(r3:Int))by omega);have g3:=bz (show 55296<=(r3:Int)by omega);have g4:=bW (show¬((r3:Int)<57344)by omega);have hdn:=oC;have oN:=(oC.alloc (.cells #[(r3:Int)] 3)).up 1;go_wp2_with(at_builtin;refine aU rfl _ _ rfl Tryz.elemI rfl oN ⟨wc.heap.size,0,none⟩ 1 1 [(r3:Int)] rfl rfl ?c1 ?c2 ?c3 ?c4 ?c5);case c1=>exact Own.news (T:=3) (oC.alloc _)
     case c2=>intro u hu;simp at hu;rcases hu with rfl;rfl
     case c3=>unfold maxLen;omega
     case c4=>omega
     case c5=>
      intro a' c' w1 o2 k2;go_wp2;go_roundw;case rel=>exact wD hp hR hx hv hn1 (by go_num) o2 (kC.trans k2.al)
      case measure=>simp[intOf];omega
  ·have hx2:=uE s pos hp;rw[hx2,List.append_nil]at hx;have hd:s.data.toList.drop pos=[]:=List.drop_eq_nil_of_le (by omega);rw[hd,Lib.validD_nil]at hv;have hn2:n=xs.length:=by have:=oR.fA.1;unfold ints at this;rw[iP]at this;omega
   subst hx;subst hn2;go_wp2;go_ret2;unfold qg;rw[<-hv,if_pos rfl];exact⟨a,c,rfl,oR,kR⟩
def ni(l:qR)(R:aJ)(w:aF)(e:Ending)(w':aF):Prop:=
 if dG l=true then∃a c,e=.returned (.tuple #[.slice a (fF l).length c,.bool true])/\Own w' (slc 3 1 a (fF l).length c (ints (fF l))::R)/\Calm w w'
 else e=.returned (.tuple #[.slice none 0 0,.bool false])/\Own w' R/\Calm w w'
theorem sQ:∀(n:Nat)(l:qR),l.length<=n->(runesL l).all jk=true->Lib.validD l=true
 |0,l,h,_=>by have:l=[]:=CO (by omega);subst this;exact Lib.validD_nil
 |n+1,l,h,ha=>by
  by_cases hne:l=[]
  ·subst hne;exact Lib.validD_nil
  ·have hp:=jH l;have hl:0<l.length:=List.length_pos_iff.2 hne;rw[jI l hne,List.all_cons,Bt]at ha
   rw[Lib.validD_step l hne,if_neg (by
    rintro⟨h1,_⟩;rw[h1]at ha
    exact absurd ha.1 (by decide))]
   exact sQ n _ (by rw[List.length_drop];omega) ha.2
theorem Y8(s:ByteArray)(hs:s.size<=2000000)(o:Own w R)(hv:Lib.validD s.data.toList=true):Calls prog 182 #[.string s] w fun e w'=>
  ∃a c,e=.returned (.tuple #[.slice a (runesL s.data.toList).length c,.bool true])/\Own w' (slc 3 1 a (runesL s.data.toList).length c (ints (runesL s.data.toList))::R)/\Calm w w':=
 (Gn s hs o).mono fun e w' h=>by unfold qg at h;rw[if_pos hv]at h;exact h
theorem Y9(s:ByteArray)(hs:s.size<=2000000)(o:Own w R)(hv:¬Lib.validD s.data.toList=true):Calls prog 182 #[.string s] w fun e w'=>
  e=.returned (.tuple #[.slice none 0 0,.bool false])/\Own w' R/\Calm w w':=
 (Gn s hs o).mono fun e w' h=>by unfold qg at h;rw[if_neg hv]at h;exact h
def abh(rs:List Nat)(R:aJ)(w:aF)(e:Ending)(w':aF):Prop:=
 if rs.all jk=true then∃a c,e=.returned (.tuple #[.slice a rs.length c,.bool true])/\Own w' (slc 3 1 a rs.length c (ints (rs.map pE))::R)/\Calm w w'
 else e=.returned (.tuple #[.slice none 0 0,.bool false])/\Own w' R/\Calm w w'
theorem Wj{l:qR}{rs:List Nat}(h:dG l=rs.all jk)(h2:fF l=rs.map pE){e:Ending}(hp:abh rs R w e w'):ni l R w e w':=by unfold ni;unfold abh at hp;rw[h,h2,iP];exact hp
def adT(rs:List Nat)(a:aY)(c:Nat)(R:aJ)(w:aF)(v:aL)(wr:aF):Prop:=
 ∃i:Nat,v=↑(i:Int)/\i<=rs.length/\(∀r∈rs.take i,jk r=true)/\
  Own wr (slc 3 1 a rs.length c (ints ((rs.take i).map pE++rs.drop i))::R)/\Calm w wr
theorem Y_{l:List Nat}{i r:Nat}(h:l[i]?=some r):(ints l)[i]?=some ↑(r:Int):=by unfold ints;rw[kI,h];rfl
theorem ints_set(l:List Nat)(i r:Nat):(ints l).set i (.int .i64 (r:Int))=ints (l.set i r):=by unfold ints;rw[List.map_set];rfl
theorem Pn(s:ByteArray)(hs:s.size<=2000000)(o:Own w R):Calls prog 135 #[.string s] w (ni s.data.toList R w):=by
 have hl:s.data.toList.length=s.size:=(Lib.size_eq s).symm;by_cases hv:Lib.validD s.data.toList=true
 ·have hrun:=Y8 s hs o hv;by_cases hz:¬(1<=s.size/\s.size<=24)
  ·have hN:dG s.data.toList=false:=by
    unfold dG;rw[hl];by_cases h1:1<=s.size
    ·rw[bW (p:=s.size<=24) (by omega),Bool.and_false]
    ·rw[bW (p:=1<=s.size) h1,Bool.and_false,Bool.false_and]
   clear hv;go_enter func135,ntmps135;go_wp2_with fail;refine hrun.mono ?_;rintro e1 w1⟨a,c,rfl,o1,k1⟩;clear hrun;go_wp2;all_goals go_ret2
   all_goals
    unfold ni;rw[hN,if_neg (by decide)];exact⟨rfl,o1.drop,k1⟩
  ·have z1:=bW (show¬((s.size:Int)<1)by omega);have z2:=bW (show¬(24<(s.size:Int))by omega);have hsc:=xZ s.data.toList;have Za:dG s.data.toList=(runesL s.data.toList).all jk:=by unfold dG;rw[hl,bz (by omega),bz (by omega),Bool.and_true,Bool.and_true]
   have Zb:fF s.data.toList=(runesL s.data.toList).map pE:=rfl;have hrl:(runesL s.data.toList).length<=24:=Nat.le_trans (nL _) (by omega);obtain⟨rs,hrs⟩:=aP (runesL s.data.toList);rw[hrs]at hrun hsc hrl Za Zb;refine Calls.mono ?_ fun e w' h=>Wj Za Zb h;clear hrs hv Za Zb;go_enter func135,ntmps135;go_wp2_with fail;refine hrun.mono ?_;rintro e1 w1⟨a,c,rfl,o1,k1⟩;clear hrun;go_wp2;go_loopw[6] (fun v wr=>adT rs a c R w v wr) (fun v _=>rs.length-(intOf v).toNat);case atStart=>exact⟨0,rfl,by omega,by simp,by simpa using o1,k1⟩
   case round=>
    obtain⟨i,rfl,hi,hlt,oR,kR⟩:=hrel;by_cases hil:i<rs.length
    ·obtain⟨r,hr⟩:∃r,rs[i]?=some r:=⟨_,cZ hil⟩;have hrm:=mH hr;have hrs:=hsc r hrm;have hr1:r<=1114111:=by unfold scalar at hrs;omega
     have htl:(rs.take i).length=i:=by rw[rZ];omega
     have hget:((rs.take i).map pE++rs.drop i)[i]?=some r:=by rw[List.getElem?_append_right (by rw[iP,htl];omega),iP,htl,List.getElem?_drop,Nat.sub_self,Nat.add_zero,hr]
     have hset:((rs.take i).map pE++rs.drop i).set i (pE r)=(rs.take (i+1)).map pE++rs.drop (i+1):=by rw[List.set_append_right _ _ (by rw[iP,htl];omega),iP,htl,Nat.sub_self,List.drop_eq_getElem_cons hil,List.set_cons_zero,tH,hr];simp
     obtain⟨g,rfl,hcell,hfr,hblt⟩:=oR.aG (by omega);have c0:=hcell i _ (Y_ hget);have hf0:=hfr i;clear hcell hfr;have hlet:=Mi (w:=wr) r hr1;go_wp2_with fail;cases hb:jk r with
     |false=>
      rw[hb]at hlet;refine hlet.mono ?_;rintro e2 w2⟨rfl,rfl⟩;clear hlet;go_wp2;go_ret2;have:rs.all jk=false:=by rw[Bool.eq_false_iff,ne_eq,List.all_eq_true];intro h;have:=h r hrm;rw[hb]at this;cases this
      unfold abh;rw[this,if_neg (by decide)];exact⟨rfl,oR.drop,kR⟩
     |true=>
      rw[hb]at hlet;refine hlet.mono ?_;rintro e2 w2⟨rfl,rfl⟩;clear hlet;have hfo:=Sc (w:=wr) r hr1;go_wp2_with fail;refine hfo.mono ?_;rintro e2 w2⟨rfl,rfl⟩;clear hfo;have oS:=oR.iK i (.int .i64 (pE r:Int)) (by unfold ints;simp;omega);rw[ints_set,hset]at oS;go_wp2;go_roundw;case rel=>
       refine⟨i+1,by go_num,by omega,?_,oS,Calm.trans kR ⟨rfl,rfl,rfl⟩⟩;intro q hq;rw[tH,hr]at hq;rcases List.mem_append.1 hq with hq|hq
       ·exact hlt q hq
       ·simp at hq;subst hq;exact hb
      case measure=>simp[intOf];omega
    ·have hie:i=rs.length:=by omega
     subst hie;go_wp2;go_ret2;have:rs.all jk=true:=by rw[List.all_eq_true];intro r hr;exact hlt r (by rw[List.take_length];exact hr)
     rw[List.take_length,List.drop_length,List.append_nil]at oR;unfold abh;rw[this,if_pos rfl];exact⟨a,c,rfl,oR,kR⟩
 ·have hrun:=Y9 s hs o hv;have hN:dG s.data.toList=false:=by rw[Bool.eq_false_iff];intro h;unfold dG at h;rw[Bt,Bt]at h;exact hv (sQ _ _ (Nat.le_refl _) h.1.1)
  go_enter func135,ntmps135;go_wp2_with fail;refine hrun.mono ?_;rintro e1 w1⟨rfl,o1,k1⟩;clear hrun;go_wp2;all_goals go_ret2
  all_goals
   unfold ni;rw[hN,if_neg (by decide)];exact⟨rfl,o1,k1⟩
theorem Gp(s:ByteArray)(hs:s.size<=2000000)(o:Own w R):Calls prog 86 #[.string s] w (aR (.bool (dG s.data.toList)) R w):=by
 have hfo:=Pn s hs o;obtain⟨nb,hnb⟩:=aP (dG s.data.toList);rw[hnb];have hf2:Calls prog 135 #[.string s] w (fun e w'=>∃v,e=.returned (.tuple #[v,.bool nb])/\Own w' R/\Calm w w'):=hfo.mono fun e w' h=>by
  unfold ni at h;rw[hnb]at h;cases nb with
  |true=>rw[if_pos rfl]at h;obtain⟨a,c,rfl,h1,h2⟩:=h;exact⟨_,rfl,h1.drop,h2⟩
  |false=>rw[if_neg (by decide)]at h;obtain⟨rfl,h1,h2⟩:=h;exact⟨_,rfl,h1,h2⟩
 clear hfo hnb;go_enter func86,ntmps86;go_wp2_with fail;refine hf2.mono ?_;rintro e1 w1⟨v,rfl,o1,k1⟩;clear hf2;go_wp2;go_ret;exact⟨rfl,o1,k1⟩
def yT:List Nat->List Nat->Int
 |[],[]=>0
 |[],_::_=>-1
 |_::_,[]=>1
 |x::l,y::m=>if x<y then-1 else if y<x then 1 else yT l m
def Wl(a b:ByteArray):Int:=
 if dG a.data.toList=true then(if dG b.data.toList=true then yT (fF a.data.toList) (fF b.data.toList)else 1)else(if dG b.data.toList=true then-1 else 0)
theorem Wm{x y:List Nat}{i a b:Nat}(hx:x[i]?=some a)(hy:y[i]?=some b):yT (x.drop i) (y.drop i)=if a<b then-1 else if b<a then 1 else yT (x.drop (i+1)) (y.drop (i+1)):=by obtain⟨h1,h2⟩:=eU.1 hx;obtain⟨h3,h4⟩:=eU.1 hy;rw[List.drop_eq_getElem_cons h1,List.drop_eq_getElem_cons h3,h2,h4];rfl
theorem Po{x y:List Nat}{i:Nat}(hi:i<=x.length)(hj:i<=y.length)(h:¬(i<x.length/\i<y.length)):yT (x.drop i) (y.drop i)=if x.length<y.length then-1 else if y.length<x.length then 1 else 0:=by
 by_cases h1:i=x.length
 ·by_cases h2:i=y.length
  ·rw[List.drop_eq_nil_of_le (by omega),List.drop_eq_nil_of_le (by omega),if_neg (by omega),if_neg (by omega)];rfl
  ·rw[List.drop_eq_nil_of_le (show x.length<=i by omega),List.drop_eq_getElem_cons (l:=y) (i:=i) (by omega),if_pos (by omega)];rfl
 ·rw[List.drop_eq_nil_of_le (show y.length<=i by omega),List.drop_eq_getElem_cons (l:=x) (i:=i) (by omega),if_neg (by omega),if_pos (by omega)];rfl
end
section
open Go.Shelf
theorem Tryz.extraM:Builder.Extra prog Tryz.laysMap_ren where
 sizeBuilder:=by kernel_rfl
 liesBuilder:=by kernel_rfl
 t5:=Tryz.laysMap.t5
 a5:=Tryz.laysMap.a5
 z5:=Tryz.laysMap.z5
 v5:=Tryz.laysMap.v5
 infoByte:=by kernel_rfl
 cellsByte:=by kernel_rfl
 sizeByte:=by kernel_rfl
 neB5:=by decide
def kF(w:aF):Prop:=Lib.Utf8Tabs (Tryz.laysMap_ren.g 3) (Tryz.laysMap_ren.g 4) w
section
variable{W w w':aF}{R l:aJ}
theorem Own.tabs(hT:kF W)(o:Own w (old W::R)):kF w:=
 ⟨fun c hc=>o.r9 (hT.1 c hc),fun i hi=>⟨o.r9 (hT.2 i hi).1,o.r9 (hT.2 i hi).2⟩⟩
theorem J_(w:aF):MapGrows prog 173 #[] sP w:=by intro W x hx _;refine(Wh (w:=W) x hx).mono ?_;rintro e w'⟨rfl,rfl⟩;exact⟨rfl,Below.refl _ _⟩
theorem Dz(x:Nat)(hx:x<=1114111):-2147483648<=sP x/\sP x<=2147483647:=by unfold sP;split<;>omega
def nW(s:ByteArray):ByteArray:=if dG s.data.toList=true then⟨(rF s.data.toList).toArray⟩else⟨#[]⟩
def x9(s:ByteArray):Int:=if dG s.data.toList=true then 0 else 1
theorem AB(s:ByteArray)(hs:s.size<=2000000)(hT:kF W)(o:Own w (old W::R)):
  Calls prog 118 #[.string s] w (aR (.tuple #[.string (nW s),(x9 s:Int)]) (old W::R) w):=by
 have hval:=uF (w:=w) s (by omega);unfold nW x9;by_cases hb:dG s.data.toList=true
 ·rw[if_pos hb,if_pos hb];rw[hb]at hval;go_enter func118,ntmps118;go_wp2_with fail;refine hval.mono ?_;rintro e1 w1⟨rfl,pos,rfl⟩;clear hval;have o1:Own (w.iter s pos) (old W::R):=o.more _;have hM:=Any.strings_Map_grows Tryz.laysMap Tryz.extraM 173 #[] (enters_of func173 (by kernel_rfl) rfl) sP s (w.iter s pos) (by omega) (J_ _) Dz (Own.tabs hT o1);rw[J9]at hM;go_wp2_with fail;refine hM.mono ?_;rintro e2 w2⟨rfl,hbel⟩;clear hM;go_wp2;go_ret2;exact⟨rfl,o1.sS hbel,Calm.trans (b:=w.iter s pos) ⟨rfl,rfl,rfl⟩ (Calm.AA hbel)⟩
 ·rw[if_neg hb,if_neg hb];have hb':dG s.data.toList=false:=by simpa using hb
  rw[hb']at hval;go_enter func118,ntmps118;go_wp2_with fail;refine hval.mono ?_;rintro e1 w1⟨rfl,pos,rfl⟩;clear hval;go_wp2;go_ret2;exact⟨rfl,o.more _,⟨rfl,rfl,rfl⟩⟩
end
end
structure rV where
 id:Int
 nm:ByteArray
 wt:Int
 rate:Int
structure jd where
 id:Int
 fU:Int
 wt:Int
 pk:Int
 eG:Int
 lag:Int
 lead:Int
def qW(s:rV):dw:=[s.id,.string s.nm,s.wt,s.rate]
def jv(f:jd):dw:=[f.id,f.fU,f.wt,f.pk,f.eG,f.lag,f.lead]
theorem AL(s:rV):(qW s).length=4:=rfl
theorem dN(f:jd):(jv f).length=7:=rfl
structure yV where
 cap:Int
 bQ:Int
 S:List rV
 F:List (jd×Bool)
def ny:List (jd×Bool)->Int
 |[]=>0
 |(f,b)::F=>(if b=true then f.wt else 0)+ny F
structure yV.Ok(T:yV):Prop where
 cap:1<=T.cap/\T.cap<=512
 bQ:1<=T.bQ/\T.bQ<=12
 sl:T.S.length<=16
 fl:T.F.length<=32
 sid:∀(i:Nat)s,T.S[i]?=some s->s.id=(i:Int)
 snm:∀s∈T.S,dG s.nm.data.toList=true
 fwt:∀p∈T.F,1<=p.1.wt/\p.1.wt<=16
 tot:ny T.F<=T.cap
theorem Gs:∀(F:List (jd×Bool)),(∀p∈F,1<=p.1.wt/\p.1.wt<=16)->0<=ny F/\ny F<=16*F.length
 |[],_=>by simp[ny]
 |(f,b)::F,h=>by have ih:=Gs F fun p hp=>h p (by simp[hp]);have h0:=h (f,b) (by simp);unfold ny;simp only[List.length_cons]at h0⊢;split<;>omega
theorem Pq(F G:List (jd×Bool)):ny (F++G)=ny F+ny G:=by
 induction F with
 |nil=>simp[ny]
 |cons p F ih=>obtain⟨f,b⟩:=p;simp only[List.cons_append,ny,ih];omega
def UH:List rV->List Nat->Option Int
 |[],_=>none
 |s::S,r=>if fF s.nm.data.toList=r then some s.id else UH S r
def AO(S:List rV)(n:ByteArray):Option Int:=if dG n.data.toList=true then UH S (fF n.data.toList)else none
def sU(S:List rV):List (ByteArray×Int):=S.map fun s=>(nW s.nm,s.id)
theorem ByteArray.mk_inj{a b:qR}:(⟨a.toArray⟩:ByteArray)=⟨b.toArray⟩↔a=b:=by
 constructor
 ·intro h;have:=congrArg (fun x:ByteArray=>x.data.toList) h;simpa using this
 ·intro h;rw[h]
theorem yX:∀(S:List rV)(_:∀s∈S,dG s.nm.data.toList=true)(n:ByteArray)(_:dG n.data.toList=true),qV (sU S) (nW n)=UH S (fF n.data.toList)
 |[],_,_,_=>rfl
 |s::S,h,n,hn=>by
  have ih:=yX S (fun t ht=>h t (by simp[ht])) n hn;have h0:=h s (by simp);have hiff:nW n=nW s.nm↔fF s.nm.data.toList=fF n.data.toList:=by unfold nW;rw[if_pos hn,if_pos h0,ByteArray.mk_inj,Wd];exact eq_comm
  unfold sU at ih⊢;simp only[iD,qV,UH];by_cases hc:fF s.nm.data.toList=fF n.data.toList
  ·rw[if_pos (hiff.2 hc),if_pos hc]
  ·rw[if_neg (fun e=>hc (hiff.1 e)),if_neg hc];exact ih
theorem Ke{α:Type}:∀(m:List (ByteArray×α))(k:ByteArray)(v:α),qV m k=none->I8 m k v=m++[(k,v)]
 |[],_,_,_=>rfl
 |(k0,v0)::m,k,v,h=>by
  unfold qV at h;split at h
  ·cases h
  ·rename_i hk;unfold I8;rw[if_neg hk,Ke m k v h];rfl
def I9(w:Int):Prop:=¬(1<=w/\w<=16)
instance(w:Int):Decidable (I9 w):=inferInstanceAs (Decidable (¬_))
def ig(T:yV)(n:ByteArray)(w r:Int):Int:=
 if dG n.data.toList=false\/I9 w\/r<0\/T.bQ<=r then 1 else if(AO T.S n).isSome=true then 7 else if T.S.length=16 then 4 else 0
def pF(T:yV)(n:ByteArray)(w r:Int):Int:=if ig T n w r=0 then(T.S.length:Int)else 0
def staT(T:yV)(n:ByteArray)(w r:Int):yV:=if ig T n w r=0 then{T with S:=T.S++[⟨T.S.length,n,w,r⟩]}else T
def newF(T:yV)(s w:Int):jd:=⟨T.F.length,s,w,64,262144,1099511627776,1099511627776⟩
def iq(T:yV)(s w:Int):Int:=
 if s<0\/(T.S.length:Int)<=s then 6 else if I9 w then 1 else if T.F.length=32 then 4 else if T.cap<ny T.F+w then 12 else 0
def Gt(T:yV)(s w:Int):Int:=if iq T s w=0 then(T.F.length:Int)else 0
def floT(T:yV)(s w:Int):yV:=if iq T s w=0 then{T with F:=T.F++[(newF T s w,true)]}else T
def lG(F:List (jd×Bool))(f:Int):Option jd:=if f<0 then none else match F[f.toNat]? with
 |some (g,true)=>some g
 |_=>none
theorem Wn{F:List (jd×Bool)}{f:Int}{g:jd}(h:lG F f=some g):∃i:Nat,f=(i:Int)/\F[i]?=some (g,true)/\i<F.length:=by
 unfold lG at h;split at h
 ·cases h
 ·rename_i h0;split at h
  ·rename_i g' hg;cases h;exact⟨f.toNat,by omega,hg,(eU.1 hg).1⟩
  ·cases h
theorem Wo{F:List (jd×Bool)}{f:Int}(h:lG F f=none):f<0\/(F.length:Int)<=f\/∃(i:Nat)(g:jd),f=(i:Int)/\F[i]?=some (g,false)/\i<F.length:=by
 unfold lG at h;split at h
 ·exact .inl (by assumption)
 ·rename_i h0;by_cases hl:f.toNat<F.length
  ·obtain⟨⟨g,b⟩,hg⟩:∃p,F[f.toNat]?=some p:=⟨_,cZ hl⟩;rw[hg]at h;cases b with
   |true=>cases h
   |false=>exact .inr (.inr ⟨f.toNat,g,by omega,hg,hl⟩)
  ·exact .inr (.inl (by omega))
def uG:List (Option Nat)->List (jd×Bool)->aJ
 |some b::ps,(f,_)::F=>aH b 167 (jv f)::uG ps F
 |none::ps,_::F=>SP.pu True::uG ps F
 |_,_=>[]
def Gu(p:Option Nat):aL:=.pointer (p.map fun b=>⟨b,0,none⟩)
def uY(ps:List (Option Nat))(F:List (jd×Bool)):Prop:=ps.map (·.isSome)=F.map (·.2)
def dM(b:Nat)(T:yV):SP:=ex fun(p:aY×Nat×Nat×aY×Nat×List (Option Nat))=>
 st [pu (uY p.2.2.2.2.2 T.F),aH b 103 [T.cap,T.bQ,.slice p.1 T.S.length p.2.1,.map (some p.2.2.1),.slice p.2.2.2.1 T.F.length p.2.2.2.2.1,(ny T.F:Int)],
  slc 269 4 p.1 T.S.length p.2.1 (flat qW T.S),Kb (Value.int .i64) p.2.2.1 (sU T.S),slc 201 1 p.2.2.2.1 T.F.length p.2.2.2.2.1 (p.2.2.2.2.2.map Gu),st (uG p.2.2.2.2.2 T.F)]
section
variable{W w w':aF}{R:aJ}{b:Nat}{T:yV}
theorem dM.iff:Own w (dM b T::R)↔∃sa sc mb fa fc ps,uY ps T.F/\
  Own w (aH b 103 [T.cap,T.bQ,.slice sa T.S.length sc,.map (some mb),.slice fa T.F.length fc,(ny T.F:Int)]::
   slc 269 4 sa T.S.length sc (flat qW T.S)::Kb (Value.int .i64) mb (sU T.S)::slc 201 1 fa T.F.length fc (ps.map Gu)::st (uG ps T.F)::R):=by
 constructor
 ·intro o;obtain⟨⟨sa,sc,mb,fa,fc,ps⟩,o⟩:=Own.ex.1 o;obtain⟨h,o⟩:=Own.pu.1 (Own.st.1 o);exact⟨sa,sc,mb,fa,fc,ps,h,o⟩
 ·rintro⟨sa,sc,mb,fa,fc,ps,h,o⟩;exact Own.ex.2 ⟨⟨sa,sc,mb,fa,fc,ps⟩,Own.st.2 (Own.pu.2 ⟨h,o⟩)⟩
theorem uY.len{ps:List (Option Nat)}{F:List (jd×Bool)}(h:uY ps F):ps.length=F.length:=by have:=congrArg List.length h;simpa using this
theorem uY.at{ps:List (Option Nat)}{F:List (jd×Bool)}(h:uY ps F){i:Nat}{f:jd}{c:Bool}(hf:F[i]?=some (f,c)):∃p,ps[i]?=some p/\p.isSome=c:=by
 have hl:=h.len;have hi:=(eU.1 hf).1
 refine⟨ps[i]'(by omega),cZ _,?_⟩
 have:=congrArg (·[i]?) h;simp only[kI,hf,cZ (show i<ps.length by omega),Option.map_some,Option.some.injEq]at this;exact this
theorem EN:∀{ps:List (Option Nat)}{F:List (jd×Bool)}{i:Nat}{f:jd}{c:Bool}{p:Option Nat},ps[i]?=some p->F[i]?=some (f,c)->
  (uG ps F)[i]?=some (match p with|some b=>aH b 167 (jv f)|none=>SP.pu True)
 |p0::ps,(f0,c0)::F,0,f,c,p,h1,h2=>by simp at h1 h2;obtain⟨rfl,rfl⟩:=h2;subst h1;cases p0<;>rfl
 |p0::ps,(f0,c0)::F,i+1,f,c,p,h1,h2=>by have:=EN (ps:=ps) (F:=F) (i:=i) (f:=f) (c:=c) (p:=p) (by simpa using h1) (by simpa using h2);cases p0<;>simpa[uG]using this
 |[],_,_,_,_,_,h,_=>by simp at h
 |_::_,[],_,_,_,_,_,h=>by simp at h
theorem Pt:∀{ps:List (Option Nat)}{F:List (jd×Bool)}{i:Nat}{g f:jd}{c c':Bool}{b:Nat},ps[i]?=some (some b)->F[i]?=some (g,c)->
  (uG ps F).set i (aH b 167 (jv f))=uG ps (F.set i (f,c'))
 |p0::ps,(f0,c0)::F,0,g,f,c,c',b,h1,h2=>by simp at h1;subst h1;simp[uG]
 |p0::ps,(f0,c0)::F,i+1,g,f,c,c',b,h1,h2=>by have:=Pt (ps:=ps) (F:=F) (i:=i) (g:=g) (f:=f) (c:=c) (c':=c') (b:=b) (by simpa using h1) (by simpa using h2);cases p0<;>simp[uG,this]
 |[],_,_,_,_,_,_,_,h,_=>by simp at h
 |_::_,[],_,_,_,_,_,_,_,h=>by simp at h
theorem wF:∀{ps:List (Option Nat)}{F:List (jd×Bool)}{f:jd}{c:Bool}{b:Nat},ps.length=F.length->uG (ps++[some b]) (F++[(f,c)])=uG ps F++[aH b 167 (jv f)]
 |[],[],_,_,_,_=>rfl
 |some b0::ps,(f0,c0)::F,f,c,b,h=>by simp only[List.cons_append,uG];rw[wF (by simpa using h)]
 |none::ps,(f0,c0)::F,f,c,b,h=>by simp only[List.cons_append,uG];rw[wF (by simpa using h)]
 |[],_::_,_,_,_,h=>by simp at h
 |_::_,[],_,_,_,h=>by simp at h
theorem iw(x:Int):Calls prog 75 #[x] w (bN (.bool (decide (1<=x/\x<=16))) w):=by
 go_enter func75,ntmps75;go_wp2;all_goals go_ret
 all_goals refine⟨congrArg Ending.returned (congrArg Value.bool ?_),rfl⟩
 all_goals
  rw[Bool.eq_iff_iff];simp only[xM,Bool.decide_and,Bt,Bool.false_eq_true,false_iff];omega
def acH(c r:Int):Int:=if c<1\/512<c\/r<1\/12<r then 1 else 0
theorem aeU(c r:Int)(h:acH c r≠0):Calls prog 18 #[c,r] w (bN (.tuple #[.pointer none,(1:Int)]) w):=by
 have h2:c<1\/512<c\/r<1\/12<r:=by unfold acH at h;split at h;·assumption
                                   ·omega
 have H2:=az h2;clear h h2;go_enter func18,ntmps18;go_wp2;all_goals first
  |(go_ret2;exact⟨rfl,rfl⟩)
  |(exfalso;have:=H2.out;omega)
theorem Si(c r:Int)(hc:1<=c/\c<=512)(hr:1<=r/\r<=12)(o:Own w R):
  Calls prog 18 #[.int .i64 c,.int .i64 r] w fun e w'=>∃b,e=.returned (.tuple #[.pointer (some ⟨b,0,none⟩),.int .i64 0])/\Own w' (dM b ⟨c,r,[],[]⟩::R)/\Calm w w':=by
 obtain⟨hc1,hc2⟩:=hc;obtain⟨hr1,hr2⟩:=hr;have e1:=decide_eq_false (show¬(c<1)by omega);have e2:=decide_eq_false (show¬(512<c)by omega);have e3:=decide_eq_false (show¬(r<1)by omega);have e4:=decide_eq_false (show¬(12<r)by omega);have hmm:=@run_makeMap prog;have o1:=o.Ze (f:=Value.int .i64) (α:=Int);have o2:=o1.alloc (.cells #[.int .i64 c,.int .i64 r,.slice none 0 0,.map (some w.heap.size),.slice none 0 0,.int .i64 0] 103);go_enter func18,ntmps18;go_wp2;go_ret2;refine⟨_,rfl,dM.iff.2 ⟨none,0,w.heap.size,none,0,[],rfl,?_⟩,⟨rfl,rfl,rfl⟩⟩;simp only[World.size_alloc]at o2;have oE:=(Own.st (m:=[])).2 o2;have o4:=Own.bH (e:=269) (size:=4) (Own.bH (e:=201) (size:=1) oE);exact o4.re [3,0,4,1,2]
def uH(ps:List (Option Nat))(f:Int):Option Nat:=if f<0 then none else(ps[f.toNat]?).join
theorem Pv(f:Int){sa fa:aY}{sc mb fc:Nat}{ps:List (Option Nat)}(hp:uY ps T.F)(hl:T.F.length<=32)
  (o:Own w (aH b 103 [T.cap,T.bQ,.slice sa T.S.length sc,.map (some mb),.slice fa T.F.length fc,(ny T.F:Int)]::
   slc 269 4 sa T.S.length sc (flat qW T.S)::Kb (Value.int .i64) mb (sU T.S)::slc 201 1 fa T.F.length fc (ps.map Gu)::st (uG ps T.F)::R)):
  Calls prog 120 #[b,f] w (bN (Gu (uH ps f)) w):=by
 have hpl:=hp.len;have c4:=o.cell 4;unfold uH;by_cases h0:f<0
 ·rw[if_pos h0];go_enter func120,ntmps120;go_wp2;go_ret;exact⟨rfl,rfl⟩
 ·rw[if_neg h0];obtain⟨i,rfl⟩:∃i:Nat,f=(i:Int):=⟨f.toNat,by omega⟩;rw[Int.toNat_natCast];by_cases h1:i<T.F.length
  ·obtain⟨p,hpi⟩:∃p,ps[i]?=some p:=⟨_,cZ (by omega)⟩;rw[hpi];obtain⟨g,rfl,hc,_,_⟩:=(o.up 3).aG (by omega);have d:=hc i (Gu p) (by rw[kI,hpi];rfl);clear hc hpi;show Calls _ _ _ _ (bN (Gu p) w);obtain⟨v,hv⟩:=aP (Gu p);rw[hv]at d⊢;clear hv;go_enter func120,ntmps120;go_wp2;go_ret;exact⟨rfl,rfl⟩
  ·rw[QY (by omega)];have h1':(T.F.length:Int)<=(i:Int):=by omega
   go_enter func120,ntmps120;go_wp2;go_ret;exact⟨rfl,rfl⟩
theorem Mk{ps:List (Option Nat)}{F:List (jd×Bool)}(hp:uY ps F){f:Int}(h:lG F f=none):uH ps f=none:=by
 have hl:=hp.len;unfold uH;rcases Wo h with h1|h1|⟨i,g,rfl,hg,hi⟩
 ·rw[if_pos h1]
 ·split
  ·rfl
  ·rw[QY (by omega)];rfl
 ·rw[if_neg (by omega),Int.toNat_natCast];obtain⟨p,h2,h3⟩:=hp.at hg;rw[h2];cases p with
  |none=>rfl
  |some x=>simp at h3
theorem Ml{ps:List (Option Nat)}{F:List (jd×Bool)}(hp:uY ps F){f:Int}{g:jd}(h:lG F f=some g):∃(i c:Nat),f=(i:Int)/\F[i]?=some (g,true)/\ps[i]?=some (some c)/\uH ps f=some c/\i<F.length:=by
 obtain⟨i,rfl,hg,hi⟩:=Wn h;obtain⟨p,h2,h3⟩:=hp.at hg;cases p with
 |none=>simp at h3
 |some c=>refine⟨i,c,rfl,hg,h2,?_,hi⟩;unfold uH;rw[if_neg (by omega),Int.toNat_natCast,h2];rfl
end
section
open Go.Shelf
section
variable{W w w':aF}{R:aJ}
theorem jL(s:ByteArray)(hs:s.size<=9223372036854775807)(o:Own w R):
  Calls prog 124 #[.string s] w (aR (.tuple #[.int .i64 (nC 5 s.data.toList:Nat),.bool (fH 5 s.data.toList)]) R w):=by
 have hl:s.data.toList.length=s.size:=(Lib.size_eq s).symm;have fin:∀wr,Own wr R->Calm w wr->fH 5 s.data.toList=false->aR (.tuple #[.int .i64 (nC 5 s.data.toList:Nat),.bool (fH 5 s.data.toList)]) R w (.returned (.tuple #[.int .i64 0,.bool false])) wr:=fun wr o c h=>⟨by rw[Zq h,h];rfl,o,c⟩;have FIN:=az fin;clear fin;by_cases h1:s.size<1
 ·have d1:decide (s.size<1)=true:=decide_eq_true h1;have hn:=az (PK (most:=5) (l:=s.data.toList) (by omega));go_enter func124,ntmps124;go_wp2;go_ret2;exact FIN.out _ o (Calm.refl _) hn.out
 have d1:decide (s.size<1)=false:=decide_eq_false h1;by_cases h2:5<s.size
 ·have d2:decide (5<s.size)=true:=decide_eq_true h2;have hn:=az (Sw (most:=5) (l:=s.data.toList) (by omega));go_enter func124,ntmps124;go_wp2;go_ret2;exact FIN.out _ o (Calm.refl _) hn.out
 have d2:decide (5<s.size)=false:=decide_eq_false h2;have hz0:0<s.size:=by omega
 have g0:=WA s 0 hz0
 by_cases h3:1<s.size/\s[0]'hz0=48
 ·have d3:=h3.1
  have e4:((((s[0]'hz0).toNat:Nat):Int)==48)=true:=by rw[h3.2];rfl
  have e3:(s[0]'hz0).toNat=48:=by rw[h3.2];rfl
  have hn:=az (Sy (most:=5) (l:=s.data.toList) (by omega) (by rw[g0,h3.2]));clear h3 g0;go_enter func124,ntmps124;go_wp2;go_ret2;exact FIN.out _ o (Calm.refl _) hn.out
 have hg:¬(1<s.data.toList.length/\s.data.toList[0]?=some 48):=by rw[hl,g0];intro h;exact h3 ⟨h.1,Option.some.inj h.2⟩
 have hgood:=az (Sz (most:=5) (l:=s.data.toList) (by omega) (by omega) hg);clear hg g0
 have d4:¬1<s.size\/(1<s.size/\((((s[0]'hz0).toNat:Nat):Int)==48)=false):=by
  by_cases h4:1<s.size
  ·exact .inr ⟨h4,beq_eq_false_iff_ne.2 fun e=>h3 ⟨h4,UInt8.toNat_inj.1 (by show _=48;omega)⟩⟩
  ·exact .inl h4
 clear h3;have hT:=Any.strings_Trim_laid Tryz.laysTr (by kernel_rfl) s ⟨#[48,49,50,51,52,53,54,55,56,57]⟩ w hs (by decide) (ascii_of_all (by decide));have ht:(⟨(Lib.trimS s.data.toList (⟨#[48,49,50,51,52,53,54,55,56,57]⟩:ByteArray).data.toList).toArray⟩:ByteArray)=dx (Lib.trimS s.data.toList Su):=rfl;rw[ht]at hT;clear ht;have hem:=Gz (dx (Lib.trimS s.data.toList Su));rw[iW]at hem;have htr:=Sv s.data.toList;generalize dx (Lib.trimS s.data.toList Su)=t at*;have hna:=Any.strconv_Atoi Tryz.laysAt s;by_cases ha:s.data.toList.all pY=true
 ·have hok:=hgood.out ha;have hat:=fun w1=>hna (uK 0 s.data.toList:Nat) (by omega) (Zo ha (by omega)) w1;have HV:=az (show(.tuple #[.int .i64 (nC 5 s.data.toList:Nat),.bool (fH 5 s.data.toList)]:aL)=.tuple #[.int .i64 (uK 0 s.data.toList:Nat),.bool true]by unfold nC;rw[if_pos hok,hok]);rw[decide_eq_true (htr.2 ha)]at hem;generalize uK 0 s.data.toList=v at*;have HAT:=az hat;clear hna hat ha hok htr hgood;rcases d4 with d4|⟨d4,d5⟩
  all_goals
   go_enter func124,ntmps124;go_wp2_with fail;refine hT.mono ?_;rintro e1 w1⟨rfl,hB⟩;have o1:=o.sS hB;go_wp2_with fail;refine(HAT.out w1).mono ?_;rintro e2 w2⟨rfl,q,rfl⟩;have hB2:=Lib.bytesWorld_below w1 (Tryz.laysAt_ren.t 5) q;go_wp2;go_quiet(fail);go_wp2;go_ret2;exact⟨by rw[HV.out];rfl,(o1.sS hB2).drewN _,((Calm.AA hB).trans (Calm.AA hB2)).dn _⟩
 ·have hna:s.data.toList.all pY=false:=by simpa using ha
  have hn:=az (WB (most:=5) hna);rw[decide_eq_false (fun e=>ha (htr.1 e))]at hem;clear hna ha htr hgood;rcases d4 with d4|⟨d4,d5⟩
  all_goals
   go_enter func124,ntmps124;go_wp2_with fail;refine hT.mono ?_;rintro e1 w1⟨rfl,hB⟩;have o1:=o.sS hB;go_wp2;go_ret2;exact FIN.out _ o1 (Calm.AA hB) hn.out
end
end
section
open Go.Shelf
section
variable{W w w':aF}{R:aJ}
def AU(w:aF):Prop:=∃m,w.cell? ⟨Tryz.laysCut_ren.g 1,0,none⟩=some (.int .i64 m)
def y_(l:qR):aL:=.tuple #[((yg l:Nat):Int),((yh l:Nat):Int),.bool (wG l)]
theorem afC(s:ByteArray):(s.toList==[42])=decide (s.data.toList=[42]):=Zp s _
theorem GA(s:ByteArray)(hs:s.size<4294967281)(hm:AU W)(o:Own w (old W::R)):
  Calls prog 125 #[.string s] w (aR (y_ s.data.toList) (old W::R) w):=by
 have hst:=afC s;by_cases h1:s.data.toList=[42]
 ·rw[decide_eq_true h1]at hst;have hv:y_ s.data.toList=.tuple #[.int .i64 0,.int .i64 65535,.bool true]:=by unfold y_ yg yh wG;rw[if_pos h1,if_pos h1,decide_eq_true h1];rfl
  rw[hv];clear hv h1;go_enter func125,ntmps125;go_wp2
  go_ret3
  exact⟨rfl,o,Calm.refl _⟩
 rw[decide_eq_false h1]at hst;obtain⟨m,hm⟩:=hm;have hC:=Any.strings_Cut Tryz.laysCut s ⟨#[45]⟩ m w hs (o.r9 hm);have hlen:(mq s.data.toList).1.length<=s.size/\(mq s.data.toList).2.1.length<=s.size:=by
  have hl:s.data.toList.length=s.size:=(Lib.size_eq s).symm;unfold mq Lib.cut;split
  ·dsimp only;rw[List.length_take,List.length_drop];omega
  ·dsimp only[List.length_nil];omega
 have hC2:Calls prog 178 #[.string s,.string ⟨#[45]⟩] w fun e w'=>e=.returned (.tuple #[.string (dx (mq s.data.toList).1),.string (dx (mq s.data.toList).2.1),.bool (mq s.data.toList).2.2])/\∃n,w'=w.drewN n:=hC;have na:=az fun(w1:aF)(o1:Own w1 (old W::R))=>jL (dx (mq s.data.toList).1) (by rw[fI];omega) o1;have nb:=az fun(w1:aF)(o1:Own w1 (old W::R))=>jL (dx (mq s.data.toList).2.1) (by rw[fI];omega) o1;have hv:y_ s.data.toList=.tuple #[.int .i64 (nC 5 (mq s.data.toList).1:Nat),.int .i64 ((if(mq s.data.toList).2.2 then nC 5 (mq s.data.toList).2.1 else nC 5 (mq s.data.toList).1:Nat):Nat),.bool (fH 5 (mq s.data.toList).1&&(!(mq s.data.toList).2.2||fH 5 (mq s.data.toList).2.1))]:=by unfold y_ yg yh wG;rw[if_neg h1,if_neg h1,decide_eq_false h1];rfl
 rw[hv];simp only[iW]at na nb;generalize dx (mq s.data.toList).1=A at*;generalize dx (mq s.data.toList).2.1=B at*;generalize nC 5 (mq s.data.toList).1=va at*;generalize nC 5 (mq s.data.toList).2.1=vb at*;generalize fH 5 (mq s.data.toList).1=ka at*;generalize fH 5 (mq s.data.toList).2.1=kb at*;generalize (mq s.data.toList).2.2=two at*;clear hC hlen hv h1;cases two with
 |false=>
  go_enter func125,ntmps125;go_wp2_with fail;refine hC2.mono ?_;rintro e1 w1⟨rfl,n,rfl⟩;go_wp2_with fail;refine(na.out _ (o.drewN n)).mono ?_;rintro e2 w2⟨rfl,o2,k2⟩;go_wp2
  go_ret3
  exact⟨by simp,o2,⟨k2.os,k2.tape,k2.output⟩⟩
 |true=>
  go_enter func125,ntmps125;go_wp2_with fail;refine hC2.mono ?_;rintro e1 w1⟨rfl,n,rfl⟩;go_wp2_with fail;refine(na.out _ (o.drewN n)).mono ?_;rintro e2 w2⟨rfl,o2,k2⟩;go_wp2_with fail;refine(nb.out _ o2).mono ?_;rintro e3 w3⟨rfl,o3,k3⟩;cases ka<;>
  ·go_wp2
   go_ret3
   exact⟨by simp,o3,⟨(k2.trans k3).os,(k2.trans k3).tape,(k2.trans k3).output⟩⟩
end
end
section
open Go.Shelf
section
variable{W w w':aF}{R:aJ}
def IA(r:Ru):dw:=[.string (dx r.st),r.cls,r.first,r.last,r.gK]
def ruV(r:Ru):aL:=.agg #[.string (dx r.st),r.cls,r.first,r.last,r.gK]
theorem jm{r:Ru}(h:¬(-1<=r.cls/\r.cls<=7/\0<=r.first/\r.first<=r.last/\r.last<=65535/\0<=r.gK/\r.gK<32)):AR r=false:=by unfold AR;rw[bW h,Bool.and_false]
theorem Zr{r:Ru}(h1:r.st≠[])(h2:dG r.st=false):AR r=false:=by unfold AR;rw[bW h1,h2];rfl
theorem Kk{r:Ru}(h1:r.st=[]\/dG r.st=true)(h:-1<=r.cls/\r.cls<=7/\0<=r.first/\r.first<=r.last/\r.last<=65535/\0<=r.gK/\r.gK<32):AR r=true:=by
 unfold AR;rw[bz h,Bool.and_true];rcases h1 with h1|h1
 ·rw[bz h1];rfl
 ·rw[h1,Bool.or_true]
theorem DJ(s:ByteArray)(hs:s.size<=2000000)(o:Own w R):Calls prog 171 #[.string s] w (aR (.bool (dG s.data.toList)) R w):=
 (uF s (by omega)).mono fun e w'⟨h,pos,hw⟩=>by subst hw;exact⟨h,o.more _,⟨rfl,rfl,rfl⟩⟩
theorem uL(r:Ru)(hs:r.st.length<=2000000)(o:Own w R):Calls prog 127 #[ruV r] w (aR (.bool (AR r)) R w):=by
 obtain⟨st,c,f,l,y⟩:=r;have H1:=az fun(w1:aF)(R1:aJ)(o1:Own w1 R1)=>DJ (dx st) (by rw[fI];exact hs) o1;rw[iW]at H1;have hem:=Gz (dx st);rw[iW]at hem;unfold ruV;dsimp only;have o1:=o.alloc (.cells #[.string (dx st),c,f,l,y] 206);generalize dx st=B at*;by_cases h0:st=[]
 ·rw[bz h0]at hem;by_cases g0:-1<=c;rotate_left
  ·have HV:=az (jm (r:=⟨st,c,f,l,y⟩) fun h=>g0 h.1);have d0:=bW g0;clear g0 h0;go_enter func127,ntmps127;go_wp2;go_ret;exact⟨by rw[HV.out];rfl,o.more _,⟨rfl,rfl,rfl⟩⟩
  by_cases g1:c<=7;rotate_left
  ·have HV:=az (jm (r:=⟨st,c,f,l,y⟩) fun h=>g1 h.2.1);have d0:=bz g0;have d1:=bW g1;clear g0 g1 h0;go_enter func127,ntmps127;go_wp2;go_ret;exact⟨by rw[HV.out];rfl,o.more _,⟨rfl,rfl,rfl⟩⟩
  by_cases g2:0<=f;rotate_left
  ·have HV:=az (jm (r:=⟨st,c,f,l,y⟩) fun h=>g2 h.2.2.1);have d0:=bz g0;have d1:=bz g1;have d2:=bW g2;clear g0 g1 g2 h0;go_enter func127,ntmps127;go_wp2;go_ret;exact⟨by rw[HV.out];rfl,o.more _,⟨rfl,rfl,rfl⟩⟩
  by_cases g3:f<=l;rotate_left
  ·have HV:=az (jm (r:=⟨st,c,f,l,y⟩) fun h=>g3 h.2.2.2.1);have d0:=bz g0;have d1:=bz g1;have d2:=bz g2;have d3:=bW g3;clear g0 g1 g2 g3 h0;go_enter func127,ntmps127;go_wp2;go_ret;exact⟨by rw[HV.out];rfl,o.more _,⟨rfl,rfl,rfl⟩⟩
  by_cases g4:l<=65535;rotate_left
  ·have HV:=az (jm (r:=⟨st,c,f,l,y⟩) fun h=>g4 h.2.2.2.2.1);have d0:=bz g0;have d1:=bz g1;have d2:=bz g2;have d3:=bz g3;have d4:=bW g4;clear g0 g1 g2 g3 g4 h0;go_enter func127,ntmps127;go_wp2;go_ret;exact⟨by rw[HV.out];rfl,o.more _,⟨rfl,rfl,rfl⟩⟩
  by_cases g5:0<=y;rotate_left
  ·have HV:=az (jm (r:=⟨st,c,f,l,y⟩) fun h=>g5 h.2.2.2.2.2.1);have d0:=bz g0;have d1:=bz g1;have d2:=bz g2;have d3:=bz g3;have d4:=bz g4;have d5:=bW g5;clear g0 g1 g2 g3 g4 g5 h0;go_enter func127,ntmps127;go_wp2;go_ret;exact⟨by rw[HV.out];rfl,o.more _,⟨rfl,rfl,rfl⟩⟩
  by_cases g6:y<32;rotate_left
  ·have HV:=az (jm (r:=⟨st,c,f,l,y⟩) fun h=>g6 h.2.2.2.2.2.2);have d0:=bz g0;have d1:=bz g1;have d2:=bz g2;have d3:=bz g3;have d4:=bz g4;have d5:=bz g5;have d6:=bW g6;clear g0 g1 g2 g3 g4 g5 g6 h0;go_enter func127,ntmps127;go_wp2;go_ret;exact⟨by rw[HV.out];rfl,o.more _,⟨rfl,rfl,rfl⟩⟩
  have good:=Kk (r:=⟨st,c,f,l,y⟩) (.inl h0) ⟨g0,g1,g2,g3,g4,g5,g6⟩;have HV:=az good;have d0:=bz g0;have d1:=bz g1;have d2:=bz g2;have d3:=bz g3;have d4:=bz g4;have d5:=bz g5;have d6:=bz g6;clear g0 g1 g2 g3 g4 g5 g6 good h0;go_enter func127,ntmps127;go_wp2;go_ret;exact⟨by rw[HV.out];rfl,o.more _,⟨rfl,rfl,rfl⟩⟩
 rw[bW h0]at hem;cases hnb:dG st with
 |false=>have HV:=az (Zr (r:=⟨st,c,f,l,y⟩) h0 hnb);rw[hnb]at H1;clear hnb h0;go_enter func127,ntmps127;go_wp2_with fail;refine(H1.out _ _ o1).mono ?_;rintro e2 w2⟨rfl,o2,k2⟩;go_wp2;go_ret;exact⟨by rw[HV.out];rfl,o2.drop,k2.al⟩
 |true=>
  rw[hnb]at H1;by_cases g0:-1<=c;rotate_left
  ·have HV:=az (jm (r:=⟨st,c,f,l,y⟩) fun h=>g0 h.1);have d0:=bW g0;clear g0 h0 hnb;go_enter func127,ntmps127;go_wp2_with fail;refine(H1.out _ _ o1).mono ?_;rintro e2 w2⟨rfl,o2,k2⟩;obtain⟨-,-,-,q1,q2,q3,q4,-⟩:=o2.cs;go_wp2;go_ret;exact⟨by rw[HV.out];rfl,o2.drop,k2.al⟩
  by_cases g1:c<=7;rotate_left
  ·have HV:=az (jm (r:=⟨st,c,f,l,y⟩) fun h=>g1 h.2.1);have d0:=bz g0;have d1:=bW g1;clear g0 g1 h0 hnb;go_enter func127,ntmps127;go_wp2_with fail;refine(H1.out _ _ o1).mono ?_;rintro e2 w2⟨rfl,o2,k2⟩;obtain⟨-,-,-,q1,q2,q3,q4,-⟩:=o2.cs;go_wp2;go_ret;exact⟨by rw[HV.out];rfl,o2.drop,k2.al⟩
  by_cases g2:0<=f;rotate_left
  ·have HV:=az (jm (r:=⟨st,c,f,l,y⟩) fun h=>g2 h.2.2.1);have d0:=bz g0;have d1:=bz g1;have d2:=bW g2;clear g0 g1 g2 h0 hnb;go_enter func127,ntmps127;go_wp2_with fail;refine(H1.out _ _ o1).mono ?_;rintro e2 w2⟨rfl,o2,k2⟩;obtain⟨-,-,-,q1,q2,q3,q4,-⟩:=o2.cs;go_wp2;go_ret;exact⟨by rw[HV.out];rfl,o2.drop,k2.al⟩
  by_cases g3:f<=l;rotate_left
  ·have HV:=az (jm (r:=⟨st,c,f,l,y⟩) fun h=>g3 h.2.2.2.1);have d0:=bz g0;have d1:=bz g1;have d2:=bz g2;have d3:=bW g3;clear g0 g1 g2 g3 h0 hnb;go_enter func127,ntmps127;go_wp2_with fail;refine(H1.out _ _ o1).mono ?_;rintro e2 w2⟨rfl,o2,k2⟩;obtain⟨-,-,-,q1,q2,q3,q4,-⟩:=o2.cs;go_wp2;go_ret;exact⟨by rw[HV.out];rfl,o2.drop,k2.al⟩
  by_cases g4:l<=65535;rotate_left
  ·have HV:=az (jm (r:=⟨st,c,f,l,y⟩) fun h=>g4 h.2.2.2.2.1);have d0:=bz g0;have d1:=bz g1;have d2:=bz g2;have d3:=bz g3;have d4:=bW g4;clear g0 g1 g2 g3 g4 h0 hnb;go_enter func127,ntmps127;go_wp2_with fail;refine(H1.out _ _ o1).mono ?_;rintro e2 w2⟨rfl,o2,k2⟩;obtain⟨-,-,-,q1,q2,q3,q4,-⟩:=o2.cs;go_wp2;go_ret;exact⟨by rw[HV.out];rfl,o2.drop,k2.al⟩
  by_cases g5:0<=y;rotate_left
  ·have HV:=az (jm (r:=⟨st,c,f,l,y⟩) fun h=>g5 h.2.2.2.2.2.1);have d0:=bz g0;have d1:=bz g1;have d2:=bz g2;have d3:=bz g3;have d4:=bz g4;have d5:=bW g5;clear g0 g1 g2 g3 g4 g5 h0 hnb;go_enter func127,ntmps127;go_wp2_with fail;refine(H1.out _ _ o1).mono ?_;rintro e2 w2⟨rfl,o2,k2⟩;obtain⟨-,-,-,q1,q2,q3,q4,-⟩:=o2.cs;go_wp2;go_ret;exact⟨by rw[HV.out];rfl,o2.drop,k2.al⟩
  by_cases g6:y<32;rotate_left
  ·have HV:=az (jm (r:=⟨st,c,f,l,y⟩) fun h=>g6 h.2.2.2.2.2.2);have d0:=bz g0;have d1:=bz g1;have d2:=bz g2;have d3:=bz g3;have d4:=bz g4;have d5:=bz g5;have d6:=bW g6;clear g0 g1 g2 g3 g4 g5 g6 h0 hnb;go_enter func127,ntmps127;go_wp2_with fail;refine(H1.out _ _ o1).mono ?_;rintro e2 w2⟨rfl,o2,k2⟩;obtain⟨-,-,-,q1,q2,q3,q4,-⟩:=o2.cs;go_wp2;go_ret;exact⟨by rw[HV.out];rfl,o2.drop,k2.al⟩
  have good:=Kk (r:=⟨st,c,f,l,y⟩) (.inr hnb) ⟨g0,g1,g2,g3,g4,g5,g6⟩;have HV:=az good;have d0:=bz g0;have d1:=bz g1;have d2:=bz g2;have d3:=bz g3;have d4:=bz g4;have d5:=bz g5;have d6:=bz g6;clear g0 g1 g2 g3 g4 g5 g6 good h0 hnb;go_enter func127,ntmps127;go_wp2_with fail;refine(H1.out _ _ o1).mono ?_;rintro e2 w2⟨rfl,o2,k2⟩;obtain⟨-,-,-,q1,q2,q3,q4,-⟩:=o2.cs;go_wp2;go_ret;exact⟨by rw[HV.out];rfl,o2.drop,k2.al⟩
end
end
section
variable{W w w':aF}{R:aJ}{b:Nat}{T:yV}
theorem Kn(mb:Nat){m:List (ByteArray×Int)}(o:Own w (Kb (Value.int .i64) mb m::R))(k:ByteArray):
  (Instr.lookup 99 (.map (some mb)) (.string k) true).run prog w=.ok (.tuple #[((qV m k).getD 0:Int),.bool (qV m k).isSome]) w:=by
 rw[Gq underlying99 underlying9 zeroValue3 o k true];cases qV m k<;>rfl
def Zu(x:Option Int):aL:=.tuple #[(x.getD 0:Int),.bool x.isSome]
theorem find_spec(n:ByteArray)(hT:T.Ok)(hs:n.size<=2000000)(hW:kF W)(o:Own w (dM b T::old W::R)):
  Calls prog 64 #[b,.string n] w (aR (Zu (AO T.S n)) (dM b T::old W::R) w):=by
 have hf:=AB n hs hW o.swap;unfold AO;by_cases hn:dG n.data.toList=true
 ·have e1:x9 n=0:=by unfold x9;rw[if_pos hn]
  rw[e1]at hf;rw[if_pos hn,<-yX T.S hT.snm n hn];clear hn e1;generalize nW n=fs at hf⊢;go_enter func64,ntmps64;go_wp2_with fail;refine hf.mono ?_;rintro e2 w2⟨rfl,o2,k2⟩;clear hf;obtain⟨sa,sc,mb,fa,fc,ps,hp,o3⟩:=dM.iff.1 o2.swap;have c3:=o3.cell 3;have hlk:=Kn mb (o3.up 2) fs;go_wp2;go_ret2;exact⟨rfl,o2.swap,k2⟩
 ·have e1:x9 n=1:=by unfold x9;rw[if_neg hn]
  rw[e1]at hf;rw[if_neg hn];clear hn e1;generalize nW n=fs at hf;go_enter func64,ntmps64;go_wp2_with fail;refine hf.mono ?_;rintro e2 w2⟨rfl,o2,k2⟩;clear hf;go_wp2;go_ret2;exact⟨rfl,o2.swap,k2⟩
theorem Tryz.staT:bS prog 100 269 4 40:=bS.mk' underlying100 (z:=.agg #[aC,.string ⟨#[]⟩,aC,aC]) (by kernel_rfl) (by kernel_rfl) (by omega)
theorem Tryz.ptrT:bS prog 101 201 1 8:=bS.mk' underlying101 (z:=.pointer none) (by kernel_rfl) (by kernel_rfl) (by omega)
theorem Tryz.floT:bS prog 164 167 7 56:=bS.mk' underlying164 (z:=.agg #[aC,aC,aC,aC,aC,aC,aC]) (by kernel_rfl) (by kernel_rfl) (by omega)
def ahj(b:Nat)(T':yV)(id er:Int)(W:aF)(R:aJ)(w:aF)(e:Ending)(w':aF):Prop:=
 aR (.tuple #[id,er]) (dM b T'::old W::R) w e w'
theorem Ep(n:ByteArray)(x r:Int)(hT:T.Ok)(hs:n.size<=2000000)(hW:kF W)(o:Own w (dM b T::old W::R)):
  Calls prog 71 #[b,.string n,x,r] w (ahj b (staT T n x r) (pF T n x r) (ig T n x r) W R w):=by
 have hf:=AB n hs hW o.swap;have hsl:=hT.sl;by_cases hn:dG n.data.toList=true
 ·have e1:x9 n=0:=by unfold x9;rw[if_pos hn]
  have hfind:AO T.S n=qV (sU T.S) (nW n):=by unfold AO;rw[if_pos hn,<-yX T.S hT.snm n hn]
  rw[e1]at hf;clear e1;have hwt:=iw (w:=w) x;by_cases hbad:I9 x\/r<0\/T.bQ<=r
  ·have hE:ig T n x r=1:=by unfold ig;rw[if_pos (.inr hbad)]
   have e2:pF T n x r=0:=by unfold pF;rw[hE];rfl
   have e3:staT T n x r=T:=by unfold staT;rw[hE];rfl
   rw[hE,e2,e3];clear hE e2 e3 hfind hn;have HB:=az hbad;clear hbad hwt;generalize nW n=fs at hf;go_enter func71,ntmps71;go_wp2_with fail;refine hf.mono ?_;rintro e2 w2⟨rfl,o2,k2⟩;clear hf;obtain⟨sa,sc,mb,fa,fc,ps,hp,o3⟩:=dM.iff.1 o2.swap;obtain⟨-,-,-,c1,-,c3,-⟩:=o3.cs;have hlk:=Kn mb (o3.up 2) fs;have hwt:=iw (w:=w2) x;by_cases h1:1<=x/\x<=16
   ·rw[bz h1]at hwt;have HB2:=az (show r<0\/T.bQ<=r by have:=HB.out;unfold I9 at this;omega);go_wp2_with fail;refine hwt.mono ?_;rintro e4 w4⟨rfl,rfl⟩;go_wp2;all_goals first
     |(go_ret2;exact⟨rfl,o2.swap,k2⟩)
     |(exfalso;have:=HB2.out;omega)
   ·rw[bW h1]at hwt;clear h1;go_wp2_with fail;refine hwt.mono ?_;rintro e4 w4⟨rfl,rfl⟩;go_wp2;all_goals go_ret2
    all_goals exact⟨rfl,o2.swap,k2⟩
  ·have hg:1<=x/\x<=16:=by unfold I9 at hbad;omega
   have hno:¬(dG n.data.toList=false\/I9 x\/r<0\/T.bQ<=r):=by
    rintro(h|h)
    ·rw[hn]at h;cases h
    ·exact hbad h
   have r1:=bW (show¬(r<0)by omega);have r2:=bW (show¬(T.bQ<=r)by omega);cases hgt:AO T.S n with
   |some id0=>
    have hE:ig T n x r=7:=by unfold ig;rw[if_neg hno,hgt];rfl
    have e2:pF T n x r=0:=by unfold pF;rw[hE];rfl
    have e3:staT T n x r=T:=by unfold staT;rw[hE];rfl
    rw[hE,e2,e3];rw[hfind]at hgt;clear hE e2 e3 hfind hn hno hbad hwt;generalize nW n=fs at hf hgt;go_enter func71,ntmps71;go_wp2_with fail;refine hf.mono ?_;rintro e2 w2⟨rfl,o2,k2⟩;clear hf;obtain⟨sa,sc,mb,fa,fc,ps,hp,o3⟩:=dM.iff.1 o2.swap;obtain⟨-,-,-,c1,-,c3,-⟩:=o3.cs;have hlk:=Kn mb (o3.up 2) fs;rw[hgt]at hlk;clear hgt;have hwt:=iw (w:=w2) x;rw[bz hg]at hwt;go_wp2_with fail;refine hwt.mono ?_;rintro e4 w4⟨rfl,rfl⟩;go_wp2;go_ret2;exact⟨rfl,o2.swap,k2⟩
   |none=>
    by_cases h16:T.S.length=16
    ·have hE:ig T n x r=4:=by unfold ig;rw[if_neg hno,hgt];simp[h16]
     have e2:pF T n x r=0:=by unfold pF;rw[hE];rfl
     have e3:staT T n x r=T:=by unfold staT;rw[hE];rfl
     rw[hE,e2,e3];rw[hfind]at hgt;clear hE e2 e3 hfind hn hno hbad hwt;generalize nW n=fs at hf hgt;go_enter func71,ntmps71;go_wp2_with fail;refine hf.mono ?_;rintro e2 w2⟨rfl,o2,k2⟩;clear hf;obtain⟨sa,sc,mb,fa,fc,ps,hp,o3⟩:=dM.iff.1 o2.swap;obtain⟨-,-,-,c1,c2,c3,-⟩:=o3.cs;have hlk:=Kn mb (o3.up 2) fs;rw[hgt]at hlk;clear hgt;rw[h16]at c2;clear h16;have hwt:=iw (w:=w2) x;rw[bz hg]at hwt;go_wp2_with fail;refine hwt.mono ?_;rintro e4 w4⟨rfl,rfl⟩;go_wp2;go_ret2;exact⟨rfl,o2.swap,k2⟩
    ·have hE:ig T n x r=0:=by unfold ig;rw[if_neg hno,hgt];simp[h16]
     have e2:pF T n x r=T.S.length:=by unfold pF;rw[hE];rfl
     have e3:staT T n x r={T with S:=T.S++[⟨T.S.length,n,x,r⟩]}:=by unfold staT;rw[hE];rfl
     rw[hE,e2,e3];rw[hfind]at hgt;have hput:=Ke (sU T.S) (nW n) (T.S.length:Int) hgt;have hnm:sU (T.S++[⟨T.S.length,n,x,r⟩])=sU T.S++[(nW n,(T.S.length:Int))]:=by unfold sU;rw[tJ];rfl
     rw[<-hnm]at hput;have afH:=az hput;clear hE e2 e3 hfind hn hno hbad hwt hnm hput;generalize nW n=fs at hf hgt afH;have hle:((T.S.length:Int)==16)=false:=by rw[Ec];omega
     go_enter func71,ntmps71;go_wp2_with fail;refine hf.mono ?_;rintro e2 w2⟨rfl,o2,k2⟩;clear hf;obtain⟨sa,sc,mb,fa,fc,ps,hp,o3⟩:=dM.iff.1 o2.swap;obtain⟨-,-,-,c1,c2,c3,-⟩:=o3.cs;have hlk:=Kn mb (o3.up 2) fs;rw[hgt]at hlk;clear hgt;have hwt:=iw (w:=w2) x;rw[bz hg]at hwt;go_wp2_with fail;refine hwt.mono ?_;rintro e4 w4⟨rfl,rfl⟩;go_wp2_with(at_mapUpdate;refine wE rfl _ _ _ rfl underlying99 underlying9 (o3.up 2) fs (T.S.length:Int) rfl rfl rfl ?c1);case c1=>
      intro w5 o5 k5;rw[afH.out]at o5;have d2:=(o5.up 1).cell 2;have hsz:=o3.aS;have oN:=((o5.up 2).alloc (.cells #[(T.S.length:Int),.string n,x,r] 269)).up 1;go_wp2_with(at_builtin;refine aU rfl _ _ rfl Tryz.staT rfl oN ⟨w5.heap.size,0,none⟩ 1 1 [(T.S.length:Int),.string n,x,r] rfl rfl ?d1 ?d2 ?d3 ?d4 ?d5);case d1=>exact Own.news (T:=269) (o5.alloc _)
      case d2=>intro u hu;simp at hu;rcases hu with rfl|rfl|rfl|rfl<;>rfl
      case d3=>unfold maxLen;omega
      case d4=>omega
      case d5=>
       intro a' c' w6 o6 k6;have q:=o6.up 3;obtain⟨qf,ql,-,-,q2,-⟩:=q.cs;have oS:=q.setCell 2 (.slice a' (T.S.length+1) c');go_wp2;go_ret2;have e3:flat qW T.S++[.int .i64 (T.S.length:Int),.string n,.int .i64 x,.int .i64 r]=flat qW (T.S++[⟨T.S.length,n,x,r⟩]):=by rw[aO];rfl
       rw[e3]at oS;refine⟨rfl,dM.iff.2 ⟨a',c',mb,fa,fc,ps,hp,?_⟩,⟨k6.os.trans (k5.os.trans k2.os),k6.tape.trans (k5.tape.trans k2.tape),k6.output.trans (k5.output.trans k2.output)⟩⟩;rw[show({T with S:=T.S++[⟨T.S.length,n,x,r⟩]}:yV).S.length=T.S.length+1 from by simp];exact oS.re [2,0,1,3,4,5] 1
 ·have e1:x9 n=1:=by unfold x9;rw[if_neg hn]
  rw[e1]at hf;have hE:ig T n x r=1:=by unfold ig;rw[if_pos (.inl (by simpa using hn))]
  have e2:pF T n x r=0:=by unfold pF;rw[hE];rfl
  have e3:staT T n x r=T:=by unfold staT;rw[hE];rfl
  rw[hE,e2,e3];clear hE e2 e3 hn e1;generalize nW n=fs at hf;go_enter func71,ntmps71;go_wp2_with fail;refine hf.mono ?_;rintro e2 w2⟨rfl,o2,k2⟩;clear hf;obtain⟨sa,sc,mb,fa,fc,ps,hp,o3⟩:=dM.iff.1 o2.swap;have c3:=o3.cell 3;have hlk:=Kn mb (o3.up 2) fs;go_wp2;go_ret2;exact⟨rfl,o2.swap,k2⟩
theorem nY{s x er:Int}(h:iq T s x=er)(hne:er≠0):Gt T s x=0/\floT T s x=T:=by unfold Gt floT;rw[h,if_neg hne,if_neg hne];exact⟨rfl,rfl⟩
theorem MI(s x:Int)(hT:T.Ok)(o:Own w (dM b T::R)):
  Calls prog 45 #[b,s,x] w (aR (.tuple #[(Gt T s x:Int),(iq T s x:Int)]) (dM b (floT T s x)::R) w):=by
 have hsl:=hT.sl;have hfl:=hT.fl;have htr:=Gs T.F hT.fwt;have hcap:=hT.cap;obtain⟨sa,sc,mb,fa,fc,ps,hp,o1⟩:=dM.iff.1 o;have hpl:=hp.len;obtain⟨-,-,c0,-,c2,-,c4,c5,-⟩:=o1.cs;have hwt:=iw (w:=w) x;by_cases h1:s<0\/(T.S.length:Int)<=s
 ·have hE:iq T s x=6:=by unfold iq;rw[if_pos h1]
  obtain⟨e2,e3⟩:=nY hE (by omega);rw[hE,e2,e3];clear hE e2 e3 hwt;rcases h1 with h1|h1
  ·go_enter func45,ntmps45;go_wp2;go_ret2;exact⟨rfl,o,Calm.refl w⟩
  ·have h2:¬s<0:=by omega
   go_enter func45,ntmps45;go_wp2;go_ret2;exact⟨rfl,o,Calm.refl w⟩
 have g1:=bW (show¬(s<0)by omega);have g2:=bW (show¬((T.S.length:Int)<=s)by omega);by_cases h2:I9 x
 ·have hE:iq T s x=1:=by unfold iq;rw[if_neg h1,if_pos h2]
  obtain⟨e2,e3⟩:=nY hE (by omega);rw[hE,e2,e3];rw[bW (by unfold I9 at h2;exact h2)]at hwt;clear hE e2 e3 h1 h2;go_enter func45,ntmps45;go_wp2_with fail;refine hwt.mono ?_;rintro e4 w4⟨rfl,rfl⟩;go_wp2;go_ret2;exact⟨rfl,o,Calm.refl w⟩
 have hx:1<=x/\x<=16:=by unfold I9 at h2;omega
 rw[bz hx]at hwt;by_cases h3:T.F.length=32
 ·have hE:iq T s x=4:=by unfold iq;rw[if_neg h1,if_neg h2,if_pos h3]
  obtain⟨e2,e3⟩:=nY hE (by omega);rw[hE,e2,e3];rw[h3]at c4;clear hE e2 e3 h1 h2 h3;go_enter func45,ntmps45;go_wp2_with fail;refine hwt.mono ?_;rintro e4 w4⟨rfl,rfl⟩;go_wp2;go_ret2;exact⟨rfl,o,Calm.refl w⟩
 have g3:((T.F.length:Int)==32)=false:=by rw[Ec];omega
 have hwr:IntKind.i64.wrap (ny T.F+x)=ny T.F+x:=by rw[gB];omega
 by_cases h4:T.cap<ny T.F+x
 ·have hE:iq T s x=12:=by unfold iq;rw[if_neg h1,if_neg h2,if_neg h3,if_pos h4]
  obtain⟨e2,e3⟩:=nY hE (by omega);rw[hE,e2,e3];have g4:decide (T.cap<ny T.F+x)=true:=bz h4;clear hE e2 e3 h1 h2 h3 h4;go_enter func45,ntmps45;go_wp2_with fail;refine hwt.mono ?_;rintro e4 w4⟨rfl,rfl⟩;go_wp2;go_quiet(fail);go_wp2;go_ret2;exact⟨rfl,o.drewN _,⟨rfl,rfl,rfl⟩⟩
 have g4:decide (T.cap<ny T.F+x)=false:=bW h4;have hE:iq T s x=0:=by unfold iq;rw[if_neg h1,if_neg h2,if_neg h3,if_neg h4]
 have e2:Gt T s x=T.F.length:=by unfold Gt;rw[hE];rfl
 have e3:floT T s x={T with F:=T.F++[(newF T s x,true)]}:=by unfold floT;rw[hE];rfl
 rw[hE,e2,e3];have HF:=az (show jv (newF T s x)=[.int .i64 (T.F.length:Int),.int .i64 s,.int .i64 x,.int .i64 64,.int .i64 262144,.int .i64 1099511627776,.int .i64 1099511627776]from rfl);clear hE e2 e3 h1 h2 h3 h4;obtain⟨hfr,hbw,-⟩:=o1.cs;go_enter func45,ntmps45;go_wp2_with fail;refine hwt.mono ?_;rintro e4 w4⟨rfl,rfl⟩;go_wp2;go_quiet(fail)
 have oA0:=(((o1.drewN nq).alloc (.cells #[(T.F.length:Int),s,x,(64:Int),(262144:Int),(1099511627776:Int),(1099511627776:Int)] 167)).alloc
  (.cells #[w.heap.size] 201))
 have hsz:((w.drewN nq).alloc (.cells #[(T.F.length:Int),s,x,(64:Int),(262144:Int),(1099511627776:Int),(1099511627776:Int)] 167)).heap.size=w.heap.size+1:=by simp
 rw[hsz]at oA0;clear hsz;have oA:=oA0.up 5;go_wp2_with(at_builtin;refine aU rfl _ _ rfl Tryz.ptrT rfl oA ⟨w.heap.size+1,0,none⟩ 1 1 [w.heap.size] rfl rfl ?d1 ?d2 ?d3 ?d4 ?d5);case d1=>exact Own.news (T:=201) oA0
 case d2=>intro u hu;simp at hu;rcases hu with rfl;rfl
 case d3=>unfold maxLen;omega
 case d4=>omega
 case d5=>
  intro a' c' w6 o6 k6;have q:=o6.up 3;obtain⟨qf,ql,-,-,-,-,q4,q5,-⟩:=q.cs;have oS:=(q.setCell 4 (.slice a' (T.F.length+1) c'));have p5:=oS.cell 5;have Nw:=oS.setCell 5 (ny T.F+x:Int);go_wp2;go_ret2;have oE:Own _ (aH w.heap.size 167 (jv (newF T s x))::SP.st (uG ps T.F)::_):=Nw.re [3,6,0,4,5,1,2];have oF:=oE.BB;rw[<-wF hpl (f:=newF T s x) (c:=true)]at oF;refine⟨rfl,dM.iff.2 ⟨sa,sc,mb,a',c',ps++[some w.heap.size],?_,?_⟩,⟨k6.os,k6.tape,k6.output⟩⟩
  ·unfold uY at hp⊢;rw[tJ,tJ,hp];rfl
  ·have e4:ny (T.F++[(newF T s x,true)])=ny T.F+x:=by rw[Pq];simp[ny,newF]
   rw[show({T with F:=T.F++[(newF T s x,true)]}:yV).F=T.F++[(newF T s x,true)]from rfl,e4,jf,tJ];exact oF.re [5,1,2,3,4,0] 1
theorem abq{f:Int}{sa fa:aY}{sc mb fc:Nat}{ps:List (Option Nat)}(hp:uY ps T.F)(hl:T.F.length<=32)(hg:lG T.F f=none)
  (o:Own w (aH b 103 [T.cap,T.bQ,.slice sa T.S.length sc,.map (some mb),.slice fa T.F.length fc,(ny T.F:Int)]::
   slc 269 4 sa T.S.length sc (flat qW T.S)::Kb (Value.int .i64) mb (sU T.S)::slc 201 1 fa T.F.length fc (ps.map Gu)::st (uG ps T.F)::R)):
  Calls prog 120 #[b,f] w (bN (.pointer none) w):=by
 have h:=Pv f hp hl o;rw[Mk hp hg]at h;exact h
theorem Zv{i c:Nat}{sa fa:aY}{sc mb fc:Nat}{ps:List (Option Nat)}(hp:uY ps T.F)(hl:T.F.length<=32)(hfp:uH ps i=some c)
  (o:Own w (aH b 103 [T.cap,T.bQ,.slice sa T.S.length sc,.map (some mb),.slice fa T.F.length fc,(ny T.F:Int)]::
   slc 269 4 sa T.S.length sc (flat qW T.S)::Kb (Value.int .i64) mb (sU T.S)::slc 201 1 fa T.F.length fc (ps.map Gu)::st (uG ps T.F)::R)):
  Calls prog 120 #[b,(i:Int)] w (bN (.pointer (some ⟨c,0,none⟩)) w):=by
 have h:=Pv (i:Int) hp hl o;rw[hfp]at h;exact h
end
section
open Go.Shelf
section
variable{W w w':aF}{R:aJ}
def Words(L:List (qR))(R:aJ)(w:aF)(e:Ending)(w':aF):Prop:=
 ∃a c,e=.returned (.slice a L.length c)/\Own w' (slc 9 1 a L.length c (strs L)::R)/\Calm w w'
theorem zw(s:ByteArray)(hs:s.size<4294967281)(hm:AU W)(o:Own w (old W::R))(R2:aJ)(o2:Own w R2):Calls prog 123 #[.string s,.string ⟨#[32]⟩] w (Words (yc 32 s.data.toList) R2 w):=by
 obtain⟨m,hm⟩:=hm;have hC:=Any.strings_Split Tryz.laysSp (by kernel_rfl) s ⟨#[32]⟩ m w hs (o.r9 hm) (by decide);have hlen:Lib.countB s ⟨#[32]⟩+1=(yc 32 s.data.toList).length:=by rw[yZ];exact congrArg (·+1) (Lib.count_one 32 s.data.toList)
 rw[WC,hlen]at hC;have hcnt:=List.count_le_length (a:=(32:UInt8)) (l:=s.data.toList);have hl:s.data.toList.length=s.size:=(Lib.size_eq s).symm;have hn:(yc 32 s.data.toList).length<=4294967282:=by rw[yZ];omega
 refine Calls.mono (show Calls prog 123 #[.string s,.string ⟨#[32]⟩] w _ from hC) ?_;rintro e w'⟨rfl,rfl⟩;refine⟨_,_,rfl,Own.slc.2 (.inr ⟨w.heap.size,[],rfl,Nat.le_refl _,by unfold maxLen;omega,by rw[PI,Nat.mul_one],by simp,?_⟩),⟨rfl,rfl,rfl⟩⟩;rw[List.append_nil];exact o2.alloc _
theorem D7(d:qR):Calls prog 126 #[.string (dx d),.string ⟨#[62]⟩] w (bN (.tuple #[.string (if d.head?=some 62 then dx d.tail else dx d),.bool (decide (d.head?=some 62))]) w):=by
 refine Calls.mono (show Calls prog 126 #[.string (dx d),.string ⟨#[62]⟩] w _ from Any.strings_CutPrefix Tryz.laysCP (dx d) ⟨#[62]⟩ w) ?_;rintro e w'⟨rfl,rfl⟩;refine⟨?_,rfl⟩;rw[iW,show(⟨#[62]⟩:ByteArray).data.toList=[62]from rfl];unfold Lib.trimPrefix Lib.hasPrefix;cases d with
 |nil=>rfl
 |cons b r=>
  by_cases hb:b=62
  ·subst hb;rfl
  ·have h1:([62]:qR).isPrefixOf (b::r)=false:=by simp[List.isPrefixOf,Ne.symm hb]
   have h2:¬(b::r).head?=some 62:=by simpa using hb
   rw[h1,bW h2,if_neg h2];rfl
end
end
theorem zD{H:Type}{enc:TypeId×aL->H}{C:Checked}{os:Os}{f:FuncId}{fn:Func}{s:OpenSpec}{conds:List PathCond}{apart:Bool}{laid:List (String×DataW Unit)}(modest:Bool)(w0:aF)(args:Array aL)(hos:w0.os=os)
  (hsh:(w0.forCall (fun _ _=>0) ⟨#[],args,[]⟩).Shaped C.prog)
  (hok:Input.okWideB C.prog (w0.forCall (fun _ _=>0) ⟨#[],args,[]⟩) f ⟨#[],args,[]⟩=true)
  (hrow:s.preRow enc C.prog fn conds apart laid (w0.forCall (fun _ _=>0) ⟨#[],args,[]⟩).memory args):
  ∃(w:aF)(tape:Tape)(i:Input),w.os=os/\(w.forCall tape i).Shaped C.prog/\i.vars=[]/\Input.okWide C.prog (w.forCall tape i) .any w.heap.size f i/\
   s.preRow enc C.prog fn conds apart laid (w.forCall tape i).memory i.args/\({modest:=modest}:Assume).holds C.prog (lone (Frame.enter C.prog f i.args .normal) [] (w.forCall tape i)):=
 ⟨w0,fun _ _=>0,⟨#[],args,[]⟩,hos,hsh,(Input.okWide_of_okWideB (base:=0) hok).1,(Input.okWide_of_okWideB hok).2,hrow,by
  simp only[Assume.holds]
  exact⟨by simp,by simp,fun _=>Modest.zero,by simp,by simp⟩⟩
theorem aaQ{α:Type}{o:Option α}(h:o.isSome=true):o=some (o.get h):=by simp
theorem Iy{W:aF}(h:W.ShapedOpen prog):AU W:=
 cell_of_shapedOpen_int (t:=3) (zero:=#[aC]) h (of_decide_eq_true (by kernel_rfl)) (by kernel_rfl) rfl (by kernel_rfl) (by kernel_rfl) underlying3
end Go.Proofs.YtfejhikpfhgbeaaGreatDoor
