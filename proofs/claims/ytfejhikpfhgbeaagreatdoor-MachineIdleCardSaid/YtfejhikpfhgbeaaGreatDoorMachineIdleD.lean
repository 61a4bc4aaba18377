import Derived.Test.YtfejhikpfhgbeaaGreatDoorMachineIdleB
import Derived.Test.YtfejhikpfhgbeaaGreatDoorMachineIdleC
set_option maxHeartbeats 25600000
set_option maxRecDepth 100000
set_option linter.all false
namespace Go.Proofs.YtfejhikpfhgbeaaGreatDoor
open Go.Proofs.Tryz
open Go.RowKit
open SP
section
variable{w w':aF}{R:aJ}{b:Nat}{s:sH}
theorem sI{e:TypeId}{size:Nat}{a:aY}{n c:Nat}{xs:dw}(h1:∀u∈xs,u.oneCell'=true)(o:Own w (slc e size a n c xs::R)):qX w (.slice a n c) size n xs:=by
 have hl:=o.fA.1;refine⟨a,c,rfl,hl,h1,?_⟩;rcases Own.slc.1 o with⟨_,h,_⟩|⟨g,sp,rfl,_,_,_,_,o1⟩
 ·exact .inl h
 ·refine .inr ⟨_,rfl,fun j u hu=>?_⟩;have hadd:(⟨g,0,none⟩:Addr).add j=⟨g,j,none⟩:=by unfold Addr.add;split<;>simp_all
  rw[hadd];exact Own.cell o1 j (by rw[List.getElem?_append_left (eU.1 hu).1];exact hu)
theorem IJ{a:aY}{n c:Nat}{L:List lX}(hn:n<=1000)(o:Own w (slc 258 3 a n c (flat b_ L)::R)):
  Calls prog 180 #[.slice a n c] w fun e w'=>∃a' c',aR (.slice a' n c') (slc 258 3 a' n c' (flat b_ L)::slc 258 3 a n c (flat b_ L)::R) w e w':=by
 have hnil:=fun(w:aF)(a:aY)(n c:Nat)=>Lib.run_eql_slice_nil w 255 258 a n c 0 0 underlying255;rcases Own.slc.1 o with⟨rfl,rfl,rfl,hS,o1⟩|⟨g,sp,rfl,h1,h2,h3,h4,o1⟩
 ·have o2:=Own.bH (e:=258) (size:=3) o;rw[<-hS]at o2;clear hS;go_enter func180,ntmps180;go_wp2;go_ret;exact⟨none,0,rfl,o2,Calm.refl w⟩
 ·clear o1 h1 h2 h3 h4 sp;have oZ:=sG (e:=258) (size:=3) (o.alloc (.cells #[] 258));have hsrc:=sI (Ob L) (oZ.up 1);go_enter func180,ntmps180;go_wp2_with(at_builtin;refine aQ rfl _ _ rfl Tryz.pndT rfl oZ rfl hsrc (by unfold maxLen;omega) (by omega) ?k1);case k1=>intro a' c' w6 o6 k6;go_wp2;go_ret;exact⟨a',c',rfl,o6,k6.al⟩
theorem kN(hs:s.Ok)(o:Own w (dP b s::R)):
  Calls prog 131 #[b] w fun e w'=>∃a' c',aR (.slice a' s.P.length c') (slc 258 3 a' s.P.length c' (flat b_ s.P)::dP b s::R) w e w':=by
 have hl:=hs.len;obtain⟨a,c,o1⟩:=dP.iff.1 o;have c3:=o1.cell 3;have hcl:=IJ (n:=s.P.length) (by omega) (o1.up 1);clear hs;go_enter func131,ntmps131;go_wp2_with fail;refine hcl.mono ?_;rintro e1 w1⟨a',c',rfl,o2,k2⟩;go_wp2;go_ret;exact⟨a',c',rfl,(Own.swap (dP.iff.2 ⟨a,c,o2.re [2,1,0]⟩)),k2⟩
def Yl(s:sH)(i:Nat):sH:=⟨s.win,s.tries,s.next,s.P.eraseIdx i⟩
theorem Re{q:Int}{i:Nat}{p:lX}(hs:s.Ok)(hi:BF s.P q=(i:Int))(hp:s.P[i]?=some p)(o:Own w (dP b s::R)):
  Calls prog 167 #[b,q] w (aR (.tuple #[p.id,aC]) (dP b (Yl s i)::R) w):=by
 have hF:=zO (q:=q) hs o;rw[hi]at hF;have hl:=hs.len;have hil:=(eU.1 hp).1;obtain⟨n,hn⟩:=aP s.P.length;rw[hn]at hil hl;have hD:=fun(w:aF)(a:aY)(c:Nat)(R:aJ)(o:Own w (slc 258 3 a n c (flat b_ s.P)::R))=>Oe hn.symm hil (by omega) o;have HN:=az hn;have HP:=az hp;have hw:IntKind.i64.wrap ((i:Int)+1)=(i:Int)+1:=by rw[gB];omega
 clear hi hs hn hp;go_enter func167,ntmps167;go_wp2_with fail;refine hF.mono ?_;rintro e1 w1⟨rfl,o2,k2⟩;obtain⟨a,c,o3⟩:=dP.iff.1 o2;rw[HN.out]at o3;have c3:=o3.cell 3;obtain⟨g,rfl,hc,hfz,hgl⟩:=(o3.up 1).aG (by omega);have d1:=hc (i*3+1) p.id (by rw[aB bu s.P i 1 p HP.out (by omega)];rfl);clear hc;go_wp2_with fail;refine(hD _ _ c _ (o3.up 1)).mono ?_;rintro e3 w3⟨rfl,o4,k4⟩;clear hD hF c3 d1 hfz hgl;obtain⟨cf,cl,-,-,-,c3,-⟩:=(o4.up 1).cs;have o5:=(o4.up 1).setCell 3 (.slice (some ⟨g,0,none⟩) (n-1) c);go_wp2;go_ret2;refine⟨rfl,dP.iff.2 ⟨some ⟨g,0,none⟩,c,?_⟩,ay (k2.trans k4)⟩;unfold Yl;dsimp only;rw[List.length_eraseIdx,HN.out,if_pos hil];exact o5
theorem Tryz.intTk:bS prog 22 3 1 8:=bS.mk' (z:=.int .i64 0) underlying22 (by kernel_rfl) rfl (by decide)
def yG(B:Int)(U:Nat)(p:lX):Bool:=f_ p.seq B||hasB B U p.seq
def adA(p:lX):aL:=.int .i64 p.id
def Vx(s:sH)(B:Int)(U:Nat):sH:=⟨s.win,s.tries,s.next,s.P.filter fun p=>!yG B U p⟩
def IK(s:sH)(B:Int)(U:Nat):bq:=(s.P.filter (yG B U)).map (·.id)
theorem Ym(L:bq):∀u∈L.map (Value.int .i64),u.oneCell'=true:=by intro u hu;obtain⟨x,_,rfl⟩:=gW.1 hu;rfl
def aeW(s:sH)(B:Int)(U:Nat)(b m:Nat)(g:aY)(cg:Nat)(R:aJ)(w:aF)(v5 v6 v37:aL)(wr:aF):Prop:=
 ∃(i:Nat)(a1:aY)(n1 c1:Nat)(a2:aY)(n2 c2:Nat),v37=↑(i:Int)/\i<=s.P.length/\v5=.slice a1 n1 c1/\v6=.slice a2 n2 c2/\
  n1=((s.P.take i).filter (yG B U)).length/\n2=((s.P.take i).filter fun p=>!yG B U p).length/\n1+n2=i/\
  Own wr (slc 3 1 a1 n1 c1 (((s.P.take i).filter (yG B U)).map adA)::slc 258 3 a2 n2 c2 (flat b_ ((s.P.take i).filter fun p=>!yG B U p))::
   aH m 253 [B,.int .u64 (U:Int)]::aH b 271 [s.win,s.tries,s.next,.slice g s.P.length cg]::slc 258 3 g s.P.length cg (flat b_ s.P)::R)/\Calm w wr
theorem Vy{B:Int}{U:Nat}(hs:s.Ok)(hB:fK B)(hU:U<18446744073709551616)(h1:ow s B<32768)(h2:ow s B<=ow s s.next)(o:Own w (dP b s::R)):
  Calls prog 109 #[b,Q8 B U] w fun e w'=>∃a c,aR (.slice a (IK s B U).length c) (slc 3 1 a (IK s B U).length c ((IK s B U).map (Value.int .i64))::dP b (Vx s B U)::R) w e w':=by
 have oA:Own _ (aH w.heap.size 253 [B,.int .u64 (U:Int)]::dP b s::R):=o.alloc (.cells #[B,.int .u64 (U:Int)] 253);have oD:=oA.drew;have hV:=Q9 (U:=U) hB oD;obtain⟨-,-,m0,m1,-⟩:=oA.cs;have hS:=fun(w1:aF)(R1:aJ)(o1:Own w1 (dP b s::R1))=>rQ hs hB o1;have hT:=fun(w1:aF)(R1:aJ)(o1:Own w1 (dP b s::R1))=>rQ hs hs.nx o1;generalize ow s B=D at*;generalize ow s s.next=E at*;have d1:=bW (show¬(32768<=D)by omega);have d2:=bW (show¬(E<D)by omega)
 have Ee:=az (show∀(w1:aF)(R1:aJ),Own w1 (dP b s::R1)->w1.cell? ⟨b,2,none⟩=some ↑s.next/\b<w1.heap.size from fun w1 R1 o1=>by
  obtain⟨a,c,o2⟩:=dP.iff.1 o1
  exact⟨o2.cell 2,o2.aS⟩)
 obtain⟨n2,n3⟩:=Ee.out _ _ (oA.up 1);unfold Q8 at*;go_enter func109,ntmps109;go_upto_region 1 with fail
 go_region_held3(fun w'=>w'.cell? ⟨w.heap.size,0,none⟩=some ↑B/\w'.cell? ⟨w.heap.size,1,none⟩=some (.int .u64 (U:Int))/\w'.cell? ⟨b,2,none⟩=some ↑s.next) (go_keep) (first
  |(go_at_call 161;(with_reducible refine Calls.mono hV ?_);rintro _ w1⟨rfl,o1,k1⟩;have m0':=o1.cell 0;have m1':=o1.cell 1;obtain⟨z2,z3⟩:=Ee.out _ _ (o1.up 1);have hS1:=hS _ _ (o1.up 1);have hT1:=hT _ _ (o1.up 1))
  |(go_at_call 162;(with_reducible refine Calls.mono hS1 ?_);rintro _ _⟨rfl,rfl⟩)
  |(go_at_call 162;(with_reducible refine Calls.mono hT1 ?_);rintro _ _⟨rfl,rfl⟩)
  )
 obtain⟨g,cg,o2⟩:=dP.iff.1 (o1.up 1);have K1:Calm w w1:=(aD (aj (Calm.refl w))).trans k1;have c3:=o2.cell 3;clear hV hS hT hS1 hT1 Ee m0 m1 m0' m1' z2 z3 n2 n3 oA oD d1 d2 h1 h2 k1;generalize w.heap.size=m at*;go_wp2;go_loopw[5,6,37] (fun v5 v6 v37 wr=>aeW s B U b m g cg R w v5 v6 v37 wr) (fun _ _ v _=>s.P.length-(Lib.intOf v).toNat);case atStart=>exact⟨0,none,0,0,none,0,0,rfl,by omega,rfl,rfl,rfl,rfl,rfl,Own.bH (Own.bH (o2.re [2])),K1⟩
 case round=>
  obtain⟨i,a1,n1,c1,a2,n2,c2,rfl,hi,rfl,rfl,hn1,hn2,aip,oR,kR⟩:=hrel;have Yn:=az hn1;have HN2:=az hn2;clear hn1 hn2;have aiq:=hs.len;by_cases hil:i<s.P.length
  ·obtain⟨p,hp⟩:∃p,s.P[i]?=some p:=⟨_,cZ hil⟩;obtain⟨q,rfl,hc,_,hgl⟩:=(oR.up 4).aG (by omega);have e0:=hc (i*3+0) p.seq (by rw[aB bu s.P i 0 p hp (by omega)];rfl);have e1:=hc (i*3+1) p.id (by rw[aB bu s.P i 1 p hp (by omega)];rfl);have e2:=hc (i*3+2) p.tr (by rw[aB bu s.P i 2 p hp (by omega)];rfl);rw[Nat.add_zero]at e0;have hps:=hs.ps p (mH hp);have hb:=fun w=>vQ (w:=w) hps hB;have oX:=oR.alloc (.cells #[p.seq,p.id,p.tr] 258);have hh:=Q_ hB hps hU oX;obtain⟨-,-,m0,m1,-⟩:=(oX.up 3).cs;clear hc;have HT:=az (show s.P.take (i+1)=s.P.take i++[p]by rw[tH,hp];rfl);obtain⟨Z1,hZ1⟩:=aP (f_ p.seq B);obtain⟨Z2,hZ2⟩:=aP (hasB B U p.seq);have HZ:=az (show yG B U p=(Z1||Z2)by unfold yG;rw[hZ1,hZ2]);rw[hZ1]at hb;rw[hZ2]at hh;clear hZ1 hZ2 hp hps o;unfold Q8 at hh;go_wp2_with fail;refine(hb _).mono ?_;rintro _ _⟨rfl,rfl⟩;have JH:∀Z:Bool,yG B U p=Z->Hid ((s.P.take (i+1)).filter (yG B U)=(s.P.take i).filter (yG B U)++(if Z=true then[p]else[]))/\Hid (((s.P.take (i+1)).filter fun p=>!yG B U p)=((s.P.take i).filter fun p=>!yG B U p)++(if Z=true then[]else[p])):=fun Z hZ=>by
    refine⟨az ?_,az ?_⟩
    ·rw[HT.out,List.filter_append];cases Z<;>simp[hZ]
    ·rw[HT.out,List.filter_append];cases Z<;>simp[hZ]
   cases Z1 with
   |true=>
    obtain⟨Og,Oh⟩:=JH true (by rw[HZ.out];rfl);have HT1:=az (show _=_++[p]from Og.out);have HT2:=az (Oh.out.trans (List.append_nil _));clear Og Oh JH;have o3:=oX;have k3:=aj (x:=.cells #[p.seq,p.id,p.tr] 258) kR;have oY:=o3.alloc (.cells #[p.id] 3);rw[World.size_alloc]at oY;have hnw:=Own.news (T:=3) (vs:=[p.id]) oY;have y1:=o3.cell 1;change World.cell? _ ⟨wr.heap.size,1,none⟩=some ↑p.id at y1;go_wp2_with(at_builtin;refine aQ rfl _ _ rfl Tryz.intTk rfl (oY.up 2) rfl ⟨_,_,rfl,rfl,by intro u hu;simp only[jc,xN,or_false]at hu;subst hu;rfl,.inr ⟨_,rfl,hnw⟩⟩ (by unfold maxLen;omega) (by omega) ?kK);case kK=>
     intro a5 c5 w5 o5 k5;have o6:=o5.re [1,2] 2;have K5:=k3.trans ((aj (Calm.refl _)).trans k5);clear hnw y1 o3 oY o5 k5 hb hh oX m0 m1 e0 e1 e2 hgl;go_wp2;go_roundw;case rel=>
      refine⟨i+1,a5,n1+1,c5,a2,n2,c2,by go_num,by omega,rfl,rfl,?_,?_,by omega,?_,K5⟩
      ·rw[HT1.out,jf,Yn.out];rfl
      ·rw[HT2.out,HN2.out]
      ·rw[HT1.out,HT2.out,tJ];exact o6
     case measure=>simp[Lib.intOf];omega
   |false=>
    go_wp2_with fail;refine hh.mono ?_;rintro _ w3⟨rfl,o3,k3'⟩;have k3:=(aj (x:=.cells #[p.seq,p.id,p.tr] 258) kR).trans k3';clear k3';cases Z2 with
    |true=>
     obtain⟨Og,Oh⟩:=JH true (by rw[HZ.out];rfl);have HT1:=az (show _=_++[p]from Og.out);have HT2:=az (Oh.out.trans (List.append_nil _));clear Og Oh JH;have oY:Own _ (aH _ 3 [p.id]::_):=o3.alloc (.cells #[p.id] 3);have hnw:=Own.news (T:=3) (vs:=[p.id]) oY;have y1:=o3.cell 1;change World.cell? _ ⟨wr.heap.size,1,none⟩=some ↑p.id at y1;go_wp2_with(at_builtin;refine aQ rfl _ _ rfl Tryz.intTk rfl (oY.up 2) rfl ⟨_,_,rfl,rfl,by intro u hu;simp only[jc,xN,or_false]at hu;subst hu;rfl,.inr ⟨_,rfl,hnw⟩⟩ (by unfold maxLen;omega) (by omega) ?kK);case kK=>
      intro a5 c5 w5 o5 k5;have o6:=o5.re [1,2] 2;have K5:=k3.trans ((aj (Calm.refl _)).trans k5);clear hnw y1 o3 oY o5 k5 hb hh oX m0 m1 e0 e1 e2 hgl;go_wp2;go_roundw;case rel=>
       refine⟨i+1,a5,n1+1,c5,a2,n2,c2,by go_num,by omega,rfl,rfl,?_,?_,by omega,?_,K5⟩
       ·rw[HT1.out,jf,Yn.out];rfl
       ·rw[HT2.out,HN2.out]
       ·rw[HT1.out,HT2.out,tJ];exact o6
      case measure=>simp[Lib.intOf];omega
    |false=>
     obtain⟨Og,Oh⟩:=JH false (by rw[HZ.out];rfl);have HT1:=az (Og.out.trans (List.append_nil _));have HT2:=az (show _=_++[p]from Oh.out);clear Og Oh JH;have y0:=o3.cell 0;change World.cell? _ ⟨wr.heap.size,0,none⟩=some ↑p.seq at y0;have y1:=o3.cell 1;change World.cell? _ ⟨wr.heap.size,1,none⟩=some ↑p.id at y1;have y2:=o3.cell 2;change World.cell? _ ⟨wr.heap.size,2,none⟩=some ↑p.tr at y2;have oY:Own _ (aH _ 258 (b_ p)::_):=o3.alloc (.cells #[p.seq,p.id,p.tr] 258);have hnw:=Own.news (T:=258) (vs:=b_ p) oY;have hone:∀u∈b_ p,u.oneCell'=true:=by intro u hu;simp only[b_,jc,xN,or_false]at hu;rcases hu with rfl|rfl|rfl<;>rfl
     go_wp2_with(at_builtin;refine aQ rfl _ _ rfl Tryz.pndT rfl (oY.up 3) rfl ⟨_,_,rfl,rfl,hone,.inr ⟨_,rfl,hnw⟩⟩ (by unfold maxLen;omega) (by omega) ?kK);case kK=>
      intro a5 c5 w5 o5 k5;have o6:=o5.re [1,2,3] 2;have K5:=k3.trans ((aj (Calm.refl _)).trans k5);clear hnw y0 y1 y2 o3 oY o5 k5 hb hh oX m0 m1 e0 e1 e2 hgl;go_wp2;go_roundw;case rel=>
       refine⟨i+1,a1,n1,c1,a5,n2+1,c5,by go_num,by omega,rfl,rfl,?_,?_,by omega,?_,K5⟩
       ·rw[HT1.out,Yn.out]
       ·rw[HT2.out,jf,HN2.out];rfl
       ·rw[HT1.out,HT2.out,aO,show flat b_ [p]=b_ p from List.append_nil _];exact o6
      case measure=>simp[Lib.intOf];omega
  ·have hin:i=s.P.length:=by omega
   subst hin;rw[List.take_length]at oR Yn HN2;obtain⟨ff,fl,-,-,-,f3,-⟩:=(oR.up 3).cs;have o6:=(oR.up 3).setCell 3 (.slice a2 n2 c2);go_wp2;go_ret;have e1:(IK s B U).length=n1:=by unfold IK;rw[iP];exact Yn.out.symm
   have e2:(IK s B U).map (Value.int .i64)=(s.P.filter (yG B U)).map adA:=by unfold IK;rw[List.map_map];rfl
   have o7:Own _ (dP b (Vx s B U)::slc 3 1 a1 n1 c1 ((s.P.filter (yG B U)).map adA)::R):=dP.iff.2 ⟨a2,c2,by
    unfold Vx;dsimp only;rw[<-HN2.out]
    exact(o6.re [3,4] 2).re [0,2]⟩
   refine⟨a1,c1,?_⟩;rw[e1,e2];exact⟨rfl,o7.swap,ay kR⟩
end
section
variable{w w':aF}{R:aJ}{b kb n c:Nat}{a:aY}{s:sH}{L:List lX}
def iF(s:sH)(p:lX):Bool:=decide (p.tr<s.tries)
def Yo(kb b:Nat):SP:=aH kb 178 [b]
def exF(kb:Nat):aL:=.func (.func 166) #[] #[kb]
theorem Vz{p:lX}(o:Own w (Yo kb b::dP b s::R)):Calls prog 166 #[Fv p,kb] w (aR (.bool (iF s p)) (Yo kb b::dP b s::R) w):=by have oA:Own _ (aH w.heap.size 258 [p.seq,p.id,p.tr]::_):=o.alloc (.cells #[p.seq,p.id,p.tr] 258);have c2:=oA.cell 2;have k0:=(oA.up 1).cell 0;have kl:=o.aS;obtain⟨g,cg,o2⟩:=dP.iff.1 (oA.up 2);have s1:=o2.cell 1;unfold Fv iF;obtain⟨Z,hZ⟩:=aP (decide (p.tr<s.tries));rw[hZ];go_enter func166,ntmps166;go_upto_region 1 with fail;go_quiet(fail);go_wp2;go_ret;exact⟨rfl,oA.drop.drewN _,(aj (Calm.refl w)).dn _⟩
end
structure jw where
 win:Int
 exp:Int
 H:bO
structure jw.Ok(r:jw):Prop where
 w1:1<=r.win
 w2:r.win<=64
 ex:fK r.exp
 un:bL r.H
 ks:∀p∈r.H,fK p.1/\dst r.exp p.1<r.win
def Yp(r:jw):jw:=⟨r.win,EE r.exp 1,if(a_ r.H r.exp).isSome then dW r.H r.exp else r.H⟩
def nxO(r:jw)(out:bq):bq:=match a_ r.H r.exp with
 |some i=>out++[i]
 |none=>out
def CX(x:jw×bq):jw×bq:=(Yp x.1,nxO x.1 x.2)
def skF:Nat->jw×bq->jw×bq
 |0,x=>x
 |k+1,x=>skF k (CX x)
def skN(r:jw)(B:Int):Nat:=if f_ r.exp B=true then(dst r.exp B).toNat else 0
def ve(B:Int)(x:jw×bq):jw×bq:=skF (skN x.1 B) x
def rlF:Nat->jw×bq->jw×bq
 |0,x=>x
 |k+1,x=>if(a_ x.1.H x.1.exp).isSome then rlF k (CX x)else x
def XR(x:jw×bq):jw×bq:=rlF x.1.H.length x
def mvE(r:jw)(B:Int):Int:=if 32768<=dst r.exp B/\r.win<65536-dst r.exp B then 2 else 0
def BG(r:jw)(q id:Int):jw:=⟨r.win,r.exp,if(a_ r.H q).isNone/\f_ q r.exp=false then bA r.H q id else r.H⟩
def Uh(r:jw)(B q id:Int):jw×bq:=XR (BG (ve B (r,[])).1 q id,(ve B (r,[])).2)
def XT(r:jw)(B:Int):jw×bq:=XR (ve B (r,[]))
def nN(e:Int)(S:Int->Bool)(m:bO):Nat:=m.foldl (fun U p=>if S p.1=true then xE e U p.1 else U) 0
def Yq(r:jw):Nat:=nN r.exp (fun _=>true) r.H
def yH(r:jw)(id:Int):Bool:=r.H.any fun p=>p.2==id
theorem zP{α:Type}:∀{m:List (Int×α)}{k:Int},(a_ m k).isSome=true->(dW m k).length+1=m.length
 |[],k,h=>by simp[a_]at h
 |(k',v)::m,k,h=>by
  unfold a_ at h;unfold dW;by_cases he:k=k'
  ·rw[if_pos he];rfl
  ·rw[if_neg he]at h⊢;have:=zP h;simp only[List.length_cons];omega
theorem Oi{α:Type}:∀{m:List (Int×α)}{k:Int}{x:Int×α},x∈dW m k->x∈m
 |[],_,_,h=>by simp[dW]at h
 |(k',v)::m,k,x,h=>by
  unfold dW at h;by_cases he:k=k'
  ·rw[if_pos he]at h;exact List.mem_cons_of_mem _ h
  ·rw[if_neg he]at h;rcases jc.1 h with h1|h1
   ·rw[h1];exact List.mem_cons_self
   ·exact List.mem_cons_of_mem _ (Oi h1)
theorem aaT{α:Type}{m:List (Int×α)}{k:Int}(hu:bL m){x:Int×α}(h:x∈dW m k):x.1≠k:=by
 intro he;have h1:x.1∈(m.map (·.1)).erase k:=by rw[<-JA];exact List.mem_map_of_mem h
 rw[he]at h1;exact(List.Nodup.not_mem_erase hu) h1
theorem Oj{α:Type}:∀{m:List (Int×α)}{k:Int}{v:α}{x:Int×α},x∈bA m k v->x∈m\/x=(k,v)
 |[],k,v,x,h=>by simp only[bA,List.mem_singleton]at h;exact .inr h
 |(k',v')::m,k,v,x,h=>by
  unfold bA at h;by_cases he:k=k'
  ·rw[if_pos he]at h;rcases jc.1 h with h1|h1
   ·exact .inr h1
   ·exact .inl (List.mem_cons_of_mem _ h1)
  ·rw[if_neg he]at h;rcases jc.1 h with h1|h1
   ·rw[h1];exact .inl List.mem_cons_self
   ·rcases Oj h1 with h2|h2
    ·exact .inl (List.mem_cons_of_mem _ h2)
    ·exact .inr h2
theorem Yr{a b:Int}(ha:fK a)(hb:fK b):dst a b=0↔a=b:=by have:=ha.l;have:=ha.u;have:=hb.l;have:=hb.u;unfold dst;omega
theorem Ol{a b:Int}(ha:fK a)(hb:fK b)(h:dst a b≠0):dst (EE a 1) b=dst a b-1:=by have:=ha.l;have:=ha.u;have:=hb.l;have:=hb.u;unfold dst EE at*;omega
theorem jw.Ok.nx{r:jw}(h:r.Ok):(Yp r).Ok:=by
 refine⟨h.w1,h.w2,EF _ _,?_,?_⟩
 ·unfold Yp;dsimp only;split
  ·exact h.un.dW _
  ·exact h.un
 ·intro p hp;unfold Yp at hp⊢;dsimp only at hp⊢;have hm:p∈r.H/\p.1≠r.exp:=by
   split at hp
   ·exact⟨Oi hp,aaT h.un hp⟩
   ·rename_i hn;refine⟨hp,fun he=>hn ?_⟩;rw[<-he,eO h.un hp];rfl
  have hk:=h.ks p hm.1;have hz:dst r.exp p.1≠0:=fun hc=>hm.2 ((Yr h.ex hk.1).1 hc).symm;rw[Ol h.ex hk.1 hz];exact⟨hk.1,by omega⟩
theorem jw.Ok.sk:∀(k:Nat){x:jw×bq},x.1.Ok->(skF k x).1.Ok
 |0,_,h=>h
 |k+1,x,h=>jw.Ok.sk k (x:=CX x) h.nx
theorem Yt{x:jw×bq}(h:(a_ x.1.H x.1.exp).isSome=true):XR x=XR (CX x):=by have hl:=zP h;have hn:(CX x).1.H=dW x.1.H x.1.exp:=if_pos h;unfold XR;rw[hn,<-hl];show(if(a_ x.1.H x.1.exp).isSome then rlF _ (CX x)else x)=_;rw[if_pos h]
theorem aaU{x:jw×bq}(h:(a_ x.1.H x.1.exp).isSome=false):XR x=x:=by
 unfold XR;cases x.1.H.length with
 |zero=>rfl
 |succ n=>show(if(a_ x.1.H x.1.exp).isSome then rlF _ (CX x)else x)=x;rw[if_neg (by rw[h];decide)]
theorem Yu{B:Int}{x:jw×bq}(hx:fK x.1.exp)(hB:fK B)(h:f_ x.1.exp B=true):ve B x=ve B (CX x)/\(dst (CX x).1.exp B).toNat<(dst x.1.exp B).toNat:=by
 have h1:1<=dst x.1.exp B/\dst x.1.exp B<32768:=by unfold f_ at h;simpa using h
 have h2:dst (CX x).1.exp B=dst x.1.exp B-1:=Ol hx hB (by omega);refine⟨?_,by omega⟩;have e1:skN x.1 B=skN (CX x).1 B+1:=by
  unfold skN;rw[if_pos h,h2];unfold f_;rw[h2];by_cases h3:dst x.1.exp B=1
  ·rw[h3];rfl
  ·rw[if_pos (by simp;omega)];omega
 unfold ve;rw[e1];rfl
theorem aaV{B:Int}{x:jw×bq}(h:f_ x.1.exp B=false):ve B x=x:=by unfold ve skN;rw[if_neg (by rw[h];decide)];rfl
theorem zQ(r:jw)(out:bq):(Yp r).H.length+(nxO r out).length=r.H.length+out.length:=by
 unfold Yp nxO;cases h:a_ r.H r.exp with
 |none=>simp
 |some i=>have:=zP (m:=r.H) (k:=r.exp) (by rw[h];rfl);simp;omega
theorem aaW{r:jw}(h:r.Ok){q id:Int}(hq:fK q)(hw:f_ q r.exp=false->dst r.exp q<r.win):(BG r q id).Ok:=by
 refine⟨h.w1,h.w2,h.ex,?_,?_⟩
 ·unfold BG;dsimp only;split
  ·exact h.un.bA _ _
  ·exact h.un
 ·intro p hp;unfold BG at hp⊢;dsimp only at hp⊢;split at hp
  ·rename_i hc;rcases Oj hp with h1|h1
   ·exact h.ks p h1
   ·rw[h1];exact⟨hq,hw hc.2⟩
  ·exact h.ks p hp
theorem JI:∀(n:Nat){l:List Nat},l.Nodup->(∀x∈l,x<n)->l.length<=n
 |0,[],_,_=>Nat.le_refl 0
 |0,x::l,_,h=>absurd (h x List.mem_cons_self) (Nat.not_lt_zero _)
 |n+1,l,hd,h=>by
  have h1:=JI n (l:=l.erase n) (hd.erase n) (fun x hx=>by
   have h2:=h x (List.mem_of_mem_erase hx);have h3:x≠n:=fun he=>by rw[he]at hx;exact List.Nodup.not_mem_erase hd hx
   omega)
  rw[List.length_erase]at h1;split at h1<;>omega
theorem aaX{e a b:Int}(ha:fK a)(hb:fK b)(h:dst e a=dst e b):a=b:=by have:=ha.l;have:=ha.u;have:=hb.l;have:=hb.u;unfold dst at h;omega
theorem jw.Ok.len{r:jw}(h:r.Ok):r.H.length<=64:=by
 have hb:∀x∈r.H.map (fun p=>(dst r.exp p.1).toNat),x<64:=by intro x hx;obtain⟨p,hp,rfl⟩:=gW.1 hx;have h1:=(h.ks p hp).2;have h2:=h.w2;have h3:=vP r.exp p.1;omega
 have hn:(r.H.map (fun p=>(dst r.exp p.1).toNat)).Nodup:=by have hu:=h.un;unfold bL at hu;rw[List.nodup_iff_pairwise_ne,List.pairwise_map]at hu⊢;refine hu.imp_of_mem ?_;intro a b ha hb hne he;have h1:=(h.ks a ha).1;have h2:=(h.ks b hb).1;have h3:=vP r.exp a.1;have h4:=vP r.exp b.1;have he2:(dst r.exp a.1).toNat=(dst r.exp b.1).toNat:=he;exact hne (aaX (e:=r.exp) h1 h2 (by omega))
 have:=JI 64 hn hb;simpa using this
theorem Fy(e:Int)(S:Int->Bool)(i:Nat):∀(m:bO)(U:Nat),(m.foldl (fun U p=>if S p.1=true then xE e U p.1 else U) U).testBit i=(U.testBit i||m.any fun p=>S p.1&&(dst e p.1).toNat==i)
 |[],U=>by simp
 |p::m,U=>by
  rw[List.foldl_cons,Fy e S i m,List.any_cons];cases hS:S p.1 with
  |false=>simp
  |true=>
   rw[if_pos rfl];unfold xE;rw[Nat.testBit_or,Nat.testBit_two_pow];cases hd:((dst e p.1).toNat==i)with
   |true=>
    have:(dst e p.1).toNat=i:=by simpa using hd
    simp[this]
   |false=>
    have:¬(dst e p.1).toNat=i:=by simpa using hd
    simp[this]
theorem VC(e:Int)(m:bO):nN e (fun _=>false) m=0:=by
 unfold nN;induction m with
 |nil=>rfl
 |cons p m ih=>simpa using ih
theorem VD{e:Int}{S:Int->Bool}{m:bO}{k:Int}(hk:k∈m.map (·.1)):nN e (fun z=>S z||z==k) m=xE e (nN e S m) k:=by
 apply Nat.eq_of_testBit_eq;intro i;have hb2:=Fy e (fun z=>S z||z==k) i m 0;unfold nN;refine hb2.trans ?_;unfold xE;rw[Nat.testBit_or,Nat.testBit_two_pow];have hb:=Fy e S i m 0;unfold xE at hb;rw[hb];simp only[Nat.zero_testBit,Bool.false_or];obtain⟨p,hp,rfl⟩:=gW.1 hk;rw[Bool.eq_iff_iff];simp only[List.any_eq_true,Bt,Bool.or_eq_true,beq_iff_eq,xM];constructor
 ·rintro⟨x,hx,h1|h1,h2⟩
  ·exact .inl ⟨x,hx,h1,h2⟩
  ·exact .inr (by rw[<-h1];exact h2)
 ·rintro(⟨x,hx,h1,h2⟩|h1)
  ·exact⟨x,hx,.inl h1,h2⟩
  ·exact⟨p,hp,.inr rfl,h1⟩
theorem Yv{e:Int}{S:Int->Bool}{m:bO}(h:∀x∈m,S x.1=true):nN e S m=nN e (fun _=>true) m:=by
 unfold nN;have:∀U,m.foldl (fun U p=>if S p.1=true then xE e U p.1 else U) U=m.foldl (fun U p=>if true=true then xE e U p.1 else U) U:=by
  induction m with
  |nil=>intro U;rfl
  |cons p m ih=>intro U;simp only[List.foldl_cons];have h1:=ih (fun x hx=>h x (List.mem_cons_of_mem _ hx)) (xE e U p.1);simpa[h p List.mem_cons_self]using h1
 exact this 0
theorem aaY{U:Nat}{b:Int}(hU:U<18446744073709551616)(a:Int)(h:dst b a<64):xE b U a<18446744073709551616:=by unfold xE;have h1:2^(dst b a).toNat<2^64:=Nat.pow_lt_pow_right (by decide) (by omega);exact Nat.or_lt_two_pow (n:=64) hU h1
theorem aaZ{r:jw}(h:r.Ok)(S:Int->Bool):nN r.exp S r.H<18446744073709551616:=by
 have h2:=h.w2;have hk:=h.ks;unfold nN;have:∀(m:bO)(U:Nat),(∀p∈m,dst r.exp p.1<64)->U<18446744073709551616->m.foldl (fun U p=>if S p.1=true then xE r.exp U p.1 else U) U<18446744073709551616:=by
  intro m;induction m with
  |nil=>intro U _ hU;exact hU
  |cons p m ih=>
   intro U hm hU;rw[List.foldl_cons];refine ih _ (fun x hx=>hm x (List.mem_cons_of_mem _ hx)) ?_;split
   ·exact aaY hU _ (hm p List.mem_cons_self)
   ·exact hU
 exact this r.H 0 (fun p hp=>by have:=(hk p hp).2;omega) (by decide)
section
variable{w w':aF}{R:aJ}{b:Nat}
def eY(b:Nat)(r:jw):SP:=ex fun(h:Nat)=>st [aH b 273 [r.win,r.exp,.map (some h)],bB (Value.int .i64) h r.H]
theorem eY.iff{r:jw}:Own w (eY b r::R)↔∃h,Own w (aH b 273 [r.win,r.exp,.map (some h)]::bB (Value.int .i64) h r.H::R):=by
 constructor
 ·intro o;obtain⟨h,o1⟩:=Own.ex.1 o;exact⟨h,Own.st.1 o1⟩
 ·rintro⟨h,o1⟩;exact Own.ex.2 ⟨h,Own.st.2 o1⟩
def bZ(a:aY)(c:Nat)(L:bq):SP:=slc 3 1 a L.length c (L.map (Value.int .i64))
theorem Tryz.zeroR(w:aF):(zeroValue 3).run prog w=.ok (.int .i64 0) w:=by kernel_rfl
theorem Yw{m:bO}(o:Own w (bB (Value.int .i64) b m::R))(k:Int):
  (Instr.lookup 222 (.map (some b)) (.int .i64 k) true).run prog w=.ok (.tuple #[((a_ m k).getD 0:Int),.bool (a_ m k).isSome]) w:=by
 rw[bI underlying222 underlying3 Tryz.zeroR o k true];cases a_ m k<;>rfl
theorem Om{m:Int}(h1:1<=m)(h2:m<=64)(o:Own w R):Calls prog 74 #[.int .i64 m] w
  fun e w'=>∃b,aR (.tuple #[.pointer (some ⟨b,0,none⟩),.int .i64 0]) (eY b ⟨m,0,[]⟩::R) w e w':=by
 have hmm:=@run_makeMap prog;have o1:Own _ (bB (Value.int .i64) w.heap.size ([]:bO)::R):=Own.gF o;have o2:=o1.alloc (.cells #[.int .i64 m,.int .i64 0,.map (some w.heap.size)] 273);rw[World.size_alloc]at o2;go_enter func74,ntmps74;go_wp2;go_ret2;exact⟨_,rfl,eY.iff.2 ⟨_,o2⟩,⟨rfl,rfl,rfl⟩⟩
theorem CY{r:jw}{B:Int}(hr:r.Ok)(hB:fK B)(hm:mvE r B=0)(o:Own w (eY b r::R)):Calls prog 155 #[b,B] w (bN (.int .i64 0) w):=by
 obtain⟨h,o1⟩:=eY.iff.1 o;obtain⟨-,-,c0,c1,-⟩:=o1.cs;have hd:=fun w=>fC (w:=w) hr.ex hB;have hl:=vP r.exp B;have hh:=Q7 r.exp B;unfold mvE at hm;generalize dst r.exp B=D at*;have hw:IntKind.i64.wrap (65536-D)=65536-D:=by rw[gB];omega
 have hc:decide (32768<=D)=false\/decide (32768<=D)=true/\decide (r.win<65536-D)=false:=by
  by_cases h1:32768<=D
  ·refine .inr ⟨bz h1,bW fun h2=>?_⟩;rw[if_pos ⟨h1,h2⟩]at hm;omega
  ·exact .inl (bW h1)
 clear hm hl hh;go_enter func155,ntmps155;go_wp2_with fail;refine(hd _).mono ?_;rintro e1 w1⟨rfl,rfl⟩;clear hd;rcases hc with d1|⟨d1,d2⟩
 ·go_wp2;go_ret;exact⟨rfl,rfl⟩
 ·go_wp2;go_ret;exact⟨rfl,rfl⟩
theorem Fz{r:jw}{a:aY}{c:Nat}{L:bq}(hr:r.Ok)(hl:L.length<=100000)(o:Own w (eY b r::bZ a c L::R)):
  Calls prog 205 #[b,.slice a L.length c] w
   fun e w'=>∃a' c',aR (.slice a' (nxO r L).length c') (eY b (Yp r)::bZ a' c' (nxO r L)::R) w e w':=by
 obtain⟨h,o1⟩:=eY.iff.1 o;obtain⟨-,-,-,c1,c2,-⟩:=o1.cs;have hlk:=fun n=>Yw ((o1.up 1).drewN n) r.exp;have hn:=fun w=>vR (w:=w) hr.ex (n:=1) (by omega) (by omega);unfold bZ at*;obtain⟨n,hn0⟩:=aP L.length;have HN:=az hn0;rw[hn0]at o1 o hl⊢;clear hn0;cases hg:a_ r.H r.exp with
 |none=>
  rw[hg]at hlk;dsimp only[Option.getD,Option.isSome]at hlk;have e1:nxO r L=L:=by unfold nxO;rw[hg]
  have e2:Yp r=⟨r.win,EE r.exp 1,r.H⟩:=by unfold Yp;rw[hg];rfl
  rw[e1,e2,HN.out];clear e1 e2 hg;go_enter func205,ntmps205;go_upto_region 1 with fail;go_quiet(fail);go_wp2_with fail;refine(hn _).mono ?_;rintro e1 w1⟨rfl,rfl⟩;have o2:=(o1.drewN nq).setCell 1 (EE r.exp 1:Int);have fl:=o1.aS;have ff:=(o1.drewN nq).frozen;go_wp2;go_ret;exact⟨a,c,rfl,eY.iff.2 ⟨h,o2⟩,ay ((Calm.refl w).dn _)⟩
 |some id=>
  rw[hg]at hlk;dsimp only[Option.getD,Option.isSome]at hlk;have e1:nxO r L=L++[id]:=by unfold nxO;rw[hg]
  have e2:Yp r=⟨r.win,EE r.exp 1,dW r.H r.exp⟩:=by unfold Yp;rw[hg];rfl
  rw[e1,e2,jf,HN.out,tJ];clear e1 e2 hg;go_enter func205,ntmps205;go_upto_region 1 with fail;go_quiet(fail);have oX:=o1.drewN nq;have oY:=oX.alloc (.cells #[id] 3);have hnw:=Own.news (T:=3) (vs:=[id]) oY;go_wp2_with(at_builtin;refine aQ rfl _ _ rfl Tryz.intTk rfl (oY.up 3) rfl ⟨_,_,rfl,rfl,by intro u hu;simp only[jc,xN,or_false]at hu;subst hu;rfl,.inr ⟨_,rfl,hnw⟩⟩ (by unfold maxLen;omega) (by omega) ?kK);case kK=>
  intro a5 c5 w5 o5 k5;obtain⟨-,-,-,f1,f2,-⟩:=(o5.up 2).cs;have K5:=((Calm.refl w).dn nq).trans ((aj (x:=.cells #[id] 3) (Calm.refl _)).trans k5);clear hlk oX oY hnw c1 c2 k5;have o6:=(o5.re [1] 1).re [1,2,0];obtain⟨ff,fl,-⟩:=o6.cs;go_upto_region 4 with fail;refine wp_region_tail 8 (by kernel_rfl) (by kernel_rfl) ?_;simp only[xe,List.take_zero,yB,List.drop_zero];repeat still_step
  refine wpStill_nil ?_;go_wp2_with(at_delete;refine dL rfl _ _ rfl underlying222 underlying3 ((o6.up 1).drew) r.exp rfl rfl ?c1);case c1=>
  intro w7 o7 k7;have K7:=(aD K5).trans k7;obtain⟨gf,gl,-,g1,-⟩:=(o7.up 1).cs;clear f1 f2 ff fl o6 o5;go_wp2_with fail;refine(hn _).mono ?_;rintro e1 w8⟨rfl,rfl⟩;have o8:=(o7.up 1).setCell 1 (EE r.exp 1:Int);go_wp2;go_ret;exact⟨a5,c5,rfl,eY.iff.2 ⟨h,o8⟩,ay K7⟩
def lenOf:aL->Nat
 |.slice _ n _=>n
 |_=>0
def Yx(w:aF)(b:Nat):Int:=match w.cell? ⟨b,1,none⟩with
 |some (.int _ e)=>e
 |_=>0
theorem eY.exp{r:jw}(o:Own w (eY b r::R)):Yx w b=r.exp:=by obtain⟨h,o1⟩:=eY.iff.1 o;have c1:=o1.cell 1;unfold Yx;rw[c1]
def aeX(b:Nat)(r:jw)(B:Int)(R:aJ)(w:aF)(v:aL)(wr:aF):Prop:=
 ∃(x:jw×bq)(a:aY)(c:Nat),v=.slice a x.2.length c/\x.1.Ok/\ve B x=ve B (r,[])/\x.1.H.length+x.2.length=r.H.length/\Own wr (eY b x.1::bZ a c x.2::R)/\Calm w wr
theorem zR{r:jw}{B:Int}(hr:r.Ok)(hB:fK B)(o:Own w (eY b r::R)):Calls prog 157 #[b,B] w
  fun e w'=>∃a c,aR (.slice a (ve B (r,[])).2.length c) (eY b (ve B (r,[])).1::bZ a c (ve B (r,[])).2::R) w e w':=by
 have hlen:=hr.len;have HR:=az hr;clear hr;go_enter func157,ntmps157;go_wp2;go_loopw[5] (fun v wr=>aeX b r B R w v wr) (fun _ wr=>(dst (Yx wr b) B).toNat);case atStart=>exact⟨(r,[]),none,0,rfl,HR.out,rfl,rfl,(Own.bH o).swap,Calm.refl w⟩
 case round=>
  obtain⟨x,a,c,rfl,hx,hsk,hsum,oR,kR⟩:=hrel;obtain⟨h,o1⟩:=eY.iff.1 oR;have c1:=o1.cell 1;have hb:=fun w=>vQ (w:=w) hx.ex hB;have hnx:=Fz hx (by omega) oR;have hM:=eY.exp oR;cases hZ:f_ x.1.exp B with
  |true=>
   have HN:=az (Yu (x:=x) hx.ex hB hZ);have HL:=az (show(CX x).1.H.length+(CX x).2.length=r.H.length from(zQ x.1 x.2).trans hsum);rw[hZ]at hb;clear hZ o1 o;go_wp2_with fail;refine(hb _).mono ?_;rintro e1 w1⟨rfl,rfl⟩;go_wp2_with fail;refine hnx.mono ?_;rintro e2 w2⟨a2,c2,rfl,o2,k2⟩;clear hb hnx;go_wp2;go_roundw;case rel=>exact⟨CX x,a2,c2,rfl,hx.nx,HN.out.1.symm.trans hsk,HL.out,o2,kR.trans k2⟩
   case measure=>rw[eY.exp o2,hM];exact HN.out.2
  |false=>have hE:=az (hsk.symm.trans (aaV (x:=x) hZ));rw[hZ]at hb;clear hZ o1 o hsk;go_wp2_with fail;refine(hb _).mono ?_;rintro e1 w1⟨rfl,rfl⟩;go_wp2;go_ret;rw[hE.out];exact⟨a,c,rfl,oR,kR⟩
def aeY(b:Nat)(x0:jw×bq)(R:aJ)(w:aF)(v:aL)(wr:aF):Prop:=
 ∃(x:jw×bq)(a:aY)(c:Nat),v=.slice a x.2.length c/\x.1.Ok/\XR x=XR x0/\x.1.H.length+x.2.length=x0.1.H.length+x0.2.length/\Own wr (eY b x.1::bZ a c x.2::R)/\Calm w wr
theorem CZ{x0:jw×bq}{a0:aY}{c0:Nat}(hr:x0.1.Ok)(hl:x0.2.length<=10000)(o:Own w (eY b x0.1::bZ a0 c0 x0.2::R)):Calls prog 159 #[b,.slice a0 x0.2.length c0] w
  fun e w'=>∃a c,aR (.slice a (XR x0).2.length c) (eY b (XR x0).1::bZ a c (XR x0).2::R) w e w':=by
 have hlen:=hr.len;have HR:=az hr;clear hr;obtain⟨T,hT⟩:=aP (x0.1.H.length+x0.2.length);go_enter func159,ntmps159;go_wp2;go_loopw[1,5,6] (fun v _ _ wr=>aeY b x0 R w v wr) (fun v _ _ _=>T-lenOf v);case atStart=>exact⟨x0,a0,c0,rfl,HR.out,rfl,rfl,o,Calm.refl w⟩
 case round=>
  obtain⟨x,a,c,rfl,hx,hrl,hsum,oR,kR⟩:=hrel;obtain⟨h,o1⟩:=eY.iff.1 oR;obtain⟨-,-,-,c1,c2,-⟩:=o1.cs;have hlk:=fun n=>Yw ((o1.up 1).drewN n) x.1.exp;have hnx:=fun n=>Fz hx (by omega) (oR.drewN n);cases hZ:(a_ x.1.H x.1.exp).isSome with
  |true=>
   have HN:=az (Yt (x:=x) hZ);have HL:=az (show(CX x).1.H.length+(CX x).2.length=x0.1.H.length+x0.2.length from(zQ x.1 x.2).trans hsum)
   have HK:=az (show(CX x).1.H.length+1=x.1.H.length from by
    have h1:=zP hZ;have h2:(CX x).1.H=dW x.1.H x.1.exp:=if_pos hZ
    rw[h2];exact h1)
   rw[hZ]at hlk;clear hZ o1 o;go_upto_region 1 with fail;go_quiet(fail);go_wp2_with fail;refine(hnx _).mono ?_;rintro e2 w2⟨a2,c2,rfl,o2,k2⟩;clear hlk hnx;go_wp2;go_roundw;case rel=>exact⟨CX x,a2,c2,rfl,hx.nx,HN.out.symm.trans hrl,HL.out,o2,(kR.dn _).trans k2⟩
   case measure=>have h1:=HL.out;have h2:=HK.out;have h3:lenOf (Value.slice a2 (nxO x.1 x.2).length c2)=(CX x).2.length:=rfl;have h4:lenOf (Value.slice a x.2.length c)=x.2.length:=rfl;rw[h3,h4];omega
  |false=>have hE:=az (hrl.symm.trans (aaU (x:=x) hZ));rw[hZ]at hlk;clear hZ o1 o hrl;go_upto_region 1 with fail;go_quiet(fail);go_wp2;go_ret;rw[hE.out];exact⟨a,c,rfl,oR.drewN _,kR.dn _⟩
theorem EG:∀(k:Nat)(x:jw×bq),(skF k x).1.H.length+(skF k x).2.length=x.1.H.length+x.2.length
 |0,_=>rfl
 |k+1,x=>(EG k (CX x)).trans (zQ x.1 x.2)
theorem Ui:∀(k:Nat)(x:jw×bq),(skF k x).1.win=x.1.win
 |0,_=>rfl
 |k+1,x=>Ui k (CX x)
theorem Uj:∀(k:Nat)(x:jw×bq),fK x.1.exp->k<=65536->(skF k x).1.exp=(x.1.exp+k)%65536
 |0,x,h,_=>by have:=h.l;have:=h.u;show x.1.exp=_;omega
 |k+1,x,h,hk=>by rw[show skF (k+1) x=skF k (CX x)from rfl,Uj k (CX x) (EF _ _) (by omega)];show(EE x.1.exp 1+k)%65536=_;unfold EE;omega
theorem aa0{B:Int}{r:jw}{out:bq}(h:fK r.exp)(hB:fK B):(ve B (r,out)).1.exp=if f_ r.exp B=true then B else r.exp:=by
 unfold ve skN;have h1:=h.l;have h2:=h.u;have h3:=hB.l;have h4:=hB.u;by_cases hb:f_ r.exp B=true
 ·rw[if_pos hb,if_pos hb,Uj (dst r.exp B).toNat (r,out) h (by have:=Q7 r.exp B;omega)];have h5:=vP r.exp B;show(r.exp+((dst r.exp B).toNat:Int))%65536=B;rw[Int.toNat_of_nonneg h5];unfold dst;omega
 ·rw[if_neg hb,if_neg hb];rfl
theorem Yy{r:jw}{B q:Int}(hr:r.Ok)(hB:fK B)(hq:fK q)(hm:mvE r B=0)(hi:xk B r.win q=true):
  f_ q (ve B (r,[])).1.exp=false->dst (ve B (r,[])).1.exp q<(ve B (r,[])).1.win:=by
 have e1:(ve B (r,[])).1.win=r.win:=Ui _ _;have hi':dst B q<r.win:=by unfold xk at hi;simpa using hi
 rw[e1,aa0 hr.ex hB];have h1:=hr.ex.l;have h2:=hr.ex.u;have h3:=hB.l;have h4:=hB.u;have h5:=hq.l;have h6:=hq.u;have h7:=hr.w2;by_cases hb:f_ r.exp B=true
 ·rw[if_pos hb];exact fun _=>hi'
 ·rw[if_neg hb];intro hn;have hm2:¬(32768<=dst r.exp B/\r.win<65536-dst r.exp B):=by intro hc;unfold mvE at hm;rw[if_pos hc]at hm;omega
  unfold f_ at hb hn;simp only[Bt,Bool.and_eq_false_iff,xM,decide_eq_false_iff_not]at hb hn;unfold dst at*;omega
theorem Uk{r:jw}(B:Int):(ve B (r,[])).1.H.length+(ve B (r,[])).2.length=r.H.length:=EG _ _
theorem Oo{r:jw}{B:Int}(hr:r.Ok)(hB:fK B)(hm:mvE r B=0)(o:Own w (eY b r::R)):Calls prog 169 #[b,B] w
  fun e w'=>∃a c,aR (.tuple #[.slice a (XT r B).2.length c,aC]) (eY b (XT r B).1::bZ a c (XT r B).2::R) w e w':=by
 have hmv:=CY hr hB hm o;have hsk:=zR hr hB o;have hk:(ve B (r,[])).1.Ok:=jw.Ok.sk _ hr;have hl:=Uk (r:=r) B;have hl2:=hr.len;unfold XT;generalize ve B (r,[])=x at*;clear hr hm o;go_enter func169,ntmps169;go_wp2_with fail;refine hmv.mono ?_;rintro e1 w1⟨rfl,rfl⟩;go_wp2_with fail;refine hsk.mono ?_;rintro e2 w2⟨a,c,rfl,o2,k2⟩;have hrl:=CZ hk (by omega) o2;clear hmv hsk;go_wp2_with fail;refine hrl.mono ?_;rintro e3 w3⟨a3,c3,rfl,o3,k3⟩;go_wp2;go_ret2;exact⟨a3,c3,rfl,o3,k2.trans k3⟩
theorem Oq{r:jw}{B q id:Int}(hr:r.Ok)(hB:fK B)(hq:fK q)(hid:1<=id)(hm:mvE r B=0)(hi:xk B r.win q=true)(o:Own w (eY b r::R)):
  Calls prog 106 #[b,B,q,id] w
  fun e w'=>∃a c,aR (.tuple #[.slice a (Uh r B q id).2.length c,aC]) (eY b (Uh r B q id).1::bZ a c (Uh r B q id).2::R) w e w':=by
 have hd:=fun w=>fC (w:=w) hB hq;have hmv:=CY hr hB hm o;have hsk:=zR hr hB o;have hk:(ve B (r,[])).1.Ok:=jw.Ok.sk _ hr;have hl:=Uk (r:=r) B;have hl2:=hr.len;have hin:=fun w=>Oa (w:=w) hB hq hr.w1 hr.w2;have hroom:=Yy hr hB hq hm hi;have hput:=aaW (id:=id) hk hq hroom;rw[hi]at hin;obtain⟨h0,o0⟩:=eY.iff.1 o;have c0:=o0.cell 0;have d1:=bW (show¬(id<1)by omega);unfold Uh;generalize ve B (r,[])=x at*;clear hr hm hi o hroom hid;go_enter func106,ntmps106;go_wp2_with fail;refine(hd _).mono ?_;rintro e1 w1⟨rfl,rfl⟩;clear hd;go_wp2_with fail;refine hmv.mono ?_;rintro e1 w1⟨rfl,rfl⟩;clear hmv;go_wp2_with fail;refine(hin _).mono ?_;rintro e1 w1⟨rfl,rfl⟩;clear hin;go_wp2_with fail;refine hsk.mono ?_;rintro e2 w2⟨a,c,rfl,o2,k2⟩;clear hsk c0 o0;obtain⟨h,o3⟩:=eY.iff.1 o2;obtain⟨-,-,-,f1,f2,-⟩:=o3.cs;have hlk:=Yw (o3.up 1) q;have hbf:=fun w=>vQ (w:=w) hq hk.ex;have hfin:=fun(y:jw)(hy:y.Ok)(w3:aF)(o4:Own w3 (eY b y::bZ a c x.2::R))=>CZ (x0:=(y,x.2)) (a0:=a) (c0:=c) hy (by show x.2.length<=10000;omega) o4;cases hZ:(a_ x.1.H q).isSome with
 |true=>
  have e1:BG x.1 q id=x.1:=by unfold BG;rw[if_neg (fun hc=>by have:=hc.1;rw[<-Option.not_isSome,hZ]at this;cases this)]
  rw[hZ]at hlk;rw[e1]at hput;have hrl:=hfin x.1 hput _ o2;have E1:=az e1;clear hZ e1 hbf hfin hl hl2 hput hk;go_wp2_with fail;refine hrl.mono ?_;rintro e3 w3⟨a3,c3,rfl,o3,k3⟩;go_wp2;go_ret2;rw[E1.out];exact⟨a3,c3,rfl,o3,k2.trans k3⟩
 |false=>
  rw[hZ]at hlk;cases hY:f_ q x.1.exp with
  |true=>
   have e1:BG x.1 q id=x.1:=by unfold BG;rw[if_neg (fun hc=>by have:=hc.2;rw[hY]at this;cases this)]
   rw[hY]at hbf;rw[e1]at hput;have hrl:=hfin x.1 hput _ o2;have E1:=az e1;clear hZ hY e1 hfin hl hl2 hput hk;go_wp2_with fail;refine(hbf _).mono ?_;rintro e3 w3⟨rfl,rfl⟩;go_wp2_with fail;refine hrl.mono ?_;rintro e3 w3⟨a3,c3,rfl,o3,k3⟩;go_wp2;go_ret2;rw[E1.out];exact⟨a3,c3,rfl,o3,k2.trans k3⟩
  |false=>
   have e1:BG x.1 q id=⟨x.1.win,x.1.exp,bA x.1.H q id⟩:=by unfold BG;rw[if_pos ⟨by rw[<-Option.not_isSome,hZ];rfl,hY⟩]
   rw[hY]at hbf;rw[e1]at hput;have hrl:=hfin _ hput;have E1:=az e1;clear hZ hY e1 hfin hl hl2 hput hk;go_wp2_with fail;refine(hbf _).mono ?_;rintro e3 w3⟨rfl,rfl⟩;go_wp2_with(at_mapUpdate;refine bg rfl _ _ _ rfl underlying222 underlying3 (o3.up 1) q id rfl rfl rfl ?c1);case c1=>
   intro w4 o4 k4;have hrl2:=hrl w4 (eY.iff.2 ⟨h,o4.swap⟩);clear hrl f1 f2 hlk;go_wp2_with fail;refine hrl2.mono ?_;rintro e3 w3⟨a3,c3,rfl,o5,k5⟩;go_wp2;go_ret2;rw[E1.out];exact⟨a3,c3,rfl,o5,(k2.trans k4).trans k5⟩
theorem C8{fn:Func}{p:Tmp}{ty:TypeId}(h:fn.results=#[.cell p ty])(tmps:Array aL)(P:Program)(w:aF):
  (results fn tmps).run P w=((asAddr (tmps.getD p undef)).run P w).andThen fun a w₁=>(loadVar ty a).run P w₁:=by
 simp only[results,h];simp[Sem.run_bind,Result.andThen]
def acr(b h ib:Nat)(r:jw)(id:Int)(R:aJ)(w:aF)(_:aL)(wr:aF):Prop:=
 ∃(S:Int->Bool)(cur:Option Int),(∀x∈r.H,S x.1=true->x.2≠id)/\Own wr (fZ (Value.int .i64) h ib r.H S cur::aH b 273 [r.win,r.exp,.map (some h)]::R)/\Calm w wr
theorem IL{r:jw}{id:Int}(hr:r.Ok)(o:Own w (eY b r::R)):Calls prog 168 #[b,id] w
  (aR (.bool (yH r id)) (eY b r::R) w):=by
 obtain⟨h,o1⟩:=eY.iff.1 o;have c2:=o1.cell 2;have BH:=hr.un;obtain⟨w5,VE,o9,k9⟩:=gL (P:=prog) underlying222 (o1.up 1);generalize hib:w.heap.size=ib at*;have hT:∀v,acr b h ib r id R w v w5:=fun v=>⟨fun _=>false,none,(fun _ _ hc=>by cases hc),o9,k9⟩;clear o9 k9 hib o;go_enter func168,ntmps168;go_wp2;go_loopw[6] (fun v wr=>acr b h ib r id R w v wr) (fun _ wr=>iE wr h ib);case atStart=>exact hT _
 case round=>
  clear hT VE c2 o1;obtain⟨S,cur,hno,oR,kR⟩:=hrel;rcases iM (P:=prog) 0 BH oR with⟨hd,hrn⟩|⟨x,w6,hx,hS,hrn,jN,k10⟩
  ·have hF:=az (show yH r id=false from by
    unfold yH;rw[List.any_eq_false];intro y hy hc
    exact hno y hy (hd y hy) (by simpa using hc))
   have oD:=oR.lV;clear hno;go_wp2;go_ret;exact⟨by rw[hF.out];rfl,eY.iff.2 ⟨h,oD.swap⟩,kR⟩
  ·have hmv:=eO BH hx;have hen:=gP (P:=prog) BH jN hmv;obtain⟨k,v⟩:=x;dsimp only at hS hmv hen jN;by_cases hv:v=id
   ·have hF:=az (show yH r id=true from by
     unfold yH;rw[List.any_eq_true]
     exact⟨_,hx,by simpa using hv⟩)
    subst hv;have oD:=jN.lV;clear hno hx hS hmv;go_wp2;go_ret;exact⟨by rw[hF.out];rfl,eY.iff.2 ⟨h,oD.swap⟩,kR.trans k10⟩
   ·have hN:=az (show∀y∈r.H,(S y.1||y.1==k)=true->y.2≠id from fun y hy hc=>by
     rcases(by simpa using hc:S y.1=true\/y.1=k)with h1|h2
     ·exact hno y hy h1
     ·have h3:=eO BH hy;rw[h2,hmv]at h3;cases h3
      exact hv)
    have hb:(v==id)=false:=by simpa using hv
    have hM:=az (qi hx hS);have hL1:=az oR.iE;have hL2:=az jN.iE;clear hno hx hS hmv hv;go_wp2;go_roundw;case rel=>exact⟨_,_,hN.out,jN,kR.trans k10⟩
    case measure=>rw[hL2.out,hL1.out];exact hM.out
def acs(b h ib m t:Nat)(r:jw)(R:aJ)(w:aF)(_:aL)(wr:aF):Prop:=
 ∃(S:Int->Bool)(cur:Option Int),Own wr (fZ (Value.int .i64) h ib r.H S cur::aH m 253 [r.exp,.int .u64 (nN r.exp S r.H:Nat)]::aH t 253 [aC,.int .u64 0]::aH b 273 [r.win,r.exp,.map (some h)]::R)/\Calm w wr
theorem Lu{r:jw}(hr:r.Ok)(o:Own w (eY b r::R)):Calls prog 110 #[b] w
  (aR (Q8 r.exp (Yq r)) (eY b r::R) w):=by
 obtain⟨h,o1⟩:=eY.iff.1 o;obtain⟨-,-,-,c1,c2,-⟩:=o1.cs;have BH:=hr.un;have kl:=o1.aS;go_enter func110,ntmps110;go_upto_region 2 with fail;have oA:Own (w.alloc (.cells #[aC,.int .u64 0] 253)) (aH w.heap.size 253 [aC,.int .u64 0]::_):=o1.alloc (.cells #[aC,.int .u64 0] 253);have oB:Own ((w.alloc (.cells #[aC,.int .u64 0] 253)).alloc (.cells #[r.exp,.int .u64 0] 253)) (aH (w.alloc (.cells #[aC,.int .u64 0] 253)).heap.size 253 [r.exp,.int .u64 0]::_):=oA.alloc (.cells #[r.exp,.int .u64 0] 253);rw[World.size_alloc]at oB;have K0:=aj (x:=.cells #[r.exp,.int .u64 0] 253) (aj (x:=.cells #[aC,.int .u64 0] 253) (Calm.refl w));generalize (w.alloc (.cells #[aC,.int .u64 0] 253)).alloc (.cells #[r.exp,.int .u64 0] 253)=wx at*;have hmt:w.heap.size≠w.heap.size+1:=by omega
 obtain⟨m,hm⟩:=aP (w.heap.size+1);rw[hm]at oB⊢;obtain⟨t,ht⟩:=aP w.heap.size;rw[ht]at oB⊢;clear hmt hm ht oA o1 o c1 c2 kl;have c2:=(oB.up 2).cell 2;have hwin:=hr.w2;obtain⟨w5,VE,o9,k9⟩:=gL (P:=prog) underlying222 (oB.up 3);generalize hib:wx.heap.size=ib at*;have hT:∀v,acs b h ib m t r R w v w5:=fun v=>⟨fun _=>false,none,(by rw[VC];exact o9),K0.trans k9⟩;clear o9 k9 hib oB K0;go_wp2;go_loopw[4] (fun v wr=>acs b h ib m t r R w v wr) (fun _ wr=>iE wr h ib);case atStart=>exact hT _
 case round=>
  clear hT VE c2;obtain⟨S,cur,oR,kR⟩:=hrel;rcases iM (P:=prog) 0 BH oR with⟨hd,hrn⟩|⟨x,w6,hx,hS,hrn,jN,k10⟩
  ·have hF:=az (Yv (e:=r.exp) hd);have oD:=oR.lV;obtain⟨-,-,m0,m1,-⟩:=(oD.up 1).cs;obtain⟨tf,t0,q0,q1,-⟩:=(oD.up 2).cs;have oE:=((oD.up 2).setCell 0 r.exp).setCell 1 (.int .u64 (nN r.exp S r.H:Nat));have kE:=ay (x:=⟨t,1,none⟩) (v:=.int .u64 (nN r.exp S r.H:Nat)) (ay (x:=⟨t,0,none⟩) (v:=.int .i64 r.exp) kR);unfold Yq;generalize nN r.exp S r.H=U at*;go_wp2;obtain⟨-,-,e0,e1,-⟩:=oE.cs;refine bodyPost_ret (v:=Q8 r.exp U) ?_ rfl ⟨by rw[hF.out];rfl,eY.iff.2 ⟨h,(oE.re [0,2] 2).swap⟩,kE⟩;rw[C8 rfl];go_simp;rfl
  ·have hmv:=eO BH hx;have hen:=gP (P:=prog) BH jN hmv;have hk:=hr.ks x hx;have hset:=Ra (b:=r.exp) (a:=x.1) (U:=nN r.exp S r.H) hr.ex hk.1 (aaZ hr S) (by omega) jN;have hN:=az (VD (e:=r.exp) (S:=S) (List.mem_map_of_mem (f:=fun p:Int×Int=>p.1) hx));have hM:=az (qi hx hS);have hL1:=az oR.iE;obtain⟨k,v⟩:=x;dsimp only at hS hmv hen jN hset hN hM;obtain⟨-,-,m0,m1,-⟩:=(jN.up 1).cs;clear hx hS hmv hk;generalize nN r.exp S r.H=U at*;go_wp2_with fail;refine hset.mono ?_;rintro e1 w7⟨rfl,o7,k7⟩;obtain⟨gf,gl,g0,g1,-⟩:=(o7.up 1).cs;have oE:=((o7.up 1).setCell 0 r.exp).setCell 1 (.int .u64 (xE r.exp U k:Nat));have kE:=ay (x:=⟨m,1,none⟩) (v:=.int .u64 (xE r.exp U k:Nat)) (ay (x:=⟨m,0,none⟩) (v:=.int .i64 r.exp) ((kR.trans k10).trans k7));have hL2:=az (oE.up 1).iE;unfold Q8 at*;clear hset m0 m1 jN o7 hen;go_wp2;go_roundw;case rel=>exact⟨_,_,by rw[hN.out];exact oE.re [1,0],kE⟩
   case measure=>rw[hL2.out,hL1.out];exact hM.out
structure tQ(k o:Int):Prop where
 k1:1<=k
 k2:k<=10000000
 o1:0<=o
 o2:o<=100000
instance(k o:Int):Decidable (tQ k o):=decidable_of_iff (1<=k/\k<=10000000/\0<=o/\o<=100000) ⟨fun⟨a,b,c,d⟩=>⟨a,b,c,d⟩,fun h=>⟨h.k1,h.k2,h.o1,h.o2⟩⟩
def nO(r:Int×Int):aL:=.agg #[r.1,r.2]
def qo(r:Int×Int)(n:Int):Int:=(8000*n+r.1-1)/r.1+r.2
theorem vS{r:Int×Int}(h:tQ r.1 r.2)(o:Own w R):Calls prog 32 #[nO r] w (aR (.bool true) R w):=by obtain⟨k,v⟩:=r;have oA:Own (w.alloc (.cells #[k,v] 62)) (aH w.heap.size 62 [k,v]::R):=o.alloc (.cells #[k,v] 62);obtain⟨-,-,c0,c1,-⟩:=oA.cs;have d1:decide (1<=k)=true:=bz h.k1;have d2:decide (k<=10000000)=true:=bz h.k2;have d3:decide (0<=v)=true:=bz h.o1;have d4:decide (v<=100000)=true:=bz h.o2;unfold nO;dsimp only;clear h;go_enter func32,ntmps32;go_wp2;go_ret;exact⟨rfl,oA.drop,⟨rfl,rfl,rfl⟩⟩
theorem aa1(r d:Nat):Calls prog 202 #[.int .u64 (r:Int),.int .u64 (d:Int),(1:Int),.bool false] w (bN (.bool true) w):=by go_enter func202,ntmps202;go_wp2;go_ret;exact⟨rfl,rfl⟩
def upQ(x b c:Nat):Nat:=if x*b%c=0 then x*b/c else x*b/c+1
theorem IM(x b c:Nat)(hx:x<4294967296)(hb:b<4294967296)(hp:x*b<4611686018427387904)(hc:c<9223372036854775808)(h0:0<c)(o:Own w R):
  Calls prog 152 #[(x:Int),(b:Int),(c:Int),(1:Int)] w (aR (.tuple #[((upQ x b c:Nat):Int),aC]) R w):=by
 have HSA:=az (fun W:aF=>size_pos (w:=W) x (by omega));have HSB:=az (fun W:aF=>size_pos (w:=W) b (by omega));have Yh:=az (fun W:aF=>size_pos (w:=W) c (by omega));have hq:x*b/c<=x*b:=Nat.div_le_self _ _
 have HM:=az (show∀(W:aF)(R':aJ),Own W R'->Calls prog 201 #[.int .u64 (x:Int),.int .u64 (b:Int)] W (aR (.agg #[.int .u64 0,.int .u64 ((x*b:Nat):Int)]) R' W)from
  fun W R' o'=>pK x b (by omega) (by omega) (by omega) o')
 have HD:=az (show∀(W:aF)(R':aJ),Own W R'->Calls prog 200 #[.agg #[.int .u64 0,.int .u64 ((x*b:Nat):Int)],.int .u64 (c:Int)] W (aR (.tuple #[.int .u64 ((x*b/c:Nat):Int),.int .u64 ((x*b%c:Nat):Int),aC]) R' W)from
  fun W R' o'=>zM (x*b) c (by omega) hc h0 o')
 have HA:=az (fun W:aF=>aa1 (w:=W) (x*b%c) c);unfold upQ;generalize x*b/c=q at*;generalize x*b%c=r at*;generalize x*b=p at*;have hcn:=bW (show¬((c:Int)<0)by omega);have hbn:=bW (show¬((b:Int)<0)by omega);have han:=bW (show¬((x:Int)<0)by omega);by_cases hr:r=0
 ·subst hr;rw[if_pos rfl];have hS:∀W:aF,Calls prog 203 #[.int .u64 (q:Int),.bool false] W (bN (.tuple #[(q:Int),aC]) W):=fun W=>vM (w:=W) q false (by omega);go_enter func152,ntmps152;go_wp2_with fail;refine(Yh.out _).mono ?_;rintro e1 w1⟨rfl,rfl⟩;go_wp2_with fail;refine(HSA.out _).mono ?_;rintro e1 w1⟨rfl,rfl⟩;go_wp2_with fail;refine(HSB.out _).mono ?_;rintro e1 w1⟨rfl,rfl⟩;go_wp2_with fail;refine(HM.out _ _ o).mono ?_;rintro e1 w1⟨rfl,o1,k1⟩;go_wp2_with fail;refine(HD.out _ _ o1).mono ?_;rintro e2 w2⟨rfl,o2,k2⟩;go_wp2_with fail;refine(hS _).mono ?_;rintro e3 w3⟨rfl,rfl⟩;go_wp2;go_ret2;exact⟨rfl,o2,k1.trans k2⟩
 ·rw[if_neg hr];have hr0:=bz (show 0<r by omega);have hS:∀W:aF,Calls prog 203 #[.int .u64 ((q+1:Nat):Int),.bool false] W (bN (.tuple #[((q+1:Nat):Int),aC]) W):=fun W=>vM (w:=W) (q+1) false (by omega);have hw:IntKind.u64.wrap ((q:Int)+1)=(q:Int)+1:=by rw[IntKind.wrap_u64];omega
  have hz:(((q+1:Nat):Int)==0)=false:=by rw[Ec];omega
  have hz2:((q:Int)+1==0)=false:=by rw[Ec];omega
  clear hr;go_enter func152,ntmps152;go_wp2_with fail;refine(Yh.out _).mono ?_;rintro e1 w1⟨rfl,rfl⟩;go_wp2_with fail;refine(HSA.out _).mono ?_;rintro e1 w1⟨rfl,rfl⟩;go_wp2_with fail;refine(HSB.out _).mono ?_;rintro e1 w1⟨rfl,rfl⟩;go_wp2_with fail;refine(HM.out _ _ o).mono ?_;rintro e1 w1⟨rfl,o1,k1⟩;go_wp2_with fail;refine(HD.out _ _ o1).mono ?_;rintro e2 w2⟨rfl,o2,k2⟩;go_wp2_with fail;refine(HA.out _).mono ?_;rintro e3 w3⟨rfl,rfl⟩;go_wp2_with fail;refine(hS _).mono ?_;rintro e3 w3⟨rfl,rfl⟩;go_wp2;go_ret2;exact⟨rfl,o2,k1.trans k2⟩
theorem adB(n c:Nat)(h0:0<c)(v:Int):(upQ 8000 n c:Int)+v=qo ((c:Int),v) (n:Int):=by
 unfold qo upQ;dsimp only;have h1:=Nat.div_add_mod (8000*n) c;have h2:=Nat.mod_lt (8000*n) h0;generalize 8000*n/c=q at*;generalize 8000*n%c=r at*;have h3:(8000*(n:Int)+c-1)=(c:Int)*q+((r:Int)+c-1):=by have h4:((8000*n:Nat):Int)=((c*q+r:Nat):Int):=congrArg _ h1.symm;rw[Int.natCast_mul,Int.natCast_add,Int.natCast_mul]at h4;omega
 rw[h3,Int.mul_add_ediv_left _ _ (by omega:(c:Int)≠0)];by_cases hr:r=0
 ·subst hr;rw[if_pos rfl,Int.ediv_eq_zero_of_lt (by omega) (by omega)];omega
 ·rw[if_neg hr];have h5:((r:Int)+c-1)/c=1:=by
   have:((r:Int)+c-1)=(c:Int)*1+((r:Int)-1):=by omega
   rw[this,Int.mul_add_ediv_left _ _ (by omega:(c:Int)≠0),Int.ediv_eq_zero_of_lt (by omega) (by omega)];omega
  rw[h5];push_cast;omega
theorem Ot{r:Int×Int}{n:Int}(h:tQ r.1 r.2)(h0:0<=n)(hn:n<=262144):0<=qo r n/\qo r n<=2097352000:=by
 unfold qo;have h1:=h.k1;have h2:=h.o1;have h3:=h.o2;have h4:0<=(8000*n+r.1-1)/r.1:=Int.ediv_nonneg (by omega) (by omega);have h5:(8000*n+r.1-1)/r.1<=8000*n+1:=by
  have h6:(8000*n+r.1-1)=r.1*1+(8000*n-1):=by omega
  rw[h6,Int.mul_add_ediv_left _ _ (by omega:r.1≠0)];have h7:(8000*n-1)/r.1<=8000*n:=by
   by_cases hz:n=0
   ·subst hz;have:(8000*0-1)/r.1<0:=Int.ediv_neg_of_neg_of_pos (by omega) (by omega);omega
   ·exact Int.le_trans (Int.ediv_le_self _ (by omega)) (by omega)
  omega
 omega
theorem FB{r:Int×Int}{n:Int}(h:tQ r.1 r.2)(h0:0<=n)(hn:n<=262144)(o:Own w R):Calls prog 104 #[nO r,n] w (aR (.tuple #[(qo r n:Int),aC]) R w):=by
 have hb:=Ot h h0 hn;obtain⟨k0,v⟩:=r;obtain⟨m,rfl⟩:=Int.eq_ofNat_of_zero_le h0;obtain⟨k,hk⟩:=Int.eq_ofNat_of_zero_le (a:=k0) (by have:=h.k1;dsimp only at this;omega);subst hk;have hk1:0<k:=by have:=h.k1;dsimp only at this;omega
 have hk2:k<=10000000:=by have:=h.k2;dsimp only at this;omega
 rw[<-adB m k hk1 v]at hb⊢;have oA:Own (w.alloc (.cells #[(k:Int),v] 62)) (aH w.heap.size 62 [(k:Int),v]::R):=o.alloc (.cells #[(k:Int),v] 62);obtain⟨-,-,c0,c1,-⟩:=oA.cs;have hv:=vS (r:=((k:Int),v)) h oA;have hmd:=fun(w1:aF)(o1:Own w1 (aH w.heap.size 62 [(k:Int),v]::R))=>IM 8000 m k (by omega) (by omega) (by omega) (by omega) hk1 o1;generalize upQ 8000 m k=U at*;have d1:=bW (show¬((m:Int)<0)by omega);have d2:=bW (show¬(262144<(m:Int))by omega);have hw:IntKind.i64.wrap ((U:Int)+v)=(U:Int)+v:=by rw[gB];omega
 unfold nO at*;dsimp only at*;clear h h0 hn hb;go_enter func104,ntmps104;go_wp2_with fail;refine hv.mono ?_;rintro e1 w1⟨rfl,o1,k1⟩;obtain⟨-,-,g0,g1,-⟩:=o1.cs;have h2:=hmd w1 o1;clear hv hmd c0 c1;go_wp2_with fail;refine h2.mono ?_;rintro e2 w2⟨rfl,o2,k2⟩;obtain⟨-,-,f0,f1,-⟩:=o2.cs;clear g0 g1 h2;go_wp2;go_ret2;exact⟨rfl,o2.drop,((aj (x:=.cells #[(k:Int),v] 62) (Calm.refl w)).trans k1).trans k2⟩
structure FC(c:Int×Int×Int):Prop where
 p1:1<=c.1
 p2:c.1<=32
 b1:1<=c.2.1
 b2:c.2.1<=262144
 t1:1<=c.2.2
 t2:c.2.2<=1048576
def C9(c:Int×Int×Int):aL:=.agg #[c.1,c.2.1,c.2.2]
def C_(x:Int):Prop:=1<=x/\x<=4096
theorem Da{c:Int×Int×Int}(h:FC c)(o:Own w R):Calls prog 35 #[C9 c] w (aR (.bool true) R w):=by obtain⟨p,q,t⟩:=c;have oA:Own (w.alloc (.cells #[p,q,t] 34)) (aH w.heap.size 34 [p,q,t]::R):=o.alloc (.cells #[p,q,t] 34);obtain⟨-,-,c0,c1,c2,-⟩:=oA.cs;have d1:decide (1<=p)=true:=bz h.p1;have d2:decide (p<=32)=true:=bz h.p2;have d3:decide (1<=q)=true:=bz h.b1;have d4:decide (q<=262144)=true:=bz h.b2;have d5:decide (1<=t)=true:=bz h.t1;have d6:decide (t<=1048576)=true:=bz h.t2;unfold C9;dsimp only;clear h;go_enter func35,ntmps35;go_wp2;go_ret;exact⟨rfl,oA.drop,⟨rfl,rfl,rfl⟩⟩
def lI(w:aF)(a:aY)(L:bq):Prop:=L=[]\/∃g,a=some ⟨g,0,none⟩/\(∀(j:Nat)x,L[j]?=some x->w.cell? ⟨g,j,none⟩=some ↑x)/\g<w.heap.size
theorem lI.own{a:aY}{c:Nat}{L:bq}(o:Own w (bZ a c L::R)):lI w a L:=by
 unfold bZ at o;rcases Own.slc.1 o with⟨_,h,_⟩|⟨g,sp,rfl,_,_,_,_,o1⟩
 ·exact .inl (CO h)
 ·refine .inr ⟨g,rfl,fun j x hx=>Own.cell o1 j ?_,o1.aS⟩;rw[List.getElem?_append_left (by rw[iP];exact(eU.1 hx).1),kI,hx];rfl
theorem lI.take{a:aY}{L:bq}(h:lI w a L)(n:Nat):lI w a (L.take n):=by
 rcases h with rfl|⟨g,rfl,h1,h2⟩
 ·exact .inl (List.take_nil)
 ·refine .inr ⟨g,rfl,fun j x hx=>h1 j x ?_,h2⟩;rw[List.getElem?_take]at hx;split at hx
  ·exact hx
  ·cases hx
def aeZ(n:Nat)(w:aF)(_ v7:aL)(wr:aF):Prop:=∃i:Nat,v7=↑(i:Int)/\i<=n/\wr=w
theorem Db{a:aY}{c:Nat}{L:bq}(hL:∀x∈L,C_ x)(hn:L.length<=1000)(ha:lI w a L):Calls prog 151 #[.slice a L.length c] w (bN (.bool true) w):=by
 obtain⟨n,hn0⟩:=aP L.length;have HN:=az hn0;have HA:=az ha;rw[hn0]at hn⊢;clear hn0 ha;go_enter func151,ntmps151;go_wp2;go_loopw[4,7] (fun v4 v7 wr=>aeZ n w v4 v7 wr) (fun _ v _=>n-(Lib.intOf v).toNat);case atStart=>exact⟨0,rfl,by omega,rfl⟩
 case round=>
  obtain⟨i,rfl,hi,rfl⟩:=hrel;by_cases hil:i<n
  ·obtain⟨x,hx⟩:∃x,L[i]?=some x:=⟨_,cZ (by rw[HN.out];exact hil)⟩;obtain⟨g,hg,hc,hgl⟩:∃g,a=some ⟨g,0,none⟩/\(∀(j:Nat)x,L[j]?=some x->wr.cell? ⟨g,j,none⟩=some (.int .i64 x))/\g<wr.heap.size:=by
    rcases HA.out with h0|h0
    ·rw[h0]at hx;cases hx
    ·exact h0
   subst hg;have hcx:=hc i x hx;have hlx:=hL x (mH hx);have d1:decide (x<1)=false:=bW (by have:=hlx.1;omega);have d2:decide (4096<x)=false:=bW (by have:=hlx.2;omega);clear hc hlx hx;go_wp2;go_roundw;case rel=>exact⟨i+1,by go_num,by omega,rfl⟩
   case measure=>simp[Lib.intOf];omega
  ·have hin:i=n:=by omega
   subst hin;go_wp2;go_ret;exact⟨rfl,rfl⟩
def yI:bq->Int
 |[]=>0
 |x::l=>x+yI l
def j5(L:bq):Int:=yI L+4*(L.length:Int)-4
theorem Yz(l:bq)(x:Int):yI (l++[x])=yI l+x:=by
 induction l with
 |nil=>show x+0=0+x;omega
 |cons y l ih=>show y+yI (l++[x])=y+yI l+x;omega
theorem EH:∀{L:bq},(∀x∈L,C_ x)->(L.length:Int)<=yI L/\yI L<=4096*(L.length:Int)
 |[],_=>⟨Int.le_refl 0,Int.le_refl 0⟩
 |x::L,h=>by have h1:=EH (L:=L) fun y hy=>h y (List.mem_cons_of_mem _ hy);have h2:=h x List.mem_cons_self;have h3:=h2.1;have h4:=h2.2;show((L.length+1:Nat):Int)<=x+yI L/\x+yI L<=4096*((L.length+1:Nat):Int);omega
def ae0(L:bq)(w:aF)(v4 _ v22:aL)(wr:aF):Prop:=∃i:Nat,v22=↑(i:Int)/\i<=L.length/\v4=↑(yI (L.take i)+4*(i:Int)-4:Int)/\wr=w
theorem FD{a:aY}{c:Nat}{L:bq}(hL:∀x∈L,C_ x)(h0:L≠[])(hn:L.length<=32)(ha:lI w a L):Calls prog 102 #[.slice a L.length c] w (bN (.tuple #[(j5 L:Int),aC]) w):=by
 have hso:=Db (c:=c) hL (by omega) ha;obtain⟨n,hn0⟩:=aP L.length;have HN:=az hn0;have HA:=az ha;have hpos:0<n:=by rw[<-hn0];exact List.length_pos_iff.2 h0
 rw[hn0]at hn hso⊢;clear hn0 ha;go_enter func102,ntmps102;go_wp2_with fail;refine hso.mono ?_;rintro e1 w1⟨rfl,rfl⟩;clear hso;go_wp2;go_loopw[4,6,22] (fun v4 v6 v22 wr=>ae0 L w v4 v6 v22 wr) (fun _ _ v _=>n-(Lib.intOf v).toNat);case atStart=>exact⟨0,rfl,by omega,rfl,rfl⟩
 case round=>
  obtain⟨i,rfl,hi,rfl,rfl⟩:=hrel;rw[HN.out]at hi;by_cases hil:i<n
  ·obtain⟨x,hx⟩:∃x,L[i]?=some x:=⟨_,cZ (by rw[HN.out];exact hil)⟩;obtain⟨g,hg,hc,hgl⟩:∃g,a=some ⟨g,0,none⟩/\(∀(j:Nat)x,L[j]?=some x->wr.cell? ⟨g,j,none⟩=some (.int .i64 x))/\g<wr.heap.size:=by
    rcases HA.out with h0|h0
    ·rw[h0]at hx;cases hx
    ·exact h0
   subst hg;have hcx:=hc i x hx;have hlx:=hL x (mH hx);have hsm:=EH (L:=L.take i) fun y hy=>hL y (List.mem_of_mem_take hy);rw[rZ,HN.out,Nat.min_eq_left hi]at hsm;have HT:=az (show yI (L.take (i+1))=yI (L.take i)+x by rw[tH,hx];exact Yz _ _);obtain⟨S,hS⟩:=aP (yI (L.take i));rw[hS]at hsm⊢;have HS:=az hS;have hw1:IntKind.i64.wrap (4+x)=4+x:=by have:=hlx.1;have:=hlx.2;rw[gB];omega
   have hw2:IntKind.i64.wrap (S+4*(i:Int)-4+(4+x))=S+4*(i:Int)-4+(4+x):=by have:=hlx.1;have:=hlx.2;rw[gB];omega
   clear hc hlx hx hS hsm;go_wp2;go_roundw;case rel=>refine⟨i+1,by go_num,by rw[HN.out];omega,?_,rfl⟩;rw[HT.out,HS.out];congr 1;push_cast;omega
   case measure=>simp[Lib.intOf];omega
  ·have hin:i=n:=by omega
   have HT:=az (show yI (L.take i)+4*(i:Int)-4=j5 L by unfold j5;rw[hin,<-HN.out,List.take_length]);subst hin;go_wp2;go_ret2;rw[HT.out];exact⟨rfl,rfl⟩
def Lv(cp:Int×Int×Int)(r:Int×Int)(L:bq):Bool:=decide (j5 L<=cp.2.1)&&decide (qo r (j5 L)<=cp.2.2)
def YA(cp:Int×Int×Int)(r:Int×Int)(L:bq):Int:=if j5 L<=cp.2.1 then qo r (j5 L)else 0
theorem VF{a:aY}{c:Nat}{L:bq}{cp:Int×Int×Int}{r:Int×Int}(hL:∀x∈L,C_ x)(h0:L≠[])(hn:(L.length:Int)<=cp.1)(hcp:FC cp)(hr:tQ r.1 r.2)
  (a0:aY)(c0:Nat)(L0:bq)(hpre:∀(w1:aF)(R1:aJ),Own w1 (bZ a0 c0 L0::R1)->lI w1 a L)(o:Own w (bZ a0 c0 L0::R)):
  Calls prog 193 #[.slice a L.length c,C9 cp,nO r] w (aR (.tuple #[(YA cp r L:Int),.bool (Lv cp r L)]) (bZ a0 c0 L0::R) w):=by
 obtain⟨p,q,t⟩:=cp;obtain⟨k,v⟩:=r;dsimp only at hn;have hp2:=hcp.p2;have hb2:=hcp.b2;dsimp only at hp2 hb2;have oA:Own (w.alloc (.cells #[p,q,t] 34)) (aH w.heap.size 34 [p,q,t]::_):=o.alloc (.cells #[p,q,t] 34);have oB:Own ((w.alloc (.cells #[p,q,t] 34)).alloc (.cells #[k,v] 62)) (aH (w.alloc (.cells #[p,q,t] 34)).heap.size 62 [k,v]::_):=oA.alloc (.cells #[k,v] 62);rw[World.size_alloc]at oB;have hsz:=FD (c:=c) hL h0 (by omega) (hpre _ _ (oB.up 2));have hsb:=EH hL;have hpos:0<L.length:=List.length_pos_iff.2 h0;have hS0:0<=j5 L:=by unfold j5;omega
 obtain⟨-,-,a0',a1',-⟩:=(oB.up 1).cs;obtain⟨-,-,r0,r1,-⟩:=oB.cs;have K0:Calm w ((w.alloc (.cells #[p,q,t] 34)).alloc (.cells #[k,v] 62)):=⟨rfl,rfl,rfl⟩;have Ul:=fun(hq:j5 L<=q)=>FB (r:=(k,v)) (n:=j5 L) hr hS0 (by omega) oB;unfold YA Lv;dsimp only;generalize j5 L=S at*;obtain⟨n,hn0⟩:=aP L.length;rw[hn0]at hn hsz⊢;have d1:=bW (show¬(p<(n:Int))by omega);unfold C9 nO;unfold nO at Ul;dsimp only at*;clear hn0 hL h0 hcp hr hpre hsb hpos hn;by_cases hq:S<=q
 ·have d2:=bW (show¬(q<S)by omega);have h2:=Ul hq;rw[if_pos hq,bz hq];obtain⟨Z,hZ⟩:=aP (decide (qo (k,v) S<=t));rw[hZ];clear Ul hq;go_enter func193,ntmps193;go_wp2_with fail;refine hsz.mono ?_;rintro e1 w1⟨rfl,rfl⟩;clear hsz;go_wp2_with fail;refine h2.mono ?_;rintro e2 w2⟨rfl,o2,k2⟩;have f2:=(o2.up 1).cell 2;clear h2;go_upto_region 5 with fail;go_quiet(fail);go_wp2;go_ret2;exact⟨by simp,(o2.drop.drop).drewN _,(K0.trans k2).dn _⟩
 ·have d2:=bz (show q<S by omega);rw[if_neg hq,bW hq];clear Ul hq;go_enter func193,ntmps193;go_wp2_with fail;refine hsz.mono ?_;rintro e1 w1⟨rfl,rfl⟩;clear hsz;go_wp2;go_ret2;exact⟨rfl,oB.drop.drop,K0⟩
def Lx(cp:Int×Int×Int)(r:Int×Int)(L:bq):Nat->Nat->Int->Nat×Int
 |0,n,t=>(n,t)
 |k+1,n,t=>if(n:Int)<cp.1 then(if Lv cp r (L.take (n+1))=true then Lx cp r L k (n+1) (qo r (j5 (L.take (n+1))))else(n,t))else(n,t)
def yJ(cp:Int×Int×Int)(r:Int×Int)(L:bq):Nat×Int:=Lx cp r L L.length 0 0
def adC(cp:Int×Int×Int)(r:Int×Int)(L:bq)(a:aY)(c kb rb:Nat)(R:aJ)(w:aF)(v9 v10:aL)(wr:aF):Prop:=
 ∃(n:Nat)(t:Int),v9=↑(n:Int)/\v10=↑t/\n<=L.length/\Lx cp r L (L.length-n) n t=yJ cp r L/\
  Own wr (aH rb 62 [r.1,r.2]::aH kb 34 [cp.1,cp.2.1,cp.2.2]::bZ a c L::R)/\Calm w wr
theorem Ou{a:aY}{c:Nat}{L:bq}{cp:Int×Int×Int}{r:Int×Int}(hL:∀x∈L,C_ x)(h0:L≠[])(hn:L.length<=128)(hcp:FC cp)(hr:tQ r.1 r.2)(o:Own w (bZ a c L::R)):
  Calls prog 143 #[.slice a L.length c,C9 cp,nO r] w (aR (.tuple #[(((yJ cp r L).1:Nat):Int),.int .i64 (yJ cp r L).2,aC]) (bZ a c L::R) w):=by
 have oA:Own (w.alloc (.cells #[cp.1,cp.2.1,cp.2.2] 34)) (aH w.heap.size 34 [cp.1,cp.2.1,cp.2.2]::_):=o.alloc (.cells #[cp.1,cp.2.1,cp.2.2] 34);have oB:Own ((w.alloc (.cells #[cp.1,cp.2.1,cp.2.2] 34)).alloc (.cells #[r.1,r.2] 62)) (aH (w.alloc (.cells #[cp.1,cp.2.1,cp.2.2] 34)).heap.size 62 [r.1,r.2]::_):=oA.alloc (.cells #[r.1,r.2] 62);rw[World.size_alloc]at oB;have K0:Calm w ((w.alloc (.cells #[cp.1,cp.2.1,cp.2.2] 34)).alloc (.cells #[r.1,r.2] 62)):=⟨rfl,rfl,rfl⟩;have hv:=Da hcp oB;obtain⟨-,-,a0,a1,a2,-⟩:=(oB.up 1).cs;obtain⟨-,-,r0,r1,-⟩:=oB.cs;have hra:=fun(w1:aF)(o1:Own w1 (aH (w.heap.size+1) 62 [r.1,r.2]::aH w.heap.size 34 [cp.1,cp.2.1,cp.2.2]::bZ a c L::R))=>vS hr o1;have hso:=fun(w1:aF)(h:lI w1 a L)=>Db (c:=c) hL (by omega) h;have hpos:0<L.length:=List.length_pos_iff.2 h0;unfold C9 nO at*;go_enter func143,ntmps143;go_wp2_with fail;refine hv.mono ?_;rintro e1 w1⟨rfl,o1,k1⟩;obtain⟨-,-,b0,b1,b2,-⟩:=(o1.up 1).cs;obtain⟨-,-,q0,q1,-⟩:=o1.cs;have h2:=hra w1 o1;clear hv hra a0 a1 a2 r0 r1;go_wp2_with fail;refine h2.mono ?_;rintro e1 w2⟨rfl,o2,k2⟩;have h3:=hso w2 (lI.own (o2.up 2));clear h2 b0 b1 b2 q0 q1 hso;obtain⟨m,hm⟩:=aP L.length;have HM:=az hm;rw[hm]at h3 hpos hn⊢;have dm1:=bW (show¬(128<(m:Int))by omega);have dm0:((m:Int)==0)=false:=by rw[Ec];omega
 clear hm;go_wp2_with fail;refine h3.mono ?_;rintro e1 w3⟨rfl,rfl⟩;clear h3;go_wp2;have K2:=(K0.trans k1).trans k2;generalize w.heap.size+1=rb at*;generalize w.heap.size=kb at*;clear o1 oA oB o K0 k1 k2;have HL:=az hL;obtain⟨M,hM⟩:∃M,(if cp.1<(m:Int)then cp.1 else(m:Int))=M:=⟨_,rfl⟩;have hMb:M<=m/\M<=cp.1/\(M=m\/M=cp.1):=by rw[<-hM];split<;>omega
 have hcp1:=hcp.p2;clear hL;go_loopw[9,10,11,12] (fun v9 v10 _ _ wr=>adC cp r L a c kb rb R w v9 v10 wr) (fun v _ _ _ _=>m-(Lib.intOf v).toNat);case atStart=>exact⟨0,0,rfl,rfl,by omega,rfl,o2,K2⟩
 case round=>
  clear o2 K2;obtain⟨n,t,rfl,rfl,hnl,hbl,oR,kR⟩:=hrel;rw[HM.out]at hnl hbl;have HB:=az hbl;clear hbl;obtain⟨-,-,a0,a1,a2,-⟩:=(oR.up 1).cs;obtain⟨-,-,r0,r1,-⟩:=oR.cs;by_cases hlt:(n:Int)<M
  ·have hd:decide ((n:Int)<M)=true:=bz hlt;have hnm:n<m:=by omega
   have ae1:(n:Int)<cp.1:=by omega
   have hwn:IntKind.i64.wrap ((n:Int)+1)=(n:Int)+1:=by rw[gB];omega
   clear hlt hMb;have hcap:=(show Own wr (slc 3 1 a L.length c (L.map (Value.int .i64))::aH rb 62 [r.1,r.2]::aH kb 34 [cp.1,cp.2.1,cp.2.2]::R)from oR.re [2,0,1]).fA.2;rw[HM.out]at hcap;have hcap1:=hcap.1;have hbd:(n:Int)+1<=(c:Int):=by omega
   have ais:0<=(n:Int)+1:=by omega
   obtain⟨k,hk⟩:∃k,m-n=k+1:=⟨m-n-1,by omega⟩;have HK:=az hk;have hne:L.take (n+1)≠[]:=fun h=>by have h5:=congrArg List.length h;rw[rZ,HM.out]at h5;simp at h5;omega
   have htl:(L.take (n+1)).length=n+1:=by rw[rZ,HM.out];omega
   obtain⟨g,hg⟩:∃g,a=some ⟨g,0,none⟩:=by obtain⟨g,hg,_⟩:=(show Own wr (slc 3 1 a L.length c (L.map (Value.int .i64))::aH rb 62 [r.1,r.2]::aH kb 34 [cp.1,cp.2.1,cp.2.2]::R)from oR.re [2,0,1]).aG (by rw[HM.out];omega);exact⟨g,hg⟩
   have hfit:=fun(w1:aF)(o1:Own w1 (bZ a c L::aH rb 62 [r.1,r.2]::aH kb 34 [cp.1,cp.2.1,cp.2.2]::R))=>VF (c:=c) (L:=L.take (n+1)) (fun x hx=>HL.out x (List.mem_of_mem_take hx)) hne (by rw[htl];omega) hcp hr a c L (fun w2 R2 o2=>(lI.own o2).take (n+1)) o1
   rw[htl]at hfit;have hf:=hfit _ ((oR.re [2,0,1]).drew);unfold C9 nO at hf
   have HT:=az (show Lv cp r (L.take (n+1))=true->YA cp r (L.take (n+1))=qo r (j5 (L.take (n+1)))from fun h=>by
    unfold Lv at h;rw[Bt]at h;unfold YA
    rw[if_pos (of_decide_eq_true h.1)])
   obtain⟨Z,hZ⟩:=aP (Lv cp r (L.take (n+1)));obtain⟨T,hT⟩:=aP (YA cp r (L.take (n+1)));rw[hZ,hT]at hf;have HZ:=az hZ;have HT2:=az hT;have HNC:=az ae1;clear hk hne htl hfit hZ hT ae1;subst hg;go_upto_region 7 with fail
   go_region_held3(fun w'=>w'.cell? ⟨kb,0,none⟩=some ↑cp.1/\w'.cell? ⟨kb,1,none⟩=some ↑cp.2.1/\w'.cell? ⟨kb,2,none⟩=some ↑cp.2.2/\w'.cell? ⟨rb,0,none⟩=some ↑r.1/\w'.cell? ⟨rb,1,none⟩=some ↑r.2) (go_keep) (first
    |(go_at_call 193;(with_reducible refine Calls.mono hf ?_);rintro _ w3⟨rfl,o3,k3⟩;have g0:=(o3.up 2).cell 0;have g1:=(o3.up 2).cell 1;have g2:=(o3.up 2).cell 2;have h0:=(o3.up 1).cell 0;have h1:=(o3.up 1).cell 1))
   have K3:Calm w w3:=(aD kR).trans k3;cases Z with
   |true=>
    have HX:=az (show Lx cp r L (m-(n+1)) (n+1) T=yJ cp r L from by
     rw[<-HB.out,HK.out];show _=if _ then(if _ then _ else _)else _
     rw[if_pos HNC.out,if_pos HZ.out,<-HT2.out,HT.out HZ.out,show m-(n+1)=k by have:=HK.out;omega])
    go_wp2;go_roundw;case rel=>exact⟨n+1,T,by go_num,rfl,by rw[HM.out];omega,by rw[HM.out];exact HX.out,o3.re [1,2,0],K3⟩
    case measure=>simp[Lib.intOf];omega
   |false=>
    have HE:=az (show((n,t):Nat×Int)=yJ cp r L from by
     rw[<-HB.out,HK.out];show _=if _ then(if _ then _ else _)else _
     rw[if_pos HNC.out,if_neg (by rw[HZ.out];decide)])
    go_wp2
    go_ret3
    rw[<-HE.out];exact⟨rfl,(o3.re [1,2,0]).drop.drop,K3⟩
  ·have hd:decide ((n:Int)<M)=false:=bW hlt
   have HE:=az (show((n,t):Nat×Int)=yJ cp r L from by
    rw[<-HB.out];by_cases h1:m-n=0
    ·rw[h1];rfl
    ·obtain⟨k,hk⟩:∃k,m-n=k+1:=⟨m-n-1,by omega⟩;rw[hk];show _=if _ then _ else _
     rw[if_neg (by omega)])
   clear hlt hMb;go_wp2
   go_ret3
   rw[<-HE.out];exact⟨rfl,oR.drop.drop,kR⟩
def FE(L:bq)(x:Int):Int:=match L.findIdx? (fun y=>y==x)with
 |some i=>(i:Int)
 |none=>-1
theorem JJ{L:bq}{x:Int}{i:Nat}(h:L[i]?=some x)(hno:∀j,j<i->∀y,L[j]?=some y->y≠x):FE L x=(i:Int):=by
 have h1:L.findIdx? (fun y=>y==x)=some i:=by rw[List.findIdx?_eq_some_iff_getElem];obtain⟨hlt,he⟩:=eU.1 h;refine⟨hlt,by rw[he];simp,fun j hj=>?_⟩;have h2:=hno j hj _ (cZ (by omega));simpa using h2
 unfold FE;rw[h1]
theorem VG{L:bq}{x:Int}(hno:∀y∈L,y≠x):FE L x=-1:=by
 have h1:L.findIdx? (fun y=>y==x)=none:=by rw[List.findIdx?_eq_none_iff];intro y hy;simpa using hno y hy
 unfold FE;rw[h1]
def ae2(L:bq)(x:Int)(n:Nat)(w:aF)(_ v8:aL)(wr:aF):Prop:=∃i:Nat,v8=↑(i:Int)/\i<=n/\(∀j,j<i->∀y,L[j]?=some y->y≠x)/\wr=w
theorem Dc{a:aY}{c:Nat}{L:bq}(x:Int)(hn:L.length<=100000)(ha:lI w a L):Calls prog 128 #[.slice a L.length c,x] w (bN (.int .i64 (FE L x)) w):=by
 obtain⟨n,hn0⟩:=aP L.length;have HN:=az hn0;have HA:=az ha;rw[hn0]at hn⊢;clear hn0 ha;go_enter func128,ntmps128;go_wp2;go_loopw[5,8] (fun v5 v8 wr=>ae2 L x n w v5 v8 wr) (fun _ v _=>n-(Lib.intOf v).toNat);case atStart=>exact⟨0,rfl,by omega,fun j hj=>absurd hj (Nat.not_lt_zero _),rfl⟩
 case round=>
  obtain⟨i,rfl,hi,hno,rfl⟩:=hrel;by_cases hil:i<n
  ·obtain⟨y,hy⟩:∃y,L[i]?=some y:=⟨_,cZ (by rw[HN.out];exact hil)⟩;obtain⟨g,hg,hc,hgl⟩:∃g,a=some ⟨g,0,none⟩/\(∀(j:Nat)x,L[j]?=some x->wr.cell? ⟨g,j,none⟩=some ↑x)/\g<wr.heap.size:=by
    rcases HA.out with h0|h0
    ·rw[h0]at hy;cases hy
    ·exact h0
   subst hg;have hcx:=hc i y hy;clear hc;by_cases hxy:y=x
   ·have HF:=az (show FE L x=(i:Int)from JJ (by rw[hy,hxy]) hno);subst hxy;clear hy hno;go_wp2;go_ret;exact⟨by rw[HF.out];rfl,rfl⟩
   ·have hd:(x==y)=false:=by rw[Ec];exact fun h=>hxy h.symm
    have HX:=az (show∀j,j<i+1->∀z,L[j]?=some z->z≠x from fun j hj z hz=>by
     by_cases he:j=i
     ·subst he;rw[hy]at hz;cases hz;exact hxy
     ·exact hno j (by omega) z hz)
    clear hxy hy hno;go_wp2;go_roundw;case rel=>exact⟨i+1,by go_num,by omega,HX.out,rfl⟩
    case measure=>simp[Lib.intOf];omega
  ·have hin:i=n:=by omega
   have HF:=az (show FE L x=-1 from VG fun y hy=>by
    obtain⟨j,hj,rfl⟩:=List.getElem_of_mem hy
    exact hno j (by rw[hin,<-HN.out];exact hj) _ (cZ hj))
   subst hin;clear hno;go_wp2;go_ret;exact⟨by rw[HF.out];rfl,rfl⟩
theorem IP(L:bq)(x:Int):decide (0<=FE L x)=L.contains x:=by
 unfold FE;cases h:L.findIdx? (fun y=>y==x)with
 |none=>
  have h1:=List.findIdx?_eq_none_iff.1 h;have:L.contains x=false:=by
   rw[Bool.eq_false_iff];intro hc;have h2:x∈L:=by simpa using hc
   have:=h1 x h2;simp at this
  rw[this];rfl
 |some i=>
  obtain⟨h1,h2,_⟩:=List.findIdx?_eq_some_iff_getElem.1 h;have h3:L[i]=x:=by simpa using h2
  have:L.contains x=true:=by rw[List.contains_iff_mem,<-h3];exact List.getElem_mem _
  rw[this];simp
theorem De{a:aY}{c:Nat}{L:bq}(x:Int)(hn:L.length<=100000)(ha:lI w a L):Calls prog 79 #[.slice a L.length c,x] w (bN (.bool (L.contains x)) w):=by have hi:=Dc (c:=c) x hn ha;rw[<-IP];generalize FE L x=I at*;clear hn ha;go_enter func79,ntmps79;go_wp2_with fail;refine hi.mono ?_;rintro e1 w1⟨rfl,rfl⟩;go_wp2;go_ret;exact⟨rfl,rfl⟩
structure Nt where
 k:Int
 a:Int
 b:Int
 c:Int
 s:ByteArray
 F:List Bool
def xG(e:Nt)(fa:aY)(fc:Nat):aL:=.agg #[e.k,e.a,e.b,e.c,.string e.s,.slice fa e.F.length fc]
def uU(x:Int):Bool:=decide (0<=x)&&decide (x<=1099511627776)
def VH(e:Nt):Bool:=[e.a,e.b,e.c].all uU&&(decide (1<=e.k)&&(decide (e.k<=13)&&(decide ((e.s.size:Int)<=255)&&decide ((e.F.length:Int)<=16))))
def ae3(L:bq)(w:aF)(_ v13:aL)(wr:aF):Prop:=∃i:Nat,v13=↑(i:Int)/\i<=3/\(L.take i).all uU=true/\wr=w
theorem LA{e:Nt}{fa:aY}{fc:Nat}(o:Own w R):Calls prog 27 #[xG e fa fc] w (aR (.bool (VH e)) R w):=by
 obtain⟨k,a,b,c,s,F⟩:=e;unfold xG VH;dsimp only;obtain⟨n,hn⟩:=aP F.length;rw[hn];clear hn;have oA:Own (w.alloc (.cells #[k,a,b,c,.string s,.slice fa n fc] 47)) (aH w.heap.size 47 [k,a,b,c,.string s,.slice fa n fc]::R):=o.alloc (.cells #[k,a,b,c,.string s,.slice fa n fc] 47);have oB:Own ((w.alloc (.cells #[k,a,b,c,.string s,.slice fa n fc] 47)).alloc (.cells #[a,b,c] 3)) (aH (w.alloc (.cells #[k,a,b,c,.string s,.slice fa n fc] 47)).heap.size 3 ([a,b,c].map (Value.int .i64))::_):=oA.alloc (.cells #[a,b,c] 3);rw[World.size_alloc]at oB;have K0:Calm w ((w.alloc (.cells #[k,a,b,c,.string s,.slice fa n fc] 47)).alloc (.cells #[a,b,c] 3)):=⟨rfl,rfl,rfl⟩;have hcs:∀(j:Nat)x,[a,b,c][j]?=some x->World.cell? ((w.alloc (.cells #[k,a,b,c,.string s,.slice fa n fc] 47)).alloc (.cells #[a,b,c] 3)) ⟨w.heap.size+1,j,none⟩=some (.int .i64 x):=fun j x hx=>Own.cell oB j (by rw[kI,hx];rfl);obtain⟨-,-,e0,e1,e2,e3,e4,e5,-⟩:=(oB.up 1).cs;go_enter func27,ntmps27;go_wp2;generalize (w.alloc (.cells #[k,a,b,c,.string s,.slice fa n fc] 47)).alloc (.cells #[a,b,c] 3)=w2 at*;generalize w.heap.size+1=g2 at*;generalize w.heap.size=g1 at*;obtain⟨L,hL⟩:=aP ([a,b,c]);have HL3:L.length=3:=by rw[<-hL];rfl
 have HL:=az hL;have HLn:=az HL3;have HC:=az hcs;rw[hL]at HC;clear hL HL3 hcs oA o;go_loopw[4,13] (fun v4 v13 wr=>ae3 L w2 v4 v13 wr) (fun _ v _=>3-(Lib.intOf v).toNat);case atStart=>exact⟨0,rfl,by omega,rfl,rfl⟩
 case round=>
  obtain⟨i,rfl,hi,hal,rfl⟩:=hrel;by_cases hil:i<3
  ·obtain⟨x,hx⟩:∃x,L[i]?=some x:=⟨_,cZ (by rw[HLn.out];exact hil)⟩;have hcx:=HC.out i x hx;have HS:=az (show(L.take (i+1)).all uU=uU x from by rw[tH,hx,List.all_append,hal];simp);by_cases h1:x<0
   ·have d1:decide (x<0)=true:=bz h1
    have HF:=az (show L.all uU=false from by
     rw[List.all_eq_false];refine⟨x,mH hx,?_⟩;unfold uU;rw[bW (by omega:¬0<=x),Bool.false_and]
     decide)
    clear h1 hx hal;go_wp2;go_ret;rw[HL.out,HF.out];exact⟨rfl,oB.drop.drop,K0⟩
   ·have d1:decide (x<0)=false:=bW h1;by_cases h2:1099511627776<x
    ·have d2:decide (1099511627776<x)=true:=bz h2
     have HF:=az (show L.all uU=false from by
      rw[List.all_eq_false];refine⟨x,mH hx,?_⟩;unfold uU;rw[bW (by omega:¬x<=1099511627776),Bool.and_false]
      decide)
     clear h1 h2 hx hal;go_wp2;go_ret;rw[HL.out,HF.out];exact⟨rfl,oB.drop.drop,K0⟩
    ·have d2:decide (1099511627776<x)=false:=bW h2;have HO:=az (show uU x=true from by unfold uU;rw[bz (by omega:0<=x),bz (by omega:x<=1099511627776)];rfl);clear h1 h2 hx hal;go_wp2;go_roundw;case rel=>exact⟨i+1,by go_num,by omega,by rw[HS.out];exact HO.out,rfl⟩
     case measure=>simp[Lib.intOf];omega
  ·have hin:i=3:=by omega
   have HF:=az (show L.all uU=true from by
    rw[hin,<-HLn.out,List.take_length]at hal
    exact hal)
   have hd:=bW (show¬((i:Int)<3)by omega);obtain⟨Z1,z1⟩:=aP (decide (1<=k));obtain⟨Z2,z2⟩:=aP (decide (k<=13));obtain⟨Z3,z3⟩:=aP (decide ((s.size:Int)<=255));obtain⟨Z4,z4⟩:=aP (decide ((n:Int)<=16));have HZ:=az (show([a,b,c].all uU&&(decide (1<=k)&&(decide (k<=13)&&(decide ((s.size:Int)<=255)&&decide ((n:Int)<=16)))))=(Z1&&(Z2&&(Z3&&Z4)))from by rw[HL.out,HF.out,z1,z2,z3,z4];rfl);clear hin hal hi hil;cases Z1<;>cases Z2<;>cases Z3<;>
   ·go_wp2;go_ret;rw[HZ.out];exact⟨rfl,oB.drop.drop,K0⟩
end
end Go.Proofs.YtfejhikpfhgbeaaGreatDoor
