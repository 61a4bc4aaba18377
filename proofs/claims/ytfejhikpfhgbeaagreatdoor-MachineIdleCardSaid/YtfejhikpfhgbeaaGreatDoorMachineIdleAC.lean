import Derived.Test.YtfejhikpfhgbeaaGreatDoorMachineIdleX
set_option maxHeartbeats 25600000
set_option maxRecDepth 100000
set_option linter.all false
namespace Go.Proofs.YtfejhikpfhgbeaaGreatDoor
open Go.Proofs.Tryz
open Go.RowKit
open SP
section
variable{W w w':aF}{R:aJ}{b:Nat}{m:aX}
def wO(m:aX)(id:Int):Int:=match m.dY[id.toNat-1]? with
 |some p=>p.len
 |none=>0
def dZ(m:aX)(L:bO):bq:=L.map fun c=>wO m c.1
def af3(m:aX)(x:MB)(b:Nat)(L:bO)(a1:aY)(c1:Nat)(R:aJ)(w:aF)(v5 v10:aL)(wr:aF):Prop:=
 ∃(i:Nat)(a:aY)(c:Nat),v10=↑(i:Int)/\i<=L.length/\v5=.slice a i c/\
  Own wr (slc 3 1 a i c ((dZ m (L.take i)).map (Value.int .i64))::ah b m x::slc 238 2 a1 L.length c1 (flat dF L)::R)/\Calm w wr
theorem yz{x:MB}{a1:aY}{c1 n:Nat}{L:bO}(hn:L.length=n)(hl:n<=1000)(hid:∀q∈L,1<=q.1/\q.1<=(m.dY.length:Int))(hpk:m.dY.length<=1000000)
  (o:Own w (slc 238 2 a1 n c1 (flat dF L)::ah b m x::R)):
  Calls prog 103 #[b,.slice a1 n c1] w
   fun e w'=>∃a c,aR (.slice a n c) (slc 3 1 a n c ((dZ m L).map (Value.int .i64))::slc 238 2 a1 n c1 (flat dF L)::ah b m x::R) w e w':=by
 have HN:=az hn;have HI:=az hid;clear hn hid;have o0:Own w (slc 3 1 none 0 0 ((dZ m (L.take 0)).map (Value.int .i64))::ah b m x::slc 238 2 a1 L.length c1 (flat dF L)::R):=by rw[HN.out];exact Own.bH (o.re [1])
 clear o;go_enter func103,ntmps103;go_wp2;go_loopw[5,10] (fun v5 v10 wr=>af3 m x b L a1 c1 R w v5 v10 wr) (fun _ v _=>n-(Lib.intOf v).toNat);case atStart=>exact⟨0,none,0,rfl,by omega,rfl,o0,Calm.refl w⟩
 case round=>
  clear o0;obtain⟨j,a5,c5,rfl,hj,rfl,oR,kR⟩:=hrel;rw[HN.out]at hj oR;by_cases hjl:j<n
  ·obtain⟨q,hq⟩:∃q,L[j]?=some q:=⟨_,cZ (by rw[HN.out];exact hjl)⟩;obtain⟨g3,rfl,hc,_,hgl⟩:=(oR.up 2).aG (by omega);have hqr:=HI.out q (mH hq);obtain⟨k,hk⟩:∃k:Nat,q.1=(k:Int)+1:=⟨(q.1-1).toNat,by omega⟩;have e0:=hc (j*2+0) q.1 (by rw[aB fE L j 0 q hq (by omega)];rfl);have e1:=hc (j*2+1) q.2 (by rw[aB fE L j 1 q hq (by omega)];rfl);rw[Nat.add_zero]at e0;rw[hk]at e0;obtain⟨p,hp⟩:∃p,m.dY[k]?=some p:=⟨_,cZ (by omega)⟩
   have HT:=az (show dZ m (L.take (j+1))=dZ m (L.take j)++[p.len]by
    unfold dZ;rw[tH,hq,Option.toList_some,tJ];congr 1;show[wO m q.1]=[p.len];unfold wO
    rw[hk,show((k:Int)+1).toNat-1=k by omega,hp])
   have oX:Own (wr.alloc (.cells #[((k:Int)+1:Int),q.2] 238)) (aH wr.heap.size 238 [((k:Int)+1:Int),q.2]::_):=oR.alloc (.cells #[((k:Int)+1:Int),q.2] 238);have kX:=aj (x:=.cells #[((k:Int)+1:Int),q.2] 238) kR;have hLn:=Cn hp (by omega) (ah.to (oX.up 2));have x0:=oX.cell 0;change World.cell? _ ⟨wr.heap.size,0,none⟩=some ↑((k:Int)+1:Int)at x0;clear hc hp hq hk hqr;go_wp2_with fail;refine hLn.mono ?_;rintro _ w5⟨rfl,rfl⟩;clear x0 hLn e0 e1 hgl;generalize wr.heap.size=kx at*;generalize wr.alloc (.cells #[((k:Int)+1:Int),q.2] 238)=w5 at*;have oY:=oX.alloc (.cells #[p.len] 3);have hnw:=Own.news (T:=3) (vs:=[p.len]) oY;go_wp2_with(at_builtin;refine aQ rfl _ _ rfl Tryz.intTk rfl (oY.up 2) rfl ⟨_,_,rfl,rfl,by intro u hu;simp only[jc,xN,or_false]at hu;subst hu;rfl,.inr ⟨_,rfl,hnw⟩⟩ (by unfold maxLen;omega) (by omega) ?kK);case kK=>
    intro a6 c6 w6 o6 k6;have o7:=o6.re [1,2] 2;have K6:=kX.trans ((aj (Calm.refl _)).trans k6);clear hnw oX oY o6 k6;go_wp2;go_roundw;case rel=>refine⟨j+1,a6,c6,by go_num,by rw[HN.out];omega,rfl,?_,K6⟩;rw[HT.out,tJ,HN.out];exact o7
    case measure=>simp[Lib.intOf];omega
  ·have hin:j=n:=by omega
   have HT:=az (show L.take j=L by rw[hin,<-HN.out,List.take_length]);subst hin;rw[HT.out]at oR;clear HT;go_wp2;go_ret;exact⟨a5,c5,rfl,oR.re [0,2],kR⟩
def firstM(m:aX)(s:lM)(q:xP)(f:Int):(Int×Int)×Bool:=match jo m s f with
 |c::_=>(c,true)
 |[]=>(((q.P.headD Q6).id,-1),xQ s.sd)
theorem KL{s:lM}{f:Int}{i:Nat}{q:lX}(h0:qK m s f i=[])(hq:s.sd.P[i]?=some q)(hf:qJ m q.id=f):∃l,jo m s f=(q.id,q.seq)::l:=by
 have hd:s.sd.P=s.sd.P.take i++q::s.sd.P.drop (i+1):=by obtain⟨h1,h2⟩:=eU.1 hq;rw[<-h2,List.getElem_cons_drop,List.take_append_drop]
 refine⟨((s.sd.P.drop (i+1)).filter fun q=>qJ m q.id==f).map fun q=>(q.id,q.seq),?_⟩;have h1:jo m s f=qK m s f i++((q::s.sd.P.drop (i+1)).filter fun q=>qJ m q.id==f).map fun q=>(q.id,q.seq):=by
  unfold jo qK;conv=>lhs;rw[hd]
  rw[List.filter_append,tJ]
 rw[h1,h0,List.nil_append,List.filter_cons,if_pos (by rw[hf];exact beq_self_eq_true f)];rfl
theorem aaa{s:lM}{f:Int}{q:lX}(hf:qJ m q.id≠f):(jo m s f).contains (q.id,q.seq)=false:=by
 rw[Bool.eq_false_iff];intro hc;have h2:(q.id,q.seq)∈jo m s f:=by simpa using hc
 unfold jo at h2;obtain⟨y,hy,he⟩:=gW.1 h2;have h3:=(List.mem_filter.1 hy).2;injection he with h4 h5;rw[h4]at h3;exact hf (by simpa using h3)
theorem Xf{s:lM}{f:Int}{i:Nat}{q:lX}(h0:qK m s f i=[])(hq:s.sd.P[i]?=some q)(hf:qJ m q.id≠f):qK m s f (i+1)=[]:=by unfold qK at*;rw[tH,hq,Option.toList_some,List.filter_append,tJ,h0,List.filter_cons,if_neg (by simpa using hf)];rfl
def af4(m:aX)(x:MB)(b:Nat)(s:lM)(f:Int)(n:Nat)(l:aJ)(w:aF)(_ _ v30:aL)(wr:aF):Prop:=
 ∃(i:Nat),v30=↑(i:Int)/\i<=n/\qK m s f i=[]/\Own wr (ah b m x::l)/\Calm w wr
theorem Qr{x:MB}{i p j pq:Nat}{s:lM}{q:xP}{f:jd}(hfi:f.id=(j:Int))(hf:f.fU=(i:Int))(hp:m.ss[i]?=some p)(hs:m.S[i]?=some s)(hpq:m.qs[j]?=some pq)(hq:m.Q[j]?=some q)
  (hsd:s.sd.Ok)(hid:∀q∈s.sd.P,1<=q.id/\q.id<=(m.dY.length:Int))(hpk:m.dY.length<=1000000)(htr:∀q∈s.sd.P,q.tr<m.cfg.tries)(PO:q.P.length<=100000)(o:Own w (ah b m x::R)):
  Calls prog 140 #[b,lN f] w (aR (.tuple #[MH (firstM m s q f.id).1,.bool (firstM m s q f.id).2]) (ah b m x::R) w):=by
 obtain⟨fid,fst,wt,pk,eG,lag,lead⟩:=f;change fid=_ at hfi;change fst=_ at hf;subst hfi hf;show Calls _ _ #[_,.agg #[(j:Int),(i:Int),wt,pk,eG,lag,lead]] w (aR (.tuple #[MH (firstM m s q (j:Int)).1,.bool (firstM m s q (j:Int)).2]) (ah b m x::R) w);have oA:Own (w.alloc (.cells #[(j:Int),(i:Int),wt,pk,eG,lag,lead] 167)) (aH w.heap.size 167 [(j:Int),(i:Int),wt,pk,eG,lag,lead]::ah b m x::R):=o.alloc (.cells #[(j:Int),(i:Int),wt,pk,eG,lag,lead] 167);have K0:=aj (x:=.cells #[(j:Int),(i:Int),wt,pk,eG,lag,lead] 167) (Calm.refl w);have oB:Own _ (aH _ 238 [aC,aC]::_):=oA.alloc (.cells #[aC,aC] 238);rw[World.size_alloc]at oB;have K1:=aj (x:=.cells #[aC,aC] 238) K0;have HP:=az hp;have HS:=az hs;have WG:=az hpq;have HQ:=az hq;have HI:=az hid;have HSD:=az hsd;have HTR:=az htr;clear hp hs hpq hq hid hsd htr o oA K0;go_enter func140,ntmps140;go_upto_region 1 with fail;generalize (w.alloc (.cells #[(j:Int),(i:Int),wt,pk,eG,lag,lead] 167)).alloc (.cells #[aC,aC] 238)=w0 at*;generalize hk1:w.heap.size+1=k1 at*;have hne:¬k1=w.heap.size:=by omega
 generalize w.heap.size=kb at*;clear hk1;obtain⟨g,hg,c23,cO,hbl,hgl,hil⟩:=ah.DN HP.out (oB.up 2);obtain⟨-,-,f0,f1,f2,f3,f4,f5,f6,-⟩:=(oB.up 1).cs;obtain⟨ns,hns⟩:=aP m.ss.length;rw[hns]at c23 hil;have fP:=az hns;have HG:=az hg;clear hg hns;have oB1:=fun q=>oB.drewN q;have hPe:=fun q=>yt (f:=⟨(j:Int),(i:Int),wt,pk,eG,lag,lead⟩) rfl HP.out HS.out HSD.out HI.out hpk ((oB.drewN q).re [2,1,0]);go_quiet(fail);go_wp2_with fail;refine(hPe _).mono ?_;rintro _ w2⟨a1,c1,rfl,o2,k2⟩;have K2:=(K1.dn nq).trans k2;obtain⟨ml,hml⟩:=aP (jo m s (j:Int));have HML:=az hml;change Own w2 (slc 238 2 a1 (jo m s (j:Int)).length c1 (flat dF (jo m s (j:Int)))::_)at o2;rw[hml]at o2⊢;clear hml;obtain⟨nm,hnm⟩:=aP ml.length;have HNM:=az hnm;rw[hnm]at o2⊢;obtain⟨a,d,r,hpt⟩:=ah.pts HP.out HS.out (o2.up 1);have hsd2:=ah.Zx (P:=prog) (g:=131) (args:=#[d]) (v:=fun y:aY×Nat=>.slice y.1 s.sd.P.length y.2) (E:=fun y=>[slc 258 3 y.1 s.sd.P.length y.2 (flat b_ s.sd.P)]) HP.out HS.out hpt
  (fun R1 oo=>(kN HSD.out oo).mono fun e w'⟨a',c',h⟩=>⟨(a',c'),h⟩) (o2.up 1)
 have p1:=hpt.c1;have ahq:nm<=64:=by rw[<-hnm,<-HML.out];unfold jo;rw[iP];exact Nat.le_trans (List.length_filter_le _ _) (by have:=HSD.out.len;omega)
 clear hnm hPe oB1 f0 f1 f2 f3 f4 f5 f6 c23 cO hgl hil;go_wp2_with fail;refine hsd2.mono ?_;rintro _ w3⟨⟨a3,c3⟩,aei,rfl,o3,k3⟩;have K3:=K2.trans k3;obtain⟨n,hn⟩:=aP s.sd.P.length;have HN:=az hn;change Own w3 (slc 258 3 a3 s.sd.P.length c3 (flat b_ s.sd.P)::ah b m x::slc 238 2 a1 nm c1 (flat dF ml)::aH kb 167 [(j:Int),(i:Int),wt,pk,eG,lag,lead]::aH k1 238 [aC,aC]::R)at o3;rw[hn]at o3⊢;have hlen:n<=64:=by rw[<-hn];exact HSD.out.len
 have o4:Own w3 (ah b m x::slc 258 3 a3 n c3 (flat b_ s.sd.P)::slc 238 2 a1 nm c1 (flat dF ml)::aH kb 167 [(j:Int),(i:Int),wt,pk,eG,lag,lead]::aH k1 238 [aC,aC]::R):=o3.re [1];clear hn hsd2 p1 aei o3 k3 o2 k2 K1 K2 oB hpt;go_wp2;go_loopw[9,10,30] (fun v9 v10 v30 wr=>af4 m x b s (j:Int) n (slc 258 3 a3 n c3 (flat b_ s.sd.P)::slc 238 2 a1 nm c1 (flat dF ml)::aH kb 167 [(j:Int),(i:Int),wt,pk,eG,lag,lead]::aH k1 238 [aC,aC]::R) w v9 v10 v30 wr) (fun _ _ v _=>n-(Lib.intOf v).toNat);case atStart=>exact⟨0,rfl,by omega,rfl,o4,K3⟩
 case round=>
  clear o4 K3;obtain⟨i1,rfl,hi1,af5,oR,kR⟩:=hrel;have V_:=az af5;clear af5;by_cases hil:i1<n
  ·obtain⟨q1,hq1⟩:∃q,s.sd.P[i1]?=some q:=⟨_,cZ (by rw[HN.out];exact hil)⟩;obtain⟨g3,rfl,hc,_,hgl⟩:=(oR.up 1).aG (by omega);have e0:=hc (i1*3+0) q1.seq (by rw[aB bu s.sd.P i1 0 q1 hq1 (by omega)];rfl);have e1:=hc (i1*3+1) q1.id (by rw[aB bu s.sd.P i1 1 q1 hq1 (by omega)];rfl);have e2:=hc (i1*3+2) q1.tr (by rw[aB bu s.sd.P i1 2 q1 hq1 (by omega)];rfl);rw[Nat.add_zero]at e0;have aab:=HTR.out q1 (mH hq1);have hd:decide (q1.tr<m.cfg.tries)=true:=bz aab;have oX:Own _ (aH _ 258 [q1.seq,q1.id,q1.tr]::_):=oR.alloc (.cells #[q1.seq,q1.id,q1.tr] 258);have kX:=aj (x:=.cells #[q1.seq,q1.id,q1.tr] 258) kR;obtain⟨-,-,x0,x1,-⟩:=oX.cs;change World.cell? _ ⟨wr.heap.size,0,none⟩=some ↑q1.seq at x0;change World.cell? _ ⟨wr.heap.size,1,none⟩=some ↑q1.id at x1;have HQ1:=az hq1;clear hc hq1 aab;go_upto_region 6 with fail;clear e0 e1 e2 hgl;have xl:=oX.aS;generalize wr.alloc (.cells #[q1.seq,q1.id,q1.tr] 258)=w5 at*;generalize wr.heap.size=kx at*;have oY:Own _ (aH _ 238 [q1.id,q1.seq]::_):=oX.alloc (.cells #[q1.id,q1.seq] 238);have kY:=aj (x:=.cells #[q1.id,q1.seq] 238) kX;go_upto_region 7 with fail;clear x0 x1 xl;generalize w5.alloc (.cells #[q1.id,q1.seq] 238)=w6 at*;generalize w5.heap.size=ky at*;clear oX kX;obtain⟨-,yl,y0,y1,-⟩:=oY.cs;change World.cell? _ ⟨ky,0,none⟩=some ↑q1.id at y0;change World.cell? _ ⟨ky,1,none⟩=some ↑q1.seq at y1;have x2:=(oY.up 1).cell 2;change World.cell? _ ⟨kx,2,none⟩=some ↑q1.tr at x2;obtain⟨t9,tl⟩:=ah.cell (k:=9) (v:=.int .i64 m.cfg.tries) rfl (oY.up 2);have abC:=PT (L:=ml) (q1.id,q1.seq) HNM.out (by omega) (oY.drew.up 4);by_cases hfl:qJ m q1.id=(j:Int)
   ·have hct:ml.contains (q1.id,q1.seq)=true:=by obtain⟨l0,hl0⟩:=KL V_.out HQ1.out hfl;rw[<-HML.out,hl0];simp
    have HF:=az (show firstM m s q (j:Int)=((q1.id,q1.seq),true)by
     obtain⟨l0,hl0⟩:=KL V_.out HQ1.out hfl;unfold firstM
     rw[hl0])
    rw[hct]at abC;clear hfl hct
    go_region_held3(fun w'=>w'.cell? ⟨kx,2,none⟩=some ↑q1.tr/\w'.cell? ⟨b,9,none⟩=some ↑m.cfg.tries/\w'.cell? ⟨ky,0,none⟩=some ↑q1.id/\w'.cell? ⟨ky,1,none⟩=some ↑q1.seq) (go_keep) (first
     |(go_at_call 187;(with_reducible refine Calls.mono abC ?_);rintro _ w8⟨rfl,o8,k8⟩;have z0:=(o8.up 1).cell 0;have z1:=(o8.up 1).cell 1;have z2:=(o8.up 2).cell 2;change World.cell? w8 ⟨ky,0,none⟩=some ↑q1.id at z0;change World.cell? w8 ⟨ky,1,none⟩=some ↑q1.seq at z1;change World.cell? w8 ⟨kx,2,none⟩=some ↑q1.tr at z2;obtain⟨z9,_⟩:=ah.cell (k:=9) (v:=.int .i64 m.cfg.tries) rfl (o8.up 3)))
    have KF:=(aD kY).trans k8;have yl8:=(o8.up 1).aS;have oE:=((o8.up 6).setCell 0 q1.id).setCell 1 q1.seq;obtain⟨tf,tl,t0,t1,-⟩:=(o8.up 6).cs;go_wp2
    (try simp only[Exit.inBlock,Exit.then])
    refine bodyPost_ret (v:=.tuple #[MH (firstM m s q (j:Int)).1,.bool (firstM m s q (j:Int)).2]) ?_ rfl ⟨rfl,oE.re [0,1,2,3,5,6] 6,ay (ay KF)⟩;rw[results_cell_tmp rfl,HF.out];unfold MH;go_simp;all_goals rfl
   ·have hct:ml.contains (q1.id,q1.seq)=false:=by rw[<-HML.out];exact aaa hfl
    have UF:=az (Xf V_.out HQ1.out hfl);rw[hct]at abC;clear hfl hct
    go_region_held3(fun w'=>w'.cell? ⟨kx,2,none⟩=some ↑q1.tr/\w'.cell? ⟨b,9,none⟩=some ↑m.cfg.tries/\w'.cell? ⟨ky,0,none⟩=some ↑q1.id/\w'.cell? ⟨ky,1,none⟩=some ↑q1.seq) (go_keep) (first
     |(go_at_call 187;(with_reducible refine Calls.mono abC ?_);rintro _ w8⟨rfl,o8,k8⟩;have z0:=(o8.up 1).cell 0;have z1:=(o8.up 1).cell 1;have z2:=(o8.up 2).cell 2;change World.cell? w8 ⟨ky,0,none⟩=some ↑q1.id at z0;change World.cell? w8 ⟨ky,1,none⟩=some ↑q1.seq at z1;change World.cell? w8 ⟨kx,2,none⟩=some ↑q1.tr at z2;obtain⟨z9,_⟩:=ah.cell (k:=9) (v:=.int .i64 m.cfg.tries) rfl (o8.up 3)))
    have KF:=(aD kY).trans k8;have oN:=o8.re [3,4,0,5,6,1,2];go_wp2;go_roundw;case rel=>exact⟨i1+1,by go_num,by omega,UF.out,(o8.re [1,2] 2).re [1,2,0],KF⟩
    case measure=>simp[Lib.intOf];omega
  ·have hin:i1=n:=by omega
   subst hin;have hnil:jo m s (j:Int)=[]:=by have h0:=V_.out;unfold qK at h0;rw[<-HN.out,List.take_length]at h0;exact h0
   have hn0:nm=0:=by rw[<-HNM.out,<-HML.out,hnil];rfl
   have HF:=az (show firstM m s q (j:Int)=(((q.P.headD Q6).id,-1),xQ s.sd)by unfold firstM;rw[hnil]);subst hn0;clear hnil hil hi1 ahq;go_upto_region 12 with fail;obtain⟨gq,Xg,EU,cqj,Qs,M0,hjl⟩:=ah.ym WG.out oR;have HGQ:=az Xg;obtain⟨nq1,hnq⟩:=aP m.qs.length;have HNQ:=az hnq;rw[hnq]at EU hjl;clear Xg hnq;have f0:=(oR.up 3).cell 0;change World.cell? _ ⟨kb,0,none⟩=some ↑(j:Int)at f0;have fl:=(oR.up 3).aS;have hHd:=ah.ad6 WG.out HQ.out (gy.one fun R1 oo=>tO PO oo) oR.drew;obtain⟨hp0,aej⟩:=aP (q.P.headD Q6);have HHP:=az aej;unfold BD rP at hHd;rw[aej]at hHd;clear aej;have oP:Own (wr.alloc (.cells #[aC,aC,aC,aC,aC] 170)).drew (aH wr.heap.size 170 [aC,aC,aC,aC,aC]::_):=oR.alloc (.cells #[aC,aC,aC,aC,aC] 170);have abD:=ah.ad6 WG.out HQ.out (gy.one fun R1 oo=>tO PO oo) (oP.up 1);unfold BD rP at abD;rw[HHP.out]at abD;go_cut[11,12] (fun v11 _ wc=>∃kp:Nat,v11=.pointer (some ⟨kp,0,none⟩)/\Own wc (aH kp 170 [hp0.id,hp0.fl,hp0.len,hp0.ar,hp0.dl]::ah b m x::slc 258 3 a3 i1 c3 (flat b_ s.sd.P)::slc 238 2 a1 0 c1 (flat dF ml)::aH kb 167 [(j:Int),(i:Int),wt,pk,eG,lag,lead]::aH k1 238 [aC,aC]::R)/\Calm w wc);case first=>
    go_region_with(first
     |(go_at_call 146;(with_reducible refine Calls.mono hHd ?_);rintro _ w8⟨⟨⟩,rfl,oA8,k8⟩)
     |(go_at_call 146;(with_reducible refine Calls.mono abD ?_);rintro _ w8⟨⟨⟩,rfl,o8,k8⟩;have x0:=(o8.up 1).cell 0;have x1:=(o8.up 1).cell 1;have x2:=(o8.up 1).cell 2;have x3:=(o8.up 1).cell 3;have x4:=(o8.up 1).cell 4;have xf:=(o8.up 1).frozen;have xl:=(o8.up 1).aS))
    all_goals go_wp2
    all_goals go_meet
    all_goals first
     |exact⟨_,rfl,oA8.alloc (.cells #[hp0.id,hp0.fl,hp0.len,hp0.ar,hp0.dl] 170),aj ((aD kR).trans k8)⟩
     |exact⟨_,rfl,((((((o8.up 1).setCell 0 hp0.id).setCell 1 hp0.fl).setCell 2 hp0.len).setCell 3 hp0.ar).setCell 4 hp0.dl),ay (ay (ay (ay (ay ((aD (aj kR)).trans k8)))))⟩
   case rest=>
    obtain⟨kp,rfl,oS,kS⟩:=hcut;clear hHd abD oR kR oP EU cqj f0 fl M0 hjl Qs;obtain⟨a,d,r,hpt⟩:=ah.pts HP.out HS.out (oS.up 1);have p1:=hpt.c1;have pl:=hpt.lt;have q0:=oS.cell 0;change World.cell? _ ⟨kp,0,none⟩=some ↑hp0.id at q0;have Aj:fu wc.drew p a d r:=⟨hpt.c0,hpt.c1,hpt.c2,hpt.lt,hpt.fz⟩;have hOp:=ah.Zx HP.out HS.out Aj (gy.one fun R1 oo=>pQ HSD.out oo) (oS.drew.up 1);go_upto_region 13 with fail;have oT0:=(oS.up 5).setCell 0 hp0.id;have oT:Own ((wc.setCell ⟨k1,0,none⟩ hp0.id).setCell ⟨k1,1,none⟩ (-1:Int)).drew (aH k1 238 [hp0.id,(-1:Int)]::aH kp 170 [hp0.id,hp0.fl,hp0.len,hp0.ar,hp0.dl]::ah b m x::slc 258 3 a3 i1 c3 (flat b_ s.sd.P)::slc 238 2 a1 0 c1 (flat dF ml)::aH kb 167 [(j:Int),(i:Int),wt,pk,eG,lag,lead]::R):=oT0.setCell 1 (-1:Int);obtain⟨a',d',r',aek⟩:=ah.pts HP.out HS.out (oT.up 2);have hd':d'=d:=by
     have hc:=aek.c1;have hc2:World.cell? ((wc.setCell ⟨k1,0,none⟩ hp0.id).setCell ⟨k1,1,none⟩ (-1:Int)).drew ⟨p,1,none⟩=some (.pointer (some ⟨d,0,none⟩)):=by obtain⟨_,oq⟩:=ah.DR HP.out HS.out hpt (oS.up 1);have oq2:Own wc (aH k1 238 [aC,aC]::aH p 181 (GL s a d r)::_):=(oq.up 21).re [0,1];exact Own.cell ((((oq2.setCell 0 hp0.id).setCell 1 (-1:Int))).up 1) 1 rfl
     rw[hc2]at hc;injection hc with hc;injection hc with hc;injection hc with hc;injection hc with hc;exact hc.symm
    subst hd';have af6:=ah.Zx HP.out HS.out aek (gy.one fun R1 oo=>pQ HSD.out oo) (oT.up 2);obtain⟨tf,tl,t0,t1,-⟩:=(oS.up 5).cs;clear hpt aek Aj oT0;go_cut[5] (fun v5 wd=>v5=.bool (xQ s.sd)/\Own wd (aH k1 238 [hp0.id,(-1:Int)]::ah b m x::R)/\Calm w wd);case first=>
     go_region_with(first
      |(go_at_call 148;(with_reducible refine Calls.mono hOp ?_);rintro _ w9⟨⟨⟩,Jn,rfl,o9,k9⟩;change Own w9 (ah b m x::_)at o9;have z0:World.cell? w9 ⟨kp,0,none⟩=some ↑hp0.id:=(o9.up 1).cell 0;have s0:=(o9.up 5).cell 0;have s1:=(o9.up 5).cell 1;have sf:=(o9.up 5).frozen;have sl:=(o9.up 5).aS)
      |(go_at_call 148;(with_reducible refine Calls.mono af6 ?_);rintro _ w9⟨⟨⟩,Jn,rfl,oB9,k9⟩;change Own w9 (ah b m x::_)at oB9))
     all_goals go_wp2
     all_goals go_meet
     all_goals first
      |exact⟨rfl,(((o9.up 5).setCell 0 hp0.id).setCell 1 (-1:Int)).re [2,3,4,5] 4,ay (ay ((aD kS).trans k9))⟩
      |exact⟨rfl,(oB9.re [2,3,4,5] 4).swap,(aD (ay (ay kS))).trans k9⟩
    case rest=>
     obtain⟨rfl,oE,KF⟩:=hcut;clear oS kS oT hOp af6 q0 t0 t1 tf tl p1 pl;obtain⟨-,-,t0,t1,-⟩:=oE.cs;change World.cell? _ ⟨k1,0,none⟩=some ↑hp0.id at t0;change World.cell? _ ⟨k1,1,none⟩=some ↑(-1:Int)at t1;go_wp2
     (try simp only[Exit.inBlock,Exit.then])
     refine bodyPost_ret (v:=.tuple #[MH (firstM m s q (j:Int)).1,.bool (firstM m s q (j:Int)).2]) ?_ rfl ⟨rfl,oE.drop,KF⟩;rw[results_cell_tmp rfl,HF.out];unfold MH;dsimp only;rw[HHP.out];go_simp;all_goals rfl
end
end Go.Proofs.YtfejhikpfhgbeaaGreatDoor
