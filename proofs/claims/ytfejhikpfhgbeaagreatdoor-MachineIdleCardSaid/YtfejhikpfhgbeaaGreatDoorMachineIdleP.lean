import Derived.Test.YtfejhikpfhgbeaaGreatDoorMachineIdleC
set_option maxHeartbeats 25600000
set_option maxRecDepth 100000
set_option linter.all false
namespace Go.Proofs.YtfejhikpfhgbeaaGreatDoor
open Go.Proofs.Tryz
open Go.RowKit
open SP
def dJ(q:Int)(p:iA):Bool:=(p.dl !=-1)&&decide (p.dl<q)
def ltF(kb:Nat):aL:=.func (.func 90) #[] #[kb]
section
variable{w:aF}{R:aJ}{kb:Nat}{q:Int}{p:iA}
theorem Ki(o:Own w R):Calls prog 88 #[rP p,q] w (aR (.bool (dJ q p)) R w):=by
 have oA:Own (w.alloc (.cells #[p.id,p.fl,p.len,p.ar,p.dl] 170)) (aH w.heap.size 170 (bR p)::R):=o.alloc (.cells #[p.id,p.fl,p.len,p.ar,p.dl] 170);have c4:=oA.cell 4;change World.cell? _ ⟨w.heap.size,4,none⟩=some ↑p.dl at c4;unfold rP dJ;obtain⟨Z1,h1⟩:=aP ((p.dl !=-1));obtain⟨Z2,h2⟩:=aP (decide (p.dl<q));rw[h1,h2];go_enter func88,ntmps88;cases Z1<;>
 ·go_wp2;go_ret;exact⟨rfl,oA.drop,⟨rfl,rfl,rfl⟩⟩
theorem Gw(o:Own w (aH kb 3 [q]::R)):Calls prog 90 #[rP p,kb] w (aR (.bool (dJ q p)) (aH kb 3 [q]::R) w):=by have oA:Own (w.alloc (.cells #[p.id,p.fl,p.len,p.ar,p.dl] 170)) (aH w.heap.size 170 (bR p)::_):=o.alloc (.cells #[p.id,p.fl,p.len,p.ar,p.dl] 170);have p0:=oA.cell 0;change World.cell? _ ⟨w.heap.size,0,none⟩=some ↑p.id at p0;have p1:=oA.cell 1;change World.cell? _ ⟨w.heap.size,1,none⟩=some ↑p.fl at p1;have p2:=oA.cell 2;change World.cell? _ ⟨w.heap.size,2,none⟩=some ↑p.len at p2;have p3:=oA.cell 3;change World.cell? _ ⟨w.heap.size,3,none⟩=some ↑p.ar at p3;have p4:=oA.cell 4;change World.cell? _ ⟨w.heap.size,4,none⟩=some ↑p.dl at p4;have k0:=(oA.up 1).cell 0;have kl:=o.aS;have hl:=Ki (p:=p) (q:=q) oA;unfold rP at*;go_enter func90,ntmps90;go_wp2_with fail;refine hl.mono ?_;rintro e1 w1⟨rfl,o1,k1⟩;go_wp2;go_ret;exact⟨rfl,o1.drop,(aj (x:=.cells #[p.id,p.fl,p.len,p.ar,p.dl] 170) (Calm.refl w)).trans k1⟩
end
theorem afA{w:aF}{R:aJ}{g n c i:Nat}{L:List iA}{x:iA}(p:iA)(hn:n=L.length)(hx:L[i]?=some x)(o:Own w (slc 170 5 (some ⟨g,0,none⟩) n c (flat bR L)::R)):
  Own (((((w.setCell ⟨g,i*5+0,none⟩ p.id).setCell ⟨g,i*5+1,none⟩ p.fl).setCell ⟨g,i*5+2,none⟩ p.len).setCell ⟨g,i*5+3,none⟩ p.ar).setCell ⟨g,i*5+4,none⟩ p.dl) (slc 170 5 (some ⟨g,0,none⟩) n c (flat bR (L.set i p))::R):=by
 have hi:=(eU.1 hx).1;have o1:=o.iK (i*5+0) (.int .i64 p.id) (by rw[aN aT];omega);rw[<-gZ aT L i 0 x (⟨p.id,x.fl,x.len,x.ar,x.dl⟩:iA) (.int .i64 p.id) hx (by omega) rfl]at o1;have h1:(L.set i (⟨p.id,x.fl,x.len,x.ar,x.dl⟩:iA))[i]?=some (⟨p.id,x.fl,x.len,x.ar,x.dl⟩:iA):=List.getElem?_set_self hi;have o2:=o1.iK (i*5+1) (.int .i64 p.fl) (by rw[aN aT];simp only[List.length_set];omega);rw[<-gZ aT (L.set i (⟨p.id,x.fl,x.len,x.ar,x.dl⟩:iA)) i 1 (⟨p.id,x.fl,x.len,x.ar,x.dl⟩:iA) (⟨p.id,p.fl,x.len,x.ar,x.dl⟩:iA) (.int .i64 p.fl) h1 (by omega) rfl]at o2;rw[List.set_set]at o2;have h2:(L.set i (⟨p.id,p.fl,x.len,x.ar,x.dl⟩:iA))[i]?=some (⟨p.id,p.fl,x.len,x.ar,x.dl⟩:iA):=List.getElem?_set_self hi;have o3:=o2.iK (i*5+2) (.int .i64 p.len) (by rw[aN aT];simp only[List.length_set];omega);rw[<-gZ aT (L.set i (⟨p.id,p.fl,x.len,x.ar,x.dl⟩:iA)) i 2 (⟨p.id,p.fl,x.len,x.ar,x.dl⟩:iA) (⟨p.id,p.fl,p.len,x.ar,x.dl⟩:iA) (.int .i64 p.len) h2 (by omega) rfl]at o3;rw[List.set_set]at o3;have h3:(L.set i (⟨p.id,p.fl,p.len,x.ar,x.dl⟩:iA))[i]?=some (⟨p.id,p.fl,p.len,x.ar,x.dl⟩:iA):=List.getElem?_set_self hi;have o4:=o3.iK (i*5+3) (.int .i64 p.ar) (by rw[aN aT];simp only[List.length_set];omega);rw[<-gZ aT (L.set i (⟨p.id,p.fl,p.len,x.ar,x.dl⟩:iA)) i 3 (⟨p.id,p.fl,p.len,x.ar,x.dl⟩:iA) (⟨p.id,p.fl,p.len,p.ar,x.dl⟩:iA) (.int .i64 p.ar) h3 (by omega) rfl]at o4;rw[List.set_set]at o4;have h4:(L.set i (⟨p.id,p.fl,p.len,p.ar,x.dl⟩:iA))[i]?=some (⟨p.id,p.fl,p.len,p.ar,x.dl⟩:iA):=List.getElem?_set_self hi;have o5:=o4.iK (i*5+4) (.int .i64 p.dl) (by rw[aN aT];simp only[List.length_set];omega);rw[<-gZ aT (L.set i (⟨p.id,p.fl,p.len,p.ar,x.dl⟩:iA)) i 4 (⟨p.id,p.fl,p.len,p.ar,x.dl⟩:iA) p (.int .i64 p.dl) h4 (by omega) rfl]at o5;rw[List.set_set]at o5;exact o5
def ahe(L:List iA)(f:iA->Bool)(n:Nat)(l:aJ)(w:aF)(v:aL)(wr:aF):Prop:=
 ∃i:Nat,v=↑(i:Int)/\i<=n/\(∀j,j<i->∀p,L[j]?=some p->f p=false)/\Own wr l/\Calm w wr
def Kj(L:List iA)(f:iA->Bool):Int:=match L.findIdx? f with
 |some i=>(i:Int)
 |none=>-1
theorem Wx{w:aF}{R:aJ}{kb:Nat}{q:Int}{n c:Nat}{a:aY}{L:List iA}(hn:n=L.length)(hl:n<=100000)(o:Own w (slc 170 5 a n c (flat bR L)::aH kb 3 [q]::R)):
  Calls prog 136 #[.slice a n c,ltF kb] w
   (aR (.int .i64 (Kj L (dJ q))) (slc 170 5 a n c (flat bR L)::aH kb 3 [q]::R) w):=by
 have HN:=az hn;clear hn;obtain⟨l,hle⟩:=aP (slc 170 5 a n c (flat bR L)::aH kb 3 [q]::R);have HL:=az hle;rw[hle]at o⊢;clear hle;unfold ltF;go_enter func136,ntmps136;go_wp2;go_loopw[5,8] (fun _ v8 wr=>ahe L (dJ q) n l w v8 wr) (fun _ v _=>n-(Lib.intOf v).toNat);case atStart=>exact⟨0,rfl,by omega,fun j hj=>absurd hj (Nat.not_lt_zero _),o,Calm.refl w⟩
 case round=>
  obtain⟨i,rfl,hi,hno,oR,kR⟩:=hrel;by_cases hil:i<n
  ·obtain⟨p,hp⟩:∃p,L[i]?=some p:=⟨_,cZ (by rw[<-HN.out];exact hil)⟩;have o2:=oR;rw[<-HL.out]at o2;obtain⟨g,rfl,hc,_,hgl⟩:=o2.aG (by omega);have d0:=hc (i*5+0) p.id (by rw[aB aT L i 0 p hp (by omega)];rfl);have d1:=hc (i*5+1) p.fl (by rw[aB aT L i 1 p hp (by omega)];rfl);have d2:=hc (i*5+2) p.len (by rw[aB aT L i 2 p hp (by omega)];rfl);have d3:=hc (i*5+3) p.ar (by rw[aB aT L i 3 p hp (by omega)];rfl);have d4:=hc (i*5+4) p.dl (by rw[aB aT L i 4 p hp (by omega)];rfl);rw[Nat.add_zero]at d0;have hf:=Gw (p:=p) (o2.up 1);unfold rP at hf;clear hc;obtain⟨Z,hZ⟩:=aP (dJ q p);have HZ:=az hZ;rw[hZ]at hf;clear hZ;go_wp2_with fail;refine hf.mono ?_;rintro e1 w1⟨rfl,o3,k3⟩;have o4:Own w1 l:=by have:=o3.swap;rw[<-HL.out];exact this
   clear o3 hf o2 d0 d1 d2 d3 d4;cases Z with
   |true=>
    have HF:=az (show Kj L (dJ q)=(i:Int)from by
     have h1:L.findIdx? (dJ q)=some i:=by
      rw[List.findIdx?_eq_some_iff_getElem];obtain⟨hlt,he⟩:=eU.1 hp;refine⟨hlt,?_,fun j hj=>?_⟩
      ·rw[he];exact HZ.out
      ·have h2:=hno j hj _ (cZ (by omega));simpa using h2
     unfold Kj
     rw[h1])
    clear HZ hp hno;go_wp2;go_ret;exact⟨by rw[HF.out];rfl,o4,kR.trans k3⟩
   |false=>
    have HX:=az (show∀j,j<i+1->∀p,L[j]?=some p->dJ q p=false from fun j hj x hx=>by
     by_cases he:j=i
     ·subst he;rw[hp]at hx;cases hx;exact HZ.out
     ·exact hno j (by omega) x hx)
    clear HZ hp hno;go_wp2;go_roundw;case rel=>exact⟨i+1,by go_num,by omega,HX.out,o4,kR.trans k3⟩
    case measure=>simp[Lib.intOf];omega
  ·have hin:i=n:=by omega
   have HF:=az (show Kj L (dJ q)=-1 from by
    have h1:L.findIdx? (dJ q)=none:=by rw[List.findIdx?_eq_none_iff];intro x hx;obtain⟨j,hj,rfl⟩:=List.getElem_of_mem hx;have h2:=hno j (by rw[hin,HN.out];exact hj) _ (cZ hj);simpa using h2
    unfold Kj
    rw[h1])
   subst hin;clear hno;go_wp2;go_ret;exact⟨by rw[HF.out];rfl,oR,kR⟩
def ahf(L:List iA)(f:iA->Bool)(n c g:Nat)(l:aJ)(w:aF)(v5 v6:aL)(wr:aF):Prop:=
 ∃(i j:Nat)(K:List iA),v5=↑(i:Int)/\v6=↑(j:Int)/\i<j/\j<=n/\n=K.length/\K.take i=(L.take j).filter (fun p=>!f p)/\K.drop j=L.drop j/\
  Own wr (slc 170 5 (some ⟨g,0,none⟩) n c (flat bR K)::l)/\Calm w wr
theorem Wy{w:aF}{R:aJ}{kb:Nat}{q:Int}{n c:Nat}{a:aY}{L:List iA}(hn:n=L.length)(hl:n<=100000)(o:Own w (slc 170 5 a n c (flat bR L)::aH kb 3 [q]::R)):
  Calls prog 89 #[.slice a n c,ltF kb] w
   (aR (.slice a (L.filter fun p=>!dJ q p).length c) (slc 170 5 a (L.filter fun p=>!dJ q p).length c (flat bR (L.filter fun p=>!dJ q p))::aH kb 3 [q]::R) w):=by
 have hix:=Wx hn hl o;obtain⟨l,hle⟩:=aP (aH kb 3 [q]::R);have HL:=az hle;unfold Kj at hix;cases hfi:L.findIdx? (dJ q)with
 |none=>
  rw[hfi]at hix;dsimp only at hix;have hall:L.filter (fun p=>!dJ q p)=L:=List.filter_eq_self.2 fun x hx=>by have:=(List.findIdx?_eq_none_iff.1 hfi) x hx;rw[this];rfl
  rw[hall,<-hn];clear hfi hall hn hle HL;unfold ltF at*;go_enter func89,ntmps89;go_wp2_with fail;refine hix.mono ?_;rintro e1 w1⟨rfl,o1,k1⟩;go_wp2;go_ret;exact⟨rfl,o1,k1⟩
 |some i0=>
  rw[hfi]at hix;dsimp only at hix;obtain⟨hi0,Zk,Zl⟩:=List.findIdx?_eq_some_iff_getElem.1 hfi;have hst:L.take i0=(L.take (i0+1)).filter (fun p=>!dJ q p):=by
   rw[tH,cZ hi0,List.filter_append,List.filter_eq_self.2]
   ·simp[Zk]
   ·intro x hx;obtain⟨j,hj,rfl⟩:=List.getElem_of_mem hx;rw[rZ]at hj;rw[List.getElem_take];have h5:=Zl j (by omega);simp at h5;rw[h5];rfl
  have HST:=az hst;have HN:=az hn;obtain⟨g,rfl,_,_,_⟩:=o.aG (by omega);have hcap:=o.fA;have hne:((i0:Int)==-1)=false:=by rw[Ec];omega
  have adZ:i0<n:=by omega
  rw[hle]at hix⊢;clear hfi Zk Zl hst hle o hi0 hn;unfold ltF at*;go_enter func89,ntmps89;go_wp2_with fail;refine hix.mono ?_;rintro e1 w1⟨rfl,o1,k1⟩;clear hix;go_wp2;go_loopw[5,6,7] (fun v5 v6 _ wr=>ahf L (dJ q) n c g l w v5 v6 wr) (fun _ v _ _=>n-(Lib.intOf v).toNat);case atStart=>exact⟨i0,i0+1,L,rfl,by go_num,by omega,by omega,HN.out,HST.out,rfl,o1,k1⟩
  case round=>
   clear o1 k1 hne adZ;obtain⟨i,j,K,rfl,rfl,hij,hjn,hK,hT,hD,oR,kR⟩:=hrel;have HK:=az hK;have HT:=az hT;have HD:=az hD;have hcap:=oR.fA.2;clear hK hT hD;by_cases hjl:j<n
   ·obtain⟨p,hp⟩:∃p,K[j]?=some p:=⟨_,cZ (by rw[<-HK.out];exact hjl)⟩;obtain⟨x,hx⟩:∃x,K[i]?=some x:=⟨_,cZ (by rw[<-HK.out];omega)⟩;have hpL:L[j]?=some p:=by
     have h1:(K.drop j)[0]?=(L.drop j)[0]?:=by rw[HD.out]
     rw[List.getElem?_drop,List.getElem?_drop,Nat.add_zero]at h1;rw[<-h1];exact hp
    have VQ:=az (show L.take (j+1)=L.take j++[p]by rw[tH,hpL];rfl);obtain⟨g',hg',hc,hfz,hgl⟩:=oR.aG (by omega);cases hg';have d0:=hc (j*5+0) p.id (by rw[aB aT K j 0 p hp (by omega)];rfl);have d1:=hc (j*5+1) p.fl (by rw[aB aT K j 1 p hp (by omega)];rfl);have d2:=hc (j*5+2) p.len (by rw[aB aT K j 2 p hp (by omega)];rfl);have d3:=hc (j*5+3) p.ar (by rw[aB aT K j 3 p hp (by omega)];rfl);have d4:=hc (j*5+4) p.dl (by rw[aB aT K j 4 p hp (by omega)];rfl);rw[Nat.add_zero]at d0;have oA:=oR.alloc (.cells #[p.id,p.fl,p.len,p.ar,p.dl] 170);have oB:=oA;rw[<-HL.out]at oB;have hf:=Gw (p:=p) (oB.up 2);unfold rP at hf;clear hc;obtain⟨Z,hZ⟩:=aP (dJ q p);have HZ:=az hZ;rw[hZ]at hf;clear hZ hpL hp;go_wp2_with fail;refine hf.mono ?_;rintro e1 w2⟨rfl,o3,k3⟩;have o4:Own w2 (aH wr.heap.size 170 [p.id,p.fl,p.len,p.ar,p.dl]::slc 170 5 (some ⟨g,0,none⟩) n c (flat bR K)::l):=by have:=o3.re [1,2,0];rw[<-HL.out];exact this
    have K3:Calm w w2:=(aj kR).trans k3;clear o3 hf oA oB oR d0 d1 d2 d3 d4;cases Z with
    |true=>
     have HX:=az (show K.take i=(L.take (j+1)).filter (fun p=>!dJ q p)by rw[VQ.out,List.filter_append,<-HT.out];simp[HZ.out])
     have HY:=az (show K.drop (j+1)=L.drop (j+1)by
      have h1:(K.drop j).drop 1=(L.drop j).drop 1:=by rw[HD.out]
      rw[List.drop_drop,List.drop_drop]at h1
      exact h1)
     clear HZ HT HD VQ hx;go_wp2;go_roundw;case rel=>exact⟨i,j+1,K,rfl,by go_num,by omega,by omega,HK.out,HX.out,HY.out,o4.drop,K3⟩
     case measure=>simp[Lib.intOf];omega
    |false=>
     have HX:=az (show(K.set i p).take (i+1)=(L.take (j+1)).filter (fun p=>!dJ q p)by
      rw[VQ.out,List.filter_append,<-HT.out,tH,List.getElem?_set_self (eU.1 hx).1,List.take_set_of_le (Nat.le_refl i)]
      simp[HZ.out])
     have HY:=az (show(K.set i p).drop (j+1)=L.drop (j+1)by
      rw[List.drop_set_of_lt (by omega)];have h1:(K.drop j).drop 1=(L.drop j).drop 1:=by rw[HD.out]
      rw[List.drop_drop,List.drop_drop]at h1
      exact h1)
     have HLn:=az (show n=(K.set i p).length by rw[List.length_set];exact HK.out);have o5:=afA p HK.out hx (o4.up 1);obtain⟨-,-,y0,y1,y2,y3,y4,-⟩:=o4.cs;have K5:Calm w (((((w2.setCell ⟨g,i*5+0,none⟩ p.id).setCell ⟨g,i*5+1,none⟩ p.fl).setCell ⟨g,i*5+2,none⟩ p.len).setCell ⟨g,i*5+3,none⟩ p.ar).setCell ⟨g,i*5+4,none⟩ p.dl):=⟨K3.os,K3.tape,K3.output⟩;have gf:=(o4.up 1).aG (by omega);obtain⟨g2,hg2,hcx,gf,gl⟩:=gf;cases hg2;have z0:=hcx (i*5+0) x.id (by rw[aB aT K i 0 x hx (by omega)];rfl);have z1:=hcx (i*5+1) x.fl (by rw[aB aT K i 1 x hx (by omega)];rfl);have z2:=hcx (i*5+2) x.len (by rw[aB aT K i 2 x hx (by omega)];rfl);have z3:=hcx (i*5+3) x.ar (by rw[aB aT K i 3 x hx (by omega)];rfl);have z4:=hcx (i*5+4) x.dl (by rw[aB aT K i 4 x hx (by omega)];rfl);rw[Nat.add_zero]at o5 K5 z0;clear hcx;clear HZ HT HD VQ hx HK;go_wp2;go_roundw;case rel=>exact⟨i+1,j+1,K.set i p,by go_num,by go_num,by omega,by omega,HLn.out,HX.out,HY.out,o5.re [1] 1,K5⟩
     case measure=>simp[Lib.intOf];omega
   ·have Zm:j=n:=by omega
    have HF:=az (show K.take i=L.filter (fun p=>!dJ q p)by
     have h1:=HT.out;rw[Zm,HN.out,List.take_length]at h1
     exact h1)
    have HLi:=az (show(L.filter fun p=>!dJ q p).length=i by
     rw[<-HF.out,rZ,Nat.min_eq_left (by rw[<-HK.out];omega)])
    have hsp:flat bR K=flat bR (K.take i)++flat bR (K.drop i):=by rw[<-aO,List.take_append_drop]
    have htl:(flat bR (K.take i)).length=i*5:=by rw[aN aT,rZ,Nat.min_eq_left (by rw[<-HK.out];omega)]
    rw[hsp]at oR;have o2:=Own.lW oR (by omega) htl;obtain⟨w6,hcl,o7,k7⟩:=fB 0 Tryz.pktT Tryz.pktZ rfl Fp o2 (m:=n-i) (c:=c-i) (by omega);subst Zm;have hic:i<=c:=by omega
    have hij2:i<=j:=by omega
    clear hsp htl oR o2 hjl HT HD;go_wp2;go_ret;rw[HLi.out,<-HF.out];exact⟨rfl,o7,kR.trans k7⟩
end Go.Proofs.YtfejhikpfhgbeaaGreatDoor
