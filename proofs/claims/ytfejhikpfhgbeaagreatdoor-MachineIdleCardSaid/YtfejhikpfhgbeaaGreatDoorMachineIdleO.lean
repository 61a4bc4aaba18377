import Derived.Test.YtfejhikpfhgbeaaGreatDoorMachineIdleD
set_option maxHeartbeats 25600000
set_option maxRecDepth 100000
set_option linter.all false
namespace Go.Proofs.YtfejhikpfhgbeaaGreatDoor
open Go.Proofs.Tryz
open Go.RowKit
open SP
def exE(kb b:Nat)(s:sH):SP:=st [Yo kb b,dP b s]
theorem Kh{w:aF}{R:aJ}{b kb:Nat}{s:sH}{p:lX}(o:Own w (exE kb b s::R)):Calls prog 166 #[Fv p,kb] w (aR (.bool (iF s p)) (exE kb b s::R) w):=
 (Vz (p:=p) (Own.st.1 o)).mono fun e w' h=>⟨h.1,Own.st.2 h.2.1,h.2.2⟩
theorem adY{w:aF}{R:aJ}{g n c i:Nat}{L:List lX}{x:lX}(p:lX)(hn:n=L.length)(hx:L[i]?=some x)(o:Own w (slc 258 3 (some ⟨g,0,none⟩) n c (flat b_ L)::R)):
  Own (((w.setCell ⟨g,i*3+0,none⟩ p.seq).setCell ⟨g,i*3+1,none⟩ p.id).setCell ⟨g,i*3+2,none⟩ p.tr) (slc 258 3 (some ⟨g,0,none⟩) n c (flat b_ (L.set i p))::R):=by
 have hi:=(eU.1 hx).1;have o1:=o.iK (i*3+0) (.int .i64 p.seq) (by rw[aN bu];omega);rw[<-gZ bu L i 0 x (⟨p.seq,x.id,x.tr⟩:lX) (.int .i64 p.seq) hx (by omega) rfl]at o1;have h1:(L.set i (⟨p.seq,x.id,x.tr⟩:lX))[i]?=some (⟨p.seq,x.id,x.tr⟩:lX):=List.getElem?_set_self hi;have o2:=o1.iK (i*3+1) (.int .i64 p.id) (by rw[aN bu];simp only[List.length_set];omega);rw[<-gZ bu (L.set i (⟨p.seq,x.id,x.tr⟩:lX)) i 1 (⟨p.seq,x.id,x.tr⟩:lX) (⟨p.seq,p.id,x.tr⟩:lX) (.int .i64 p.id) h1 (by omega) rfl]at o2;rw[List.set_set]at o2;have h2:(L.set i (⟨p.seq,p.id,x.tr⟩:lX))[i]?=some (⟨p.seq,p.id,x.tr⟩:lX):=List.getElem?_set_self hi;have o3:=o2.iK (i*3+2) (.int .i64 p.tr) (by rw[aN bu];simp only[List.length_set];omega);rw[<-gZ bu (L.set i (⟨p.seq,p.id,x.tr⟩:lX)) i 2 (⟨p.seq,p.id,x.tr⟩:lX) p (.int .i64 p.tr) h2 (by omega) rfl]at o3;rw[List.set_set]at o3;exact o3
def afy(L:List lX)(f:lX->Bool)(n:Nat)(l:aJ)(w:aF)(v:aL)(wr:aF):Prop:=
 ∃i:Nat,v=↑(i:Int)/\i<=n/\(∀j,j<i->∀p,L[j]?=some p->f p=false)/\Own wr l/\Calm w wr
def Cj(L:List lX)(f:lX->Bool):Int:=match L.findIdx? f with
 |some i=>(i:Int)
 |none=>-1
theorem Sn{w:aF}{R:aJ}{b kb:Nat}{s:sH}{n c:Nat}{a:aY}{L:List lX}(hn:n=L.length)(hl:n<=100000)(o:Own w (slc 258 3 a n c (flat b_ L)::exE kb b s::R)):
  Calls prog 197 #[.slice a n c,exF kb] w
   (aR (.int .i64 (Cj L (iF s))) (slc 258 3 a n c (flat b_ L)::exE kb b s::R) w):=by
 have HN:=az hn;clear hn;obtain⟨l,hle⟩:=aP (slc 258 3 a n c (flat b_ L)::exE kb b s::R);have HL:=az hle;rw[hle]at o⊢;clear hle;unfold exF;go_enter func197,ntmps197;go_wp2;go_loopw[5,8] (fun _ v8 wr=>afy L (iF s) n l w v8 wr) (fun _ v _=>n-(Lib.intOf v).toNat);case atStart=>exact⟨0,rfl,by omega,fun j hj=>absurd hj (Nat.not_lt_zero _),o,Calm.refl w⟩
 case round=>
  obtain⟨i,rfl,hi,hno,oR,kR⟩:=hrel;by_cases hil:i<n
  ·obtain⟨p,hp⟩:∃p,L[i]?=some p:=⟨_,cZ (by rw[<-HN.out];exact hil)⟩;have o2:=oR;rw[<-HL.out]at o2;obtain⟨g,rfl,hc,_,hgl⟩:=o2.aG (by omega);have d0:=hc (i*3+0) p.seq (by rw[aB bu L i 0 p hp (by omega)];rfl);have d1:=hc (i*3+1) p.id (by rw[aB bu L i 1 p hp (by omega)];rfl);have d2:=hc (i*3+2) p.tr (by rw[aB bu L i 2 p hp (by omega)];rfl);rw[Nat.add_zero]at d0;have hf:=Kh (p:=p) (o2.up 1);unfold Fv at hf;clear hc;obtain⟨Z,hZ⟩:=aP (iF s p);have HZ:=az hZ;rw[hZ]at hf;clear hZ;go_wp2_with fail;refine hf.mono ?_;rintro e1 w1⟨rfl,o3,k3⟩;have o4:Own w1 l:=by have:=o3.swap;rw[<-HL.out];exact this
   clear o3 hf o2 d0 d1 d2;cases Z with
   |true=>
    have HF:=az (show Cj L (iF s)=(i:Int)from by
     have h1:L.findIdx? (iF s)=some i:=by
      rw[List.findIdx?_eq_some_iff_getElem];obtain⟨hlt,he⟩:=eU.1 hp;refine⟨hlt,?_,fun j hj=>?_⟩
      ·rw[he];exact HZ.out
      ·have h2:=hno j hj _ (cZ (by omega));simpa using h2
     unfold Cj
     rw[h1])
    clear HZ hp hno;go_wp2;go_ret;exact⟨by rw[HF.out];rfl,o4,kR.trans k3⟩
   |false=>
    have HX:=az (show∀j,j<i+1->∀p,L[j]?=some p->iF s p=false from fun j hj x hx=>by
     by_cases he:j=i
     ·subst he;rw[hp]at hx;cases hx;exact HZ.out
     ·exact hno j (by omega) x hx)
    clear HZ hp hno;go_wp2;go_roundw;case rel=>exact⟨i+1,by go_num,by omega,HX.out,o4,kR.trans k3⟩
    case measure=>simp[Lib.intOf];omega
  ·have hin:i=n:=by omega
   have HF:=az (show Cj L (iF s)=-1 from by
    have h1:L.findIdx? (iF s)=none:=by rw[List.findIdx?_eq_none_iff];intro x hx;obtain⟨j,hj,rfl⟩:=List.getElem_of_mem hx;have h2:=hno j (by rw[hin,HN.out];exact hj) _ (cZ hj);simpa using h2
    unfold Cj
    rw[h1])
   subst hin;clear hno;go_wp2;go_ret;exact⟨by rw[HF.out];rfl,oR,kR⟩
def afz(L:List lX)(f:lX->Bool)(n c g:Nat)(l:aJ)(w:aF)(v5 v6:aL)(wr:aF):Prop:=
 ∃(i j:Nat)(K:List lX),v5=↑(i:Int)/\v6=↑(j:Int)/\i<j/\j<=n/\n=K.length/\K.take i=(L.take j).filter (fun p=>!f p)/\K.drop j=L.drop j/\
  Own wr (slc 258 3 (some ⟨g,0,none⟩) n c (flat b_ K)::l)/\Calm w wr
theorem Sq{w:aF}{R:aJ}{b kb:Nat}{s:sH}{n c:Nat}{a:aY}{L:List lX}(hn:n=L.length)(hl:n<=100000)(o:Own w (slc 258 3 a n c (flat b_ L)::exE kb b s::R)):
  Calls prog 165 #[.slice a n c,exF kb] w
   (aR (.slice a (L.filter fun p=>!iF s p).length c) (slc 258 3 a (L.filter fun p=>!iF s p).length c (flat b_ (L.filter fun p=>!iF s p))::exE kb b s::R) w):=by
 have hix:=Sn hn hl o;obtain⟨l,hle⟩:=aP (exE kb b s::R);have HL:=az hle;unfold Cj at hix;cases hfi:L.findIdx? (iF s)with
 |none=>
  rw[hfi]at hix;dsimp only at hix;have hall:L.filter (fun p=>!iF s p)=L:=List.filter_eq_self.2 fun x hx=>by have:=(List.findIdx?_eq_none_iff.1 hfi) x hx;rw[this];rfl
  rw[hall,<-hn];clear hfi hall hn hle HL;unfold exF at*;go_enter func165,ntmps165;go_wp2_with fail;refine hix.mono ?_;rintro e1 w1⟨rfl,o1,k1⟩;go_wp2;go_ret;exact⟨rfl,o1,k1⟩
 |some i0=>
  rw[hfi]at hix;dsimp only at hix;obtain⟨hi0,Zk,Zl⟩:=List.findIdx?_eq_some_iff_getElem.1 hfi;have hst:L.take i0=(L.take (i0+1)).filter (fun p=>!iF s p):=by
   rw[tH,cZ hi0,List.filter_append,List.filter_eq_self.2]
   ·simp[Zk]
   ·intro x hx;obtain⟨j,hj,rfl⟩:=List.getElem_of_mem hx;rw[rZ]at hj;rw[List.getElem_take];have h5:=Zl j (by omega);simp at h5;rw[h5];rfl
  have HST:=az hst;have HN:=az hn;obtain⟨g,rfl,_,_,_⟩:=o.aG (by omega);have hcap:=o.fA;have hne:((i0:Int)==-1)=false:=by rw[Ec];omega
  have adZ:i0<n:=by omega
  rw[hle]at hix⊢;clear hfi Zk Zl hst hle o hi0 hn;unfold exF at*;go_enter func165,ntmps165;go_wp2_with fail;refine hix.mono ?_;rintro e1 w1⟨rfl,o1,k1⟩;clear hix;go_wp2;go_loopw[5,6,7] (fun v5 v6 _ wr=>afz L (iF s) n c g l w v5 v6 wr) (fun _ v _ _=>n-(Lib.intOf v).toNat);case atStart=>exact⟨i0,i0+1,L,rfl,by go_num,by omega,by omega,HN.out,HST.out,rfl,o1,k1⟩
  case round=>
   clear o1 k1 hne adZ;obtain⟨i,j,K,rfl,rfl,hij,hjn,hK,hT,hD,oR,kR⟩:=hrel;have HK:=az hK;have HT:=az hT;have HD:=az hD;have hcap:=oR.fA.2;clear hK hT hD;by_cases hjl:j<n
   ·obtain⟨p,hp⟩:∃p,K[j]?=some p:=⟨_,cZ (by rw[<-HK.out];exact hjl)⟩;obtain⟨x,hx⟩:∃x,K[i]?=some x:=⟨_,cZ (by rw[<-HK.out];omega)⟩;have hpL:L[j]?=some p:=by
     have h1:(K.drop j)[0]?=(L.drop j)[0]?:=by rw[HD.out]
     rw[List.getElem?_drop,List.getElem?_drop,Nat.add_zero]at h1;rw[<-h1];exact hp
    have VQ:=az (show L.take (j+1)=L.take j++[p]by rw[tH,hpL];rfl);obtain⟨g',hg',hc,hfz,hgl⟩:=oR.aG (by omega);cases hg';have d0:=hc (j*3+0) p.seq (by rw[aB bu K j 0 p hp (by omega)];rfl);have d1:=hc (j*3+1) p.id (by rw[aB bu K j 1 p hp (by omega)];rfl);have d2:=hc (j*3+2) p.tr (by rw[aB bu K j 2 p hp (by omega)];rfl);rw[Nat.add_zero]at d0;have oA:=oR.alloc (.cells #[p.seq,p.id,p.tr] 258);have oB:=oA;rw[<-HL.out]at oB;have hf:=Kh (p:=p) (oB.up 2);unfold Fv at hf;clear hc;obtain⟨Z,hZ⟩:=aP (iF s p);have HZ:=az hZ;rw[hZ]at hf;clear hZ hpL hp;go_wp2_with fail;refine hf.mono ?_;rintro e1 w2⟨rfl,o3,k3⟩;have o4:Own w2 (aH wr.heap.size 258 [p.seq,p.id,p.tr]::slc 258 3 (some ⟨g,0,none⟩) n c (flat b_ K)::l):=by have:=o3.re [1,2,0];rw[<-HL.out];exact this
    have K3:Calm w w2:=(aj kR).trans k3;clear o3 hf oA oB oR d0 d1 d2;cases Z with
    |true=>
     have HX:=az (show K.take i=(L.take (j+1)).filter (fun p=>!iF s p)by rw[VQ.out,List.filter_append,<-HT.out];simp[HZ.out])
     have HY:=az (show K.drop (j+1)=L.drop (j+1)by
      have h1:(K.drop j).drop 1=(L.drop j).drop 1:=by rw[HD.out]
      rw[List.drop_drop,List.drop_drop]at h1
      exact h1)
     clear HZ HT HD VQ hx;go_wp2;go_roundw;case rel=>exact⟨i,j+1,K,rfl,by go_num,by omega,by omega,HK.out,HX.out,HY.out,o4.drop,K3⟩
     case measure=>simp[Lib.intOf];omega
    |false=>
     have HX:=az (show(K.set i p).take (i+1)=(L.take (j+1)).filter (fun p=>!iF s p)by
      rw[VQ.out,List.filter_append,<-HT.out,tH,List.getElem?_set_self (eU.1 hx).1,List.take_set_of_le (Nat.le_refl i)]
      simp[HZ.out])
     have HY:=az (show(K.set i p).drop (j+1)=L.drop (j+1)by
      rw[List.drop_set_of_lt (by omega)];have h1:(K.drop j).drop 1=(L.drop j).drop 1:=by rw[HD.out]
      rw[List.drop_drop,List.drop_drop]at h1
      exact h1)
     have HLn:=az (show n=(K.set i p).length by rw[List.length_set];exact HK.out);have o5:=adY p HK.out hx (o4.up 1);obtain⟨-,-,y0,y1,y2,-⟩:=o4.cs;have K5:Calm w (((w2.setCell ⟨g,i*3+0,none⟩ p.seq).setCell ⟨g,i*3+1,none⟩ p.id).setCell ⟨g,i*3+2,none⟩ p.tr):=⟨K3.os,K3.tape,K3.output⟩;have gf:=(o4.up 1).aG (by omega);obtain⟨g2,hg2,hcx,gf,gl⟩:=gf;cases hg2;have z0:=hcx (i*3+0) x.seq (by rw[aB bu K i 0 x hx (by omega)];rfl);have z1:=hcx (i*3+1) x.id (by rw[aB bu K i 1 x hx (by omega)];rfl);have z2:=hcx (i*3+2) x.tr (by rw[aB bu K i 2 x hx (by omega)];rfl);rw[Nat.add_zero]at o5 K5 z0;clear hcx;clear HZ HT HD VQ hx HK;go_wp2;go_roundw;case rel=>exact⟨i+1,j+1,K.set i p,by go_num,by go_num,by omega,by omega,HLn.out,HX.out,HY.out,o5.re [1] 1,K5⟩
     case measure=>simp[Lib.intOf];omega
   ·have Zm:j=n:=by omega
    have HF:=az (show K.take i=L.filter (fun p=>!iF s p)by
     have h1:=HT.out;rw[Zm,HN.out,List.take_length]at h1
     exact h1)
    have HLi:=az (show(L.filter fun p=>!iF s p).length=i by
     rw[<-HF.out,rZ,Nat.min_eq_left (by rw[<-HK.out];omega)])
    have hsp:flat b_ K=flat b_ (K.take i)++flat b_ (K.drop i):=by rw[<-aO,List.take_append_drop]
    have htl:(flat b_ (K.take i)).length=i*3:=by rw[aN bu,rZ,Nat.min_eq_left (by rw[<-HK.out];omega)]
    rw[hsp]at oR;have o2:=Own.lW oR (by omega) htl;obtain⟨w6,hcl,o7,k7⟩:=fB 0 Tryz.pndT Tryz.pndZ rfl Fx o2 (m:=n-i) (c:=c-i) (by omega);subst Zm;have hic:i<=c:=by omega
    have hij2:i<=j:=by omega
    clear hsp htl oR o2 hjl HT HD;go_wp2;go_ret;rw[HLi.out,<-HF.out];exact⟨rfl,o7,kR.trans k7⟩
section
variable{w w':aF}{R:aJ}{b:Nat}{s:sH}
def El(s:sH):List lX:=s.P.filter fun p=>!iF s p
theorem PD(hs:s.Ok)(o:Own w (dP b s::R)):
  Calls prog 111 #[b] w fun e w'=>∃a c,aR (.slice a (El s).length c) (slc 258 3 a (El s).length c (flat b_ (El s))::dP b s::R) w e w':=by
 have hl:=hs.len;have oA:Own _ (Yo w.heap.size b::dP b s::R):=o.alloc (.cells #[b] 178);have c0:=oA.cell 0;have hp:=kN hs (oA.up 1);have hdf:=fun(a:aY)(c:Nat)(w1:aF)(o1:Own w1 (slc 258 3 a s.P.length c (flat b_ s.P)::exE w.heap.size b s::R))=>Sq (L:=s.P) rfl (by omega) o1;unfold exF at hdf;unfold El;clear hl hs;go_enter func111,ntmps111;go_wp2_with fail;refine hp.mono ?_;rintro e1 w1⟨a1,c1,rfl,o1,k1⟩;have oX:Own w1 (exE w.heap.size b s::slc 258 3 a1 s.P.length c1 (flat b_ s.P)::R):=Own.st.2 (o1.re [2,1,0]);have o2:=oX.swap;have h2:=hdf a1 c1 w1 o2;have K1:=(aj (x:=.cells #[b] 178) (Calm.refl w)).trans k1;clear hdf hp c0;go_wp2_with fail;refine h2.mono ?_;rintro e2 w2⟨rfl,o3,k3⟩;go_wp2;go_ret;have o4:Own w2 (Yo w.heap.size b::dP b s::slc 258 3 a1 (s.P.filter fun p=>!iF s p).length c1 (flat b_ (s.P.filter fun p=>!iF s p))::R):=Own.st.1 o3.swap;exact⟨a1,c1,rfl,(o4.re [0] 1).swap,K1.trans k3⟩
end
end Go.Proofs.YtfejhikpfhgbeaaGreatDoor
