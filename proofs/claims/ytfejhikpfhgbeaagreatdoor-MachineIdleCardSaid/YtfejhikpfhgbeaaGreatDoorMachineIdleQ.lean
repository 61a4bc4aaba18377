import Derived.Test.YtfejhikpfhgbeaaGreatDoorMachineIdleD
import Derived.Test.YtfejhikpfhgbeaaGreatDoorMachineIdleP
set_option maxHeartbeats 25600000
set_option maxRecDepth 100000
set_option linter.all false
namespace Go.Proofs.YtfejhikpfhgbeaaGreatDoor
open Go.Proofs.Tryz
open Go.RowKit
open SP
section
variable{w w':aF}{R:aJ}{b:Nat}{q:xP}
theorem Jb{a:aY}{n c:Nat}{L:List iA}(hn:n<=1000)(o:Own w (slc 170 5 a n c (flat bR L)::R)):
  Calls prog 244 #[.slice a n c] w fun e w'=>∃a' c',aR (.slice a' n c') (slc 170 5 a' n c' (flat bR L)::slc 170 5 a n c (flat bR L)::R) w e w':=by
 have hnil:=fun(w:aF)(a:aY)(n c:Nat)=>Lib.run_eql_slice_nil w 71 170 a n c 0 0 underlying71;rcases Own.slc.1 o with⟨rfl,rfl,rfl,hS,o1⟩|⟨g,sp,rfl,h1,h2,h3,h4,o1⟩
 ·have o2:=Own.bH (e:=170) (size:=5) o;rw[<-hS]at o2;clear hS;go_enter func244,ntmps244;go_wp2;go_ret;exact⟨none,0,rfl,o2,Calm.refl w⟩
 ·clear o1 h1 h2 h3 h4 sp;have oZ:=sG (e:=170) (size:=5) (o.alloc (.cells #[] 170));have hsrc:=sI (NW L) (oZ.up 1);go_enter func244,ntmps244;go_wp2_with(at_builtin;refine aQ rfl _ _ rfl Tryz.pktT rfl oZ rfl hsrc (by unfold maxLen;omega) (by omega) ?k1);case k1=>intro a' c' w6 o6 k6;go_wp2;go_ret;exact⟨a',c',rfl,o6,k6.al⟩
theorem Em(hn:q.P.length<=1000)(o:Own w (dQ b q::R)):
  Calls prog 188 #[b] w fun e w'=>∃a' c',aR (.slice a' q.P.length c') (slc 170 5 a' q.P.length c' (flat bR q.P)::dQ b q::R) w e w':=by
 obtain⟨a,c,o1⟩:=dQ.iff.1 o;have c2:=o1.cell 2;have hcl:=Jb (n:=q.P.length) (by omega) (o1.up 1);clear hn;go_enter func188,ntmps188;go_wp2_with fail;refine hcl.mono ?_;rintro e1 w1⟨a',c',rfl,o2,k2⟩;go_wp2;go_ret;exact⟨a',c',rfl,(Own.swap (dQ.iff.2 ⟨a,c,o2.re [2,1,0]⟩)),k2⟩
structure abl(p:iA):Prop where
 l:0<=p.len
 u:p.len<=4096
theorem Ck:∀{L:List iA},(∀p∈L,abl p)->0<=bE L/\bE L<=4096*(L.length:Int)
 |[],_=>⟨Int.le_refl 0,Int.le_refl 0⟩
 |p::L,h=>by have h1:=Ck (L:=L) fun x hx=>h x (List.mem_cons_of_mem _ hx);have h2:=h p List.mem_cons_self;have h3:=h2.l;have h4:=h2.u;show 0<=p.len+bE L/\p.len+bE L<=4096*((L.length+1:Nat):Int);omega
theorem DD(f:iA->Bool):∀L:List iA,bE (L.filter f)+bE (L.filter fun p=>!f p)=bE L
 |[]=>rfl
 |p::L=>by
  have h1:=DD f L;show _=p.len+bE L;cases h:f p with
  |true=>rw[List.filter_cons_of_pos h,List.filter_cons_of_neg (by rw[h];decide)];show p.len+bE _+_=_;omega
  |false=>rw[List.filter_cons_of_neg (by rw[h];decide),List.filter_cons_of_pos (by rw[h];rfl)];show _+(p.len+bE _)=_;omega
def PE(q:xP)(t:Int):xP:=⟨q.mo,q.mb,q.P.filter fun p=>!dJ t p⟩
def AQ(q:xP)(t:Int):List iA:=q.P.filter (dJ t)
def afB(q:xP)(t:Int)(b kb:Nat)(g:aY)(cg:Nat)(R:aJ)(w:aF)(v5 v13:aL)(wr:aF):Prop:=
 ∃(i:Nat)(a1:aY)(n1 c1:Nat),v13=↑(i:Int)/\i<=q.P.length/\v5=.slice a1 n1 c1/\n1=((q.P.take i).filter (dJ t)).length/\n1<=i/\
  Own wr (slc 170 5 a1 n1 c1 (flat bR ((q.P.take i).filter (dJ t)))::aH b 204 [q.mo,q.mb,.slice g q.P.length cg,(bE q.P-bE ((q.P.take i).filter (dJ t)):Int)]::
   slc 170 5 g q.P.length cg (flat bR q.P)::aH kb 3 [t]::R)/\Calm w wr
theorem Gx{t:Int}(hp:∀p∈q.P,abl p)(hn:q.P.length<=1000)(o:Own w (dQ b q::R)):
  Calls prog 57 #[b,t] w fun e w'=>∃a c,aR (.slice a (AQ q t).length c) (slc 170 5 a (AQ q t).length c (flat bR (AQ q t))::dQ b (PE q t)::R) w e w':=by
 obtain⟨g,cg,o1⟩:=dQ.iff.1 o;have oK:Own (w.alloc (.cells #[t] 3)) (aH w.heap.size 3 [t]::_):=o1.alloc (.cells #[t] 3);have K0:Calm w (w.alloc (.cells #[t] 3)):=⟨rfl,rfl,rfl⟩;have c2:=(oK.up 1).cell 2;have hlf:=fun i=>List.length_filter_le (dJ t) (q.P.take i);have HB:=az (Ck hp);have HP:=az hp;go_enter func57,ntmps57;go_upto_region 2 with fail;generalize w.alloc (.cells #[t] 3)=w0 at*;generalize w.heap.size=kb at*;have oS:=Own.bH (e:=170) (size:=5) (oK.re [1,2,0]);clear oK o1 o hp;go_wp2;go_loopw[5,7,13] (fun v5 _ v13 wr=>afB q t b kb g cg R w v5 v13 wr) (fun _ _ v _=>q.P.length-(Lib.intOf v).toNat);case atStart=>exact⟨0,none,0,0,rfl,by omega,rfl,rfl,by omega,by rw[show bE q.P-bE ((q.P.take 0).filter (dJ t))=bE q.P from Int.sub_zero _];exact oS,K0⟩
 case round=>
  clear oS K0 c2;obtain⟨i,a1,n1,c1,rfl,hi,rfl,hn1,hn2,oR,kR⟩:=hrel;have Yn:=az hn1;clear hn1;by_cases hil:i<q.P.length
  ·obtain⟨p,hp⟩:∃p,q.P[i]?=some p:=⟨_,cZ hil⟩;obtain⟨g',rfl,hc,_,hgl⟩:=(oR.up 2).aG (by omega);have e0:=hc (i*5+0) p.id (by rw[aB aT q.P i 0 p hp (by omega)];rfl);have e1:=hc (i*5+1) p.fl (by rw[aB aT q.P i 1 p hp (by omega)];rfl);have e2:=hc (i*5+2) p.len (by rw[aB aT q.P i 2 p hp (by omega)];rfl);have e3:=hc (i*5+3) p.ar (by rw[aB aT q.P i 3 p hp (by omega)];rfl);have e4:=hc (i*5+4) p.dl (by rw[aB aT q.P i 4 p hp (by omega)];rfl);rw[Nat.add_zero]at e0;clear hc;have oX:Own (wr.alloc (.cells #[p.id,p.fl,p.len,p.ar,p.dl] 170)) (aH wr.heap.size 170 (bR p)::_):=oR.alloc (.cells #[p.id,p.fl,p.len,p.ar,p.dl] 170);obtain⟨D,hD⟩:=aP (bE q.P-bE ((q.P.take i).filter (dJ t)));have HD:=az hD;rw[hD]at oX;have kX:=aj (x:=.cells #[p.id,p.fl,p.len,p.ar,p.dl] 170) kR;have hl:=Ki (p:=p) (q:=t) oX;have k0:=(oX.up 4).cell 0;have p0:=oX.cell 0;change World.cell? _ ⟨wr.heap.size,0,none⟩=some ↑p.id at p0;have p1:=oX.cell 1;change World.cell? _ ⟨wr.heap.size,1,none⟩=some ↑p.fl at p1;have p2:=oX.cell 2;change World.cell? _ ⟨wr.heap.size,2,none⟩=some ↑p.len at p2;have p3:=oX.cell 3;change World.cell? _ ⟨wr.heap.size,3,none⟩=some ↑p.ar at p3;have p4:=oX.cell 4;change World.cell? _ ⟨wr.heap.size,4,none⟩=some ↑p.dl at p4;have kl:=(oR.up 3).aS;have HT:=az (show q.P.take (i+1)=q.P.take i++[p]by rw[tH,hp];rfl);have hpb:=HP.out p (mH hp);have hsb:=Ck (L:=(q.P.take i).filter (dJ t)) (fun x hx=>HP.out x (List.mem_of_mem_take (List.mem_filter.1 hx).1));rw[<-Yn.out]at hsb;have hbb:=HB.out;have hl1:=hpb.l;have hl2:=hpb.u;have hw:IntKind.i64.wrap (D-p.len)=D-p.len:=by rw[gB];omega
   obtain⟨Z,hZ⟩:=aP (dJ t p);rw[hZ]at hl;have HZ:=az hZ;clear hsb hbb hl1 hl2 hD hZ hp hpb oR;unfold rP at hl;go_wp2_with fail;refine hl.mono ?_;rintro _ w3⟨rfl,o3,k3'⟩;have k3:=kX.trans k3';clear hl k3' p0 p1 p2 p3 p4 k0 oX e0 e1 e2 e3 e4 hgl kl;have p0:=o3.cell 0;change World.cell? _ ⟨wr.heap.size,0,none⟩=some ↑p.id at p0;have p1:=o3.cell 1;change World.cell? _ ⟨wr.heap.size,1,none⟩=some ↑p.fl at p1;have p2:=o3.cell 2;change World.cell? _ ⟨wr.heap.size,2,none⟩=some ↑p.len at p2;have p3:=o3.cell 3;change World.cell? _ ⟨wr.heap.size,3,none⟩=some ↑p.ar at p3;have p4:=o3.cell 4;change World.cell? _ ⟨wr.heap.size,4,none⟩=some ↑p.dl at p4;cases Z with
   |true=>
    have HX:=az (show(q.P.take (i+1)).filter (dJ t)=(q.P.take i).filter (dJ t)++[p]by rw[HT.out,List.filter_append];simp[HZ.out])
    have HB2:=az (show bE q.P-bE ((q.P.take (i+1)).filter (dJ t))=D-p.len by
     rw[HX.out,Fu,show bE [p]=p.len from Int.add_zero _,<-HD.out];omega)
    have oY:Own _ (aH _ 170 (bR p)::_):=o3.alloc (.cells #[p.id,p.fl,p.len,p.ar,p.dl] 170);have hnw:=Own.news (T:=170) (vs:=bR p) oY;have hone:∀u∈bR p,u.oneCell'=true:=by intro u hu;simp only[bR,jc,xN,or_false]at hu;rcases hu with rfl|rfl|rfl|rfl|rfl<;>rfl
    go_wp2_with(at_builtin;refine aQ rfl _ _ rfl Tryz.pktT rfl (oY.up 2) rfl ⟨_,_,rfl,rfl,hone,.inr ⟨_,rfl,hnw⟩⟩ (by unfold maxLen;omega) (by omega) ?kK);case kK=>
     intro a5 c5 w5 o5 k5;have K5:=k3.trans ((aj (x:=.cells #[p.id,p.fl,p.len,p.ar,p.dl] 170) (Calm.refl _)).trans k5);have x2:=(o5.up 2).cell 2;change World.cell? _ ⟨wr.heap.size,2,none⟩=some ↑p.len at x2;obtain⟨bf,bl,-,-,-,b3,-⟩:=(o5.up 3).cs;have oE:=((((o5.up 3).setCell 3 (D-p.len:Int)).drew).re [2,3] 2).re [1,0];clear hnw oY o3 p0 p1 p2 p3 p4 k5 hone;go_upto_region 7 with fail;refine wp_region_tail 6 (by kernel_rfl) (by kernel_rfl) ?_;simp only[xe,List.take_zero,yB,List.drop_zero];repeat still_step
     refine wpStill_nil ?_;go_wp2;go_roundw;case rel=>refine⟨i+1,a5,n1+1,c5,by go_num,by omega,rfl,by rw[HX.out,jf,Yn.out];rfl,by omega,?_,aD (ay K5)⟩;rw[HB2.out,HX.out,aO,show flat bR [p]=bR p from List.append_nil _];exact oE
     case measure=>simp[Lib.intOf];omega
   |false=>
    have HX:=az (show(q.P.take (i+1)).filter (dJ t)=(q.P.take i).filter (dJ t)by rw[HT.out,List.filter_append];simp[HZ.out]);go_wp2;go_roundw;case rel=>refine⟨i+1,a1,n1,c1,by go_num,by omega,rfl,by rw[HX.out,Yn.out],by omega,?_,k3⟩;rw[HX.out,HD.out];exact o3.drop
    case measure=>simp[Lib.intOf];omega
  ·have hin:i=q.P.length:=by omega
   subst hin;rw[List.take_length]at oR Yn;have hdf:=fun(w1:aF)(o1:Own w1 (slc 170 5 g q.P.length cg (flat bR q.P)::aH kb 3 [t]::_))=>Wy (R:=slc 170 5 a1 n1 c1 (flat bR (q.P.filter (dJ t)))::aH b 204 [q.mo,q.mb,.slice g q.P.length cg,(bE q.P-bE (q.P.filter (dJ t)):Int)]::R) (L:=q.P) rfl (by omega) o1;have hd:=hdf _ (oR.re [2,3,0,1]);have b2:=(oR.up 1).cell 2;have HE:=az (show bE q.P-bE (q.P.filter (dJ t))=bE (q.P.filter fun p=>!dJ t p)by have:=DD (dJ t) q.P;omega);unfold ltF at hd;rw[HE.out]at hd;clear hdf oR hil hi hn2;go_wp2_with fail;refine hd.mono ?_;rintro _ w3⟨rfl,o3,k3⟩;obtain⟨ff,fl,-,-,f2,-⟩:=(o3.up 3).cs;have oE:=(o3.up 3).setCell 2 (.slice g (q.P.filter fun p=>!dJ t p).length cg);go_wp2;go_ret;have oF:Own _ (dQ b (PE q t)::slc 170 5 a1 n1 c1 (flat bR (AQ q t))::R):=dQ.iff.2 ⟨g,cg,(oE.re [2] 1).re [0,1,2]⟩;have e1:(AQ q t).length=n1:=Yn.out.symm;refine⟨a1,c1,?_⟩;rw[e1];exact⟨rfl,oF.swap,ay (kR.trans k3)⟩
end
end Go.Proofs.YtfejhikpfhgbeaaGreatDoor
