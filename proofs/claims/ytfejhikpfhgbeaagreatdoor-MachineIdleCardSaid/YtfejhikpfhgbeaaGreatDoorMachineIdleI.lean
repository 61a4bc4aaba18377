import Derived.Shelf.SlMaps.Clone
import Derived.Test.YtfejhikpfhgbeaaGreatDoorMachineIdleC
import Derived.Test.YtfejhikpfhgbeaaGreatDoorMachineIdleG
import Derived.Test.YtfejhikpfhgbeaaGreatDoorMachineIdleH
set_option maxHeartbeats 25600000
set_option maxRecDepth 100000
set_option linter.all false
namespace Go.Proofs.YtfejhikpfhgbeaaGreatDoor
open Go.Proofs.Tryz
open Go.RowKit
open SP
def xH(b:Nat)(aI:Int)(eb tb:Nat)(el tg:bO)(tm:Int):SP:=
 st [aH b 224 [aI,.map (some eb),.map (some tb),tm],bB (Value.int .i64) eb el,bB (Value.int .i64) tb tg]
def bP(b:Nat)(aI:Int)(el tg:bO)(tm:Int):SP:=ex fun(p:Nat×Nat)=>xH b aI p.1 p.2 el tg tm
section
variable{W w w':aF}{b:Nat}{aI tm:Int}{el tg:bO}{R:aJ}
theorem bP.iff:Own w (bP b aI el tg tm::R)↔∃eb tb,Own w (aH b 224 [aI,.map (some eb),.map (some tb),tm]::bB (Value.int .i64) eb el::bB (Value.int .i64) tb tg::R):=by
 constructor
 ·intro o;obtain⟨⟨eb,tb⟩,h⟩:=Own.ex.1 o;exact⟨eb,tb,Own.st.1 h⟩
 ·rintro⟨eb,tb,h⟩;exact Own.ex.2 ⟨(eb,tb),Own.st.2 h⟩
theorem xH.iff{eb tb:Nat}:Own w (xH b aI eb tb el tg tm::R)↔Own w (aH b 224 [aI,.map (some eb),.map (some tb),tm]::bB (Value.int .i64) eb el::bB (Value.int .i64) tb tg::R):=Own.st
theorem bP.ae8:Own w (bP b aI el tg tm::R)↔∃eb tb,Own w (xH b aI eb tb el tg tm::R):=by
 constructor
 ·intro o;obtain⟨⟨eb,tb⟩,h⟩:=Own.ex.1 o;exact⟨eb,tb,h⟩
 ·rintro⟨eb,tb,h⟩;exact Own.ex.2 ⟨(eb,tb),h⟩
theorem Tryz.zeroI(w:aF):(zeroValue 3).run prog w=.ok (.int .i64 0) w:=by kernel_rfl
theorem Tryz.zeroL(w:aF):(zeroValue 2).run prog w=.ok (.int .i64 0) w:=by kernel_rfl
def bK(m:bO)(k:Int):Int:=(a_ m k).getD 0
theorem YI(mb:Nat){m:bO}(o:Own w (bB (Value.int .i64) mb m::R))(k:Int)(ok:Bool):
  (Instr.lookup 222 (.map (some mb)) (.int .i64 k) ok).run prog w=.ok (if ok then .tuple #[(bK m k:Int),.bool (a_ m k).isSome]else .int .i64 (bK m k)) w:=by
 rw[bI underlying222 underlying3 Tryz.zeroI o k ok];unfold bK;cases a_ m k<;>rfl
theorem BN(mb:Nat){m:bO}(o:Own w (bB (Value.int .i64) mb m::R))(k:Int)(ok:Bool):
  (Instr.lookup 216 (.map (some mb)) (.int .i64 k) ok).run prog w=.ok (if ok then .tuple #[(bK m k:Int),.bool (a_ m k).isSome]else .int .i64 (bK m k)) w:=by
 rw[bI underlying216 underlying3 Tryz.zeroL o k ok];unfold bK;cases a_ m k<;>rfl
theorem LJ(r:Int)(h1:1<=r)(h2:r<=1099511627776)(o:Own w R):
  Calls prog 55 #[.int .i64 r] w fun e w'=>∃b,aR (.tuple #[.pointer (some ⟨b,0,none⟩),.int .i64 0]) (bP b r [] [] 0::R) w e w':=by
 have hmm:=@run_makeMap prog;go_enter func55,ntmps55;go_wp2;go_ret2;have o1:=(o.gF (f:=Value.int .i64)).gF (f:=Value.int .i64) (α:=Int);have o2:=(o1.swap).alloc (.cells #[.int .i64 r,.map (some w.heap.size),.map (some (w.heap.size+1)),.int .i64 0] 224);simp only[World.size_alloc]at o2;exact⟨_,rfl,bP.iff.2 ⟨w.heap.size,w.heap.size+1,o2⟩,⟨rfl,rfl,rfl⟩⟩
def qB(tg:bO):bq->Int->Int
 |[],best=>best
 |f::ks,best=>qB tg ks (if best<0\/bK tg f<bK tg best then f else best)
def bJ(el tg:bO):Int:=qB tg (lU el) (-1)
def OB(b eb tb:Nat)(aI tm:Int)(el tg:bO)(a:aY)(cap:Nat)(ks:bq)(T:Int)(R:aJ)(w:aF)(v3 v13:aL)(wr:aF):Prop:=
 ∃(i:Nat)(best:Int),v13=↑(i:Int)/\v3=↑best/\i<=ks.length/\qB tg (ks.drop i) best=T/\-9223372036854775808<=best/\best<=9223372036854775807/\
  Own wr (slc 3 1 a ks.length cap (ks.map (Value.int .i64))::xH b aI eb tb el tg tm::R)/\Calm w wr
theorem zY{α:Type}(m:List (Int×α)):(lU m).length=m.length:=by unfold lU;rw[List.length_mergeSort,iP]
theorem BO{α:Type}{m:List (Int×α)}{k:Int}:k∈lU m↔k∈m.map (·.1):=by unfold lU;exact(List.mergeSort_perm _ _).mem_iff
theorem Dj{eb tb:Nat}(hk:uT el)(hn:el.length<=1000)(o:Own w (xH b aI eb tb el tg tm::R)):
  Calls prog 390 #[b] w (aR (.int .i64 (bJ el tg)) (xH b aI eb tb el tg tm::R) w):=by
 have o1:=xH.iff.1 o;have c1:=o1.cell 1;go_enter func390,ntmps390;go_wp2_with fail;refine(LC _ _).mono ?_;rintro e1 w1⟨rfl,rfl⟩;have o2:=((o1.alloc (.cells #[.map (some eb)] 222)).up 2).up 1;go_wp2_with fail;refine(FI w.heap.size hk (by omega) o2).mono ?_;rintro e2 w2⟨a,cap,rfl,o3,k3⟩;have hl:=zY el;have hkm:∀k∈lU el,-9223372036854775808<=k/\k<=9223372036854775807:=fun k h=>by obtain⟨x,hx,rfl⟩:=gW.1 (BO.1 h);exact hk.2 x hx
 have hT:OB b eb tb aI tm el tg a cap (lU el) (bJ el tg) R w (.int .i64 (-1)) (.int .i64 0) w2:=
  ⟨0,-1,rfl,rfl,Nat.zero_le _,rfl,by omega,by omega,by
   rw[hl];refine Own.swap (xH.iff.2 ?_)
   exact((o3.up 3).up 2).up 3,⟨k3.os,k3.tape,k3.output⟩⟩
 generalize bJ el tg=T at*;generalize hks:lU el=ks at*;rw[<-hl];have hkl:ks.length<=1000:=by omega
 have Hl:=az hl;clear hl o3 k3 o2 o1 c1 hks;go_wp2;go_loopw[3,13] (fun v3 v13 wr=>OB b eb tb aI tm el tg a cap ks T R w v3 v13 wr) (fun _ v13 _=>ks.length-(intOf v13).toNat);case atStart=>exact hT
 case round=>
  obtain⟨i,best,rfl,rfl,hi,hT,hb1,hb2,oR,kR⟩:=hrel;have HT:=az hT;clear hT;by_cases hlt:i<ks.length
  ·obtain⟨f,hf⟩:∃f,ks[i]?=some f:=⟨_,cZ hlt⟩;obtain⟨g,rfl,hc,_,_⟩:=oR.aG (by omega);have d0:=hc i (.int .i64 f) (by rw[kI,hf];rfl);have hfr:=hkm f (mH hf);have o4:=xH.iff.1 (oR.up 1);have c2:=o4.cell 2;have l1:=fun n=>BN tb ((o4.up 2).drewN n) f false;have l2:=fun n=>BN tb ((o4.up 2).drewN n) best false;simp only[Bool.false_eq_true,if_false]at l1 l2;have hstep:qB tg (ks.drop i) best=qB tg (ks.drop (i+1)) (if best<0\/bK tg f<bK tg best then f else best):=by rw[List.drop_eq_getElem_cons hlt];have:ks[i]=f:=(eU.1 hf).2;rw[this];rfl
   have FM:=az hstep;clear hc hstep hf;by_cases hbn:best<0
   ·have hd:decide (best<0)=true:=by simpa using hbn
    go_wp2;go_quiet(fail);go_wp2;go_roundw;case rel=>exact⟨i+1,f,by go_num,rfl,by omega,by rw[<-HT.out,FM.out,if_pos (.inl hbn)],hfr.1,hfr.2,oR.drewN _,kR.dn _⟩
    case measure=>simp[intOf];omega
   ·have hd:decide (best<0)=false:=by simpa using hbn
    by_cases hlt2:bK tg f<bK tg best
    ·have hd2:decide (bK tg f<bK tg best)=true:=by simpa using hlt2
     go_wp2;go_quiet(fail);go_wp2;go_roundw;case rel=>exact⟨i+1,f,by go_num,rfl,by omega,by rw[<-HT.out,FM.out,if_pos (.inr hlt2)],hfr.1,hfr.2,oR.drewN _,kR.dn _⟩
     case measure=>simp[intOf];omega
    ·have hd2:decide (bK tg f<bK tg best)=false:=by simpa using hlt2
     go_wp2;go_quiet(fail);go_wp2;go_roundw;case rel=>exact⟨i+1,best,by go_num,rfl,by omega,by rw[<-HT.out,FM.out,if_neg (by omega)],hb1,hb2,oR.drewN _,kR.dn _⟩
     case measure=>simp[intOf];omega
  ·go_wp2;go_ret;have:ks.drop i=[]:=List.drop_eq_nil_of_le (by omega);have hTb:best=T:=by rw[<-HT.out,this];rfl
   exact⟨by rw[hTb];rfl,oR.drop,kR⟩
theorem Rj(hk:uT el)(hn:el.length<=1000)(o:Own w (bP b aI el tg tm::R)):
  Calls prog 390 #[b] w (aR (.int .i64 (bJ el tg)) (bP b aI el tg tm::R) w):=by
 obtain⟨eb,tb,o1⟩:=bP.ae8.1 o;exact(Dj hk hn o1).mono fun e w'⟨h1,h2,h3⟩=>⟨h1,bP.ae8.2 ⟨eb,tb,h2⟩,h3⟩
def zZ(el tg:bO):aL:=if bJ el tg<0 then .tuple #[aC,(5:Int)]else .tuple #[(bJ el tg:Int),aC]
theorem lK(hk:uT el)(hn:el.length<=1000)(o:Own w (bP b aI el tg tm::R)):
  Calls prog 378 #[b] w (aR (zZ el tg) (bP b aI el tg tm::R) w):=by
 have hls:=Rj hk hn o;unfold zZ;generalize bJ el tg=x at*;by_cases h:x<0
 ·rw[if_pos h];go_enter func378,ntmps378;go_wp2_with fail;refine hls.mono ?_;rintro e1 w1⟨rfl,o1,k1⟩;go_wp2;go_ret2;exact⟨rfl,o1,k1⟩
 ·rw[if_neg h];go_enter func378,ntmps378;go_wp2_with fail;refine hls.mono ?_;rintro e1 w1⟨rfl,o1,k1⟩;go_wp2;go_ret2;exact⟨rfl,o1,k1⟩
def gH:Int->bO->Bool
 |_,[]=>false
 |last,p::l=>decide (p.1<=last)||decide (32<=p.1)||decide (p.2<1)||decide (16<p.2)||gH p.1 l
def lZ(el:bO)(tm:Int):bO->bO->bO
 |[],tg=>tg
 |p::l,tg=>lZ el tm l (if(a_ el p.1).isSome then tg else bA tg p.1 (max (bK tg p.1) tm))
def qC:bO->bO->bO
 |[],m=>m
 |p::l,m=>qC l (bA m p.1 p.2)
def rA(b:Nat)(aI tm:Int)(el tg:bO)(l:bO)(S:SP)(R:aJ)(w:aF)(e:Ending)(w':aF):Prop:=
 if gH (-1) l=true then aR (.int .i64 1) (S::bP b aI el tg tm::R) w e w' else aR (.int .i64 0) (S::bP b aI (qC l []) (lZ el tm l tg) tm::R) w e w'
def YJ(b:Nat)(aI tm:Int)(el tg l:bO)(B:Bool)(S:SP)(R:aJ)(w:aF)(v5 v15:aL)(wr:aF):Prop:=
 ∃(i:Nat)(last:Int),v15=↑(i:Int)/\v5=↑last/\i<=l.length/\gH last (l.drop i)=B/\Own wr (S::bP b aI el tg tm::R)/\Calm w wr
def YK(b:Nat)(aI tm:Int)(el l:bO)(TG EL:bO)(eb:Nat)(S:SP)(R:aJ)(w:aF)(v44:aL)(wr:aF):Prop:=
 ∃(i:Nat)(tg' m:bO),v44=↑(i:Int)/\i<=l.length/\lZ el tm (l.drop i) tg'=TG/\qC (l.drop i) m=EL/\Own wr (S::bP b aI el tg' tm::bB (Value.int .i64) eb m::R)/\Calm w wr
theorem l5{last:Int}{p:Int×Int}{l:bO}:gH last (p::l)=true↔p.1<=last\/32<=p.1\/p.2<1\/16<p.2\/gH p.1 l=true:=by simp[gH,or_assoc]
theorem FN(S:SP)(a:aY)(n c:Nat)(l:bO)(hS:PartsAt S a l)(hn:n=l.length)(hn2:n<=1000)(o:Own w (S::bP b aI el tg tm::R)):
  Calls prog 360 #[b,.slice a n c] w (rA b aI tm el tg l S R w):=by
 have hmm:=@run_makeMap prog;have hT:YJ b aI tm el tg l (gH (-1) l) S R w (.int .i64 (-1)) (.int .i64 0) w:=⟨0,-1,rfl,rfl,by omega,rfl,o,Calm.refl w⟩;generalize hBB:gH (-1) l=B at*;have HBB:=az hBB;clear hBB;have Hn:=az hn;clear hn;go_enter func360,ntmps360;go_wp2;go_loopw[5,15] (fun v5 v15 wr=>YJ b aI tm el tg l B S R w v5 v15 wr) (fun _ v15 _=>n-(intOf v15).toNat);case atStart=>exact hT
 case round=>
  obtain⟨i,last,rfl,rfl,hi,hB,oR,kR⟩:=hrel;have HB:=az hB;clear hB;by_cases hlt:i<n
  ·obtain⟨p,hp⟩:∃p,l[i]?=some p:=⟨_,cZ (by have:=Hn.out;omega)⟩;obtain⟨g,so,rfl,d0,d1⟩:=hS _ _ oR i _ hp;have hd:=drop_cons hp;have HD:=az hd;obtain⟨x,y⟩:=p;dsimp only at d0 d1;clear hd hp;have oA:=(oR.alloc (.cells #[x,y] 493));obtain⟨-,-,e0,e1,-⟩:=Own.cs (T:=493) (vs:=[x,y]) oA;by_cases h1:x<=last
   ·go_wp2;go_ret;have this:gH (-1) l=true:=HBB.out.trans (by rw[<-HB.out,HD.out,l5];exact .inl h1);rw[rA,if_pos this];exact⟨rfl,oA.drop,⟨kR.os,kR.tape,kR.output⟩⟩
   ·by_cases h2:32<=x
    ·go_wp2;go_ret;have this:gH (-1) l=true:=HBB.out.trans (by rw[<-HB.out,HD.out,l5];exact .inr (.inl h2));rw[rA,if_pos this];exact⟨rfl,oA.drop,⟨kR.os,kR.tape,kR.output⟩⟩
    ·by_cases h3:y<1
     ·go_wp2;go_ret;have this:gH (-1) l=true:=HBB.out.trans (by rw[<-HB.out,HD.out,l5];exact .inr (.inr (.inl h3)));rw[rA,if_pos this];exact⟨rfl,oA.drop,⟨kR.os,kR.tape,kR.output⟩⟩
     ·by_cases h4:16<y
      ·go_wp2;go_ret;have this:gH (-1) l=true:=HBB.out.trans (by rw[<-HB.out,HD.out,l5];exact .inr (.inr (.inr (.inl h4))));rw[rA,if_pos this];exact⟨rfl,oA.drop,⟨kR.os,kR.tape,kR.output⟩⟩
      ·go_wp2;go_roundw;case rel=>
        refine⟨i+1,x,by go_num,rfl,by have:=Hn.out;omega,?_,oA.drop,⟨kR.os,kR.tape,kR.output⟩⟩;rw[<-HB.out,HD.out];rw[Bool.eq_iff_iff,l5];constructor
        ·exact fun h=>.inr (.inr (.inr (.inr h)))
        ·rintro(h|h|h|h|h)
         ·exact absurd h h1
         ·exact absurd h h2
         ·exact absurd h h3
         ·exact absurd h h4
         ·exact h
       case measure=>simp[intOf];omega
  ·have hBf:gH (-1) l=false:=by rw[HBB.out,<-HB.out,List.drop_eq_nil_of_le (by have:=Hn.out;omega)];rfl
   have HBf:=az hBf;clear hBf;have o2:=((oR.gF (f:=Value.int .i64) (α:=Int)).up 2).up 2;have Ef:YK b aI tm el l (lZ el tm l tg) (qC l []) wr.heap.size S R w (.int .i64 0) (wr.alloc (.map #[] 0)):=
    ⟨0,tg,[],rfl,by omega,rfl,rfl,o2,⟨kR.os,kR.tape,kR.output⟩⟩
   generalize h1:lZ el tm l tg=TG at*;generalize h2:qC l []=EL at*;have H1:=az h1;have H2:=az h2;clear h1 h2;clear o2 HB hi;obtain⟨nb,hnb⟩:∃nb,nb=wr.heap.size:=⟨_,rfl⟩;have HNB:=az hnb;clear hnb;go_wp2;go_loopw[44] (fun v44 wr'=>YK b aI tm el l TG EL wr.heap.size S R w v44 wr') (fun v44 _=>n-(intOf v44).toNat);case atStart=>exact Ef
   case round=>
    clear Ef hT oR kR hmm;obtain⟨i,tg',m,rfl,hi,hTG,hEL,oR,kR⟩:=hrel;have HTG:=az hTG;have HEL:=az hEL;clear hTG hEL;by_cases hlt:i<n
    ·obtain⟨p,hp⟩:∃p,l[i]?=some p:=⟨_,cZ (by have:=Hn.out;omega)⟩;obtain⟨g,so,rfl,d0,d1⟩:=hS _ _ oR i _ hp;have hd:=drop_cons hp;have HD:=az hd;obtain⟨x,y⟩:=p;dsimp only at d0 d1;clear hd hp;obtain⟨eb',tb',oB⟩:=bP.iff.1 (oR.up 1);have oA:=(oB.alloc (.cells #[x,y] 493));have e0:=fun k=>Own.cell (T:=493) (vs:=[x,y]) (oA.drewN k) 0;have e1:=fun k=>Own.cell (T:=493) (vs:=[x,y]) (oA.drewN k) 1;obtain⟨hfr,hbl,-,c1,c2,c3,-⟩:=oB.cs;have l1:=fun n=>YI eb' ((oA.up 2).drewN n) x true;simp only[if_true]at l1;cases hin:(a_ el x).isSome with
     |true=>
      rw[hin]at l1;go_wp2;go_quiet(fail);go_wp2_with(at_mapUpdate;refine bg rfl _ _ _ rfl underlying222 underlying3 ((oA.drewN _).up 5) x y rfl rfl rfl ?_;intro w1 o6 k6);go_roundw;case rel=>
       refine⟨i+1,tg',bA m x y,by go_num,by have:=Hn.out;omega,?_,?_,?_,kR.trans ⟨k6.os,k6.tape,k6.output⟩⟩
       ·rw[<-HTG.out,HD.out,lZ,if_pos hin]
       ·rw[<-HEL.out,HD.out];rfl
       ·exact(bP.iff.2 ⟨eb',tb',((((o6.up 1).drop.up 4).up 4).up 4).up 4⟩).up 1
      case measure=>simp[intOf];omega
     |false=>
      rw[hin]at l1;have l2:=fun n=>BN tb' ((oA.up 3).drewN n) x false;simp only[Bool.false_eq_true,if_false]at l2;go_wp2;go_quiet(fail);go_wp2;refine wp_region_tail 18 (by kernel_rfl) (by kernel_rfl) ?_;simp only[xe,List.take_zero,yB,List.drop_zero];repeat still_step
      refine wpStill_nil ?_;go_wp2_with(at_mapUpdate;refine bg rfl _ _ _ rfl underlying216 underlying3 (((oA.up 3).drewN _).drew) x (max (bK tg' x) tm) rfl rfl rfl ?c1);case c1=>
      intro w1 o6 k6;have q:=o6.up 1;obtain⟨-,-,q0,q1,-⟩:=Own.cs (T:=493) (vs:=[x,y]) q;go_wp2_with(at_mapUpdate;refine bg rfl _ _ _ rfl underlying222 underlying3 (q.up 5) x y rfl rfl rfl ?_;intro w2 o7 k7);go_roundw;case rel=>
       refine⟨i+1,bA tg' x (max (bK tg' x) tm),bA m x y,by go_num,by have:=Hn.out;omega,?_,?_,?_,kR.trans (Calm.trans ⟨k6.os,k6.tape,k6.output⟩ k7)⟩
       ·rw[<-HTG.out,HD.out,lZ,if_neg (by rw[hin];simp)]
       ·rw[<-HEL.out,HD.out];rfl
       ·have o8:=(o7.up 1).drop;exact(bP.iff.2 ⟨eb',tb',(((o8.up 4).up 2).up 4).up 4⟩).up 1
      case measure=>simp[intOf];omega
    ·obtain⟨eb',tb',oB⟩:=bP.iff.1 (oR.up 1);obtain⟨hfr,hbl,-,c1,-⟩:=oB.cs;go_wp2;go_ret;have hdn:l.drop i=[]:=List.drop_eq_nil_of_le (by have:=Hn.out;omega);rw[rA,if_neg (by rw[HBf.out];simp)];refine⟨rfl,?_,⟨kR.os,kR.tape,kR.output⟩⟩;have e1:tg'=TG:=by rw[<-HTG.out,hdn];rfl
     have e2:m=EL:=by rw[<-HEL.out,hdn];rfl
     rw[H1.out,H2.out,<-e1,<-e2];have o9:=oB.setCell 1 (.map (some nb));rw[HNB.out]at o9;exact(bP.iff.2 ⟨_,tb',(((((o9.up 1).drop).up 2).up 2).up 3).up 3⟩).up 1
theorem IU(a:aY)(n c:Nat)(l:bO)(hn:n=l.length)(hn2:n<=1000)(o:Own w (slc 493 2 a n c (flat part l)::bP b aI el tg tm::R)):
  Calls prog 360 #[b,.slice a n c] w (rA b aI tm el tg l (slc 493 2 a n c (flat part l)) R w):=
 FN _ a n c l (ry a n c l hn) hn hn2 o
theorem Dk(k:Int)(o:Own w (bP b aI el tg tm::R)):
  Calls prog 353 #[b,k] w (aR (.tuple #[]) (bP b aI (dW el k) (dW tg k) tm::R) w):=by
 obtain⟨eb,tb,o1⟩:=bP.iff.1 o;have c1:=o1.cell 1;go_enter func353,ntmps353;go_wp2_with(at_delete;refine dL rfl _ _ rfl underlying222 underlying3 (o1.up 1) k rfl rfl ?c1);case c1=>
 intro w1 o2 k2;have c2:=(o2.up 1).cell 2;go_wp2_with(at_delete;refine dL rfl _ _ rfl underlying216 underlying3 (o2.up 2) k rfl rfl ?c2);case c2=>
 intro w2 o3 k3;go_wp2;go_end0;exact⟨rfl,bP.iff.2 ⟨eb,tb,(o3.up 1).up 2⟩,k2.trans k3⟩
def pU(el tg:bO)(f len:Int):Int×Int:=mX (bK tg f) len (bK el f)
def xU(el tg:bO)(f len:Int):Int:=if(a_ el f).isSome then(pU el tg f len).2 else 6
def g_(el tg:bO)(f len:Int):bO:=bA tg f (pU el tg f len).1
def mZ(tg:bO)(tm f:Int):Int:=max tm (bK tg f)
def l6(el tg:bO)(tm f len:Int):Int:=min (mZ tg tm f) (bK (g_ el tg f len) (bJ el (g_ el tg f len)))
def lower(d_:Int)(tg:bO):bO:=tg.map fun x=>(x.1,max (x.2-d_) 0)
def nP(b:Nat)(aI tm:Int)(el tg:bO)(f len:Int)(R:aJ)(w:aF)(e:Ending)(w':aF):Prop:=
 if xU el tg f len≠0 then aR (.int .i64 (xU el tg f len)) (bP b aI el tg tm::R) w e w' else
 if l6 el tg tm f len<aI then aR (.int .i64 0) (bP b aI el (g_ el tg f len) (mZ tg tm f)::R) w e w' else
 aR (.int .i64 0) (bP b aI el (lower (l6 el tg tm f len) (g_ el tg f len)) (mZ tg tm f-l6 el tg tm f len)::R) w e w'
theorem FO{tg:bO}(hv:∀x∈tg,0<=x.2/\x.2<=1099511627776)(f:Int):0<=bK tg f/\bK tg f<=1099511627776:=by
 unfold bK;cases h:a_ tg f with
 |none=>simp
 |some v=>exact hv _ (jA h)
theorem OC{α:Type}{m:List (Int×α)}{k:Int}{v:α}{x:Int×α}(h:x∈bA m k v):x∈m\/x=(k,v):=by
 induction m with
 |nil=>simp[bA]at h;exact .inr h
 |cons y m ih=>
  obtain⟨k',v'⟩:=y;unfold bA at h;split at h
  ·rcases jc.1 h with rfl|h
   ·exact .inr rfl
   ·exact .inl (List.mem_cons_of_mem _ h)
  ·rcases jc.1 h with rfl|h
   ·exact .inl (by simp)
   ·rcases ih h with h|h
    ·exact .inl (List.mem_cons_of_mem _ h)
    ·exact .inr h
theorem Rk{tg:bO}{f nx:Int}(hv:∀x∈tg,0<=x.2/\x.2<=1099511627776)(hn:0<=nx/\nx<=1099511627776):∀x∈bA tg f nx,0<=x.2/\x.2<=1099511627776:=by
 intro x hx;rcases OC hx with h|rfl
 ·exact hv x h
 ·exact hn
theorem Rl{was len wt:Int}(hw:0<=was/\was<=1099511627776):0<=(mX was len wt).1/\(mX was len wt).1<=1099511627776:=by
 unfold mX;split
 ·simp
 ·rename_i h;have h':1<=len/\len<=4096/\1<=wt/\wt<=16:=by have h1:¬lY len wt:=fun h2=>h (.inl h2);unfold lY at h1;omega
  obtain⟨c1,c2⟩:=mW h'.2.2.1 h'.2.2.2 h'.1 h'.2.1;split
  ·simp
  ·simp only;omega
def Uq(b:Nat)(aI:Int)(el Rm:bO)(z_ d_:Int)(R:aJ)(w:aF)(e:Ending)(w':aF):Prop:=
 if d_<aI then aR (.int .i64 0) (bP b aI el Rm z_::R) w e w' else aR (.int .i64 0) (bP b aI el (lower d_ Rm) (z_-d_)::R) w e w'
def l8(d_:Int)(S:Int->Bool)(tg:bO):bO:=tg.map fun x=>(x.1,if S x.1 then max (x.2-d_) 0 else x.2)
theorem LK(d_:Int)(S:Int->Bool)(tg:bO):(l8 d_ S tg).map (·.1)=tg.map (·.1):=by unfold l8;rw[List.map_map];rfl
theorem OD{d_:Int}{S:Int->Bool}{tg:bO}(h:∀x∈tg,S x.1=true):l8 d_ S tg=lower d_ tg:=by unfold l8 lower;exact List.map_congr_left fun x hx=>by rw[h x hx,if_pos rfl]
theorem Dl{d_:Int}{S:Int->Bool}:∀{tg:bO}(_:bL tg){k v:Int}(_:a_ tg k=some v),bA (l8 d_ S tg) k (max (v-d_) 0)=l8 d_ (fun z=>S z||z==k) tg
 |[],_,k,v,h=>by simp[a_]at h
 |(k0,v0)::tg,hu,k,v,h=>by
  unfold bL at hu;rw[iD,List.nodup_cons]at hu;unfold a_ at h;unfold l8;simp only[iD];unfold bA;by_cases hk:k=k0
  ·subst hk;rw[if_pos rfl]at h⊢;simp at h;subst h;simp only[BEq.rfl,Bool.or_true,if_true,List.cons.injEq,true_and];refine List.map_congr_left fun x hx=>?_;have hne:x.1≠k:=fun e=>hu.1 (gW.2 ⟨x,hx,e⟩);have:(x.1==k)=false:=by simpa using hne
   simp only[this,Bool.or_false]
  ·rw[if_neg hk]at h⊢;have hb:(k0==k)=false:=by simpa using Ne.symm hk
   simp only[hb,Bool.or_false,List.cons.injEq,true_and];exact Dl hu.2 h
theorem Aa{d_:Int}{S:Int->Bool}:∀{tg:bO}(k:Int),a_ (l8 d_ S tg) k=(a_ tg k).map (fun v=>if S k then max (v-d_) 0 else v)
 |[],k=>rfl
 |(k0,v0)::tg,k=>by
  unfold l8;simp only[iD];unfold a_;by_cases hk:k=k0
  ·subst hk;simp
  ·rw[if_neg hk,if_neg hk];exact Aa k
def YL(b:Nat)(aI:Int)(eb tb ib:Nat)(el Rm:bO)(z_ d_:Int)(R:aJ)(w wr:aF):Prop:=
 ∃(S:Int->Bool)(cur:Option Int)(m:bO),True=True/\m=l8 d_ S Rm/\
  Own wr (fZ (Value.int .i64) tb ib m S cur::aH b 224 [aI,.map (some eb),.map (some tb),z_]::bB (Value.int .i64) eb el::R)/\Calm w wr
theorem Rn(f len:Int)(hk:uT el)(hn:el.length<=1000)(hu:bL tg)(hv:∀x∈tg,0<=x.2/\x.2<=1099511627776)(ht:0<=tm/\tm<=1099511627776)(o:Own w (bP b aI el tg tm::R)):
  Calls prog 382 #[b,f,len] w (nP b aI tm el tg f len R w):=by
 obtain⟨eb,tb,o1⟩:=bP.iff.1 o;obtain⟨-,-,-,c1,c2,-⟩:=o1.cs;have hlk:=YI eb (o1.up 1) f true;simp only[if_true]at hlk;cases hel:a_ el f with
 |none=>
  have e1:xU el tg f len=6:=by unfold xU;rw[hel];rfl
  have:nP b aI tm el tg f len R w=aR (.int .i64 6) (bP b aI el tg tm::R) w:=by funext e w';unfold nP;rw[e1,if_pos (by decide)]
  rw[this];clear this;rw[hel]at hlk;go_enter func382,ntmps382;go_wp2;go_ret;exact⟨rfl,o,Calm.refl w⟩
 |some wt=>
  have hls:(a_ el f).isSome=true:=by rw[hel];rfl
  have e1:xU el tg f len=(pU el tg f len).2:=if_pos hls;rw[hel]at hlk;have hl2:=BN tb (o1.up 2) f false;simp only[Bool.false_eq_true,if_false]at hl2;have hfin:=Dg (bK tg f) len (bK el f) w;have H0:pU el tg f len=mX (bK tg f) len (bK el f):=rfl;rw[<-H0]at hfin;clear H0;have agZ:0<=bK tg f/\bK tg f<=1099511627776:=FO hv f;have hnx:0<=(pU el tg f len).1/\(pU el tg f len).1<=1099511627776:=Rl agZ;cases hP:pU el tg f len with
  |mk nx er=>
  rw[hP]at hfin hnx e1;dsimp only at hnx e1;unfold xR at hfin;dsimp only at hfin;by_cases her:er=0
  ·subst her;have hm1:g_ el tg f len=bA tg f nx:=by unfold g_;rw[hP]
   have hm2:mZ tg tm f=max tm (bK tg f):=rfl;have hpost:nP b aI tm el tg f len R w=Uq b aI el (g_ el tg f len) (mZ tg tm f) (l6 el tg tm f len) R w:=by funext e w';unfold nP Uq;rw[e1,if_neg (by simp)]
   have hb0:l6 el tg tm f len=min (mZ tg tm f) (bK (g_ el tg f len) (bJ el (g_ el tg f len))):=rfl;have hu1:bL (g_ el tg f len):=by rw[hm1];exact hu.bA _ _
   have hv1:∀x∈g_ el tg f len,0<=x.2/\x.2<=1099511627776:=by rw[hm1];exact Rk hv hnx
   have ht1:0<=mZ tg tm f/\mZ tg tm f<=1099511627776:=by rw[hm2];omega
   have hby:0<=l6 el tg tm f len/\l6 el tg tm f len<=1099511627776:=by have:=FO hv1 (bJ el (g_ el tg f len));rw[hb0];omega
   rw[hpost];clear hpost hP e1;generalize g_ el tg f len=Rm at*;generalize mZ tg tm f=z_ at*;generalize l6 el tg tm f len=d_ at*;have Ro:=az hm1;have BP:=az hm2;have HB0:=az hb0;clear hm1 hm2 hb0;go_enter func382,ntmps382;go_wp2_with fail;refine hfin.mono ?_;rintro e2 w2⟨rfl,rfl⟩;go_wp2_with(at_mapUpdate;refine bg rfl _ _ _ rfl underlying216 underlying3 (o1.up 2) f nx rfl rfl rfl ?k1);case k1=>
   intro w3 o3 k3;rw[<-Ro.out]at o3;have o4:=o3.up 1;obtain⟨hf,hlt,-,-,-,c3,-⟩:=o4.cs;have hmx:max tm (bK tg f)=z_:=BP.out.symm;have o5:=o4.setCell 3 z_;have o6:Own ((w3.setCell ⟨b,3,none⟩ z_).drew) (xH b aI eb tb el Rm z_::R):=xH.iff.2 ((o5.up 2).up 1|>.drew);clear c1 c2 hlk hl2;obtain⟨-,-,-,-,d2,d3,-⟩:=o5.cs;have hmn:min z_ (bK Rm (bJ el Rm))=d_:=HB0.out.symm;go_wp2
   go_region_held3(fun w'=>w'.cell? ⟨b,2,none⟩=some (.map (some tb))/\w'.cell? ⟨b,3,none⟩=some ↑z_) (go_keep) (first
    |(go_at_call 390;(with_reducible refine(Dj hk hn o6).mono ?_);rintro e4 w4⟨rfl,o7,k7⟩;have q2:=(xH.iff.1 o7).cell 2;have q3:=(xH.iff.1 o7).cell 3;have l7:=BN tb ((xH.iff.1 o7).up 2) (bJ el Rm) false;simp only[Bool.false_eq_true,if_false]at l7))
   have o8:=xH.iff.1 o7;have q0:=o8.cell 0;have K7:Calm w w4:=k3.trans ⟨k7.os,k7.tape,k7.output⟩;clear l7 d2 d3 hmn hmx c3 hf hlt;by_cases hcmp:d_<aI
   ·go_wp2;go_ret;rw[Uq,if_pos hcmp];exact⟨rfl,bP.iff.2 ⟨eb,tb,o8⟩,K7⟩
   ·obtain⟨w5,VE,o9,k9⟩:=gL (P:=prog) underlying216 (o8.up 2);have hT:YL b aI eb tb w4.heap.size el Rm z_ d_ R w w5:=⟨fun _=>false,none,Rm,rfl,by unfold l8;simp,o9,K7.trans k9⟩;have qr2:=(o9.up 1).cell 2;generalize hib:w4.heap.size=ib at*;clear hib;go_wp2;go_loopw[13] (fun _ wr=>YL b aI eb tb ib el Rm z_ d_ R w wr) (fun _ wr=>iE wr tb ib);case atStart=>exact hT
    case round=>
     obtain⟨S,cur,m,_,hm,oR,kR⟩:=hrel;have Hm:=az hm;have hkm:m.map (·.1)=Rm.map (·.1):=by rw[hm,LK]
     have BH:bL m:=by unfold bL;rw[hkm];exact hu1
     clear hm;have g0:=(oR.up 1).cell 2;rcases iM (P:=prog) 0 BH oR with⟨hd,hr⟩|⟨x,w6,hx,hS,hr,jN,k10⟩
     ·obtain⟨gf,gb,-,-,-,g3,-⟩:=(oR.up 1).cs;have oD:=(oR.lV.up 1).setCell 3 (z_-d_:Int);have hall:∀x∈Rm,S x.1=true:=fun x hx=>by
       have:x.1∈m.map (·.1):=by rw[hkm];exact gW.2 ⟨x,hx,rfl⟩
       obtain⟨y,hy,hyx⟩:=gW.1 this;rw[<-hyx];exact hd y hy
      rw[Hm.out,OD hall]at oD;clear hd;go_wp2;go_ret;rw[Uq,if_neg (by omega)];exact⟨rfl,bP.iff.2 ⟨eb,tb,oD.up 2|>.up 1⟩,⟨kR.os,kR.tape,kR.output⟩⟩
     ·obtain⟨key,val⟩:=x;dsimp only at hS hr jN;have hmv:a_ m key=some val:=eO BH hx;have hmt:a_ Rm key=some val:=by rw[Hm.out,Aa]at hmv;simp only[hS,Bool.false_eq_true,if_false,Option.map_eq_some_iff,exists_eq_right]at hmv;exact hmv
      have hvr:=hv1 _ (jA hmt);dsimp only at hvr;have hen:=gP (P:=prog) BH jN hmv;have g6:=(jN.up 1).cell 2;have hin:(a_ m key).isSome=true:=by rw[hmv];rfl
      have Hmv:=az hmv;have Hin:=az hin;have Hmt:=az hmt;clear hmv hin hmt;go_wp2_with(at_mapUpdate;refine jE rfl _ _ _ rfl underlying216 underlying3 BH jN key (max (val-d_) 0) Hin.out rfl rfl rfl ?k2);case k2=>
      intro w7 Eg k11;go_wp2;go_roundw;case rel=>refine⟨_,_,_,rfl,?_,Eg,(kR.trans k10).trans k11⟩;rw[Hm.out];exact Dl hu1 Hmt.out
      case measure=>rw[Eg.iE,oR.iE,yF (gW.2 ⟨_,hx,rfl⟩)];exact qi hx hS
  ·have hpost:nP b aI tm el tg f len R w=aR (.int .i64 er) (bP b aI el tg tm::R) w:=by funext e w';unfold nP;rw[e1,if_pos her]
   rw[hpost];have ag0:(er==0)=false:=by simpa using her
   clear hpost e1 her hP;go_enter func382,ntmps382;go_wp2_with fail;refine hfin.mono ?_;rintro e2 w2⟨rfl,rfl⟩;go_wp2;go_ret;exact⟨rfl,o,Calm.refl w⟩
end
def bU(b:Nat)(aI:Int)(S:St):SP:=ex fun(p:Nat×Nat×List (Int×Tg)×bO)=>st [pu (u7 p.2.2.1 S.L/\(∀f,bK p.2.2.2 f=S.old f)/\bL p.2.2.2/\qy S),aH b 218 [aI,.map (some p.1),.map (some p.2.1),S.tm,S.aw],bB iL p.1 p.2.2.1,bB (Value.int .i64) p.2.1 p.2.2.2]
section
variable{W w w':aF}{b:Nat}{aI:Int}{S:St}{R:aJ}
theorem bU.iff:Own w (bU b aI S::R)↔∃ab rb m rem,u7 m S.L/\(∀f,bK rem f=S.old f)/\bL rem/\qy S/\
  Own w (aH b 218 [aI,.map (some ab),.map (some rb),S.tm,S.aw]::bB iL ab m::bB (Value.int .i64) rb rem::R):=by
 constructor
 ·intro o;obtain⟨⟨ab,rb,m,rem⟩,h⟩:=Own.ex.1 o;obtain⟨⟨h1,h2,h3,h4⟩,h5⟩:=Own.pu.1 (Own.st.1 h);exact⟨ab,rb,m,rem,h1,h2,h3,h4,h5⟩
 ·rintro⟨ab,rb,m,rem,h1,h2,h3,h4,h5⟩;exact Own.ex.2 ⟨(ab,rb,m,rem),Own.st.2 (Own.pu.2 ⟨⟨h1,h2,h3,h4⟩,h5⟩)⟩
theorem bU.ok(o:Own w (bU b aI S::R)):qy S:=by obtain⟨_,_,_,_,_,_,_,h,_⟩:=bU.iff.1 o;exact h
theorem Tryz.zeroT(w:aF):(zeroValue 484).run prog w=.ok (.agg #[aC,aC,aC]) w:=by kernel_rfl
theorem Tryz.tagT:bS prog 496 484 3 24:=bS.mk' (z:=.agg #[aC,aC,aC]) underlying496 (by kernel_rfl) rfl (by decide)
section
variable{ab:Nat}{m:List (Int×Tg)}{L:List Tg}{k:Int}{t:Tg}
theorem t_(o:Own w (bB iL ab m::R))(hm:u7 m L)(h:cB L k=some t):
  (Instr.lookup 215 (.map (some ab)) (.int .i64 k) true).run prog w=.ok (.tuple #[.agg #[t.f,t.w,t.s],.bool true]) w:=by
 rw[bI underlying215 underlying3 Tryz.zeroT o k true,hm.get,h];rfl
theorem VT(o:Own w (bB iL ab m::R))(hm:u7 m L)(h:cB L k=some t):
  (Instr.lookup 215 (.map (some ab)) (.int .i64 k) false).run prog w=.ok (.agg #[t.f,t.w,t.s]) w:=by
 rw[bI underlying215 underlying3 Tryz.zeroT o k false,hm.get,h];rfl
theorem ug(o:Own w (bB iL ab m::R))(hm:u7 m L)(h:cB L k=none):
  (Instr.lookup 215 (.map (some ab)) (.int .i64 k) true).run prog w=.ok (.tuple #[.agg #[aC,aC,aC],.bool false]) w:=by
 rw[bI underlying215 underlying3 Tryz.zeroT o k true,hm.get,h];rfl
end
theorem Dn(r:Int)(h1:1<=r)(h2:r<=1099511627776)(o:Own w R):
  Calls prog 53 #[.int .i64 r] w fun e w'=>∃b,aR (.tuple #[.pointer (some ⟨b,0,none⟩),.int .i64 0]) (bU b r ⟨[],fun _=>0,0,0⟩::R) w e w':=by
 have hmm:=@run_makeMap prog;go_enter func53,ntmps53;go_wp2;go_ret2;have o1:=(o.gF (f:=iL)).gF (f:=Value.int .i64) (α:=Int);have o2:=(o1.swap).alloc (.cells #[.int .i64 r,.map (some w.heap.size),.map (some (w.heap.size+1)),.int .i64 0,.int .i64 0] 218);simp only[World.size_alloc]at o2;exact⟨_,rfl,bU.iff.2 ⟨w.heap.size,w.heap.size+1,[],[],u7.start,fun _=>rfl,by simp[bL],qy.start,o2⟩,⟨rfl,rfl,rfl⟩⟩
theorem uh(f wt:Int)(o:Own w (bU b aI S::R)):
  Calls prog 349 #[b,f,wt] w (aR (.int .i64 (vV S f wt).1) (bU b aI (vV S f wt).2::R) w):=by
 obtain⟨ab,rb,m,rem,hm,hold,hur,hok,o1⟩:=bU.iff.1 o;have c1:=o1.cell 1;have FQ:=az hold;clear hold;by_cases hbad:f<0\/32<=f\/wt<1\/16<wt
 ·have e:vV S f wt=(1,S):=by unfold vV gG;rw[if_pos hbad];rfl
  rw[e];clear e;have fin:∀x,aR (.int .i64 1) (bU b aI S::R) w (.returned (.int .i64 1)) (w.alloc x):=fun x=>⟨rfl,o.more x,⟨rfl,rfl,rfl⟩⟩;have key:∃(t:Tg)(z:Bool),(Instr.lookup 215 (.map (some ab)) (.int .i64 f) true).run prog w=.ok (.tuple #[.agg #[t.f,t.w,t.s],.bool z]) w:=by
   cases hf:cB S.L f with
   |none=>exact⟨⟨0,0,0⟩,false,ug (o1.up 1) hm hf⟩
   |some t=>exact⟨t,true,t_ (o1.up 1) hm hf⟩
  obtain⟨t,z,hlk⟩:=key;by_cases h1:f<0
  ·clear hbad;go_enter func349,ntmps349;go_wp2;go_ret;exact fin _
  ·by_cases h2:32<=f
   ·clear hbad;go_enter func349,ntmps349;go_wp2;go_ret;exact fin _
   ·by_cases h3:wt<1
    ·clear hbad;go_enter func349,ntmps349;go_wp2;go_ret;exact fin _
    ·have h4:16<wt:=by omega
     clear hbad;go_enter func349,ntmps349;go_wp2;go_ret;exact fin _
 ·have h1:¬f<0:=by omega
  have h2:¬32<=f:=by omega
  have h3:¬wt<1:=by omega
  have h4:¬16<wt:=by omega
  cases hf:cB S.L f with
  |some t=>
   have e:vV S f wt=(7,S):=by unfold vV gG;rw[if_neg hbad,hf];rfl
   rw[e];clear e hbad;have hlk:=t_ (o1.up 1) hm hf;clear hf;go_enter func349,ntmps349;go_wp2;go_ret;exact⟨rfl,o.more _,⟨rfl,rfl,rfl⟩⟩
  |none=>
   have he:gG S f wt=0:=by unfold gG;rw[if_neg hbad,hf];rfl
   have e:vV S f wt=(0,pg S f wt):=by unfold vV;rw[he,if_pos rfl]
   rw[e];clear e hbad;have hlk:=ug (o1.up 1) hm hf;have hok1:=hok.join he;have hom:=o1.alloc (.cells #[aC,aC,aC] 484);have l1:=BN rb ((hom.up 3).drew) f false;simp only[Bool.false_eq_true,if_false]at l1;obtain⟨-,hbl,-,-,c2,c3,-⟩:=o1.cs;have hx:bK rem f=S.old f:=FQ.out f;obtain⟨s,hs⟩:=aP (max S.tm (bK rem f));have hms:max S.tm (S.old f)=s:=by rw[<-hx];exact hs
   have HS:=az hms;clear hms hx;have hrep:u7 (bA m f ⟨f,wt,s⟩) (pg S f wt).L:=by have h5:=hok.tm;have h6:=hok.old f;have:=hm.ins (x:=⟨f,wt,s⟩) hf (by refine⟨?_,?_,?_,?_,?_,?_⟩<;>(simp only;first|omega|(rw[<-HS.out];omega)));show u7 (bA m f ⟨f,wt,s⟩) (jB ⟨f,wt,max S.tm (S.old f)⟩ S.L);rw[HS.out];exact this
   clear hf he;go_enter func349,ntmps349;go_wp2;refine wp_region_tail 19 (by kernel_rfl) (by kernel_rfl) ?_;simp only[xe,List.take_zero,yB,List.drop_zero];repeat still_step
   refine wpStill_nil ?_;go_wp2_with(at_mapUpdate;refine bg (f:=iL) rfl _ _ _ rfl underlying215 underlying3 ((hom.up 2).drew) f ⟨f,wt,s⟩ rfl rfl rfl ?c1);case c1=>
   intro w1 o2 k2;have d2:=(o2.up 2).cell 2;go_wp2_with(at_delete;refine dL rfl _ _ rfl underlying216 underlying3 (o2.up 3) f rfl rfl ?c2);case c2=>
   intro w3 o3 k3;go_wp2;go_ret;refine⟨rfl,bU.iff.2 ⟨ab,rb,_,_,hrep,fun g=>?_,hur.dW f,hok1.1,?_⟩,(Calm.trans ⟨k2.os,k2.tape,k2.output⟩ k3)⟩
   ·show bK (dW rem f) g=if g=f then 0 else S.old g;unfold bK;rw[JB hur];split
    ·rfl
    ·exact FQ.out g
   ·exact o3.re [2,3,1,0] 1
end
section
variable{W w w':aF}{b:Nat}{aI:Int}{S:St}{R:aJ}
theorem xV(f:Int)(o:Own w (bU b aI S::R)):
  Calls prog 351 #[b,f] w (aR (.int .i64 (gm S f).1) (bU b aI (gm S f).2::R) w):=by
 obtain⟨ab,rb,m,rem,hm,hold,hur,hok,o1⟩:=bU.iff.1 o;have c1:=o1.cell 1;have FQ:=az hold;clear hold;cases hf:cB S.L f with
 |none=>
  have e:gm S f=(6,S):=by unfold gm;rw[hf]
  rw[e];clear e;have hlk:=ug (o1.up 1) hm hf;clear hf;go_enter func351,ntmps351;go_wp2;go_ret;exact⟨rfl,o.more _,⟨rfl,rfl,rfl⟩⟩
 |some t=>
  have e:gm S f=(0,lC S f t.s):=by unfold gm;rw[hf]
  rw[e];clear e;have hlk:=t_ (o1.up 1) hm hf;have hbl:=o1.aS;have hrep:=hm.del f;have hok1:=hok.leave hf;have hom:=o1.alloc (.cells #[t.f,t.w,t.s] 484);clear hf;go_enter func351,ntmps351;go_wp2_with(at_delete;refine dL rfl _ _ rfl underlying215 underlying3 (hom.up 2) f rfl rfl ?c1);case c1=>
  intro w1 o2 k2;have d2:=(o2.up 2).cell 2;have q2:=Own.cell (T:=484) (vs:=[t.f,t.w,t.s]) (o2.up 1) 2;go_wp2;refine wp_region_tail 7 (by kernel_rfl) (by kernel_rfl) ?_;simp only[xe,List.take_zero,yB,List.drop_zero];repeat still_step
  refine wpStill_nil ?_;go_wp2_with(at_mapUpdate;refine bg rfl _ _ _ rfl underlying216 underlying3 ((o2.up 3).drew) f t.s rfl rfl rfl ?c2);case c2=>
  intro w3 o3 k3;have d1:=(o3.up 3).cell 1;by_cases hz:j3 f S.L=[]
  ·have hm0:dW m f=[]:=by have:=hrep.len;rw[hz]at this;exact CO (by simpa using this)
   have hl0:((dW m f).length:Int)=0:=by rw[hm0];rfl
   have hlb:(((dW m f).length:Int)==0)=true:=by simpa using hl0
   have HM:=az hm0;clear hm0 hl0;have d2:=(o3.up 3).cell 2;go_wp2_with(first|(at_len;refine vO rfl _ rfl underlying215 (o3.up 1) rfl ?_)|(refine BA rfl _ rfl underlying216 o3 rfl ?c4));case c4=>
   intro w4 o4 k4;obtain⟨h3,h4,-,-,-,h2,-⟩:=(o4.up 3).cs;have o5:=(o4.up 3).setCell 3 aC;go_wp2;go_ret;refine⟨rfl,bU.iff.2 ⟨ab,rb,dW m f,[],?_,?_,by simp[bL],hok1,?_⟩,Calm.trans ⟨k2.os,k2.tape,k2.output⟩ (Calm.trans ⟨k3.os,k3.tape,k3.output⟩ ⟨k4.os,k4.tape,k4.output⟩)⟩
   ·rw[HM.out,lC,if_pos hz];exact u7.start
   ·rw[lC,if_pos hz];exact fun _=>rfl
   ·rw[lC,if_pos hz];exact o5.re [3,0,2,1] 1
  ·have hm0:(dW m f).length≠0:=by rw[hrep.len];exact fun e=>hz (CO e)
   have hlb:(((dW m f).length:Int)==0)=false:=Ec.2 (by omega);go_wp2_with(at_len;refine vO rfl _ rfl underlying215 (o3.up 1) rfl ?_);go_ret;have e:lC S f t.s={S with L:=j3 f S.L,old:=fun g=>if g=f then t.s else S.old g}:=if_neg hz;rw[e]at hok1⊢;refine⟨rfl,bU.iff.2 ⟨ab,rb,dW m f,bA rem f t.s,hrep,fun g=>?_,hur.bA _ _,hok1,?_⟩,Calm.trans ⟨k2.os,k2.tape,k2.output⟩ ⟨k3.os,k3.tape,k3.output⟩⟩
   ·show bK (bA rem f t.s) g=if g=f then t.s else S.old g;unfold bK;rw[r_];split
    ·rfl
    ·exact FQ.out g
   ·exact o3.re [2,3,1,0] 1
def OE(L:List Tg)(Sp:SP)(R:aJ)(w:aF)(v3 v8:aL)(wr:aF):Prop:=
 ∃(i:Nat)(last:Int),v8=↑(i:Int)/\v3=↑last/\i<=L.length/\(∀t,L[i]?=some t->last<t.f)/\Own wr (Sp::R)/\Calm w wr
theorem FR{Sp:SP}{L:List Tg}{a:aY}{n c:Nat}(hS:BC Sp a L)(hok:ED L)(hn:n=L.length)(o:Own w (Sp::R)):
  Calls prog 397 #[.slice a n c] w (aR (.bool true) (Sp::R) w):=by
 have hT:OE L Sp R w (.int .i64 (-1)) (.int .i64 0) w:=⟨0,-1,rfl,rfl,by omega,fun t ht=>by have:=hok.fZ t (mH ht);omega,o,Calm.refl w⟩;have hl:=hok.len;have hn2:n<=32:=by omega
 have Hn:=az hn;clear hn;go_enter func397,ntmps397;go_wp2;go_loopw[3,8] (fun v3 v8 wr=>OE L Sp R w v3 v8 wr) (fun _ v8 _=>n-(intOf v8).toNat);case atStart=>exact hT
 case round=>
  clear hT;obtain⟨i,last,rfl,rfl,hi,hlast,oR,kR⟩:=hrel;by_cases hlt:i<n
  ·obtain⟨t,ht⟩:∃t,L[i]?=some t:=⟨_,cZ (by have:=Hn.out;omega)⟩;obtain⟨g,so,rfl,d0,d1,d2⟩:=hS _ _ oR i _ ht;have h1:=hlast t ht;have h2:=hok.fZ t (mH ht);have hnext:∀u,L[i+1]?=some u->t.f<u.f:=fun u hu=>by have:=List.pairwise_iff_getElem.1 hok.yD i (i+1) (eU.1 ht).1 (eU.1 hu).1 (by omega);rw[(eU.1 ht).2,(eU.1 hu).2]at this;exact this
   have HN:=az hnext;obtain⟨x,y,z⟩:=t;dsimp only at d0 d1 d2 h1 h2 HN;clear ht hlast hnext;obtain⟨h2,h3,h4,h5,h6,h7⟩:=h2;have hw:decide (1<=y/\y<=16)=true:=by simp;omega
   have hwt:=fun w=>tY y w;rw[hw]at hwt;clear hw;have oA:=oR.alloc (.cells #[x,y,z] 484);go_wp2_with(go_at_call 404;refine(hwt _).mono ?_;rintro e w1⟨rfl,rfl⟩);go_roundw;case rel=>exact⟨i+1,x,by go_num,rfl,by have:=Hn.out;omega,HN.out,oA.drop,⟨kR.os,kR.tape,kR.output⟩⟩
   case measure=>simp[intOf];omega
  ·go_wp2;go_ret;exact⟨rfl,oR,kR⟩
def JO(L:List Tg)(T:Nat)(Sp:SP)(R:aJ)(w:aF)(v3 v16:aL)(wr:aF):Prop:=
 ∃(i best:Nat),v16=↑(i:Int)/\v3=↑(best:Int)/\i<=L.length/\best<L.length/\rR L (L.drop i) i best=T/\Own wr (Sp::R)/\Calm w wr
theorem vX{Sp:SP}{L:List Tg}{a:aY}{n c:Nat}(hS:BC Sp a L)(hok:ED L)(hn:n=L.length)(o:Own w (Sp::R)):
  Calls prog 389 #[.slice a n c] w (aR (.int .i64 (if L=[]then-1 else(qx L:Int))) (Sp::R) w):=by
 by_cases hz:L=[]
 ·rw[if_pos hz];have hn0:n=0:=by rw[hn,hz];rfl
  subst hn0;clear hn hz;go_enter func389,ntmps389;go_wp2;go_ret;exact⟨rfl,o,Calm.refl w⟩
 ·rw[if_neg hz];have hpos:0<n:=by rw[hn];exact List.length_pos_iff.2 hz
  have hl:=hok.len;have hn2:n<=32:=by omega
  have hv:=FR (c:=c) hS hok hn o;have hT0:rR L (L.drop 0) 0 0=qx L:=rfl;generalize qx L=T at*;have HT0:=az hT0;have Hn:=az hn;have hnb:((n:Int)==0)=false:=by simp;omega
  clear hn hz hT0;go_enter func389,ntmps389;go_wp2_with(go_at_call 397;refine hv.mono ?_;rintro e w1⟨rfl,o1,k1⟩);have hT:JO L T Sp R w (.int .i64 0) (.int .i64 0) w1:=⟨0,0,rfl,rfl,by omega,by have:=Hn.out;omega,HT0.out,o1,k1⟩;go_wp2;go_loopw[3,16] (fun v3 v16 wr=>JO L T Sp R w v3 v16 wr) (fun _ v16 _=>n-(intOf v16).toNat);case atStart=>exact hT
  case round=>
   clear hT hv;obtain⟨i,best,rfl,rfl,hi,hb,hE,oR,kR⟩:=hrel;have HT:=az hE;clear hE;by_cases hlt:i<n
   ·obtain⟨t,ht⟩:∃t,L[i]?=some t:=⟨_,cZ (by have:=Hn.out;omega)⟩;obtain⟨u,hu⟩:∃u,L[best]?=some u:=⟨_,cZ (by have:=Hn.out;omega)⟩;obtain⟨g,so,rfl,d0,d1,d2⟩:=hS _ _ oR i _ ht;have oA:=oR.alloc (.cells #[t.f,t.w,t.s] 484);obtain⟨g',so',hgg,_,_,e2⟩:=hS _ _ (oA.up 1) best _ hu;cases hgg;have hstep:rR L (L.drop i) i best=rR L (L.drop (i+1)) (i+1) (if t.s<u.s then i else best):=by rw[drop_at ht,rR,Eb,hu];rfl
    have FM:=az hstep;have hbn:best<n:=by have:=Hn.out;omega
    obtain⟨x,y,z⟩:=t;obtain⟨x',y',z'⟩:=u;dsimp only at d0 d1 d2 e2 FM;clear ht hu hstep;by_cases hc:z<z'
    ·have hd:decide (z<z')=true:=by simpa using hc
     go_wp2;go_quiet(fail);go_wp2;go_roundw;case rel=>exact⟨i+1,i,by go_num,rfl,by have:=Hn.out;omega,by have:=Hn.out;omega,by rw[<-HT.out,FM.out,if_pos hc],oA.drop.drewN _,⟨kR.os,kR.tape,kR.output⟩⟩
     case measure=>simp[intOf];omega
    ·have hd:decide (z<z')=false:=by simpa using hc
     go_wp2;go_quiet(fail);go_wp2;go_roundw;case rel=>exact⟨i+1,best,by go_num,rfl,by have:=Hn.out;omega,hb,by rw[<-HT.out,FM.out,if_neg (by omega)],oA.drop.drewN _,⟨kR.os,kR.tape,kR.output⟩⟩
     case measure=>simp[intOf];omega
   ·go_wp2;go_ret;have hbT:best=T:=by rw[<-HT.out,List.drop_eq_nil_of_le (by have:=Hn.out;omega)];rfl
    exact⟨by rw[hbT];rfl,oR,kR⟩
def Ur(b ab rb:Nat)(aI:Int)(S:St)(m:List (Int×Tg))(rem:bO)(a:aY)(cap:Nat)(ks:bq)(R:aJ)(w:aF)(v3 v13:aL)(wr:aF):Prop:=
 ∃(i:Nat)(a':aY)(c':Nat),v13=↑(i:Int)/\i<=S.L.length/\v3=.slice a' i c'/\
  Own wr (slc 484 3 a' i c' (flat dA (S.L.take i))::slc 3 1 a ks.length cap (ks.map (Value.int .i64))::aH b 218 [aI,.map (some ab),.map (some rb),S.tm,S.aw]::bB iL ab m::bB (Value.int .i64) rb rem::R)/\Calm w wr
def YM(b:Nat)(aI:Int)(S:St)(R:aJ)(w:aF)(e:Ending)(w':aF):Prop:=
 ∃(a:aY)(c:Nat),aR (.slice a S.L.length c) (slc 484 3 a S.L.length c (flat dA S.L)::bU b aI S::R) w e w'
theorem l_(o:Own w (bU b aI S::R)):
  Calls prog 372 #[b] w (YM b aI S R w):=by
 obtain⟨ab,rb,m,rem,hm,hold,hur,hok,o1⟩:=bU.iff.1 o;have c1:=o1.cell 1;have FQ:=az hold;clear hold;have hlen:=hm.ok.len;have hml:=hm.len;have hks:=hm.sort;go_enter func372,ntmps372;go_wp2_with fail;refine(LB _ _).mono ?_;rintro e1 w1⟨rfl,rfl⟩;have o2:=((o1.alloc (.cells #[.map (some ab)] 215)).up 2).up 1;go_wp2_with fail;refine(FH w.heap.size hm.Yb (by omega) o2).mono ?_;rintro e2 w2⟨a,cap,rfl,o3,k3⟩;rw[hks]at o3;have hkl:(S.L.map (·.f)).length=m.length:=by rw[iP,hml]
 rw[<-hkl]at o3⊢;have hget:∀(i:Nat)(t:Tg),S.L[i]?=some t->(S.L.map (·.f))[i]?=some t.f:=fun i t h=>by rw[kI,h];rfl
 have adH:=az hget;have hkn:(S.L.map (·.f)).length=S.L.length:=iP _;generalize S.L.map (·.f)=ks at*;have hT:Ur b ab rb aI S m rem a cap ks R w (.slice none 0 0) (.int .i64 0) w2:=
  ⟨0,none,0,rfl,by omega,rfl,Own.bH (o3.re [0,2,1,3]),⟨k3.os,k3.tape,k3.output⟩⟩
 have Hkn:=az hkn;have LH:ks.length<=32:=by omega
 clear hkn hkl hks hml o3 k3 o2 o1 c1 hget;go_wp2;go_loopw[3,13] (fun v3 v13 wr=>Ur b ab rb aI S m rem a cap ks R w v3 v13 wr) (fun _ v13 _=>ks.length-(intOf v13).toNat);case atStart=>exact hT
 case round=>
  clear hT;obtain⟨i,a',c',rfl,hi,rfl,oR,kR⟩:=hrel;by_cases hlt:i<ks.length
  ·obtain⟨t,ht⟩:∃t,S.L[i]?=some t:=⟨_,cZ (by have:=Hkn.out;omega)⟩;have hkt:=adH.out i t ht;obtain⟨g,rfl,hc,_,_⟩:=(oR.up 1).aG (by omega);have d0:=hc i t.f (by rw[kI,hkt];rfl);have c1:=(oR.up 2).cell 1;have hfg:=vH hm.ok (mH ht);have hlk:=VT (oR.up 3) hm hfg;have htk:S.L.take (i+1)=S.L.take i++[t]:=by rw[tH,ht];rfl
   have VQ:=az htk;have oA:=oR.alloc (.cells #[t.f,t.w,t.s] 484);clear hc hkt ht hfg htk;go_wp2_with(at_builtin;refine aU rfl _ _ rfl Tryz.tagT rfl (oA.up 1) ⟨wr.heap.size,0,none⟩ 1 1 [t.f,t.w,t.s] rfl rfl ?c1 ?c2 ?c3 ?c4 ?c5);case c1=>exact Own.news (T:=484) oA
   case c2=>intro u hu;simp at hu;rcases hu with rfl|rfl|rfl<;>rfl
   case c3=>unfold maxLen;omega
   case c4=>omega
   case c5=>
   intro a2 c2 w5 o5 k5;go_wp2;go_roundw;case rel=>refine⟨i+1,a2,c2,by go_num,by have:=Hkn.out;omega,rfl,?_,kR.trans ⟨k5.os,k5.tape,k5.output⟩⟩;rw[VQ.out,aO];exact(o5.up 1).drop
   case measure=>simp[intOf];omega
  ·have hin:i=S.L.length:=by have:=Hkn.out;omega
   subst hin;rw[List.take_length]at oR;go_wp2;go_ret;refine⟨a',c',rfl,?_,kR⟩;refine Own.swap (bU.iff.2 ⟨ab,rb,m,rem,hm,FQ.out,hur,hok,?_⟩);exact(oR.re [1,2,3,4,0] 1)
theorem fO(o:Own w (bU b aI S::R)):
  Calls prog 377 #[b] w (aR (.tuple #[.int .i64 (dD S.L).1,.int .i64 (dD S.L).2]) (bU b aI S::R) w):=by
 have hok:=(bU.ok o).ok;go_enter func377,ntmps377;go_wp2_with fail;refine(l_ o).mono ?_;rintro e1 w1⟨a,c,rfl,o1,k1⟩;have hS:=qm a S.L.length c S.L rfl;go_wp2_with fail;refine(vX hS hok rfl o1).mono ?_;rintro e2 w2⟨rfl,o2,k2⟩;by_cases hz:S.L=[]
 ·have e1:dD S.L=(0,5):=if_pos hz;have HE:=az e1;rw[if_pos hz];clear hz e1;go_wp2;go_ret2;rw[HE.out];exact⟨rfl,o2.drop,k1.trans k2⟩
 ·have e1:dD S.L=((lu S.L).f,0):=if_neg hz;have hlt:=BK hz;have hgt:S.L[qx S.L]?=some (lu S.L):=by unfold lu;rw[Eb,cZ hlt];rfl
  obtain⟨g,so,rfl,d0,_,_⟩:=hS _ _ o2 _ _ hgt;have HE:=az e1;rw[if_neg hz];have ae9:=hok.len;clear hz e1 hgt hS;generalize qx S.L=k at*;generalize lu S.L=t at*;go_wp2;go_ret2;rw[HE.out];exact⟨rfl,o2.drop,k1.trans k2⟩
def Rp(d_:Int)(t:Tg):Tg:=⟨t.f,t.w,t.s-d_⟩
def Rq(d_:Int)(v:Int):Int:=max (v-d_) 0
def Us(b ab rb ib:Nat)(aI tm aw d_:Int)(m:List (Int×Tg))(rem:bO)(R:aJ)(w wr:aF):Prop:=
 ∃(X:Int->Bool)(cur:Option Int)(m':List (Int×Tg)),True=True/\m'=upd (Rp d_) X m/\
  Own wr (fZ iL ab ib m' X cur::aH b 218 [aI,.map (some ab),.map (some rb),tm,aw]::bB (Value.int .i64) rb rem::R)/\Calm w wr
def Ut(b ab rb ib:Nat)(aI tm aw d_:Int)(m:List (Int×Tg))(rem:bO)(R:aJ)(w wr:aF):Prop:=
 ∃(X:Int->Bool)(cur:Option Int)(r':bO),True=True/\r'=upd (Rq d_) X rem/\
  Own wr (fZ (Value.int .i64) rb ib r' X cur::aH b 218 [aI,.map (some ab),.map (some rb),tm,aw]::bB iL ab m::R)/\Calm w wr
theorem VU{d_:Int}(h:0<=d_)(rem:bO)(f:Int):bK (rem.map fun x=>(x.1,Rq d_ x.2)) f=max (bK rem f-d_) 0:=by
 have:rem.map (fun x=>(x.1,Rq d_ x.2))=upd (Rq d_) (fun _=>true) rem:=by unfold upd;simp
 rw[this];unfold bK;rw[zN];cases a_ rem f with
 |none=>simp;omega
 |some v=>simp[Rq]
theorem OG(d_:Int)(h0:0<=d_)(h1:d_<=S.tm)(h2:∀t∈S.L,d_<=t.s)(haw:0<=S.aw/\S.aw<=1152921504606846976)(o:Own w (bU b aI S::R)):
  Calls prog 392 #[b,d_] w (aR (.tuple #[]) (bU b aI (BL S d_)::R) w):=by
 obtain⟨ab,rb,m,rem,hm,hold,hur,hok,o1⟩:=bU.iff.1 o;have hok1:=hok.sub h0 h1 h2;have hby:d_<=1099511627776:=by have:=hok.tm;omega
 have Ul:=hok.tm;have hmr:∀x∈m,d_<=x.2.s/\x.2.s<=1099511627776/\x.2.f=x.1:=fun x hx=>by obtain⟨t,ht,he⟩:=gW.1 (hm.perm.mem_iff.1 hx);rw[<-he];exact⟨h2 t ht,(hok.ok.fZ t ht).2.2.2.2.2,rfl⟩
 have hrr:∀x∈rem,0<=x.2/\x.2<=1099511627776:=fun x hx=>by have h3:=hold x.1;have h4:=hok.old x.1;rw[<-h3]at h4;unfold bK at h4;rw[eO hur hx]at h4;exact h4
 have BH:=hm.uniq;have hfin:u7 (m.map fun p=>(p.1,Rp d_ p.2)) (BL S d_).L:=hm.map (Rp d_) (fun _=>rfl) hok1.ok;have acy:∀f,bK (rem.map fun x=>(x.1,Rq d_ x.2)) f=(BL S d_).old f:=fun f=>by rw[VU h0,hold];rfl
 have acz:bL (rem.map fun x=>(x.1,Rq d_ x.2)):=by unfold bL;rw[List.map_map];exact hur
 have Hmr:=az hmr;have Hrr:=az hrr;have HF:=az hfin;have HF2:=az acy;have HF3:=az acz;have OH:=az hok1;obtain⟨w5,VE,o9,k9⟩:=gL (P:=prog) underlying215 (o1.up 1);have hT:Us b ab rb w.heap.size aI S.tm S.aw d_ m rem R w w5:=⟨fun _=>false,none,m,rfl,(NS _ _).symm,o9,k9⟩;have c1:=o1.cell 1;have e1:BL S d_=⟨S.L.map (Rp d_),fun g=>max (S.old g-d_) 0,S.tm-d_,S.aw+d_⟩:=rfl;have HE1:=az e1;generalize hTM:S.tm=TM at*;generalize hAW:S.aw=AW at*;generalize hib:w.heap.size=ib at*;clear hfin acy acz hok1 hmr hrr hold hok h2 o9 k9 e1 hTM hAW hib;go_enter func392,ntmps392;go_wp2;go_loopw[13] (fun _ wr=>Us b ab rb ib aI TM AW d_ m rem R w wr) (fun _ wr=>iE wr ab ib);case atStart=>exact hT
 case round=>
  clear hT VE c1 o1 o;obtain⟨X,cur,m',_,hm',oR,kR⟩:=hrel;have Hm:=az hm';have hkm:m'.map (·.1)=m.map (·.1):=by rw[hm',NR]
  have aa5:bL m':=by unfold bL;rw[hkm];exact BH
  clear hm';rcases iM (P:=prog) 0 aa5 oR with⟨hd,hr⟩|⟨x,w6,hx,hS,hr,jN,k10⟩
  ·have hall:∀x∈m,X x.1=true:=fun x hx=>by
    have:x.1∈m'.map (·.1):=by rw[hkm];exact gW.2 ⟨x,hx,rfl⟩
    obtain⟨y,hy,hyx⟩:=gW.1 this;rw[<-hyx];exact hd y hy
   have oD:=oR.lV;rw[Hm.out,Ug hall]at oD;have g2:=(oD.up 1).cell 2;obtain⟨w7,hr7,o7,k7⟩:=gL (P:=prog) underlying216 (oD.up 2);have Ef:Ut b ab rb wr.heap.size aI TM AW d_ (m.map fun p=>(p.1,Rp d_ p.2)) rem R w w7:=⟨fun _=>false,none,rem,rfl,(NS _ _).symm,o7.re [0,2,1],kR.trans k7⟩;have HFm:=HF;generalize (m.map fun p=>(p.1,Rp d_ p.2))=m1 at*;generalize wr.heap.size=ib2 at*;clear hd hall o7 k7 HF;go_wp2;go_loopw[34] (fun _ wr=>Ut b ab rb ib2 aI TM AW d_ m1 rem R w wr) (fun _ wr=>iE wr rb ib2);case atStart=>exact Ef
   case round=>
    clear Ef hr7 g2 oD oR kR hr;obtain⟨X,cur,r',_,hr',oR,kR⟩:=hrel;have Hr:=az hr';have hkr:r'.map (·.1)=rem.map (·.1):=by rw[hr',NR]
    have aa6:bL r':=by unfold bL;rw[hkr];exact hur
    clear hr';rcases iM (P:=prog) 0 aa6 oR with⟨hd,hr⟩|⟨x,w6,hx,hS,hr,jN,k10⟩
    ·have hall:∀x∈rem,X x.1=true:=fun x hx=>by
      have:x.1∈r'.map (·.1):=by rw[hkr];exact gW.2 ⟨x,hx,rfl⟩
      obtain⟨y,hy,hyx⟩:=gW.1 this;rw[<-hyx];exact hd y hy
     have oD:=oR.lV;rw[Hr.out,Ug hall]at oD;obtain⟨gf,gb,-,-,-,g3,g4,-⟩:=(oD.up 1).cs;have oE:=((oD.up 1).setCell 3 (TM-d_:Int)).setCell 4 (AW+d_:Int);clear hd hall;go_wp2;go_end0;refine⟨rfl,bU.iff.2 ⟨ab,rb,_,_,HFm.out,HF2.out,HF3.out,OH.out,?_⟩,⟨kR.os,kR.tape,kR.output⟩⟩;rw[HE1.out];exact oE.re [0,2,1]
    ·obtain⟨key,val⟩:=x;dsimp only at hS hr jN;have hmv:a_ r' key=some val:=eO aa6 hx;have hmt:a_ rem key=some val:=by rw[Hr.out,zN]at hmv;simp only[hS,Bool.false_eq_true,if_false,Option.map_eq_some_iff,exists_eq_right]at hmv;exact hmv
     have hvr:=Hrr.out _ (jA hmt);dsimp only at hvr;have hen:=gP (P:=prog) aa6 jN hmv;have g6:=(jN.up 1).cell 2;have hin:(a_ r' key).isSome=true:=by rw[hmv];rfl
     have Hmv:=az hmv;have Hin:=az hin;have Hmt:=az hmt;clear hmv hin hmt;go_wp2_with(at_mapUpdate;refine jE rfl _ _ _ rfl underlying216 underlying3 aa6 jN key (max (val-d_) 0) Hin.out rfl rfl rfl ?k2);case k2=>
     intro w7 Eg k11;go_wp2;go_roundw;case rel=>refine⟨_,_,_,rfl,?_,Eg,(kR.trans k10).trans k11⟩;rw[Hr.out];exact Lm hur Hmt.out
     case measure=>rw[Eg.iE,oR.iE,yF (gW.2 ⟨_,hx,rfl⟩)];exact qi hx hS
  ·obtain⟨key,t⟩:=x;dsimp only at hS hr jN;have hmv:a_ m' key=some t:=eO aa5 hx;have hmt:a_ m key=some t:=by rw[Hm.out,zN]at hmv;simp only[hS,Bool.false_eq_true,if_false,Option.map_eq_some_iff,exists_eq_right]at hmv;exact hmv
   have hvr:=Hmr.out _ (jA hmt);dsimp only at hvr;have hen:=gP (P:=prog) aa5 jN hmv;obtain⟨x,y,z⟩:=t;unfold iL at hen;dsimp only at hen hvr;obtain⟨hv1,hv2,rfl⟩:=hvr;obtain⟨-,gb,-,g6,-⟩:=(jN.up 1).cs;have oA:=jN.alloc (.cells #[.int .i64 x,y,(z-d_:Int)] 484);have hin:(a_ m' x).isSome=true:=by rw[hmv];rfl
   have Hmv:=az hmv;have Hin:=az hin;have Hmt:=az hmt;clear hmv hin hmt;go_wp2;refine wp_region_tail 6 (by kernel_rfl) (by kernel_rfl) ?_;simp only[xe,List.take_zero,yB,List.drop_zero];repeat still_step
   refine wpStill_nil ?_;go_wp2_with(at_mapUpdate;refine jE (f:=iL) rfl _ _ _ rfl underlying215 underlying3 aa5 ((oA.up 1).drew) x (Rp d_ ⟨x,y,z⟩) Hin.out rfl rfl rfl ?k3);case k3=>
   intro w7 Eg k11;go_wp2;go_roundw;case rel=>refine⟨_,_,_,rfl,?_,Eg.re [0,2,3,1]|>.re [3,0,1,2] 1,(kR.trans k10).trans ⟨k11.os,k11.tape,k11.output⟩⟩;rw[Hm.out];exact Lm BH Hmt.out
   case measure=>rw[Eg.iE,oR.iE,yF (gW.2 ⟨_,hx,rfl⟩)];exact qi hx hS
def Rs(b:Nat)(aI:Int)(ab rb:Nat)(S:St)(m:List (Int×Tg))(rem:bO):SP:=
 st [aH b 218 [aI,.map (some ab),.map (some rb),S.tm,S.aw],bB iL ab m,bB (Value.int .i64) rb rem]
theorem Rs.iff{ab rb:Nat}{m:List (Int×Tg)}{rem:bO}:Own w (Rs b aI ab rb S m rem::R)↔
  Own w (aH b 218 [aI,.map (some ab),.map (some rb),S.tm,S.aw]::bB iL ab m::bB (Value.int .i64) rb rem::R):=Own.st
theorem OI{f len:Int}{t:Tg}(h:cB S.L f=some t)(he:(mX t.s len t.w).2≠0):bF aI S f len=((mX t.s len t.w).2,S):=by unfold bF;rw[h];exact if_pos he
theorem Rt{f len nx:Int}{t:Tg}(h:cB S.L f=some t)(he:mX t.s len t.w=(nx,0)):bF aI S f len=(0,vU aI (EI S t nx)):=by unfold bF;rw[h];simp only[he];exact if_neg (by simp)
theorem qD(f len:Int)(haw:0<=S.aw/\S.aw<=1152921504606846976)(o:Own w (bU b aI S::R)):
  Calls prog 381 #[b,f,len] w (aR (.int .i64 (bF aI S f len).1) (bU b aI (bF aI S f len).2::R) w):=by
 obtain⟨ab,rb,m,rem,hm,hold,hur,hok,o1⟩:=bU.iff.1 o;have c1:=o1.cell 1;have FQ:=az hold;clear hold;cases hf:cB S.L f with
 |none=>
  have e:bF aI S f len=(6,S):=by unfold bF;rw[hf]
  rw[e];clear e;have hlk:=ug (o1.up 1) hm hf;clear hf;go_enter func381,ntmps381;go_wp2;go_ret;exact⟨rfl,o.more _,⟨rfl,rfl,rfl⟩⟩
 |some t=>
  have hlk:=t_ (o1.up 1) hm hf;have hbl:=o1.aS;obtain⟨Ul,htf⟩:=cK hf;obtain⟨x,y,z⟩:=t;dsimp only at htf;subst htf;have htr:=hok.ok.fZ _ Ul;dsimp only at htr hlk;cases hfin:mX z len y with
  |mk nx er=>
  have hfs:=Dg z len y;rw[hfin]at hfs;unfold xR at hfs;dsimp only at hfs;by_cases her:er=0
  ·subst her;rw[Rt hf hfin];have hok2:=aa2 (show(mX z len y).2=0 by rw[hfin]);rw[hfin]at hok2;have hnx:0<=nx/\nx<=1099511627776:=by obtain⟨h1,h2,h3,h4⟩:=hok2;dsimp only at h1;have:=mW (len:=len) (wt:=y) (by unfold lY at h2;omega) (by unfold lY at h2;omega) (by unfold lY at h2;omega) (by unfold lY at h2;omega);omega
   have OJ:=hok.ch Ul hnx;have hrep:u7 (bA m x ⟨x,y,nx⟩) (dU ⟨x,y,nx⟩ S.L):=by have:=hm.set (x:=⟨x,y,nx⟩) (by rw[hf];simp) ⟨htr.1,htr.2.1,htr.2.2.1,htr.2.2.2.1,hnx.1,hnx.2⟩;exact this
   have hne:S.L≠[]:=List.ne_nil_of_mem Ul;have c3:=o1.cell 3;obtain⟨z_,afa⟩:=aP (max S.tm z);have hST:EI S ⟨x,y,z⟩ nx=⟨dU ⟨x,y,nx⟩ S.L,S.old,z_,S.aw⟩:=by unfold EI;rw[afa]
   have oM:=(o1.setCell 3 z_).alloc (.cells #[.int .i64 x,.int .i64 y,nx] 484);have hne1:dU (⟨x,y,nx⟩:Tg) S.L≠[]:=zU hne;rw[hST]at OJ⊢;have gf:=o1.frozen;clear hfin hok2 hf hne hST;go_enter func381,ntmps381;go_wp2_with(go_at_call 391;refine(hfs _).mono ?_;rintro e2 w2⟨rfl,rfl⟩);refine wp_region_tail 8 (by kernel_rfl) (by kernel_rfl) ?_;simp only[xe,List.take_zero,yB,List.drop_zero];repeat still_step
   refine wpStill_nil ?_;go_wp2;refine wp_region_tail 6 (by kernel_rfl) (by kernel_rfl) ?_;simp only[xe,List.take_zero,yB,List.drop_zero];repeat still_step
   refine wpStill_nil ?_;go_wp2_with(at_mapUpdate;refine bg (f:=iL) rfl _ _ _ rfl underlying215 underlying3 (((oM.up 2).drew).drew) x ⟨x,y,nx⟩ rfl rfl rfl ?c1);case c1=>
   intro w3 o3 k3;have oS:Own w3 (bU b aI ⟨dU ⟨x,y,nx⟩ S.L,S.old,z_,S.aw⟩::R):=bU.iff.2 ⟨ab,rb,_,rem,hrep,FQ.out,hur,OJ,o3.re [1,2,0,3] 1⟩;have K3:Calm w w3:=⟨k3.os,k3.tape,k3.output⟩;clear o3 k3 oM hrep gf c3 hbl hlk c1 o1;have hbS:Nu ⟨dU ⟨x,y,nx⟩ S.L,S.old,z_,S.aw⟩=min z_ (lu (dU ⟨x,y,nx⟩ S.L)).s:=rfl;have hrb:=EJ OJ hne1;have HR:Hid (vU aI ⟨dU ⟨x,y,nx⟩ S.L,S.old,z_,S.aw⟩=if Nu ⟨dU ⟨x,y,nx⟩ S.L,S.old,z_,S.aw⟩<aI then⟨dU ⟨x,y,nx⟩ S.L,S.old,z_,S.aw⟩else BL ⟨dU ⟨x,y,nx⟩ S.L,S.old,z_,S.aw⟩ (Nu ⟨dU ⟨x,y,nx⟩ S.L,S.old,z_,S.aw⟩)):=az rfl;obtain⟨S1,hS1⟩:∃S1:St,S1=⟨dU ⟨x,y,nx⟩ S.L,S.old,z_,S.aw⟩:=⟨_,rfl⟩;have e1:dU ⟨x,y,nx⟩ S.L=S1.L:=by rw[hS1]
   have e2:z_=S1.tm:=by rw[hS1]
   have e3:S.aw=S1.aw:=by rw[hS1]
   rw[<-hS1]at oS HR hrb hbS OJ;rw[e1,e2]at hbS;rw[e1]at hne1;rw[e3]at haw;have HE1:=az hS1;clear hS1 e1 e2 e3 afa;obtain⟨d_,hby⟩:=aP (Nu S1);rw[hby]at hbS HR hrb;clear hby hur htr;go_wp2_with fail;refine(l_ oS).mono ?_;rintro e4 w4⟨a,c,rfl,o4,k4⟩;obtain⟨ab2,rb2,m2,afb,hm2,acA,ag1,_,o5⟩:=bU.iff.1 (o4.up 1);have o6:Own w4 (slc 484 3 a S1.L.length c (flat dA S1.L)::Rs b aI ab2 rb2 S1 m2 afb::R):=Own.swap (Rs.iff.2 o5);have hS:=qm a S1.L.length c S1.L rfl;have hlt:=BK hne1;have hgt:S1.L[qx S1.L]?=some (lu S1.L):=by unfold lu;rw[Eb,cZ hlt];rfl
   have ae9:=OJ.ok.len;have hlc:=vX (c:=c) hS OJ.ok rfl o6.drew;rw[if_neg hne1]at hlc;have afc:=az acA;have hkeep:=o5.cell 3;clear o5 o4;have hat:∀(w:aF)(R:aJ),Own w (slc 484 3 a S1.L.length c (flat dA S1.L)::R)->∃g so,a=some ⟨g,so,none⟩/\w.cell? ⟨g,so+qx S1.L*3+2,none⟩=some (.int .i64 (lu S1.L).s):=fun w R o=>by obtain⟨g,so,h1,_,_,h2⟩:=hS w R o _ _ hgt;exact⟨g,so,h1,h2⟩
   obtain⟨g,so,hga,_⟩:=hat _ _ o6;subst hga;have afd:∀(w:aF)(R:aJ),Own w (slc 484 3 (some ⟨g,so,none⟩) S1.L.length c (flat dA S1.L)::R)->w.cell? ⟨g,so+qx S1.L*3+2,none⟩=some (.int .i64 (lu S1.L).s):=fun w R o=>by obtain⟨g',so',h1,h2⟩:=hat w R o;cases h1;exact h2
   have Hat:=az afd;have HBS:=az hbS;clear hgt hS acA hat afd hbS;generalize qx S1.L=k at*;generalize (lu S1.L).s=ls at*;have aiy:=OJ.tm;have hmn:min S1.tm ls=d_:=HBS.out.symm;have adI:=Hat.out _ _ o6;go_wp2
   go_region_held3(fun w'=>w'.cell? ⟨b,3,none⟩=some ↑S1.tm/\w'.cell? ⟨g,so+k*3+2,none⟩=some ↑ls) (go_keep) (first
    |(go_at_call 389;(with_reducible refine hlc.mono ?_);rintro e5 w5⟨rfl,o7,k7⟩;have q0:=(Rs.iff.1 (o7.up 1)).cell 0;have q3:=(Rs.iff.1 (o7.up 1)).cell 3;have ql:=Hat.out _ _ o7))
   have o8:Own w5 (bU b aI S1::slc 484 3 (some ⟨g,so,none⟩) S1.L.length c (flat dA S1.L)::R):=bU.iff.2 ⟨ab2,rb2,m2,afb,hm2,afc.out,ag1,OJ,Rs.iff.1 o7.swap⟩;have K7:Calm w w5:=K3.trans (k4.trans ⟨k7.os,k7.tape,k7.output⟩);clear ql q3 hkeep adI hmn hlc;by_cases hcmp:d_<aI
   ·go_wp2;go_ret;have e1:vU aI ⟨dU ⟨x,y,nx⟩ S.L,S.old,z_,S.aw⟩=S1:=by rw[<-HE1.out,HR.out,if_pos hcmp]
    rw[e1];exact⟨rfl,o8.swap.drop,K7⟩
   ·have hsub:=OG d_ hrb.1 hrb.2.1 hrb.2.2 haw o8;clear hrb;go_wp2_with fail;refine hsub.mono ?_;rintro e6 w6⟨rfl,o9,k9⟩;go_wp2;go_ret;have e1:vU aI ⟨dU ⟨x,y,nx⟩ S.L,S.old,z_,S.aw⟩=BL S1 d_:=by rw[<-HE1.out,HR.out,if_neg (by omega)]
    rw[e1];exact⟨rfl,o9.swap.drop,K7.trans k9⟩
  ·rw[OI (f:=x) hf (by rw[hfin];exact her)];rw[hfin];have ag0:(er !=0)=true:=by simpa using her
   clear hfin hf;go_enter func381,ntmps381;go_wp2_with(go_at_call 391;refine(hfs _).mono ?_;rintro e2 w2⟨rfl,rfl⟩);go_ret;exact⟨rfl,o.more _,⟨rfl,rfl,rfl⟩⟩
end
section
variable{W w w':aF}{R:aJ}{b:Nat}
theorem OM{aI tm:Int}{el tg:bO}(a:aY)(n c:Nat)(l:bO)(hn:n=l.length)(hn2:n<=1000)(hb:gH (-1) l=false)
  (o:Own w (slc 493 2 a n c (flat part l)::bP b aI el tg tm::R)):
  Calls prog 360 #[b,.slice a n c] w
   (aR (.int .i64 0) (slc 493 2 a n c (flat part l)::bP b aI (qC l []) (lZ el tm l tg) tm::R) w):=
 (IU a n c l hn hn2 o).mono fun e w' h=>by unfold rA at h;rw[hb]at h;exact h
end
section
variable{α:Type}{f:α->aL}{W w w':aF}{R:aJ}{b mb:Nat}{m:List (Int×α)}{aI tm:Int}{el tg:bO}
def BX(f:α->aL)(mb:Nat)(m:List (Int×α))(R:aJ)(w:aF)(e:Ending)(w':aF):Prop:=
 e=.returned (.map (some w.heap.size))/\Own w' (bB f w.heap.size m::bB f mb m::R)/\Calm w w'
theorem LU(o:Own w (bB f mb m::R)):Calls prog 376 #[.map (some mb)] w (BX f mb m R w):=by obtain⟨es,clock,h1,h2,h3,o1⟩:=Own.bB.1 o;have hb:=o1.blk;have hq:=fun w=>run_eql_map_nil_sl (P:=prog) w 222 _ _ (some mb) underlying222;have hfin:Own (w.alloc (.map es clock)) (bB f w.heap.size m::bB f mb m::R):=Own.bB.2 ⟨es,clock,h1,h2,h3,o.alloc _⟩;go_enter func376,ntmps376;go_wp2;rw[run_callFunc_extern func388 (by kernel_rfl) (by kernel_rfl) (by kernel_rfl) (e:=Extern.MapsClone.clone) (by kernel_rfl),run_maps_clone_sl w _ hb];simp only[Result.andThen];rw[Oper.upon_value];go_wp2;rw[run_typeAssert_map_sl _ 222 _ _ _ _ underlying222];simp only[Result.andThen];rw[Oper.upon_value];go_wp2;go_ret;exact⟨rfl,hfin,⟨rfl,rfl,rfl⟩⟩
theorem Ae(o:Own w (bB f mb m::R)):Calls prog 375 #[.map (some mb)] w (BX f mb m R w):=by obtain⟨es,clock,h1,h2,h3,o1⟩:=Own.bB.1 o;have hb:=o1.blk;have hq:=fun w=>run_eql_map_nil_sl (P:=prog) w 216 _ _ (some mb) underlying216;have hfin:Own (w.alloc (.map es clock)) (bB f w.heap.size m::bB f mb m::R):=Own.bB.2 ⟨es,clock,h1,h2,h3,o.alloc _⟩;go_enter func375,ntmps375;go_wp2;rw[run_callFunc_extern func388 (by kernel_rfl) (by kernel_rfl) (by kernel_rfl) (e:=Extern.MapsClone.clone) (by kernel_rfl),run_maps_clone_sl w _ hb];simp only[Result.andThen];rw[Oper.upon_value];go_wp2;rw[run_typeAssert_map_sl _ 216 _ _ _ _ underlying216];simp only[Result.andThen];rw[Oper.upon_value];go_wp2;go_ret;exact⟨rfl,hfin,⟨rfl,rfl,rfl⟩⟩
def YN(b:Nat)(aI tm:Int)(el tg:bO)(R:aJ)(w:aF)(e:Ending)(w':aF):Prop:=
 ∃p,aR (.pointer (some ⟨p,0,none⟩)) (bP p aI el tg tm::bP b aI el tg tm::R) w e w'
theorem IV(o:Own w (bP b aI el tg tm::R)):Calls prog 358 #[b] w (YN b aI tm el tg R w):=by
 obtain⟨eb,tb,o1⟩:=bP.iff.1 o;obtain⟨-,hlt,c0,c1,c2,c3,-⟩:=o1.cs;have oA:=o1.alloc (.cells #[aI,.map (some eb),.map (some tb),tm] 224);have oAd:Own (w.alloc (.cells #[aI,.map (some eb),.map (some tb),tm] 224)).drew (bB (Value.int .i64) eb el::aH w.heap.size 224 [aI,.map (some eb),.map (some tb),tm]::aH b 224 [aI,.map (some eb),.map (some tb),tm]::bB (Value.int .i64) tb tg::R):=oA.drew.re [2,0,1,3];have hsz:(w.alloc (.cells #[aI,.map (some eb),.map (some tb),tm] 224)).drew.heap.size=w.heap.size+1:=by simp
 have HSZ:=az hsz;clear hsz;obtain⟨-,-,-,q0,q1,-⟩:=(oA.up 1).cs;go_enter func358,ntmps358;go_wp2
 go_region_held3(fun w'=>w'.cell? ⟨b,1,none⟩=some (.map (some eb))/\w'.cell? ⟨b,2,none⟩=some (.map (some tb))) (go_keep) (first
  |(go_at_call 376;(with_reducible refine(LU oAd).mono ?_);rintro e2 w2⟨rfl,o2,k2⟩;rw[HSZ.out]at o2;have x1:=(o2.up 3).cell 1;have x2:=(o2.up 3).cell 2;have o2b:=o2.re [4,0,1,2,3])
  |(go_at_call 375;(with_reducible refine(Ae o2b).mono ?_);rintro e3 w3⟨rfl,o3,k3⟩;have y1:=(o3.up 5).cell 1;have y2:=(o3.up 5).cell 2;have z1:=(o3.up 4).cell 1;have z2:=(o3.up 4).cell 2;have zf:=(o3.up 4).frozen;have zl:=(o3.up 4).aS;have oS:=(o3.up 4).setCell 1 (.map (some (w.heap.size+1)));have s1:=(oS.up 5).cell 1;have s2:=(oS.up 5).cell 2;have s3:=oS.cell 2;have sf:=oS.frozen;have sl:=oS.aS;have Nw:=oS.setCell 2 (.map (some w2.heap.size));have t1:=(Nw.up 5).cell 1;have t2:=(Nw.up 5).cell 2))
 go_wp2;go_ret;have K:=Calm.trans k2 k3;refine⟨w.heap.size,rfl,?_,⟨K.os,K.tape,K.output⟩⟩;have oX:=Nw.re [5,4,2,0,3,1];have oY:Own _ (bP b aI el tg tm::aH w.heap.size 224 [aI,.map (some (w.heap.size+1)),.map (some w2.heap.size),tm]::bB (Value.int .i64) (w.heap.size+1) el::bB (Value.int .i64) w2.heap.size tg::R):=bP.iff.2 ⟨eb,tb,oX⟩;exact bP.iff.2 ⟨_,_,oY.re [1,2,3,0]⟩
end
section
variable{W w w':aF}{R:aJ}{b mb:Nat}{m:List (Int×Tg)}{aI:Int}{S:St}
theorem LV(o:Own w (bB iL mb m::R)):Calls prog 374 #[.map (some mb)] w (BX iL mb m R w):=by obtain⟨es,clock,h1,h2,h3,o1⟩:=Own.bB.1 o;have hb:=o1.blk;have hq:=fun w=>run_eql_map_nil_sl (P:=prog) w 215 _ _ (some mb) underlying215;have hfin:Own (w.alloc (.map es clock)) (bB iL w.heap.size m::bB iL mb m::R):=Own.bB.2 ⟨es,clock,h1,h2,h3,o.alloc _⟩;go_enter func374,ntmps374;go_wp2;rw[run_callFunc_extern func388 (by kernel_rfl) (by kernel_rfl) (by kernel_rfl) (e:=Extern.MapsClone.clone) (by kernel_rfl),run_maps_clone_sl w _ hb];simp only[Result.andThen];rw[Oper.upon_value];go_wp2;rw[run_typeAssert_map_sl _ 215 _ _ _ _ underlying215];simp only[Result.andThen];rw[Oper.upon_value];go_wp2;go_ret;exact⟨rfl,hfin,⟨rfl,rfl,rfl⟩⟩
def OP(b:Nat)(aI:Int)(S:St)(R:aJ)(w:aF)(e:Ending)(w':aF):Prop:=
 ∃p,aR (.pointer (some ⟨p,0,none⟩)) (bU p aI S::bU b aI S::R) w e w'
theorem IW(o:Own w (bU b aI S::R)):Calls prog 357 #[b] w (OP b aI S R w):=by
 obtain⟨ab,rb,m,rem,hm,hold,hur,hok,o1⟩:=bU.iff.1 o;have FQ:=az hold;clear hold;obtain⟨-,hlt,c0,c1,c2,c3,c4,-⟩:=o1.cs;have oA:=o1.alloc (.cells #[aI,.map (some ab),.map (some rb),S.tm,S.aw] 218);have oAd:Own (w.alloc (.cells #[aI,.map (some ab),.map (some rb),S.tm,S.aw] 218)).drew (bB iL ab m::aH w.heap.size 218 [aI,.map (some ab),.map (some rb),S.tm,S.aw]::aH b 218 [aI,.map (some ab),.map (some rb),S.tm,S.aw]::bB (Value.int .i64) rb rem::R):=oA.drew.re [2,0,1,3];have hsz:(w.alloc (.cells #[aI,.map (some ab),.map (some rb),S.tm,S.aw] 218)).drew.heap.size=w.heap.size+1:=by simp
 have HSZ:=az hsz;clear hsz;obtain⟨-,-,-,q0,q1,-⟩:=(oA.up 1).cs;go_enter func357,ntmps357;go_wp2
 go_region_held3(fun w'=>w'.cell? ⟨b,1,none⟩=some (.map (some ab))/\w'.cell? ⟨b,2,none⟩=some (.map (some rb))) (go_keep) (first
  |(go_at_call 374;(with_reducible refine(LV oAd).mono ?_);rintro e2 w2⟨rfl,o2,k2⟩;rw[HSZ.out]at o2;have x1:=(o2.up 3).cell 1;have x2:=(o2.up 3).cell 2;have o2b:=o2.re [4,0,1,2,3])
  |(go_at_call 375;(with_reducible refine(Ae o2b).mono ?_);rintro e3 w3⟨rfl,o3,k3⟩;have y1:=(o3.up 5).cell 1;have y2:=(o3.up 5).cell 2;have z1:=(o3.up 4).cell 1;have z2:=(o3.up 4).cell 2;have zf:=(o3.up 4).frozen;have zl:=(o3.up 4).aS;have oS:=(o3.up 4).setCell 1 (.map (some (w.heap.size+1)));have s1:=(oS.up 5).cell 1;have s2:=(oS.up 5).cell 2;have s3:=oS.cell 2;have sf:=oS.frozen;have sl:=oS.aS;have Nw:=oS.setCell 2 (.map (some w2.heap.size));have t1:=(Nw.up 5).cell 1;have t2:=(Nw.up 5).cell 2))
 go_wp2;go_ret;have K:=Calm.trans k2 k3;refine⟨w.heap.size,rfl,?_,⟨K.os,K.tape,K.output⟩⟩;have oX:=Nw.re [5,4,2,0,3,1];have oY:Own _ (bU b aI S::aH w.heap.size 218 [aI,.map (some (w.heap.size+1)),.map (some w2.heap.size),S.tm,S.aw]::bB iL (w.heap.size+1) m::bB (Value.int .i64) w2.heap.size rem::R):=bU.iff.2 ⟨ab,rb,m,rem,hm,FQ.out,hur,hok,oX⟩;exact bU.iff.2 ⟨_,_,m,rem,hm,FQ.out,hur,hok,oY.re [1,2,3,0]⟩
end
section
variable{aI tm:Int}{el tg:bO}
theorem JX(tg:bO)(k v f:Int):bK (bA tg k v) f=if f=k then v else bK tg f:=by unfold bK;rw[r_];split<;>rfl
theorem uk(d_:Int)(hb:0<=d_)(tg:bO)(f:Int):bK (lower d_ tg) f=max (bK tg f-d_) 0:=by
 induction tg with
 |nil=>simp[bK,a_,lower];omega
 |cons x tg ih=>
  obtain⟨k,v⟩:=x;unfold bK lower at*;simp only[iD];unfold a_;by_cases h:f=k
  ·rw[if_pos h,if_pos h];rfl
  ·rw[if_neg h,if_neg h];exact ih
theorem RA(d_:Int)(tg:bO):(lower d_ tg).map (·.1)=tg.map (·.1):=by unfold lower;rw[List.map_map];rfl
theorem bL.lower(h:bL tg)(d_:Int):bL (lower d_ tg):=by unfold bL;rw[RA];exact h
theorem YS(hu:bL tg){x:Int×Int}(hx:x∈tg):bK tg x.1=x.2:=by unfold bK;rw[eO hu hx];rfl
theorem Dt(el:bO)(tm:Int):∀(l tg:bO),bL tg->bL (lZ el tm l tg)
 |[],tg,h=>h
 |p::l,tg,h=>by
  unfold lZ;refine Dt el tm l _ ?_;split
  ·exact h
  ·exact h.bA _ _
theorem um(el:bO)(tm f:Int):∀(l tg:bO),bK (lZ el tm l tg) f=if f∈l.map (·.1)/\a_ el f=none then max (bK tg f) tm else bK tg f
 |[],tg=>by simp[lZ]
 |p::l,tg=>by
  unfold lZ;rw[um el tm f l];cases he:a_ el p.1 with
  |none=>
   simp only[Option.isSome_none,Bool.false_eq_true,if_false];rw[JX];by_cases hf:f=p.1
   ·subst hf;simp only[if_true,he,and_true,iD,jc,true_or];split<;>omega
   ·simp only[iD,jc,hf,false_or,if_false]
  |some v=>
   simp only[Option.isSome_some,if_true];by_cases hf:f=p.1
   ·subst hf;simp[he]
   ·simp only[iD,jc,hf,false_or]
theorem OV:∀(m:bO)(k v:Int),k∉m.map (·.1)->bA m k v=m++[(k,v)]
 |[],_,_,_=>rfl
 |(k',v')::m,k,v,h=>by simp only[iD,jc,not_or]at h;unfold bA;rw[if_neg h.1,OV m k v h.2];rfl
theorem xW:∀(l m:bO),((m++l).map (·.1)).Nodup->qC l m=m++l
 |[],m,_=>by simp[qC]
 |p::l,m,h=>by
  unfold qC;have hk:p.1∉m.map (·.1):=by rw[tJ,List.nodup_append]at h;intro hp;exact h.2.2 _ hp _ (by simp) rfl
  rw[OV m p.1 p.2 hk,xW l _ (by simpa using h)];simp
theorem vZ{l:bO}(h:bL l):qC l []=l:=by rw[xW l [] (by simpa[bL]using h)];rfl
theorem F7:∀(l:bO)(last:Int),(l.map (·.1)).Pairwise (·<·)->(∀p∈l,last<p.1/\p.1<32/\1<=p.2/\p.2<=16)->gH last l=false
 |[],_,_,_=>rfl
 |p::l,last,h,hp=>by have h0:=hp p (by simp);rw[iD,List.pairwise_cons]at h;have ih:=F7 l p.1 h.2 (fun q hq=>⟨h.1 _ (gW.2 ⟨q,hq,rfl⟩),(hp q (by simp[hq])).2⟩);unfold gH;rw[ih];simp;omega
theorem uo(tg:bO):∀(ks:bq)(best:Int),(∀k∈ks,0<=k)->0<=best->
  (qB tg ks best=best\/qB tg ks best∈ks)/\bK tg (qB tg ks best)<=bK tg best/\∀k∈ks,bK tg (qB tg ks best)<=bK tg k
 |[],best,_,_=>⟨.inl rfl,Int.le_refl _,by simp⟩
 |f::ks,best,h,hb=>by
  have hks:∀k∈ks,0<=k:=fun k hk=>h k (by simp[hk]);unfold qB;by_cases hc:best<0\/bK tg f<bK tg best
  ·rw[if_pos hc];obtain⟨h1,h2,h3⟩:=uo tg ks f hks (h f (by simp));have hc':bK tg f<bK tg best:=by omega
   refine⟨.inr (by rcases h1 with h1|h1<;>simp[h1]),by omega,?_⟩;intro k hk;rcases jc.1 hk with rfl|hk
   ·exact h2
   ·exact h3 k hk
  ·rw[if_neg hc];obtain⟨h1,h2,h3⟩:=uo tg ks best hks hb;refine⟨by rcases h1 with h1|h1<;>simp[h1],h2,?_⟩;intro k hk;rcases jc.1 hk with rfl|hk
   ·omega
   ·exact h3 k hk
theorem pW(el tg:bO)(h:∀p∈el,0<=p.1):(el=[]/\bJ el tg=-1)\/(bJ el tg∈el.map (·.1)/\∀p∈el,bK tg (bJ el tg)<=bK tg p.1):=by
 have hk:∀k∈lU el,0<=k:=fun k hk=>by obtain⟨x,hx,rfl⟩:=gW.1 (BO.1 hk);exact h x hx
 have hm:∀k,k∈lU el↔k∈el.map (·.1):=fun k=>BO;unfold bJ;cases hs:lU el with
 |nil=>
  left;have:el.length=0:=by rw[<-zY,hs];rfl
  exact⟨CO this,rfl⟩
 |cons f ks=>
  right;rw[hs]at hk hm;unfold qB;rw[if_pos (.inl (by omega))];obtain⟨h1,h2,h3⟩:=uo tg ks f (fun k hk'=>hk k (by simp[hk'])) (hk f (by simp));refine⟨(hm _).1 (by rcases h1 with h1|h1<;>simp[h1]),fun p hp=>?_⟩;rcases jc.1 ((hm p.1).2 (gW.2 ⟨p,hp,rfl⟩))with h4|h4
  ·rw[h4];exact h2
  ·exact h3 _ h4
theorem F8{el:bO}{f:Int}(h:f∈el.map (·.1)):∃v,a_ el f=some v:=by
 cases h':a_ el f with
 |none=>exact absurd h (mR.1 h')
 |some v=>exact⟨v,rfl⟩
end
section
variable{P:SP}{W w w':aF}{R:aJ}{b:Nat}{at_ now aw aI:Int}{L O:List Tg}{S:St}
theorem uZ(o:Own w (bU b aI S::R)):Calls prog 355 #[b] w (bN (.int .i64 S.aw) w):=by obtain⟨ab,rb,m,rem,hm,hold,hur,hok,o1⟩:=bU.iff.1 o;have c4:=o1.cell 4;clear hold;go_enter func355,ntmps355;go_wp2;go_ret;exact⟨rfl,rfl⟩
end
end Go.Proofs.YtfejhikpfhgbeaaGreatDoor
