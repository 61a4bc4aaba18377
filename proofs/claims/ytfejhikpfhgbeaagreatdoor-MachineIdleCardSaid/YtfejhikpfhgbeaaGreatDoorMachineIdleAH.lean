import Derived.Test.YtfejhikpfhgbeaaGreatDoorMachineIdleAG
set_option maxHeartbeats 25600000
set_option maxRecDepth 100000
set_option linter.all false
namespace Go.Proofs.YtfejhikpfhgbeaaGreatDoor
open Go.Proofs.Tryz
open Go.RowKit
open SP
section
variable{α:Type}{f:α->aL}{w w':aF}{l:aJ}{b:Nat}{m:List (Int×α)}{P:Program}{t kt et:TypeId}
theorem Qy(k:Int)(z:α):∀(m:List (Int×α)),a_ m k=none->midx (m++[(k,z)]) k=some m.length
 |[],_=>by simp[midx]
 |(k',v)::m,h=>by
  unfold a_ at h;by_cases hk:k=k'
  ·rw[if_pos hk]at h;cases h
  ·rw[if_neg hk]at h;show(if k=k' then some 0 else(midx (m++[(k,z)]) k).map (·+1))=some (m.length+1);rw[if_neg hk,Qy k z m h];rfl
theorem Qz(k:Int)(z v:α):∀(m:List (Int×α)),a_ m k=none->bA (m++[(k,z)]) k v=m++[(k,v)]
 |[],_=>by simp[bA]
 |(k',x)::m,h=>by
  unfold a_ at h;by_cases hk:k=k'
  ·rw[if_pos hk]at h;cases h
  ·rw[if_neg hk]at h;show(if k=k' then(k,v)::(m++[(k,z)])else(k',x)::bA (m++[(k,z)]) k v)=(k',x)::(m++[(k,v)]);rw[if_neg hk,Qz k z v m h]
theorem Cy(ht:P.underlying t=some (.map kt et))(hk:P.underlying kt=some (.int .i64)){z:α}(hz:∀w,(zeroValue et).run P w=.ok (f z) w)(o:Own w (bB f b m::l))(k:Int)(hu:a_ m k=none):
  ∃(w':aF)(born:Nat),(Instr.mapEntry t (.map (some b)) (.int .i64 k)).run P w=.ok (.tuple #[f z,(born:Int)]) w'/\oz (m++[(k,z)]) w' b k born/\Own w' (bB f b (m++[(k,z)])::l)/\Calm w w':=by
 obtain⟨es,clock,h1,h2,h3,o⟩:=Own.bB.1 o;have hb:=o.blk;have hm:=iZ m k;have hf:=fG (P:=P) hk h1 k w;rw[hu]at hm;have uS:midx m k=none:=by simpa using hm
 simp[uS]at hf;have hlen:es.size=m.length:=by have:=congrArg List.length h1;simpa using this
 refine⟨{w with heap:=w.heap.setIfInBounds b (.map (es.push {key:=.int .i64 k,val:=f z,born:=clock}) (clock+1))},clock,?_,⟨_,_,m.length,{key:=.int .i64 k,val:=f z,born:=clock},(o.lq (.map (es.push {key:=.int .i64 k,val:=f z,born:=clock}) (clock+1))).blk,Qy k z m hu,by rw[<-hlen];simp,rfl⟩,
  Own.bB.2 ⟨es.push {key:=.int .i64 k,val:=f z,born:=clock},clock+1,?_,?_,?_,o.lq _⟩,⟨rfl,rfl,rfl⟩⟩
 ·simp[Instr.mapEntry,run_underlying ht,getObj,setObj,Sem.run,hb,dH hk,hf,hz,goInt]
 ·simp[h1]
 ·simp only[Array.toList_push,List.pairwise_append];exact⟨h2,by simp,fun a ha c hc=>by simp at hc;subst hc;exact h3 a ha⟩
 ·intro e he;simp at he;rcases he with he|rfl
  ·have:=h3 e (by simpa using he);omega
  ·simp
end
section
open Go.Shelf
section
variable{W w w':aF}{R:aJ}
def X5(p:Ru×Int):aL:=.tuple #[ruV p.1,p.2]
theorem Ba{l a b c d:qR}(h:yc 32 l=[a,b,c,d]):jY l=if ES a b c d then(if AR (Wz a b c d)then(Wz a b c d,0)else(NF,1))else(NF,8):=by unfold jY;rw[h]
theorem QH{l:qR}(h:(yc 32 l).length≠4):jY l=(NF,8):=by unfold jY;rcases hs:yc 32 l with _|⟨a,_|⟨b,_|⟨c,_|⟨d,_|⟨e,r⟩⟩⟩⟩⟩<;>rw[hs]at h<;>simp at h<;>rfl
theorem wU{fn:Func}(h:fn.results=#[.cell 2 206,.tmp 3]){tmps:Array aL}{b:Nat}{e:Int}{r:Ru}(hp:tmps.getD 2 undef=.pointer (some ⟨b,0,none⟩))(he:tmps.getD 3 undef=↑e)
  {vs:dw}(o:Own w (aH b 206 vs::R))(hv:vs=IA r):(results fn tmps).run prog w=.ok (X5 (r,e)) w:=by
 subst hv;obtain⟨st,c,f,l,y⟩:=r;unfold IA at o;obtain⟨-,-,c0,c1,c2,c3,c4,-⟩:=o.cs;dsimp only at c0 c1 c2 c3 c4;rw[results_cell_tmp h,hp,he];unfold X5 ruV;go_simp
theorem bT{x:Addr}{v:aL}(h:Calm w w'):Calm w (w'.setCell x v):=⟨h.os,h.tape,h.output⟩
theorem zy{x:Obj}(h:Calm w w'):Calm w (w'.alloc x):=⟨h.os,h.tape,h.output⟩
theorem four{L:List (qR)}(h:L.length=4):∃a b c d,L=[a,b,c,d]:=by
 rcases L with _|⟨a,_|⟨b,_|⟨c,_|⟨d,_|⟨e,r⟩⟩⟩⟩⟩<;>simp at h
 exact⟨a,b,c,d,rfl⟩
theorem Jr(s:ByteArray)(hs:s.size<=1000000)(hm:AU W)(o:Own w (old W::R))(h4:(yc 32 s.data.toList).length≠4):
  Calls prog 77 #[.string s] w (aR (X5 (jY s.data.toList)) (old W::R) w):=by
 have o1:=o.alloc (.cells #[.string ⟨#[]⟩,aC,aC,aC,aC] 206);have hS:=zw s (by omega) hm o1.swap _ o1;have hl:s.data.toList.length=s.size:=(Lib.size_eq s).symm;have hsz:=ET 32 s.data.toList;obtain⟨L,hL⟩:=aP (yc 32 s.data.toList);rw[hL]at h4;rw[hL]at hS hsz;have HV:=az (QH (by rw[hL];exact h4));have h4':((L.length:Int)!=4)=true:=by rw[bne_iff_ne];omega
 go_enter func77,ntmps77;go_wp2_with fail;refine hS.mono ?_;rintro e1 w1⟨a,c,rfl,o2,k2⟩;have o3:=o2.up 1;obtain⟨rf,rl,r0,r1,r2,r3,r4,-⟩:=Own.cs (T:=206) o3;go_wp2;have oZ:Own _ (aH w.heap.size 206 (IA NF)::_):=((((o3.setCell 0 (.string ⟨#[]⟩)).setCell 1 aC).setCell 2 aC).setCell 3 aC).setCell 4 aC;refine bodyPost_ret (v:=X5 (NF,8)) ?_ rfl ?_
 ·refine wU (b:=w.heap.size) (r:=NF) (e:=8) results77 ?_ ?_ oZ rfl
  ·rfl
  ·rfl
 ·exact⟨by rw[HV.out],oZ.drop.drop,bT (bT (bT (bT (bT k2.al))))⟩
theorem Js(s:ByteArray)(hs:s.size<=1000000)(hm:AU W)(o:Own w (old W::R))(a b c d:qR)(hL:yc 32 s.data.toList=[a,b,c,d])(h0:a=[]):
  Calls prog 77 #[.string s] w (aR (X5 (jY s.data.toList)) (old W::R) w):=by
 have o1:=o.alloc (.cells #[.string ⟨#[]⟩,aC,aC,aC,aC] 206);have hS:=zw s (by omega) hm o1.swap _ o1;have hl:s.data.toList.length=s.size:=(Lib.size_eq s).symm;have hsz:=ET 32 s.data.toList;rw[hL]at hS hsz;have za:=hsz a (by simp);have zb:=hsz b (by simp);have zc:=hsz c (by simp);have zd:=hsz d (by simp);have hP:=Ba hL;clear hL hsz;have ea:=Gz (dx a);have sa:=Zp (dx a) [42];have sb:=Zp (dx b) [42];rw[iW]at ea sa sb;have NB:=az fun(w1:aF)(R1:aJ)(o1:Own w1 R1)=>jL (dx b) (by rw[fI];omega) o1;have NT:=az fun(w1:aF)(R1:aJ)(o1:Own w1 R1)=>jL (dx d.tail) (by rw[fI,List.length_tail];omega) o1;have ND:=az fun(w1:aF)(R1:aJ)(o1:Own w1 R1)=>jL (dx d) (by rw[fI];omega) o1;have PC:=az fun(w1:aF)(R1:aJ)(o1:Own w1 (old W::R1))=>GA (dx c) (by rw[fI];omega) hm o1;have CP:=az fun(w1:aF)=>D7 (w:=w1) d;have VR:=az fun(r:Ru)(hr:r.st.length<=2000000)(w1:aF)(R1:aJ)(o1:Own w1 R1)=>uL r hr o1;unfold y_ at PC;rw[iW]at NB NT ND PC;have KV:∀(st:qR)(cls:Int),(if a=[42]then[]else a)=st->(if b=[42]then(-1:Int)else(nC 5 b:Nat))=cls->Wz a b c d=⟨st,cls,(yg c:Nat),(yh c:Nat),(nC 5 d.tail:Nat)⟩:=by rintro _ _ rfl rfl;rfl
 have hW:ES a b c d=(!decide (a=[])&&(decide (b=[42])||fH 5 b)&&wG c&&decide (d.head?=some 62)&&fH 5 d.tail):=rfl;rw[hW]at hP;clear hW;generalize yg c=pf at*;generalize yh c=pl at*;generalize wG c=pok at*;generalize hnd:nC 5 d.tail=nt at*;generalize fH 5 d.tail=kt at*;generalize nC 5 d=nd at*;generalize fH 5 d=kd at*;generalize hnb:nC 5 b=nb at*;generalize fH 5 b=kb at*;obtain⟨A,hA⟩:=aP (dx a);obtain⟨B,hB⟩:=aP (dx b);obtain⟨C,hC⟩:=aP (dx c);obtain⟨D,hD⟩:=aP (dx d);rw[hA]at ea sa;rw[hB]at sb NB;rw[hC]at PC;rw[hD]at ND CP;have hS2:Calls prog 123 #[.string s,.string ⟨#[32]⟩] (w.alloc (.cells #[.string ⟨#[]⟩,aC,aC,aC,aC] 206)) fun e w1=>∃ad cc,e=.returned (.slice ad 4 cc)/\Own w1 (slc 9 1 ad 4 cc [.string A,.string B,.string C,.string D]::aH w.heap.size 206 [.string ⟨#[]⟩,aC,aC,aC,aC]::old W::R)/\Calm w w1:=by subst hA hB hC hD;refine hS.mono ?_;rintro e w1⟨ad,cc,rfl,o2,k2⟩;exact⟨ad,cc,rfl,o2,⟨k2.os,k2.tape,k2.output⟩⟩
 clear hS;rw[bz h0]at ea hP;have HV:=az hP;clear hP sa h0 hA hB hC hD KV;go_enter func77,ntmps77;go_wp2_with fail;refine hS2.mono ?_;rintro e1 w1⟨ad,cc,rfl,o2,k2⟩;obtain⟨g,rfl,hcell,hfr,hblt⟩:=o2.aG (by decide);have s0:=hcell 0 (.string A) rfl;have o3:=o2.up 1;obtain⟨rf,rl,r0,r1,r2,r3,r4,-⟩:=Own.cs (T:=206) o3;go_wp2;have oZ:Own _ (aH w.heap.size 206 (IA NF)::_):=((((o3.setCell 0 (.string ⟨#[]⟩)).setCell 1 aC).setCell 2 aC).setCell 3 aC).setCell 4 aC;refine bodyPost_ret (v:=X5 (NF,8)) ?_ rfl ?_
 ·refine wU (b:=w.heap.size) (r:=NF) (e:=8) results77 ?_ ?_ oZ rfl
  ·rfl
  ·rfl
 ·exact⟨by rw[HV.out];rfl,oZ.drop.drop,bT (bT (bT (bT (bT k2))))⟩
end
end
section
open Go.Shelf
section
variable{W w w':aF}{R:aJ}
def ags(r:Ru)(p g b4 c:Nat)(W:aF)(L:dw)(R:aJ)(w w1:aF):Prop:=
 Own w1 (aH p 206 [.string (dx r.st),r.cls,r.first,r.last,r.gK]::slc 9 1 (some ⟨g,0,none⟩) 4 c L::aH b4 206 [.string ⟨#[]⟩,aC,aC,aC,aC]::old W::R)/\Calm w w1
theorem Jt(s:ByteArray)(hs:s.size<=1000000)(hm:AU W)(o:Own w (old W::R))(a b c d:qR)(hL:yc 32 s.data.toList=[a,b,c,d])(h0:a≠[]):
  Calls prog 77 #[.string s] w (aR (X5 (jY s.data.toList)) (old W::R) w):=by
 have o1:=o.alloc (.cells #[.string ⟨#[]⟩,aC,aC,aC,aC] 206);have hS:=zw s (by omega) hm o1.swap _ o1;have hl:s.data.toList.length=s.size:=(Lib.size_eq s).symm;have hsz:=ET 32 s.data.toList;rw[hL]at hS hsz;have za:=hsz a (by simp);have zb:=hsz b (by simp);have zc:=hsz c (by simp);have zd:=hsz d (by simp);have hP:=Ba hL;clear hL hsz;have ea:=Gz (dx a);have sa:=Zp (dx a) [42];have sb:=Zp (dx b) [42];rw[iW]at ea sa sb;rw[bW h0]at ea;obtain⟨e,hE⟩:∃x,(if d.head?=some 62 then d.tail else d)=x:=⟨_,rfl⟩;have ze:e.length<=s.size:=by rw[<-hE];split<;>(try rw[List.length_tail])<;>omega
 have NB:=az fun(w1:aF)(R1:aJ)(o1:Own w1 R1)=>jL (dx b) (by rw[fI];omega) o1;have NE:=az fun(w1:aF)(R1:aJ)(o1:Own w1 R1)=>jL (dx e) (by rw[fI];omega) o1;have PC:=az fun(w1:aF)(R1:aJ)(o1:Own w1 (old W::R1))=>GA (dx c) (by rw[fI];omega) hm o1;have CP:=az fun(w1:aF)=>D7 (w:=w1) d;rw[show(if d.head?=some 62 then dx d.tail else dx d)=dx e by rw[<-hE];split<;>rfl]at CP;obtain⟨st,hst⟩:∃x,(if a=[42]then[]else a)=x:=⟨_,rfl⟩;have zs:st.length<=2000000:=by
  rw[<-hst];split
  ·exact Nat.zero_le _
  ·omega
 obtain⟨cl,hcl⟩:∃x,(if b=[42]then(-1:Int)else(nC 5 b:Nat))=x:=⟨_,rfl⟩;have VX:=az fun(w1:aF)(R1:aJ)(o1:Own w1 R1)=>uL ⟨st,cl,(yg c:Nat),(yh c:Nat),(nC 5 e:Nat)⟩ zs o1;have hP2:jY s.data.toList=if((decide (b=[42])||fH 5 b)&&wG c&&decide (d.head?=some 62)&&fH 5 e)=true then(if AR ⟨st,cl,(yg c:Nat),(yh c:Nat),(nC 5 e:Nat)⟩=true then(⟨st,cl,(yg c:Nat),(yh c:Nat),(nC 5 e:Nat)⟩,0)else(NF,1))else(NF,8):=by
  rw[hP,<-hE,<-hst,<-hcl];unfold ES Wz;rw[bW h0];by_cases hf:d.head?=some 62
  ·rw[if_pos hf];rfl
  ·rw[bW hf,Bool.and_false,Bool.and_false];rfl
 have HV:=az hP2;clear hP hP2 hE ze;unfold y_ at PC;unfold ruV at VX;rw[iW]at NB NE PC;have HST:=az hst;have HCL:=az hcl;clear hst hcl;generalize yg c=pf at*;generalize yh c=pl at*;generalize wG c=pok at*;generalize nC 5 e=ne at*;generalize fH 5 e=ke at*;generalize nC 5 b=nb at*;generalize fH 5 b=kb at*;generalize decide (d.head?=some 62)=fo at*;generalize dx e=E at*;have hS2:Calls prog 123 #[.string s,.string ⟨#[32]⟩] (w.alloc (.cells #[.string ⟨#[]⟩,aC,aC,aC,aC] 206)) fun e w1=>∃ad cc,e=.returned (.slice ad 4 cc)/\Own w1 (slc 9 1 ad 4 cc [.string (dx a),.string (dx b),.string (dx c),.string (dx d)]::aH w.heap.size 206 [.string ⟨#[]⟩,aC,aC,aC,aC]::old W::R)/\Calm w w1:=by refine hS.mono ?_;rintro e w1⟨ad,cc,rfl,o2,k2⟩;exact⟨ad,cc,rfl,o2,⟨k2.os,k2.tape,k2.output⟩⟩
 clear hS h0;generalize dx b=B at*;generalize dx c=C at*;generalize dx d=D at*;obtain⟨A,hA⟩:=aP (dx a);rw[hA]at ea sa hS2;have HA:=az hA;clear hA;go_enter func77,ntmps77;go_wp2_with fail;refine hS2.mono ?_;rintro e1 w1⟨ad,cc,rfl,o2,k2⟩;obtain⟨g,rfl,hcell,hfr,hblt⟩:=o2.aG (by decide);have s0:=hcell 0 (.string A) rfl;clear hS2 hcell;go_upto_if 29 with fail;go_cut[5] (fun v wc=>∃p,g<p/\v=.pointer (some ⟨p,0,none⟩)/\ags ⟨st,-1,0,0,0⟩ p g w.heap.size cc W [.string A,.string B,.string C,.string D] R w wc);case first=>
  by_cases ha:a=[42]
  ·rw[bz ha]at sa;have h1:=HST.out;rw[if_pos ha]at h1;subst h1;have o4:=o2.alloc (.cells #[.string ⟨#[]⟩,(-1:Int),aC,aC,aC] 206);have k4:=zy (x:=.cells #[.string ⟨#[]⟩,(-1:Int),aC,aC,aC] 206) k2;go_wp2;go_meet;exact⟨_,hblt,rfl,o4,k4⟩
  ·rw[bW ha]at sa;have h1:=HST.out;rw[if_neg ha]at h1;subst h1;have o4:=o2.alloc (.cells #[.string A,(-1:Int),aC,aC,aC] 206);have k4:=zy (x:=.cells #[.string A,(-1:Int),aC,aC,aC] 206) k2;go_wp2;go_meet;exact⟨_,hblt,rfl,by rw[HA.out];exact o4,k4⟩
 case rest=>
 obtain⟨p,hgp,rfl,o4,k4⟩:=hcut;clear o2 k2 hfr hblt s0 sa ea HA HST;dsimp only at o4;obtain⟨x0,x1,x2,x3,x4,xf,xl⟩:=o4.c5;obtain⟨g1,hg,hcell,hfr,hblt⟩:=(o4.up 1).aG (by decide);cases hg;have s1:=hcell 1 (.string B) rfl;clear hcell;obtain⟨Z,hZ⟩:=aP (decide (b=[42]));rw[hZ]at sb HV;have HZ:=az hZ;clear hZ;go_upto_if 34 with fail;go_cut[6] (fun v wc=>v=.bool (Z||kb)/\ags ⟨st,cl,0,0,0⟩ p g w.heap.size cc W [.string A,.string B,.string C,.string D] R w wc);case first=>
  cases Z with
  |true=>have h1:=HCL.out;rw[if_pos (of_decide_eq_true HZ.out)]at h1;subst h1;go_wp2;go_meet;exact⟨rfl,o4,k4⟩
  |false=>have h1:=HCL.out;rw[if_neg (of_decide_eq_false HZ.out)]at h1;subst h1;go_wp2_with fail;refine(NB.out _ _ o4).mono ?_;rintro e2 w2⟨rfl,o5,k5⟩;clear x0 x1 x2 x3 x4 xf xl;obtain⟨x0,x1,x2,x3,x4,xf,xl⟩:=o5.c5;have o6:=o5.setCell 1 ((nb:Nat):Int);have k6:=bT (x:=⟨p,1,none⟩) (v:=.int .i64 (nb:Nat)) (k4.trans k5);go_wp2;go_meet;exact⟨rfl,o6,k6⟩
 case rest=>
 obtain⟨rfl,o6,k6⟩:=hcut;clear o4 k4 x0 x1 x2 x3 x4 xf xl hfr hblt s1 sb HCL NB;clear HZ;generalize (Z||kb)=gb at*;dsimp only at o6;obtain⟨x0,x1,x2,x3,x4,xf,xl⟩:=o6.c5;obtain⟨g1,hg,hcell,hfr,hblt⟩:=(o6.up 1).aG (by decide);cases hg;have s2:=hcell 2 (.string C) rfl;clear hcell;go_wp2_with fail;refine(PC.out _ _ (o6.up 3)).mono ?_;rintro e3 w3⟨rfl,o7,k7⟩;have K7:=k6.trans k7;have o8:=o7.up 1;clear x0 x1 x2 x3 x4 xf xl hfr hblt s2 o6 k6 k7 o7;obtain⟨x0,x1,x2,x3,x4,xf,xl⟩:=Own.c5 (T:=206) o8;obtain⟨g1,hg,hcell,hfr,hblt⟩:=(o8.up 2).aG (by decide);cases hg;have s3:=hcell 3 (.string D) rfl;clear hcell;have o9:=(o8.setCell 2 ((pf:Nat):Int)).setCell 3 ((pl:Nat):Int);have K9:=bT (x:=⟨p,3,none⟩) (v:=.int .i64 (pl:Nat)) (bT (x:=⟨p,2,none⟩) (v:=.int .i64 (pf:Nat)) K7);go_wp2_with fail;refine(CP.out _).mono ?_;rintro e4 w4⟨rfl,rfl⟩;go_wp2_with fail;refine(NE.out _ _ o9).mono ?_;rintro e5 w5⟨rfl,jN,k10⟩;have K10:=K9.trans k10;clear x0 x1 x2 x3 x4 xf xl hfr hblt s3 o8 o9 K9 k10 K7;obtain⟨x0,x1,x2,x3,x4,xf,xl⟩:=Own.c5 (T:=206) jN;have Eg:=jN.setCell 4 ((ne:Nat):Int);have K11:=bT (x:=⟨p,4,none⟩) (v:=.int .i64 (ne:Nat)) K10;clear CP NE PC;go_upto_region 14 with fail;clear jN x0 x1 x2 x3 x4 xf xl;generalize w5.setCell ⟨p,4,none⟩ ((ne:Nat):Int)=w6 at*;go_cut[66] (fun v wc=>v=.bool (!(gb&&pok&&fo&&ke))/\wc=w6);case first=>
  clear HV VX Eg K11;cases gb<;>cases pok<;>cases fo<;>cases ke;all_goals
   go_wp2;go_meet;exact⟨rfl,rfl⟩
 case rest=>
 obtain⟨rfl,rfl⟩:=hcut;generalize (gb&&pok&&fo&&ke)=G at*;obtain⟨r0,r1,r2,r3,r4,rf,rl⟩:=Own.c5 (T:=206) (Eg.up 3);cases G
 ·go_wp2;have oZ:=((((((Eg.up 3).setCell 0 (.string ⟨#[]⟩)).setCell 1 aC).setCell 2 aC).setCell 3 aC).setCell 4 aC);exact bodyPost_ret (v:=X5 (NF,8)) (wU (b:=w.heap.size) (r:=NF) (e:=8) results77 rfl rfl oZ rfl) rfl ⟨by rw[HV.out];rfl,(oZ.drop.drop.up 1).drop,bT (bT (bT (bT (bT K11))))⟩
 have hv:=HV.out;rw[if_pos (by rfl)]at hv;have HV:=az hv;clear hv;obtain⟨y0,y1,y2,y3,y4,yf,yl⟩:=Own.c5 (T:=206) Eg;generalize AR ⟨st,cl,(pf:Nat),(pl:Nat),(ne:Nat)⟩=z at*;go_wp2_with fail;refine(VX.out _ _ Eg).mono ?_;rintro e6 w7⟨rfl,Bl,k12⟩;have K12:=K11.trans k12;clear r0 r1 r2 r3 r4 rf rl y0 y1 y2 y3 y4 yf yl;obtain⟨r0,r1,r2,r3,r4,rf,rl⟩:=Own.c5 (T:=206) (Bl.up 3);cases z with
 |false=>go_wp2;have oZ:=((((((Bl.up 3).setCell 0 (.string ⟨#[]⟩)).setCell 1 aC).setCell 2 aC).setCell 3 aC).setCell 4 aC);exact bodyPost_ret (v:=X5 (NF,1)) (wU (b:=w.heap.size) (r:=NF) (e:=1) results77 rfl rfl oZ rfl) rfl ⟨by rw[HV.out];rfl,(oZ.drop.drop.up 1).drop,bT (bT (bT (bT (bT K12))))⟩
 |true=>obtain⟨y0,y1,y2,y3,y4,yf,yl⟩:=Own.c5 (T:=206) Bl;go_wp2;have oZ:=((((((Bl.up 3).setCell 0 (.string (dx st))).setCell 1 cl).setCell 2 ((pf:Nat):Int)).setCell 3 ((pl:Nat):Int)).setCell 4 ((ne:Nat):Int));exact bodyPost_ret (v:=X5 (⟨st,cl,(pf:Nat),(pl:Nat),(ne:Nat)⟩,0)) (wU (b:=w.heap.size) (r:=⟨st,cl,(pf:Nat),(pl:Nat),(ne:Nat)⟩) (e:=0) results77 rfl rfl oZ rfl) rfl ⟨by rw[HV.out];rfl,(oZ.drop.drop.up 1).drop,bT (bT (bT (bT (bT K12))))⟩
end
end
section
open Go.Shelf
section
variable{W w w':aF}{R:aJ}
theorem M9(s:ByteArray)(hs:s.size<=1000000)(hm:AU W)(o:Own w (old W::R)):
  Calls prog 77 #[.string s] w (aR (X5 (jY s.data.toList)) (old W::R) w):=by
 by_cases h4:(yc 32 s.data.toList).length=4;rotate_left
 ·exact Jr s hs hm o h4
 obtain⟨a,b,c,d,hL⟩:=four h4;by_cases h0:a=[]
 ·exact Js s hs hm o a b c d hL h0
 exact Jt s hs hm o a b c d hL h0
end
end
theorem Tryz.ruT:bS prog 68 206 5 48:=bS.mk' (z:=.agg #[.string ⟨#[]⟩,aC,aC,aC,aC]) underlying68 (by kernel_rfl) rfl (by decide)
theorem ab0(r:Ru):(IA r).length=5:=rfl
def qQ:List Ru->Hd->Option Int
 |[],_=>none
 |r::l,h=>if D8 r h=true then some r.gK else qQ l h
def aeE(o:Option Int):aL:=.tuple #[(o.getD (-1):Int),.bool o.isSome]
theorem wX:∀(a b:List Ru)(h:Hd),qQ (a++b) h=(qQ a h).or (qQ b h)
 |[],_,_=>rfl
 |r::a,b,h=>by
  show(if D8 r h=true then some r.gK else qQ (a++b) h)=(if D8 r h=true then some r.gK else qQ a h).or (qQ b h);split
  ·rfl
  ·exact wX a b h
theorem Xr{l:List Ru}{i:Nat}{r:Ru}{h:Hd}(hr:l[i]?=some r)(hm:D8 r h=false)(hn:qQ (l.take i) h=none):qQ (l.take (i+1)) h=none:=by rw[tH,hr,wX,hn];show qQ [r] h=none;unfold qQ;rw[if_neg (by rw[hm];exact zH)];rfl
theorem aaq{l:List Ru}{i:Nat}{r:Ru}{h:Hd}(hr:l[i]?=some r)(hm:D8 r h=true)(hn:qQ (l.take i) h=none):qQ l h=some r.gK:=by
 have hi:=(eU.1 hr).1;have e:l=l.take i++r::l.drop (i+1):=by
  conv=>lhs;rw[<-List.take_append_drop i l]
  rw[List.drop_eq_getElem_cons hi,(eU.1 hr).2]
 rw[e,wX,hn];show qQ (r::_) h=_;unfold qQ;rw[if_pos hm]
theorem aar{l:List Ru}{i:Nat}{h:Hd}(hi:l.length<=i)(hn:qQ (l.take i) h=none):qQ l h=none:=by rw[List.take_of_length_le hi]at hn;exact hn
section
variable{W w w':aF}{R:aJ}
theorem aas{T:TypeId}{a:aY}{n c:Nat}{l:List Ru}(hn:n=l.length)(o:Own w (slc T 5 a n c (flat IA l)::R)){i:Nat}{r:Ru}(hr:l[i]?=some r):
  ∃g,a=some ⟨g,0,none⟩/\w.cell? ⟨g,i*5,none⟩=some (.string (dx r.st))/\w.cell? ⟨g,i*5+1,none⟩=some ↑r.cls/\w.cell? ⟨g,i*5+2,none⟩=some ↑r.first/\
   w.cell? ⟨g,i*5+3,none⟩=some ↑r.last/\w.cell? ⟨g,i*5+4,none⟩=some ↑r.gK/\g<w.heap.size:=by
 have:=(eU.1 hr).1;obtain⟨g,h,hc,_,hlt⟩:=o.aG (by omega);have key:∀j v,(IA r)[j]?=some v->w.cell? ⟨g,i*5+j,none⟩=some v:=fun j v hv=>by refine hc (i*5+j) v ?_;rw[aB ab0 l i j r hr (eU.1 hv).1];exact hv
 exact⟨g,h,key 0 _ rfl,key 1 _ rfl,key 2 _ rfl,key 3 _ rfl,key 4 _ rfl,hlt⟩
theorem EA{l:List Ru}{a:aY}{n c:Nat}(h:Hd)(hn:n=l.length)(hn2:n<=1000)(hl:∀r∈l,r.st.length<=2000000)(hh:h.st.length<=2000000)(hT:kF W)(o:Own w (old W::slc 206 5 a n c (flat IA l)::R)):
  Calls prog 65 #[.slice a n c,QX h] w (aR (aeE (qQ l h)) (old W::slc 206 5 a n c (flat IA l)::R) w):=by
 have HN:=az hn;have HL:=az fun(i:Nat)(r:Ru)(hr:l[i]?=some r)=>hl r (mH hr);have PM:=az fun(x:Ru)(hx:x.st.length<=2000000)(w1:aF)(R1:aJ)(o1:Own w1 (old W::R1))=>Ia x h hx hh hT o1;clear hn hl hh hT;unfold QX at PM⊢;have oB:=(o.alloc (.cells #[.string (dx h.st),h.cls,h.port,h.len,h.life] 94)).re [1,2,0];go_enter func65,ntmps65;have hT1:∃i:Nat,(Value.int .i64 0:aL)=↑(i:Int)/\i<=n/\qQ (l.take i) h=none/\Own (w.alloc (.cells #[.string (dx h.st),h.cls,h.port,h.len,h.life] 94)) (old W::slc 206 5 a n c (flat IA l)::aH w.heap.size 94 [.string (dx h.st),h.cls,h.port,h.len,h.life]::R)/\Calm w (w.alloc (.cells #[.string (dx h.st),h.cls,h.port,h.len,h.life] 94)):=
  ⟨0,rfl,by omega,rfl,oB,zy (Calm.refl w)⟩
 go_wp2;generalize w.heap.size=b3 at*;go_loopw[10] (fun v wr=>∃i:Nat,v=↑(i:Int)/\i<=n/\qQ (l.take i) h=none/\Own wr (old W::slc 206 5 a n c (flat IA l)::aH b3 94 [.string (dx h.st),h.cls,h.port,h.len,h.life]::R)/\Calm w wr) (fun v _=>n-viN v);case atStart=>exact hT1
 case round=>
  clear hT1 oB o;obtain⟨i,rfl,hi,hno,oR,kR⟩:=hrel;by_cases hlt:i<n
  ·have dl:decide (i<n)=true:=bz hlt;obtain⟨r,hr⟩:∃r,l[i]?=some r:=⟨_,cZ (by rw[<-HN.out];exact hlt)⟩;obtain⟨g,hg,d0,d1,d2,d3,d4,d5⟩:=aas HN.out (oR.up 1) hr;subst hg;have oA:=oR.alloc (.cells #[.string (dx r.st),r.cls,r.first,r.last,r.gK] 206);have cc:=az (PM.out r (HL.out i r hr));unfold ruV at cc;have hz1:=az fun hm=>Xr (h:=h) hr hm hno;have hz2:=az fun hm=>aaq (h:=h) hr hm hno;clear hr hno PM;generalize D8 r h=zz at*;obtain⟨-,-,x0_,x1_,x2_,x3_,x4_,-⟩:=(oA.up 3).cs;go_wp2_with fail;refine(cc.out _ _ (oA.up 1)).mono ?_;rintro e1 w1⟨rfl,o1,k1⟩;cases zz with
   |false=>
    go_wp2;go_roundw;case rel=>exact⟨i+1,by go_num,by omega,hz1.out (by first|rfl|trivial),(o1.up 1).drop,kR.trans (Calm.al k1)⟩
    case measure=>simp[viN];omega
   |true=>have y4_:=(o1.up 1).cell 4;go_wp2;go_ret2;refine⟨?_,((o1.up 3).drop.up 1).drop,kR.trans (Calm.al k1)⟩;rw[hz2.out (by first|rfl|trivial)];rfl
  ·have dl:decide (i<n)=false:=bW hlt;have he:=aar (h:=h) (l:=l) (i:=i) (by rw[<-HN.out];omega) hno;go_wp2;go_ret2;exact⟨by rw[he];rfl,(oR.up 2).drop,kR⟩
end
end Go.Proofs.YtfejhikpfhgbeaaGreatDoor
