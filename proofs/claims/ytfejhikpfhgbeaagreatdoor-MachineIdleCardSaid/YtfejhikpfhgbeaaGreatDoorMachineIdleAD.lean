import Derived.Test.YtfejhikpfhgbeaaGreatDoorMachineIdleX
import Derived.Test.YtfejhikpfhgbeaaGreatDoorMachineIdleY
set_option maxHeartbeats 25600000
set_option maxRecDepth 100000
set_option linter.all false
namespace Go.Proofs.YtfejhikpfhgbeaaGreatDoor
open Go.Proofs.Tryz
open Go.RowKit
open SP
section
open Go.Shelf
def Tryz.sortCn_ren:Go.Shelf.Ren:=⟨fun|6=>189|15=>186|14=>245|28=>241|29=>242|20=>273|21=>274|22=>275|23=>276|24=>277|25=>278|26=>279|27=>280|46=>297|47=>269|48=>270|49=>298|50=>299|57=>307|n=>n,fun|22=>172|24=>238|25=>341|3=>3|39=>264|0=>0|53=>388|55=>251|4=>4|46=>382|45=>381|50=>185|5=>5|9=>9|66=>411|70=>415|76=>435|77=>436|n=>n,fun|n=>n⟩
theorem Tryz.sortCn:Go.Proofs.SlLaysF0.n6 prog Tryz.sortCn_ren:={
 mixed:=by kernel_rfl
 f6:=⟨f189.name,by decide,func189.trans (congrArg some (by kernel_rfl))⟩
 f14:=⟨f245.name,by decide,func245.trans (congrArg some (by kernel_rfl))⟩
 f15:=func186.trans (congrArg some (by kernel_rfl))
 f20:=⟨f273.name,by decide,func273.trans (congrArg some (by kernel_rfl))⟩
 f21:=⟨f274.name,by decide,func274.trans (congrArg some (by kernel_rfl))⟩
 f22:=⟨f275.name,by decide,func275.trans (congrArg some (by kernel_rfl))⟩
 f23:=⟨f276.name,by decide,func276.trans (congrArg some (by kernel_rfl))⟩
 f24:=⟨f277.name,by decide,func277.trans (congrArg some (by kernel_rfl))⟩
 f25:=⟨f278.name,by decide,func278.trans (congrArg some (by kernel_rfl))⟩
 f26:=⟨f279.name,by decide,func279.trans (congrArg some (by kernel_rfl))⟩
 f27:=⟨f280.name,by decide,func280.trans (congrArg some (by kernel_rfl))⟩
 f28:=func241.trans (congrArg some (by kernel_rfl))
 f29:=func242.trans (congrArg some (by kernel_rfl))
 f46:=⟨f297.name,by decide,func297.trans (congrArg some (by kernel_rfl))⟩
 f47:=func269.trans (congrArg some (by kernel_rfl))
 f48:=func270.trans (congrArg some (by kernel_rfl))
 f49:=⟨f298.name,by decide,func298.trans (congrArg some (by kernel_rfl))⟩
 f50:=⟨f299.name,by decide,func299.trans (congrArg some (by kernel_rfl))⟩
 f57:=⟨f307.name,by decide,func307.trans (congrArg some (by kernel_rfl))⟩
 t0:=underlying0
 a0:=isAgg0
 z0:=sizeOf0
 v0:=zeroValue0
 t3:=underlying3
 a3:=isAgg3
 z3:=sizeOf3
 v3:=zeroValue3
 t4:=underlying4
 a4:=isAgg4
 z4:=sizeOf4
 v4:=zeroValue4
 t5:=underlying5
 a5:=isAgg5
 z5:=sizeOf5
 v5:=zeroValue5
 t9:=underlying9
 a9:=isAgg9
 z9:=sizeOf9
 v9:=zeroValue9
 t22:=underlying172
 a22:=isAgg172
 z22:=sizeOf172
 v22:=zeroValue172
 t25:=underlying341
 a25:=isAgg341
 z25:=sizeOf341
 v25:=zeroValue341
 t39:=underlying264
 a39:=isAgg264
 z39:=sizeOf264
 v39:=zeroValue264
 t45:=underlying381
 a45:=isAgg381
 z45:=sizeOf381
 v45:=zeroValue381
 t46:=underlying382
 a46:=isAgg382
 z46:=sizeOf382
 v46:=zeroValue382
 t50:=underlying185
 a50:=isAgg185
 z50:=sizeOf185
 v50:=zeroValue185
 t53:=underlying388
 a53:=isAgg388
 z53:=sizeOf388
 v53:=zeroValue388
 t55:=underlying251
 a55:=isAgg251
 z55:=sizeOf251
 v55:=zeroValue251
 t66:=underlying411
 a66:=isAgg411
 z66:=sizeOf411
 v66:=zeroValue411
 t70:=underlying415
 a70:=isAgg415
 z70:=sizeOf415
 v70:=zeroValue415
 t76:=underlying435
 a76:=isAgg435
 z76:=sizeOf435
 v76:=zeroValue435
 t77:=underlying436
 a77:=isAgg436
 z77:=sizeOf436
 v77:=zeroValue436}
end
section
open Go.RowKit Go.Shelf Go.Lib Go.Sort
section
variable{W w w':aF}{R:aJ}{b:Nat}{m:aX}
def wR(x:Int):dw:=[x,(-1:Int)]
theorem xD(x:Int):(wR x).length=2:=rfl
def QU(ids:bq):bO:=ids.map fun x=>(x,-1)
theorem Hw:∀ids:bq,flat dF (QU ids)=flat wR ids
 |[]=>rfl
 |x::ids=>by show dF (x,-1)++flat dF (QU ids)=wR x++flat wR ids;rw[Hw ids];rfl
theorem Tt(x y:Int)(w:aF):Calls prog 190 #[.agg #[x,(-1:Int)],.agg #[y,(-1:Int)]] w (PX (.int .i64 (gT x y)) w):=by have hc:=GR x y ((w.alloc (.cells #[x,(-1:Int)] 238)).alloc (.cells #[y,(-1:Int)] 238));go_enter func190,ntmps190;go_wp2_with fail;refine hc.mono ?_;rintro _ w2⟨rfl,rfl⟩;go_wp2;go_ret;exact⟨rfl,((DT.refl w).alloc _).alloc _⟩
def cfI(x y:Int):Int:=gT x y
theorem Hy(x y:Int):ltOf cfI x y=decide (x<y):=by unfold ltOf cfI gT;rw[decide_eq_decide];by_cases h1:x<y<;>by_cases h2:y<x<;>simp[h1,h2]
theorem ahD:SWO (ltOf cfI) where
 irrefl x:=by rw[Hy];simp
 trans x y z h1 h2:=by rw[Hy]at*;simp only[xM]at*;omega
 ntrans x y z h1 h2:=by rw[Hy]at*;simp only[decide_eq_false_iff_not]at*;omega
theorem Xj(L:bq):(L.mergeSort fun x y=>!(ltOf cfI) y x)=iI L:=by
 unfold iI;congr 1;funext x y;rw[Hy];by_cases h:y<x
 ·simp[h];try omega
 ·simp[h];try omega
theorem Qw(d:Array Int):(flatK wR 2 d).toList=flat wR d.toList:=by
 apply List.ext_getElem?;intro t;by_cases ht:t<d.size*2
 ·have hi:t/2<d.size:=by omega
  have h1:(flatK wR 2 d).toList[t]?=some ((flatK wR 2 d)[t]!):=by rw[Array.getElem?_toList,getElem!_pos (flatK wR 2 d) t (by simpa using ht)];exact Array.getElem?_eq_getElem _
  have h0:d.toList[t/2]?=some d[t/2]!:=by rw[Array.getElem?_toList,getElem!_pos d (t/2) hi,Array.getElem?_eq_getElem hi]
  have h2:=aB xD d.toList (t/2) (t%2) d[t/2]! h0 (Nat.mod_lt _ (by omega));rw[h1,get_flatK _ _ _ _ ht];rw[show t/2*2+t%2=t from by omega]at h2;rw[h2];have h3:t%2<(wR d[t/2]!).length:=by rw[xD];exact Nat.mod_lt _ (by omega)
  rw[cZ h3,getElem!_pos (wR d[t/2]!) (t%2) h3]
 ·rw[QY (by simp;omega),QY (by rw[aN xD];simp;omega)]
theorem Qx{a:aY}{n c:Nat}{L:bq}(hn:n=L.length)(hn2:n<=1000000)(o:Own w (slc 238 2 a n c (flat wR L)::R)):
  Calls prog 189 #[.slice a n c,.func (.func 190) #[] #[]] w (aR (.tuple #[]) (slc 238 2 a n c (flat wR (iI L))::R) w):=by
 subst hn;rcases Own.slc.1 o with⟨rfl,hz,rfl,hx,o1⟩|⟨g,sp,rfl,h1,h2,h3,h4,o1⟩
 ·have hL:L=[]:=CO hz;subst hL;have hcon:=AnyF.slices_SortFunc_none (P:=prog) Tryz.sortCn none 0 (.func (.func 190) #[] #[]) w;change Calls prog 189 _ _ _ at hcon;refine hcon.mono ?_;rintro e w'⟨rfl,rfl⟩;have e0:iI []=[]:=by unfold iI;simp
  rw[e0];exact⟨rfl,o,Calm.refl _⟩
 ·have eg:∀args w,(callFunc 190 args).run prog w=.ok (.enter 190 args) w:=enters_of func190 (by kernel_rfl) rfl;have hsz0:L.toArray.size=L.length:=by simp
  have hH:HoldsK wR 2 w g 0 L.toArray:=by
   intro t ht;have hget:(flatK wR 2 L.toArray)[t]?=some ((flatK wR 2 L.toArray)[t]!):=by rw[getElem!_pos _ t ht];exact Array.getElem?_eq_getElem ht
   rw[<-Array.getElem?_toList,Qw]at hget;refine⟨?_,?_⟩
   ·rw[Nat.zero_add];exact Own.cell (T:=238) (vs:=flat wR L++sp) o1 t (by rw[List.getElem?_append_left (eU.1 hget).1];exact hget)
   ·exact Own.frozen (T:=238) (vs:=flat wR L++sp) o1 _
  have ad9:CmpLays prog 190 #[] wR 2 cfI g 0 L.toArray.size w:=by intro m os dk hdk x y;exact(Tt x y _).mono fun e w' h=>h
  have hcon:=AnyQ.slices_SortFunc_total (P:=prog) Tryz.sortCn 2 isAgg238 sizeOf238 wR (fun _=>rfl) (fun x v hv=>by simp[wR]at hv;rcases hv with rfl|rfl<;>rfl) cfI ahD 190 #[] g 0 c L.toArray w eg ad9 hH o1.lt (by rw[hsz0];omega)
   (fun x y h1 h2=>by
    rw[Hy]at h1 h2;simp only[decide_eq_false_iff_not]at h1 h2
    omega)
  rw[hsz0]at hcon;change Calls prog 189 _ _ _ at hcon;refine hcon.mono ?_;rintro e w'⟨rfl,n,os,rfl⟩;have hsz:(flatK wR 2 (L.toArray.toList.mergeSort fun x y=>!(ltOf cfI) y x).toArray).size=(flat wR L).length:=by rw[size_flatK,aN xD,List.size_toArray,List.length_mergeSort]
  have o2:=Own.MP (F:=flatK wR 2 (L.toArray.toList.mergeSort fun x y=>!(ltOf cfI) y x).toArray) (n:=n) (os:=os) o1 hsz;rw[Qw]at o2;have hml:iI L=L.toArray.toList.mergeSort fun x y=>!(ltOf cfI) y x:=by rw[List.toList_toArray,Xj]
  have hle:(flat wR (iI L)).length=L.length*2:=by rw[aN xD,qd]
  rw[hml]at hle⊢;refine⟨rfl,Own.slc.2 (.inr ⟨g,sp,rfl,h1,h2,hle,h4,o2⟩),⟨rfl,rfl,rfl⟩⟩
end
end
section
variable{W w w':aF}{R:aJ}{b:Nat}{m:aX}
theorem Tryz.stnT:bS prog 70 176 1 8:=bS.mk' (z:=.pointer none) underlying70 (by kernel_rfl) rfl (by decide)
def aau(b:Nat)(m:aX)(x:MB)(T':yV)(W:aF)(R:aJ):aJ:=
 dM x.tb T'::slc 206 5 x.ua m.rules.length x.uc (flat IA m.rules)::slc 136 1 x.qa m.qs.length x.qc (m.qs.map pv)::st (List.zipWith dQ m.qs m.Q)::iV x.lb m.jy::
  slc 170 5 x.pa m.dY.length x.pc (flat bR m.dY)::dR b m.cfg x.sv m.aZ::bZ x.aa x.ac m.act::slc 51 6 x.la m.log.length x.lc (flat recC m.log)::jG x.ra x.rc m.cfg.bQ::old W::R
def newS(c:nK):lM:=⟨BI c.kd c.pk c.pn,⟨c.win,c.tries,0,[]⟩,⟨c.win,0,[]⟩,0,0⟩
def mG(m:aX)(n:ByteArray)(x r:Int)(p:Nat):aX:=if ig m.tab n x r=0 then{m with tab:=staT m.tab n x r,S:=m.S++[newS m.cfg],ss:=m.ss++[p]}else m
theorem Ju{e:Nt}{fa:aY}{fc:Nat}(hT:m.tab.Ok)(hc:m.cfg.Ok)(hs:e.s.size<=2000000)(hS:m.S.length<=1000)(hW:kF W)(o:Own w (aK b m::old W::R)):
  Calls prog 44 #[.pointer (some ⟨b,0,none⟩),xG e fa fc] w
   fun en w'=>∃p,aR (.tuple #[.int .i64 (pF m.tab e.s e.a e.b),.int .i64 (ig m.tab e.s e.a e.b)]) (aK b (mG m e.s e.a e.b p)::old W::R) w en w':=by
 obtain⟨x,⟨hq,hss⟩,o1⟩:=aK.iff.1 o;have oA:Own (w.alloc (.cells #[.int .i64 e.k,.int .i64 e.a,.int .i64 e.b,.int .i64 e.c,.string e.s,.slice fa e.F.length fc] 47)) (aH w.heap.size 47 [.int .i64 e.k,.int .i64 e.a,.int .i64 e.b,.int .i64 e.c,.string e.s,.slice fa e.F.length fc]::(bX b m x++(old W::R))):=o1.alloc (.cells #[.int .i64 e.k,.int .i64 e.a,.int .i64 e.b,.int .i64 e.c,.string e.s,.slice fa e.F.length fc] 47);have K0:Calm w (w.alloc (.cells #[.int .i64 e.k,.int .i64 e.a,.int .i64 e.b,.int .i64 e.c,.string e.s,.slice fa e.F.length fc] 47)):=⟨rfl,rfl,rfl⟩;have e1:=oA.cell 1;have e2:=oA.cell 2;have e4:=oA.cell 4;have oM:Own (w.alloc (.cells #[.int .i64 e.k,.int .i64 e.a,.int .i64 e.b,.int .i64 e.c,.string e.s,.slice fa e.F.length fc] 47)) (aH b 75 (aW m x)::_):=oA.up 1;have c20:=Own.cell oM 20 (show(aW m x)[20]?=some (.pointer (some ⟨x.tb,0,none⟩))from rfl);have hAd:=Ep (b:=x.tb) e.s e.a e.b hT hs hW ((oA.re [2,14]).drew);unfold xG;have S1:=az hq;have S2:=az hss;have HC:=az hc;have hnS:m.ss.length<=1000:=by omega
 have abm:jX m.cfg x.ra x.rc=jX m.cfg x.ra x.rc:=rfl;clear hq hss hc o o1 abm hS hT;by_cases her:ig m.tab e.s e.a e.b=0;rotate_left
 ·have HM:=az (fun p=>show mG m e.s e.a e.b p=m by unfold mG;rw[if_neg her]);have HT:=az (show staT m.tab e.s e.a e.b=m.tab by unfold staT;rw[if_neg her]);have HI:=az (show pF m.tab e.s e.a e.b=0 by unfold pF;rw[if_neg her]);rw[HI.out]at hAd⊢;generalize ig m.tab e.s e.a e.b=er at*;have dn:(er !=0)=true:=by rw[bne_iff_ne];exact her
  clear her;go_enter func44,ntmps44;go_upto_region 1 with fail;generalize w.heap.size=kb at*
  go_region_held3(fun w'=>w'.cell? ⟨kb,1,none⟩=some (.int .i64 e.a)/\w'.cell? ⟨kb,2,none⟩=some (.int .i64 e.b)/\w'.cell? ⟨kb,4,none⟩=some (.string e.s)/\w'.cell? ⟨b,20,none⟩=some (.pointer (some ⟨x.tb,0,none⟩))) (go_keep) (first
   |(go_at_call 71;(with_reducible refine Calls.mono hAd ?_);rintro _ w2⟨rfl,o2,k2⟩;have y1:=(o2.up 2).cell 1;have y2:=(o2.up 2).cell 2;have y4:=(o2.up 2).cell 4;have y20:=Own.cell (o2.up 3) 20 (show(aW m x)[20]?=some (.pointer (some ⟨x.tb,0,none⟩))from rfl)))
  have KF:=(aD K0).trans k2;have oF:=(o2.re [2] 1).re [2,0,3,4,5,6,7,8,9,10,11,12,13];clear hAd oA oM o2 k2 K0;go_wp2;go_ret2;refine⟨0,rfl,?_,KF⟩;rw[HM.out];refine aK.iff.2 ⟨x,⟨S1.out,S2.out⟩,?_⟩;rw[HT.out]at oF;exact oF
 ·have HM:=az (fun p=>show mG m e.s e.a e.b p={m with tab:=staT m.tab e.s e.a e.b,S:=m.S++[newS m.cfg],ss:=m.ss++[p]}by unfold mG;rw[if_pos her]);rw[her]at hAd⊢;generalize staT m.tab e.s e.a e.b=T' at*;generalize pF m.tab e.s e.a e.b=id at*;clear her;go_enter func44,ntmps44;go_upto_region 1 with fail;generalize w.heap.size=kb at*
  go_region_held3(fun w'=>w'.cell? ⟨kb,1,none⟩=some (.int .i64 e.a)/\w'.cell? ⟨kb,2,none⟩=some (.int .i64 e.b)/\w'.cell? ⟨kb,4,none⟩=some (.string e.s)/\w'.cell? ⟨b,20,none⟩=some (.pointer (some ⟨x.tb,0,none⟩))) (go_keep) (first
   |(go_at_call 71;(with_reducible refine Calls.mono hAd ?_);rintro _ w2⟨rfl,o2,k2⟩;have y1:=(o2.up 2).cell 1;have y2:=(o2.up 2).cell 2;have y4:=(o2.up 2).cell 4;have y20:=Own.cell (o2.up 3) 20 (show(aW m x)[20]?=some (.pointer (some ⟨x.tb,0,none⟩))from rfl)))
  have K2:=(aD K0).trans k2;have oF:=(o2.re [2] 1).re [2,6,7,0,3,4,5,8,9,10,11,12,13,1];clear hAd oA oM o2 k2 K0 e1 e2 e4 c20 y1 y2 y4 y20;have oT:Own w2 (aH b 75 (aW m x)::slc 176 1 x.sa m.ss.length x.sc (m.ss.map pv)::st (List.zipWith iN m.ss m.S)::aau b m x T' W R):=oF;obtain⟨l,hle⟩:∃l,aau b m x T' W R=l:=⟨_,rfl⟩;have HRL:=az hle;rw[hle]at oT;clear hle oF;obtain⟨cs,hcs⟩:∃cs,aW m x=cs:=⟨_,rfl⟩;have HCS:=az hcs;have g3:cs[3]?=some (.int .i64 m.cfg.kd):=by rw[<-hcs];rfl
  have g4:cs[4]?=some (.int .i64 m.cfg.pk):=by rw[<-hcs];rfl
  have g5:cs[5]?=some (.int .i64 m.cfg.pn):=by rw[<-hcs];rfl
  have g9:cs[9]?=some (.int .i64 m.cfg.tries):=by rw[<-hcs];rfl
  have g10:cs[10]?=some (.int .i64 m.cfg.win):=by rw[<-hcs];rfl
  have g23:cs[23]?=some (.slice x.sa m.ss.length x.sc):=by rw[<-hcs];rfl
  rw[hcs]at oT;clear hcs;obtain⟨n,hn⟩:∃n,m.ss.length=n:=⟨_,rfl⟩;have HN:=az hn;rw[hn]at oT g23 hnS;clear hn;have oP:Own (w2.alloc (.cells #[.pointer none,.pointer none,.pointer none,.int .i64 0,.int .i64 0] 181)) (aH w2.heap.size 181 [.pointer none,.pointer none,.pointer none,.int .i64 0,.int .i64 0]::_):=oT.alloc (.cells #[.pointer none,.pointer none,.pointer none,.int .i64 0,.int .i64 0] 181);have K3:=aj (x:=.cells #[.pointer none,.pointer none,.pointer none,.int .i64 0,.int .i64 0] 181) K2;have hbl:=oT.aS;have hne1:¬b=w2.heap.size:=by omega
  have hne2:¬w2.heap.size=b:=by omega
  clear hbl;have hCh:=VI HC.out.pr oP;have c3:=Own.cell (oP.up 1) 3 g3;have c4:=Own.cell (oP.up 1) 4 g4;have c5:=Own.cell (oP.up 1) 5 g5;clear oT;go_wp2_with fail;refine hCh.mono ?_;rintro _ w4⟨ch,rfl,o4,k4⟩;have K4:=K3.trans k4;generalize w2.heap.size=p at*;clear hCh c3 c4 c5 oP k4 K3;have s0:=(o4.up 1).cell 0;have sf:=(o4.up 1).frozen;have sl:=(o4.up 1).aS;have o5:Own (w4.setCell ⟨p,0,none⟩ (.pointer (some ⟨ch,0,none⟩))) (aH p 181 [.pointer (some ⟨ch,0,none⟩),.pointer none,.pointer none,.int .i64 0,.int .i64 0]::_):=(o4.up 1).setCell 0 (.pointer (some ⟨ch,0,none⟩));have K5:=ay (x:=⟨p,0,none⟩) (v:=.pointer (some ⟨ch,0,none⟩)) K4;go_upto_region 6 with fail;generalize w4.setCell ⟨p,0,none⟩ (.pointer (some ⟨ch,0,none⟩))=w5 at*;clear s0 sf sl o4 K4;have d9:=Own.cell (o5.up 2) 9 g9;have d10:=Own.cell (o5.up 2) 10 g10;have hSd:=Oc HC.out.w1 HC.out.w2 HC.out.t1 HC.out.t2 o5.drew
  go_region_held3(fun w'=>w'.cell? ⟨b,9,none⟩=some (.int .i64 m.cfg.tries)/\w'.cell? ⟨b,10,none⟩=some (.int .i64 m.cfg.win)) (go_keep) (first
   |(go_at_call 73;(with_reducible refine Calls.mono hSd ?_);rintro _ w6⟨sd,rfl,o6,k6⟩;have z9:=Own.cell (o6.up 3) 9 g9;have z10:=Own.cell (o6.up 3) 10 g10;have s1:=(o6.up 1).cell 1;have sf:=(o6.up 1).frozen;have sl:=(o6.up 1).aS))
  have o7:Own (w6.setCell ⟨p,1,none⟩ (.pointer (some ⟨sd,0,none⟩))) (aH p 181 [.pointer (some ⟨ch,0,none⟩),.pointer (some ⟨sd,0,none⟩),.pointer none,.int .i64 0,.int .i64 0]::_):=(o6.up 1).setCell 1 (.pointer (some ⟨sd,0,none⟩));have K7:=ay (x:=⟨p,1,none⟩) (v:=.pointer (some ⟨sd,0,none⟩)) ((aD K5).trans k6);generalize w6.setCell ⟨p,1,none⟩ (.pointer (some ⟨sd,0,none⟩))=w7 at*;clear hSd d9 d10 z9 z10 s1 sf sl o6 k6 o5 K5;have d10:=Own.cell (o7.up 3) 10 g10;have hRv:=Om HC.out.w1 HC.out.w2 o7;go_wp2_with fail;refine hRv.mono ?_;rintro _ w8⟨rv,rfl,o8,k8⟩;have s2:=(o8.up 1).cell 2;have sf:=(o8.up 1).frozen;have sl:=(o8.up 1).aS;have o9:Own (w8.setCell ⟨p,2,none⟩ (.pointer (some ⟨rv,0,none⟩))) (aH p 181 [.pointer (some ⟨ch,0,none⟩),.pointer (some ⟨sd,0,none⟩),.pointer (some ⟨rv,0,none⟩),.int .i64 0,.int .i64 0]::_):=(o8.up 1).setCell 2 (.pointer (some ⟨rv,0,none⟩));have K9:=ay (x:=⟨p,2,none⟩) (v:=.pointer (some ⟨rv,0,none⟩)) (K7.trans k8);clear hRv d10 o7 K7 o8 k8;go_upto_region 8 with fail;generalize w8.setCell ⟨p,2,none⟩ (.pointer (some ⟨rv,0,none⟩))=w9 at*;clear s2 sf sl;have oQ:Own w9 (aH p 181 [.pointer (some ⟨ch,0,none⟩),.pointer (some ⟨sd,0,none⟩),.pointer (some ⟨rv,0,none⟩),.int .i64 0,.int .i64 0]::eY rv ⟨m.cfg.win,0,[]⟩::dP sd ⟨m.cfg.win,m.cfg.tries,0,[]⟩::pR ch (BI m.cfg.kd m.cfg.pk m.cfg.pn)::aH b 75 cs::slc 176 1 x.sa n x.sc (m.ss.map pv)::st (List.zipWith iN m.ss m.S)::l):=o9;have oS:Own w9 (iN p (newS m.cfg)::aH b 75 cs::slc 176 1 x.sa n x.sc (m.ss.map pv)::st (List.zipWith iN m.ss m.S)::l):=Own.ex.2 ⟨(ch,sd,rv),Own.st.2 (oQ.re [0,3,2,1])⟩;have oU:=Own.BB (oS.re [0,3]);have oV:Own w9 (aH b 75 cs::slc 176 1 x.sa n x.sc (m.ss.map pv)::st (List.zipWith iN m.ss m.S++[iN p (newS m.cfg)])::l):=oU.re [1,2,0];have c23:=Own.cell oV 23 g23;have oY:Own (w9.alloc (.cells #[.pointer (some ⟨p,0,none⟩)] 176)) (aH w9.heap.size 176 [.pointer (some ⟨p,0,none⟩)]::_):=oV.alloc (.cells #[.pointer (some ⟨p,0,none⟩)] 176);have hnw:=Own.news (T:=176) (vs:=[.pointer (some ⟨p,0,none⟩)]) oY;clear o9 oQ oS oU hne1 hne2;go_wp2_with(at_builtin;refine aQ rfl _ _ rfl Tryz.stnT rfl (oY.up 2) rfl ⟨_,_,rfl,rfl,by intro u hu;simp only[List.mem_cons,List.not_mem_nil,or_false]at hu;subst hu;rfl,.inr ⟨_,rfl,hnw⟩⟩ (by unfold maxLen;omega) (by omega) ?kK);case kK=>
  intro a2 c2 wa oa ka;have Ka:=K9.trans ((aj (x:=.cells #[.pointer (some ⟨p,0,none⟩)] 176) (Calm.refl _)).trans ka);have f23:=Own.cell (oa.up 2) 23 g23;have ff:=(oa.up 2).frozen;have fl:=(oa.up 2).aS;have oG:=((oa.up 2).setCell 23 (.slice a2 (n+1) c2)).re [2] 1;have KG:=ay (x:=⟨b,23,none⟩) (v:=.slice a2 (n+1) c2) Ka;clear hnw oY oV c23 oa ka K9 Ka;go_wp2;go_ret2;refine⟨p,rfl,?_,KG⟩;rw[HM.out];have oH:Own (wa.setCell ⟨b,23,none⟩ (.slice a2 (n+1) c2)) (aH b 75 (cs.set 23 (.slice a2 (n+1) c2))::slc 176 1 a2 (n+1) c2 (m.ss.map pv++[.pointer (some ⟨p,0,none⟩)])::st (List.zipWith iN m.ss m.S++[iN p (newS m.cfg)])::l):=oG;rw[<-HRL.out]at oH;unfold aau at oH;have e1:aW {m with tab:=T',S:=m.S++[newS m.cfg],ss:=m.ss++[p]} {x with sa:=a2,sc:=c2}=cs.set 23 (.slice a2 (n+1) c2):=by rw[<-HCS.out];unfold aW;dsimp only;rw[List.length_append,HN.out];rfl
  refine aK.iff.2 ⟨{x with sa:=a2,sc:=c2},⟨S1.out,by simp[S2.out]⟩,?_⟩;unfold bX;rw[e1];dsimp only;rw[List.length_append,HN.out,List.map_append,List.zipWith_append S2.out];exact oH.re [0,3,4,5,6,1,2]
end
end Go.Proofs.YtfejhikpfhgbeaaGreatDoor
