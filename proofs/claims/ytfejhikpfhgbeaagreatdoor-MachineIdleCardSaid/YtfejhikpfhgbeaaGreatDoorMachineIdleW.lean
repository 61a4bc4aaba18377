import Derived.Test.YtfejhikpfhgbeaaGreatDoorMachineIdleU
set_option maxHeartbeats 25600000
set_option maxRecDepth 100000
set_option linter.all false
namespace Go.Proofs.YtfejhikpfhgbeaaGreatDoor
open Go.Proofs.Tryz
open Go.RowKit
open SP
section
variable{W w w':aF}{R:aJ}{b:Nat}{T:yV}
def ad5:dw:=[aC,.string ⟨#[]⟩,aC,aC]
def WH:dw:=[aC,aC,aC,aC,aC,aC,aC]
def WI(S:List rV)(i:Int):Option rV:=if i<0 then none else S[i.toNat]?
def WJ(S:List rV)(i:Int):aL:=match WI S i with
 |none=>.tuple #[.agg ad5.toArray,.bool false]
 |some s=>.tuple #[.agg (qW s).toArray,.bool true]
theorem uM(i:Int)(hT:T.Ok)(o:Own w (dM b T::R)):
  Calls prog 153 #[b,i] w (aR (WJ T.S i) (dM b T::R) w):=by
 have hsl:=hT.sl;obtain⟨sa,sc,mb,fa,fc,ps,hp,o1⟩:=dM.iff.1 o;obtain⟨-,hbl,-,-,c2,-⟩:=o1.cs;unfold WJ WI;by_cases h0:i<0
 ·rw[if_pos h0];go_enter func153,ntmps153;go_wp2
  (try simp only[Exit.inBlock,Exit.then])
  refine bodyPost_ret (v:=.tuple #[.agg ad5.toArray,.bool false]) ?_ rfl ⟨rfl,o.more _,⟨rfl,rfl,rfl⟩⟩;rw[results_cell_tmp rfl];go_simp;rfl
 ·rw[if_neg h0];obtain⟨k,rfl⟩:∃k:Nat,i=(k:Int):=⟨i.toNat,by omega⟩;rw[Int.toNat_natCast];by_cases hk:k<T.S.length
  ·obtain⟨s,hs⟩:∃s,T.S[k]?=some s:=⟨_,cZ hk⟩;obtain⟨g,rfl,hc,_,hgl⟩:=(o1.up 1).aG (by omega);have d0:=hc (k*4+0) s.id (by rw[aB AL T.S k 0 s hs (by omega)];rfl);have d1:=hc (k*4+1) (.string s.nm) (by rw[aB AL T.S k 1 s hs (by omega)];rfl);have d2:=hc (k*4+2) s.wt (by rw[aB AL T.S k 2 s hs (by omega)];rfl);have d3:=hc (k*4+3) s.rate (by rw[aB AL T.S k 3 s hs (by omega)];rfl);rw[Nat.add_zero]at d0;rw[hs];clear hc;go_enter func153,ntmps153;go_wp2
   (try simp only[Exit.inBlock,Exit.then])
   refine bodyPost_ret (v:=.tuple #[.agg (qW s).toArray,.bool true]) ?_ rfl ⟨rfl,?_,⟨rfl,rfl,rfl⟩⟩
   ·rw[results_cell_tmp rfl];go_simp;rfl
   ·exact o.more _
  ·rw[QY (by omega)];have hk':(T.S.length:Int)<=(k:Int):=by omega
   go_enter func153,ntmps153;go_wp2
   (try simp only[Exit.inBlock,Exit.then])
   refine bodyPost_ret (v:=.tuple #[.agg ad5.toArray,.bool false]) ?_ rfl ⟨rfl,o.more _,⟨rfl,rfl,rfl⟩⟩;rw[results_cell_tmp rfl];go_simp;rfl
def GJ(F:List (jd×Bool))(i:Int):aL:=match lG F i with
 |none=>.tuple #[.agg WH.toArray,.bool false]
 |some s=>.tuple #[.agg (jv s).toArray,.bool true]
theorem rH(f:Int)(hT:T.Ok)(o:Own w (dM b T::R)):
  Calls prog 66 #[b,f] w (aR (GJ T.F f) (dM b T::R) w):=by
 have hfl:=hT.fl;have oA:=o.more (.cells WH.toArray 167);obtain⟨sa,sc,mb,fa,fc,ps,hp,o1⟩:=dM.iff.1 oA;obtain⟨sa',sc',mb',fa',fc',ps',hp',o1'⟩:=dM.iff.1 o;unfold GJ;cases hg:lG T.F f with
 |none=>
  have hget:=abq hp hfl hg o1;clear hg;unfold WH at hget;go_enter func66,ntmps66;go_wp2_with fail;refine hget.mono ?_;rintro e4 w4⟨rfl,rfl⟩;clear hget;go_wp2
  (try simp only[Exit.inBlock,Exit.then])
  refine bodyPost_ret (v:=.tuple #[.agg WH.toArray,.bool false]) ?_ rfl ⟨rfl,o.more _,⟨rfl,rfl,rfl⟩⟩;rw[results_cell_tmp rfl];go_simp;rfl
 |some g=>
  obtain⟨i,c,rfl,hgi,hci,hfp,hil⟩:=Ml hp' hg;have oF:=Own.focus (EN hci hgi) (o1'.up 4);dsimp only at oF;have oB:=oF.alloc (.cells WH.toArray 167);have oC:=Own.qY (i:=i) (B:=aH c 167 (jv g)) (EN hci hgi) (oB.re [1,2]);rw[Pt (c':=true) hci hgi,set_self hgi]at oC;have hget:=Zv hp' hfl hfp (oC.re [2,3,4,5,0]);have d0:w.cell? ⟨c,0,none⟩=some ↑g.id:=oF.cell 0;have d1:w.cell? ⟨c,1,none⟩=some ↑g.fU:=oF.cell 1;have d2:w.cell? ⟨c,2,none⟩=some ↑g.wt:=oF.cell 2;have d3:w.cell? ⟨c,3,none⟩=some ↑g.pk:=oF.cell 3;have d4:w.cell? ⟨c,4,none⟩=some ↑g.eG:=oF.cell 4;have d5:w.cell? ⟨c,5,none⟩=some ↑g.lag:=oF.cell 5;have d6:w.cell? ⟨c,6,none⟩=some ↑g.lead:=oF.cell 6;have dl:=Own.aS oF;clear hg;unfold WH at hget;go_enter func66,ntmps66;go_wp2_with fail;refine hget.mono ?_;rintro e4 w4⟨rfl,rfl⟩;clear hget;go_wp2
  (try simp only[Exit.inBlock,Exit.then])
  refine bodyPost_ret (v:=.tuple #[.agg (jv g).toArray,.bool true]) ?_ rfl ⟨rfl,o.more _,⟨rfl,rfl,rfl⟩⟩;rw[results_cell_tmp rfl];go_simp;rfl
def dO(F:List (jd×Bool)):List jd:=(F.filter (·.2)).map (·.1)
theorem MJ(F G:List (jd×Bool)):dO (F++G)=dO F++dO G:=by unfold dO;rw[List.filter_append,tJ]
theorem WK(F:List (jd×Bool)):(dO F).length<=F.length:=by unfold dO;rw[iP];exact List.length_filter_le _ _
theorem SK{F:List (jd×Bool)}{i:Nat}{g:jd}{c:Bool}(h:F[i]?=some (g,c)):dO (F.take (i+1))=dO (F.take i)++(if c=true then[g]else[]):=by rw[tH,MJ,h];cases c<;>rfl
def acW(b:Nat)(T:yV)(sa:aY)(sc mb:Nat)(fa:aY)(fc:Nat)(ps:List (Option Nat))(R:aJ)(w:aF)(v3 v11:aL)(wr:aF):Prop:=
 ∃(i n c:Nat)(a:aY),v3=.slice a n c/\v11=↑(i:Int)/\i<=T.F.length/\n=(dO (T.F.take i)).length/\
  Own wr (slc 167 7 a n c (flat jv (dO (T.F.take i)))::
   aH b 103 [T.cap,T.bQ,.slice sa T.S.length sc,.map (some mb),.slice fa T.F.length fc,(ny T.F:Int)]::
   slc 269 4 sa T.S.length sc (flat qW T.S)::Kb (Value.int .i64) mb (sU T.S)::slc 201 1 fa T.F.length fc (ps.map Gu)::st (uG ps T.F)::R)/\Calm w wr
theorem zn(hT:T.Ok)(o:Own w (dM b T::R)):
  Calls prog 56 #[b] w fun e w'=>∃a' c',aR (.slice a' (dO T.F).length c') (slc 167 7 a' (dO T.F).length c' (flat jv (dO T.F))::dM b T::R) w e w':=by
 have hfl:=hT.fl;obtain⟨sa,sc,mb,fa,fc,ps,hp,o1⟩:=dM.iff.1 o;have hpl:=hp.len;have c4:=o1.cell 4;have acX:acW b T sa sc mb fa fc ps R w (.slice none 0 0) (.int .i64 0) w:=⟨0,0,0,none,rfl,rfl,by omega,rfl,Own.bH (e:=167) (size:=7) o1,Calm.refl w⟩;clear o1;go_enter func56,ntmps56;go_wp2;go_loopw[3,11] (fun v3 v11 wr=>acW b T sa sc mb fa fc ps R w v3 v11 wr) (fun _ v _=>T.F.length-(intOf v).toNat);case atStart=>exact acX
 case round=>
  clear acX c4;obtain⟨i,n,c,a,rfl,rfl,hi,hn,oR,kR⟩:=hrel;have hll:=WK (T.F.take i);rw[rZ]at hll;have HN:=az hn;have hn1:n<=32:=by omega
  clear hn;by_cases hil:i<T.F.length
  ·obtain⟨⟨g,cc⟩,hgi⟩:∃p,T.F[i]?=some p:=⟨_,cZ hil⟩;obtain⟨p,hpi,hpc⟩:=hp.at hgi;have hls:=SK hgi;obtain⟨ga,rfl,hcell,_,_⟩:=(oR.up 4).aG (by omega);have r1:=hcell i (Gu p) (by rw[kI,hpi];rfl);clear hcell;cases p with
   |none=>
    have hcc:cc=false:=by rw[<-hpc];rfl
    subst hcc;rw[if_neg (by decide),List.append_nil]at hls;have HLS:=az hls;clear hls hpc;have r2:wr.cell? ⟨ga,i,none⟩=some (.pointer none):=r1;clear r1;go_wp2;go_roundw;case rel=>exact⟨i+1,n,c,a,rfl,by go_num,by omega,by rw[HLS.out];exact HN.out,by rw[HLS.out];exact oR,kR⟩
    case measure=>simp[intOf];omega
   |some k=>
    have hcc:cc=true:=by rw[<-hpc];rfl
    subst hcc;rw[if_pos rfl]at hls;have HLS:=az hls;clear hls hpc;have r2:wr.cell? ⟨ga,i,none⟩=some (.pointer (some ⟨k,0,none⟩)):=r1;clear r1;have oF:=Own.focus (EN hpi hgi) (oR.up 5);dsimp only at oF;have d0:wr.cell? ⟨k,0,none⟩=some ↑g.id:=oF.cell 0;have d1:wr.cell? ⟨k,1,none⟩=some ↑g.fU:=oF.cell 1;have d2:wr.cell? ⟨k,2,none⟩=some ↑g.wt:=oF.cell 2;have d3:wr.cell? ⟨k,3,none⟩=some ↑g.pk:=oF.cell 3;have d4:wr.cell? ⟨k,4,none⟩=some ↑g.eG:=oF.cell 4;have d5:wr.cell? ⟨k,5,none⟩=some ↑g.lag:=oF.cell 5;have d6:wr.cell? ⟨k,6,none⟩=some ↑g.lead:=oF.cell 6;clear oF;have oN:=(oR.alloc (.cells #[g.id,g.fU,g.wt,g.pk,g.eG,g.lag,g.lead] 167)).up 1;go_wp2_with(at_builtin;refine aU rfl _ _ rfl Tryz.floT rfl oN ⟨wr.heap.size,0,none⟩ 1 1 [g.id,g.fU,g.wt,g.pk,g.eG,g.lag,g.lead] rfl rfl ?c1 ?c2 ?c3 ?c4 ?c5);case c1=>exact Own.news (T:=167) (oR.alloc _)
    case c2=>intro u hu;simp at hu;rcases hu with rfl|rfl|rfl|rfl|rfl|rfl|rfl<;>rfl
    case c3=>unfold maxLen;omega
    case c4=>omega
    case c5=>
     intro a' c' w1 o2 k2;go_wp2;go_roundw;case rel=>refine⟨i+1,n+1,c',a',rfl,by go_num,by omega,by rw[HLS.out,jf,<-HN.out];rfl,?_,kR.trans k2.al⟩;rw[HLS.out,aO];exact o2.re [1,0] 1
     case measure=>simp[intOf];omega
  ·have hie:i=T.F.length:=by omega
   subst hie;rw[List.take_length]at HN oR;have hn:=HN.out;subst hn;go_wp2;go_ret;exact⟨a,c,rfl,(dM.iff.2 ⟨sa,sc,mb,fa,fc,ps,hp,oR.re [1,2,3,4,5,0]⟩).swap,kR⟩
end
end Go.Proofs.YtfejhikpfhgbeaaGreatDoor
