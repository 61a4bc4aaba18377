import Derived.Shelf.SlIterI.Nil
import Derived.Shelf.SortM.Plain
import Derived.Shelf.SortM.SortNone
import Derived.Deep.MidRow
import Derived.Test.YtfejhikpfhgbeaaGreatDoorMachineIdleA
set_option maxHeartbeats 25600000
set_option maxRecDepth 100000
set_option linter.all false
namespace Go.Proofs.YtfejhikpfhgbeaaGreatDoor
open Go.Proofs.Tryz
open Go.RowKit
open SP
section
open Go.Shelf
def Tryz.keys385_ren:Go.Shelf.Ren:=⟨fun|7=>385|10=>395|n=>n,fun|23=>219|26=>3|3=>487|28=>508|0=>0|27=>507|33=>200|4=>4|n=>n,fun|n=>n⟩
theorem Tryz.keys385:Go.Proofs.SlLaysZI.n7 prog Tryz.keys385_ren:={
 mixed:=by kernel_rfl
 f7:=⟨f385.name,by decide,func385.trans (congrArg some (by kernel_rfl))⟩
 f10:=⟨f395.name,by decide,func395.trans (congrArg some (by kernel_rfl))⟩
 t0:=underlying0
 a0:=isAgg0
 z0:=sizeOf0
 v0:=zeroValue0
 t4:=underlying4
 a4:=isAgg4
 z4:=sizeOf4
 v4:=zeroValue4
 t23:=underlying219
 a23:=isAgg219
 z23:=sizeOf219
 v23:=zeroValue219
 t26:=underlying3
 a26:=isAgg3
 z26:=sizeOf3
 v26:=zeroValue3
 t27:=underlying507
 a27:=isAgg507
 z27:=sizeOf507
 v27:=zeroValue507
 t28:=underlying508
 a28:=isAgg508
 z28:=sizeOf508
 v28:=zeroValue508
 t33:=underlying200
 a33:=isAgg200
 z33:=sizeOf200
 v33:=zeroValue200}
def Tryz.keys387_ren:Go.Shelf.Ren:=⟨fun|7=>387|10=>396|n=>n,fun|23=>215|26=>3|3=>484|28=>508|0=>0|27=>507|33=>200|4=>4|n=>n,fun|n=>n⟩
theorem Tryz.keys387:Go.Proofs.SlLaysZI.n7 prog Tryz.keys387_ren:={
 mixed:=by kernel_rfl
 f7:=⟨f387.name,by decide,func387.trans (congrArg some (by kernel_rfl))⟩
 f10:=⟨f396.name,by decide,func396.trans (congrArg some (by kernel_rfl))⟩
 t0:=underlying0
 a0:=isAgg0
 z0:=sizeOf0
 v0:=zeroValue0
 t4:=underlying4
 a4:=isAgg4
 z4:=sizeOf4
 v4:=zeroValue4
 t23:=underlying215
 a23:=isAgg215
 z23:=sizeOf215
 v23:=zeroValue215
 t26:=underlying3
 a26:=isAgg3
 z26:=sizeOf3
 v26:=zeroValue3
 t27:=underlying507
 a27:=isAgg507
 z27:=sizeOf507
 v27:=zeroValue507
 t28:=underlying508
 a28:=isAgg508
 z28:=sizeOf508
 v28:=zeroValue508
 t33:=underlying200
 a33:=isAgg200
 z33:=sizeOf200
 v33:=zeroValue200}
def Tryz.keys398_ren:Go.Shelf.Ren:=⟨fun|7=>398|10=>405|n=>n,fun|23=>222|26=>3|3=>3|28=>508|0=>0|27=>507|33=>200|4=>4|n=>n,fun|n=>n⟩
theorem Tryz.keys398:Go.Proofs.SlLaysZI.n7 prog Tryz.keys398_ren:={
 mixed:=by kernel_rfl
 f7:=⟨f398.name,by decide,func398.trans (congrArg some (by kernel_rfl))⟩
 f10:=⟨f405.name,by decide,func405.trans (congrArg some (by kernel_rfl))⟩
 t0:=underlying0
 a0:=isAgg0
 z0:=sizeOf0
 v0:=zeroValue0
 t4:=underlying4
 a4:=isAgg4
 z4:=sizeOf4
 v4:=zeroValue4
 t23:=underlying222
 a23:=isAgg222
 z23:=sizeOf222
 v23:=zeroValue222
 t26:=underlying3
 a26:=isAgg3
 z26:=sizeOf3
 v26:=zeroValue3
 t27:=underlying507
 a27:=isAgg507
 z27:=sizeOf507
 v27:=zeroValue507
 t28:=underlying508
 a28:=isAgg508
 z28:=sizeOf508
 v28:=zeroValue508
 t33:=underlying200
 a33:=isAgg200
 z33:=sizeOf200
 v33:=zeroValue200}
def Tryz.sorted_ren:Go.Shelf.Ren:=⟨fun|6=>384|8=>394|9=>139|11=>403|13=>186|12=>185|23=>241|24=>242|14=>232|15=>233|16=>234|17=>235|18=>236|19=>237|20=>238|21=>239|22=>240|25=>268|26=>269|27=>270|28=>271|29=>272|30=>246|31=>296|n=>n,fun|26=>3|28=>508|24=>22|0=>0|3=>3|37=>264|48=>388|50=>251|4=>4|40=>382|39=>381|45=>185|5=>5|9=>9|51=>411|55=>415|57=>435|58=>436|33=>200|n=>n,fun|n=>n⟩
theorem Tryz.sorted:Go.Proofs.SlLaysZI.n6 prog Tryz.sorted_ren:={
 mixed:=by kernel_rfl
 f6:=⟨f384.name,by decide,func384.trans (congrArg some (by kernel_rfl))⟩
 f8:=⟨f394.name,by decide,func394.trans (congrArg some (by kernel_rfl))⟩
 f11:=⟨f403.name,by decide,func403.trans (congrArg some (by kernel_rfl))⟩
 t0:=underlying0
 a0:=isAgg0
 z0:=sizeOf0
 v0:=zeroValue0
 t24:=underlying22
 a24:=isAgg22
 z24:=sizeOf22
 v24:=zeroValue22
 t26:=underlying3
 a26:=isAgg3
 z26:=sizeOf3
 v26:=zeroValue3
 t28:=underlying508
 a28:=isAgg508
 z28:=sizeOf508
 v28:=zeroValue508
 i26:=by kernel_rfl}
def Tryz.sort_ren:Go.Shelf.Ren:=⟨fun|5=>139|8=>186|7=>185|19=>241|20=>242|10=>232|11=>233|12=>234|13=>235|14=>236|15=>237|16=>238|17=>239|18=>240|30=>268|31=>269|32=>270|33=>271|34=>272|35=>246|40=>296|n=>n,fun|23=>22|25=>3|3=>3|32=>264|22=>22|0=>0|44=>388|46=>251|4=>4|36=>382|35=>381|41=>185|5=>5|9=>9|53=>411|57=>415|63=>435|64=>436|n=>n,fun|n=>n⟩
theorem Tryz.sort:Go.Proofs.SlLaysM.n5 prog Tryz.sort_ren:={
 mixed:=by kernel_rfl
 f5:=⟨f139.name,by decide,func139.trans (congrArg some (by kernel_rfl))⟩
 f7:=⟨f185.name,by decide,func185.trans (congrArg some (by kernel_rfl))⟩
 f8:=func186.trans (congrArg some (by kernel_rfl))
 f10:=⟨f232.name,by decide,func232.trans (congrArg some (by kernel_rfl))⟩
 f11:=⟨f233.name,by decide,func233.trans (congrArg some (by kernel_rfl))⟩
 f12:=⟨f234.name,by decide,func234.trans (congrArg some (by kernel_rfl))⟩
 f13:=⟨f235.name,by decide,func235.trans (congrArg some (by kernel_rfl))⟩
 f14:=⟨f236.name,by decide,func236.trans (congrArg some (by kernel_rfl))⟩
 f15:=⟨f237.name,by decide,func237.trans (congrArg some (by kernel_rfl))⟩
 f16:=⟨f238.name,by decide,func238.trans (congrArg some (by kernel_rfl))⟩
 f17:=⟨f239.name,by decide,func239.trans (congrArg some (by kernel_rfl))⟩
 f18:=⟨f240.name,by decide,func240.trans (congrArg some (by kernel_rfl))⟩
 f19:=func241.trans (congrArg some (by kernel_rfl))
 f20:=func242.trans (congrArg some (by kernel_rfl))
 f30:=⟨f268.name,by decide,func268.trans (congrArg some (by kernel_rfl))⟩
 f31:=func269.trans (congrArg some (by kernel_rfl))
 f32:=func270.trans (congrArg some (by kernel_rfl))
 f33:=⟨f271.name,by decide,func271.trans (congrArg some (by kernel_rfl))⟩
 f34:=⟨f272.name,by decide,func272.trans (congrArg some (by kernel_rfl))⟩
 f35:=⟨f246.name,by decide,func246.trans (congrArg some (by kernel_rfl))⟩
 f40:=⟨f296.name,by decide,func296.trans (congrArg some (by kernel_rfl))⟩
 t0:=underlying0
 a0:=isAgg0
 z0:=sizeOf0
 v0:=zeroValue0
 t3:=underlying3
 a3:=isAgg3
 z3:=sizeOf3
 v3:=zeroValue3
 t4:=underlying4
 a4:=isAgg4
 z4:=sizeOf4
 v4:=zeroValue4
 t5:=underlying5
 a5:=isAgg5
 z5:=sizeOf5
 v5:=zeroValue5
 t9:=underlying9
 a9:=isAgg9
 z9:=sizeOf9
 v9:=zeroValue9
 t22:=underlying22
 a22:=isAgg22
 z22:=sizeOf22
 v22:=zeroValue22
 t23:=underlying22
 a23:=isAgg22
 z23:=sizeOf22
 v23:=zeroValue22
 t25:=underlying3
 a25:=isAgg3
 z25:=sizeOf3
 v25:=zeroValue3
 t32:=underlying264
 a32:=isAgg264
 z32:=sizeOf264
 v32:=zeroValue264
 t35:=underlying381
 a35:=isAgg381
 z35:=sizeOf381
 v35:=zeroValue381
 t36:=underlying382
 a36:=isAgg382
 z36:=sizeOf382
 v36:=zeroValue382
 t41:=underlying185
 a41:=isAgg185
 z41:=sizeOf185
 v41:=zeroValue185
 t44:=underlying388
 a44:=isAgg388
 z44:=sizeOf388
 v44:=zeroValue388
 t46:=underlying251
 a46:=isAgg251
 z46:=sizeOf251
 v46:=zeroValue251
 t53:=underlying411
 a53:=isAgg411
 z53:=sizeOf411
 v53:=zeroValue411
 t57:=underlying415
 a57:=isAgg415
 z57:=sizeOf415
 v57:=zeroValue415
 t63:=underlying435
 a63:=isAgg435
 z63:=sizeOf435
 v63:=zeroValue435
 t64:=underlying436
 a64:=isAgg436
 z64:=sizeOf436
 v64:=zeroValue436}
end
section
open Go.Shelf
section
variable{α:Type}{f:α->aL}{w w':aF}{R:aJ}{b:Nat}{m:List (Int×α)}
theorem Own.of_below{l:aJ}(o:Own w l)(h:Below w.heap.size w w'):Own w' l:=by obtain⟨σ,hs,hw⟩:=o;exact⟨σ,hs,fun k x hk=>by rw[h.block k (Ns.1 (hw k x hk)).1];exact hw k x hk⟩
theorem yK{l:aJ}(o:Own w l)(h:Below w.heap.size w w'){e:TypeId}{size n:Nat}{v:aL}{xs:dw}(hr:w'.ownsRow w.heap.size e size v n xs):
  ∃a cap,v=.slice a n cap/\Own w' (SP.slc e size a n cap xs::l):=by
 have o':=o.of_below h;obtain⟨hx,hr⟩:=hr;rcases hr with⟨rfl,rfl⟩|⟨g,cap,cur,rfl,hg,hb,h1,h2,h3,h4⟩
 ·have hxs:xs=[]:=CO (by simpa using hx);subst hxs;exact⟨none,0,rfl,o'.bH⟩
 ·refine⟨some ⟨g,0,none⟩,cap,rfl,Own.slc.2 (.inr ⟨g,cur.toList.drop (n*size),rfl,h1,h2,hx,?_,?_⟩)⟩
  ·rw[List.length_drop,Array.length_toList,h3,<-Nat.sub_mul]
  ·have e1:xs++cur.toList.drop (n*size)=cur.toList:=by rw[<-h4];exact List.take_append_drop _ _
   rw[e1];obtain⟨σ,hs,hw⟩:=o;refine⟨_,⟨_,σ,rfl,hs,fun k=>?_,rfl⟩,fun k x hk=>?_⟩
   ·by_cases hk:k=g
    ·subst hk;refine .inr ?_;cases hσ:σ k with
     |none=>rfl
     |some y=>exact absurd (Ns.1 (hw k y hσ)).1 (by omega)
    ·exact .inl (if_neg hk)
   ·by_cases hk':k=g
    ·subst hk';have hx2:x=.cells cur e (0,0):=by simpa[Hp.Bj]using hk.symm
     rw[hb,hx2]
    ·have hk2:σ k=some x:=by simpa[Hp.Bj,hk']using hk
     rw[h.block k (Ns.1 (hw k x hk2)).1];exact hw k x hk2
def Ox(_:aL):Option (DataW Unit×List MemPlace):=some (.nil,[])
theorem ae5{k:Int}(h:-9223372036854775808<=k/\k<=9223372036854775807):(Lit.int .i64 k).wf=true:=by simp only[Lit.wf,Bt,xM];rw[show IntKind.i64.min=-9223372036854775808 from by decide,show IntKind.i64.max=9223372036854775807 from by decide];exact h
theorem vT(hk:uT m)(hn:m.length<=1000000)(o:Own w (bB f b m::R)):
  ∃D0:DataW Unit,w.ownsMap prog 3 Ox b m.length D0/\(intKeys D0).Perm (m.map (·.1))/\Maps.size D0=m.length:=by
 obtain⟨es,clock,h1,h2,h3,o1⟩:=Own.bB.1 o;have hl:es.toList.length=m.length:=by have:=congrArg List.length h1;simpa using this
 have hkeys:es.toList.map (·.key)=m.map (fun x=>Value.int .i64 x.1):=by have:=congrArg (List.map Prod.fst) h1;simpa[List.map_map,Function.comp_def]using this
 have hrd:∀x∈es.toList,∃k:Int,x.key=↑k/\WideElems.rd (H:=Unit) prog 3 Ox x=some (.int .i64 k,.nil):=by
  intro x hx;have h4:x.key∈m.map (fun x=>Value.int .i64 x.1):=by rw[<-hkeys];exact gW.2 ⟨x,hx,rfl⟩
  obtain⟨y,hy,hyk⟩:=gW.1 h4;refine⟨y.1,hyk.symm,?_⟩;unfold WideElems.rd;rw[<-hyk,Maps.keyOf_int_mk underlying3 (ae5 (hk.2 y hy))];rfl
 have hrg:∀l:List MapEntry,(∀x∈l,∃k:Int,x.key=↑k/\WideElems.rd (H:=Unit) prog 3 Ox x=some (.int .i64 k,.nil))->
   (l.map (WideElems.rg (H:=Unit) prog 3 Ox)).map (fun p=>encZ (Go.intOf p.1))=l.map (·.key):=by
  intro l;induction l with
  |nil=>intro _;rfl
  |cons x l ih=>intro h;obtain⟨k,h5,h6⟩:=h x (by simp);simp only[iD,ih (fun y hy=>h y (by simp[hy])),List.cons.injEq,and_true];unfold WideElems.rg;rw[h6,h5];rfl
 have hinj:∀(l l':bq),l.map encZ=l'.map encZ->l=l':=by
  intro l;induction l with
  |nil=>intro l' h;cases l'<;>simp_all
  |cons x l ih=>intro l' h;cases l' with
   |nil=>simp at h
   |cons y l'=>simp at h;rw[h.1,ih l' (by simpa using h.2)]
 refine⟨.map ((es.toList.map (WideElems.rg prog 3 Ox)).foldr DataW.insert []),⟨es,clock,o1.blk,⟨?_,?_,?_⟩,?_,rfl⟩,?_,?_⟩
 ·rw[<-Array.length_toList,hl];unfold maxLen;omega
 ·refine⟨h3,?_,?_⟩
  ·rw[List.Nodup,List.pairwise_map];exact h2.imp (fun h=>Nat.ne_of_lt h)
  ·rw[hkeys,List.Nodup,List.pairwise_map];have:=hk.1;unfold bL at this;rw[List.Nodup,List.pairwise_map]at this;exact this.imp (fun h e=>h (by simpa using e))
 ·intro x hx;obtain⟨k,_,h⟩:=hrd x hx;exact⟨_,h⟩
 ·rw[<-Array.length_toList,hl];exact Nat.le_refl _
 ·have hp:=(WideShapes.sorted_perm (es.toList.map (WideElems.rg (H:=Unit) prog 3 Ox))).map (fun p=>Go.intOf p.1);have e1:(es.toList.map (WideElems.rg (H:=Unit) prog 3 Ox)).map (fun p=>Go.intOf p.1)=m.map (·.1):=by apply hinj;have:=hrg es.toList hrd;rw[hkeys]at this;simpa[List.map_map,Function.comp_def,encZ]using this
  rw[e1]at hp;exact hp
 ·have:=(WideShapes.sorted_perm (es.toList.map (WideElems.rg (H:=Unit) prog 3 Ox))).length_eq;rw[iP,hl]at this;exact this
theorem Tryz.sortsIn(k:Nat):AnyZI.SortsIn prog Tryz.sorted_ren Fence.wide k:=
 ⟨fun blk off cap ss W hH hblk hsz=>callsIn_wide.2 (AnyM.slices_Sort_int Tryz.sort blk off cap ss W hH hblk hsz),
  fun p cap W=>callsIn_wide.2 (AnyM.slices_Sort_int_none Tryz.sort p cap W)⟩
theorem qw{l l':bq}(h:l.Perm l'):l.mergeSort (fun x y=>decide (x<=y))=l'.mergeSort leI:=mergeSort_of_perm_i h
end
end
section
open Go.Shelf
section
variable{α:Type}{f:α->aL}{w w':aF}{R:aJ}{b:Nat}{m:List (Int×α)}
theorem LB(mb:Option Nat)(w:aF):Calls prog 387 #[.map mb] w fun e w'=>e=.returned (.func (.func 396) #[] #[w.heap.size])/\w'=w.alloc (.cells #[.map mb] 215):=
 callsIn_wide.1 (AnyZI.keys_in Tryz.keys387 Fence.wide 5 trivial rfl mb w)
theorem FH(kb:Nat)(hk:uT m)(hn:m.length<=1000000)(o:Own w (aH kb 215 [.map (some b)]::bB f b m::R)):
  Calls prog 384 #[.func (.func 396) #[] #[kb]] w fun e w'=>∃a cap,e=.returned (.slice a m.length cap)/\Own w' (slc 3 1 a m.length cap ((lU m).map (Value.int .i64))::bB f b m::R)/\Calm w w':=by
 obtain⟨D0,hown,hperm,hsize⟩:=vT hk hn o.drop;have hlt:=o.aS;have hseq:SeqGives Fence.wide 2 prog 396 #[kb] encZ (fun ss=>ss.Perm (intKeys D0)) (Maps.size D0) w:=
  AnyZI.keys_gives (ρ:=Tryz.keys387_ren) {Tryz.keys387 with} Fence.wide _ trivial rfl (by omega) kb b m.length D0 _ hlt (o.cell 0) hown
 have cS:=AnyZI.sorted_in Tryz.sorted Fence.wide 5 trivial trivial trivial trivial rfl (by omega) (Tryz.sortsIn _) (enters_of func139 (by kernel_rfl) rfl) 396 #[kb] trivial (enters_of func396 (by kernel_rfl) rfl) _ _
  (by rw[hsize];unfold maxLen;omega) (by rw[hsize];omega) _ hseq
 refine(callsIn_wide.1 cS).mono ?_;rintro e w'⟨v,ss,rfl,hS,hrow,_,hb⟩;have hsp:=hS.trans hperm;have hlen:ss.length=m.length:=by rw[hsp.length_eq,iP]
 rw[hlen,qw hsp]at hrow;obtain⟨a,cap,rfl,o2⟩:=yK o.drop hb hrow;exact⟨a,cap,rfl,o2,⟨hb.os,hb.tape,hb.output⟩⟩
theorem LC(mb:Option Nat)(w:aF):Calls prog 398 #[.map mb] w fun e w'=>e=.returned (.func (.func 405) #[] #[w.heap.size])/\w'=w.alloc (.cells #[.map mb] 222):=
 callsIn_wide.1 (AnyZI.keys_in Tryz.keys398 Fence.wide 5 trivial rfl mb w)
theorem FI(kb:Nat)(hk:uT m)(hn:m.length<=1000000)(o:Own w (aH kb 222 [.map (some b)]::bB f b m::R)):
  Calls prog 384 #[.func (.func 405) #[] #[kb]] w fun e w'=>∃a cap,e=.returned (.slice a m.length cap)/\Own w' (slc 3 1 a m.length cap ((lU m).map (Value.int .i64))::bB f b m::R)/\Calm w w':=by
 obtain⟨D0,hown,hperm,hsize⟩:=vT hk hn o.drop;have hlt:=o.aS;have hseq:SeqGives Fence.wide 2 prog 405 #[kb] encZ (fun ss=>ss.Perm (intKeys D0)) (Maps.size D0) w:=
  AnyZI.keys_gives (ρ:=Tryz.keys398_ren) {Tryz.keys398 with} Fence.wide _ trivial rfl (by omega) kb b m.length D0 _ hlt (o.cell 0) hown
 have cS:=AnyZI.sorted_in Tryz.sorted Fence.wide 5 trivial trivial trivial trivial rfl (by omega) (Tryz.sortsIn _) (enters_of func139 (by kernel_rfl) rfl) 405 #[kb] trivial (enters_of func405 (by kernel_rfl) rfl) _ _
  (by rw[hsize];unfold maxLen;omega) (by rw[hsize];omega) _ hseq
 refine(callsIn_wide.1 cS).mono ?_;rintro e w'⟨v,ss,rfl,hS,hrow,_,hb⟩;have hsp:=hS.trans hperm;have hlen:ss.length=m.length:=by rw[hsp.length_eq,iP]
 rw[hlen,qw hsp]at hrow;obtain⟨a,cap,rfl,o2⟩:=yK o.drop hb hrow;exact⟨a,cap,rfl,o2,⟨hb.os,hb.tape,hb.output⟩⟩
end
end
structure St where
 L:List Tg
 old:Int->Int
 tm:Int
 aw:Int
def rR(L:List Tg):List Tg->Nat->Nat->Nat
 |[],_,best=>best
 |t::l,i,best=>rR L l (i+1) (if t.s<(L.getD best ⟨0,0,0⟩).s then i else best)
def qx(L:List Tg):Nat:=rR L L 0 0
def lu(L:List Tg):Tg:=L.getD (qx L) ⟨0,0,0⟩
theorem tX(L:List Tg):∀(l:List Tg)(i best:Nat),l=L.drop i->best<L.length->(∀j,j<i->(L.getD best ⟨0,0,0⟩).s<=(L.getD j ⟨0,0,0⟩).s)->
  rR L l i best<L.length/\∀j,j<L.length->(L.getD (rR L l i best) ⟨0,0,0⟩).s<=(L.getD j ⟨0,0,0⟩).s
 |[],i,best,h,hb,hm=>by
  have:L.length<=i:=by have:=congrArg List.length h;rw[List.length_drop]at this;simp at this;omega
  exact⟨hb,fun j hj=>hm j (by omega)⟩
 |t::l,i,best,h,hb,hm=>by
  have hi:i<L.length:=by have:=congrArg List.length h;rw[List.length_drop]at this;simp at this;omega
  have hL:L.getD i ⟨0,0,0⟩=t/\l=L.drop (i+1):=by rw[List.drop_eq_getElem_cons hi]at h;rw[Eb,cZ hi];simp only[List.cons.injEq]at h;exact⟨h.1.symm,h.2⟩
  unfold rR;refine tX L l (i+1) _ hL.2 (by split<;>omega) fun j hj=>?_;split
  ·rename_i hc;rw[hL.1];by_cases hji:j<i
   ·have:=hm j hji;omega
   ·have:j=i:=by omega
    subst this;rw[hL.1];exact Int.le_refl _
  ·rename_i hc;by_cases hji:j<i
   ·exact hm j hji
   ·have:j=i:=by omega
    subst this;rw[hL.1];omega
theorem BK{L:List Tg}(h:L≠[]):qx L<L.length:=
 (tX L L 0 0 rfl (List.length_pos_iff.2 h) (fun j hj=>by omega)).1
theorem nJ{L:List Tg}(h:L≠[]):lu L∈L:=by unfold lu;rw[Eb,cZ (BK h)];exact List.getElem_mem _
theorem Um{L:List Tg}{t:Tg}(h:t∈L):(lu L).s<=t.s:=by have hne:L≠[]:=List.ne_nil_of_mem h;obtain⟨j,hj⟩:=List.getElem?_of_mem h;have:=(tX L L 0 0 rfl (List.length_pos_iff.2 hne) (fun j hj=>by omega)).2 j (eU.1 hj).1;rw[Eb (i:=j),hj]at this;exact this
section
open Go.Shelf
section
variable{α:Type}{f:α->aL}{w w':aF}{R:aJ}{b:Nat}{m:List (Int×α)}
theorem LF(mb:Option Nat)(w:aF):Calls prog 385 #[.map mb] w fun e w'=>e=.returned (.func (.func 395) #[] #[w.heap.size])/\w'=w.alloc (.cells #[.map mb] 219):=
 callsIn_wide.1 (AnyZI.keys_in Tryz.keys385 Fence.wide 5 trivial rfl mb w)
theorem FK(kb:Nat)(hk:uT m)(hn:m.length<=1000000)(o:Own w (aH kb 219 [.map (some b)]::bB f b m::R)):
  Calls prog 384 #[.func (.func 395) #[] #[kb]] w fun e w'=>∃a cap,e=.returned (.slice a m.length cap)/\Own w' (slc 3 1 a m.length cap ((lU m).map (Value.int .i64))::bB f b m::R)/\Calm w w':=by
 obtain⟨D0,hown,hperm,hsize⟩:=vT hk hn o.drop;have hlt:=o.aS;have hseq:SeqGives Fence.wide 2 prog 395 #[kb] encZ (fun ss=>ss.Perm (intKeys D0)) (Maps.size D0) w:=
  AnyZI.keys_gives (ρ:=Tryz.keys385_ren) {Tryz.keys385 with} Fence.wide _ trivial rfl (by omega) kb b m.length D0 _ hlt (o.cell 0) hown
 have cS:=AnyZI.sorted_in Tryz.sorted Fence.wide 5 trivial trivial trivial trivial rfl (by omega) (Tryz.sortsIn _) (enters_of func139 (by kernel_rfl) rfl) 395 #[kb] trivial (enters_of func395 (by kernel_rfl) rfl) _ _
  (by rw[hsize];unfold maxLen;omega) (by rw[hsize];omega) _ hseq
 refine(callsIn_wide.1 cS).mono ?_;rintro e w'⟨v,ss,rfl,hS,hrow,_,hb⟩;have hsp:=hS.trans hperm;have hlen:ss.length=m.length:=by rw[hsp.length_eq,iP]
 rw[hlen,qw hsp]at hrow;obtain⟨a,cap,rfl,o2⟩:=yK o.drop hb hrow;exact⟨a,cap,rfl,o2,⟨hb.os,hb.tape,hb.output⟩⟩
end
end
section
variable{w w':aF}{R:aJ}{b:Nat}{T:TypeId}
theorem Own.xY:∀(vs pre old:dw)(w:aF),old.length=vs.length->Own w (aH b T (pre++old)::R)->Own (w.setCells b pre.length vs) (aH b T (pre++vs)::R)
 |[],pre,old,w,h,o=>by have:old=[]:=CO (by simpa using h);subst this;exact o
 |v::r,pre,[],w,h,o=>by simp at h
 |v::r,pre,x::y,w,h,o=>by have o1:=o.setCell pre.length v;rw[List.set_append_right _ _ (Nat.le_refl _),Nat.sub_self,List.set_cons_zero]at o1;have:=Own.xY r (pre++[v]) y _ (by simpa using h) (by simpa using o1);rw[World.setCells];simpa using this
theorem Own.setCells{old vs:dw}(o:Own w (aH b T old::R))(h:old.length=vs.length):Own (w.setCells b 0 vs) (aH b T vs::R):=
 Own.xY vs [] old w h o
theorem Own.uA:∀(vs pre old post:dw)(w:aF),old.length=vs.length->Own w (aH b T (pre++old++post)::R)->Own (w.setCells b pre.length vs) (aH b T (pre++vs++post)::R)
 |[],pre,old,post,w,h,o=>by have:old=[]:=CO (by simpa using h);subst this;exact o
 |v::r,pre,[],post,w,h,o=>by simp at h
 |v::r,pre,x::y,post,w,h,o=>by have o1:=o.setCell pre.length v;rw[List.append_assoc,List.set_append_right _ _ (Nat.le_refl _),Nat.sub_self,List.cons_append,List.set_cons_zero]at o1;have:=Own.uA r (pre++[v]) y post _ (by simpa using h) (by simpa using o1);rw[World.setCells];simpa using this
theorem Own.there{old:dw}(o:Own w (aH b T old::R)){n:Nat}(h:n=old.length):w.there b 0 n:=fun j hj=>by subst h;refine⟨?_,o.frozen _⟩;rw[Nat.zero_add,o.cell j (cZ hj)];rfl
theorem Own.rangeAt{vs:dw}(o:Own w (aH b T vs::R)):w.rangeAt b 0 vs:=fun j v hv=>by rw[Nat.zero_add,o.cell j hv]
theorem Calm.setCells(b:Nat):∀(vs:dw)(o:Nat)(w:aF),Calm w (w.setCells b o vs)
 |[],_,w=>Calm.refl w
 |v::r,o,w=>by rw[World.setCells];exact(⟨rfl,rfl,rfl⟩:Calm w (w.setCell ⟨b,o,none⟩ v)).trans (Calm.setCells b r (o+1) _)
end
end Go.Proofs.YtfejhikpfhgbeaaGreatDoor
