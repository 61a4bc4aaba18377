import Derived.Shelf.Strings.MapGrows
import Derived.WalkSmall
import Derived.Sort.Grow
import Derived.Test.YtfejhikpfhgbeaaGreatDoorMachineIdleA
set_option maxHeartbeats 25600000
set_option maxRecDepth 100000
set_option linter.all false
namespace Go.Proofs.YtfejhikpfhgbeaaGreatDoor
open Go.Proofs.Tryz
open Go.RowKit
open SP
section
open Go.Shelf
def Tryz.laysMap_ren:Go.Shelf.Ren:=⟨fun|230=>172|197=>208|118=>209|165=>210|166=>211|168=>212|270=>213|167=>214|169=>215|260=>252|240=>253|241=>254|242=>255|276=>282|277=>283|278=>284|n=>n,fun|107=>321|9=>9|72=>361|0=>0|4=>4|3=>3|21=>21|105=>362|76=>327|5=>5|75=>326|70=>359|20=>20|37=>131|127=>400|119=>422|46=>264|139=>425|138=>424|164=>426|51=>388|80=>85|n=>n,fun|3=>2|4=>3|n=>n⟩
theorem Tryz.laysMap:Go.Proofs.Lays.n230 prog Tryz.laysMap_ren:={
 mixed:=by kernel_rfl
 f118:=func209.trans (congrArg some (by kernel_rfl))
 f165:=func210.trans (congrArg some (by kernel_rfl))
 f166:=func211.trans (congrArg some (by kernel_rfl))
 f167:=func214.trans (congrArg some (by kernel_rfl))
 f168:=func212.trans (congrArg some (by kernel_rfl))
 f169:=func215.trans (congrArg some (by kernel_rfl))
 f197:=func208.trans (congrArg some (by kernel_rfl))
 f230:=func172.trans (congrArg some (by kernel_rfl))
 f240:=func253.trans (congrArg some (by kernel_rfl))
 f241:=func254.trans (congrArg some (by kernel_rfl))
 f242:=func255.trans (congrArg some (by kernel_rfl))
 f260:=func252.trans (congrArg some (by kernel_rfl))
 f270:=func213.trans (congrArg some (by kernel_rfl))
 f276:=func282.trans (congrArg some (by kernel_rfl))
 f277:=func283.trans (congrArg some (by kernel_rfl))
 f278:=func284.trans (congrArg some (by kernel_rfl))
 t0:=underlying0
 a0:=isAgg0
 z0:=sizeOf0
 v0:=zeroValue0
 t3:=underlying3
 a3:=isAgg3
 z3:=sizeOf3
 v3:=zeroValue3
 t4:=underlying4
 a4:=isAgg4
 z4:=sizeOf4
 v4:=zeroValue4
 t5:=underlying5
 a5:=isAgg5
 z5:=sizeOf5
 v5:=zeroValue5
 t9:=underlying9
 a9:=isAgg9
 z9:=sizeOf9
 v9:=zeroValue9
 t20:=underlying20
 a20:=isAgg20
 z20:=sizeOf20
 v20:=zeroValue20
 t21:=underlying21
 a21:=isAgg21
 z21:=sizeOf21
 v21:=zeroValue21
 t37:=underlying131
 a37:=isAgg131
 z37:=sizeOf131
 v37:=zeroValue131
 t46:=underlying264
 a46:=isAgg264
 z46:=sizeOf264
 v46:=zeroValue264
 t51:=underlying388
 a51:=isAgg388
 z51:=sizeOf388
 v51:=zeroValue388
 t70:=underlying359
 a70:=isAgg359
 z70:=sizeOf359
 v70:=zeroValue359
 t72:=underlying361
 a72:=isAgg361
 z72:=sizeOf361
 v72:=zeroValue361
 t75:=underlying326
 a75:=isAgg326
 z75:=sizeOf326
 v75:=zeroValue326
 t76:=underlying327
 a76:=isAgg327
 z76:=sizeOf327
 v76:=zeroValue327
 t105:=underlying362
 a105:=isAgg362
 z105:=sizeOf362
 v105:=zeroValue362
 t107:=underlying321
 a107:=isAgg321
 z107:=sizeOf321
 v107:=zeroValue321
 t119:=underlying422
 a119:=isAgg422
 z119:=sizeOf422
 t127:=underlying400
 a127:=isAgg400
 z127:=sizeOf400
 v127:=zeroValue400
 t138:=underlying424
 a138:=isAgg424
 z138:=sizeOf424
 v138:=zeroValue424
 t139:=underlying425
 a139:=isAgg425
 z139:=sizeOf425
 v139:=zeroValue425
 t164:=underlying426
 a164:=isAgg426
 z164:=sizeOf426
 v164:=zeroValue426
 g3:=by kernel_rfl
 g4:=by kernel_rfl}
end
section
variable{W w w':aF}{R l:aJ}
theorem Own.sS(o:Own w l)(h:Below w.heap.size w w'):Own w' l:=by obtain⟨σ,hs,hw⟩:=o;exact⟨σ,hs,fun k x hk=>by rw[h.block k (Ns.1 (hw k x hk)).1];exact hw k x hk⟩
theorem Calm.AA{n:Nat}(h:Below n w w'):Calm w w':=⟨h.os,h.tape,h.output⟩
end
theorem Zd(a b:ByteArray):(a==b)=decide (a=b):=by
 cases a with|mk x=>cases b with|mk y=>
 rw[Bool.eq_iff_iff,xM];show((x==y)=true)↔_;rw[beq_iff_eq];constructor
 ·intro h;rw[h]
 ·intro h;injection h
theorem UG(a:ByteArray):(a==a)=true:=by rw[Zd,bz rfl]
section
variable{α:Type}
def qV:List (ByteArray×α)->ByteArray->Option α
 |[],_=>none
 |(k',v)::m,k=>if k=k' then some v else qV m k
def I8:List (ByteArray×α)->ByteArray->α->List (ByteArray×α)
 |[],k,v=>[(k,v)]
 |(k',v')::m,k,v=>if k=k' then(k,v)::m else(k',v')::I8 m k v
def yU:List (ByteArray×α)->ByteArray->Option Nat
 |[],_=>none
 |(k',_)::m,k=>if k=k' then some 0 else(yU m k).map (·+1)
def SP.Kb(f:α->aL)(b:Nat)(m:List (ByteArray×α)):SP:=ex fun(p:Array MapEntry×Nat)=>st [pu (p.1.toList.map (fun e=>(e.key,e.val))=m.map (fun x=>(Value.string x.1,f x.2))/\p.1.toList.Pairwise (fun x y=>x.born<y.born)/\∀e∈p.1.toList,e.born<p.2),blk b (.map p.1 p.2)]
variable{w:aF}{l:aJ}{P:Program}{t kt et:TypeId}{f:α->aL}{b:Nat}{m:List (ByteArray×α)}
theorem Own.Kb:Own w (SP.Kb f b m::l)↔∃es clock,es.toList.map (fun e:MapEntry=>(e.key,e.val))=m.map (fun x=>(Value.string x.1,f x.2))/\
  es.toList.Pairwise (fun x y=>x.born<y.born)/\(∀e∈es.toList,e.born<clock)/\Own w (SP.blk b (.map es clock)::l):=by
 constructor
 ·intro o;obtain⟨⟨es,clock⟩,o⟩:=Own.ex.1 o;obtain⟨⟨h1,h2,h3⟩,o⟩:=Own.pu.1 (Own.st.1 o);exact⟨es,clock,h1,h2,h3,o⟩
 ·rintro⟨es,clock,h1,h2,h3,o⟩;exact Own.ex.2 ⟨(es,clock),Own.st.2 (Own.pu.2 ⟨⟨h1,h2,h3⟩,o⟩)⟩
theorem DC(k:ByteArray):∀(es:List MapEntry)(m:List (ByteArray×α))(n:Nat),es.map (fun e=>(e.key,e.val))=m.map (fun x=>(Value.string x.1,f x.2))->
  Instr.findNow .string (.string k) es n=some (match yU m k,qV m k with|some i,some v=>some (n+i,f v)|_,_=>none)
 |[],[],n,_=>rfl
 |[],_::_,_,h=>by simp at h
 |_::_,[],_,h=>by simp at h
 |e::es,(k',v)::m,n,h=>by
  simp only[iD,List.cons.injEq,Prod.mk.injEq]at h;obtain⟨⟨h1,h2⟩,h3⟩:=h;unfold Instr.findNow;rw[h1];by_cases hk:k=k'
  ·subst hk;simp[Instr.sameNow,yU,qV,h2,UG]
  ·have hb:(k==k')=false:=by rw[Zd];exact bW hk
   have ih:=DC k es m (n+1) h3;simp only[Instr.sameNow,if_true,hb,yU,qV,if_neg hk];rw[ih];cases yU m k<;>cases qV m k<;>simp[Nat.add_assoc,Nat.add_comm 1]
theorem Kc(m:List (ByteArray×α))(k:ByteArray):(yU m k).isSome=(qV m k).isSome:=by
 induction m with
 |nil=>rfl
 |cons x m ih=>
  obtain⟨k',v⟩:=x;unfold yU qV;split
  ·rfl
  ·simpa using ih
theorem nk{P:Program}{kt:TypeId}(hk:P.underlying kt=some .string)(em:Bool)(n:Nat)(k:ByteArray)(w:aF):(Instr.checkKey em (n+1) kt (.string k)).run P w=.ok () w:=by simp[Instr.checkKey,run_underlying hk]
theorem uX{P:Program}{kt:TypeId}(hk:P.underlying kt=some .string){es:List MapEntry}(h:es.map (fun e=>(e.key,e.val))=m.map (fun x=>(Value.string x.1,f x.2)))(k:ByteArray)(w:aF):
  (Instr.findKey kt (.string k) es).run P w=.ok (match yU m k,qV m k with|some i,some v=>some (i,f v)|_,_=>none) w:=by
 have:=DC (f:=f) k es m 0 h;simp only[Nat.zero_add]at this;simp[Instr.findKey,run_underlying hk,this]
theorem Gq(ht:P.underlying t=some (.map kt et))(hk:P.underlying kt=some .string){z:aL}(hz:∀w,(zeroValue et).run P w=.ok z w)
  (o:Own w (SP.Kb f b m::l))(k:ByteArray)(ok:Bool):
  (Instr.lookup t (.map (some b)) (.string k) ok).run P w=.ok (if ok then .tuple #[((qV m k).map f).getD z,.bool (qV m k).isSome]else((qV m k).map f).getD z) w:=by
 obtain⟨es,clock,h1,_,_,o⟩:=Own.Kb.1 o;have hb:=o.blk;have hm:=Kc m k;have hf:=uX (P:=P) hk h1 k w;cases uS:yU m k<;>cases E9:qV m k<;>simp[uS,E9]at hm hf<;>
  cases ok<;>simp[Instr.lookup,run_underlying ht,getObj,Sem.run,hb,nk hk,hf,hz w]
theorem Gr(k:ByteArray)(v:α):∀(es:List MapEntry)(m:List (ByteArray×α))(i:Nat),es.map (fun e=>(e.key,e.val))=m.map (fun x=>(Value.string x.1,f x.2))->yU m k=some i->
  (es.modify i fun e=>{e with key:=.string k,val:=f v}).map (fun e=>(e.key,e.val))=(I8 m k v).map (fun x=>(Value.string x.1,f x.2))/\(∃e,es[i]?=some e/\e.key=.string k)
 |[],[],i,_,hi=>by simp[yU]at hi
 |[],_::_,_,h,_=>by simp at h
 |_::_,[],_,h,_=>by simp at h
 |e::es,(k',v')::m,i,h,hi=>by
  simp only[iD,List.cons.injEq,Prod.mk.injEq]at h;obtain⟨⟨h1,h2⟩,h3⟩:=h;unfold yU at hi;by_cases hk:k=k'
  ·subst hk;simp at hi;subst hi;simp[I8,h3,h1]
  ·simp only[if_neg hk,Option.map_eq_some_iff]at hi;obtain⟨j,hj,rfl⟩:=hi;obtain⟨h4,h5⟩:=Gr k v es m j h3 hj;simp only[I8,if_neg hk];refine⟨?_,by simpa using h5⟩;simp[h1,h2,h4]
theorem Pp(k:ByteArray)(v:α):∀(m:List (ByteArray×α)),yU m k=none->I8 m k v=m++[(k,v)]
 |[],_=>rfl
 |(k',v')::m,h=>by
  unfold yU at h;by_cases hk:k=k'
  ·simp[hk]at h
  ·simp only[if_neg hk,Option.map_eq_none_iff]at h;simp[I8,if_neg hk,Pp k v m h]
theorem AJ(ht:P.underlying t=some (.map kt et))(hk:P.underlying kt=some .string)(o:Own w (SP.Kb f b m::l))(k:ByteArray)(v:α):
  ∃w',(Instr.mapUpdate t (.map (some b)) (.string k) (f v)).run P w=.ok () w'/\Own w' (SP.Kb f b (I8 m k v)::l)/\Calm w w':=by
 obtain⟨es,clock,h1,h2,h3,o⟩:=Own.Kb.1 o;have hb:=o.blk;have hm:=Kc m k;have hf:=uX (P:=P) hk h1 k w;cases uS:yU m k with
 |none=>
  have E9:qV m k=none:=by rw[uS]at hm;simpa using hm.symm
  simp[uS]at hf;refine⟨_,?_,Own.Kb.2 ⟨es.push {key:=.string k,val:=f v,born:=clock},clock+1,?_,?_,?_,o.lq _⟩,⟨rfl,rfl,rfl⟩⟩
  ·simp[Instr.mapUpdate,run_underlying ht,getObj,setObj,Sem.run,hb,nk hk,hf]
  ·rw[Pp k v m uS];simp[h1]
  ·simp only[Array.toList_push,List.pairwise_append];exact⟨h2,by simp,fun a ha c hc=>by simp at hc;subst hc;exact h3 a ha⟩
  ·intro e he;simp at he;rcases he with he|rfl
   ·have:=h3 e (by simpa using he);omega
   ·simp
 |some i=>
  obtain⟨x,E9⟩:∃x,qV m k=some x:=by rw[uS]at hm;exact Option.isSome_iff_exists.1 (by simpa using hm.symm)
  obtain⟨h4,e0,h5,h6⟩:=Gr (f:=f) k v es.toList m i h1 uS;have h5':es[i]?=some e0:=by simpa using h5
  simp[uS,E9]at hf;refine⟨_,?_,Own.Kb.2 ⟨es.modify i fun e=>{e with key:=.string k,val:=f v},clock,?_,?_,?_,o.lq _⟩,⟨rfl,rfl,rfl⟩⟩
  ·simp[Instr.mapUpdate,run_underlying ht,getObj,setObj,Sem.run,hb,nk hk,hf,h5',h6,Instr.keyThatStays,Instr.sameBits,UG]
  ·rw[Array.toList_modify];exact h4
  ·rw[Array.toList_modify];exact kJ (fun e=>{e with key:=.string k,val:=f v}) (fun _=>rfl) i h2
  ·rw[Array.toList_modify];exact kL (fun e=>{e with key:=.string k,val:=f v}) (fun _=>rfl) i h3
theorem Own.Ze(o:Own w l):Own (w.alloc (.map #[] 0)) (SP.Kb f w.heap.size ([]:List (ByteArray×α))::l):=
 Own.Kb.2 ⟨#[],0,rfl,by simp,by simp,o.alloc _⟩
theorem wE{ops:Array Oper}{rest:List Oper}{op:Oper}{A:Act}{Q:Exit->Act->aF->Prop}(hgd:op.guard=none)(x y v:Operand)(hop:op.op=Op.mapUpdate t x y v)
  (ht:P.underlying t=some (.map kt et))(hk:P.underlying kt=some .string)(o:Own w (SP.Kb f b m::l))(k:ByteArray)(u:α)
  (hx:A.eval x=.map (some b))(hy:A.eval y=.string k)(hv:A.eval v=f u)
  (h:∀w',Own w' (SP.Kb f b (I8 m k u)::l)->Calm w w'->wpList P ops Q rest (A.put op.dst undef) w'):wpList P ops Q (op::rest) A w:=by
 refine wpList_plain hgd fun K hK=>?_;obtain⟨w',hr,h2,h3⟩:=AJ ht hk o k u;unfold Oper.wp;simp[execOp,hop,hx,hy,hv,hr,Result.andThen];exact hK _ _ (h w' h2 h3)
end
end Go.Proofs.YtfejhikpfhgbeaaGreatDoor
