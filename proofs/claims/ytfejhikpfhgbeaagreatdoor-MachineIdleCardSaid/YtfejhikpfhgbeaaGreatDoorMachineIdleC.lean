import Derived.Maps.RangeRun
import Derived.Maps.RangeWalk
import Derived.Maps.OwnSet
import Derived.Deep.RegionHeld3
import Derived.Lib.Agree
import Derived.Laws.AppendOwn
import Derived.Deep.RegionLaw
import Derived.Deep.DeepCutAuto
import Derived.Deep.CutBlock
import Derived.Laws.ResultCell
import Derived.Laws.Bits64b
import Derived.Test.YtfejhikpfhgbeaaGreatDoorMachineIdleA
set_option maxHeartbeats 25600000
set_option maxRecDepth 100000
set_option linter.all false
namespace Go.Proofs.YtfejhikpfhgbeaaGreatDoor
open Go.Proofs.Tryz
open Go.RowKit
open SP
section
variable{α:Type}{f:α->aL}{w w':aF}{R:aJ}{tb ib:Nat}{m:List (Int×α)}{S:Int->Bool}{cur:Option Int}
def SP.fZ(f:α->aL)(tb ib:Nat)(m:List (Int×α))(S:Int->Bool)(cur:Option Int):SP:=ex fun(p:Array MapEntry×Nat×Array Nat)=>
 st [pu (p.1.toList.map (fun e=>(e.key,e.val))=m.map (fun x=>(Value.int .i64 x.1,f x.2))/\p.1.toList.Pairwise (fun x y=>x.born<y.born)/\(∀e∈p.1.toList,e.born<p.2.1)/\
  (∀(i:Nat)(e:MapEntry)(x:Int×α),p.1.toList[i]?=some e->m[i]?=some x->(p.2.2.contains e.born=S x.1))/\
  (∀k,cur=some k->∃(i:Nat)(e:MapEntry)(x:Int×α),p.1.toList[i]?=some e/\m[i]?=some x/\x.1=k/\p.2.2.back?=some e.born)),
  blk tb (.map p.1 p.2.1),blk ib (.mapIter (some tb) p.2.1 p.2.2 p.2.1)]
theorem Own.fZ:Own w (SP.fZ f tb ib m S cur::R)↔∃(es:Array MapEntry)(clock:Nat)(seen:Array Nat),
  es.toList.map (fun e=>(e.key,e.val))=m.map (fun x=>(Value.int .i64 x.1,f x.2))/\es.toList.Pairwise (fun x y=>x.born<y.born)/\(∀e∈es.toList,e.born<clock)/\
  (∀(i:Nat)(e:MapEntry)(x:Int×α),es.toList[i]?=some e->m[i]?=some x->(seen.contains e.born=S x.1))/\
  (∀k,cur=some k->∃(i:Nat)(e:MapEntry)(x:Int×α),es.toList[i]?=some e/\m[i]?=some x/\x.1=k/\seen.back?=some e.born)/\
  Own w (SP.blk tb (.map es clock)::SP.blk ib (.mapIter (some tb) clock seen clock)::R):=by
 constructor
 ·intro o;obtain⟨⟨es,clock,seen⟩,o⟩:=Own.ex.1 o;obtain⟨⟨h1,h2,h3,h4,h5⟩,o⟩:=Own.pu.1 (Own.st.1 o);exact⟨es,clock,seen,h1,h2,h3,h4,h5,o⟩
 ·rintro⟨es,clock,seen,h1,h2,h3,h4,h5,o⟩;exact Own.ex.2 ⟨(es,clock,seen),Own.st.2 (Own.pu.2 ⟨⟨h1,h2,h3,h4,h5⟩,o⟩)⟩
variable{P:Program}{t kt et:TypeId}
theorem gL(ht:P.underlying t=some (.map kt et))(o:Own w (SP.bB f tb m::R)):
  ∃w',(Instr.range t (.map (some tb))).run P w=.ok (.pointer (some ⟨w.heap.size,0,none⟩)) w'/\Own w' (SP.fZ f tb w.heap.size m (fun _=>false) none::R)/\Calm w w':=by
 obtain⟨es,clock,h1,h2,h3,o⟩:=Own.bB.1 o;have hb:=o.blk;refine⟨w.alloc (.mapIter (some tb) clock #[] clock),?_,Own.fZ.2 ⟨es,clock,#[],h1,h2,h3,fun _ _ _ _ _=>by simp,(fun k h=>by cases h),(o.alloc _).swap⟩,⟨rfl,rfl,rfl⟩⟩;simp[Instr.range,run_underlying ht,getObj,newObj,Sem.run,hb]
theorem Own.lV(o:Own w (SP.fZ f tb ib m S cur::R)):Own w (SP.bB f tb m::R):=by obtain⟨es,clock,seen,h1,h2,h3,_,_,o⟩:=Own.fZ.1 o;exact Own.bB.2 ⟨es,clock,h1,h2,h3,o.swap.drop⟩
theorem JD{es:List MapEntry}{m:List (Int×α)}(h:es.map (fun e=>(e.key,e.val))=m.map (fun x=>(Value.int .i64 x.1,f x.2))){i:Nat}{e:MapEntry}(he:es[i]?=some e):
  ∃x,m[i]?=some x/\e.key=↑x.1/\e.val=f x.2:=by
 have h1:(es.map (fun e=>(e.key,e.val)))[i]?=some (e.key,e.val):=by rw[kI,he];rfl
 rw[h,kI,Option.map_eq_some_iff]at h1;obtain⟨x,hx,hxe⟩:=h1;simp only[Prod.mk.injEq]at hxe;exact⟨x,hx,hxe.1.symm,hxe.2.symm⟩
theorem Q5{es:List MapEntry}{m:List (Int×α)}(h:es.map (fun e=>(e.key,e.val))=m.map (fun x=>(Value.int .i64 x.1,f x.2))){i:Nat}{x:Int×α}(hx:m[i]?=some x):
  ∃e,es[i]?=some e/\e.key=↑x.1/\e.val=f x.2:=by
 have h1:(m.map (fun x=>(Value.int .i64 x.1,f x.2)))[i]?=some (.int .i64 x.1,f x.2):=by rw[kI,hx];rfl
 rw[<-h,kI,Option.map_eq_some_iff]at h1;obtain⟨e,he,hxe⟩:=h1;simp only[Prod.mk.injEq]at hxe;exact⟨e,he,hxe.1,hxe.2⟩
theorem born_inj{es:List MapEntry}(h:es.Pairwise (fun x y=>x.born<y.born)){i j:Nat}{x y:MapEntry}(hi:es[i]?=some x)(hj:es[j]?=some y)(hb:x.born=y.born):i=j:=by
 rw[List.pairwise_iff_getElem]at h;obtain⟨hi1,hi2⟩:=eU.1 hi;obtain⟨hj1,hj2⟩:=eU.1 hj;rcases Nat.lt_trichotomy i j with hlt|rfl|hlt
 ·have:=h i j hi1 hj1 hlt;rw[hi2,hj2]at this;omega
 ·rfl
 ·have:=h j i hj1 hi1 hlt;rw[hi2,hj2]at this;omega
theorem iM(ty:TypeId)(hu:bL m)(o:Own w (SP.fZ f tb ib m S cur::R)):
  ((∀x∈m,S x.1=true)/\(Instr.next (.pointer (some ⟨ib,0,none⟩)) false ty).run P w=.ok (.tuple #[.bool false]) w)\/
  ∃(x:Int×α)(w':aF),x∈m/\S x.1=false/\(Instr.next (.pointer (some ⟨ib,0,none⟩)) false ty).run P w=.ok (.tuple #[.bool true,x.1,f x.2]) w'/\
   Own w' (SP.fZ f tb ib m (fun k=>S k||k==x.1) (some x.1)::R)/\Calm w w':=by
 obtain⟨es,clock,seen,h1,h2,h3,h4,h5,o⟩:=Own.fZ.1 o;have hb:=o.blk;have hi:=o.swap.blk;have hmem:∀(i:Nat)(e:MapEntry),es.toList[i]?=some e->e∈es.toList:=fun i e h=>mH h;rcases run_next_at (P:=P) w ty ib tb clock clock seen es clock hi hb h3 (Nat.le_refl _)with⟨h6,h7⟩|⟨e,he,w1,h6,h7⟩
 ·left;refine⟨fun x hx=>?_,h7⟩;obtain⟨i,hix⟩:=List.getElem?_of_mem hx;obtain⟨e,he,_⟩:=Q5 h1 hix;rw[<-h4 i e x he hix];cases hc:seen.contains e.born with
  |true=>rfl
  |false=>
   have hin:e∈(leftOf es seen):=by unfold leftOf;rw[Array.mem_filter];exact⟨by simpa using hmem i e he,by rw[hc];rfl⟩
   have:=Array.size_pos_of_mem hin;omega
 ·right;obtain⟨he1,he2⟩:=mem_left he;obtain⟨i,hie⟩:=List.getElem?_of_mem he1;obtain⟨x,hx,hk,hv⟩:=JD h1 hie;refine⟨x,_,mH hx,by rw[<-h4 i e x hie hx];exact he2,by rw[hk,hv]at h7;exact h7,?_,?_⟩
  ·have o1:Own w1 (SP.blk tb (.map es clock)::SP.blk ib (.mapIter (some tb) clock seen clock)::R):=by
    rcases h6 with rfl|rfl
    ·exact o
    ·exact o.drew
   refine Own.fZ.2 ⟨es,clock,seen.push e.born,h1,h2,h3,?_,?_,?_⟩
   ·intro i' e' x' he' hx';rw[contains_push,h4 i' e' x' he' hx'];congr 1;have hiff:e'.born=e.born↔x'.1=x.1:=by
     constructor
     ·intro hb';have:=born_inj h2 he' hie hb';subst this;rw[hx]at hx';cases hx';rfl
     ·intro hxx;have h8:(m.map (·.1))[i']?=some x.1:=by rw[kI,hx'];simp[hxx]
      have h9:(m.map (·.1))[i]?=some x.1:=by rw[kI,hx];rfl
      have:=Vt hu h8 h9;subst this;rw[hie]at he';cases he';rfl
    rw[Bool.eq_iff_iff];simpa using hiff
   ·intro k hk';cases hk';exact⟨i,e,x,hie,hx,rfl,by simp⟩
   ·have o2:=o1.swap;exact(Own.lq o2 _).swap
  ·rcases h6 with rfl|rfl<;>exact⟨rfl,rfl,rfl⟩
theorem gP{k:Int}(hu:bL m)(o:Own w (SP.fZ f tb ib m S (some k)::R)){v:α}(hm:a_ m k=some v):
  (Instr.entry (.pointer (some ⟨ib,0,none⟩))).run P w=.ok (.tuple #[k,f v]) w:=by
 obtain⟨es,clock,seen,h1,h2,h3,h4,h5,o⟩:=Own.fZ.1 o;obtain⟨i,e,x,he,hx,rfl,hback⟩:=h5 k rfl;obtain⟨s',hs⟩:∃s':Array Nat,seen=s'.push e.born:=Array.back?_eq_some_iff.1 hback;subst hs;obtain⟨x',hx',hk,hv⟩:=JD h1 he;rw[hx]at hx';cases hx';have hn:(es.toList.map (·.born)).Nodup:=by rw[List.Nodup,List.pairwise_map];exact h2.imp (fun h=>Nat.ne_of_lt h)
 have hr:=run_entry_at (P:=P) w ib tb clock s' es clock e o.swap.blk o.blk (mH he) hn;rw[hk,hv]at hr;have hvx:a_ m x.1=some x.2:=Li hu hx;rw[hvx]at hm;cases hm;exact hr
theorem Fg(ht:P.underlying t=some (.map kt et))(hk:P.underlying kt=some (.int .i64))(_:bL m)(o:Own w (SP.fZ f tb ib m S cur::R))(k:Int)(v:α)(hin:(a_ m k).isSome=true):
  ∃w',(Instr.mapUpdate t (.map (some tb)) (.int .i64 k) (f v)).run P w=.ok () w'/\Own w' (SP.fZ f tb ib (bA m k v) S cur::R)/\Calm w w':=by
 obtain⟨es,clock,seen,h1,h2,h3,h4,h5,o⟩:=Own.fZ.1 o;have hb:=o.blk;have hm:=iZ m k;have hf:=fG (P:=P) hk h1 k w;obtain⟨x,E9⟩:=Option.isSome_iff_exists.1 hin;obtain⟨i,uS⟩:∃i,midx m k=some i:=by rw[hin]at hm;exact Option.isSome_iff_exists.1 hm
 obtain⟨h6,e0,h7,h8⟩:=qh (f:=f) k v es.toList m i h1 uS;have h7':es[i]?=some e0:=by simpa using h7
 simp[uS,E9]at hf;have hborn:∀(j:Nat)(e:MapEntry),(es.toList.modify i fun e=>{e with key:=.int .i64 k,val:=f v})[j]?=some e->∃e',es.toList[j]?=some e'/\e'.born=e.born:=by
  intro j e he;rw[List.getElem?_modify]at he;cases hx:es.toList[j]? with
  |none=>rw[hx]at he;cases he
  |some y=>rw[hx]at he;refine⟨y,rfl,?_⟩;simp at he;split at he<;>subst he<;>rfl
 have adx:∀(j:Nat)(e:MapEntry),es.toList[j]?=some e->∃e',(es.toList.modify i fun e=>{e with key:=.int .i64 k,val:=f v})[j]?=some e'/\e'.born=e.born:=by intro j e he;rw[List.getElem?_modify,he];simp only[Option.map_eq_map,Option.map_some,Option.some.injEq,exists_eq_left'];split<;>rfl
 have hkeys:(bA m k v).map (·.1)=m.map (·.1):=by rw[sj,if_pos];exact Classical.byContradiction fun h=>by rw[mR.2 h]at E9;cases E9
 have ady:∀(j:Nat)(y:Int×α),(bA m k v)[j]?=some y->∃y',m[j]?=some y'/\y'.1=y.1:=by
  intro j y hy;have h9:((bA m k v).map (·.1))[j]?=some y.1:=by rw[kI,hy];rfl
  rw[hkeys,kI,Option.map_eq_some_iff]at h9;exact h9
 have aaS:∀(j:Nat)(y:Int×α),m[j]?=some y->∃y',(bA m k v)[j]?=some y'/\y'.1=y.1:=by
  intro j y hy;have h9:(m.map (·.1))[j]?=some y.1:=by rw[kI,hy];rfl
  rw[<-hkeys,kI,Option.map_eq_some_iff]at h9;exact h9
 refine⟨_,?_,Own.fZ.2 ⟨es.modify i fun e=>{e with key:=.int .i64 k,val:=f v},clock,seen,?_,?_,?_,?_,?_,o.lq _⟩,⟨rfl,rfl,rfl⟩⟩
 ·simp[Instr.mapUpdate,run_underlying ht,getObj,setObj,Sem.run,hb,dH hk,hf,h7',h8,Instr.keyThatStays,Instr.sameBits]
 ·rw[Array.toList_modify];exact h6
 ·rw[Array.toList_modify];exact kJ (fun e=>{e with key:=.int .i64 k,val:=f v}) (fun _=>rfl) i h2
 ·rw[Array.toList_modify];exact kL (fun e=>{e with key:=.int .i64 k,val:=f v}) (fun _=>rfl) i h3
 ·rw[Array.toList_modify];intro j e y he hy;obtain⟨e',he',hbe⟩:=hborn j e he;obtain⟨y',hy',hye⟩:=ady j y hy;rw[<-hbe,<-hye];exact h4 j e' y' he' hy'
 ·rw[Array.toList_modify];intro k' hk';obtain⟨j,e,y,he,hy,hyk,hbk⟩:=h5 k' hk';obtain⟨e',he',hbe⟩:=adx j e he;obtain⟨y',hy',hye⟩:=aaS j y hy;exact⟨j,e',y',he',hy',by rw[hye];exact hyk,by rw[hbe];exact hbk⟩
theorem jE{ops:Array Oper}{rest:List Oper}{op:Oper}{A:Act}{Q:Exit->Act->aF->Prop}(hgd:op.guard=none)(x y v:Operand)(hop:op.op=Op.mapUpdate t x y v)
  (ht:P.underlying t=some (.map kt et))(hk:P.underlying kt=some (.int .i64))(hu:bL m)(o:Own w (SP.fZ f tb ib m S cur::R))(k:Int)(u:α)(hin:(a_ m k).isSome=true)
  (hx:A.eval x=.map (some tb))(hy:A.eval y=↑k)(hv:A.eval v=f u)
  (h:∀w',Own w' (SP.fZ f tb ib (bA m k u) S cur::R)->Calm w w'->wpList P ops Q rest (A.put op.dst undef) w'):wpList P ops Q (op::rest) A w:=by
 refine wpList_plain hgd fun K hK=>?_;obtain⟨w',hr,h2,h3⟩:=Fg ht hk hu o k u hin;unfold Oper.wp;simp[execOp,hop,hx,hy,hv,hr,Result.andThen];exact hK _ _ (h w' h2 h3)
def iE(w:aF)(tb ib:Nat):Nat:=match w.heap[tb]?,w.heap[ib]? with
 |some (.map es _),some (.mapIter _ _ seen _)=>(leftOf es seen).size
 |_,_=>0
def vN(m:List (Int×α))(S:Int->Bool):Nat:=((m.map (·.1)).filter (fun k=>!S k)).length
theorem Fh(seen:Array Nat)(S:Int->Bool):∀(es:List MapEntry)(m:List (Int×α)),es.length=m.length->(∀(i:Nat)(e:MapEntry)(x:Int×α),es[i]?=some e->m[i]?=some x->(seen.contains e.born=S x.1))->
  (es.filter (fun e=>!seen.contains e.born)).length=((m.map (·.1)).filter (fun k=>!S k)).length
 |[],[],_,_=>rfl
 |[],_::_,h,_=>by simp at h
 |_::_,[],h,_=>by simp at h
 |e::es,x::m,h,hp=>by
  have h0:=hp 0 e x rfl rfl;have ih:=Fh seen S es m (by simpa using h) (fun i e' x' h1 h2=>hp (i+1) e' x' (by simpa using h1) (by simpa using h2));rw[iD,List.filter_cons,List.filter_cons];rw[h0];cases S x.1
  ·simp only[Bool.not_false,if_true,List.length_cons];rw[ih]
  ·simpa using ih
theorem Own.iE(o:Own w (SP.fZ f tb ib m S cur::R)):iE w tb ib=vN m S:=by
 obtain⟨es,clock,seen,h1,h2,h3,h4,h5,o⟩:=Own.fZ.1 o;have hb:=o.blk;have hi:=o.swap.blk;unfold Go.Proofs.YtfejhikpfhgbeaaGreatDoor.iE;rw[hb,hi];have hl:es.toList.length=m.length:=by have:=congrArg List.length h1;simpa using this
 have:=Fh seen S es.toList m hl h4;unfold vN;rw[<-this];simp only[leftOf];rw[<-Array.length_toList,Array.toList_filter]
theorem filter_lt{l:bq}{p q:Int->Bool}(h:∀x,q x=true->p x=true){k:Int}(hk:k∈l)(h1:p k=true)(h2:q k=false):(l.filter q).length<(l.filter p).length:=by
 induction l with
 |nil=>simp at hk
 |cons y l ih=>
  have hle:(l.filter q).length<=(l.filter p).length:=by
   clear ih hk;induction l with
   |nil=>simp
   |cons z l ih=>
    simp only[List.filter_cons];cases hq:q z
    ·cases hp:p z<;>simp<;>omega
    ·rw[h z hq];simpa using ih
  simp only[List.filter_cons];rcases jc.1 hk with rfl|hk
  ·rw[h1,h2];simp;omega
  ·have:=ih hk;cases hq:q y
   ·cases hp:p y<;>simp<;>omega
   ·rw[h y hq];simpa using this
theorem qi{x:Int×α}(hx:x∈m)(hS:S x.1=false):vN m (fun k=>S k||k==x.1)<vN m S:=by unfold vN;refine filter_lt (k:=x.1) ?_ (gW.2 ⟨x,hx,rfl⟩) (by simp[hS]) (by simp);intro y hy;simp at hy;simp[hy.1]
theorem yF{k:Int}{v:α}(hk:k∈m.map (·.1)):vN (bA m k v) S=vN m S:=by unfold vN;rw[sj,if_pos hk]
end
def Ll:Nat->aJ->aJ
 |0,l=>l
 |_+1,[]=>[]
 |n+1,B::l=>match Ll n l with
  |[]=>[B]
  |A::l'=>A::B::l'
theorem JE:∀(n:Nat)(l:aJ),l.Perm (Ll n l)
 |0,l=>.refl l
 |_+1,[]=>.refl _
 |n+1,B::l=>by
  have h:=JE n l;unfold Ll;cases hm:Ll n l with
  |nil=>rw[hm]at h;exact h.cons B
  |cons A l'=>rw[hm]at h;exact(h.cons B).trans (.swap A B l')
theorem Own.Ll{w:aF}{l:aJ}(n:Nat)(o:Own w l):Own w (Ll n l):=o.perm (JE n l)
def JF:List Nat->aJ->aJ
 |[],l=>l
 |n::ns,l=>Ll (ns.length+n-(ns.filter (·<n)).length) (JF ns l)
theorem Own.JF{w:aF}{l:aJ}(o:Own w l):∀ns:List Nat,Own w (JF ns l)
 |[]=>o
 |_::ns=>(o.JF ns).Ll _
theorem Own.acp{w:aF}:∀(d:Nat){l:aJ},Own w l->Own w (l.drop d)
 |0,_,o=>o
 |_+1,[],o=>o
 |d+1,_::_,o=>Own.acp d o.drop
theorem Own.re{w:aF}{l:aJ}(o:Own w l)(ns:List Nat)(d:Nat:=0):Own w ((Go.Proofs.YtfejhikpfhgbeaaGreatDoor.JF ns l).drop d):=(o.JF ns).acp d
section
variable{α:Type}{f:α->aL}{w:aF}{l:aJ}{P:Program}{t kt et:TypeId}{b:Nat}{m:List (Int×α)}
theorem NQ(ty:TypeId)(ht:P.underlying t=some (.map kt et))(o:Own w (SP.bB f b m::l)):
  (Builtin.len_ #[t] ty #[.map (some b)]).run P w=.ok (.int .i64 (m.length:Int)) w:=by
 obtain⟨es,clock,h1,_,_,o⟩:=Own.bB.1 o;have hb:=o.blk;have hl:es.size=m.length:=by have:=congrArg List.length h1;simpa using this
 simp[Builtin.len_,run_underlying ht,getObj,Sem.run,hb,hl,goInt]
theorem vO{ops:Array Oper}{rest:List Oper}{op:Oper}{A:Act}{Q:Exit->Act->aF->Prop}(hgd:op.guard=none)(x:Operand)
  (hop:op.op=.call {callee:=.builtin .len,args:=#[x],argTypes:=#[t]})
  (ht:P.underlying t=some (.map kt et))(o:Own w (SP.bB f b m::l))(hx:A.eval x=.map (some b))
  (h:wpList P ops Q rest (A.put op.dst (.int .i64 (m.length:Int))) w):wpList P ops Q (op::rest) A w:=by
 refine wpList_plain hgd fun K hK=>?_;unfold Oper.wp;simp[execOp,hop,resolve,invoke,builtin,hx,NQ op.type ht o,Result.andThen];exact hK _ _ h
theorem IE(ty:TypeId)(ht:P.underlying t=some (.map kt et))(o:Own w (SP.bB f b m::l)):
  ∃w',(Builtin.clear_ #[t] ty #[.map (some b)]).run P w=.ok (.tuple #[]) w'/\Own w' (SP.bB f b ([]:List (Int×α))::l)/\Calm w w':=by
 obtain⟨es,clock,h1,_,_,o⟩:=Own.bB.1 o;have hb:=o.blk;refine⟨_,?_,Own.bB.2 ⟨#[],clock,rfl,by simp,by simp,o.lq _⟩,⟨rfl,rfl,rfl⟩⟩;simp[Builtin.clear_,run_underlying ht,getObj,setObj,Sem.run,hb]
theorem BA{ops:Array Oper}{rest:List Oper}{op:Oper}{A:Act}{Q:Exit->Act->aF->Prop}(hgd:op.guard=none)(x:Operand)
  (hop:op.op=.call {callee:=.builtin .clear,args:=#[x],argTypes:=#[t]})
  (ht:P.underlying t=some (.map kt et))(o:Own w (SP.bB f b m::l))(hx:A.eval x=.map (some b))
  (h:∀w',Own w' (SP.bB f b ([]:List (Int×α))::l)->Calm w w'->wpList P ops Q rest (A.put op.dst (.tuple #[])) w'):wpList P ops Q (op::rest) A w:=by
 refine wpList_plain hgd fun K hK=>?_;obtain⟨w',hr,h2,h3⟩:=IE op.type ht o;unfold Oper.wp execOp;simp only[hop,resolve,invoke,builtin,Sem.run_bind,Sem.run_pure,Result.andThen_ok,List.map_toArray,iD,List.map_nil,hx,hr];exact hK _ _ (h w' h2 h3)
end
theorem drop_at{α:Type}{l:List α}{i:Nat}{x:α}(h:l[i]?=some x):l.drop i=x::l.drop (i+1):=by obtain⟨h1,h2⟩:=eU.1 h;rw[List.drop_eq_getElem_cons h1,h2]
section
variable{α:Type}{g:α->α}{S:Int->Bool}
def upd(g:α->α)(S:Int->Bool)(m:List (Int×α)):List (Int×α):=m.map fun x=>(x.1,if S x.1 then g x.2 else x.2)
theorem NR(g:α->α)(S:Int->Bool)(m:List (Int×α)):(upd g S m).map (·.1)=m.map (·.1):=by unfold upd;rw[List.map_map];rfl
theorem NS(g:α->α)(m:List (Int×α)):upd g (fun _=>false) m=m:=by unfold upd;simp
theorem Ug{m:List (Int×α)}(h:∀x∈m,S x.1=true):upd g S m=m.map fun x=>(x.1,g x.2):=by unfold upd;exact List.map_congr_left fun x hx=>by rw[h x hx,if_pos rfl]
theorem Lm:∀{m:List (Int×α)}(_:bL m){k:Int}{v:α}(_:a_ m k=some v),bA (upd g S m) k (g v)=upd g (fun z=>S z||z==k) m
 |[],_,k,v,h=>by simp[a_]at h
 |(k0,v0)::m,hu,k,v,h=>by
  unfold bL at hu;rw[iD,List.nodup_cons]at hu;unfold a_ at h;unfold upd;simp only[iD];unfold bA;by_cases hk:k=k0
  ·subst hk;rw[if_pos rfl]at h⊢;simp at h;subst h;simp only[BEq.rfl,Bool.or_true,if_true,List.cons.injEq,true_and];refine List.map_congr_left fun x hx=>?_;have hne:x.1≠k:=fun e=>hu.1 (gW.2 ⟨x,hx,e⟩);have:(x.1==k)=false:=by simpa using hne
   simp only[this,Bool.or_false]
  ·rw[if_neg hk]at h⊢;have hb:(k0==k)=false:=by simpa using Ne.symm hk
   simp only[hb,Bool.or_false,List.cons.injEq,true_and];exact Lm hu.2 h
theorem zN:∀{m:List (Int×α)}(k:Int),a_ (upd g S m) k=(a_ m k).map (fun v=>if S k then g v else v)
 |[],k=>rfl
 |(k0,v0)::m,k=>by
  unfold upd;simp only[iD];unfold a_;by_cases hk:k=k0
  ·subst hk;simp
  ·rw[if_neg hk,if_neg hk];exact zN k
end
def qX(w:aF)(x:aL)(size m:Nat)(news:dw):Prop:=
 ∃a c,x=.slice a m c/\news.length=m*size/\(∀u∈news,u.oneCell'=true)/\(m=0\/∃ad,a=some ad/\∀(j:Nat)u,news[j]?=some u->w.cell? (ad.add j)=some u)
section
variable{w:aF}{l:aJ}{P:Program}{t e:TypeId}{size bytes:Nat}
theorem qj(ty:TypeId)(E:bS P t e size bytes){a:aY}{n cap:Nat}{xs:dw}(o:Own w (SP.slc e size a n cap xs::l)){x:aL}{m:Nat}{news:dw}(hx:qX w x size m news)
  (h63:n+m<=maxLen)(hbytes:(n+m)*bytes<=140737488355328):
  ∃a' cap' w',(Builtin.append_ #[t,t] ty #[.slice a n cap,x]).run P w=.ok (.slice a' (n+m) cap') w'/\Own w' (SP.slc e size a' (n+m) cap' (xs++news)::l)/\Calm w w':=by
 obtain⟨b,c,rfl,hl,h1,hb⟩:=hx;rcases hb with rfl|⟨ad,rfl,hc⟩
 ·have hn:news=[]:=CO (by simpa using hl);subst hn;obtain⟨ht,⟨i,z,hi,hz,rfl,rfl,hzs⟩,hsz⟩:=E;have hnc:=o.fA.2.1;refine⟨a,cap,w,?_,by simpa using o,Calm.refl w⟩;cases b<;>cases a<;>first
   |(have h0:n=0/\cap=0:=by
     rcases Own.slc.1 o with⟨_,h,h',_⟩|⟨_,_,h,_⟩
     ·exact⟨h,h'⟩
     ·cases h
     obtain⟨rfl,rfl⟩:=h0
     simp[Builtin.append_,run_underlying ht,sizeOf,typeInfo,hi,Builtin.lenOf,Builtin.firstCells,loadCells,loadCellsFrom])
   |simp[Builtin.append_,run_underlying ht,sizeOf,typeInfo,hi,Builtin.lenOf,Builtin.firstCells,loadCells,loadCellsFrom,hnc,storeCells]
 ·exact vF ty E o ad m c news hl hc h1 h63 hbytes
theorem aQ{ops:Array Oper}{rest:List Oper}{op:Oper}{A:Act}{Q:Exit->Act->aF->Prop}(hgd:op.guard=none)(s x:Operand)
  (hop:op.op=.call {callee:=.builtin .append,args:=#[s,x],argTypes:=#[t,t]})
  (E:bS P t e size bytes){a:aY}{n cap:Nat}{xs:dw}(hs:A.eval s=.slice a n cap)(o:Own w (SP.slc e size a n cap xs::l))
  {v:aL}{m:Nat}{news:dw}(hx:A.eval x=v)(hsrc:qX w v size m news)
  (h63:n+m<=maxLen)(hbytes:(n+m)*bytes<=140737488355328)
  (h:∀a' cap' w',Own w' (SP.slc e size a' (n+m) cap' (xs++news)::l)->Calm w w'->wpList P ops Q rest (A.put op.dst (.slice a' (n+m) cap')) w'):wpList P ops Q (op::rest) A w:=by
 refine wpList_plain hgd fun K hK=>?_;obtain⟨a',cap',w',hr,h2,h3⟩:=qj op.type E o hsrc h63 hbytes;unfold Oper.wp execOp;simp only[hop,resolve,invoke,builtin,Sem.run_bind,Sem.run_pure,Result.andThen_ok,List.map_toArray,iD,List.map_nil,hs,hx,hr];exact hK _ _ (h a' cap' w' h2 h3)
theorem gD{ops:Array Oper}{op:Oper}{A:Act}{K:Act->aF->Prop}{Q:Exit->Act->aF->Prop}{F:Prop}(hgd:op.guard=none)(s x:Operand)
  (hop:op.op=.call {callee:=.builtin .append,args:=#[s,x],argTypes:=#[t,t]})
  (E:bS P t e size bytes){a:aY}{n cap:Nat}{xs:dw}(hs:A.eval s=.slice a n cap)(o:Own w (SP.slc e size a n cap xs::l))
  {v:aL}{m:Nat}{news:dw}(hx:A.eval x=v)(hsrc:qX w v size m news)
  (h63:n+m<=maxLen)(hbytes:(n+m)*bytes<=140737488355328)
  (h:∀a' cap' w',Own w' (SP.slc e size a' (n+m) cap' (xs++news)::l)->Calm w w'->K (A.put op.dst (.slice a' (n+m) cap')) w'):
  if Region.wanted op (yielded ops A.tmps)=true then Oper.wp P op A w K Q else F:=by
 have hw:Region.wanted op (yielded ops A.tmps)=true:=by simp[Region.wanted,hgd]
 rw[if_pos hw];obtain⟨a',cap',w',hr,h2,h3⟩:=qj op.type E o hsrc h63 hbytes;unfold Oper.wp execOp;simp only[hop,resolve,invoke,builtin,Sem.run_bind,Sem.run_pure,Result.andThen_ok,List.map_toArray,iD,List.map_nil,hs,hx,hr];exact h a' cap' w' h2 h3
theorem sG{b:Nat}(o:Own w (SP.aH b e []::l)):Own w (SP.slc e size (some ⟨b,0,none⟩) 0 0 []::l):=
 Own.slc.2 (.inr ⟨b,[],rfl,Nat.le_refl _,by unfold maxLen;omega,by simp,by simp,o⟩)
end
section
variable{w w':aF}{R:aJ}
theorem NU{α:Type}:∀{l:List α}{i:Nat}{A B:α},l[i]?=some A->(B::l.eraseIdx i).Perm (l.set i B)
 |_::l,0,A,B,_=>by simp
 |x::l,i+1,A,B,h=>by simp only[List.eraseIdx_cons_succ,List.set_cons_succ];exact(List.Perm.swap x B _).trans ((NU (A:=A) (by simpa using h)).cons x)
 |[],i,A,B,h=>by simp at h
theorem Own.focus{l:aJ}{i:Nat}{A:SP}(h:l[i]?=some A)(o:Own w (SP.st l::R)):Own w (A::SP.st (l.eraseIdx i)::R):=by have o1:=Own.st.1 o;have o2:Own w (A::(l.eraseIdx i++R)):=o1.perm ((zI i l A h).append_right R);have o3:Own w (l.eraseIdx i++(A::R)):=o2.perm List.perm_middle.symm;exact(Own.st.2 o3).swap
theorem Own.qY{l:aJ}{i:Nat}{A B:SP}(h:l[i]?=some A)(o:Own w (B::SP.st (l.eraseIdx i)::R)):Own w (SP.st (l.set i B)::R):=by have o1:=Own.st.1 o.swap;have o2:Own w (B::(l.eraseIdx i++R)):=o1.perm List.perm_middle;exact Own.st.2 (o2.perm ((NU h).append_right R))
theorem Own.BB{A:SP}{l:aJ}(o:Own w (A::SP.st l::R)):Own w (SP.st (l++[A])::R):=by have o1:=Own.st.1 o.swap;refine Own.st.2 ?_;rw[List.append_assoc];exact o1
theorem Own.Yi{T:TypeId}{k:Nat}:∀n:Nat,Own w R->Own w (SP.st (List.replicate n (SP.slc T k none 0 0 []))::R)
 |0,o=>Own.st.2 o
 |n+1,o=>by have h:=Own.Yi (T:=T) (k:=k) n o;have h2:Own w (SP.slc T k none 0 0 []::SP.st (List.replicate n (SP.slc T k none 0 0 []))::R):=Own.bH h;rw[List.replicate_succ];exact Own.st.2 (by have:=Own.st.1 h2.swap;exact this.perm List.perm_middle)
end
section
variable{w:aF}{l:aJ}{P:Program}{t e:TypeId}{size bytes:Nat}
theorem IG(ty:TypeId)(E:bS P t e size bytes){g n cap:Nat}{xs:dw}(o:Own w (SP.slc e size (some ⟨g,0,none⟩) n cap xs::l)){x:aL}{m:Nat}{news:dw}(hx:qX w x size m news)(hroom:n+m<=cap):
  ∃w',(Builtin.append_ #[t,t] ty #[.slice (some ⟨g,0,none⟩) n cap,x]).run P w=.ok (.slice (some ⟨g,0,none⟩) (n+m) cap) w'/\Own w' (SP.slc e size (some ⟨g,0,none⟩) (n+m) cap (xs++news)::l)/\Calm w w':=by
 obtain⟨b,c,rfl,hl,h1,hb⟩:=hx;obtain⟨ht,⟨i,z,hi,hz,rfl,rfl,hzs⟩,hsz⟩:=E;rcases hb with rfl|⟨ad,rfl,hc⟩
 ·have hn:news=[]:=CO (by simpa using hl);subst hn;have hnc:=o.fA.2.1;refine⟨w,?_,by simpa using o,Calm.refl w⟩;cases b<;>simp[Builtin.append_,run_underlying ht,sizeOf,typeInfo,hi,Builtin.lenOf,Builtin.firstCells,loadCells,loadCellsFrom,hnc,storeCells]
 ·rcases Own.slc.1 o with⟨h,_⟩|⟨g',sp,hg',hnc,hcm,hxl,hsl,o1⟩
  ·cases h
  ·cases hg';have hg:w.heap[g]?=some (.cells (xs++sp).toArray e (0,0)):=Own.blk o1;have hmn:m*i.size<=(cap-n)*i.size:=Nat.mul_le_mul_right _ (by omega);have hfit:n*i.size+news.length<=(xs++sp).toArray.size:=by simp only[List.size_toArray,jf,hxl,hsl,hl];omega
   have hr:=run_append_room (P:=P) w t ty e i ht hi g n cap (xs++sp).toArray hg ad m c news hl hc h1 hroom hfit;refine⟨_,hr,?_,⟨rfl,rfl,rfl⟩⟩;have e1:(xs++sp).toArray.toList.take (n*i.size)++news++(xs++sp).toArray.toList.drop (n*i.size+news.length)=(xs++news)++sp.drop news.length:=by simp only[<-hxl,List.take_left];rw[<-List.drop_drop,List.drop_left]
   rw[e1];refine Own.slc.2 (.inr ⟨g,sp.drop news.length,rfl,hroom,hcm,?_,?_,o1.setRow _⟩)
   ·rw[jf,hxl,hl,Nat.add_mul]
   ·rw[List.length_drop,hsl,hl,<-Nat.sub_mul];congr 1;omega
theorem gY{ops:Array Oper}{op:Oper}{A:Act}{K:Act->aF->Prop}{Q:Exit->Act->aF->Prop}{F:Prop}(hgd:op.guard=none)(s x:Operand)
  (hop:op.op=.call {callee:=.builtin .append,args:=#[s,x],argTypes:=#[t,t]})
  (E:bS P t e size bytes){g n cap:Nat}{xs:dw}(hs:A.eval s=.slice (some ⟨g,0,none⟩) n cap)(o:Own w (SP.slc e size (some ⟨g,0,none⟩) n cap xs::l))
  {v:aL}{m:Nat}{news:dw}(hx:A.eval x=v)(hsrc:qX w v size m news)(hroom:n+m<=cap)
  (h:∀w',Own w' (SP.slc e size (some ⟨g,0,none⟩) (n+m) cap (xs++news)::l)->Calm w w'->K (A.put op.dst (.slice (some ⟨g,0,none⟩) (n+m) cap)) w'):
  if Region.wanted op (yielded ops A.tmps)=true then Oper.wp P op A w K Q else F:=by
 have hw:Region.wanted op (yielded ops A.tmps)=true:=by simp[Region.wanted,hgd]
 rw[if_pos hw];obtain⟨w',hr,h2,h3⟩:=IG op.type E o hsrc hroom;unfold Oper.wp execOp;simp only[hop,resolve,invoke,builtin,Sem.run_bind,Sem.run_pure,Result.andThen_ok,List.map_toArray,iD,List.map_nil,hs,hx,hr];exact h w' h2 h3
theorem fB(ty:TypeId)(E:bS P t e size bytes){z:aL}(hv:∀w,(zeroValue e).run P w=.ok z w)(hzs:z.cells.size=size)(h1:∀u∈z.cells.toList,u.oneCell'=true){g n m c cap:Nat}{xs:dw}
  (o:Own w (SP.slc e size (some ⟨g,0,none⟩) n cap xs::l))(hroom:n+m<=cap):
  ∃w',(Builtin.clear_ #[t] ty #[.slice (some ⟨g,n*size,none⟩) m c]).run P w=.ok (.tuple #[]) w'/\Own w' (SP.slc e size (some ⟨g,0,none⟩) n cap xs::l)/\Calm w w':=by
 obtain⟨ht,-,hsz⟩:=E;cases m with
 |zero=>exact⟨w,by simp[Builtin.clear_,run_underlying ht],o,Calm.refl w⟩
 |succ m=>
  rcases Own.slc.1 o with⟨h,_⟩|⟨g',sp,hg',hnc,hcm,hxl,hsl,o1⟩
  ·cases h
  ·cases hg';have hg:w.heap[g]?=some (.cells (xs++sp).toArray e (0,0)):=Own.blk o1;obtain⟨news,hnews⟩:=aP ((Builtin.zeroCells z.cells (m+1)).toList);have hl:news.length=(m+1)*size:=by rw[<-hnews,Array.length_toList,size_zeroCells,hzs]
   have hone:∀u∈news,u.oneCell'=true:=by
    intro u hu;rw[<-hnews]at hu;unfold Builtin.zeroCells at hu;simp at hu;obtain⟨q,hq,rfl⟩:=hu;apply h1;have hpos:0<z.cells.size:=Nat.pos_of_ne_zero fun h0=>by rw[h0]at hq;simp at hq
    have hlt:=Nat.mod_lt q hpos;rw[getElem!_pos z.cells _ hlt];simp
   have hmn:(m+1)*size<=(cap-n)*size:=Nat.mul_le_mul_right _ (by omega);have hst:=run_storeCells_at P g (n*size) e news 0 (xs++sp).toArray w hg (by simp only[List.size_toArray,jf,hxl,hsl,hl];omega) hone;simp only[Nat.add_zero]at hst;have hrun:(Builtin.clear_ #[t] ty #[.slice (some ⟨g,n*size,none⟩) (m+1) c]).run P w=.ok (.tuple #[]) (w.setRow g ((xs++sp).toArray.toList.take (n*size)++news++(xs++sp).toArray.toList.drop (n*size+news.length)).toArray):=by simp[Builtin.clear_,run_underlying ht,hv,hnews,hst]
   refine⟨_,hrun,?_,⟨rfl,rfl,rfl⟩⟩;have e1:(xs++sp).toArray.toList.take (n*size)++news++(xs++sp).toArray.toList.drop (n*size+news.length)=xs++(news++sp.drop news.length):=by simp only[<-hxl,List.take_left];rw[<-List.drop_drop,List.drop_left,List.append_assoc]
   rw[e1];refine Own.slc.2 (.inr ⟨g,news++sp.drop news.length,rfl,hnc,hcm,hxl,?_,o1.setRow _⟩);rw[jf,List.length_drop,hsl,hl];omega
theorem Own.lW{a:aY}{n i cap:Nat}{xs ys:dw}(o:Own w (SP.slc e size a n cap (xs++ys)::l))(hi:i<=n)(hx:xs.length=i*size):Own w (SP.slc e size a i cap xs::l):=by
 rcases Own.slc.1 o with⟨rfl,rfl,rfl,h,o1⟩|⟨g,sp,rfl,hnc,hcm,hxl,hsl,o1⟩
 ·have hi0:i=0:=by omega
  subst hi0;have:xs=[]:=CO (by simpa using hx);subst this;exact Own.slc.2 (.inl ⟨rfl,rfl,rfl,rfl,o1⟩)
 ·refine Own.slc.2 (.inr ⟨g,ys++sp,rfl,Nat.le_trans hi hnc,hcm,hx,?_,by rw[<-List.append_assoc];exact o1⟩);rw[jf]at hxl;have e1:ys.length=n*size-i*size:=by omega
  have h2:i*size<=n*size:=Nat.mul_le_mul_right _ hi;have h3:n*size<=cap*size:=Nat.mul_le_mul_right _ hnc;rw[jf,e1,hsl,Nat.sub_mul,Nat.sub_mul];omega
end
def BC(Sp:SP)(a:aY)(L:List Tg):Prop:=∀(w:aF)(R:aJ),Own w (Sp::R)->∀(i:Nat)(t:Tg),L[i]?=some t->
 ∃g so,a=some ⟨g,so,none⟩/\w.cell? ⟨g,so+i*3,none⟩=some ↑t.f/\w.cell? ⟨g,so+i*3+1,none⟩=some ↑t.w/\w.cell? ⟨g,so+i*3+2,none⟩=some ↑t.s
theorem NV{T:TypeId}(a:aY)(n c:Nat)(L:List Tg)(hn:n=L.length):BC (slc T 3 a n c (flat dA L)) a L:=by
 intro w R o i t ht;have:=(eU.1 ht).1;obtain⟨g,h,hc,hf,hg⟩:=o.aG (by omega);refine⟨g,0,h,?_,?_,?_⟩
 ·rw[Nat.zero_add];exact hc (i*3+0) _ (aB iQ L i 0 t ht (by omega))
 ·rw[Nat.zero_add];exact hc (i*3+1) _ (aB iQ L i 1 t ht (by omega))
 ·rw[Nat.zero_add];exact hc (i*3+2) _ (aB iQ L i 2 t ht (by omega))
theorem qm(a:aY)(n c:Nat)(L:List Tg)(hn:n=L.length):BC (slc 484 3 a n c (flat dA L)) a L:=NV a n c L hn
theorem Fj{α:Type}{g:α->dw}{sz:Nat}(hg:∀x,(g x).length=sz):∀(L:List α)(i j:Nat)(x x':α)(v:aL),L[i]?=some x->j<sz->g x'=(g x).set j v->flat g (L.set i x')=(flat g L).set (i*sz+j) v
 |[],i,j,x,x',v,h,_,_=>by simp at h
 |y::L,0,j,x,x',v,h,hj,he=>by
  obtain rfl:y=x:=by simpa using h
  show g x'++flat g L=(g y++flat g L).set (0*sz+j) v;rw[Nat.zero_mul,Nat.zero_add,List.set_append_left _ _ (by rw[hg];exact hj),he]
 |y::L,i+1,j,x,x',v,h,hj,he=>by
  have ih:=Fj hg L i j x x' v (by simpa using h) hj he;show g y++flat g (L.set i x')=(g y++flat g L).set ((i+1)*sz+j) v;have e:(i+1)*sz+j=sz+(i*sz+j):=by rw[Nat.add_mul];omega
  rw[e,List.set_append_right _ _ (by rw[hg];omega),hg,Nat.add_sub_cancel_left,ih]
structure iA where
 id:Int
 fl:Int
 len:Int
 ar:Int
 dl:Int
def bR(p:iA):dw:=[p.id,p.fl,p.len,p.ar,p.dl]
theorem aT(p:iA):(bR p).length=5:=rfl
def rP(p:iA):aL:=.agg #[p.id,p.fl,p.len,p.ar,p.dl]
theorem NW(L:List iA):∀u∈flat bR L,u.oneCell'=true:=by intro u hu;unfold flat at hu;obtain⟨l,hl,hu⟩:=List.mem_flatten.1 hu;obtain⟨p,_,rfl⟩:=gW.1 hl;simp only[bR,jc,xN,or_false]at hu;rcases hu with rfl|rfl|rfl|rfl|rfl<;>rfl
theorem Tryz.pktT:bS prog 71 170 5 40:=bS.mk' underlying71 (z:=.agg #[aC,aC,aC,aC,aC]) (by kernel_rfl) (by kernel_rfl) (by omega)
theorem Tryz.pktZ(w:aF):(zeroValue 170).run prog w=.ok (.agg #[aC,aC,aC,aC,aC]) w:=by kernel_rfl
theorem Fp:∀u∈(Value.agg #[aC,aC,aC,aC,aC]).cells.toList,u.oneCell'=true:=by
 intro u hu;have:u=.int .i64 0:=by simpa[Value.cells]using hu
 subst this;rfl
structure xP where
 mo:Int
 mb:Int
 P:List iA
def bE:List iA->Int
 |[]=>0
 |p::l=>p.len+bE l
def dQ(b:Nat)(q:xP):SP:=ex fun(p:aY×Nat)=>st [aH b 204 [q.mo,q.mb,.slice p.1 q.P.length p.2,(bE q.P:Int)],slc 170 5 p.1 q.P.length p.2 (flat bR q.P)]
section
variable{w w':aF}{R:aJ}{b:Nat}{q:xP}
theorem dQ.iff:Own w (dQ b q::R)↔∃a c,Own w (aH b 204 [q.mo,q.mb,.slice a q.P.length c,(bE q.P:Int)]::slc 170 5 a q.P.length c (flat bR q.P)::R):=by
 constructor
 ·intro o;obtain⟨⟨a,c⟩,h⟩:=Own.ex.1 o;exact⟨a,c,Own.st.1 h⟩
 ·rintro⟨a,c,h⟩;exact Own.ex.2 ⟨(a,c),Own.st.2 h⟩
theorem aD(h:Calm w w'):Calm w w'.drew:=⟨h.os,h.tape,h.output⟩
theorem NY{a:aY}{n c i:Nat}{L:List iA}(hn:n=L.length)(hi:i<n)(hl:n<=100000)(o:Own w (slc 170 5 a n c (flat bR L)::R)):
  Calls prog 147 #[.slice a n c,(i:Int),((i:Int)+1:Int)] w
   (aR (.slice a (n-1) c) (slc 170 5 a (n-1) c (flat bR (L.eraseIdx i))::R) w):=by
 obtain⟨m,rfl⟩:∃m,n=i+1+m:=⟨n-(i+1),by omega⟩;rw[show i+1+m-1=i+m by omega];obtain⟨g,rfl,hc,hf,hgl⟩:=o.aG (by omega);have hnc:=o.fA.2.1;have hcm:=o.fA;have hsplit:flat bR L=flat bR (L.take i)++flat bR (L.drop i):=by rw[<-aO,List.take_append_drop]
 have htl:(flat bR (L.take i)).length=i*5:=by rw[aN aT,rZ,Nat.min_eq_left (by omega)]
 have oC:Own w (slc 170 5 (some ⟨g,0,none⟩) i c (flat bR (L.take i))::R):=by rw[hsplit]at o;exact Own.lW o (by omega) htl
 have oD:=oC.drew;have hsrc:∀(ad:aY)(c':Nat),(ad=some ⟨g,(i+1)*5,none⟩\/m=0)->qX w.drew (.slice ad m c') 5 m (flat bR (L.drop (i+1))):=fun ad c' had=>
  ⟨ad,c',rfl,by rw[aN aT,List.length_drop,<-hn];congr 1;omega,NW _,by
   rcases had with rfl|h0
   ·right;refine⟨_,rfl,fun j u hu=>?_⟩;have hadd:(⟨g,(i+1)*5,none⟩:Addr).add j=⟨g,(i+1)*5+j,none⟩:=by unfold Addr.add;split<;>simp_all
    rw[hadd];refine hc ((i+1)*5+j) u ?_;have h2:flat bR L=flat bR (L.take (i+1))++flat bR (L.drop (i+1)):=by rw[<-aO,List.take_append_drop]
    have h3:(flat bR (L.take (i+1))).length=(i+1)*5:=by rw[aN aT,rZ,Nat.min_eq_left (by omega)]
    rw[h2,List.getElem?_append_right (by omega),h3,show(i+1)*5+j-(i+1)*5=j by omega];exact hu
   ·exact .inl h0⟩
 have HS:=az hsrc;have HE:=az (show flat bR (L.take i)++flat bR (L.drop (i+1))=flat bR (L.eraseIdx i)by rw[<-aO,List.eraseIdx_eq_take_drop_succ]);have hb1:(i:Int)<=(c:Int):=by omega
 have hb2:(i:Int)+1<=(c:Int):=by omega
 have hb5:(i:Int)<=(i:Int)+1:=by omega
 have hb6:0<=(i:Int)+1:=by omega
 have hb7:(i:Int)+1<=(i:Int)+1+(m:Int):=by omega
 have hb3:i<=c:=by omega
 have hb4:i+1<=c:=by omega
 have hne:((i:Int)==(i:Int)+1)=false:=by simpa using(by omega:¬(i:Int)=(i:Int)+1)
 clear hsrc hsplit htl hc hf hn o oC hcm;go_enter func147,ntmps147;by_cases hc1:c=i+1
 ·have hm0:m=0:=by omega
  subst hm0;subst hc1;go_upto_region 5 with fail;go_region_law(first|(refine gY rfl _ _ rfl Tryz.pktT rfl oD rfl (HS.out _ _ (.inr rfl)) (by omega) ?_;intro w5 o5 k5));have o6:Own w5 (slc 170 5 (some ⟨g,0,none⟩) i (i+1) (flat bR (L.eraseIdx i))::R):=by rw[<-HE.out];exact o5
  obtain⟨w6,hcl,o7,k7⟩:=fB 0 Tryz.pktT Tryz.pktZ rfl Fp o6 (m:=1) (c:=1) (by omega);go_wp2;go_ret;exact⟨rfl,o7,(aD (Calm.refl w)).trans (k5.trans k7)⟩
 ·have hx:=HS.out (some ⟨g,(i+1)*5,none⟩) (c-(i+1)) (.inl rfl);go_upto_region 5 with fail;go_region_law(first|(refine gY rfl _ _ rfl Tryz.pktT rfl oD ?hxx hx (by omega) ?hkk;(case hxx=>go_simp);intro w5 o5 k5));have o6:Own w5 (slc 170 5 (some ⟨g,0,none⟩) (i+m) c (flat bR (L.eraseIdx i))::R):=by rw[<-HE.out];exact o5
  obtain⟨w6,hcl,o7,k7⟩:=fB 0 Tryz.pktT Tryz.pktZ rfl Fp o6 (m:=i+1+m-(i+m)) (c:=c-(i+m)) (by omega);go_wp2;go_ret;exact⟨rfl,o7,(aD (Calm.refl w)).trans (k5.trans k7)⟩
def Yj(m n:Int):Bool:=decide (1<=m)&&(decide (m<=64)&&(decide (1<=n)&&decide (n<=262144)))
theorem NZ(m n:Int)(w:aF):Calls prog 76 #[m,n] w (bN (.bool (Yj m n)) w):=by
 unfold Yj;obtain⟨A,hA⟩:=aP (decide (1<=m));obtain⟨B,hB⟩:=aP (decide (m<=64));obtain⟨C,hC⟩:=aP (decide (1<=n));obtain⟨D,hD⟩:=aP (decide (n<=262144));rw[hA,hB,hC,hD];go_enter func76,ntmps76;cases A<;>cases B<;>cases C<;>cases D<;>
 ·go_wp2;go_ret;exact⟨rfl,rfl⟩
theorem N7(m n:Int)(h:Yj m n=true)(o:Own w R):Calls prog 46 #[.int .i64 m,.int .i64 n] w
  (fun e w'=>∃b,aR (.tuple #[.pointer (some ⟨b,0,none⟩),.int .i64 0]) (dQ b ⟨m,n,[]⟩::R) w e w'):=by
 have hc:=NZ m n w;rw[h]at hc;have oA:=o.alloc (.cells #[.int .i64 m,.int .i64 n,.slice none 0 0,.int .i64 0] 204);clear h;go_enter func46,ntmps46;go_wp2_with fail;refine hc.mono ?_;rintro _ _⟨rfl,rfl⟩;go_wp2;go_ret2;exact⟨_,rfl,dQ.iff.2 ⟨none,0,(Own.bH oA).re [1,0]⟩,⟨rfl,rfl,rfl⟩⟩
structure N8(p:iA):Prop where
 id:1<=p.id
 fl:0<=p.fl/\p.fl<32
 len:1<=p.len/\p.len<=4096
 ar:0<=p.ar/\p.ar<=16384
 dl:p.dl=-1\/p.ar<=p.dl/\p.dl<=81919
theorem CU{p:iA}(h:N8 p)(o:Own w R):Calls prog 121 #[rP p] w (aR (.bool true) R w):=by
 have oA:Own _ (aH w.heap.size 170 (bR p)::R):=o.alloc (.cells #[p.id,p.fl,p.len,p.ar,p.dl] 170);have d1:decide (1<=p.id)=true:=bz h.id;have d2:decide (0<=p.fl)=true:=bz h.fl.1;have d3:decide (p.fl<32)=true:=bz h.fl.2;have d4:decide (1<=p.len)=true:=bz h.len.1;have d5:decide (p.len<=4096)=true:=bz h.len.2;have d6:decide (0<=p.ar)=true:=bz h.ar.1;have d7:decide (p.ar<=16384)=true:=bz h.ar.2;unfold rP;rcases h.dl with hd|⟨hd1,hd2⟩
 ·have d8:(p.dl==-1)=true:=by simpa using hd
  clear h hd;go_enter func121,ntmps121;go_wp2;go_ret;exact⟨by simp[],oA.drop,⟨rfl,rfl,rfl⟩⟩
 ·have d8:(p.dl==-1)=false:=by have:=h.ar;simpa using(by omega:¬p.dl=-1)
  have d9:decide (p.ar<=p.dl)=true:=bz hd1;have d10:decide (p.dl<=81919)=true:=bz hd2;clear h hd1 hd2;go_enter func121,ntmps121;go_wp2;go_ret;exact⟨by simp[],oA.drop,⟨rfl,rfl,rfl⟩⟩
theorem N9(o:Own w (dQ b q::R)):Calls prog 137 #[.pointer (some ⟨b,0,none⟩)] w (bN (.int .i64 (q.P.length:Nat)) w):=by obtain⟨a,c,o1⟩:=dQ.iff.1 o;have c2:=o1.cell 2;go_enter func137,ntmps137;go_wp2;go_ret;exact⟨rfl,rfl⟩
def Fq(q:xP)(p:iA):Int:=if q.mo<=(q.P.length:Nat)\/q.mb<bE q.P+p.len then 4 else 0
def CW(q:xP)(p:iA):xP:=if Fq q p=0 then⟨q.mo,q.mb,q.P++[p]⟩else q
theorem Fu(l m:List iA):bE (l++m)=bE l+bE m:=by
 induction l with
 |nil=>show bE m=0+bE m;omega
 |cons p l ih=>show p.len+bE (l++m)=p.len+bE l+bE m;omega
theorem Lp{p:iA}(hp:N8 p)(hfull:q.mo<=(q.P.length:Nat)\/q.mb<bE q.P+p.len)(hn:q.P.length<=100000)(hb:0<=bE q.P/\bE q.P<=1000000000)(o:Own w (dQ b q::R)):
  Calls prog 67 #[b,rP p] w (aR (.int .i64 4) (dQ b q::R) w):=by
 obtain⟨a,c,o1⟩:=dQ.iff.1 o;have oA:Own _ (aH w.heap.size 170 (bR p)::_):=o1.alloc (.cells #[p.id,p.fl,p.len,p.ar,p.dl] 170);have K1:Calm w (w.alloc (.cells #[p.id,p.fl,p.len,p.ar,p.dl] 170)):=⟨rfl,rfl,rfl⟩;have hv:=CU hp oA;have p0:=oA.cell 0;change World.cell? _ ⟨w.heap.size,0,none⟩=some ↑p.id at p0;have p1:=oA.cell 1;change World.cell? _ ⟨w.heap.size,1,none⟩=some ↑p.fl at p1;have p2:=oA.cell 2;change World.cell? _ ⟨w.heap.size,2,none⟩=some ↑p.len at p2;have p3:=oA.cell 3;change World.cell? _ ⟨w.heap.size,3,none⟩=some ↑p.ar at p3;have p4:=oA.cell 4;change World.cell? _ ⟨w.heap.size,4,none⟩=some ↑p.dl at p4;have hlen:=hp.len;unfold rP at hv⊢;obtain⟨n,hn0⟩:=aP q.P.length;obtain⟨B,hB0⟩:=aP (bE q.P);have HN:=az hn0;have HB:=az hB0;rw[hn0]at o1 hn oA hv hfull;rw[hB0]at o1 hb oA hv hfull;clear hn0 hB0 o1 hp o;have hd:decide (q.mo<=(n:Int))=true\/decide (q.mo<=(n:Int))=false/\decide (q.mb<B+p.len)=true:=by
  by_cases h1:q.mo<=(n:Int)
  ·exact .inl (bz h1)
  ·exact .inr ⟨bW h1,bz (by omega)⟩
 clear hfull;go_enter func67,ntmps67;go_wp2_with fail;refine hv.mono ?_;rintro e1 w1⟨rfl,o2,k2⟩;have K2:=K1.trans k2;clear hv p0 p1 p2 p3 p4 oA k2;have p0:=o2.cell 0;change World.cell? _ ⟨w.heap.size,0,none⟩=some ↑p.id at p0;have p1:=o2.cell 1;change World.cell? _ ⟨w.heap.size,1,none⟩=some ↑p.fl at p1;have p2:=o2.cell 2;change World.cell? _ ⟨w.heap.size,2,none⟩=some ↑p.len at p2;have p3:=o2.cell 3;change World.cell? _ ⟨w.heap.size,3,none⟩=some ↑p.ar at p3;have p4:=o2.cell 4;change World.cell? _ ⟨w.heap.size,4,none⟩=some ↑p.dl at p4;obtain⟨cf,cl,c0,c1,c2,c3,-⟩:=(o2.up 1).cs;have HF:=az (show Own w1 (dQ b q::R)from dQ.iff.2 ⟨a,c,by rw[HN.out,HB.out];exact o2.drop⟩);rcases hd with d1|⟨d1,d2⟩
 ·go_upto_region 3 with fail;go_quiet(fail);go_wp2;go_ret;exact⟨rfl,HF.out.drewN _,K2.dn _⟩
 ·go_upto_region 3 with fail;go_quiet(fail);go_wp2;go_ret;exact⟨rfl,HF.out.drewN _,K2.dn _⟩
theorem Lr{p:iA}(hp:N8 p)(hfull:¬(q.mo<=(q.P.length:Nat)\/q.mb<bE q.P+p.len))(hn:q.P.length<=100000)(hb:0<=bE q.P/\bE q.P<=1000000000)(o:Own w (dQ b q::R)):
  Calls prog 67 #[b,rP p] w (aR (.int .i64 0) (dQ b ⟨q.mo,q.mb,q.P++[p]⟩::R) w):=by
 obtain⟨a,c,o1⟩:=dQ.iff.1 o;have oA:Own _ (aH w.heap.size 170 (bR p)::_):=o1.alloc (.cells #[p.id,p.fl,p.len,p.ar,p.dl] 170);have K1:Calm w (w.alloc (.cells #[p.id,p.fl,p.len,p.ar,p.dl] 170)):=⟨rfl,rfl,rfl⟩;have hv:=CU hp oA;have p0:=oA.cell 0;change World.cell? _ ⟨w.heap.size,0,none⟩=some ↑p.id at p0;have p1:=oA.cell 1;change World.cell? _ ⟨w.heap.size,1,none⟩=some ↑p.fl at p1;have p2:=oA.cell 2;change World.cell? _ ⟨w.heap.size,2,none⟩=some ↑p.len at p2;have p3:=oA.cell 3;change World.cell? _ ⟨w.heap.size,3,none⟩=some ↑p.ar at p3;have p4:=oA.cell 4;change World.cell? _ ⟨w.heap.size,4,none⟩=some ↑p.dl at p4;have hlen:=hp.len;unfold rP at hv⊢;obtain⟨n,hn0⟩:=aP q.P.length;obtain⟨B,hB0⟩:=aP (bE q.P);have HN:=az hn0;have HB:=az hB0;rw[hn0]at o1 hn oA hv hfull;rw[hB0]at o1 hb oA hv hfull;clear hn0 hB0 o1 hp o;have d1:=bW (show¬(q.mo<=(n:Int))by omega);have d2:=bW (show¬(q.mb<B+p.len)by omega);clear hfull;go_enter func67,ntmps67;go_wp2_with fail;refine hv.mono ?_;rintro e1 w1⟨rfl,o2,k2⟩;have K2:=K1.trans k2;clear hv p0 p1 p2 p3 p4 oA k2;have p0:=o2.cell 0;change World.cell? _ ⟨w.heap.size,0,none⟩=some ↑p.id at p0;have p1:=o2.cell 1;change World.cell? _ ⟨w.heap.size,1,none⟩=some ↑p.fl at p1;have p2:=o2.cell 2;change World.cell? _ ⟨w.heap.size,2,none⟩=some ↑p.len at p2;have p3:=o2.cell 3;change World.cell? _ ⟨w.heap.size,3,none⟩=some ↑p.ar at p3;have p4:=o2.cell 4;change World.cell? _ ⟨w.heap.size,4,none⟩=some ↑p.dl at p4;obtain⟨cf,cl,c0,c1,c2,c3,-⟩:=(o2.up 1).cs;go_upto_region 3 with fail;go_quiet(fail);go_upto_region 5 with fail;have oX:Own ((w1.drewN (nq+1)).alloc (.cells #[p.id,p.fl,p.len,p.ar,p.dl] 170)) (aH w1.heap.size 170 (bR p)::_):=(o2.drewN (nq+1)).alloc (.cells #[p.id,p.fl,p.len,p.ar,p.dl] 170);have hone:∀u∈bR p,u.oneCell'=true:=by intro u hu;simp only[bR,jc,xN,or_false]at hu;rcases hu with rfl|rfl|rfl|rfl|rfl<;>rfl
 have hnw:=Own.news (T:=170) (vs:=bR p) oX;have x2:=(oX.up 2).cell 2
 go_region_law(first
  |(refine gD rfl _ _ rfl Tryz.pktT rfl (oX.up 3) rfl ⟨_,_,rfl,rfl,hone,.inr ⟨_,rfl,hnw⟩⟩ (by unfold maxLen;omega) (by omega) ?_;intro a2 c2 w5 o5 k5;have f2:=(o5.up 3).cell 2;have f3:=(o5.up 3).cell 3;have e2:=(o5.up 2).cell 2;have ff:=(o5.up 3).frozen;have fl:=(o5.up 3).aS)
  |(go_simp;trace_state;fail))
 all_goals
  have o6:=(o5.up 3).setCell 2 (.slice a2 (n+1) c2);have e3:=(o6.up 3).cell 2;change World.cell? _ ⟨w.heap.size,2,none⟩=some ↑p.len at e3;have hwr:IntKind.i64.wrap (B+p.len)=B+p.len:=by rw[gB];omega
  have o7:=(o6.setCell 3 (B+p.len:Int)).drew;go_upto_region 6 with fail;go_region_law(fail)
 all_goals
  go_wp2;go_ret
 all_goals
  have o8:Own _ (aH b 204 [q.mo,q.mb,.slice a2 (n+1) c2,(B+p.len:Int)]::slc 170 5 a2 (n+1) c2 (flat bR q.P++bR p)::R):=o7.re [2,3] 2
  have oF:Own _ (dQ b ⟨q.mo,q.mb,q.P++[p]⟩::R):=dQ.iff.2 ⟨a2,c2,by
   rw[jf,HN.out,Fu,HB.out,aO,show bE [p]=p.len from Int.add_zero _,show flat bR [p]=bR p from List.append_nil _]
   exact o8⟩
  have K9:=(K2.dn _).trans k5.al;exact⟨rfl,oF,⟨K9.os,K9.tape,K9.output⟩⟩
theorem Ls{p:iA}(hp:N8 p)(hn:q.P.length<=100000)(hb:0<=bE q.P/\bE q.P<=1000000000)(o:Own w (dQ b q::R)):
  Calls prog 67 #[b,rP p] w (aR (.int .i64 (Fq q p)) (dQ b (CW q p)::R) w):=by
 by_cases h:q.mo<=(q.P.length:Nat)\/q.mb<bE q.P+p.len
 ·have he:Fq q p=4:=if_pos h;have hq:CW q p=q:=if_neg (by rw[he];omega);rw[he,hq];exact Lp hp h hn hb o
 ·have he:Fq q p=0:=if_neg h;have hq:CW q p=⟨q.mo,q.mb,q.P++[p]⟩:=if_pos he;rw[he,hq];exact Lr hp h hn hb o
def Q6:iA:=⟨0,0,0,0,0⟩
def BD(P:List iA):aL:=.tuple #[rP (P.headD Q6),.bool (!P.isEmpty)]
theorem tO(hn:q.P.length<=100000)(o:Own w (dQ b q::R)):
  Calls prog 146 #[b] w (aR (BD q.P) (dQ b q::R) w):=by
 have oN:=o.more (.cells (bR Q6).toArray 170);obtain⟨a,c,o1⟩:=dQ.iff.1 o;obtain⟨-,hbl,-,-,c2,-⟩:=o1.cs;cases hP:q.P with
 |nil=>
  rw[hP]at o1 c2;go_enter func146,ntmps146;go_wp2
  (try simp only[Exit.inBlock,Exit.then])
  refine bodyPost_ret (v:=BD []) ?_ rfl ⟨rfl,?_,⟨rfl,rfl,rfl⟩⟩
  ·rw[results_cell_tmp rfl];go_simp;rfl
  ·exact o.more _
 |cons p L=>
  have hl:q.P.length=L.length+1:=by rw[hP];rfl
  obtain⟨g,rfl,hc,_,hgl⟩:=(o1.up 1).aG (by omega);have hs:q.P[0]?=some p:=by rw[hP];rfl
  have d0:=hc (0*5+0) p.id (by rw[aB aT q.P 0 0 p hs (by omega)];rfl);have d1:=hc (0*5+1) p.fl (by rw[aB aT q.P 0 1 p hs (by omega)];rfl);have d2:=hc (0*5+2) p.len (by rw[aB aT q.P 0 2 p hs (by omega)];rfl);have d3:=hc (0*5+3) p.ar (by rw[aB aT q.P 0 3 p hs (by omega)];rfl);have d4:=hc (0*5+4) p.dl (by rw[aB aT q.P 0 4 p hs (by omega)];rfl);rw[Nat.zero_mul,Nat.zero_add]at d0 d1 d2 d3 d4;rw[hl]at c2;have hm:L.length+1<=100000:=by omega
  clear hc hs hl hP hn;generalize L.length=n at*;have hn0:((n+1:Nat):Int)≠0:=by omega
  go_enter func146,ntmps146;go_wp2
  (try simp only[Exit.inBlock,Exit.then])
  refine bodyPost_ret (v:=BD (p::L)) ?_ rfl ⟨rfl,?_,⟨rfl,rfl,rfl⟩⟩
  ·rw[results_cell_tmp rfl];go_simp;rfl
  ·exact o.more _
theorem ay{x:Addr}{v:aL}(h:Calm w w'):Calm w (w'.setCell x v):=⟨h.os,h.tape,h.output⟩
theorem aj{x:Obj}(h:Calm w w'):Calm w (w'.alloc x):=⟨h.os,h.tape,h.output⟩
def adz(P:List iA):aL:=.tuple #[rP (P.headD Q6),(if P.isEmpty then 5 else 0:Int)]
theorem N_{p:iA}{L:List iA}(hP:q.P=p::L)(hn:q.P.length<=100000)(hb:0<=bE L/\bE L<=1000000000)(o:Own w (dQ b q::R)):
  Calls prog 97 #[b] w (aR (adz (p::L)) (dQ b ⟨q.mo,q.mb,L⟩::R) w):=by
 obtain⟨mo,mb,P⟩:=q;dsimp only at hP hn⊢;subst hP;obtain⟨n,hn0⟩:=aP L.length;obtain⟨B,hB0⟩:=aP (bE L);have hl:(p::L).length=n+1:=by rw[<-hn0];rfl
 have hN1:n+1<=100000:=by omega
 have HD:=az fun(w1:aF)(R1:aJ)(a:aY)(c:Nat)(o1:Own w1 (slc 170 5 a (n+1) c (flat bR (p::L))::R1))=>show Calls prog 147 #[.slice a (n+1) c,aC,(1:Int)] w1 (aR (.slice a n c) (slc 170 5 a n c (flat bR L)::R1) w1)from NY (i:=0) hl.symm (by omega) hN1 o1;have oN:=(o.alloc (.cells #[aC,aC,aC,aC,aC] 170)).swap;have hH:=tO hn oN;unfold BD at hH;have hz:rP ((p::L).headD Q6)=.agg #[p.id,p.fl,p.len,p.ar,p.dl]:=rfl;have hz2:(!(p::L).isEmpty)=true:=rfl;dsimp only at hH;rw[hz,hz2]at hH;clear hz hz2 hn;go_enter func97,ntmps97;go_wp2_with fail;refine hH.mono ?_;clear hH;rintro e1 w1⟨rfl,o1,k1⟩;obtain⟨a,c,o2⟩:=dQ.iff.1 o1;dsimp only at o2;rw[hl]at o2;have oA:=o2.alloc (.cells #[p.id,p.fl,p.len,p.ar,p.dl] 170);obtain⟨-,hb,-,-,c2,-⟩:=(oA.up 1).cs;go_wp2_with fail;refine(HD.out _ _ a c (oA.up 2)).mono ?_;rintro e3 w3⟨rfl,o3,k3⟩;obtain⟨cf,cl,-,-,c2,c3,-⟩:=(o3.up 2).cs;have oB:=(o3.up 2).setCell 2 (.slice a n c);have y2:=(oB.up 2).cell 2;change World.cell? _ ⟨w1.heap.size,2,none⟩=some ↑p.len at y2;have hby:bE (p::L)=p.len+B:=by rw[<-hB0];rfl
 rw[hby]at c3;have hwr:IntKind.i64.wrap (p.len+B-p.len)=B:=by rw[show p.len+B-p.len=B by omega,gB];omega
 have oC:=(oB.setCell 3 (.int .i64 B)).drew;have y0:=(oC.up 2).cell 0;change World.cell? _ ⟨w1.heap.size,0,none⟩=some ↑p.id at y0;have y1:=(oC.up 2).cell 1;change World.cell? _ ⟨w1.heap.size,1,none⟩=some ↑p.fl at y1;have y2':=(oC.up 2).cell 2;change World.cell? _ ⟨w1.heap.size,2,none⟩=some ↑p.len at y2';have y3:=(oC.up 2).cell 3;change World.cell? _ ⟨w1.heap.size,3,none⟩=some ↑p.ar at y3;have y4:=(oC.up 2).cell 4;change World.cell? _ ⟨w1.heap.size,4,none⟩=some ↑p.dl at y4;have oD:=oB.setCell 3 (.int .i64 B);obtain⟨-,-,u0,u1,u2,u3,u4,-⟩:=Own.cs (T:=170) (oD.up 3);have oZ:=((((((oD.up 3).setCell 0 p.id).setCell 1 p.fl).setCell 2 p.len).setCell 3 p.ar).setCell 4 p.dl).drew;have zf4:=Own.frozen (T:=170) (oD.up 3);have zf3:=Own.frozen (T:=170) (o3.up 3);go_upto_region 5 with fail;go_region_law(fail);all_goals go_wp2
 all_goals
  (try simp only[Exit.inBlock,Exit.then])
  refine bodyPost_ret (v:=adz (p::L)) ?_ rfl ⟨rfl,?_,?_⟩
  ·rw[results_cell_tmp rfl];go_simp;rfl
  ·have o9:Own _ (aH b 204 [mo,mb,.slice a n c,.int .i64 B]::slc 170 5 a n c (flat bR L)::R):=oZ.re [0,3] 2;refine dQ.iff.2 ⟨a,c,?_⟩;rw[hn0,hB0];exact o9
  ·exact aD (ay (ay (ay (ay (ay (ay (ay ((k1.al.trans (aj (Calm.refl w1))).trans k3))))))))
end
section
variable{w w':aF}{R:aJ}
def dst(a b:Int):Int:=(b-a+65536)%65536
structure fK(a:Int):Prop where
 l:0<=a
 u:a<65536
theorem vP(a b:Int):0<=dst a b:=Int.emod_nonneg _ (by omega)
theorem Q7(a b:Int):dst a b<65536:=Int.emod_lt_of_pos _ (by omega)
def f_(a b:Int):Bool:=decide (1<=dst a b)&&decide (dst a b<32768)
def xk(a n b:Int):Bool:=decide (dst a b<n)
theorem qZ{a:Int}(h:fK a):Calls prog 149 #[a] w (bN (.bool true) w):=by have d1:decide (0<=a)=true:=bz h.l;have d2:decide (a<65536)=true:=bz h.u;clear h;go_enter func149,ntmps149;go_wp2;go_ret;exact⟨rfl,rfl⟩
theorem II{a b:Int}(ha:fK a)(hb:fK b):Calls prog 204 #[a,b] w (bN (.int .i64 (dst a b)) w):=by
 have h1:=ha.l;have h2:=ha.u;have h3:=hb.l;have h4:=hb.u;have q1:IntKind.i64.wrap (b-a)=b-a:=by rw[gB];omega
 have q2:IntKind.i64.wrap (b-a+65536)=b-a+65536:=by rw[gB];omega
 have q3:(b-a+65536)%65536=dst a b:=rfl;have q4:(b-a+65536).tmod 65536=dst a b:=Int.tmod_eq_emod_of_nonneg (by omega);have q5:IntKind.i64.wrap (dst a b)=dst a b:=by have:=vP a b;have:=Q7 a b;rw[gB];omega
 go_enter func204,ntmps204;go_wp2;go_ret;exact⟨rfl,rfl⟩
theorem fC{a b:Int}(ha:fK a)(hb:fK b):Calls prog 154 #[a,b] w (bN (.tuple #[(dst a b:Int),aC]) w):=by have c1:=qZ (w:=w) ha;have c2:=qZ (w:=w) hb;have c3:=II (w:=w) ha hb;go_enter func154,ntmps154;go_wp2_with fail;refine c1.mono ?_;rintro e1 w1⟨rfl,rfl⟩;go_wp2_with fail;refine c2.mono ?_;rintro e1 w1⟨rfl,rfl⟩;go_wp2_with fail;refine c3.mono ?_;rintro e1 w1⟨rfl,rfl⟩;go_wp2;go_ret2;exact⟨rfl,rfl⟩
theorem vQ{a b:Int}(ha:fK a)(hb:fK b):Calls prog 158 #[a,b] w (bN (.bool (f_ a b)) w):=by
 have c3:=fC (w:=w) ha hb;unfold f_;obtain⟨D,hD⟩:=aP (dst a b);rw[hD]at c3⊢;clear hD;obtain⟨A,hA⟩:=aP (decide (1<=D));obtain⟨B,hB⟩:=aP (decide (D<32768));rw[hA,hB];go_enter func158,ntmps158;go_wp2_with fail;refine c3.mono ?_;rintro e1 w1⟨rfl,rfl⟩;clear c3;cases A<;>cases B<;>
 ·go_wp2;go_ret;exact⟨rfl,rfl⟩
theorem Oa{a n b:Int}(ha:fK a)(hb:fK b)(h1:1<=n)(h2:n<=64):Calls prog 156 #[a,n,b] w (bN (.bool (xk a n b)) w):=by
 have c3:=fC (w:=w) ha hb;unfold xk;obtain⟨D,hD⟩:=aP (dst a b);rw[hD]at c3⊢;clear hD;have d1:decide (1<=n)=true:=bz h1;have d2:decide (n<=64)=true:=bz h2;obtain⟨B,hB⟩:=aP (decide (D<n));rw[hB];clear h1 h2;go_enter func156,ntmps156;go_wp2_with fail;refine c3.mono ?_;rintro e1 w1⟨rfl,rfl⟩;clear c3;cases B<;>
 ·go_wp2;go_ret;exact⟨rfl,rfl⟩
def EE(a n:Int):Int:=(a+n+65536)%65536
theorem EF(a n:Int):fK (EE a n):=⟨Int.emod_nonneg _ (by omega),Int.emod_lt_of_pos _ (by omega)⟩
theorem vR{a n:Int}(ha:fK a)(h1:0<=n)(h2:n<=64):Calls prog 99 #[a,n] w (bN (.tuple #[(EE a n:Int),aC]) w):=by
 have c1:=qZ (w:=w) ha;have h3:=ha.l;have h4:=ha.u;have q1:IntKind.i64.wrap (a+n)=a+n:=by rw[gB];omega
 have q2:IntKind.i64.wrap (a+n+65536)=a+n+65536:=by rw[gB];omega
 have q3:(a+n+65536)%65536=EE a n:=rfl;have q4:(a+n+65536).tmod 65536=EE a n:=Int.tmod_eq_emod_of_nonneg (by omega);have q5:IntKind.i64.wrap (EE a n)=EE a n:=by have:=(EF a n).l;have:=(EF a n).u;rw[gB];omega
 have d1:=bW (show¬(n< -65536)by omega);have d2:=bW (show¬(65536<n)by omega);go_enter func99,ntmps99;go_wp2_with fail;refine c1.mono ?_;rintro e1 w1⟨rfl,rfl⟩;go_wp2;go_ret2;exact⟨rfl,rfl⟩
def Q8(b:Int)(U:Nat):aL:=.agg #[b,.int .u64 (U:Int)]
def hasB(b:Int)(U:Nat)(a:Int):Bool:=decide (dst b a<64)&&U.testBit (dst b a).toNat
def xE(b:Int)(U:Nat)(a:Int):Nat:=U|||2^(dst b a).toNat
theorem Q9{b:Int}{U:Nat}(hb:fK b)(o:Own w R):Calls prog 161 #[Q8 b U] w (aR (.bool true) R w):=by have c1:=fun w=>qZ (w:=w) hb;have o1:Own _ (aH w.heap.size 253 _::R):=o.alloc (.cells #[b,.int .u64 (U:Int)] 253);have f0:=o1.cell 0;unfold Q8;go_enter func161,ntmps161;go_wp2_with fail;refine(c1 _).mono ?_;rintro e1 w1⟨rfl,rfl⟩;go_wp2;go_ret;exact⟨rfl,o1.drop,⟨rfl,rfl,rfl⟩⟩
theorem and_one(U k:Nat)(hU:U<18446744073709551616):(bits BinOp.and IntKind.u64 ((U:Int)/2^k) 1==1)=U.testBit k:=by
 have h1:((U:Int)/2^k)=((U/2^k:Nat):Int):=by simp
 have h2:bits BinOp.and IntKind.u64 ((U/2^k:Nat):Int) ((1:Nat):Int)=(((U/2^k)&&&1:Nat):Int):=bits_and_u64_nat _ _ (Nat.lt_of_le_of_lt (Nat.div_le_self _ _) hU) (by omega);rw[h1];rw[show(1:Int)=((1:Nat):Int)from rfl,h2,Nat.testBit_eq_decide_div_mod_eq,Nat.and_one_is_mod];generalize U/2^k%2=m;by_cases hm:m=1
 ·subst hm;rfl
 ·rw[bW hm,Ec];omega
theorem or_bit(U k:Nat)(hU:U<18446744073709551616)(hk:k<64):bits BinOp.or IntKind.u64 (U:Int) (IntKind.u64.wrap (2^k))=((U|||2^k:Nat):Int):=by
 have hp:2^k<18446744073709551616:=Nat.lt_of_lt_of_le (Nat.pow_lt_pow_right (by omega) hk) (by decide);have hw:IntKind.u64.wrap (2^k)=((2^k:Nat):Int):=by
  have hc:((2:Int)^k)=((2^k:Nat):Int):=by simp
  rw[hc];generalize 2^k=P at hp;rw[IntKind.wrap_u64];omega
 rw[hw];exact bits_or_u64_nat _ _ hU hp
theorem Q_{b a:Int}{U:Nat}(hb:fK b)(ha:fK a)(hU:U<18446744073709551616)(o:Own w R):Calls prog 163 #[Q8 b U,a] w (aR (.bool (hasB b U a)) R w):=by
 have c1:=fun w=>fC (w:=w) hb ha;have o1:Own _ (aH w.heap.size 253 _::R):=o.alloc (.cells #[b,.int .u64 (U:Int)] 253);obtain⟨-,-,f0,f1,-⟩:=o1.cs;unfold Q8 hasB;have h0:=vP b a;obtain⟨D,hD⟩:=aP (dst b a);rw[hD]at c1 h0⊢;clear hD;obtain⟨k,rfl⟩:∃k:Nat,D=(k:Int):=⟨D.toNat,by omega⟩;rw[Int.toNat_natCast];by_cases hk:(k:Int)<64
 ·have HA:=az (and_one U k hU);rw[bz hk,Bool.true_and];go_enter func163,ntmps163;go_wp2_with fail;refine(c1 _).mono ?_;rintro e1 w1⟨rfl,rfl⟩;go_wp2;rw[HA.out];go_ret;exact⟨rfl,o1.drop,⟨rfl,rfl,rfl⟩⟩
 ·rw[bW hk,Bool.false_and];go_enter func163,ntmps163;go_wp2_with fail;refine(c1 _).mono ?_;rintro e1 w1⟨rfl,rfl⟩;go_wp2;go_ret;exact⟨rfl,o1.drop,⟨rfl,rfl,rfl⟩⟩
theorem Ra{b a:Int}{U:Nat}(hb:fK b)(ha:fK a)(hU:U<18446744073709551616)(hk:dst b a<64)(o:Own w R):Calls prog 164 #[Q8 b U,a] w (aR (.tuple #[Q8 b (xE b U a),aC]) R w):=by
 have c1:=fun w=>fC (w:=w) hb ha;have o1:Own _ (aH w.heap.size 253 _::R):=o.alloc (.cells #[b,.int .u64 (U:Int)] 253);have o2:=o1.alloc (.cells #[aC,.int .u64 0] 253);obtain⟨ff,-,f0,f1,-⟩:=(o2.up 1).cs;have h0:=vP b a;unfold Q8 xE;obtain⟨D,hD⟩:=aP (dst b a);rw[hD]at c1 h0 hk⊢;clear hD;obtain⟨k,rfl⟩:∃k:Nat,D=(k:Int):=⟨D.toNat,by omega⟩;rw[Int.toNat_natCast];have HA:=az (or_bit U k hU (by omega));have d1:=bW (show¬(64<=(k:Int))by omega);go_enter func164,ntmps164;go_wp2_with fail;refine(c1 _).mono ?_;rintro e1 w1⟨rfl,rfl⟩;go_wp2_with fail;go_upto_region 6 with fail;go_region_law(fail);rw[HA.out];go_wp2
 (try simp only[Exit.inBlock,Exit.then])
 refine bodyPost_ret (v:=.tuple #[Q8 b (U|||2^k),aC]) ?_ rfl ⟨rfl,?_,?_⟩
 ·rw[results_cell_tmp rfl];go_simp;rfl
 ·exact((o.more _).more _).drew
 ·exact aD ⟨rfl,rfl,rfl⟩
end
section
variable{w w':aF}{R:aJ}{b:Nat}
structure lX where
 seq:Int
 id:Int
 tr:Int
structure sH where
 win:Int
 tries:Int
 next:Int
 P:List lX
def b_(p:lX):dw:=[p.seq,p.id,p.tr]
def Fv(p:lX):aL:=.agg #[p.seq,p.id,p.tr]
theorem bu(p:lX):(b_ p).length=3:=rfl
theorem Tryz.pndT:bS prog 255 258 3 24:=bS.mk' underlying255 (z:=.agg #[aC,aC,aC]) (by kernel_rfl) (by kernel_rfl) (by omega)
theorem Ob(L:List lX):∀u∈flat b_ L,u.oneCell'=true:=by intro u hu;obtain⟨s,_,hs⟩:=List.mem_flatMap.1 hu;simp only[b_,jc,xN,or_false]at hs;rcases hs with rfl|rfl|rfl<;>rfl
def dP(b:Nat)(s:sH):SP:=ex fun(p:aY×Nat)=>st [aH b 271 [s.win,s.tries,s.next,.slice p.1 s.P.length p.2],slc 258 3 p.1 s.P.length p.2 (flat b_ s.P)]
theorem dP.iff{s:sH}:Own w (dP b s::R)↔∃a c,Own w (aH b 271 [s.win,s.tries,s.next,.slice a s.P.length c]::slc 258 3 a s.P.length c (flat b_ s.P)::R):=by
 constructor
 ·intro o;obtain⟨⟨a,c⟩,h⟩:=Own.ex.1 o;exact⟨a,c,Own.st.1 h⟩
 ·rintro⟨a,c,h⟩;exact Own.ex.2 ⟨(a,c),Own.st.2 h⟩
structure sH.Ok(s:sH):Prop where
 w1:1<=s.win
 w2:s.win<=64
 t1:1<=s.tries
 t2:s.tries<=16
 nx:fK s.next
 ps:∀p∈s.P,fK p.seq
 tr:∀p∈s.P,0<=p.tr/\p.tr<=s.tries
 len:s.P.length<=64
theorem Oc{m n:Int}(h1:1<=m)(h2:m<=64)(h3:1<=n)(h4:n<=16)(o:Own w R):Calls prog 73 #[.int .i64 m,.int .i64 n] w
  fun e w'=>∃b,aR (.tuple #[.pointer (some ⟨b,0,none⟩),.int .i64 0]) (dP b ⟨m,n,0,[]⟩::R) w e w':=by
 have oA:=o.alloc (.cells #[.int .i64 m,.int .i64 n,.int .i64 0,.slice none 0 0] 271);go_enter func73,ntmps73;go_wp2;go_ret2;exact⟨_,rfl,dP.iff.2 ⟨none,0,(Own.bH oA).re [1,0]⟩,⟨rfl,rfl,rfl⟩⟩
def dV(s:sH):Int:=match s.P with
 |[]=>s.next
 |p::_=>p.seq
theorem qb{s:sH}(h:s.Ok):fK (dV s):=by
 unfold dV;split
 ·exact h.nx
 ·rename_i p l he;exact h.ps p (by rw[he];simp)
theorem pO{s:sH}(hs:s.Ok)(o:Own w (dP b s::R)):Calls prog 107 #[b] w (bN (.int .i64 (dV s)) w):=by
 obtain⟨a,c,o1⟩:=dP.iff.1 o;obtain⟨-,-,-,-,c2,c3,-⟩:=o1.cs;have hl:=hs.len;clear o hs;unfold dV;cases hP:s.P with
 |nil=>rw[hP]at c3;go_enter func107,ntmps107;go_wp2;go_ret;exact⟨rfl,rfl⟩
 |cons p L=>
  have hL:s.P.length=L.length+1:=by rw[hP];rfl
  obtain⟨g,rfl,hc,_,hgl⟩:=(o1.up 1).aG (by omega);have d0:=hc (0*3+0) p.seq (by rw[aB bu s.P 0 0 p (by rw[hP];rfl) (by omega)];rfl);rw[Nat.zero_mul,Nat.zero_add]at d0;rw[hL]at c3 hl;clear hc hL hP;generalize L.length=n at*;have hn0:((n+1:Nat):Int)≠0:=by omega
  go_enter func107,ntmps107;go_wp2;go_ret;exact⟨rfl,rfl⟩
def ow(s:sH)(q:Int):Int:=dst (dV s) q
theorem rQ{s:sH}{q:Int}(hs:s.Ok)(hq:fK q)(o:Own w (dP b s::R)):Calls prog 162 #[b,q] w (bN (.int .i64 (ow s q)) w):=by have hB:=pO hs o;have hD:=fC (w:=w) (qb hs) hq;unfold ow;generalize dV s=B at*;go_enter func162,ntmps162;go_wp2_with fail;refine hB.mono ?_;rintro e1 w1⟨rfl,rfl⟩;go_wp2_with fail;refine hD.mono ?_;rintro e1 w1⟨rfl,rfl⟩;go_wp2;go_ret;exact⟨rfl,rfl⟩
def xQ(s:sH):Bool:=decide (ow s s.next<s.win)
theorem pQ{s:sH}(hs:s.Ok)(o:Own w (dP b s::R)):Calls prog 148 #[b] w (aR (.bool (xQ s)) (dP b s::R) w):=by
 have hB:=rQ hs hs.nx o.drew;obtain⟨a,c,o1⟩:=dP.iff.1 o;obtain⟨-,-,c0,-,c2,-⟩:=o1.cs;unfold xQ;generalize ow s s.next=D at*;go_enter func148,ntmps148;go_upto_region 1 with fail
 go_region_law(first
  |(go_simp;refine Calls.mono hB ?_;rintro _ _⟨rfl,rfl⟩))
 all_goals
  go_wp2;go_ret;exact⟨rfl,o.drew,Calm.d1 (Calm.refl w)⟩
end
section
variable{w w':aF}{R:aJ}{b kb n c:Nat}{a:aY}{L:List lX}
def BF(L:List lX)(q:Int):Int:=match L.findIdx? (fun p=>p.seq==q)with
 |some i=>(i:Int)
 |none=>-1
theorem Rb{p:lX}{q:Int}(o:Own w (aH kb 3 [q]::R)):Calls prog 198 #[Fv p,kb] w (aR (.bool (p.seq==q)) (aH kb 3 [q]::R) w):=by have oA:Own _ (aH w.heap.size 258 [p.seq,p.id,p.tr]::_):=o.alloc (.cells #[p.seq,p.id,p.tr] 258);have c0:=oA.cell 0;have k0:=(oA.up 1).cell 0;have kl:=o.aS;unfold Fv;go_enter func198,ntmps198;go_wp2;go_ret;exact⟨rfl,oA.drop,⟨rfl,rfl,rfl⟩⟩
def aeV(L:List lX)(q:Int)(n:Nat)(l:aJ)(w:aF)(v:aL)(wr:aF):Prop:=
 ∃i:Nat,v=↑(i:Int)/\i<=n/\(∀j,j<i->∀p,L[j]?=some p->p.seq≠q)/\Own wr l/\Calm w wr
theorem Od{q:Int}(hn:n=L.length)(hl:n<=64)(o:Own w (slc 258 3 a n c (flat b_ L)::aH kb 3 [q]::R)):
  Calls prog 197 #[.slice a n c,.func (.func 198) #[] #[kb]] w
   (aR (.int .i64 (BF L q)) (slc 258 3 a n c (flat b_ L)::aH kb 3 [q]::R) w):=by
 have HN:=az hn;clear hn;obtain⟨l,hle⟩:=aP (slc 258 3 a n c (flat b_ L)::aH kb 3 [q]::R);have HL:=az hle;rw[hle]at o⊢;clear hle;go_enter func197,ntmps197;go_wp2;go_loopw[5,8] (fun _ v8 wr=>aeV L q n l w v8 wr) (fun _ v _=>n-(Lib.intOf v).toNat);case atStart=>exact⟨0,rfl,by omega,fun j hj=>absurd hj (Nat.not_lt_zero _),o,Calm.refl w⟩
 case round=>
  obtain⟨i,rfl,hi,hno,oR,kR⟩:=hrel;by_cases hil:i<n
  ·obtain⟨p,hp⟩:∃p,L[i]?=some p:=⟨_,cZ (by rw[<-HN.out];exact hil)⟩;have o2:=oR;rw[<-HL.out]at o2;obtain⟨g,rfl,hc,_,hgl⟩:=o2.aG (by omega);have d0:=hc (i*3+0) p.seq (by rw[aB bu L i 0 p hp (by omega)];rfl);have d1:=hc (i*3+1) p.id (by rw[aB bu L i 1 p hp (by omega)];rfl);have d2:=hc (i*3+2) p.tr (by rw[aB bu L i 2 p hp (by omega)];rfl);rw[Nat.add_zero]at d0;have hf:=Rb (p:=p) (o2.up 1);unfold Fv at hf;clear hc;obtain⟨Z,hZ⟩:=aP ((p.seq==q));have HZ:=az hZ;rw[hZ]at hf;clear hZ;go_wp2_with fail;refine hf.mono ?_;rintro e1 w1⟨rfl,o3,k3⟩;have o4:Own w1 l:=by have:=o3.Ll 1;rw[<-HL.out];exact this
   clear o3 hf o2 d0 d1 d2;cases Z with
   |true=>
    have HF:=az (show BF L q=(i:Int)from by
     have h1:L.findIdx? (fun p=>p.seq==q)=some i:=by
      rw[List.findIdx?_eq_some_iff_getElem];obtain⟨hlt,he⟩:=eU.1 hp;refine⟨hlt,?_,fun j hj=>?_⟩
      ·rw[he];exact HZ.out
      ·have h2:=hno j hj _ (cZ (by omega));simpa using h2
     unfold BF
     rw[h1])
    clear HZ hp hno;go_wp2;go_ret;exact⟨by rw[HF.out];rfl,o4,kR.trans k3⟩
   |false=>
    have hq:p.seq≠q:=by simpa using HZ.out
    have HX:=az (show∀j,j<i+1->∀p,L[j]?=some p->p.seq≠q from fun j hj x hx=>by
     by_cases he:j=i
     ·subst he;rw[hp]at hx;cases hx;exact hq
     ·exact hno j (by omega) x hx)
    clear HZ hp hno hq;go_wp2;go_roundw;case rel=>exact⟨i+1,by go_num,by omega,HX.out,o4,kR.trans k3⟩
    case measure=>simp[Lib.intOf];omega
  ·have hin:i=n:=by omega
   have HF:=az (show BF L q=-1 from by
    have h1:L.findIdx? (fun p=>p.seq==q)=none:=by rw[List.findIdx?_eq_none_iff];intro x hx;obtain⟨j,hj,rfl⟩:=List.getElem_of_mem hx;have h2:=hno j (by rw[hin,HN.out];exact hj) _ (cZ hj);simpa using h2
    unfold BF
    rw[h1])
   subst hin;clear hno;go_wp2;go_ret;exact⟨by rw[HF.out];rfl,oR,kR⟩
end
section
variable{w w':aF}{R:aJ}{b:Nat}{s:sH}
theorem zO{q:Int}(hs:s.Ok)(o:Own w (dP b s::R)):
  Calls prog 150 #[b,q] w (aR (.int .i64 (BF s.P q)) (dP b s::R) w):=by
 have oA:Own _ (aH w.heap.size 3 [q]::_):=o.alloc (.cells #[q] 3);obtain⟨a,c,o1⟩:=dP.iff.1 (oA.up 1);have hI:=Od rfl hs.len (o1.re [1,2]);have c3:=o1.cell 3;clear hs;go_enter func150,ntmps150;go_wp2_with fail;refine hI.mono ?_;rintro e1 w1⟨rfl,o2,k2⟩;go_wp2;go_ret;exact⟨rfl,dP.iff.2 ⟨a,c,o2.re [1,2,0] 1⟩,k2.al⟩
def Fw(s:sH)(id:Int):sH:=⟨s.win,s.tries,EE s.next 1,s.P++[⟨s.next,id,0⟩]⟩
theorem Yk{id:Int}(hid:1<=id)(hs:s.Ok)(hop:xQ s=false)(o:Own w (dP b s::R)):
  Calls prog 98 #[b,id] w (aR (.tuple #[aC,(4:Int)]) (dP b s::R) w):=by
 have hO:=pQ hs o;rw[hop]at hO;clear hop hs;go_enter func98,ntmps98;go_wp2_with fail;refine hO.mono ?_;rintro e1 w1⟨rfl,o2,k2⟩;go_wp2;go_ret2;exact⟨rfl,o2,k2⟩
theorem Lt{id:Int}(hid:1<=id)(hs:s.Ok)(hop:xQ s=true)(o:Own w (dP b s::R)):
  Calls prog 98 #[.pointer (some ⟨b,0,none⟩),.int .i64 id] w (aR (.tuple #[.int .i64 s.next,.int .i64 0]) (dP b (Fw s id)::R) w):=by
 have hO:=pQ hs o;rw[hop]at hO;have hN:=fun w=>vR (w:=w) hs.nx (n:=1) (by omega) (by omega);have hl:=hs.len;clear hop hs;go_enter func98,ntmps98;go_wp2_with fail;refine hO.mono ?_;rintro e1 w1⟨rfl,o2,k2⟩;obtain⟨a,c,o3⟩:=dP.iff.1 o2;have c2:=o3.cell 2;have c3:=o3.cell 3;have cf:=o3.frozen;have cl:=o3.aS;have hone:∀u∈b_ ⟨s.next,id,0⟩,u.oneCell'=true:=by intro u hu;simp only[b_,List.mem_cons,List.not_mem_nil,or_false]at hu;rcases hu with rfl|rfl|rfl<;>rfl
 have oX:Own (w1.alloc (.cells #[.int .i64 s.next,.int .i64 id,.int .i64 0] 258)) (aH w1.heap.size 258 (b_ ⟨s.next,id,0⟩)::_):=o3.alloc (.cells #[.int .i64 s.next,.int .i64 id,.int .i64 0] 258);have hnw:=Own.news (T:=258) (vs:=b_ ⟨s.next,id,0⟩) oX;go_wp2_with(at_builtin;refine aQ rfl _ _ rfl Tryz.pndT rfl (oX.up 2) rfl ⟨_,_,rfl,rfl,hone,.inr ⟨_,rfl,hnw⟩⟩ (by unfold maxLen;omega) (by omega) ?k1);case k1=>intro a2 c5 w5 o5 k5;have f3:=(o5.up 2).cell 3;have f2:=(o5.up 2).cell 2;have ff:=(o5.up 2).frozen;have fl:=(o5.up 2).aS;have hN:=hN (w5.setCell ⟨b,3,none⟩ (.slice a2 (s.P.length+1) c5));have o6:=((o5.up 2).setCell 3 (.slice a2 (s.P.length+1) c5)).setCell 2 (.int .i64 (EE s.next 1));clear c2 c3;go_wp2_with fail;refine hN.mono ?_;rintro e7 w7⟨rfl,rfl⟩;go_wp2;go_ret2;refine⟨rfl,dP.iff.2 ⟨a2,c5,?_⟩,ay (ay ((k2.trans (aj (Calm.refl w1))).trans k5))⟩;have o8:Own _ (aH b 271 [.int .i64 s.win,.int .i64 s.tries,.int .i64 (EE s.next 1),.slice a2 (s.P.length+1) c5]::slc 258 3 a2 (s.P.length+1) c5 (flat b_ s.P++b_ ⟨s.next,id,0⟩)::R):=o6.re [2] 1;unfold Fw;dsimp only;rw[List.length_append,aO,show flat b_ [(⟨s.next,id,0⟩:lX)]=b_ ⟨s.next,id,0⟩from List.append_nil _];exact o8
theorem gZ{α:Type}{g:α->dw}{sz:Nat}(hg:∀x,(g x).length=sz):∀(L:List α)(i j:Nat)(x x':α)(v:aL),L[i]?=some x->j<sz->g x'=(g x).set j v->flat g (L.set i x')=(flat g L).set (i*sz+j) v
 |[],i,j,x,x',v,h,_,_=>by simp at h
 |y::L,0,j,x,x',v,h,hj,he=>by
  obtain rfl:y=x:=by simpa using h
  show g x'++flat g L=(g y++flat g L).set (0*sz+j) v;rw[Nat.zero_mul,Nat.zero_add,List.set_append_left _ _ (by rw[hg];exact hj),he]
 |y::L,i+1,j,x,x',v,h,hj,he=>by
  have ih:=gZ hg L i j x x' v (by simpa using h) hj he;show g y++flat g (L.set i x')=(g y++flat g L).set ((i+1)*sz+j) v;have e:(i+1)*sz+j=sz+(i*sz+j):=by rw[Nat.add_mul];omega
  rw[e,List.set_append_right _ _ (by rw[hg];omega),hg,Nat.add_sub_cancel_left,ih]
def JG(s:sH)(i:Nat)(p:lX):sH:=⟨s.win,s.tries,s.next,s.P.set i ⟨p.seq,p.id,p.tr+1⟩⟩
theorem Rc{q:Int}{i:Nat}{p:lX}(hs:s.Ok)(hi:BF s.P q=(i:Int))(hp:s.P[i]?=some p)(ht:p.tr<s.tries)(o:Own w (dP b s::R)):
  Calls prog 101 #[b,q] w (aR (.tuple #[(p.tr+1:Int),aC]) (dP b (JG s i p)::R) w):=by
 have hF:=zO (q:=q) hs o;rw[hi]at hF;have hl:=hs.len;have h16:=hs.t2;have ht0:=(hs.tr p (mH hp)).1;have hil:=(eU.1 hp).1;obtain⟨n,hn⟩:=aP s.P.length;rw[hn]at hil hl;have hne:(p.tr==s.tries)=false:=by rw[Ec];omega
 have hw:IntKind.i64.wrap (p.tr+1)=p.tr+1:=by rw[gB];omega
 have HN:=az hn;have HP:=az hp;clear hi hs hn hp;go_enter func101,ntmps101;go_wp2_with fail;refine hF.mono ?_;rintro e1 w1⟨rfl,o2,k2⟩;obtain⟨a,c,o3⟩:=dP.iff.1 o2;rw[HN.out]at o3;obtain⟨-,-,-,c1,-,c3,-⟩:=o3.cs;obtain⟨g,rfl,hc,hfz,hgl⟩:=(o3.up 1).aG (by omega);have d2:=hc (i*3+2) p.tr (by rw[aB bu s.P i 2 p HP.out (by omega)];rfl);have hfs:=gZ bu s.P i 2 p ⟨p.seq,p.id,p.tr+1⟩ (.int .i64 (p.tr+1)) HP.out (by omega) rfl;have HS:=az hfs;clear hc hfs;go_upto_region 4 with fail;go_quiet(fail);have oF:=((o3.up 1).drewN nq).iK (i*3+2) (.int .i64 (p.tr+1)) (by rw[aN bu,HN.out];omega);have KF:=ay (x:=⟨g,i*3+2,none⟩) (v:=.int .i64 (p.tr+1)) (k2.dn nq);go_wp2;go_ret2
 have oE:Own _ (dP b (JG s i p)::R):=dP.iff.2 ⟨some ⟨g,0,none⟩,c,by
  unfold JG;dsimp only;rw[List.length_set,HN.out,HS.out]
  exact oF.re [1]⟩
 exact⟨rfl,oE,KF⟩
theorem Tryz.pndZ(w:aF):(zeroValue 258).run prog w=.ok (.agg #[aC,aC,aC]) w:=by kernel_rfl
theorem Fx:∀u∈(Value.agg #[aC,aC,aC]).cells.toList,u.oneCell'=true:=by
 intro u hu;have:u=.int .i64 0:=by simpa[Value.cells]using hu
 subst this;rfl
theorem Oe{a:aY}{n c i:Nat}{L:List lX}(hn:n=L.length)(hi:i<n)(hl:n<=100000)(o:Own w (slc 258 3 a n c (flat b_ L)::R)):
  Calls prog 206 #[.slice a n c,(i:Int),((i:Int)+1:Int)] w
   (aR (.slice a (n-1) c) (slc 258 3 a (n-1) c (flat b_ (L.eraseIdx i))::R) w):=by
 obtain⟨m,rfl⟩:∃m,n=i+1+m:=⟨n-(i+1),by omega⟩;rw[show i+1+m-1=i+m by omega];obtain⟨g,rfl,hc,hf,hgl⟩:=o.aG (by omega);have hnc:=o.fA.2.1;have hcm:=o.fA;have hsplit:flat b_ L=flat b_ (L.take i)++flat b_ (L.drop i):=by rw[<-aO,List.take_append_drop]
 have htl:(flat b_ (L.take i)).length=i*3:=by rw[aN bu,rZ,Nat.min_eq_left (by omega)]
 have oC:Own w (slc 258 3 (some ⟨g,0,none⟩) i c (flat b_ (L.take i))::R):=by rw[hsplit]at o;exact Own.lW o (by omega) htl
 have oD:=oC.drew;have hsrc:∀(ad:aY)(c':Nat),(ad=some ⟨g,(i+1)*3,none⟩\/m=0)->qX w.drew (.slice ad m c') 3 m (flat b_ (L.drop (i+1))):=fun ad c' had=>
  ⟨ad,c',rfl,by rw[aN bu,List.length_drop,<-hn];congr 1;omega,Ob _,by
   rcases had with rfl|h0
   ·right;refine⟨_,rfl,fun j u hu=>?_⟩;have hadd:(⟨g,(i+1)*3,none⟩:Addr).add j=⟨g,(i+1)*3+j,none⟩:=by unfold Addr.add;split<;>simp_all
    rw[hadd];refine hc ((i+1)*3+j) u ?_;have h2:flat b_ L=flat b_ (L.take (i+1))++flat b_ (L.drop (i+1)):=by rw[<-aO,List.take_append_drop]
    have h3:(flat b_ (L.take (i+1))).length=(i+1)*3:=by rw[aN bu,rZ,Nat.min_eq_left (by omega)]
    rw[h2,List.getElem?_append_right (by omega),h3,show(i+1)*3+j-(i+1)*3=j by omega];exact hu
   ·exact .inl h0⟩
 have HS:=az hsrc;have HE:=az (show flat b_ (L.take i)++flat b_ (L.drop (i+1))=flat b_ (L.eraseIdx i)by rw[<-aO,List.eraseIdx_eq_take_drop_succ]);have hb1:(i:Int)<=(c:Int):=by omega
 have hb2:(i:Int)+1<=(c:Int):=by omega
 have hb5:(i:Int)<=(i:Int)+1:=by omega
 have hb6:0<=(i:Int)+1:=by omega
 have hb7:(i:Int)+1<=(i:Int)+1+(m:Int):=by omega
 have hb3:i<=c:=by omega
 have hb4:i+1<=c:=by omega
 have hne:((i:Int)==(i:Int)+1)=false:=by simpa using(by omega:¬(i:Int)=(i:Int)+1)
 clear hsrc hsplit htl hc hf hn o oC hcm;go_enter func206,ntmps206;by_cases hc1:c=i+1
 ·have hm0:m=0:=by omega
  subst hm0;subst hc1;go_upto_region 5 with fail;go_region_law(first|(refine gY rfl _ _ rfl Tryz.pndT rfl oD rfl (HS.out _ _ (.inr rfl)) (by omega) ?_;intro w5 o5 k5));have o6:Own w5 (slc 258 3 (some ⟨g,0,none⟩) i (i+1) (flat b_ (L.eraseIdx i))::R):=by rw[<-HE.out];exact o5
  obtain⟨w6,hcl,o7,k7⟩:=fB 0 Tryz.pndT Tryz.pndZ rfl Fx o6 (m:=1) (c:=1) (by omega);go_wp2;go_ret;exact⟨rfl,o7,(aD (Calm.refl w)).trans (k5.trans k7)⟩
 ·have hx:=HS.out (some ⟨g,(i+1)*3,none⟩) (c-(i+1)) (.inl rfl);go_upto_region 5 with fail;go_region_law(first|(refine gY rfl _ _ rfl Tryz.pndT rfl oD ?hxx hx (by omega) ?hkk;(case hxx=>go_simp);intro w5 o5 k5));have o6:Own w5 (slc 258 3 (some ⟨g,0,none⟩) (i+m) c (flat b_ (L.eraseIdx i))::R):=by rw[<-HE.out];exact o5
  obtain⟨w6,hcl,o7,k7⟩:=fB 0 Tryz.pndT Tryz.pndZ rfl Fx o6 (m:=i+1+m-(i+m)) (c:=c-(i+m)) (by omega);go_wp2;go_ret;exact⟨rfl,o7,(aD (Calm.refl w)).trans (k5.trans k7)⟩
end
end Go.Proofs.YtfejhikpfhgbeaaGreatDoor
