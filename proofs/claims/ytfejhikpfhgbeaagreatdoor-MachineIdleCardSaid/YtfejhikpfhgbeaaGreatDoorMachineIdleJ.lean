import Derived.ArgAppend
import Derived.Test.YtfejhikpfhgbeaaGreatDoorMachineIdleC
import Derived.Test.YtfejhikpfhgbeaaGreatDoorMachineIdleF
import Derived.Test.YtfejhikpfhgbeaaGreatDoorMachineIdleH
set_option maxHeartbeats 25600000
set_option maxRecDepth 100000
set_option linter.all false
namespace Go.Proofs.YtfejhikpfhgbeaaGreatDoor
open Go.Proofs.Tryz
open Go.RowKit
open SP
section
variable{P:Program}{ops:Array Oper}{Q:Exit->Act->aF->Prop}
theorem Ai:∀(l:List Bool)(i:Nat),l[i]?=some false->(l.set i true).count false<l.count false
 |[],i,h=>by simp at h
 |b::l,0,h=>by simp at h;subst h;simp
 |b::l,i+1,h=>by have:=Ai l i (by simpa using h);simp only[List.set_cons_succ,List.count_cons];omega
theorem v_:∀(l:List Bool),l.count false=0->∀b∈l,b=true
 |[],_,b,h=>by simp at h
 |c::l,h,b,hb=>by
  rw[List.count_cons]at h;have h1:l.count false=0:=by omega
  rcases jc.1 hb with rfl|hb
  ·cases b
   ·simp at h
   ·rfl
  ·exact v_ l h1 b hb
def sN(ops:Array Oper):Bool:=ops.toList.zipIdx.all fun(o,i)=>o.after.all fun e=>!Region.binds .any e||decide (e.on<i)
theorem F9(h:sN ops=true){i:Nat}{o:Oper}(ho:ops[i]?=some o){e:Edge}(he:e∈o.after)(hb:Region.binds .any e=true):e.on<i:=by
 unfold sN at h;rw[List.all_eq_true]at h;have hm:(o,i)∈ops.toList.zipIdx:=by rw[List.mk_mem_zipIdx_iff_getElem?];simpa using ho
 have:=h _ hm;simp only[Array.all_eq_true']at this;have:=this e he;rw[hb]at this;simpa using this
theorem IY(hk:sN ops=true){L:Array Bool}(hs:L.size=ops.size)(h:Region.ready .any ops L=[]):∀i,i<ops.size->L.getD i true=true:=by
 intro i;induction i using Nat.strongRecOn with
 |_ i ih=>
  intro hi;cases hc:L.getD i true with
  |true=>rfl
  |false=>
   exfalso;have hm:i∈Region.ready .any ops L:=by
    rw[mem_ready];refine⟨hc,ops[i],Array.getElem?_eq_getElem hi,fun e he hb=>?_⟩;have hlt:=F9 hk (Array.getElem?_eq_getElem hi) he hb;have:=ih e.on hlt (by omega);have h1:e.on<L.size:=by omega
    simp only[Array.getD,h1,dif_pos]at this⊢;exact this
   rw[h]at hm;cases hm
theorem JY{I:Array Bool->Act->aF->Prop}(hk:sN ops=true)
  (step:∀(L:Array Bool)(i:Nat)(o:Oper)(a:Act)(w:aF),L.size=ops.size->ops[i]?=some o->L.getD i true=false->(∀e∈o.after,Region.binds .any e=true->L.getD e.on false=true)->I L a w->wpOp P ops Q i (I (L.setIfInBounds i true)) a w)
  (fin:∀(L:Array Bool)(a:Act)(w:aF),L.size=ops.size->(∀i,i<ops.size->L.getD i true=true)->I L a w->Q .normal a w):
  ∀(fuel:Nat)(L:Array Bool)(a:Act)(w:aF),L.size=ops.size->L.toList.count false<=fuel->I L a w->wpAny P .any ops Q fuel L a w
 |0,L,a,w,hs,hc,hI=>by
  have hall:∀i,i<ops.size->L.getD i true=true:=by
   intro i hi;have h1:i<L.size:=by omega
   have h2:=v_ L.toList (by omega) L[i] (by simp);simp only[Array.getD,h1,dif_pos];exact h2
  refine⟨?_,fin L a w hs hall hI⟩;cases hr:Region.ready .any ops L with
  |nil=>rfl
  |cons j l=>
   exfalso;have hm:j∈Region.ready .any ops L:=by rw[hr];exact List.mem_cons_self
   obtain⟨h1,o,ho,_⟩:=mem_ready.1 hm;rw[hall j (Ns.1 ho).1]at h1;cases h1
 |fuel+1,L,a,w,hs,hc,hI=>by
  refine⟨fun h=>fin L a w hs (IY hk hs h) hI,fun i hi=>?_⟩;obtain⟨h1,o,ho,h2⟩:=mem_ready.1 hi;refine wpOp_mono (fun a' w' hI'=>?_) (step L i o a w hs ho h1 h2 hI);refine JY hk step fin fuel _ a' w' (by simpa using hs) ?_ hI';have hlt:=(Ns.1 ho).1;have h3:L.toList[i]?=some false:=by
   have h4:i<L.size:=by omega
   simp only[Array.getD,h4,dif_pos]at h1;rw[Array.getElem?_toList,Array.getElem?_eq_getElem h4];exact congrArg some h1
  have:=Ai _ _ h3;rw[Array.toList_setIfInBounds];omega
structure Agree(A0:Act)(ops:Array Oper)(L:Nat->Bool)(v:Nat->aL)(a:Act):Prop where
 defers:a.defers=A0.defers
 size:a.tmps.size=A0.tmps.size
 off:∀t:Nat,(∀k o,ops[k]?=some o->o.dst=some t->L k=false)->a.tmps.getD t undef=A0.tmps.getD t undef
 on:∀(k:Nat)(o:Oper)(t:Nat),ops[k]?=some o->o.dst=some t->L k=true->a.tmps.getD t undef=v k
def dI(L:Nat->Bool)(i:Nat):Nat->Bool:=fun j=>if j=i then true else L j
def iC(v:Nat->aL)(i:Nat)(x:aL):Nat->aL:=fun j=>if j=i then x else v j
def uq(ops:Array Oper)(n:Nat):Bool:=
 (List.range ops.size).all fun i=>match(ops[i]?).bind (·.dst)with
  |none=>true
  |some t=>decide (t<n)&&(List.range ops.size).all fun j=>decide (i=j)||(ops[j]?).bind (·.dst)!=some t
theorem RB{n:Nat}(h:uq ops n=true){i:Nat}{o:Oper}{t:Nat}(ho:ops[i]?=some o)(ht:o.dst=some t):t<n:=by unfold uq at h;rw[List.all_eq_true]at h;have:=h i (List.mem_range.2 (Ns.1 ho).1);rw[ho]at this;simp only[Option.bind_some,ht,Bt,xM]at this;exact this.1
theorem RD{n:Nat}(h:uq ops n=true){i j:Nat}{o o':Oper}{t:Nat}(ho:ops[i]?=some o)(ht:o.dst=some t)(ho':ops[j]?=some o')(ht':o'.dst=some t):i=j:=by unfold uq at h;rw[List.all_eq_true]at h;have:=h i (List.mem_range.2 (Ns.1 ho).1);rw[ho]at this;simp only[Option.bind_some,ht,Bt,xM,List.all_eq_true]at this;have:=this.2 j (List.mem_range.2 (Ns.1 ho').1);rw[ho']at this;simpa[ht']using this
theorem Agree.put{A0 a:Act}{L:Nat->Bool}{v:Nat->aL}{i:Nat}{o:Oper}(hs:uq ops A0.tmps.size=true)(h:Agree A0 ops L v a)(ho:ops[i]?=some o)(x:aL):
  Agree A0 ops (dI L i) (iC v i x) (a.put o.dst x):=by
 cases hd:o.dst with
 |none=>
  refine⟨h.defers,h.size,fun t ht=>h.off t fun k o' hk hk'=>?_,fun k o' t hk hk' hl=>?_⟩
  ·have:=ht k o' hk hk';unfold dI at this;split at this
   ·cases this
   ·exact this
  ·unfold dI at hl;split at hl
   ·rename_i e;subst e;rw[ho]at hk;cases hk;rw[hd]at hk';cases hk'
   ·rename_i e;simp only[iC,if_neg e];exact h.on k o' t hk hk' hl
 |some d=>
  have hdl:d<a.tmps.size:=by rw[h.size];exact RB hs ho hd
  have same:∀t,t≠d->(a.put (some d) x).tmps.getD t undef=a.tmps.getD t undef:=by intro t ht;simp only[Act.put,Array.getD_eq_getD_getElem?,Array.getElem?_setIfInBounds];rw[if_neg (Ne.symm ht)]
  refine⟨h.defers,by simp[Act.put,h.size],fun t ht=>?_,fun k o' t hk hk' hl=>?_⟩
  ·have hne:t≠d:=by rintro rfl;have:=ht i o ho hd;simp[dI]at this
   rw[same t hne];refine h.off t fun k o' hk hk'=>?_;have:=ht k o' hk hk';unfold dI at this;split at this
   ·cases this
   ·exact this
  ·by_cases hki:k=i
   ·subst hki;rw[ho]at hk;cases hk;rw[hd]at hk';cases hk';simp[Act.put,iC,Array.getD_eq_getD_getElem?,hdl]
   ·have hne:t≠d:=by rintro rfl;exact hki (RD hs hk hk' ho hd)
    rw[same t hne];simp only[dI,if_neg hki]at hl;simp only[iC,if_neg hki];exact h.on k o' t hk hk' hl
theorem Agree.start(A0:Act)(ops:Array Oper)(v:Nat->aL):Agree A0 ops (fun _=>false) v A0:=
 ⟨rfl,rfl,fun _ _=>rfl,fun _ _ _ _ _ h=>by cases h⟩
theorem Agree.uniq{A0 a b:Act}{L:Nat->Bool}{v:Nat->aL}(h:Agree A0 ops L v a)(k:Agree A0 ops L v b):a=b:=by
 have e1:a.defers=b.defers:=h.defers.trans k.defers.symm;have es:a.tmps.size=b.tmps.size:=h.size.trans k.size.symm;have e2:a.tmps=b.tmps:=by
  apply Array.ext es;intro t h1 h2;have hh:a.tmps.getD t undef=b.tmps.getD t undef:=by
   by_cases hx:∃k o,ops[k]?=some o/\o.dst=some t/\L k=true
   ·obtain⟨k',o,ho,hd,hl⟩:=hx;rw[h.on k' o t ho hd hl,k.on k' o t ho hd hl]
   ·have hno:∀k o,ops[k]?=some o->o.dst=some t->L k=false:=by
     intro k' o ho hd;cases hl:L k' with
     |false=>rfl
     |true=>exact absurd ⟨k',o,ho,hd,hl⟩ hx
    rw[h.off t hno,k.off t hno]
  simpa[Array.getD,h1,h2]using hh
 cases a;cases b;simp only at e1 e2;rw[e1,e2]
def jV:List Oper->Nat->(Nat->aL)->Act->Act
 |[],_,_,a=>a
 |o::l,k,v,a=>jV l (k+1) v (a.put o.dst (v k))
theorem Agree.congr{A0 a:Act}{L L':Nat->Bool}{v v':Nat->aL}(h:Agree A0 ops L v a)(hL:∀k,k<ops.size->L k=L' k)(hv:∀k,k<ops.size->L k=true->v k=v' k):Agree A0 ops L' v' a:=
 ⟨h.defers,h.size,fun t ht=>h.off t fun k o ho hd=>by rw[hL k (Ns.1 ho).1];exact ht k o ho hd,
  fun k o t ho hd hl=>by
   have hk:=(Ns.1 ho).1;rw[<-hL k hk]at hl
   rw[h.on k o t ho hd hl,hv k hk hl]⟩
theorem Agree.all{A0:Act}(hs:uq ops A0.tmps.size=true)(v:Nat->aL):∀(l:List Oper)(k:Nat)(a:Act),ops.toList.drop k=l->Agree A0 ops (fun j=>decide (j<k)) v a->Agree A0 ops (fun _=>true) v (jV l k v a)
 |[],k,a,hl,h=>by
  have hk:ops.size<=k:=by have:=congrArg List.length hl;simp at this;omega
  refine h.congr (fun j hj=>by simp;omega) (fun _ _ _=>rfl)
 |o::l,k,a,hl,h=>by
  have ho:ops[k]?=some o:=by
   have:(ops.toList.drop k)[0]?=some o:=by rw[hl];rfl
   rw[List.getElem?_drop]at this;simpa using this
  have hl':ops.toList.drop (k+1)=l:=by rw[<-List.drop_drop,hl];rfl
  refine Agree.all hs v l (k+1) _ hl' ?_;refine(h.put hs ho (v k)).congr (fun j hj=>?_) (fun j hj _=>?_)
  ·unfold dI;split
   ·rename_i e;subst e;simp
   ·rename_i e;have:(j<k)↔(j<k+1):=by omega
    simp[this]
  ·unfold iC;split
   ·rename_i e;rw[e]
   ·rfl
def F_:List Oper->Nat->(Nat->Oper->Prop)->Prop
 |[],_,_=>True
 |o::l,k,p=>p k o/\F_ l (k+1) p
theorem F_.get{p:Nat->Oper->Prop}:∀{l:List Oper}{k:Nat},F_ l k p->∀(i:Nat)(o:Oper),l[i]?=some o->p (k+i) o
 |[],_,_,i,o,h=>by simp at h
 |x::l,k,h,0,o,ho=>by simp at ho;subst ho;exact h.1
 |x::l,k,h,i+1,o,ho=>by
  have:=F_.get h.2 i o (by simpa using ho)
  rwa [show k+1+i=k+(i+1)by omega]at this
def au(P:Program)(ops:Array Oper)(Q:Exit->Act->aF->Prop)(A0:Act)(Inv:(Nat->Bool)->(Nat->aL)->aF->Prop)(i:Nat)(o:Oper):Prop:=
 ∀(L:Nat->Bool)(v:Nat->aL)(a:Act)(w:aF),L i=false->(∀e∈o.after,Region.binds .any e=true->L e.on=true)->Agree A0 ops L v a->Inv L v w->
  ∀K':Act->aF->Prop,Shut (∀x w',Inv (dI L i) (iC v i x) w'->K' (a.put o.dst x) w')->if Region.wanted o (yielded ops a.tmps)=true then Oper.wp P o a w K' Q else K' (a.put o.dst undef) w
theorem Agree.get{A0 a:Act}{L:Nat->Bool}{v:Nat->aL}(h:Agree A0 ops L v a)(k:Nat){t:Nat}(hl:L k=true)(ho:(ops[k]?).bind (·.dst)=some t:=by rfl):a.tmps[t]?.getD undef=v k:=by obtain⟨o,ho,hd⟩:=Option.bind_eq_some_iff.1 ho;rw[<-Array.getD_eq_getD_getElem?];exact h.on k o t ho hd hl
theorem Agree.base{A0 a:Act}{L:Nat->Bool}{v:Nat->aL}(h:Agree A0 ops L v a)(t:Nat)(hb:(ops.toList.all fun o=>o.dst !=some t)=true):a.tmps[t]?.getD undef=A0.tmps[t]?.getD undef:=by rw[<-Array.getD_eq_getD_getElem?,<-Array.getD_eq_getD_getElem?];refine h.off t fun k o ho hd=>?_;rw[List.all_eq_true]at hb;have:=hb o (by have:=Array.mem_of_getElem? ho;simpa using this);rw[hd]at this;simp at this
theorem au.mk{A0:Act}{Inv:(Nat->Bool)->(Nat->aL)->aF->Prop}{i:Nat}{o:Oper}(hg:o.guard=none)
  (h:∀(L:Nat->Bool)(v:Nat->aL)(a:Act)(w:aF),L i=false->(∀e∈o.after,Region.binds .any e=true->L e.on=true)->Agree A0 ops L v a->Inv L v w->
   ∀K':Act->aF->Prop,Shut (∀x w',Inv (dI L i) (iC v i x) w'->K' (a.put o.dst x) w')->Oper.wp P o a w K' Q):au P ops Q A0 Inv i o:=by
 intro L v a w h1 h2 h3 h4 K' hK;rw[if_pos (by unfold Region.wanted;rw[hg])];exact h L v a w h1 h2 h3 h4 K' hK
theorem bY{id:Nat}{A0:Act}{w:aF}(Inv:(Nat->Bool)->(Nat->aL)->aF->Prop)(hm:P.follows .mixedOrders=true)
  (hk:sN ops=true)(hs:uq ops A0.tmps.size=true)
  (h0:Inv (fun _=>false) (fun _=>undef) w.drew)
  (step:F_ ops.toList 0 (au P ops Q A0 Inv))
  (fin:∀(L:Nat->Bool)(v:Nat->aL)(w:aF),(∀i,i<ops.size->L i=true)->Inv L v w->Q .normal (jV ops.toList 0 v A0) w):(Code.region id ops true).wp P Q A0 w:=by
 refine wp_region_any hm ?_;refine JY (I:=fun L a w=>∃v,Agree A0 ops (fun j=>L.getD j false) v a/\Inv (fun j=>L.getD j false) v w) hk ?_ ?_ _ _ _ _ (by simp) ?_ ?_
 ·rintro L i o a w hLs ho hL ag3⟨v,hA,hI⟩;have hi:=(Ns.1 ho).1;have hiL:i<L.size:=by omega
  have hLi:L.getD i false=false:=by simp only[Array.getD,hiL,dif_pos]at hL⊢;exact hL
  have hst:=step.get i o (by simpa using ho);rw[Nat.zero_add]at hst;have hst:=hst _ v a w hLi ag3 hA hI;have hins:(fun j=>(L.setIfInBounds i true).getD j false)=dI (fun j=>L.getD j false) i:=by
   funext j;unfold dI;by_cases hj:j=i
   ·subst hj;simp[Array.getD_eq_getD_getElem?,hiL]
   ·simp[Array.getD_eq_getD_getElem?,Ne.symm hj,hj]
  refine wpOp_step ho fun K' hK=>hst K' ?_;intro x w' hI';exact hK _ _ ⟨_,by rw[hins];exact hA.put hs ho x,by rw[hins];exact hI'⟩
 ·rintro L a w hLs hall⟨v,hA,hI⟩;have acC:∀i,i<ops.size->L.getD i false=true:=by
   intro i hi;have h1:i<L.size:=by omega
   have:=hall i hi;simp only[Array.getD,h1,dif_pos]at this⊢;exact this
  have e:a=jV ops.toList 0 v A0:=by refine Agree.uniq (L:=fun _=>true) (v:=v) (hA.congr (fun k hk=>acC k hk) (fun _ _ _=>rfl)) ?_;exact Agree.all hs v ops.toList 0 A0 (by simp) ((Agree.start A0 ops v).congr (fun k hk=>by simp) (fun _ _ h=>by cases h))
  rw[e];exact fin _ v w acC hI
 ·simp
 ·have e:(fun j=>(Array.replicate ops.size false).getD j false)=fun _=>false:=by funext j;simp only[Array.getD_eq_getD_getElem?,Array.getElem?_replicate];split<;>rfl
  rw[e];exact⟨_,Agree.start A0 ops _,h0⟩
end
section
open SP
variable{W w w':aF}{R:aJ}
def Tb(l:Bool)(v:aL)(T:TypeId)(xs:dw):SP:=
 if l=true then ex fun(g:Nat)=>st [pu (v=.slice (some ⟨g,0,none⟩) xs.length xs.length),aH g T xs]else pu True
theorem Tb.no{v:aL}{T:TypeId}{xs:dw}(o:Own w R):Own w (Tb false v T xs::R):=by unfold Tb;rw[if_neg (by decide)];exact Own.pu.2 ⟨trivial,o⟩
theorem Tb.new{v:aL}{T:TypeId}{xs:dw}(_:Own w (Tb false v T xs::R))(g:Nat)(o':Own w' (aH g T xs::Tb false v T xs::R)):Own w' (Tb true (.slice (some ⟨g,0,none⟩) xs.length xs.length) T xs::R):=by unfold Tb at o'⊢;rw[if_neg (by decide)]at o';rw[if_pos rfl];exact Own.ex.2 ⟨g,Own.st.2 (Own.pu.2 ⟨rfl,o'.swap.drop⟩)⟩
theorem Tb.at{g n m:Nat}{T:TypeId}{xs:dw}(o:Own w (Tb true (.slice (some ⟨g,0,none⟩) n m) T xs::R)){j:Nat}(hj:j<xs.length):w.cell? ⟨g,j,none⟩=some xs[j]:=by unfold Tb at o;rw[if_pos rfl]at o;obtain⟨g',o⟩:=Own.ex.1 o;obtain⟨h,o⟩:=Own.pu.1 (Own.st.1 o);simp only[Value.slice.injEq,Option.some.injEq,Addr.mk.injEq]at h;obtain⟨⟨rfl,_⟩,_⟩:=h;exact Own.cell o j (cZ hj)
theorem Tb.val{v:aL}{T:TypeId}{xs:dw}(o:Own w (Tb true v T xs::R)):∃g:Nat,v=.slice (some ⟨g,0,none⟩) xs.length xs.length:=by unfold Tb at o;rw[if_pos rfl]at o;obtain⟨g,o⟩:=Own.ex.1 o;exact⟨g,(Own.pu.1 (Own.st.1 o)).1⟩
theorem BZ{k:IntKind}(l:bq){x:aL}(h:x∈l.map (Value.int k)):∃y:Int,x=.int k y:=by obtain⟨y,_,rfl⟩:=gW.1 h;exact⟨y,rfl⟩
structure TD(L:Nat->Bool)(v:Nat->aL)(cb b m c a l:Nat)(xs:dw):Prop where
 move:L m=true->v m=.pointer (some ⟨cb,0,none⟩)
 call:L c=true->∃j:Nat,j<xs.length/\v c=.int .i64 (j:Int)
 addr:L a=true->L b=true/\∃g j:Nat,j<xs.length/\v b=.slice (some ⟨g,0,none⟩) xs.length xs.length/\v a=.pointer (some ⟨g,j,none⟩)
 load:L l=true->v l∈xs
theorem TD.no{v:Nat->aL}{cb b m c a l:Nat}{xs:dw}:TD (fun _=>false) v cb b m c a l xs:=
 ⟨fun h=>(zH h).elim,fun h=>(zH h).elim,fun h=>(zH h).elim,fun h=>(zH h).elim⟩
theorem TD.other{L:Nat->Bool}{v:Nat->aL}{cb b m c a l:Nat}{xs:dw}(h:TD L v cb b m c a l xs){i:Nat}(x:aL)(hL:L i=false)(hn:i≠m/\i≠c/\i≠a/\i≠l):
  TD (dI L i) (iC v i x) cb b m c a l xs:=by
 obtain⟨h1,h2,h3,h4⟩:=hn;refine⟨fun hh=>?_,fun hh=>?_,fun hh=>?_,fun hh=>?_⟩
 ·simp only[dI,iC,if_neg (Ne.symm h1)]at hh⊢;exact h.move hh
 ·simp only[dI,iC,if_neg (Ne.symm h2)]at hh⊢;exact h.call hh
 ·simp only[dI,if_neg (Ne.symm h3)]at hh;obtain⟨k1,g,j,k2,k3,k4⟩:=h.addr hh;have hb:b≠i:=by rintro rfl;rw[hL]at k1;cases k1
  simp only[dI,iC,if_neg (Ne.symm h3),if_neg hb];exact⟨k1,g,j,k2,k3,k4⟩
 ·simp only[dI,iC,if_neg (Ne.symm h4)]at hh⊢;exact h.load hh
theorem TD.RF{L:Nat->Bool}{v:Nat->aL}{cb b m c a l:Nat}{xs:dw}(h:TD L v cb b m c a l xs)(hL:L m=false)(hn:m≠c/\m≠a/\m≠l):
  TD (dI L m) (iC v m (.pointer (some ⟨cb,0,Option.none⟩))) cb b m c a l xs:=by
 obtain⟨h2,h3,h4⟩:=hn;refine⟨fun _=>by simp[iC],fun hh=>?_,fun hh=>?_,fun hh=>?_⟩
 ·simp only[dI,iC,if_neg (Ne.symm h2)]at hh⊢;exact h.call hh
 ·simp only[dI,if_neg (Ne.symm h3)]at hh;obtain⟨k1,g,j,k2,k3,k4⟩:=h.addr hh;have hb:b≠m:=by rintro rfl;rw[hL]at k1;cases k1
  simp only[dI,iC,if_neg (Ne.symm h3),if_neg hb];exact⟨k1,g,j,k2,k3,k4⟩
 ·simp only[dI,iC,if_neg (Ne.symm h4)]at hh⊢;exact h.load hh
theorem TD.RG{L:Nat->Bool}{v:Nat->aL}{cb b m c a l:Nat}{xs:dw}(h:TD L v cb b m c a l xs)(hL:L c=false)(hn:c≠m/\c≠a/\c≠l){j:Nat}(hj:j<xs.length):
  TD (dI L c) (iC v c (.int .i64 (j:Int))) cb b m c a l xs:=by
 obtain⟨h2,h3,h4⟩:=hn;refine⟨fun hh=>?_,fun hh=>⟨j,hj,by simp[iC]⟩,fun hh=>?_,fun hh=>?_⟩
 ·simp only[dI,iC,if_neg (Ne.symm h2)]at hh⊢;exact h.move hh
 ·simp only[dI,if_neg (Ne.symm h3)]at hh;obtain⟨k1,g,j,k2,k3,k4⟩:=h.addr hh;have hb:b≠c:=by rintro rfl;rw[hL]at k1;cases k1
  simp only[dI,iC,if_neg (Ne.symm h3),if_neg hb];exact⟨k1,g,j,k2,k3,k4⟩
 ·simp only[dI,iC,if_neg (Ne.symm h4)]at hh⊢;exact h.load hh
theorem TD.RH{L:Nat->Bool}{v:Nat->aL}{cb b m c a l:Nat}{xs:dw}(h:TD L v cb b m c a l xs)(hL:L a=false)(hn:a≠m/\a≠c/\a≠l)(hb:L b=true){g j:Nat}(hj:j<xs.length)(hv:v b=.slice (some ⟨g,0,Option.none⟩) xs.length xs.length):
  TD (dI L a) (iC v a (.pointer (some ⟨g,j,Option.none⟩))) cb b m c a l xs:=by
 obtain⟨h2,h3,h4⟩:=hn;have hba:b≠a:=by rintro rfl;rw[hL]at hb;cases hb
 refine⟨fun hh=>?_,fun hh=>?_,fun hh=>⟨?_,g,j,hj,?_,?_⟩,fun hh=>?_⟩
 ·simp only[dI,iC,if_neg (Ne.symm h2)]at hh⊢;exact h.move hh
 ·simp only[dI,iC,if_neg (Ne.symm h3)]at hh⊢;exact h.call hh
 ·simp only[dI,if_neg hba];exact hb
 ·simp only[iC,if_neg hba];exact hv
 ·simp[iC]
 ·simp only[dI,iC,if_neg (Ne.symm h4)]at hh⊢;exact h.load hh
theorem TD.RI{L:Nat->Bool}{v:Nat->aL}{cb b m c a l:Nat}{xs:dw}(h:TD L v cb b m c a l xs)(hL:L l=false)(hn:l≠m/\l≠c/\l≠a){x:aL}(hx:x∈xs):
  TD (dI L l) (iC v l x) cb b m c a l xs:=by
 obtain⟨h2,h3,h4⟩:=hn;refine⟨fun hh=>?_,fun hh=>?_,fun hh=>?_,fun hh=>by simpa[iC]using hx⟩
 ·simp only[dI,iC,if_neg (Ne.symm h2)]at hh⊢;exact h.move hh
 ·simp only[dI,iC,if_neg (Ne.symm h3)]at hh⊢;exact h.call hh
 ·simp only[dI,if_neg (Ne.symm h4)]at hh;obtain⟨k1,g,j,k2,k3,k4⟩:=h.addr hh;have hb:b≠l:=by rintro rfl;rw[hL]at k1;cases k1
  simp only[dI,iC,if_neg (Ne.symm h4),if_neg hb];exact⟨k1,g,j,k2,k3,k4⟩
def iT(b:Bool):Nat:=if b=true then 1 else 0
theorem kP(b:Bool):iT b<=1:=by unfold iT;split<;>omega
end
def ji(f:Nat->Option aL)(L:Nat->Bool)(v:Nat->aL):Prop:=∀i x,f i=some x->L i=true->v i=x
theorem ji.no{f:Nat->Option aL}{v:Nat->aL}:ji f (fun _=>false) v:=fun _ _ _ h=>(zH h).elim
theorem ji.put{f:Nat->Option aL}{L:Nat->Bool}{v:Nat->aL}(h:ji f L v)(i:Nat){x:aL}(hx:∀y,f i=some y->x=y):ji f (dI L i) (iC v i x):=fun j y hy hj=>by
 unfold iC;split
 ·rename_i e;subst e;exact hx y hy
 ·rename_i e;unfold dI at hj;rw[if_neg e]at hj;exact h j y hy hj
theorem agT{x y:aL}(h:some x=some y):x=y:=Option.some.inj h
theorem dS{α:Type}{x:α}:∀y,some x=some y->x=y:=fun _ h=>Option.some.inj h
theorem Agree.gt{A0 a:Act}{ops:Array Oper}{L:Nat->Bool}{v:Nat->aL}(h:Agree A0 ops L v a){f:Nat->Option aL}(H:Hid (ji f L v))(k:Nat){t:Nat}{x:aL}(hl:L k=true)(ho:(ops[k]?).bind (·.dst)=some t:=by rfl)(hx:f k=some x:=by rfl):a.tmps[t]?.getD undef=x:=(h.get k hl ho).trans (H.out k x hx hl)
section
variable{P:Program}{ops:Array Oper}{Q:Exit->Act->aF->Prop}
theorem V3{A0 a:Act}{L:Nat->Bool}{v:Nat->aL}{o:Oper}{j:Nat}{want b:Bool}{t:Nat}(hA:Agree A0 ops L v a)(hg:o.guard=some (j,want))(ht:(ops[j]?).bind (·.dst)=some t)(hl:L j=true)(hv:v j=.bool b):
  Region.wanted o (yielded ops a.tmps)=(b==want):=by
 have h:=hA.get j hl ht;rw[hv]at h;unfold Region.wanted;rw[hg];show(yielded ops a.tmps j==some want)=_;unfold yielded;rw[ht];simp only[Option.bind_some];cases hx:a.tmps[t]? with
 |none=>rw[hx]at h;cases h
 |some x=>rw[hx]at h;have:x=.bool b:=h;subst this;simp
theorem au.skip{A0:Act}{Inv:(Nat->Bool)->(Nat->aL)->aF->Prop}{i:Nat}{o:Oper}{j:Nat}{want:Bool}{t:Nat}(hg:o.guard=some (j,want))(ht:(ops[j]?).bind (·.dst)=some t)
  (hj:(o.after.any fun e=>decide (e.on=j)&&Region.binds .any e)=true)(hv:∀L v w,Inv L v w->L j=true->v j=.bool (!want))
  (hi:∀L v w,L i=false->Inv L v w->Inv (dI L i) (iC v i undef) w):au P ops Q A0 Inv i o:=by
 intro L v a w h1 h2 h3 h4 K' hK;rw[Array.any_eq_true']at hj;obtain⟨e,he,hb⟩:=hj;rw[Bt,xM]at hb;have hl:L j=true:=hb.1▸h2 e he hb.2;rw[if_neg (by rw[V3 h3 hg ht hl (hv L v w h4 hl)];cases want<;>decide)];exact hK.out _ _ (hi L v w h1 h4)
end
def Pb(la ls:Bool)(v:aL)(T:TypeId)(zs ys:dw):SP:=
 st [pu (ls=true->la=true),if la=true then ex fun(g:Nat)=>st [pu (v=.pointer (some ⟨g,0,none⟩)),aH g T (if ls=true then ys else zs)]else pu True]
section
variable{w w':aF}{R:aJ}{v:aL}{T:TypeId}{zs ys:dw}
theorem Pb.no(o:Own w R):Own w (Pb false false v T zs ys::R):=by unfold Pb;rw[if_neg zH];exact Own.st.2 (Own.pu.2 ⟨fun h=>h,Own.pu.2 ⟨trivial,o⟩⟩)
theorem Pb.new{ls:Bool}(o:Own w (Pb false ls v T zs ys::R)):Own (w.alloc (.cells zs.toArray T)) (Pb true ls (.pointer (some ⟨w.heap.size,0,none⟩)) T zs ys::R):=by
 unfold Pb at o⊢;obtain⟨h,o⟩:=Own.pu.1 (Own.st.1 o);have hls:ls=false:=by
  cases ls with
  |false=>rfl
  |true=>exact absurd (h rfl) zH
 subst hls;rw[if_neg zH]at o;rw[if_pos rfl,if_neg zH];exact Own.st.2 (Own.pu.2 ⟨fun _=>rfl,Own.ex.2 ⟨w.heap.size,Own.st.2 (Own.pu.2 ⟨rfl,(Own.pu.1 o).2.alloc _⟩)⟩⟩)
theorem Pb.val(o:Own w (Pb true false v T zs ys::R)):∃g:Nat,v=.pointer (some ⟨g,0,none⟩)/\Own w (aH g T zs::R):=by unfold Pb at o;obtain⟨_,o⟩:=Own.pu.1 (Own.st.1 o);rw[if_pos rfl,if_neg zH]at o;obtain⟨g,o⟩:=Own.ex.1 o;obtain⟨h,o⟩:=Own.pu.1 (Own.st.1 o);exact⟨g,h,o⟩
theorem Pb.set{g:Nat}(o:Own w (aH g T ys::R)):Own w (Pb true true (.pointer (some ⟨g,0,none⟩)) T zs ys::R):=by unfold Pb;rw[if_pos rfl,if_pos rfl];exact Own.st.2 (Own.pu.2 ⟨fun _=>rfl,Own.ex.2 ⟨g,Own.st.2 (Own.pu.2 ⟨rfl,o⟩)⟩⟩)
theorem Pb.put{g:Nat}{l:Bool}(o:Own w (aH g T ys::R))(hl:l=true)(hv:v=.pointer (some ⟨g,0,none⟩)):Own w (Pb l true v T zs ys::R):=by subst hl;subst hv;exact Pb.set o
theorem Pb.got(o:Own w (Pb true true v T zs ys::R)):∃g:Nat,v=.pointer (some ⟨g,0,none⟩)/\Own w (aH g T ys::R):=by unfold Pb at o;obtain⟨_,o⟩:=Own.pu.1 (Own.st.1 o);rw[if_pos rfl,if_pos rfl]at o;obtain⟨g,o⟩:=Own.ex.1 o;obtain⟨h,o⟩:=Own.pu.1 (Own.st.1 o);exact⟨g,h,o⟩
end
section
variable{W w w':aF}{R:aJ}{b:Nat}
theorem Ch.upTo{N M:Nat}(h:N<=M)(o:Own w (Ch W b N::R)):Own w (Ch W b M::R):=by obtain⟨a,len,cap,zs,at_,h1,h2,h3,o1⟩:=Ch.open o;exact Ch.shut h1 h2 (by omega) o1
end
def SP.mQ(e:TypeId)(size:Nat)(a:aY)(n cap:Nat)(xs:dw):SP:=ex fun(p:Option (Nat×dw×dw))=>
 match p with
 |none=>pu (a=none/\n=0/\cap=0/\xs=[])
 |some (b,pre,sp)=>st [pu (a=some ⟨b,pre.length,none⟩/\n<=cap/\cap<=maxLen/\xs.length=n*size/\(cap-n)*size<=sp.length),aH b e (pre++xs++sp)]
theorem qF:∀(vs:dw)(w w':aF){b k:Nat},Calm w w'->Calm w (w'.setCells b k vs)
 |[],_,_,_,_,h=>h
 |v::r,w,w',b,k,h=>by rw[World.setCells];exact qF r w _ ⟨h.os,h.tape,h.output⟩
section
variable{w:aF}{l:aJ}{P:Program}{t e:TypeId}{size bytes:Nat}
theorem Own.mQ{a:aY}{n cap:Nat}{xs:dw}:Own w (SP.mQ e size a n cap xs::l)↔
  (a=none/\n=0/\cap=0/\xs=[]/\Own w l)\/
  ∃b pre sp,a=some ⟨b,pre.length,none⟩/\n<=cap/\cap<=maxLen/\xs.length=n*size/\(cap-n)*size<=sp.length/\Own w (SP.aH b e (pre++xs++sp)::l):=by
 constructor
 ·intro o;obtain⟨p,o⟩:=Own.ex.1 o;cases p with
  |none=>obtain⟨⟨h1,h2,h3,h4⟩,o⟩:=Own.pu.1 o;exact .inl ⟨h1,h2,h3,h4,o⟩
  |some p=>obtain⟨⟨h1,h2,h3,h4,h5⟩,o⟩:=Own.pu.1 (Own.st.1 o);exact .inr ⟨p.1,p.2.1,p.2.2,h1,h2,h3,h4,h5,o⟩
 ·rintro(⟨h1,h2,h3,h4,o⟩|⟨b,pre,sp,h1,h2,h3,h4,h5,o⟩)
  ·exact Own.ex.2 ⟨none,Own.pu.2 ⟨⟨h1,h2,h3,h4⟩,o⟩⟩
  ·exact Own.ex.2 ⟨some (b,pre,sp),Own.st.2 (Own.pu.2 ⟨⟨h1,h2,h3,h4,h5⟩,o⟩)⟩
theorem Own.abd(o:Own w l):Own w (SP.mQ e size none 0 0 []::l):=Own.mQ.2 (.inl ⟨rfl,rfl,rfl,rfl,o⟩)
theorem Own.Am{a:aY}{n cap:Nat}{xs:dw}(o:Own w (SP.mQ e size a n cap xs::l)):xs.length=n*size/\n<=cap/\cap<=maxLen:=by
 rcases Own.mQ.1 o with⟨_,rfl,rfl,rfl,_⟩|⟨_,_,_,_,h1,h2,h3,_⟩
 ·simp
 ·exact⟨h3,h1,h2⟩
theorem Own.Ao{a:aY}{n cap:Nat}{xs:dw}(o:Own w (SP.mQ e size a n cap xs::l))(hn:0<n):
  ∃b off,a=some ⟨b,off,none⟩/\(∀(j:Nat)u,xs[j]?=some u->w.cell? ⟨b,off+j,none⟩=some u)/\b<w.heap.size:=by
 rcases Own.mQ.1 o with⟨_,h,_⟩|⟨b,pre,sp,h1,_,_,_,_,o⟩
 ·omega
 ·refine⟨b,pre.length,h1,fun j u hu=>Own.cell o (pre.length+j) ?_,Own.aS o⟩;rw[List.append_assoc,List.getElem?_append_right (by omega),Nat.add_sub_cancel_left,List.getElem?_append_left (eU.1 hu).1];exact hu
theorem Gh(ty:TypeId)(E:bS P t e size bytes){a:aY}{n cap:Nat}{xs:dw}(o:Own w (SP.mQ e size a n cap xs::l))
  (ad:Addr)(m c:Nat)(news:dw)(hm:0<m)(hl:news.length=m*size)(hnews:∀j u,news[j]?=some u->w.cell? (ad.add j)=some u)(h1:∀u∈news,u.oneCell'=true)
  (h63:n+m<=maxLen)(hbytes:(n+m)*bytes<=140737488355328):
  ∃a' cap' w',(Builtin.append_ #[t,t] ty #[.slice a n cap,.slice (some ad) m c]).run P w=.ok (.slice a' (n+m) cap') w'/\Own w' (SP.mQ e size a' (n+m) cap' (xs++news)::l)/\Calm w w':=by
 obtain⟨ht,⟨i,z,hi,hz,rfl,rfl,hzs⟩,hsz⟩:=E;have hsmall:n+m<=9223372036854775807:=by simp only[maxLen]at h63;omega
 have grown:∀(old:Nat)(o':Own w l),old<n+m->xs.length=n*i.size->
   Own (w.drew.alloc (.cells (xs.toArray++news.toArray++Builtin.zeroCells z.cells (grownCap w (n+m) old e-(n+m))) e))
    (SP.mQ e i.size (some ⟨w.heap.size,0,none⟩) (n+m) (grownCap w (n+m) old e) (xs++news)::l):=by
  intro old o' ho hx;refine Own.mQ.2 (.inr ⟨w.heap.size,[],(Builtin.zeroCells z.cells (grownCap w (n+m) old e-(n+m))).toList,rfl,grownCap_ge _ _ _ _,grownCap_le_maxLen _ _ _ _ h63,?_,?_,?_⟩)
  ·rw[jf,hx,hl,Nat.add_mul]
  ·simp[size_zeroCells,hzs]
  ·have:=Own.alloc (w:=w.drew) o'.drew (.cells (xs.toArray++news.toArray++Builtin.zeroCells z.cells (grownCap w (n+m) old e-(n+m))) e);unfold SP.aH;have e1:([]++(xs++news)++(Builtin.zeroCells z.cells (grownCap w (n+m) old e-(n+m))).toList).toArray=xs.toArray++news.toArray++Builtin.zeroCells z.cells (grownCap w (n+m) old e-(n+m)):=by simp
   rw[e1];exact this
 rcases Own.mQ.1 o with⟨rfl,rfl,rfl,rfl,o1⟩|⟨g,pre,sp,rfl,hnc,hcm,hxl,hsl,o1⟩
 ·have hr:=run_append_nil (P:=P) w t ty e i z ht hi hz ad m c news hl hnews (by omega) (by omega) (by have hb:=hbytes;simp only[Nat.zero_add]at hb;omega);have hgr:=grown 0 o1 (by omega) (by simp);simp only[Nat.zero_add,List.nil_append,Array.empty_append]at hgr⊢;exact⟨_,_,_,hr,hgr,⟨rfl,rfl,rfl⟩⟩
 ·by_cases hroom:n+m<=cap
  ·have hmn:m*i.size<=(cap-n)*i.size:=Nat.mul_le_mul_right _ (by omega);have hnl:news.length<=sp.length:=by rw[hl];exact Nat.le_trans hmn hsl
   have hr:=run_append_room_cells (P:=P) (w:=w) t ty e i ht hi g pre.length n cap ad m c news hl hnews h1 hroom
    (fun j hj=>by
     obtain⟨u,hu⟩:∃u,(pre++xs++sp)[pre.length+n*i.size+j]?=some u:=⟨_,cZ (by rw[jf,jf,hxl];omega)⟩;rw[Own.cell o1 _ hu]
     rfl)
    (fun j _=>Own.frozen o1 _)
   refine⟨_,_,_,hr,?_,qF news _ _ (Calm.refl w)⟩;have hsp:sp=sp.take news.length++sp.drop news.length:=(List.take_append_drop _ _).symm;have o2:Own w (SP.aH g e ((pre++xs)++sp.take news.length++sp.drop news.length)::l):=by rw[List.append_assoc (pre++xs),<-hsp];exact o1
   have o3:=Own.uA news (pre++xs) (sp.take news.length) (sp.drop news.length) w (by rw[rZ];omega) o2;rw[jf,hxl]at o3;refine Own.mQ.2 (.inr ⟨g,pre,sp.drop news.length,rfl,hroom,hcm,?_,?_,?_⟩)
   ·rw[jf,hxl,hl,Nat.add_mul]
   ·rw[List.length_drop,hl];have h5:(cap-n)*i.size=(cap-(n+m))*i.size+m*i.size:=by rw[<-Nat.add_mul];congr 1;omega
    omega
   ·rw[<-List.append_assoc pre xs news];exact o3
  ·have holds:∀j u,xs[j]?=some u->w.cell? ((⟨g,pre.length,none⟩:Addr).add j)=some u:=by
    intro j u hu;have hadd:(⟨g,pre.length,none⟩:Addr).add j=⟨g,pre.length+j,none⟩:=by unfold Addr.add;split<;>simp_all
    rw[hadd];refine Own.cell o1 _ ?_;rw[List.append_assoc,List.getElem?_append_right (by omega),Nat.add_sub_cancel_left,List.getElem?_append_left (eU.1 hu).1];exact hu
   have hr:=run_append_grow (P:=P) w t ty e i z ht hi hz ⟨g,pre.length,none⟩ n cap xs hxl holds ad m c news hl hnews (by omega) (by omega) (growslice_fits (by omega) hbytes);exact⟨_,_,_,hr,grown cap o1.drop (by omega) hxl,⟨rfl,rfl,rfl⟩⟩
theorem iU{ops:Array Oper}{op:Oper}{A:Act}{K:Act->aF->Prop}{Q:Exit->Act->aF->Prop}{F:Prop}(hgd:op.guard=none)(s x:Operand)
  (hop:op.op=.call {callee:=.builtin .append,args:=#[s,x],argTypes:=#[t,t]})
  (E:bS P t e size bytes){a:aY}{n cap:Nat}{xs:dw}(hs:A.eval s=.slice a n cap)(o:Own w (SP.mQ e size a n cap xs::l))
  (ad:Addr)(m c:Nat)(news:dw)(hx:A.eval x=.slice (some ad) m c)(hm:0<m)(hl:news.length=m*size)(hnews:∀j u,news[j]?=some u->w.cell? (ad.add j)=some u)(h1:∀u∈news,u.oneCell'=true)
  (h63:n+m<=maxLen)(hbytes:(n+m)*bytes<=140737488355328)
  (h:∀a' cap' w',Own w' (SP.mQ e size a' (n+m) cap' (xs++news)::l)->Calm w w'->K (A.put op.dst (.slice a' (n+m) cap')) w'):
  if Region.wanted op (yielded ops A.tmps)=true then Oper.wp P op A w K Q else F:=by
 have hw:Region.wanted op (yielded ops A.tmps)=true:=by simp[Region.wanted,hgd]
 rw[if_pos hw];obtain⟨a',cap',w',hr,h2,h3⟩:=Gh op.type E o ad m c news hm hl hnews h1 h63 hbytes;unfold Oper.wp execOp;simp only[hop,resolve,invoke,builtin,Sem.run_bind,Sem.run_pure,Result.andThen_ok,List.map_toArray,iD,List.map_nil,hs,hx,hr];exact h a' cap' w' h2 h3
theorem Own.O3{g off n cap:Nat}{x:aL}{xs:dw}(o:Own w (SP.mQ e 1 (some ⟨g,off,none⟩) (n+1) cap (x::xs)::l)):Own w (SP.mQ e 1 (some ⟨g,off+1,none⟩) n (cap-1) xs::l):=by
 rcases Own.mQ.1 o with⟨h,_⟩|⟨g',pre,sp,hg,h1,h2,h3,h4,o1⟩
 ·cases h
 ·simp only[Option.some.injEq,Addr.mk.injEq]at hg;obtain⟨rfl,rfl,_⟩:=hg;refine Own.mQ.2 (.inr ⟨g,pre++[x],sp,by rw[jf];rfl,by omega,by omega,?_,by omega,?_⟩)
  ·simp at h3;omega
  ·rw[List.append_assoc pre [x] xs];exact o1
theorem Own.O4{g off:Nat}{x:aL}{xs:dw}{n cap:Nat}(o:Own w (SP.mQ e 1 (some ⟨g,off,none⟩) n cap (x::xs)::l)):Own w (SP.mQ e 1 (some ⟨g,off,none⟩) 0 0 []::l):=by
 rcases Own.mQ.1 o with⟨h,_⟩|⟨g',pre,sp,hg,h1,h2,h3,h4,o1⟩
 ·cases h
 ·simp only[Option.some.injEq,Addr.mk.injEq]at hg;obtain⟨rfl,rfl,_⟩:=hg;refine Own.mQ.2 (.inr ⟨g,pre,x::xs++sp,rfl,Nat.le_refl 0,by unfold maxLen;omega,rfl,by omega,?_⟩);rw[List.append_nil,<-List.append_assoc];exact o1
end
structure NC where
 fl:Int
 len:Int
 st:Int
 rs:Int
structure Zf where
 ac:Int
 de:Int
 dr:Int
 d_:Int
 od:bq
structure vE where
 P:List NC
 F:List Zf
structure vE.Ok(N:Nat)(L:vE):Prop where
 fl:L.F.length=32
 pk:∀p∈L.P,0<=p.fl/\p.fl<32/\1<=p.len/\p.len<=4096
 pl:L.P.length<=262144
 cn:∀x∈L.F,0<=x.ac/\x.ac<=N/\0<=x.de/\x.de<=N/\0<=x.dr/\x.dr<=N/\0<=x.d_/\x.d_<=4096*N/\x.od.length<=N
def Sj:vE:=⟨[],List.replicate 32 ⟨0,0,0,0,[]⟩⟩
theorem vE.Ok.start:Sj.Ok 0:=⟨List.length_replicate,by simp[Sj],by simp[Sj],fun x hx=>by
 have:=List.eq_of_mem_replicate hx
 subst this;simp⟩
theorem vE.Ok.le{N M:Nat}{L:vE}(h:L.Ok N)(hM:N<=M):L.Ok M:=⟨h.fl,h.pk,h.pl,fun x hx=>by have:=h.cn x hx;omega⟩
def qH(P:List NC)(id:Int):Option NC:=if id<1 then none else P[id.toNat-1]?
def lstate(L:vE)(id:Int):Int:=match qH L.P id with
 |none=>0
 |some p=>p.st
def Wp(L:vE)(f len:Int):Int:=if f<0\/32<=f\/len<1\/4096<len then 1 else if L.P.length=262144 then 4 else 0
def Mm(L:vE)(f len:Int):vE:=⟨L.P++[⟨f,len,1,0⟩],match L.F[f.toNat]? with
 |none=>L.F
 |some x=>L.F.set f.toNat {x with ac:=x.ac+1}⟩
def Mo(L:vE)(f:Int):vE:=⟨L.P,match L.F[f.toNat]? with
 |none=>L.F
 |some x=>L.F.set f.toNat {x with dr:=x.dr+1}⟩
abbrev Lq:=Zf×aY×Nat
def Ei(q:Lq):dw:=[aC,q.1.ac,q.1.de,q.1.dr,q.1.d_,aC,.slice q.2.1 q.1.od.length q.2.2]
theorem Pw(q:Lq):(Ei q).length=7:=rfl
def Ej(p:NC):dw:=[p.fl,p.len,p.st,p.rs]
theorem jK(p:NC):(Ej p).length=4:=rfl
def kG(q:Lq):SP:=slc 3 1 q.2.1 q.1.od.length q.2.2 (q.1.od.map (Value.int .i64))
def nX(pa:aY)(n pc:Nat)(Q:List Lq):dw:=[.slice pa n pc]++flat Ei Q
abbrev Wq(b:Nat)(pa:aY)(n pc:Nat)(Q:List Lq):SP:=aH b 111 (nX pa n pc Q)
def iV(b:Nat)(L:vE):SP:=ex fun(p:aY×Nat×List Lq)=>st [pu (p.2.2.map (·.1)=L.F),Wq b p.1 L.P.length p.2.1 p.2.2,slc 143 4 p.1 L.P.length p.2.1 (flat Ej L.P),st (p.2.2.map kG)]
section
variable{w w':aF}{R:aJ}{b n pc:Nat}{pa:aY}{L:vE}{Q:List Lq}
theorem iV.iff:Own w (iV b L::R)↔∃pa pc Q,Q.map (·.1)=L.F/\Own w (Wq b pa L.P.length pc Q::slc 143 4 pa L.P.length pc (flat Ej L.P)::st (Q.map kG)::R):=by
 constructor
 ·intro o;obtain⟨⟨pa,pc,Q⟩,o⟩:=Own.ex.1 o;obtain⟨h,o⟩:=Own.pu.1 (Own.st.1 o);exact⟨pa,pc,Q,h,o⟩
 ·rintro⟨pa,pc,Q,h,o⟩;exact Own.ex.2 ⟨⟨pa,pc,Q⟩,Own.st.2 (Own.pu.2 ⟨h,o⟩)⟩
theorem pX{f k:Nat}{q:Lq}(h:Q[f]?=some q)(hk:k<7):(nX pa n pc Q)[1+(f*7+k)]?=(Ei q)[k]?:=by unfold nX;rw[List.getElem?_append_right (by simp)];show(flat Ei Q)[1+(f*7+k)-1]?=_;rw[show 1+(f*7+k)-1=f*7+k by omega];exact aB Pw Q f k q h hk
theorem xy{f k:Nat}{q q':Lq}{v:aL}(h:Q[f]?=some q)(hk:k<7)(hv:Ei q'=(Ei q).set k v):
  (nX pa n pc Q).set (1+(f*7+k)) v=nX pa n pc (Q.set f q'):=by
 unfold nX;rw[List.set_append_right _ _ (by simp)];show _++(flat Ei Q).set (1+(f*7+k)-1) v=_;rw[show 1+(f*7+k)-1=f*7+k by omega,<-Fj Pw Q f k q q' v h hk hv]
theorem Px{F:List Zf}(h:Q.map (·.1)=F){f:Nat}{x:Zf}(hx:F[f]?=some x):∃(a:aY)(c:Nat),Q[f]?=some (x,a,c):=by
 have:=congrArg (·[f]?) h;simp only[kI,hx]at this;cases hq:Q[f]? with
 |none=>rw[hq]at this;cases this
 |some q=>rw[hq]at this;obtain⟨y,a,c⟩:=q;cases this;exact⟨a,c,rfl⟩
theorem Mq{f:Nat}{x x':Zf}{a:aY}{c:Nat}(h:Q[f]?=some (x,a,c))(ho:x'.od=x.od):(Q.set f (x',a,c)).map kG=Q.map kG:=by
 apply List.ext_getElem?;intro i;rw[kI,kI,List.getElem?_set];by_cases e:f=i
 ·subst e;rw[if_pos rfl,h,if_pos (eU.1 h).1];simp only[Option.map_some,Option.some.injEq];unfold kG;dsimp only;rw[ho]
 ·rw[if_neg e]
theorem Mr(o:Own w R):Calls prog 19 #[] w fun e w'=>∃b,aR (.pointer (some ⟨b,0,none⟩)) (iV b Sj::R) w e w':=by
 have oA:=o.alloc (.cells (nX none 0 0 (List.replicate 32 (⟨0,0,0,0,[]⟩,none,0))).toArray 111);have hz:zeroCells111=(nX none 0 0 (List.replicate 32 (⟨0,0,0,0,[]⟩,none,0))).toArray:=by rfl
 rw[<-hz]at oA;go_enter func19,ntmps19;go_wp2;go_ret;refine⟨w.heap.size,rfl,iV.iff.2 ⟨none,0,List.replicate 32 (⟨0,0,0,0,[]⟩,none,0),by rw[List.map_replicate];rfl,?_⟩,⟨rfl,rfl,rfl⟩⟩;rw[hz]at oA;have o2:=Own.Yi (T:=3) (k:=1) 32 (Own.bH (e:=143) (size:=4) oA);rw[List.map_replicate];exact o2.re [2,1,0]
theorem x_(f:Int)(w:aF):Calls prog 122 #[f] w (bN (.bool (decide (0<=f)&&decide (f<32))) w):=by
 obtain⟨A,hA⟩:=aP (decide (0<=f));obtain⟨B,hB⟩:=aP (decide (f<32));rw[hA,hB];go_enter func122,ntmps122;cases A<;>cases B<;>
 ·go_wp2;go_ret;exact⟨rfl,rfl⟩
def Py(pa:aY)(n:Nat)(id:Int):aL:=if 1<=id/\id<=n then .pointer (pa.map fun a=>⟨a.block,a.off+(id.toNat-1)*4,none⟩)else .pointer none
theorem mh{P:List NC}(id:Int)(hn:n=P.length)(hl:n<=262144)(o:Own w (Wq b pa n pc Q::slc 143 4 pa n pc (flat Ej P)::R)):
  Calls prog 49 #[b,id] w (bN (Py pa n id) w):=by
 have c0:=o.cell 0;change w.cell? ⟨b,0,none⟩=some (.slice pa n pc)at c0;by_cases h1:id<1
 ·have d1:decide (id<1)=true:=bz h1;unfold Py;rw[if_neg (by omega)];clear h1 hn;go_enter func49,ntmps49;go_wp2;go_ret;exact⟨rfl,rfl⟩
 ·have d1:decide (id<1)=false:=bW h1;by_cases h2:(n:Int)<id
  ·have d2:decide ((n:Int)<id)=true:=bz h2;unfold Py;rw[if_neg (by omega)];clear h1 h2 hn;go_enter func49,ntmps49;go_wp2;go_ret;exact⟨rfl,rfl⟩
  ·have d2:decide ((n:Int)<id)=false:=bW h2;obtain⟨j,rfl⟩:∃j:Nat,id=(j:Int)+1:=⟨id.toNat-1,by omega⟩;obtain⟨g,rfl,_,_,_⟩:=(o.up 1).aG (by omega);have e:Py (some ⟨g,0,none⟩) n ((j:Int)+1)=.pointer (some ⟨g,j*4,none⟩):=by unfold Py;rw[if_pos (by omega),show((j:Int)+1).toNat-1=j by omega];simp
   rw[e];have hj:(j:Int)<(n:Int):=by omega
   have hj2:j<n:=by omega
   have hw:IntKind.i64.wrap ((j:Int)+1-1)=(j:Int):=by rw[gB];omega
   clear e hn h1 h2;go_enter func49,ntmps49;go_wp2;go_ret;exact⟨rfl,rfl⟩
end
section
variable{w w':aF}{R:aJ}{b n pc N:Nat}{pa:aY}{L:vE}{Q:List Lq}
theorem iy{x:Addr}{v:aL}(h:Calm w w'):Calm w (w'.setCell x v):=⟨h.os,h.tape,h.output⟩
theorem uI(h:Calm w w'):Calm w w'.drew:=⟨h.os,h.tape,h.output⟩
theorem Tryz.lpkT:bS prog 104 143 4 32:=bS.mk' underlying104 (z:=.agg #[aC,aC,aC,aC]) (by kernel_rfl) (by kernel_rfl) (by omega)
theorem sV{P:List NC}(id:Int)(hn:n=P.length)(o:Own w (slc 143 4 pa n pc (flat Ej P)::R)):
  qH P id=none/\Py pa n id=.pointer none\/
  ∃(j g:Nat)(p:NC),id=(j:Int)+1/\j<n/\P[j]?=some p/\qH P id=some p/\pa=some ⟨g,0,none⟩/\Py pa n id=.pointer (some ⟨g,j*4,none⟩)/\
   w.cell? ⟨g,j*4,none⟩=some ↑p.fl/\w.cell? ⟨g,j*4+1,none⟩=some ↑p.len/\w.cell? ⟨g,j*4+2,none⟩=some ↑p.st/\w.cell? ⟨g,j*4+3,none⟩=some ↑p.rs/\(∀k,w.frozen? ⟨g,k,none⟩=false)/\g<w.heap.size:=by
 unfold qH Py;by_cases h1:id<1
 ·exact .inl ⟨if_pos h1,if_neg (by omega)⟩
 ·rw[if_neg h1];obtain⟨j,rfl⟩:∃j:Nat,id=(j:Int)+1:=⟨id.toNat-1,by omega⟩;rw[show((j:Int)+1).toNat-1=j by omega];by_cases h2:j<n
  ·right;obtain⟨p,hp⟩:∃p,P[j]?=some p:=⟨_,cZ (by omega)⟩;obtain⟨g,rfl,hc,hf,hg⟩:=o.aG (by omega);have e:=fun k v(hk:k<4)(hv:(Ej p)[k]?=some v)=>hc (j*4+k) v (by rw[aB jK P j k p hp hk,hv]);have e0:=e 0 _ (by omega) rfl;rw[Nat.add_zero]at e0;refine⟨j,g,p,rfl,h2,hp,hp,rfl,?_,e0,e 1 _ (by omega) rfl,e 2 _ (by omega) rfl,e 3 _ (by omega) rfl,hf,hg⟩;rw[if_pos (by omega)];simp
  ·exact .inl ⟨QY (by omega),if_neg (by omega)⟩
theorem qI(id:Int)(hok:L.Ok N)(o:Own w (iV b L::R)):
  Calls prog 30 #[b,id] w (bN (.int .i64 (lstate L id)) w):=by
 obtain⟨pa,pc,Q,hQ,o1⟩:=iV.iff.1 o;have hp:=mh id rfl hok.pl o1;unfold lstate;rcases sV id rfl (o1.up 1)with⟨e1,e2⟩|⟨j,g,p,rfl,hj,EO,e1,rfl,e2,c0,c1,c2,c3,hf,hg⟩
 ·rw[e1];rw[e2]at hp;clear e1 e2;go_enter func30,ntmps30;go_wp2_with fail;refine hp.mono ?_;rintro _ _⟨rfl,rfl⟩;go_wp2;go_ret;exact⟨rfl,rfl⟩
 ·rw[e1];rw[e2]at hp;clear e1 e2 EO;go_enter func30,ntmps30;go_wp2_with fail;refine hp.mono ?_;rintro _ _⟨rfl,rfl⟩;go_wp2;go_ret;exact⟨rfl,rfl⟩
theorem abj(h:L.Ok N){f len:Int}(he:Wp L f len=0):(Mm L f len).Ok (N+1):=by
 unfold Wp at he;by_cases hb:f<0\/32<=f\/len<1\/4096<len
 ·rw[if_pos hb]at he;cases he
 rw[if_neg hb]at he;by_cases hl:L.P.length=262144
 ·rw[if_pos hl]at he;cases he
 have hpl:=h.pl;obtain⟨x,hx⟩:∃x,L.F[f.toNat]?=some x:=⟨_,cZ (by rw[h.fl];omega)⟩;unfold Mm;rw[hx];refine⟨by dsimp only;rw[List.length_set];exact h.fl,fun p hp=>?_,by dsimp only;rw[jf];simp;omega,fun y hy=>?_⟩
 ·rcases List.mem_append.1 hp with hp|hp
  ·exact h.pk p hp
  ·have:p=⟨f,len,1,0⟩:=by simpa using hp
   subst this;dsimp only;omega
 ·dsimp only at hy;rcases List.mem_or_eq_of_mem_set hy with hy|rfl
  ·have:=h.cn y hy;omega
  ·have:=h.cn x (mH hx);dsimp only;omega
theorem Ms(f:Int)(hf:0<=f/\f<32)(hok:L.Ok N)(hN:N<=1000000000)(o:Own w (iV b L::R)):
  Calls prog 68 #[b,f] w (aR (.int .i64 0) (iV b (Mo L f)::R) w):=by
 obtain⟨pa,pc,Q,hQ,o1⟩:=iV.iff.1 o;obtain⟨k,rfl⟩:∃k:Nat,f=(k:Int):=⟨f.toNat,by omega⟩;obtain⟨x,hx⟩:∃x,L.F[k]?=some x:=⟨_,cZ (by rw[hok.fl];omega)⟩;obtain⟨a,c,hq⟩:=Px hQ hx;have UE:=hok.cn x (mH hx);have hnb:=x_ (k:Int) w;rw[show(decide (0<=(k:Int))&&decide ((k:Int)<32))=true by rw[Bt,xM,xM];omega]at hnb;have LH:k<32:=by omega
 have hq1:(k:Int)<32:=by omega
 have c3:=o1.cell (1+(k*7+3)) (v:=.int .i64 x.dr) (by rw[pX hq (by omega)];rfl);obtain⟨hfz,hbl,-⟩:=o1.cs;have hw:IntKind.i64.wrap (x.dr+1)=x.dr+1:=by rw[gB];omega
 have oS:=o1.setCell (1+(k*7+3)) (.int .i64 (x.dr+1));rw[xy (q':=({x with dr:=x.dr+1},a,c)) hq (by omega) rfl]at oS;rw[show 1+(k*7+3)=1+k*7+3 by omega]at c3 oS;have HE:=az (show Mo L (k:Int)=⟨L.P,L.F.set k {x with dr:=x.dr+1}⟩by unfold Mo;rw[Int.toNat_natCast,hx]);have HQ:=az (show(Q.set k ({x with dr:=x.dr+1},a,c)).map (·.1)=L.F.set k {x with dr:=x.dr+1}by rw[List.map_set,hQ]);have HS:=az (Mq (x':={x with dr:=x.dr+1}) hq rfl);clear hf hQ hq hx hok UE;go_enter func68,ntmps68;go_wp2_with fail;refine hnb.mono ?_;rintro _ _⟨rfl,rfl⟩;go_upto_region 3 with fail;go_region_law(fail);go_wp2;go_ret;rw[HE.out];refine⟨rfl,iV.iff.2 ⟨pa,pc,_,HQ.out,?_⟩,uI (iy (Calm.refl _))⟩;rw[HS.out];exact oS.drew
theorem Mt(f len:Int)(he:Wp L f len=0)(hok:L.Ok N)(hN:N<=1000000000)(o:Own w (iV b L::R)):
  Calls prog 70 #[.pointer (some ⟨b,0,none⟩),.int .i64 f,.int .i64 len] w (aR (.tuple #[.int .i64 ((L.P.length:Int)+1),.int .i64 0]) (iV b (Mm L f len)::R) w):=by
 obtain⟨pa,pc,Q,hQ,o1⟩:=iV.iff.1 o;unfold Wp at he;by_cases hb:f<0\/32<=f\/len<1\/4096<len
 ·rw[if_pos hb]at he;cases he
 rw[if_neg hb]at he;by_cases hl:L.P.length=262144
 ·rw[if_pos hl]at he;cases he
 have hpl:=hok.pl;obtain⟨k,rfl⟩:∃k:Nat,f=(k:Int):=⟨f.toNat,by omega⟩;obtain⟨x,hx⟩:∃x,L.F[k]?=some x:=⟨_,List.getElem?_eq_getElem (by rw[hok.fl];omega)⟩;obtain⟨a,c,hq⟩:=Px hQ hx;have UE:=hok.cn x (List.mem_of_getElem? hx);have hnb:=x_ (k:Int) w;rw[show(decide (0<=(k:Int))&&decide ((k:Int)<32))=true by rw[Bool.and_eq_true,decide_eq_true_eq,decide_eq_true_eq];omega]at hnb;have LH:k<32:=by omega
 have hq1:(k:Int)<32:=by omega
 have d1:decide (len<1)=false:=decide_eq_false (by omega);have d2:decide (4096<len)=false:=decide_eq_false (by omega);have HE:=az (show Mm L (k:Int) len=⟨L.P++[⟨(k:Int),len,1,0⟩],L.F.set k {x with ac:=x.ac+1}⟩by unfold Mm;rw[Int.toNat_natCast,hx]);have HQ:=az (show(Q.set k ({x with ac:=x.ac+1},a,c)).map (·.1)=L.F.set k {x with ac:=x.ac+1}by rw[List.map_set,hQ]);have HS:=az (Mq (x':={x with ac:=x.ac+1}) hq rfl);have HX:=az hq;have hw:IntKind.i64.wrap (x.ac+1)=x.ac+1:=by rw[IntKind.wrap_i64];omega
 obtain⟨n,hn⟩:∃n,L.P.length=n:=⟨_,rfl⟩;have HNn:=az hn;rw[hn]at o1 hl hpl⊢;have hne:((n:Int)==262144)=false:=by simpa using(by omega:¬(n:Int)=262144)
 have c0:=o1.cell 0;change w.cell? ⟨b,0,none⟩=some (.slice pa n pc)at c0;have hbl:=o1.aS;have oA:=o1.alloc (.cells #[.int .i64 (k:Int),.int .i64 len,.int .i64 1,.int .i64 0] 143);clear hb hQ hq hx hok UE hn he o o1;go_enter func70,ntmps70;go_wp2_with fail;refine hnb.mono ?_;rintro _ _⟨rfl,rfl⟩;clear hnb;go_wp2_with(at_builtin;refine aU rfl _ _ rfl Tryz.lpkT rfl (oA.up 2) ⟨w.heap.size,0,none⟩ 1 1 [.int .i64 (k:Int),.int .i64 len,.int .i64 1,.int .i64 0] rfl rfl ?c1 ?c2 ?c3 ?c4 ?c5);case c1=>exact Own.news (T:=143) oA
 case c2=>intro u hu;simp at hu;rcases hu with rfl|rfl|rfl|rfl<;>rfl
 case c3=>unfold maxLen;omega
 case c4=>omega
 case c5=>
 intro a2 c2 w5 o5 k5;have o6:Own w5 (Wq b pa n pc Q::slc 143 4 a2 (n+1) c2 (flat Ej (L.P++[⟨(k:Int),len,1,0⟩]))::st (Q.map kG)::R):=by rw[aO];exact(o5.re [1] 1).re [1,0]
 have e0:=o6.cell 0;change w5.cell? ⟨b,0,none⟩=some (.slice pa n pc)at e0;have ef:=o6.frozen;have el:=o6.aS;have o7:Own _ (Wq b a2 (n+1) c2 Q::_):=o6.setCell 0 (.slice a2 (n+1) c2);have f1:=o7.cell (1+(k*7+1)) (v:=.int .i64 x.ac) (by rw[pX HX.out (by omega)];rfl);have f0:=o7.cell 0;change World.cell? _ ⟨b,0,none⟩=some (.slice a2 (n+1) c2)at f0;have ff:=o7.frozen;have fl:=o7.aS;have o8:=o7.setCell (1+(k*7+1)) (.int .i64 (x.ac+1));rw[xy (q':=({x with ac:=x.ac+1},a,c)) HX.out (by omega) rfl]at o8;rw[show 1+(k*7+1)=1+k*7+1 by omega]at f1 o8;have o9:=o8.drew;have g0:=o9.cell 0;change World.cell? _ ⟨b,0,none⟩=some (.slice a2 (n+1) c2)at g0;have K9:Calm w _:=uI (iy (x:=⟨b,1+k*7+1,none⟩) (v:=.int .i64 (x.ac+1)) (iy (x:=⟨b,0,none⟩) (v:=.slice a2 (n+1) c2) (k5.al)));clear o5 oA o6 o7 o8 k5;go_upto_region 6 with fail;go_region_law(fail);go_wp2;go_ret2;rw[HE.out];refine⟨by push_cast;rfl,iV.iff.2 ⟨a2,c2,_,HQ.out,?_⟩,K9⟩;rw[HS.out,List.length_append,HNn.out];exact o9
theorem EP{P:List NC}{j q:Nat}{p p':NC}{v:aL}(h:P[j]?=some p)(hq:q<4)(hv:Ej p'=(Ej p).set q v):flat Ej (P.set j p')=(flat Ej P).set (j*4+q) v:=Fj jK P j q p p' v h hq hv
def setSt(P:List NC)(id st:Int):List NC:=match qH P id with
 |none=>P
 |some p=>P.set (id.toNat-1) {p with st:=st}
def Ws(L:vE)(id:Int):Int:=match qH L.P id with
 |none=>6
 |some p=>if p.st=1\/p.st=2 then 0 else 14
def I_(L:vE)(id:Int):vE:=if Ws L id=0 then⟨setSt L.P id 2,L.F⟩else L
theorem Mv(id:Int)(hok:L.Ok N)(o:Own w (iV b L::R)):
  Calls prog 100 #[.pointer (some ⟨b,0,none⟩),.int .i64 id] w (aR (.int .i64 (Ws L id)) (iV b (I_ L id)::R) w):=by
 obtain⟨pa,pc,Q,hQ,o1⟩:=iV.iff.1 o;have hp:=mh id rfl hok.pl o1;unfold I_;rcases sV id rfl (o1.up 1)with⟨e1,e2⟩|⟨j,g,p,rfl,hj,EO,e1,rfl,e2,c0,c1,c2,c3,hf,hg⟩
 ·have e3:Ws L id=6:=by unfold Ws;rw[e1]
  rw[e3,if_neg (by omega)];rw[e2]at hp;clear e1 e2 e3;go_enter func100,ntmps100;go_wp2_with fail;refine hp.mono ?_;rintro _ _⟨rfl,rfl⟩;go_wp2;go_ret;exact⟨rfl,o,Calm.refl _⟩
 ·have e3:Ws L ((j:Int)+1)=if p.st=1\/p.st=2 then 0 else 14:=by unfold Ws;rw[e1]
  rw[e2]at hp;by_cases hs:p.st=1\/p.st=2
  ·rw[e3,if_pos hs,if_pos rfl];have HE:=az (show setSt L.P ((j:Int)+1) 2=L.P.set j {p with st:=2}by unfold setSt;rw[e1,show((j:Int)+1).toNat-1=j by omega]);have oS:=(o1.up 1).iK (j*4+2) (.int .i64 2) (by rw[aN jK];omega);rw[<-EP (p':={p with st:=2}) EO (by omega) rfl]at oS;have hf2:=hf (j*4+2);have hZ:((p.st !=1)=false)\/((p.st !=1)=true/\(p.st !=2)=false):=by
    by_cases h:p.st=1
    ·exact .inl (by simp[h])
    ·exact .inr ⟨by simpa using h,by have:p.st=2:=by omega
                                     simp[this]⟩
   generalize p.st=ps at*;clear e1 e2 e3 hs EO hf o o1;go_enter func100,ntmps100;rcases hZ with z1|⟨z1,z2⟩
   all_goals go_wp2_with fail
   all_goals refine hp.mono ?_
   all_goals rintro _ _⟨rfl,rfl⟩
   all_goals go_wp2
   all_goals go_ret
   all_goals exact⟨rfl,iV.iff.2 ⟨some ⟨g,0,none⟩,pc,Q,hQ,by rw[HE.out,List.length_set];exact oS.re [1,0]⟩,iy (Calm.refl _)⟩
  ·rw[e3,if_neg hs,if_neg (by omega)];have z1:(p.st !=1)=true:=by simpa using(fun h=>hs (.inl h))
   have z2:(p.st !=2)=true:=by simpa using(fun h=>hs (.inr h))
   clear e1 e2 e3 hs EO;go_enter func100,ntmps100;go_wp2_with fail;refine hp.mono ?_;rintro _ _⟨rfl,rfl⟩;go_wp2;go_ret;exact⟨rfl,o,Calm.refl _⟩
def Zg(P:List NC)(id r:Int):List NC:=match qH P id with
 |none=>P
 |some p=>P.set (id.toNat-1) {p with st:=4,rs:=r}
def Wt(L:vE)(id r:Int):Int:=match qH L.P id with
 |none=>6
 |some p=>if r<1\/4<r then 1 else if p.st=1\/p.st=2 then 0 else 14
def adU(L:vE)(id:Int):List Zf:=match qH L.P id with
 |none=>L.F
 |some p=>(Mo L p.fl).F
def adV(L:vE)(id r:Int):vE:=if Wt L id r=0 then⟨Zg L.P id r,adU L id⟩else L
theorem Mw{P:List NC}{j:Nat}{p p':NC}(h:∀p∈P,0<=p.fl/\p.fl<32/\1<=p.len/\p.len<=4096)(hp:P[j]?=some p)(h1:p'.fl=p.fl)(h2:p'.len=p.len):∀y∈P.set j p',0<=y.fl/\y.fl<32/\1<=y.len/\y.len<=4096:=fun y hy=>by
 rcases List.mem_or_eq_of_mem_set hy with hy|rfl
 ·exact h y hy
 ·rw[h1,h2];exact h p (mH hp)
theorem Gv{P:List NC}{id:Int}{p:NC}(h:qH P id=some p):1<=id/\P[id.toNat-1]?=some p:=by
 unfold qH at h;split at h
 ·cases h
 ·exact⟨by omega,h⟩
theorem abk(h:L.Ok N)(id:Int):(I_ L id).Ok N:=by
 unfold I_;split
 ·unfold setSt;cases hp:qH L.P id with
  |none=>exact h
  |some p=>exact⟨h.fl,Mw h.pk (Gv hp).2 rfl rfl,by dsimp only;rw[List.length_set];exact h.pl,h.cn⟩
 ·exact h
theorem Ja(id r:Int)(hok:L.Ok N)(hN:N<=1000000000)(o:Own w (iV b L::R)):
  Calls prog 91 #[b,id,r] w (aR (.int .i64 (Wt L id r)) (iV b (adV L id r)::R) w):=by
 obtain⟨pa,pc,Q,hQ,o1⟩:=iV.iff.1 o;have hp:=mh id rfl hok.pl o1;unfold adV;rcases sV id rfl (o1.up 1)with⟨e1,e2⟩|⟨j,g,p,rfl,hj,EO,e1,rfl,e2,c0,c1,c2,c3,hf,hg⟩
 ·have e3:Wt L id r=6:=by unfold Wt;rw[e1]
  rw[e3,if_neg (by omega)];rw[e2]at hp;clear e1 e2 e3;go_enter func91,ntmps91;go_wp2_with fail;refine hp.mono ?_;rintro _ _⟨rfl,rfl⟩;go_wp2;go_ret;exact⟨rfl,o,Calm.refl _⟩
 ·have e3:Wt L ((j:Int)+1) r=if r<1\/4<r then 1 else if p.st=1\/p.st=2 then 0 else 14:=by unfold Wt;rw[e1]
  rw[e2]at hp;by_cases hr:r<1\/4<r
  ·rw[e3,if_pos hr,if_neg (by omega)];clear e1 e2 e3 EO;go_enter func91,ntmps91;rcases hr with hr|hr
   ·have d1:decide (r<1)=true:=bz hr;clear hr;go_wp2_with fail;refine hp.mono ?_;rintro _ _⟨rfl,rfl⟩;go_wp2;go_ret;exact⟨rfl,o,Calm.refl _⟩
   ·have d1:=bW (show¬(r<1)by omega);have d2:decide (4<r)=true:=bz hr;clear hr;go_wp2_with fail;refine hp.mono ?_;rintro _ _⟨rfl,rfl⟩;go_wp2;go_ret;exact⟨rfl,o,Calm.refl _⟩
  ·rw[e3,if_neg hr];have d1:=bW (show¬(r<1)by omega);have d2:=bW (show¬(4<r)by omega);by_cases hs:p.st=1\/p.st=2
   ·rw[if_pos hs,if_pos rfl];have hpk:=hok.pk p (mH EO);obtain⟨k,hk⟩:∃k:Nat,p.fl=(k:Int):=⟨p.fl.toNat,by omega⟩;obtain⟨x,hx⟩:∃x,L.F[k]?=some x:=⟨_,cZ (by rw[hok.fl];omega)⟩;obtain⟨a,c,hq⟩:=Px hQ hx;have UE:=hok.cn x (mH hx);have HE:=az (show Zg L.P ((j:Int)+1) r=L.P.set j {p with st:=4,rs:=r}by unfold Zg;rw[e1,show((j:Int)+1).toNat-1=j by omega]);have HF:=az (show adU L ((j:Int)+1)=L.F.set k {x with dr:=x.dr+1}by unfold adU;rw[e1];show(Mo L p.fl).F=_;unfold Mo;rw[hk,Int.toNat_natCast,hx]);have HQ:=az (show(Q.set k ({x with dr:=x.dr+1},a,c)).map (·.1)=L.F.set k {x with dr:=x.dr+1}by rw[List.map_set,hQ]);have HS:=az (Mq (x':={x with dr:=x.dr+1}) hq rfl);have hp2:(L.P.set j {p with st:=4})[j]?=some {p with st:=4}:=by rw[List.getElem?_set_self (eU.1 EO).1]
    have oS:=((o1.up 1).iK (j*4+2) (.int .i64 4) (by rw[aN jK];omega));rw[<-EP (p':={p with st:=4}) EO (by omega) rfl]at oS;obtain⟨g',hg',hcc,hf',hg2⟩:=oS.aG (by omega);cases hg';have s0:=hcc (j*4+0) p.fl (by rw[aB jK _ j 0 _ hp2 (by omega)];rfl);rw[Nat.add_zero]at s0;have s3:=hcc (j*4+3) p.rs (by rw[aB jK _ j 3 _ hp2 (by omega)];rfl);have hf3:=hf' (j*4+3);have oU:=oS.iK (j*4+3) (.int .i64 r) (by rw[aN jK,List.length_set];omega);rw[<-EP (p':={p with st:=4,rs:=r}) hp2 (by omega) rfl,List.set_set]at oU;obtain⟨g'',hg'',Zh,_,hg3⟩:=oU.aG (by omega);cases hg'';have hp3:(L.P.set j {p with st:=4,rs:=r})[j]?=some {p with st:=4,rs:=r}:=by rw[List.getElem?_set_self (eU.1 EO).1]
    have u0:=Zh (j*4+0) p.fl (by rw[aB jK _ j 0 _ hp3 (by omega)];rfl);rw[Nat.add_zero]at u0;have v3:=(oU.up 1).cell (1+(k*7+3)) (v:=.int .i64 x.dr) (by rw[pX hq (by omega)];rfl);obtain⟨vf,vl,-⟩:=(oU.up 1).cs;have oV:=(oU.up 1).setCell (1+(k*7+3)) (.int .i64 (x.dr+1));rw[xy (q':=({x with dr:=x.dr+1},a,c)) hq (by omega) rfl]at oV;rw[show 1+(k*7+3)=1+k*7+3 by omega]at v3 oV;rw[hk]at u0 s0 c0;have hf2:=hf (j*4+2);have hw:IntKind.i64.wrap (x.dr+1)=x.dr+1:=by rw[gB];omega
    have LH:k<32:=by omega
    have hq1:(k:Int)<32:=by omega
    have hZ:((p.st !=1)=false)\/((p.st !=1)=true/\(p.st !=2)=false):=by
     by_cases h:p.st=1
     ·exact .inl (by simp[h])
     ·exact .inr ⟨by simpa using h,by have:p.st=2:=by omega
                                      simp[this]⟩
    have oW:=oV.drew;have HQ2:=az hQ;have hlen:(L.P.set j {p with st:=4,rs:=r}).length=L.P.length:=List.length_set ..;have HLn:=az hlen;generalize p.st=ps at*;clear e1 e2 e3 hs EO hf o o1 hr hpk hk hx hq UE hp2 hp3 hcc Zh hf' oS oU oV hQ hlen;go_enter func91,ntmps91;rcases hZ with z1|⟨z1,z2⟩
    all_goals go_wp2_with fail
    all_goals refine hp.mono ?_
    all_goals rintro _ _⟨rfl,rfl⟩
    all_goals go_upto_region 9 with fail
    all_goals go_region_law(fail)
    all_goals go_wp2
    all_goals go_ret
    all_goals refine⟨rfl,iV.iff.2 ⟨some ⟨g,0,none⟩,pc,_,HQ.out.trans HF.out.symm,?_⟩,uI (iy (iy (iy (Calm.refl _))))⟩
    all_goals rw[HE.out,HS.out]
    all_goals dsimp only
    all_goals rw[HLn.out]
    all_goals exact oW
   ·rw[if_neg hs,if_neg (by omega)];have z1:(p.st !=1)=true:=by simpa using(fun h=>hs (.inl h))
    have z2:(p.st !=2)=true:=by simpa using(fun h=>hs (.inr h))
    clear e1 e2 e3 hs EO hr;go_enter func91,ntmps91;go_wp2_with fail;refine hp.mono ?_;rintro _ _⟨rfl,rfl⟩;go_wp2;go_ret;exact⟨rfl,o,Calm.refl _⟩
def Mx(x:Zf)(id len:Int):Zf:=⟨x.ac,x.de+1,x.dr,x.d_+len,x.od++[id]⟩
def uJ(l:bq)(id:Int):Bool:=match l.getLast? with
 |none=>false
 |some z=>decide (id<z)
def AP(L:vE)(id:Int):Int:=match qH L.P id with
 |none=>6
 |some p=>if p.st≠2 then 14 else match L.F[p.fl.toNat]? with
  |none=>0
  |some x=>if uJ x.od id=true then 1 else 0
def Zi(L:vE)(id:Int):List Zf:=match qH L.P id with
 |none=>L.F
 |some p=>match L.F[p.fl.toNat]? with
  |none=>L.F
  |some x=>L.F.set p.fl.toNat (Mx x id p.len)
def Pz(L:vE)(id:Int):vE:=if AP L id=0 then⟨setSt L.P id 3,Zi L id⟩else L
theorem UI(h:L.Ok N)(id:Int):(Pz L id).Ok (N+1):=by
 unfold Pz;split
 ·unfold setSt Zi;cases hp:qH L.P id with
  |none=>exact h.le (by omega)
  |some p=>
   dsimp only;have hp2:=(Gv hp).2;have hpk:=h.pk p (mH hp2);cases hx:L.F[p.fl.toNat]? with
   |none=>exact⟨h.fl,Mw h.pk hp2 rfl rfl,by dsimp only;rw[List.length_set];exact h.pl,fun y hy=>by have:=h.cn y hy;omega⟩
   |some x=>
    refine⟨by dsimp only;rw[List.length_set];exact h.fl,Mw h.pk hp2 rfl rfl,by dsimp only;rw[List.length_set];exact h.pl,fun y hy=>?_⟩;dsimp only at hy;rcases List.mem_or_eq_of_mem_set hy with hy|rfl
    ·have:=h.cn y hy;omega
    ·have:=h.cn x (mH hx);unfold Mx;dsimp only;rw[jf,List.length_singleton];omega
 ·exact h.le (by omega)
theorem ER{k:Nat}{q:Lq}(h:Q[k]?=some q):(Q.map kG)[k]?=some (kG q):=by rw[kI,h];rfl
theorem Zj{k:Nat}{q:Lq}:(Q.map kG).set k (kG q)=(Q.set k q).map kG:=by rw[List.map_set]
theorem Wu{l:bq}{id:Int}(h:uJ l id=false):l=[]\/∃ys z,l=ys++[z]/\¬id<z:=by
 rcases List.eq_nil_or_concat l with rfl|⟨ys,z,rfl⟩
 ·exact .inl rfl
 ·rw[List.concat_eq_append]at h⊢;unfold uJ at h;rw[List.getLast?_append]at h;exact .inr ⟨ys,z,rfl,by simpa using h⟩
theorem Sk{l:bq}{id:Int}(h:uJ l id=true):∃ys z,l=ys++[z]/\id<z:=by
 rcases List.eq_nil_or_concat l with rfl|⟨ys,z,rfl⟩
 ·cases h
 ·rw[List.concat_eq_append]at h⊢;unfold uJ at h;rw[List.getLast?_append]at h;exact⟨ys,z,rfl,by simpa using h⟩
theorem Tryz.intTl:bS prog 22 3 1 8:=bS.mk' (z:=.int .i64 0) underlying22 (by kernel_rfl) rfl (by decide)
theorem Kg{q:Lq}{ys:bq}{z:Int}(h:q.1.od=ys++[z])(o:Own w (kG q::R)):∃g:Nat,q.2.1=some ⟨g,0,none⟩/\w.cell? ⟨g,ys.length,none⟩=some ↑z:=by unfold kG at o;rw[h]at o;obtain⟨g,h1,hc,_,_⟩:=o.aG (by simp);refine⟨g,h1,hc ys.length _ ?_⟩;rw[tJ,List.getElem?_append_right (by simp)];simp
theorem Sl(id:Int)(he:AP L id≠0)(hok:L.Ok N)(hN:N<=1000000000)(o:Own w (iV b L::R)):
  Calls prog 160 #[b,id] w (aR (.int .i64 (AP L id)) (iV b L::R) w):=by
 obtain⟨pa,pc,Q,hQ,o1⟩:=iV.iff.1 o;have hp:=mh id rfl hok.pl o1;rcases sV id rfl (o1.up 1)with⟨e1,e2⟩|⟨j,g,p,rfl,hj,EO,e1,rfl,e2,c0,c1,c2,c3,hf,hg⟩
 ·have e3:AP L id=6:=by unfold AP;rw[e1]
  rw[e3];rw[e2]at hp;clear e1 e2 e3 he;go_enter func160,ntmps160;go_wp2_with fail;refine hp.mono ?_;rintro _ _⟨rfl,rfl⟩;go_wp2;go_ret;exact⟨rfl,o,Calm.refl _⟩
 ·rw[e2]at hp;by_cases hs:p.st≠2
  ·have e3:AP L ((j:Int)+1)=14:=by unfold AP;rw[e1];dsimp only;rw[if_pos hs]
   rw[e3];have z1:(p.st !=2)=true:=by simpa using hs
   clear e1 e2 e3 hs EO he;go_enter func160,ntmps160;go_wp2_with fail;refine hp.mono ?_;rintro _ _⟨rfl,rfl⟩;go_wp2;go_ret;exact⟨rfl,o,Calm.refl _⟩
  ·have hpk:=hok.pk p (mH EO);obtain⟨k,hk⟩:∃k:Nat,p.fl=(k:Int):=⟨p.fl.toNat,by omega⟩;obtain⟨x,hx⟩:∃x,L.F[k]?=some x:=⟨_,cZ (by rw[hok.fl];omega)⟩;obtain⟨a,c,hq⟩:=Px hQ hx;have e3:AP L ((j:Int)+1)=if uJ x.od ((j:Int)+1)=true then 1 else 0:=by unfold AP;rw[e1];dsimp only;rw[if_neg hs,hk,Int.toNat_natCast,hx]
   by_cases hl:uJ x.od ((j:Int)+1)=true
   ·rw[e3,if_pos hl];obtain⟨ys,z,hyz,hz⟩:=Sk hl;obtain⟨ga,rfl,cz⟩:=Kg (q:=(x,a,c)) hyz (Own.focus (ER hq) (o1.up 2));have UE:=hok.cn x (mH hx);have hlen:x.od.length=ys.length+1:=by rw[hyz];simp
    have v6:=o1.cell (1+(k*7+6)) (v:=.slice (some ⟨ga,0,none⟩) (ys.length+1) c) (by rw[pX hq (by omega)];unfold Ei;rw[hlen];rfl);rw[show 1+(k*7+6)=1+k*7+6 by omega]at v6;have z1:(p.st !=2)=false:=by simpa using hs
    have d1:decide ((j:Int)+1<z)=true:=bz hz;have LH:k<32:=by omega
    have hq1:(k:Int)<32:=by omega
    have hbl:=o1.aS;have hm:ys.length<=1000000000:=by omega
    rw[hk]at c0;generalize ys.length=m at*;clear e1 e2 e3 hs EO hk hx hq UE hyz hlen hl hpk he;go_enter func160,ntmps160;go_wp2_with fail;refine hp.mono ?_;rintro _ _⟨rfl,rfl⟩;go_upto_region 6 with fail;go_quiet(fail);go_wp2;go_ret;exact⟨rfl,o.drewN _,(Calm.refl _).dn _⟩
   ·rw[e3,if_neg hl]at he;exact absurd rfl he
theorem Wv{x:Zf}{a:aY}{c m:Nat}(h:x.od.length=m)(o:Own w (kG (x,a,c)::R)):Own w (slc 3 1 a m c (x.od.map (Value.int .i64))::R):=by subst h;exact o
theorem Ww{x:Zf}{a:aY}{c m:Nat}(h:x.od.length=m)(o:Own w (slc 3 1 a m c (x.od.map (Value.int .i64))::R)):Own w (kG (x,a,c)::R):=by subst h;exact o
theorem Sm(id:Int)(he:AP L id=0)(hok:L.Ok N)(hN:N<=1000000000)(o:Own w (iV b L::R)):
  Calls prog 160 #[b,id] w (aR (.int .i64 0) (iV b ⟨setSt L.P id 3,Zi L id⟩::R) w):=by
 obtain⟨pa,pc,Q,hQ,o1⟩:=iV.iff.1 o;have hp:=mh id rfl hok.pl o1;rcases sV id rfl (o1.up 1)with⟨e1,e2⟩|⟨j,g,p,rfl,hj,EO,e1,rfl,e2,c0,c1,c2,c3,hf,hg⟩
 ·unfold AP at he;rw[e1]at he;cases he
 rw[e2]at hp;have hpk:=hok.pk p (mH EO);obtain⟨k,hk⟩:∃k:Nat,p.fl=(k:Int):=⟨p.fl.toNat,by omega⟩;obtain⟨x,hx⟩:∃x,L.F[k]?=some x:=⟨_,cZ (by rw[hok.fl];omega)⟩;obtain⟨a,c,hq⟩:=Px hQ hx;have UE:=hok.cn x (mH hx);unfold AP at he;rw[e1]at he;dsimp only at he;by_cases hs:p.st≠2
 ·rw[if_pos hs]at he;cases he
 rw[if_neg hs,hk,Int.toNat_natCast,hx]at he;dsimp only at he;have hl:uJ x.od ((j:Int)+1)=false:=by
  cases h:uJ x.od ((j:Int)+1)with
  |false=>rfl
  |true=>rw[h]at he;cases he
 have HE:=az (show setSt L.P ((j:Int)+1) 3=L.P.set j {p with st:=3}by unfold setSt;rw[e1,show((j:Int)+1).toNat-1=j by omega]);have HF:=az (show Zi L ((j:Int)+1)=L.F.set k (Mx x ((j:Int)+1) p.len)by unfold Zi;rw[e1];dsimp only;rw[hk,Int.toNat_natCast,hx]);have HL:=az (Wu hl);have HX:=az hq;have HQ:=az hQ;have hps:p.st=2:=by omega
 have z1:(p.st !=2)=false:=by simp[hps]
 have hf2:=hf (j*4+2);have LH:k<32:=by omega
 have hq1:(k:Int)<32:=by omega
 have hbl:=o1.aS;have hol:x.od.length<=1000000000:=by omega
 obtain⟨n0,hn0⟩:=aP x.od.length;have HN0:=az hn0;have v6:=o1.cell (1+(k*7+6)) (v:=.slice a n0 c) (by rw[pX hq (by omega)];unfold Ei;rw[hn0];rfl);rw[show 1+(k*7+6)=1+k*7+6 by omega]at v6;rw[hk]at c0;have hlen:(L.P.set j {p with st:=3}).length=L.P.length:=List.length_set ..;have HLn:=az hlen;have ahc:=UE.1;have ahd:=UE.2.1;rw[hn0]at hol;have HXR:=az UE;have QS:=az hpk;have HPJ:=az EO;clear e1 e2 he hs hps hpk hk hx hq UE hl hQ hlen EO hf hn0 ahc ahd;go_enter func160,ntmps160;go_wp2_with fail;refine hp.mono ?_;rintro _ _⟨rfl,rfl⟩;clear hp;go_upto_region 6 with fail;go_quiet(fail);go_upto_region 8 with fail;go_cut[46] (fun v wc=>v=.bool false/\wc=w.drewN nq);case first=>
  rcases HL.out with hnil|⟨ys,z,hyz,hz⟩
  ·have e0:n0=0:=by rw[<-HN0.out,hnil];rfl
   subst e0;go_wp2;go_meet;exact⟨rfl,rfl⟩
  ·obtain⟨ga,rfl,cz⟩:=Kg (q:=(x,a,c)) hyz (Own.focus (ER HX.out) (o1.up 2));have e0:n0=ys.length+1:=by rw[<-HN0.out,hyz];simp
   have d1:=bW (show¬((j:Int)+1<z)by omega);subst e0;have hm:ys.length<=1000000000:=by omega
   clear hyz hz HN0;generalize ys.length=m at*;go_wp2;go_meet;exact⟨rfl,rfl⟩
 case rest=>
  obtain⟨rfl,rfl⟩:=hcut;have oD:=o1.drewN nq;have oS:=(oD.up 1).iK (j*4+2) (.int .i64 3) (by rw[aN jK];omega);rw[<-EP (p':={p with st:=3}) HPJ.out (by omega) rfl]at oS;obtain⟨g1,hg1,hcs,hfs,hgs⟩:=oS.aG (by omega);cases hg1;have hp3:(L.P.set j {p with st:=3})[j]?=some {p with st:=3}:=by rw[List.getElem?_set_self (eU.1 HPJ.out).1]
  have s1:=hcs (j*4+1) p.len (by rw[aB jK _ j 1 _ hp3 (by omega)];rfl);have oF:Own _ (kG (x,a,c)::st ((Q.map kG).eraseIdx k)::_):=Own.focus (ER HX.out) (oS.up 2);have t6:=(oF.up 3).cell (1+(k*7+6)) (v:=.slice a n0 c) (by rw[pX HX.out (by omega)];unfold Ei;rw[HN0.out];rfl);rw[show 1+(k*7+6)=1+k*7+6 by omega]at t6;have oA:=(Wv HN0.out oF).alloc (.cells #[((j:Int)+1:Int)] 3);have KS:Calm w ((w.drewN nq).setCell ⟨g,j*4+2,none⟩ (3:Int)):=iy ((Calm.refl w).dn nq);clear hcs v6 oF oS oD o1 o;go_wp2_with(at_builtin;refine aU rfl _ _ rfl Tryz.intTl rfl (oA.up 1) ⟨w.heap.size,0,none⟩ 1 1 [((j:Int)+1:Int)] rfl rfl ?c1 ?c2 ?c3 ?c4 ?c5);case c1=>have h:=Own.news (T:=3) oA;simpa using h
  case c2=>intro u hu;simp at hu;rcases hu with rfl;rfl
  case c3=>unfold maxLen;omega
  case c4=>omega
  case c5=>
  intro a2 c2 w5 o5 k5;have K5:Calm w w5:=KS.trans k5.al;have o6:Own w5 (slc 3 1 a2 (n0+1) c2 ((x.od++[(j:Int)+1]).map (Value.int .i64))::st ((Q.map kG).eraseIdx k)::slc 143 4 (some ⟨g,0,none⟩) L.P.length pc (flat Ej (L.P.set j {p with st:=3}))::Wq b (some ⟨g,0,none⟩) L.P.length pc Q::R):=by rw[tJ];exact o5.re [1] 1
  have ho1:(x.od++[(j:Int)+1]).length=n0+1:=by rw[jf,HN0.out];rfl
  have e6:=(o6.up 3).cell (1+(k*7+6)) (v:=.slice a n0 c) (by rw[pX HX.out (by omega)];unfold Ei;rw[HN0.out];rfl);obtain⟨ef,el,-⟩:=(o6.up 3).cs;have oB:=(o6.up 3).setCell (1+(k*7+6)) (.slice a2 (n0+1) c2);rw[xy (q':=({x with od:=x.od++[(j:Int)+1]},a2,c2)) HX.out (by omega) (by unfold Ei;rw[ho1];rfl)]at oB;have adW:(Q.set k ({x with od:=x.od++[(j:Int)+1]},a2,c2))[k]?=some ({x with od:=x.od++[(j:Int)+1]},a2,c2):=by rw[List.getElem?_set_self (eU.1 HX.out).1]
  have f2:=oB.cell (1+(k*7+2)) (v:=.int .i64 x.de) (by rw[pX adW (by omega)];rfl);obtain⟨ff,fl,-⟩:=oB.cs;have oC:=oB.setCell (1+(k*7+2)) (.int .i64 (x.de+1));rw[xy (q':=({x with od:=x.od++[(j:Int)+1],de:=x.de+1},a2,c2)) adW (by omega) rfl,List.set_set]at oC;have adX:(Q.set k ({x with od:=x.od++[(j:Int)+1],de:=x.de+1},a2,c2))[k]?=some ({x with od:=x.od++[(j:Int)+1],de:=x.de+1},a2,c2):=by rw[List.getElem?_set_self (eU.1 HX.out).1]
  have g4:=oC.cell (1+(k*7+4)) (v:=.int .i64 x.d_) (by rw[pX adX (by omega)];rfl);obtain⟨gf,gl,-⟩:=oC.cs;obtain⟨g1,hg1,hcs,_,aiD⟩:=(oC.up 3).aG (by omega);cases hg1;have s2:=hcs (j*4+1) p.len (by rw[aB jK _ j 1 _ hp3 (by omega)];rfl);have oE:=oC.setCell (1+(k*7+4)) (.int .i64 (x.d_+p.len));rw[xy (q':=(Mx x ((j:Int)+1) p.len,a2,c2)) adX (by omega) rfl,List.set_set]at oE;rw[show 1+(k*7+6)=1+k*7+6 by omega]at e6 oE f2 g4 s2 oB oC;rw[show 1+(k*7+2)=1+k*7+2 by omega]at f2 oE g4 s2 oC;rw[show 1+(k*7+4)=1+k*7+4 by omega]at g4 oE;have oG:=oE.drew;have hw1:IntKind.i64.wrap (x.de+1)=x.de+1:=by rw[gB];have:=HXR.out;omega
  have hw2:IntKind.i64.wrap (x.d_+p.len)=x.d_+p.len:=by rw[gB];have:=HXR.out;have:=QS.out;omega
  have HQF:=az (show(Q.set k (Mx x ((j:Int)+1) p.len,a2,c2)).map (·.1)=L.F.set k (Mx x ((j:Int)+1) p.len)by rw[List.map_set,HQ.out]);have HDX:=az (show(Mx x ((j:Int)+1) p.len).od.length=n0+1 from ho1);have hat:(Q.map kG)[k]?=some (kG (x,a,c)):=ER HX.out;have HAT:=az hat;clear hcs oB oC oE o6 o5 oA ho1 adW adX hp3 hat;go_upto_region 13 with fail;go_region_law(fail);all_goals go_wp2
  all_goals go_ret
  all_goals refine⟨rfl,iV.iff.2 ⟨some ⟨g,0,none⟩,pc,Q.set k (Mx x ((j:Int)+1) p.len,a2,c2),HQF.out.trans HF.out.symm,?_⟩,uI (iy (iy (iy K5)))⟩
  all_goals rw[HE.out]
  all_goals dsimp only
  all_goals rw[HLn.out,<-Zj]
  all_goals have oH:=Own.qY (B:=kG (Mx x ((j:Int)+1) p.len,a2,c2)) HAT.out (Ww HDX.out (oG.re [1,2]))
  all_goals exact oH.re [1,2]
theorem MC(id:Int)(hok:L.Ok N)(hN:N<=1000000000)(o:Own w (iV b L::R)):
  Calls prog 160 #[b,id] w (aR (.int .i64 (AP L id)) (iV b (Pz L id)::R) w):=by
 unfold Pz;by_cases he:AP L id=0
 ·rw[if_pos he,he];exact Sm id he hok hN o
 ·rw[if_neg he];exact Sl id he hok hN o
end
section
variable{w:aF}{l:aJ}{P:Program}{t e:TypeId}{size bytes:Nat}
theorem AZ(ty:TypeId)(E:bS P t e size bytes){g off n cap:Nat}{xs:dw}(o:Own w (SP.mQ e size (some ⟨g,off,none⟩) n cap xs::l)){x:aL}{m:Nat}{news:dw}(hx:qX w x size m news)(hroom:n+m<=cap):
  ∃w',(Builtin.append_ #[t,t] ty #[.slice (some ⟨g,off,none⟩) n cap,x]).run P w=.ok (.slice (some ⟨g,off,none⟩) (n+m) cap) w'/\Own w' (SP.mQ e size (some ⟨g,off,none⟩) (n+m) cap (xs++news)::l)/\Calm w w':=by
 obtain⟨b,c,rfl,hl,h1,hb⟩:=hx;obtain⟨ht,⟨i,z,hi,hz,rfl,rfl,hzs⟩,hsz⟩:=E;rcases hb with rfl|⟨ad,rfl,hc⟩
 ·have hn:news=[]:=CO (by simpa using hl);subst hn;have hnc:=o.Am.2.1;refine⟨w,?_,by simpa using o,Calm.refl w⟩;cases b<;>simp[Builtin.append_,run_underlying ht,sizeOf,typeInfo,hi,Builtin.lenOf,Builtin.firstCells,loadCells,loadCellsFrom,hnc,storeCells]
 ·rcases Own.mQ.1 o with⟨h,_⟩|⟨g',pre,sp,hg',hnc,hcm,hxl,hsl,o1⟩
  ·cases h
  ·simp only[Option.some.injEq,Addr.mk.injEq]at hg';obtain⟨rfl,rfl,_⟩:=hg';have hmn:m*i.size<=(cap-n)*i.size:=Nat.mul_le_mul_right _ (by omega);have hnl:news.length<=sp.length:=by rw[hl];exact Nat.le_trans hmn hsl
   have hr:=run_append_room_cells (P:=P) (w:=w) t ty e i ht hi g pre.length n cap ad m c news hl hc h1 hroom
    (fun j hj=>by
     obtain⟨u,hu⟩:∃u,(pre++xs++sp)[pre.length+n*i.size+j]?=some u:=⟨_,cZ (by rw[jf,jf,hxl];omega)⟩;rw[Own.cell o1 _ hu]
     rfl)
    (fun j _=>Own.frozen o1 _)
   refine⟨_,hr,?_,qF news _ _ (Calm.refl w)⟩;have hsp:sp=sp.take news.length++sp.drop news.length:=(List.take_append_drop _ _).symm;have o2:Own w (SP.aH g e ((pre++xs)++sp.take news.length++sp.drop news.length)::l):=by rw[List.append_assoc (pre++xs),<-hsp];exact o1
   have o3:=Own.uA news (pre++xs) (sp.take news.length) (sp.drop news.length) w (by rw[rZ];omega) o2;rw[jf,hxl]at o3;refine Own.mQ.2 (.inr ⟨g,pre,sp.drop news.length,rfl,hroom,hcm,?_,?_,?_⟩)
   ·rw[jf,hxl,hl,Nat.add_mul]
   ·rw[List.length_drop,hl];have h5:(cap-n)*i.size=(cap-(n+m))*i.size+m*i.size:=by rw[<-Nat.add_mul];congr 1;omega
    omega
   ·rw[<-List.append_assoc pre xs news];exact o3
theorem qN{ops:Array Oper}{op:Oper}{A:Act}{K:Act->aF->Prop}{Q:Exit->Act->aF->Prop}{F:Prop}(hgd:op.guard=none)(s x:Operand)
  (hop:op.op=.call {callee:=.builtin .append,args:=#[s,x],argTypes:=#[t,t]})
  (E:bS P t e size bytes){g off n cap:Nat}{xs:dw}(hs:A.eval s=.slice (some ⟨g,off,none⟩) n cap)(o:Own w (SP.mQ e size (some ⟨g,off,none⟩) n cap xs::l))
  {v:aL}{m:Nat}{news:dw}(hx:A.eval x=v)(hsrc:qX w v size m news)(hroom:n+m<=cap)
  (h:∀w',Own w' (SP.mQ e size (some ⟨g,off,none⟩) (n+m) cap (xs++news)::l)->Calm w w'->K (A.put op.dst (.slice (some ⟨g,off,none⟩) (n+m) cap)) w'):
  if Region.wanted op (yielded ops A.tmps)=true then Oper.wp P op A w K Q else F:=by
 have hw:Region.wanted op (yielded ops A.tmps)=true:=by simp[Region.wanted,hgd]
 rw[if_pos hw];obtain⟨w',hr,h2,h3⟩:=AZ op.type E o hsrc hroom;unfold Oper.wp execOp;simp only[hop,resolve,invoke,builtin,Sem.run_bind,Sem.run_pure,Result.andThen_ok,List.map_toArray,iD,List.map_nil,hs,hx,hr];exact h w' h2 h3
theorem yx(ty:TypeId)(E:bS P t e size bytes){z:aL}(hv:∀w,(zeroValue e).run P w=.ok z w)(hzs:z.cells.size=size)(h1:∀u∈z.cells.toList,u.oneCell'=true){g off n m c cap:Nat}{xs:dw}
  (o:Own w (SP.mQ e size (some ⟨g,off,none⟩) n cap xs::l))(hroom:n+m<=cap):
  ∃w',(Builtin.clear_ #[t] ty #[.slice (some ⟨g,off+n*size,none⟩) m c]).run P w=.ok (.tuple #[]) w'/\Own w' (SP.mQ e size (some ⟨g,off,none⟩) n cap xs::l)/\Calm w w':=by
 obtain⟨ht,-,hsz⟩:=E;cases m with
 |zero=>exact⟨w,by simp[Builtin.clear_,run_underlying ht],o,Calm.refl w⟩
 |succ m=>
  rcases Own.mQ.1 o with⟨h,_⟩|⟨g',pre,sp,hg',hnc,hcm,hxl,hsl,o1⟩
  ·cases h
  ·simp only[Option.some.injEq,Addr.mk.injEq]at hg';obtain⟨rfl,rfl,_⟩:=hg';obtain⟨news,hnews⟩:=aP ((Builtin.zeroCells z.cells (m+1)).toList);have hl:news.length=(m+1)*size:=by rw[<-hnews,Array.length_toList,size_zeroCells,hzs]
   have hone:∀u∈news,u.oneCell'=true:=by
    intro u hu;rw[<-hnews]at hu;unfold Builtin.zeroCells at hu;simp at hu;obtain⟨q,hq,rfl⟩:=hu;apply h1;have hpos:0<z.cells.size:=Nat.pos_of_ne_zero fun h0=>by rw[h0]at hq;simp at hq
    have hlt:=Nat.mod_lt q hpos;rw[getElem!_pos z.cells _ hlt];simp
   have hg:w.heap[g]?=some (.cells (pre++xs++sp).toArray e (0,0)):=Own.blk o1;have hmn:(m+1)*size<=(cap-n)*size:=Nat.mul_le_mul_right _ (by omega);have hst:=run_storeCells_at P g (pre.length+n*size) e news 0 (pre++xs++sp).toArray w hg (by simp only[List.size_toArray,jf,hxl,hl];omega) hone;simp only[Nat.add_zero]at hst;have hrun:(Builtin.clear_ #[t] ty #[.slice (some ⟨g,pre.length+n*size,none⟩) (m+1) c]).run P w=.ok (.tuple #[]) (w.setRow g ((pre++xs++sp).toArray.toList.take (pre.length+n*size)++news++(pre++xs++sp).toArray.toList.drop (pre.length+n*size+news.length)).toArray):=by simp[Builtin.clear_,run_underlying ht,hv,hnews,hst]
   refine⟨_,hrun,?_,⟨rfl,rfl,rfl⟩⟩;have hpl:pre.length+n*size=(pre++xs).length:=by rw[jf,hxl]
   have e1:(pre++xs++sp).toArray.toList.take (pre.length+n*size)++news++(pre++xs++sp).toArray.toList.drop (pre.length+n*size+news.length)=pre++xs++(news++sp.drop news.length):=by rw[hpl];simp only[List.take_left];rw[<-List.drop_drop,List.drop_left,List.append_assoc (pre++xs)]
   rw[e1];refine Own.mQ.2 (.inr ⟨g,pre,news++sp.drop news.length,rfl,hnc,hcm,hxl,?_,o1.setRow _⟩);rw[jf,List.length_drop];omega
theorem Own.Z5{g off n i cap:Nat}{xs ys:dw}(o:Own w (SP.mQ e size (some ⟨g,off,none⟩) n cap (xs++ys)::l))(hi:i<=n)(hx:xs.length=i*size):Own w (SP.mQ e size (some ⟨g,off,none⟩) i cap xs::l):=by
 rcases Own.mQ.1 o with⟨h,_⟩|⟨g',pre,sp,hg',hnc,hcm,hxl,hsl,o1⟩
 ·cases h
 ·simp only[Option.some.injEq,Addr.mk.injEq]at hg';obtain⟨rfl,rfl,_⟩:=hg';refine Own.mQ.2 (.inr ⟨g,pre,ys++sp,rfl,by omega,hcm,hx,?_,?_⟩)
  ·rw[jf]at hxl⊢;have h5:(cap-i)*size=(cap-n)*size+(n-i)*size:=by rw[<-Nat.add_mul];congr 1;omega
   have h6:n*size=i*size+(n-i)*size:=by rw[<-Nat.add_mul];congr 1;omega
   omega
  ·rw[show pre++xs++(ys++sp)=pre++(xs++ys)++sp by simp only[List.append_assoc]];exact o1
end
end Go.Proofs.YtfejhikpfhgbeaaGreatDoor
