import Derived.WalkKit
import Derived.WalkLawsBesides
import Derived.WalkSpells
import Derived.Deep.QuietTactic
import Derived.BigQuiet
import Derived.StillTailTactics
import Derived.Lib.Hide
import Derived.Lib.SlKeysI
import Derived.WideKeyEntry
import Derived.Test.YtfejhikpfhgbeaaGreatDoorProg
set_option maxHeartbeats 25600000
set_option maxRecDepth 100000
set_option linter.all false
namespace Go.Proofs.YtfejhikpfhgbeaaGreatDoor
open Go.Proofs.Tryz
open Go.RowKit
theorem cZ.{u_1}:∀{α:Type u_1}{l:List α}{i:Nat}(h:i<l.length),l[i]?=some l[i]:=@List.getElem?_eq_getElem
theorem bz:∀{p:Prop}[Decidable p],p->decide p=true:=@decide_eq_true
theorem bW:∀{p:Prop}[Decidable p],¬p->decide p=false:=@decide_eq_false
theorem eU.{u_1}:∀{α:Type u_1}{i:Nat}{a:α}{l:List α},l[i]?=some a↔∃h,l[i]=a:=@List.getElem?_eq_some_iff
theorem jf.{u_1}:∀{α:Type u_1}{xs bs:List α},(xs++bs).length=xs.length+bs.length:=@List.length_append
theorem mH.{u_1}:∀{α:Type u_1}{l:List α}{i:Nat}{a:α},l[i]?=some a->a∈l:=@List.mem_of_getElem?
theorem pJ.{u_1}:∀{α:Type u_1}{a:α}{l:List α},(a::l)[0]?=some a:=@List.getElem?_cons_zero
theorem o_.{u_1}:∀{α:Type u_1}{xs:List α}{i:Nat},xs.toArray[i]?=xs[i]?:=@List.getElem?_toArray
theorem rO.{u_1}:∀{α:Type u_1}{a:α}{i:Nat}{l:List α},(a::l)[i+1]?=l[i]?:=@List.getElem?_cons_succ
theorem iP.{u_1,u_2}:∀{α:Type u_1}{β:Type u_2}{xs:List α}(f:α->β),(List.map f xs).length=xs.length:=@List.length_map
theorem kI.{u_1,u_2}:∀{α:Type u_1}{β:Type u_2}{f:α->β}{l:List α}{i:Nat},(List.map f l)[i]?=Option.map f l[i]?:=@List.getElem?_map
theorem CO.{u_1}:∀{α:Type u_1}{l:List α},l.length=0->l=[]:=@List.eq_nil_of_length_eq_zero
theorem gB:∀(n:Int),IntKind.i64.wrap n=(n+9223372036854775808)%18446744073709551616-9223372036854775808:=@IntKind.wrap_i64
theorem iD.{u_1,u_2}:∀{α:Type u_1}{β:Type u_2}{f:α->β}{a:α}{l:List α},List.map f (a::l)=f a::List.map f l:=@List.map_cons
theorem gW.{u_1,u_2}:∀{α:Type u_1}{β:Type u_2}{b:β}{f:α->β}{l:List α},b∈List.map f l↔∃a,a∈l/\f a=b:=@List.mem_map
theorem jc.{u_1}:∀{α:Type u_1}{b:α}{l:List α}{a:α},a∈b::l↔a=b\/a∈l:=@List.mem_cons
theorem p8.{u_1}:∀{α:Type u_1}{a b:α},(some a).getD b=a:=@Option.getD_some
theorem zH:false≠true:=@Bool.false_ne_true
theorem Eb.{u_1}:∀{α:Type u_1}{l:List α}{i:Nat}{a:α},l.getD i a=l[i]?.getD a:=@List.getD_eq_getElem?_getD
theorem tH.{u_1}:∀{α:Type u_1}{l:List α}{i:Nat},List.take (i+1) l=List.take i l++l[i]?.toList:=@List.take_add_one
theorem xe.{u_1}:∀{α:Type u_1}{a:α}{xs:List α}{i:Nat},List.take (i+1) (a::xs)=a::List.take i xs:=@List.take_succ_cons
theorem rZ.{u_1}:∀{α:Type u_1}{i:Nat}{l:List α},(List.take i l).length=min i l.length:=@List.length_take
theorem xM:∀{p:Prop}[Decidable p],(decide p=true)=p:=@decide_eq_true_eq
theorem yB.{u_1}:∀{α:Type u_1}{a:α}{l:List α}{i:Nat},List.drop (i+1) (a::l)=List.drop i l:=@List.drop_succ_cons
theorem xN.{u_1}:∀{α:Type u_1}{a:α},¬a∈[]:=@List.not_mem_nil
theorem tJ.{u_1,u_2}:∀{α:Type u_1}{β:Type u_2}{f:α->β}{l₁ l₂:List α},List.map f (l₁++l₂)=List.map f l₁++List.map f l₂:=@List.map_append
theorem Ec.{u_1}:∀{α:Type u_1}[BEq α][LawfulBEq α]{a b:α},(a==b)=false↔a≠b:=@beq_eq_false_iff_ne
theorem Bt:∀(a b:Bool),((a&&b)=true)=(a=true/\b=true):=@Bool.and_eq_true
theorem QY.{u_1}:∀{α:Type u_1}{l:List α}{i:Nat},l.length<=i->l[i]?=none:=@List.getElem?_eq_none
theorem Ns.{u_1}:∀{α:Type u_1}{i:Nat}{b:α}{xs:Array α},xs[i]?=some b↔∃h,xs[i]=b:=@Array.getElem?_eq_some_iff
abbrev Hp:=Nat->Option Obj
def SP:=Hp->Prop
def Hp.emp:Hp:=fun _=>none
def Hp.Bj(a b:Hp):Hp:=fun k=>match a k with|some o=>some o|none=>b k
def Hp.apart(a b:Hp):Prop:=∀k,a k=none\/b k=none
theorem Hp.X7{a b:Hp}(h:a.apart b):a.Bj b=b.Bj a:=by funext k;unfold Hp.Bj;rcases h k with h|h<;>rw[h]<;>cases a k<;>cases b k<;>simp_all
theorem Hp.xg(a b c:Hp):(a.Bj b).Bj c=a.Bj (b.Bj c):=by funext k;unfold Hp.Bj;cases a k<;>rfl
theorem Hp.E8{a b:Hp}{k:Nat}:a.Bj b k=none↔a k=none/\b k=none:=by unfold Hp.Bj;cases a k<;>simp
theorem Hp.apart.symm{a b:Hp}(h:a.apart b):b.apart a:=fun k=>(h k).symm
theorem Hp.p_{a b c:Hp}:a.apart (b.Bj c)↔a.apart b/\a.apart c:=by
 constructor
 ·intro h;refine⟨fun k=>?_,fun k=>?_⟩<;>rcases h k with h|h
  ·exact .inl h
  ·exact .inr (Hp.E8.1 h).1
  ·exact .inl h
  ·exact .inr (Hp.E8.1 h).2
 ·intro⟨h1,h2⟩ k;rcases h1 k with h|h
  ·exact .inl h
  ·rcases h2 k with h'|h'
   ·exact .inl h'
   ·exact .inr (Hp.E8.2 ⟨h,h'⟩)
def Sep:List SP->Hp->Prop
 |[],σ=>σ=Hp.emp
 |A::l,σ=>∃a b,A a/\Sep l b/\a.apart b/\σ=a.Bj b
theorem Sep.swap{A B:SP}{l:List SP}{σ:Hp}(h:Sep (A::B::l) σ):Sep (B::A::l) σ:=by obtain⟨a,x,hA,⟨b,c,hB,hl,hbc,rfl⟩,hax,rfl⟩:=h;obtain⟨hab,hac⟩:=Hp.p_.1 hax;refine⟨b,a.Bj c,hB,⟨a,c,hA,hl,hac,rfl⟩,Hp.p_.2 ⟨hab.symm,hbc⟩,?_⟩;rw[<-Hp.xg,<-Hp.xg,Hp.X7 hab]
theorem Sep.perm{l l':List SP}(h:l.Perm l'):∀{σ:Hp},Sep l σ->Sep l' σ:=by
 induction h with
 |nil=>exact fun h=>h
 |cons A _ ih=>rintro σ⟨a,b,hA,hl,hab,rfl⟩;exact⟨a,b,hA,ih hl,hab,rfl⟩
 |swap A B l=>exact fun h=>h.swap
 |trans _ _ ih1 ih2=>exact fun h=>ih2 (ih1 h)
theorem Sep.append{l m:List SP}:∀{σ:Hp},Sep (l++m) σ↔∃a b,Sep l a/\Sep m b/\a.apart b/\σ=a.Bj b:=by
 induction l with
 |nil=>
  intro σ;constructor
  ·intro h;exact⟨Hp.emp,σ,rfl,h,fun _=>.inl rfl,rfl⟩
  ·rintro⟨a,b,rfl,h,_,rfl⟩;exact h
 |cons A l ih=>
  intro σ;constructor
  ·rintro⟨a,b,hA,hl,hab,rfl⟩;obtain⟨c,d,h1,h2,hcd,rfl⟩:=ih.1 hl;obtain⟨hac,had⟩:=Hp.p_.1 hab;refine⟨a.Bj c,d,⟨a,c,hA,h1,hac,rfl⟩,h2,(Hp.p_.2 ⟨had.symm,hcd.symm⟩).symm,(Hp.xg _ _ _).symm⟩
  ·rintro⟨x,d,⟨a,c,hA,h1,hac,rfl⟩,h2,hxd,rfl⟩;obtain⟨hda,hdc⟩:=Hp.p_.1 hxd.symm;exact⟨a,c.Bj d,hA,ih.2 ⟨c,d,h1,h2,hdc.symm,rfl⟩,Hp.p_.2 ⟨hac,hda.symm⟩,Hp.xg _ _ _⟩
def Own(w:World)(l:List SP):Prop:=∃σ,Sep l σ/\∀k o,σ k=some o->w.heap[k]?=some o
structure Calm(w w':World):Prop where
 os:w'.os=w.os
 tape:w'.tape=w.tape
 output:w'.output=w.output
theorem Calm.refl(w:World):Calm w w:=⟨rfl,rfl,rfl⟩
theorem Calm.trans{a b c:World}(h:Calm a b)(k:Calm b c):Calm a c:=⟨k.os.trans h.os,k.tape.trans h.tape,k.output.trans h.output⟩
namespace SP
def ex{α:Type}(f:α->SP):SP:=fun σ=>∃x,f x σ
def pu(p:Prop):SP:=fun σ=>p/\σ=Hp.emp
def st(l:List SP):SP:=Sep l
def blk(b:Nat)(o:Obj):SP:=fun σ=>σ=fun k=>if k=b then some o else none
def aH(b:Nat)(T:TypeId)(vs:List Value):SP:=blk b (.cells vs.toArray T (0,0))
def old(W:World):SP:=fun σ=>σ=fun k=>W.heap[k]?
end SP
open SP
section
variable{w w':World}{l l':List SP}{A B:SP}
theorem Own.perm(o:Own w l)(h:l.Perm l'):Own w l':=let⟨σ,hs,hw⟩:=o;⟨σ,hs.perm h,hw⟩
theorem Own.swap(o:Own w (A::B::l)):Own w (B::A::l):=o.perm (.swap B A l)
theorem zI:∀(n:Nat)(l:List SP)(A:SP),l[n]?=some A->l.Perm (A::l.eraseIdx n)
 |0,[],_,h=>by simp at h
 |0,B::l,A,h=>by simp at h;subst h;exact .refl _
 |n+1,[],_,h=>by simp at h
 |n+1,B::l,A,h=>by have:=zI n l A (by simpa using h);exact(this.cons B).trans (.swap A B _)
theorem Own.up(n:Nat)(o:Own w l){A:SP}(h:l[n]?=some A:=by rfl):Own w (A::l.eraseIdx n):=o.perm (zI n l A h)
theorem Own.drop(o:Own w (A::l)):Own w l:=by
 obtain⟨σ,⟨a,b,_,hl,hab,rfl⟩,hw⟩:=o;refine⟨b,hl,fun k x hk=>hw k x ?_⟩;rcases hab k with h|h
 ·simp[Hp.Bj,h,hk]
 ·rw[h]at hk;cases hk
theorem Own.ex{α:Type}{f:α->SP}:Own w (SP.ex f::l)↔∃x,Own w (f x::l):=by
 constructor
 ·rintro⟨σ,⟨a,b,⟨x,hx⟩,r⟩,hw⟩;exact⟨x,σ,⟨a,b,hx,r⟩,hw⟩
 ·rintro⟨x,σ,⟨a,b,hx,r⟩,hw⟩;exact⟨σ,⟨a,b,⟨x,hx⟩,r⟩,hw⟩
theorem Own.pu{p:Prop}:Own w (SP.pu p::l)↔p/\Own w l:=by
 constructor
 ·intro h;refine⟨?_,h.drop⟩;obtain⟨σ,⟨a,b,⟨hp,_⟩,r⟩,hw⟩:=h;exact hp
 ·rintro⟨hp,σ,hl,hw⟩;exact⟨σ,⟨Hp.emp,σ,⟨hp,rfl⟩,hl,fun _=>.inl rfl,rfl⟩,hw⟩
theorem Own.st{m:List SP}:Own w (SP.st m::l)↔Own w (m++l):=by
 constructor
 ·rintro⟨σ,⟨a,b,ha,hb,r⟩,hw⟩;exact⟨σ,Sep.append.2 ⟨a,b,ha,hb,r⟩,hw⟩
 ·rintro⟨σ,h,hw⟩;obtain⟨a,b,ha,hb,r⟩:=Sep.append.1 h;exact⟨σ,⟨a,b,ha,hb,r⟩,hw⟩
theorem Own.blk{b:Nat}{x:Obj}(o:Own w (SP.blk b x::l)):w.heap[b]?=some x:=by obtain⟨σ,⟨a,c,rfl,_,_,rfl⟩,hw⟩:=o;exact hw b x (by simp[Hp.Bj])
theorem Own.lt{b:Nat}{x:Obj}(o:Own w (SP.blk b x::l)):b<w.heap.size:=(Ns.1 o.blk).1
theorem Own.ne{b c:Nat}{x y:Obj}(o:Own w (SP.blk b x::SP.blk c y::l)):b≠c:=by
 rintro rfl;obtain⟨σ,⟨a,_,rfl,⟨d,e,rfl,_,_,rfl⟩,hap,_⟩,_⟩:=o;rcases hap b with h|h
 ·simp at h
 ·simp[Hp.Bj]at h
theorem Own.Lh{W:World}(o:Own w (SP.old W::l)){k:Nat}(hk:k<W.heap.size):w.heap[k]?=W.heap[k]?:=by obtain⟨σ,⟨a,c,rfl,_,_,rfl⟩,hw⟩:=o;rw[Array.getElem?_eq_getElem hk];exact hw k _ (by simp[Hp.Bj,hk])
theorem Own.start(W:World):Own W [SP.old W]:=
 ⟨_,⟨_,Hp.emp,rfl,rfl,fun _=>.inr rfl,rfl⟩,fun k o h=>by
  simp only[Hp.Bj,Hp.emp]at h;cases hh:W.heap[k]? with
  |none=>rw[hh]at h;cases h
  |some x=>rw[hh]at h;exact h⟩
theorem Own.same(o:Own w l)(h:w'.heap=w.heap):Own w' l:=let⟨σ,hs,hw⟩:=o;⟨σ,hs,fun k x hk=>by rw[h];exact hw k x hk⟩
theorem Own.drew(o:Own w l):Own w.drew l:=o
theorem Own.drewN(o:Own w l)(n:Nat):Own (w.drewN n) l:=o
theorem Own.alloc(o:Own w l)(x:Obj):Own (w.alloc x) (SP.blk w.heap.size x::l):=by
 obtain⟨σ,hs,hw⟩:=o;have hlt:∀k y,σ k=some y->k<w.heap.size:=fun k y hk=>(Ns.1 (hw k y hk)).1;refine⟨_,⟨_,σ,rfl,hs,fun k=>?_,rfl⟩,fun k y hk=>?_⟩
 ·by_cases hk:k=w.heap.size
  ·subst hk;cases hh:σ w.heap.size with
   |none=>exact .inr rfl
   |some y=>exact absurd (hlt _ _ hh) (Nat.lt_irrefl _)
  ·exact .inl (if_neg hk)
 ·show(w.heap.push x)[k]?=some y;rw[Array.getElem?_push];by_cases hk':k=w.heap.size
  ·simpa[Hp.Bj,hk']using hk
  ·rw[if_neg hk'];exact hw k y (by simpa[Hp.Bj,hk']using hk)
theorem Own.put{b:Nat}{x y:Obj}(o:Own w (SP.blk b x::l))(hb:w'.heap[b]?=some y)(h:∀k,k≠b->k<w.heap.size->w'.heap[k]?=w.heap[k]?):Own w' (SP.blk b y::l):=by
 obtain⟨σ,⟨a,c,rfl,hl,hap,rfl⟩,hw⟩:=o;refine⟨_,⟨_,c,rfl,hl,fun k=>?_,rfl⟩,fun k z hk=>?_⟩
 ·by_cases hk:k=b
  ·subst hk;rcases hap k with h|h
   ·simp at h
   ·exact .inr h
  ·exact .inl (if_neg hk)
 ·by_cases hk':k=b
  ·subst hk';rw[hb];simpa[Hp.Bj]using hk
  ·have hc:c k=some z:=by simpa[Hp.Bj,hk']using hk
   have:=hw k z (by simp[Hp.Bj,hk',hc]);rw[h k hk' (Ns.1 this).1];exact this
theorem Own.setCell{b:Nat}{T:TypeId}{vs:List Value}(o:Own w (SP.aH b T vs::l))(i:Nat)(v:Value):Own (w.setCell ⟨b,i,none⟩ v) (SP.aH b T (vs.set i v)::l):=by
 have hb:w.heap[b]?=some (.cells vs.toArray T (0,0)):=Own.blk o;refine Own.put o ?_ (fun k hk _=>?_)
 ·simp[World.setCell,Array.getElem?_modify,hb]
 ·simp only[World.setCell,Array.getElem?_modify];rw[if_neg (by omega)]
theorem Own.lq{b:Nat}{x:Obj}(o:Own w (SP.blk b x::l))(y:Obj):Own ({w with heap:=w.heap.setIfInBounds b y}) (SP.blk b y::l):=by
 refine Own.put o ?_ (fun k hk _=>?_)
 ·simp[o.lt]
 ·simp only[Array.getElem?_setIfInBounds];rw[if_neg (by omega)]
theorem Own.cell{b:Nat}{T:TypeId}{vs:List Value}(o:Own w (SP.aH b T vs::l))(i:Nat){v:Value}(h:vs[i]?=some v:=by rfl):w.cell? ⟨b,i,none⟩=some v:=by have hb:w.heap[b]?=some (.cells vs.toArray T (0,0)):=Own.blk o;simp only[World.cell?,hb];simpa using h
theorem Own.frozen{b:Nat}{T:TypeId}{vs:List Value}(o:Own w (SP.aH b T vs::l)):∀i,w.frozen? ⟨b,i,none⟩=false:=by have hb:w.heap[b]?=some (.cells vs.toArray T (0,0)):=Own.blk o;intro i;simp only[World.frozen?,hb];simp
theorem Own.aS{b:Nat}{T:TypeId}{vs:List Value}(o:Own w (SP.aH b T vs::l)):b<w.heap.size:=Own.lt o
theorem Own.r9{W:World}(o:Own w (SP.old W::l)){a:Addr}{v:Value}(h:W.cell? a=some v):w.cell? a=some v:=by rw[World.cell?_of_block (o.Lh (World.block_lt_of_cell? W a h))];exact h
theorem Own.below{W:World}(o:Own w (SP.old W::l))(c:Calm W w):Below W.heap.size W w:=by
 refine⟨c.os,c.tape,c.output,?_,fun k hk=>o.Lh hk⟩;rcases Nat.eq_zero_or_pos W.heap.size with h|h
 ·rw[h];exact Nat.zero_le _
 ·have hk:W.heap.size-1<W.heap.size:=by omega
  have h1:w.heap[W.heap.size-1]?=some (W.heap[W.heap.size-1]'hk):=(o.Lh hk).trans (Array.getElem?_eq_getElem hk)
  have h2:=(Ns.1 h1).1;omega
end
theorem az{p:Prop}(h:p):Hid p:=h
theorem aP{α:Sort _}(t:α):∃x,t=x:=⟨_,rfl⟩
instance:Coe Int Value:=⟨.int .i64⟩
structure Z0_ where
def aC:Z0_:=⟨⟩
instance:Coe Z0_ Value:=⟨fun _=>.int .i64 0⟩
instance:Coe Nat Value:=⟨fun b=>.pointer (some ⟨b,0,none⟩)⟩
def X8(w:World)(b:Nat):List Value->Prop
 |[]=>True
 |[a0]=>w.cell? ⟨b,0,none⟩=some a0/\True
 |[a0,a1]=>w.cell? ⟨b,0,none⟩=some a0/\w.cell? ⟨b,1,none⟩=some a1/\True
 |[a0,a1,a2]=>w.cell? ⟨b,0,none⟩=some a0/\w.cell? ⟨b,1,none⟩=some a1/\w.cell? ⟨b,2,none⟩=some a2/\True
 |[a0,a1,a2,a3]=>w.cell? ⟨b,0,none⟩=some a0/\w.cell? ⟨b,1,none⟩=some a1/\w.cell? ⟨b,2,none⟩=some a2/\w.cell? ⟨b,3,none⟩=some a3/\True
 |[a0,a1,a2,a3,a4]=>w.cell? ⟨b,0,none⟩=some a0/\w.cell? ⟨b,1,none⟩=some a1/\w.cell? ⟨b,2,none⟩=some a2/\w.cell? ⟨b,3,none⟩=some a3/\w.cell? ⟨b,4,none⟩=some a4/\True
 |[a0,a1,a2,a3,a4,a5]=>w.cell? ⟨b,0,none⟩=some a0/\w.cell? ⟨b,1,none⟩=some a1/\w.cell? ⟨b,2,none⟩=some a2/\w.cell? ⟨b,3,none⟩=some a3/\w.cell? ⟨b,4,none⟩=some a4/\w.cell? ⟨b,5,none⟩=some a5/\True
 |[a0,a1,a2,a3,a4,a5,a6]=>w.cell? ⟨b,0,none⟩=some a0/\w.cell? ⟨b,1,none⟩=some a1/\w.cell? ⟨b,2,none⟩=some a2/\w.cell? ⟨b,3,none⟩=some a3/\w.cell? ⟨b,4,none⟩=some a4/\w.cell? ⟨b,5,none⟩=some a5/\w.cell? ⟨b,6,none⟩=some a6/\True
 |[a0,a1,a2,a3,a4,a5,a6,a7]=>w.cell? ⟨b,0,none⟩=some a0/\w.cell? ⟨b,1,none⟩=some a1/\w.cell? ⟨b,2,none⟩=some a2/\w.cell? ⟨b,3,none⟩=some a3/\w.cell? ⟨b,4,none⟩=some a4/\w.cell? ⟨b,5,none⟩=some a5/\w.cell? ⟨b,6,none⟩=some a6/\w.cell? ⟨b,7,none⟩=some a7/\True
 |[a0,a1,a2,a3,a4,a5,a6,a7,a8]=>w.cell? ⟨b,0,none⟩=some a0/\w.cell? ⟨b,1,none⟩=some a1/\w.cell? ⟨b,2,none⟩=some a2/\w.cell? ⟨b,3,none⟩=some a3/\w.cell? ⟨b,4,none⟩=some a4/\w.cell? ⟨b,5,none⟩=some a5/\w.cell? ⟨b,6,none⟩=some a6/\w.cell? ⟨b,7,none⟩=some a7/\w.cell? ⟨b,8,none⟩=some a8/\True
 |[a0,a1,a2,a3,a4,a5,a6,a7,a8,a9]=>w.cell? ⟨b,0,none⟩=some a0/\w.cell? ⟨b,1,none⟩=some a1/\w.cell? ⟨b,2,none⟩=some a2/\w.cell? ⟨b,3,none⟩=some a3/\w.cell? ⟨b,4,none⟩=some a4/\w.cell? ⟨b,5,none⟩=some a5/\w.cell? ⟨b,6,none⟩=some a6/\w.cell? ⟨b,7,none⟩=some a7/\w.cell? ⟨b,8,none⟩=some a8/\w.cell? ⟨b,9,none⟩=some a9/\True
 |[a0,a1,a2,a3,a4,a5,a6,a7,a8,a9,QZ]=>w.cell? ⟨b,0,none⟩=some a0/\w.cell? ⟨b,1,none⟩=some a1/\w.cell? ⟨b,2,none⟩=some a2/\w.cell? ⟨b,3,none⟩=some a3/\w.cell? ⟨b,4,none⟩=some a4/\w.cell? ⟨b,5,none⟩=some a5/\w.cell? ⟨b,6,none⟩=some a6/\w.cell? ⟨b,7,none⟩=some a7/\w.cell? ⟨b,8,none⟩=some a8/\w.cell? ⟨b,9,none⟩=some a9/\w.cell? ⟨b,10,none⟩=some QZ/\True
 |[a0,a1,a2,a3,a4,a5,a6,a7,a8,a9,QZ,X9]=>w.cell? ⟨b,0,none⟩=some a0/\w.cell? ⟨b,1,none⟩=some a1/\w.cell? ⟨b,2,none⟩=some a2/\w.cell? ⟨b,3,none⟩=some a3/\w.cell? ⟨b,4,none⟩=some a4/\w.cell? ⟨b,5,none⟩=some a5/\w.cell? ⟨b,6,none⟩=some a6/\w.cell? ⟨b,7,none⟩=some a7/\w.cell? ⟨b,8,none⟩=some a8/\w.cell? ⟨b,9,none⟩=some a9/\w.cell? ⟨b,10,none⟩=some QZ/\w.cell? ⟨b,11,none⟩=some X9/\True
 |[a0,a1,a2,a3,a4,a5,a6,a7,a8,a9,QZ,X9,a12]=>w.cell? ⟨b,0,none⟩=some a0/\w.cell? ⟨b,1,none⟩=some a1/\w.cell? ⟨b,2,none⟩=some a2/\w.cell? ⟨b,3,none⟩=some a3/\w.cell? ⟨b,4,none⟩=some a4/\w.cell? ⟨b,5,none⟩=some a5/\w.cell? ⟨b,6,none⟩=some a6/\w.cell? ⟨b,7,none⟩=some a7/\w.cell? ⟨b,8,none⟩=some a8/\w.cell? ⟨b,9,none⟩=some a9/\w.cell? ⟨b,10,none⟩=some QZ/\w.cell? ⟨b,11,none⟩=some X9/\w.cell? ⟨b,12,none⟩=some a12/\True
 |[a0,a1,a2,a3,a4,a5,a6,a7,a8,a9,QZ,X9,a12,XQ]=>w.cell? ⟨b,0,none⟩=some a0/\w.cell? ⟨b,1,none⟩=some a1/\w.cell? ⟨b,2,none⟩=some a2/\w.cell? ⟨b,3,none⟩=some a3/\w.cell? ⟨b,4,none⟩=some a4/\w.cell? ⟨b,5,none⟩=some a5/\w.cell? ⟨b,6,none⟩=some a6/\w.cell? ⟨b,7,none⟩=some a7/\w.cell? ⟨b,8,none⟩=some a8/\w.cell? ⟨b,9,none⟩=some a9/\w.cell? ⟨b,10,none⟩=some QZ/\w.cell? ⟨b,11,none⟩=some X9/\w.cell? ⟨b,12,none⟩=some a12/\w.cell? ⟨b,13,none⟩=some XQ/\True
 |[a0,a1,a2,a3,a4,a5,a6,a7,a8,a9,QZ,X9,a12,XQ,a14]=>w.cell? ⟨b,0,none⟩=some a0/\w.cell? ⟨b,1,none⟩=some a1/\w.cell? ⟨b,2,none⟩=some a2/\w.cell? ⟨b,3,none⟩=some a3/\w.cell? ⟨b,4,none⟩=some a4/\w.cell? ⟨b,5,none⟩=some a5/\w.cell? ⟨b,6,none⟩=some a6/\w.cell? ⟨b,7,none⟩=some a7/\w.cell? ⟨b,8,none⟩=some a8/\w.cell? ⟨b,9,none⟩=some a9/\w.cell? ⟨b,10,none⟩=some QZ/\w.cell? ⟨b,11,none⟩=some X9/\w.cell? ⟨b,12,none⟩=some a12/\w.cell? ⟨b,13,none⟩=some XQ/\w.cell? ⟨b,14,none⟩=some a14/\True
 |_=>True
theorem Own.cs{w:World}{R:List SP}{b:Nat}{T:TypeId}{vs:List Value}(o:Own w (SP.aH b T vs::R)):(∀j,w.frozen? ⟨b,j,none⟩=false)/\b<w.heap.size/\X8 w b vs:=by
 refine⟨o.frozen,o.aS,?_⟩;unfold X8;split
 ·trivial
 ·exact⟨o.cell 0,trivial⟩
 ·exact⟨o.cell 0,o.cell 1,trivial⟩
 ·exact⟨o.cell 0,o.cell 1,o.cell 2,trivial⟩
 ·exact⟨o.cell 0,o.cell 1,o.cell 2,o.cell 3,trivial⟩
 ·exact⟨o.cell 0,o.cell 1,o.cell 2,o.cell 3,o.cell 4,trivial⟩
 ·exact⟨o.cell 0,o.cell 1,o.cell 2,o.cell 3,o.cell 4,o.cell 5,trivial⟩
 ·exact⟨o.cell 0,o.cell 1,o.cell 2,o.cell 3,o.cell 4,o.cell 5,o.cell 6,trivial⟩
 ·exact⟨o.cell 0,o.cell 1,o.cell 2,o.cell 3,o.cell 4,o.cell 5,o.cell 6,o.cell 7,trivial⟩
 ·exact⟨o.cell 0,o.cell 1,o.cell 2,o.cell 3,o.cell 4,o.cell 5,o.cell 6,o.cell 7,o.cell 8,trivial⟩
 ·exact⟨o.cell 0,o.cell 1,o.cell 2,o.cell 3,o.cell 4,o.cell 5,o.cell 6,o.cell 7,o.cell 8,o.cell 9,trivial⟩
 ·exact⟨o.cell 0,o.cell 1,o.cell 2,o.cell 3,o.cell 4,o.cell 5,o.cell 6,o.cell 7,o.cell 8,o.cell 9,o.cell 10,trivial⟩
 ·exact⟨o.cell 0,o.cell 1,o.cell 2,o.cell 3,o.cell 4,o.cell 5,o.cell 6,o.cell 7,o.cell 8,o.cell 9,o.cell 10,o.cell 11,trivial⟩
 ·exact⟨o.cell 0,o.cell 1,o.cell 2,o.cell 3,o.cell 4,o.cell 5,o.cell 6,o.cell 7,o.cell 8,o.cell 9,o.cell 10,o.cell 11,o.cell 12,trivial⟩
 ·exact⟨o.cell 0,o.cell 1,o.cell 2,o.cell 3,o.cell 4,o.cell 5,o.cell 6,o.cell 7,o.cell 8,o.cell 9,o.cell 10,o.cell 11,o.cell 12,o.cell 13,trivial⟩
 ·exact⟨o.cell 0,o.cell 1,o.cell 2,o.cell 3,o.cell 4,o.cell 5,o.cell 6,o.cell 7,o.cell 8,o.cell 9,o.cell 10,o.cell 11,o.cell 12,o.cell 13,o.cell 14,trivial⟩
 ·trivial
abbrev aF:=World
abbrev aL:=Value
abbrev aY:=Option Addr
abbrev aJ:=List SP
abbrev dw:=List Value
abbrev bO:=List (Int×Int)
abbrev qR:=List UInt8
abbrev bq:=List Int
section
open SP
structure bS(P:Program)(t e:TypeId)(size bytes:Nat):Prop where
 und:P.underlying t=some (.slice e)
 info:∃i z,P.info? e=some i/\i.zero=some z/\i.size=size/\i.bytes=bytes/\z.cells.size=size
 pos:0<size
theorem bS.mk'{P:Program}{t e:TypeId}{z:aL}{size bytes:Nat}(hu:P.underlying t=some (.slice e))(h:(P.info? e).map (fun i=>(i.zero,i.size,i.bytes))=some (some z,size,bytes))
  (hz:z.cells.size=size)(hp:0<size):bS P t e size bytes:=
 ⟨hu,let⟨i,h1,h2,h3,h4⟩:=info_parts h;⟨i,z,h1,h2,h3,h4,hz⟩,hp⟩
def SP.slc(e:TypeId)(size:Nat)(a:aY)(n cap:Nat)(xs:dw):SP:=ex fun(p:Option (Nat×dw))=>
 match p with
 |none=>pu (a=none/\n=0/\cap=0/\xs=[])
 |some (b,sp)=>st [pu (a=some ⟨b,0,none⟩/\n<=cap/\cap<=maxLen/\xs.length=n*size/\sp.length=(cap-n)*size),aH b e (xs++sp)]
section
variable{w:aF}{l:aJ}{P:Program}{t e:TypeId}{size bytes:Nat}
theorem Own.slc{a:aY}{n cap:Nat}{xs:dw}:Own w (SP.slc e size a n cap xs::l)↔
  (a=none/\n=0/\cap=0/\xs=[]/\Own w l)\/
  ∃b sp,a=some ⟨b,0,none⟩/\n<=cap/\cap<=maxLen/\xs.length=n*size/\sp.length=(cap-n)*size/\Own w (SP.aH b e (xs++sp)::l):=by
 constructor
 ·intro o;obtain⟨p,o⟩:=Own.ex.1 o;cases p with
  |none=>obtain⟨⟨h1,h2,h3,h4⟩,o⟩:=Own.pu.1 o;exact .inl ⟨h1,h2,h3,h4,o⟩
  |some p=>obtain⟨⟨h1,h2,h3,h4,h5⟩,o⟩:=Own.pu.1 (Own.st.1 o);exact .inr ⟨p.1,p.2,h1,h2,h3,h4,h5,o⟩
 ·rintro(⟨h1,h2,h3,h4,o⟩|⟨b,sp,h1,h2,h3,h4,h5,o⟩)
  ·exact Own.ex.2 ⟨none,Own.pu.2 ⟨⟨h1,h2,h3,h4⟩,o⟩⟩
  ·exact Own.ex.2 ⟨some (b,sp),Own.st.2 (Own.pu.2 ⟨⟨h1,h2,h3,h4,h5⟩,o⟩)⟩
theorem Own.fA{a:aY}{n cap:Nat}{xs:dw}(o:Own w (SP.slc e size a n cap xs::l)):xs.length=n*size/\n<=cap/\cap<=maxLen:=by
 rcases Own.slc.1 o with⟨_,rfl,rfl,rfl,_⟩|⟨_,_,_,h1,h2,h3,_⟩
 ·simp
 ·exact⟨h3,h1,h2⟩
theorem Own.bH(o:Own w l):Own w (SP.slc e size none 0 0 []::l):=Own.slc.2 (.inl ⟨rfl,rfl,rfl,rfl,o⟩)
theorem Own.aG{a:aY}{n cap:Nat}{xs:dw}(o:Own w (SP.slc e size a n cap xs::l))(hn:0<n):
  ∃b,a=some ⟨b,0,none⟩/\(∀(j:Nat)u,xs[j]?=some u->w.cell? ⟨b,j,none⟩=some u)/\(∀j,w.frozen? ⟨b,j,none⟩=false)/\b<w.heap.size:=by
 rcases Own.slc.1 o with⟨_,h,_⟩|⟨b,sp,h1,_,_,_,_,o⟩
 ·omega
 ·refine⟨b,h1,fun j u hu=>Own.cell o j ?_,Own.frozen o,Own.aS o⟩;rw[List.getElem?_append_left (eU.1 hu).1];exact hu
theorem Own.iK{b:Nat}{n cap:Nat}{xs:dw}(o:Own w (SP.slc e size (some ⟨b,0,none⟩) n cap xs::l))(j:Nat)(v:aL)(hj:j<xs.length):
  Own (w.setCell ⟨b,j,none⟩ v) (SP.slc e size (some ⟨b,0,none⟩) n cap (xs.set j v)::l):=by
 rcases Own.slc.1 o with⟨h,_⟩|⟨b',sp,h1,h2,h3,h4,h5,o⟩
 ·cases h
 ·simp only[Option.some.injEq,Addr.mk.injEq]at h1;obtain⟨rfl,_,_⟩:=h1;refine Own.slc.2 (.inr ⟨b,sp,rfl,h2,h3,by simpa using h4,h5,?_⟩);have:=o.setCell j v
  rwa [List.set_append_left _ _ hj]at this
theorem Own.setRow{g:Nat}{T:TypeId}{vs:dw}(o:Own w (SP.aH g T vs::l))(us:dw):Own (w.setRow g us.toArray) (SP.aH g T us::l):=
 Own.put o (setRow_heap w g _ _ T _ (Own.blk o)) (fun k hk _=>setRow_other w g k _ hk)
theorem vF(ty:TypeId)(E:bS P t e size bytes){a:aY}{n cap:Nat}{xs:dw}(o:Own w (SP.slc e size a n cap xs::l))
  (ad:Addr)(m c:Nat)(news:dw)(hl:news.length=m*size)(hnews:∀j u,news[j]?=some u->w.cell? (ad.add j)=some u)(h1:∀u∈news,u.oneCell'=true)
  (h63:n+m<=maxLen)(hbytes:(n+m)*bytes<=140737488355328):
  ∃a' cap' w',(Builtin.append_ #[t,t] ty #[.slice a n cap,.slice (some ad) m c]).run P w=.ok (.slice a' (n+m) cap') w'/\Own w' (SP.slc e size a' (n+m) cap' (xs++news)::l)/\Calm w w':=by
 obtain⟨ht,⟨i,z,hi,hz,rfl,rfl,hzs⟩,hsz⟩:=E;have hsmall:n+m<=9223372036854775807:=by simp only[maxLen]at h63;omega
 have grown:∀(old:Nat)(o':Own w l),old<n+m->xs.length=n*i.size->
   Own (w.drew.alloc (.cells (xs.toArray++news.toArray++Builtin.zeroCells z.cells (grownCap w (n+m) old e-(n+m))) e))
    (SP.slc e i.size (some ⟨w.heap.size,0,none⟩) (n+m) (grownCap w (n+m) old e) (xs++news)::l):=by
  intro old o' ho hx;refine Own.slc.2 (.inr ⟨w.heap.size,(Builtin.zeroCells z.cells (grownCap w (n+m) old e-(n+m))).toList,rfl,grownCap_ge _ _ _ _,grownCap_le_maxLen _ _ _ _ h63,?_,?_,?_⟩)
  ·rw[jf,hx,hl,Nat.add_mul]
  ·simp[size_zeroCells,hzs]
  ·have:=Own.alloc (w:=w.drew) o'.drew (.cells (xs.toArray++news.toArray++Builtin.zeroCells z.cells (grownCap w (n+m) old e-(n+m))) e);unfold SP.aH;have e1:(xs++news++(Builtin.zeroCells z.cells (grownCap w (n+m) old e-(n+m))).toList).toArray=xs.toArray++news.toArray++Builtin.zeroCells z.cells (grownCap w (n+m) old e-(n+m)):=by simp
   rw[e1];exact this
 rcases Own.slc.1 o with⟨rfl,rfl,rfl,rfl,o1⟩|⟨g,sp,rfl,hnc,hcm,hxl,hsl,o1⟩
 ·by_cases hm:m=0
  ·subst hm;have hn:news=[]:=CO (by simpa using hl);subst hn;refine⟨none,0,w,?_,by simpa using o,Calm.refl w⟩;simp[Builtin.append_,run_underlying ht,sizeOf,typeInfo,hi,Builtin.lenOf,Builtin.firstCells,loadCells,loadCellsFrom]
  ·have hr:=run_append_nil (P:=P) w t ty e i z ht hi hz ad m c news hl hnews (by omega) (by omega) (by have hb:=hbytes;simp only[Nat.zero_add]at hb;omega);have hgr:=grown 0 o1 (by omega) (by simp);simp only[Nat.zero_add,List.nil_append,Array.empty_append]at hgr⊢;exact⟨_,_,_,hr,hgr,⟨rfl,rfl,rfl⟩⟩
 ·have hg:w.heap[g]?=some (.cells (xs++sp).toArray e (0,0)):=Own.blk o1;by_cases hroom:n+m<=cap
  ·have hmn:m*i.size<=(cap-n)*i.size:=Nat.mul_le_mul_right _ (by omega);have hfit:n*i.size+news.length<=(xs++sp).toArray.size:=by simp only[List.size_toArray,jf,hxl,hsl,hl];omega
   have hr:=run_append_room (P:=P) w t ty e i ht hi g n cap (xs++sp).toArray hg ad m c news hl hnews h1 hroom hfit;refine⟨_,_,_,hr,?_,⟨rfl,rfl,rfl⟩⟩;have e1:(xs++sp).toArray.toList.take (n*i.size)++news++(xs++sp).toArray.toList.drop (n*i.size+news.length)=(xs++news)++sp.drop news.length:=by simp only[<-hxl,List.take_left];rw[<-List.drop_drop,List.drop_left]
   rw[e1];refine Own.slc.2 (.inr ⟨g,sp.drop news.length,rfl,hroom,hcm,?_,?_,o1.setRow _⟩)
   ·rw[jf,hxl,hl,Nat.add_mul]
   ·rw[List.length_drop,hsl,hl,<-Nat.sub_mul];congr 1;omega
  ·have holds:∀j u,xs[j]?=some u->w.cell? ((⟨g,0,none⟩:Addr).add j)=some u:=by
    intro j u hu;have hadd:(⟨g,0,none⟩:Addr).add j=⟨g,j,none⟩:=by unfold Addr.add;split<;>simp_all
    rw[hadd];refine Own.cell o1 j ?_;rw[List.getElem?_append_left (eU.1 hu).1];exact hu
   have hr:=run_append_grow (P:=P) w t ty e i z ht hi hz ⟨g,0,none⟩ n cap xs hxl holds ad m c news hl hnews (by omega) (by omega) (growslice_fits (by omega) hbytes);exact⟨_,_,_,hr,grown cap o1.drop (by omega) hxl,⟨rfl,rfl,rfl⟩⟩
theorem Own.news{g:Nat}{T:TypeId}{vs:dw}(o:Own w (SP.aH g T vs::l)):∀j u,vs[j]?=some u->w.cell? ((⟨g,0,none⟩:Addr).add j)=some u:=by
 intro j u hu;have hadd:(⟨g,0,none⟩:Addr).add j=⟨g,j,none⟩:=by unfold Addr.add;split<;>simp_all
 rw[hadd];exact Own.cell o j hu
theorem aU{ops:Array Oper}{rest:List Oper}{op:Oper}{A:Act}{Q:Exit->Act->aF->Prop}(hgd:op.guard=none)(s x:Operand)
  (hop:op.op=.call {callee:=.builtin .append,args:=#[s,x],argTypes:=#[t,t]})
  (E:bS P t e size bytes){a:aY}{n cap:Nat}{xs:dw}(hs:A.eval s=.slice a n cap)(o:Own w (SP.slc e size a n cap xs::l))
  (ad:Addr)(m c:Nat)(news:dw)(hx:A.eval x=.slice (some ad) m c)(hl:news.length=m*size)(hnews:∀j u,news[j]?=some u->w.cell? (ad.add j)=some u)(h1:∀u∈news,u.oneCell'=true)
  (h63:n+m<=maxLen)(hbytes:(n+m)*bytes<=140737488355328)
  (h:∀a' cap' w',Own w' (SP.slc e size a' (n+m) cap' (xs++news)::l)->Calm w w'->wpList P ops Q rest (A.put op.dst (.slice a' (n+m) cap')) w'):wpList P ops Q (op::rest) A w:=by
 refine wpList_plain hgd fun K hK=>?_;obtain⟨a',cap',w',hr,h2,h3⟩:=vF op.type E o ad m c news hl hnews h1 h63 hbytes;unfold Oper.wp execOp;simp only[hop,resolve,invoke,builtin,Sem.run_bind,Sem.run_pure,Result.andThen_ok,List.map_toArray,iD,List.map_nil,hs,hx,hr];exact hK _ _ (h a' cap' w' h2 h3)
end
section
variable{α:Type}
def a_:List (Int×α)->Int->Option α
 |[],_=>none
 |(k',v)::m,k=>if k=k' then some v else a_ m k
def bA:List (Int×α)->Int->α->List (Int×α)
 |[],k,v=>[(k,v)]
 |(k',v')::m,k,v=>if k=k' then(k,v)::m else(k',v')::bA m k v
def dW:List (Int×α)->Int->List (Int×α)
 |[],_=>[]
 |(k',v')::m,k=>if k=k' then m else(k',v')::dW m k
def midx:List (Int×α)->Int->Option Nat
 |[],_=>none
 |(k',_)::m,k=>if k=k' then some 0 else(midx m k).map (·+1)
def SP.bB(f:α->aL)(b:Nat)(m:List (Int×α)):SP:=ex fun(p:Array MapEntry×Nat)=>st [pu (p.1.toList.map (fun e=>(e.key,e.val))=m.map (fun x=>(Value.int .i64 x.1,f x.2))/\p.1.toList.Pairwise (fun x y=>x.born<y.born)/\∀e∈p.1.toList,e.born<p.2),blk b (.map p.1 p.2)]
variable{w:aF}{l:aJ}{P:Program}{t kt et:TypeId}{f:α->aL}{b:Nat}{m:List (Int×α)}
theorem Own.bB:Own w (SP.bB f b m::l)↔∃es clock,es.toList.map (fun e:MapEntry=>(e.key,e.val))=m.map (fun x=>(Value.int .i64 x.1,f x.2))/\
  es.toList.Pairwise (fun x y=>x.born<y.born)/\(∀e∈es.toList,e.born<clock)/\Own w (SP.blk b (.map es clock)::l):=by
 constructor
 ·intro o;obtain⟨⟨es,clock⟩,o⟩:=Own.ex.1 o;obtain⟨⟨h1,h2,h3⟩,o⟩:=Own.pu.1 (Own.st.1 o);exact⟨es,clock,h1,h2,h3,o⟩
 ·rintro⟨es,clock,h1,h2,h3,o⟩;exact Own.ex.2 ⟨(es,clock),Own.st.2 (Own.pu.2 ⟨⟨h1,h2,h3⟩,o⟩)⟩
theorem CQ(k:Int):∀(es:List MapEntry)(m:List (Int×α))(n:Nat),es.map (fun e=>(e.key,e.val))=m.map (fun x=>(Value.int .i64 x.1,f x.2))->
  Instr.findNow (.int .i64) (.int .i64 k) es n=some (match midx m k,a_ m k with|some i,some v=>some (n+i,f v)|_,_=>none)
 |[],[],n,_=>rfl
 |[],_::_,_,h=>by simp at h
 |_::_,[],_,h=>by simp at h
 |e::es,(k',v)::m,n,h=>by
  simp only[iD,List.cons.injEq,Prod.mk.injEq]at h;obtain⟨⟨h1,h2⟩,h3⟩:=h;unfold Instr.findNow;rw[h1];by_cases hk:k=k'
  ·subst hk;simp[Instr.sameNow,midx,a_,h2]
  ·have hb:(k==k')=false:=by simpa using hk
   have ih:=CQ k es m (n+1) h3;simp only[Instr.sameNow,if_true,hb,midx,a_,if_neg hk];rw[ih];cases midx m k<;>cases a_ m k<;>simp[Nat.add_assoc,Nat.add_comm 1]
theorem iZ(m:List (Int×α))(k:Int):(midx m k).isSome=(a_ m k).isSome:=by
 induction m with
 |nil=>rfl
 |cons x m ih=>
  obtain⟨k',v⟩:=x;unfold midx a_;split
  ·rfl
  ·simpa using ih
theorem dH{P:Program}{kt:TypeId}(hk:P.underlying kt=some (.int .i64))(em:Bool)(n:Nat)(k:Int)(w:aF):(Instr.checkKey em (n+1) kt (.int .i64 k)).run P w=.ok () w:=by simp[Instr.checkKey,run_underlying hk]
theorem fG{P:Program}{kt:TypeId}(hk:P.underlying kt=some (.int .i64)){es:List MapEntry}(h:es.map (fun e=>(e.key,e.val))=m.map (fun x=>(Value.int .i64 x.1,f x.2)))(k:Int)(w:aF):
  (Instr.findKey kt (.int .i64 k) es).run P w=.ok (match midx m k,a_ m k with|some i,some v=>some (i,f v)|_,_=>none) w:=by
 have:=CQ (f:=f) k es m 0 h;simp only[Nat.zero_add]at this;simp[Instr.findKey,run_underlying hk,this]
theorem bI(ht:P.underlying t=some (.map kt et))(hk:P.underlying kt=some (.int .i64)){z:aL}(hz:∀w,(zeroValue et).run P w=.ok z w)
  (o:Own w (SP.bB f b m::l))(k:Int)(ok:Bool):
  (Instr.lookup t (.map (some b)) (.int .i64 k) ok).run P w=.ok (if ok then .tuple #[((a_ m k).map f).getD z,.bool (a_ m k).isSome]else((a_ m k).map f).getD z) w:=by
 obtain⟨es,clock,h1,_,_,o⟩:=Own.bB.1 o;have hb:=o.blk;have hm:=iZ m k;have hf:=fG (P:=P) hk h1 k w;cases uS:midx m k<;>cases E9:a_ m k<;>simp[uS,E9]at hm hf<;>
  cases ok<;>simp[Instr.lookup,run_underlying ht,getObj,Sem.run,hb,dH hk,hf,hz w]
theorem qh(k:Int)(v:α):∀(es:List MapEntry)(m:List (Int×α))(i:Nat),es.map (fun e=>(e.key,e.val))=m.map (fun x=>(Value.int .i64 x.1,f x.2))->midx m k=some i->
  (es.modify i fun e=>{e with key:=.int .i64 k,val:=f v}).map (fun e=>(e.key,e.val))=(bA m k v).map (fun x=>(Value.int .i64 x.1,f x.2))/\(∃e,es[i]?=some e/\e.key=↑k)
 |[],[],i,_,hi=>by simp[midx]at hi
 |[],_::_,_,h,_=>by simp at h
 |_::_,[],_,h,_=>by simp at h
 |e::es,(k',v')::m,i,h,hi=>by
  simp only[iD,List.cons.injEq,Prod.mk.injEq]at h;obtain⟨⟨h1,h2⟩,h3⟩:=h;unfold midx at hi;by_cases hk:k=k'
  ·subst hk;simp at hi;subst hi;simp[bA,h3,h1]
  ·simp only[if_neg hk,Option.map_eq_some_iff]at hi;obtain⟨j,hj,rfl⟩:=hi;obtain⟨h4,h5⟩:=qh k v es m j h3 hj;simp only[bA,if_neg hk];refine⟨?_,by simpa using h5⟩;simp[h1,h2,h4]
theorem vG(k:Int)(v:α):∀(m:List (Int×α)),midx m k=none->bA m k v=m++[(k,v)]
 |[],_=>rfl
 |(k',v')::m,h=>by
  unfold midx at h;by_cases hk:k=k'
  ·simp[hk]at h
  ·simp only[if_neg hk,Option.map_eq_none_iff]at h;simp[bA,if_neg hk,vG k v m h]
theorem kJ{es:List MapEntry}(g:MapEntry->MapEntry)(hg:∀e,(g e).born=e.born)(i:Nat)(h:es.Pairwise (fun x y=>x.born<y.born)):(es.modify i g).Pairwise (fun x y=>x.born<y.born):=by
 have e1:∀l:List MapEntry,l.Pairwise (fun x y=>x.born<y.born)↔(l.map (·.born)).Pairwise (·<·):=fun l=>by rw[List.pairwise_map]
 have e2:(es.modify i g).map (·.born)=es.map (·.born):=by apply List.ext_getElem?;intro j;simp only[kI,List.getElem?_modify];cases es[j]?<;>simp;split<;>simp[hg]
 rw[e1,e2,<-e1];exact h
theorem kL{es:List MapEntry}(g:MapEntry->MapEntry)(hg:∀e,(g e).born=e.born)(i:Nat){c:Nat}(h:∀e∈es,e.born<c):∀e∈es.modify i g,e.born<c:=by
 intro e he;obtain⟨j,hj⟩:=List.getElem?_of_mem he;rw[List.getElem?_modify]at hj;cases hx:es[j]? with
 |none=>rw[hx]at hj;cases hj
 |some x=>
  rw[hx]at hj;have hxm:=h x (mH hx);simp at hj;split at hj<;>subst hj
  ·rw[hg];exact hxm
  ·exact hxm
theorem jg(ht:P.underlying t=some (.map kt et))(hk:P.underlying kt=some (.int .i64))(o:Own w (SP.bB f b m::l))(k:Int)(v:α):
  ∃w',(Instr.mapUpdate t (.map (some b)) (.int .i64 k) (f v)).run P w=.ok () w'/\Own w' (SP.bB f b (bA m k v)::l)/\Calm w w':=by
 obtain⟨es,clock,h1,h2,h3,o⟩:=Own.bB.1 o;have hb:=o.blk;have hm:=iZ m k;have hf:=fG (P:=P) hk h1 k w;cases uS:midx m k with
 |none=>
  have E9:a_ m k=none:=by rw[uS]at hm;simpa using hm.symm
  simp[uS]at hf;refine⟨_,?_,Own.bB.2 ⟨es.push {key:=.int .i64 k,val:=f v,born:=clock},clock+1,?_,?_,?_,o.lq _⟩,⟨rfl,rfl,rfl⟩⟩
  ·simp[Instr.mapUpdate,run_underlying ht,getObj,setObj,Sem.run,hb,dH hk,hf]
  ·rw[vG k v m uS];simp[h1]
  ·simp only[Array.toList_push,List.pairwise_append];exact⟨h2,by simp,fun a ha c hc=>by simp at hc;subst hc;exact h3 a ha⟩
  ·intro e he;simp at he;rcases he with he|rfl
   ·have:=h3 e (by simpa using he);omega
   ·simp
 |some i=>
  obtain⟨x,E9⟩:∃x,a_ m k=some x:=by rw[uS]at hm;exact Option.isSome_iff_exists.1 (by simpa using hm.symm)
  obtain⟨h4,e0,h5,h6⟩:=qh (f:=f) k v es.toList m i h1 uS;have h5':es[i]?=some e0:=by simpa using h5
  simp[uS,E9]at hf;refine⟨_,?_,Own.bB.2 ⟨es.modify i fun e=>{e with key:=.int .i64 k,val:=f v},clock,?_,?_,?_,o.lq _⟩,⟨rfl,rfl,rfl⟩⟩
  ·simp[Instr.mapUpdate,run_underlying ht,getObj,setObj,Sem.run,hb,dH hk,hf,h5',h6,Instr.keyThatStays,Instr.sameBits]
  ·rw[Array.toList_modify];exact h4
  ·rw[Array.toList_modify];exact kJ (fun e=>{e with key:=.int .i64 k,val:=f v}) (fun _=>rfl) i h2
  ·rw[Array.toList_modify];exact kL (fun e=>{e with key:=.int .i64 k,val:=f v}) (fun _=>rfl) i h3
theorem yC(k:Int):∀(es:List MapEntry)(m:List (Int×α)),es.map (fun e=>(e.key,e.val))=m.map (fun x=>(Value.int .i64 x.1,f x.2))->
  (∀i,midx m k=some i->(es.eraseIdx i).map (fun e=>(e.key,e.val))=(dW m k).map (fun x=>(Value.int .i64 x.1,f x.2)))/\(midx m k=none->dW m k=m)
 |[],[],_=>by simp[midx,dW]
 |[],_::_,h=>by simp at h
 |_::_,[],h=>by simp at h
 |e::es,(k',v')::m,h=>by
  simp only[iD,List.cons.injEq,Prod.mk.injEq]at h;obtain⟨⟨h1,h2⟩,h3⟩:=h;obtain⟨h4,h5⟩:=yC k es m h3;by_cases hk:k=k'
  ·subst hk;simp[midx,dW,h3]
  ·simp only[midx,dW,if_neg hk];refine⟨fun i hi=>?_,fun hi=>?_⟩
   ·rw[Option.map_eq_some_iff]at hi;obtain⟨j,hj,rfl⟩:=hi;simp[h1,h2,h4 j hj]
   ·rw[Option.map_eq_none_iff]at hi;rw[h5 hi]
theorem E_(ty:TypeId)(ht:P.underlying t=some (.map kt et))(hk:P.underlying kt=some (.int .i64))(o:Own w (SP.bB f b m::l))(k:Int)(ts:Array TypeId)(hts:ts[0]?=some t):
  ∃w',(Builtin.delete_ ts ty #[.map (some b),k]).run P w=.ok (.tuple #[]) w'/\Own w' (SP.bB f b (dW m k)::l)/\Calm w w':=by
 obtain⟨es,clock,h1,h2,h3,o⟩:=Own.bB.1 o;have hb:=o.blk;have hm:=iZ m k;have hf:=fG (P:=P) hk h1 k w;obtain⟨h4,h5⟩:=yC (f:=f) k es.toList m h1;cases uS:midx m k with
 |none=>
  simp[uS]at hf;refine⟨_,?_,Own.bB.2 ⟨es,clock,?_,h2,h3,o.lq _⟩,⟨rfl,rfl,rfl⟩⟩
  ·simp[Builtin.delete_,hts,run_underlying ht,getObj,setObj,Sem.run,hb,dH hk,hf]
  ·rw[h5 uS];exact h1
 |some i=>
  obtain⟨x,E9⟩:∃x,a_ m k=some x:=by rw[uS]at hm;exact Option.isSome_iff_exists.1 (by simpa using hm.symm)
  simp[uS,E9]at hf;have e1:(es.eraseIdxIfInBounds i).toList=es.toList.eraseIdx i:=by simp
  refine⟨_,?_,Own.bB.2 ⟨es.eraseIdxIfInBounds i,clock,?_,?_,?_,o.lq _⟩,⟨rfl,rfl,rfl⟩⟩
  ·simp[Builtin.delete_,hts,run_underlying ht,getObj,setObj,Sem.run,hb,dH hk,hf]
  ·rw[e1];exact h4 i uS
  ·rw[e1];exact h2.sublist (List.eraseIdx_sublist _ _)
  ·rw[e1];exact fun e he=>h3 e ((List.eraseIdx_sublist _ _).subset he)
theorem Own.gF(o:Own w l):Own (w.alloc (.map #[] 0)) (SP.bB f w.heap.size ([]:List (Int×α))::l):=
 Own.bB.2 ⟨#[],0,rfl,by simp,by simp,o.alloc _⟩
theorem bg{ops:Array Oper}{rest:List Oper}{op:Oper}{A:Act}{Q:Exit->Act->aF->Prop}(hgd:op.guard=none)(x y v:Operand)(hop:op.op=Op.mapUpdate t x y v)
  (ht:P.underlying t=some (.map kt et))(hk:P.underlying kt=some (.int .i64))(o:Own w (SP.bB f b m::l))(k:Int)(u:α)
  (hx:A.eval x=.map (some b))(hy:A.eval y=↑k)(hv:A.eval v=f u)
  (h:∀w',Own w' (SP.bB f b (bA m k u)::l)->Calm w w'->wpList P ops Q rest (A.put op.dst undef) w'):wpList P ops Q (op::rest) A w:=by
 refine wpList_plain hgd fun K hK=>?_;obtain⟨w',hr,h2,h3⟩:=jg ht hk o k u;unfold Oper.wp;simp[execOp,hop,hx,hy,hv,hr,Result.andThen];exact hK _ _ (h w' h2 h3)
theorem dL{ops:Array Oper}{rest:List Oper}{op:Oper}{A:Act}{Q:Exit->Act->aF->Prop}(hgd:op.guard=none)(x y:Operand)
  (hop:op.op=.call {callee:=.builtin .delete,args:=#[x,y],argTypes:=#[t,kt]})
  (ht:P.underlying t=some (.map kt et))(hk:P.underlying kt=some (.int .i64))(o:Own w (SP.bB f b m::l))(k:Int)
  (hx:A.eval x=.map (some b))(hy:A.eval y=↑k)
  (h:∀w',Own w' (SP.bB f b (dW m k)::l)->Calm w w'->wpList P ops Q rest (A.put op.dst (.tuple #[])) w'):wpList P ops Q (op::rest) A w:=by
 refine wpList_plain hgd fun K hK=>?_;obtain⟨w',hr,h2,h3⟩:=E_ op.type ht hk o k #[t,kt] rfl;unfold Oper.wp execOp;simp only[hop,resolve,invoke,builtin,Sem.run_bind,Sem.run_pure,Result.andThen_ok,List.map_toArray,iD,List.map_nil,hx,hy,hr];exact hK _ _ (h w' h2 h3)
end
theorem wp_region_tail{P:Program}{id:Nat}{Q:Exit->Act->aF->Prop}{a:Act}{w:aF}{l:List Oper}(n:Nat)(hm:P.follows .mixedOrders=true)(hB:Region.lexTailB .any l.toArray n=true)
  (h:wpStill P l.toArray w.drew (fun a'=>wpList P l.toArray Q (l.drop n) a' w.drew) (l.take n) a):(Code.region id l.toArray true).wp P Q a w:=
 wp_region_still_tail n hm hB h
end
section
open SP
def flat{α:Type}(g:α->dw)(xs:List α):dw:=xs.flatMap g
theorem aN{α:Type}{g:α->dw}{sz:Nat}(hg:∀x,(g x).length=sz)(xs:List α):(flat g xs).length=xs.length*sz:=by
 induction xs with
 |nil=>simp[flat]
 |cons x xs ih=>unfold flat at*;rw[List.flatMap_cons,jf,ih,hg,List.length_cons,Nat.add_mul];omega
theorem aB{α:Type}{g:α->dw}{sz:Nat}(hg:∀x,(g x).length=sz):∀(xs:List α)(i j:Nat)(x:α),xs[i]?=some x->j<sz->(flat g xs)[i*sz+j]?=(g x)[j]?
 |[],i,j,x,h,_=>by simp at h
 |y::xs,0,j,x,h,hj=>by simp at h;subst h;unfold flat;rw[List.flatMap_cons,Nat.zero_mul,Nat.zero_add,List.getElem?_append_left (by rw[hg];exact hj)]
 |y::xs,i+1,j,x,h,hj=>by unfold flat;rw[List.flatMap_cons,List.getElem?_append_right (by rw[hg,Nat.add_mul];omega),hg];have:=aB hg xs i j x (by simpa using h) hj;unfold flat at this;rw[<-this];congr 1;rw[Nat.add_mul];omega
theorem aO{α:Type}(g:α->dw)(xs ys:List α):flat g (xs++ys)=flat g xs++flat g ys:=by simp[flat]
def aR(v:aL)(l:aJ)(w:aF)(e:Ending)(w':aF):Prop:=e=.returned v/\Own w' l/\Calm w w'
def bN(v:aL)(w:aF)(e:Ending)(w':aF):Prop:=e=.returned v/\w=w'
theorem bN.still{P:Program}{f:FuncId}{args:Array aL}{w:aF}{v:aL}(h:Calls P f args w (bN v w)):Calls P f args w (fun e w''=>e=.returned v/\w''=w):=
 h.mono fun _ _⟨he,hw⟩=>⟨he,hw.symm⟩
theorem Calm.dn{a b:aF}(h:Calm a b)(n:Nat):Calm a (b.drewN n):=⟨h.os,h.tape,h.output⟩
theorem Calm.d1{a b:aF}(h:Calm a b):Calm a b.drew:=⟨h.os,h.tape,h.output⟩
theorem Calm.al{a b:aF}{x:Obj}(h:Calm (a.alloc x) b):Calm a b:=⟨h.os,h.tape,h.output⟩
theorem Own.more{w:aF}{R:aJ}(o:Own w R)(x:Obj):Own (w.alloc x) R:=(o.alloc x).drop
section
variable{α:Type}
theorem r_(m:List (Int×α))(k k':Int)(v:α):a_ (bA m k v) k'=if k'=k then some v else a_ m k':=by
 induction m with
 |nil=>simp[bA,a_]
 |cons x m ih=>
  obtain⟨k0,v0⟩:=x;unfold bA;by_cases h:k=k0
  ·subst h;rw[if_pos rfl];unfold a_;split<;>simp_all
  ·rw[if_neg h];unfold a_;by_cases h':k'=k0
   ·subst h';rw[if_pos rfl,if_neg (Ne.symm h),if_pos rfl]
   ·rw[if_neg h',if_neg h',ih]
def bL(m:List (Int×α)):Prop:=(m.map (·.1)).Nodup
theorem mR{m:List (Int×α)}{k:Int}:a_ m k=none↔k∉m.map (·.1):=by
 induction m with
 |nil=>simp[a_]
 |cons x m ih=>
  obtain⟨k0,v0⟩:=x;unfold a_;by_cases h:k=k0
  ·simp[h]
  ·rw[if_neg h,ih];simp[h]
theorem sj(m:List (Int×α))(k:Int)(v:α):(bA m k v).map (·.1)=if k∈m.map (·.1)then m.map (·.1)else m.map (·.1)++[k]:=by
 induction m with
 |nil=>simp[bA]
 |cons x m ih=>
  obtain⟨k0,v0⟩:=x;unfold bA;by_cases h:k=k0
  ·simp[h]
  ·rw[if_neg h];simp only[iD,ih,jc,h,false_or];split<;>simp
theorem bL.bA{m:List (Int×α)}(h:bL m)(k:Int)(v:α):bL (bA m k v):=by
 unfold bL at*;rw[sj];split
 ·exact h
 ·rename_i hk;rw[List.nodup_append];refine⟨h,by simp,?_⟩;intro a ha b hb;simp at hb;subst hb;exact fun e=>hk (e▸ha)
theorem JA(m:List (Int×α))(k:Int):(dW m k).map (·.1)=(m.map (·.1)).erase k:=by
 induction m with
 |nil=>simp[dW]
 |cons x m ih=>
  obtain⟨k0,v0⟩:=x;unfold dW;by_cases h:k=k0
  ·simp[h]
  ·rw[if_neg h];simp only[iD,ih];rw[List.erase_cons_tail];simpa using Ne.symm h
theorem bL.dW{m:List (Int×α)}(h:bL m)(k:Int):bL (dW m k):=by unfold bL at*;rw[JA];exact h.erase k
theorem JB{m:List (Int×α)}(h:bL m)(k k':Int):a_ (dW m k) k'=if k'=k then none else a_ m k':=by
 induction m with
 |nil=>simp[Go.Proofs.YtfejhikpfhgbeaaGreatDoor.dW,a_]
 |cons x m ih=>
  obtain⟨k0,v0⟩:=x;unfold bL at h;rw[iD,List.nodup_cons]at h;unfold Go.Proofs.YtfejhikpfhgbeaaGreatDoor.dW;by_cases hk:k=k0
  ·subst hk;rw[if_pos rfl];by_cases h':k'=k
   ·subst h';rw[if_pos rfl];exact mR.2 h.1
   ·rw[if_neg h'];conv=>rhs;unfold a_
    rw[if_neg h']
  ·rw[if_neg hk];unfold a_;by_cases h':k'=k0
   ·subst h';rw[if_pos rfl,if_neg (Ne.symm hk),if_pos rfl]
   ·rw[if_neg h',if_neg h',ih h.2]
end
theorem set_self{α:Type}{l:List α}{i:Nat}{x:α}(h:l[i]?=some x):l.set i x=l:=by
 apply List.ext_getElem?;intro j;rw[List.getElem?_set];split
 ·rename_i hij;subst hij;split
  ·exact h.symm
  ·rename_i hl;rw[QY (by omega)]at h;cases h
 ·rfl
theorem Vt{l:bq}(h:l.Nodup){i j:Nat}{x:Int}(hi:l[i]?=some x)(hj:l[j]?=some x):i=j:=by have h1:=(eU.1 hi);have h2:=(eU.1 hj);exact(List.getElem_inj h).1 (h1.2.trans h2.2.symm)
theorem Li{α:Type}{m:List (Int×α)}(hu:bL m){i:Nat}{x:Int×α}(hx:m[i]?=some x):a_ m x.1=some x.2:=by
 induction m generalizing i with
 |nil=>simp at hx
 |cons y m ih=>
  obtain⟨k0,v0⟩:=y;unfold bL at hu;rw[iD,List.nodup_cons]at hu;cases i with
  |zero=>simp at hx;subst hx;simp[a_]
  |succ i=>
   have hx':m[i]?=some x:=by simpa using hx
   have hne:x.1≠k0:=fun e=>hu.1 (e▸gW.2 ⟨x,mH hx',rfl⟩);unfold a_;rw[if_neg hne];exact ih hu.2 hx'
theorem eO{α:Type}{m:List (Int×α)}(hu:bL m){x:Int×α}(hx:x∈m):a_ m x.1=some x.2:=by obtain⟨i,hi⟩:=List.getElem?_of_mem hx;exact Li hu hi
theorem jA{α:Type}{m:List (Int×α)}{k:Int}{v:α}(h:a_ m k=some v):(k,v)∈m:=by
 induction m with
 |nil=>simp[a_]at h
 |cons y m ih=>
  obtain⟨k0,v0⟩:=y;unfold a_ at h;split at h
  ·rename_i hk;subst hk;simp at h;subst h;simp
  ·exact List.mem_cons_of_mem _ (ih h)
end
def lU{α:Type}(m:List (Int×α)):bq:=(m.map (·.1)).mergeSort leI
def uT{α:Type}(m:List (Int×α)):Prop:=bL m/\∀x∈m,-9223372036854775808<=x.1/\x.1<=9223372036854775807
section
open SP
structure Tg where
 f:Int
 w:Int
 s:Int
instance:DecidableEq Tg:=fun a b=>decidable_of_iff (a.f=b.f/\a.w=b.w/\a.s=b.s) ⟨fun⟨h1,h2,h3⟩=>by cases a;cases b;simp_all,fun h=>by rw[h];exact⟨rfl,rfl,rfl⟩⟩
def iL(t:Tg):aL:=.agg #[t.f,t.w,t.s]
def dA(t:Tg):dw:=[t.f,t.w,t.s]
theorem iQ(t:Tg):(dA t).length=3:=rfl
structure ED(L:List Tg):Prop where
 yD:L.Pairwise (fun a b=>a.f<b.f)
 fZ:∀t∈L,0<=t.f/\t.f<32/\1<=t.w/\t.w<=16/\0<=t.s/\t.s<=1099511627776
def cB(L:List Tg)(k:Int):Option Tg:=L.find? (fun t=>t.f==k)
def jB(x:Tg):List Tg->List Tg
 |[]=>[x]
 |t::L=>if t.f<x.f then t::jB x L else x::t::L
def j3(k:Int)(L:List Tg):List Tg:=L.filter (fun t=>!(t.f==k))
def dU(x:Tg)(L:List Tg):List Tg:=L.map (fun t=>if t.f=x.f then x else t)
def pairT(t:Tg):Int×Tg:=(t.f,t)
theorem cK{L:List Tg}{k:Int}{t:Tg}(h:cB L k=some t):t∈L/\t.f=k:=by unfold cB at h;exact⟨List.mem_of_find?_eq_some h,by have:=List.find?_some h;simpa using this⟩
theorem mU{L:List Tg}{k:Int}:cB L k=none↔∀t∈L,t.f≠k:=by unfold cB;rw[List.find?_eq_none];simp
theorem vH{L:List Tg}(h:ED L){t:Tg}(ht:t∈L):cB L t.f=some t:=by
 have h1:=h.yD;clear h;induction L with
 |nil=>simp at ht
 |cons a L ih=>
  rw[List.pairwise_cons]at h1;unfold cB;rw[List.find?_cons];rcases jc.1 ht with rfl|ht
  ·simp
  ·have:=h1.1 t ht;have hne:(a.f==t.f)=false:=by simpa using Int.ne_of_lt this
   rw[hne];exact ih ht h1.2
theorem ED.inj{L:List Tg}(h:ED L){a b:Tg}(ha:a∈L)(hb:b∈L)(e:a.f=b.f):a=b:=by have h1:=vH h ha;have h2:=vH h hb;rw[e,h2]at h1;simpa using h1.symm
theorem vI{x t:Tg}{L:List Tg}:t∈jB x L↔t=x\/t∈L:=by
 induction L with
 |nil=>simp[jB]
 |cons a L ih=>
  unfold jB;split
  ·simp only[jc,ih];constructor
   ·rintro(h|h|h)<;>simp[h]
   ·rintro(h|h|h)<;>simp[h]
  ·simp
theorem Bu(x:Tg):∀L:List Tg,(jB x L).Perm (x::L)
 |[]=>.refl _
 |a::L=>by
  unfold jB;split
  ·exact((Bu x L).cons a).trans (.swap x a L)
  ·exact .refl _
theorem ED.ins{L:List Tg}(h:ED L){x:Tg}(hx:0<=x.f/\x.f<32/\1<=x.w/\x.w<=16/\0<=x.s/\x.s<=1099511627776)(hn:cB L x.f=none):ED (jB x L):=by
 have hne:=mU.1 hn;refine⟨?_,fun t ht=>?_⟩
 ·have h1:=h.yD;clear h hn;induction L with
  |nil=>simp[jB]
  |cons a L ih=>
   rw[List.pairwise_cons]at h1;unfold jB;split
   ·rename_i hlt;rw[List.pairwise_cons];refine⟨fun t ht=>?_,ih (fun t ht=>hne t (by simp[ht])) h1.2⟩;rcases vI.1 ht with rfl|ht
    ·exact hlt
    ·exact h1.1 t ht
   ·rename_i hlt;have ha:=hne a (by simp);rw[List.pairwise_cons];refine⟨fun t ht=>?_,List.pairwise_cons.2 h1⟩;rcases jc.1 ht with rfl|ht
    ·omega
    ·have:=h1.1 t ht;omega
 ·rcases vI.1 ht with rfl|ht
  ·exact hx
  ·exact h.fZ t ht
theorem ED.del{L:List Tg}(h:ED L)(k:Int):ED (j3 k L):=
 ⟨h.yD.sublist List.filter_sublist,fun t ht=>h.fZ t (List.mem_filter.1 ht).1⟩
theorem X_{L:List Tg}{k:Int}{t:Tg}:t∈j3 k L↔t∈L/\t.f≠k:=by unfold j3;rw[List.mem_filter];simp
theorem Ya(x:Tg)(L:List Tg):(dU x L).map (·.f)=L.map (·.f):=by
 unfold dU;rw[List.map_map];refine List.map_congr_left fun t _=>?_;simp only[Function.comp];split
 ·rename_i h;exact h.symm
 ·rfl
theorem Fa{x t:Tg}{L:List Tg}(h:t∈dU x L):t=x\/t∈L/\t.f≠x.f:=by
 unfold dU at h;obtain⟨u,hu,rfl⟩:=gW.1 h;split
 ·exact .inl rfl
 ·rename_i h';exact .inr ⟨hu,h'⟩
theorem vJ{x t:Tg}{L:List Tg}(h:t∈L)(hne:t.f≠x.f):t∈dU x L:=
 gW.2 ⟨t,h,by rw[if_neg hne]⟩
theorem jO{L:List Tg}:L.Pairwise (fun a b=>a.f<b.f)↔(L.map (·.f)).Pairwise (·<·):=by rw[List.pairwise_map]
theorem ED.set{L:List Tg}(h:ED L){x:Tg}(hx:0<=x.f/\x.f<32/\1<=x.w/\x.w<=16/\0<=x.s/\x.s<=1099511627776):ED (dU x L):=by
 refine⟨?_,fun t ht=>?_⟩
 ·rw[jO,Ya,<-jO];exact h.yD
 ·rcases Fa ht with rfl|⟨ht,_⟩
  ·exact hx
  ·exact h.fZ t ht
theorem ED.len{L:List Tg}(h:ED L):L.length<=32:=by
 have key:∀(l:bq)(n:Int),l.Pairwise (·<·)->(∀x∈l,n<=x/\x<32)->n<=32->(l.length:Int)<=32-n:=by
  intro l;induction l with
  |nil=>intro n _ _ h;simp;omega
  |cons a l ih=>intro n hp hr hn;rw[List.pairwise_cons]at hp;have ha:=hr a (by simp);have:=ih (a+1) hp.2 (fun x hx=>⟨by have:=hp.1 x hx;omega,(hr x (by simp[hx])).2⟩) (by omega);rw[List.length_cons];omega
 have:=key (L.map (·.f)) 0 (jO.1 h.yD) (fun x hx=>by
  obtain⟨t,ht,rfl⟩:=gW.1 hx
  exact⟨(h.fZ t ht).1,(h.fZ t ht).2.1⟩) (by omega)
 rw[iP]at this;omega
structure u7(m:List (Int×Tg))(L:List Tg):Prop where
 ok:ED L
 perm:m.Perm (L.map pairT)
section
variable{m:List (Int×Tg)}{L:List Tg}
theorem u7.keys(h:u7 m L):(m.map (·.1)).Perm (L.map (·.f)):=by have:=h.perm.map (·.1);rw[List.map_map]at this;exact this
theorem u7.uniq(h:u7 m L):bL m:=by unfold bL;rw[h.keys.nodup_iff];exact(jO.1 h.ok.yD).imp Int.ne_of_lt
theorem u7.Yb(h:u7 m L):uT m:=by refine⟨h.uniq,fun x hx=>?_⟩;have:=h.keys.mem_iff.1 (gW.2 ⟨x,hx,rfl⟩);obtain⟨t,ht,he⟩:=gW.1 this;have:=h.ok.fZ t ht;omega
theorem u7.len(h:u7 m L):m.length=L.length:=by rw[h.perm.length_eq,iP]
theorem u7.get(h:u7 m L)(k:Int):a_ m k=cB L k:=by
 cases hf:cB L k with
 |none=>rw[mR];intro hk;obtain⟨t,ht,he⟩:=gW.1 (h.keys.mem_iff.1 hk);exact mU.1 hf t ht he
 |some t=>obtain⟨h1,h2⟩:=cK hf;have:pairT t∈m:=h.perm.mem_iff.2 (gW.2 ⟨t,h1,rfl⟩);have:=eO h.uniq this;rw[<-h2];exact this
theorem u7.sort(h:u7 m L):lU m=L.map (·.f):=by
 unfold lU;refine List.Perm.eq_of_pairwise (le:=fun a b=>a<=b) (fun a b _ _ h1 h2=>Int.le_antisymm h1 h2) ?_ ?_ ((List.mergeSort_perm _ _).trans h.keys)
 ·have:=List.pairwise_mergeSort (le:=leI) (fun a b c h1 h2=>by simp[leI]at*;omega) (fun a b=>by simp[leI];omega) (m.map (·.1));exact this.imp (fun h=>by simpa[leI]using h)
 ·exact(jO.1 h.ok.yD).imp Int.le_of_lt
theorem xO{x:Tg}(hi:(a_ m x.f).isSome)(hu:bL m):bA m x.f x=m.map (fun p=>if p.1=x.f then(x.f,x)else p):=by
 induction m with
 |nil=>simp[a_]at hi
 |cons p m ih=>
  obtain⟨k0,v0⟩:=p;unfold bL at hu;rw[iD,List.nodup_cons]at hu;unfold bA;by_cases hk:x.f=k0
  ·subst hk;rw[if_pos rfl,iD,if_pos rfl];congr 1;symm;rw[List.map_congr_left (g:=id) (fun p hp=>?_),List.map_id];rw[if_neg];rfl;intro e;exact hu.1 (gW.2 ⟨p,hp,e⟩)
  ·rw[if_neg hk,iD,if_neg (fun e=>hk e.symm)];rw[ih (by unfold a_ at hi;rw[if_neg hk]at hi;exact hi) hu.2]
theorem u7.set(h:u7 m L){x:Tg}(hi:cB L x.f≠none)(hx:0<=x.f/\x.f<32/\1<=x.w/\x.w<=16/\0<=x.s/\x.s<=1099511627776):u7 (bA m x.f x) (dU x L):=by
 refine⟨h.ok.set hx,?_⟩;rw[xO (by rw[h.get];exact Option.isSome_iff_ne_none.2 hi) h.uniq];have:=h.perm.map (fun p:Int×Tg=>if p.1=x.f then(x.f,x)else p);refine this.trans (.of_eq ?_);unfold dU;rw[List.map_map,List.map_map];refine List.map_congr_left fun t _=>?_;show(if t.f=x.f then(x.f,x)else(t.f,t))=((if t.f=x.f then x else t).f,if t.f=x.f then x else t);by_cases h:t.f=x.f
 ·rw[if_pos h,if_pos h]
 ·rw[if_neg h,if_neg h]
theorem u7.ins(h:u7 m L){x:Tg}(hn:cB L x.f=none)(hx:0<=x.f/\x.f<32/\1<=x.w/\x.w<=16/\0<=x.s/\x.s<=1099511627776):u7 (bA m x.f x) (jB x L):=by
 refine⟨h.ok.ins hx hn,?_⟩;have hi:midx m x.f=none:=by have:=iZ m x.f;rw[h.get,hn]at this;simpa using this
 rw[vG x.f x m hi];have h1:(m++[(x.f,x)]).Perm ((x.f,x)::m):=List.perm_append_comm;have h2:=(Bu x L).map pairT;exact h1.trans ((h.perm.cons _).trans h2.symm)
theorem CR(hu:bL m)(k:Int):dW m k=m.filter (fun p=>!(p.1==k)):=by
 induction m with
 |nil=>rfl
 |cons p m ih=>
  obtain⟨k0,v0⟩:=p;unfold bL at hu;rw[iD,List.nodup_cons]at hu;unfold dW;by_cases hk:k=k0
  ·subst hk;rw[if_pos rfl,List.filter_cons_of_neg (by simp)];symm;rw[List.filter_eq_self];intro p hp;have:p.1≠k:=fun e=>hu.1 (gW.2 ⟨p,hp,e⟩);simpa using this
  ·rw[if_neg hk,List.filter_cons_of_pos (by simpa using Ne.symm hk),ih hu.2]
theorem u7.del(h:u7 m L)(k:Int):u7 (dW m k) (j3 k L):=by refine⟨h.ok.del k,?_⟩;rw[CR h.uniq];refine(h.perm.filter _).trans (.of_eq ?_);unfold j3;rw[List.filter_map];rfl
theorem u7.start:u7 [] []:=⟨⟨.nil,by simp⟩,.refl _⟩
theorem u7.map(h:u7 m L)(g:Tg->Tg)(hg:∀t,(g t).f=t.f)(hok:ED (L.map g)):u7 (m.map fun p=>(p.1,g p.2)) (L.map g):=by refine⟨hok,?_⟩;refine(h.perm.map _).trans (.of_eq ?_);rw[List.map_map,List.map_map];refine List.map_congr_left fun t _=>?_;simp only[Function.comp,pairT,hg]
end
end
section
open SP
structure Ed(L:List Tg):Prop where
 yD:L.Pairwise (fun a b=>a.f<b.f)
 fZ:∀t∈L,0<=t.f/\t.f<32/\1<=t.w/\t.w<=16
theorem su{L:List Tg}(h:Ed L){t:Tg}(ht:t∈L):cB L t.f=some t:=by
 have h1:=h.yD;clear h;induction L with
 |nil=>simp at ht
 |cons a L ih=>
  rw[List.pairwise_cons]at h1;unfold cB;rw[List.find?_cons];rcases jc.1 ht with rfl|ht
  ·simp
  ·have:=h1.1 t ht;have hne:(a.f==t.f)=false:=by simpa using Int.ne_of_lt this
   rw[hne];exact ih ht h1.2
theorem Ed.ins{L:List Tg}(h:Ed L){x:Tg}(hx:0<=x.f/\x.f<32/\1<=x.w/\x.w<=16)(hn:cB L x.f=none):Ed (jB x L):=by
 have hne:=mU.1 hn;refine⟨?_,fun t ht=>?_⟩
 ·have h1:=h.yD;clear h hn;induction L with
  |nil=>simp[jB]
  |cons a L ih=>
   rw[List.pairwise_cons]at h1;unfold jB;split
   ·rename_i hlt;rw[List.pairwise_cons];refine⟨fun t ht=>?_,ih (fun t ht=>hne t (by simp[ht])) h1.2⟩;rcases vI.1 ht with rfl|ht
    ·exact hlt
    ·exact h1.1 t ht
   ·rename_i hlt;have ha:=hne a (by simp);rw[List.pairwise_cons];refine⟨fun t ht=>?_,List.pairwise_cons.2 h1⟩;rcases jc.1 ht with rfl|ht
    ·omega
    ·have:=h1.1 t ht;omega
 ·rcases vI.1 ht with rfl|ht
  ·exact hx
  ·exact h.fZ t ht
theorem Ed.del{L:List Tg}(h:Ed L)(k:Int):Ed (j3 k L):=
 ⟨h.yD.sublist List.filter_sublist,fun t ht=>h.fZ t (List.mem_filter.1 ht).1⟩
theorem Ed.set{L:List Tg}(h:Ed L){x:Tg}(hx:0<=x.f/\x.f<32/\1<=x.w/\x.w<=16):Ed (dU x L):=by
 refine⟨?_,fun t ht=>?_⟩
 ·rw[jO,Ya,<-jO];exact h.yD
 ·rcases Fa ht with rfl|⟨ht,_⟩
  ·exact hx
  ·exact h.fZ t ht
theorem Ed.len{L:List Tg}(h:Ed L):L.length<=32:=by
 have key:∀(l:bq)(n:Int),l.Pairwise (·<·)->(∀x∈l,n<=x/\x<32)->n<=32->(l.length:Int)<=32-n:=by
  intro l;induction l with
  |nil=>intro n _ _ h;simp;omega
  |cons a l ih=>intro n hp hr hn;rw[List.pairwise_cons]at hp;have ha:=hr a (by simp);have:=ih (a+1) hp.2 (fun x hx=>⟨by have:=hp.1 x hx;omega,(hr x (by simp[hx])).2⟩) (by omega);rw[List.length_cons];omega
 have:=key (L.map (·.f)) 0 (jO.1 h.yD) (fun x hx=>by
  obtain⟨t,ht,rfl⟩:=gW.1 hx
  exact⟨(h.fZ t ht).1,(h.fZ t ht).2.1⟩) (by omega)
 rw[iP]at this;omega
structure jC(m:List (Int×Tg))(L:List Tg):Prop where
 ok:Ed L
 perm:m.Perm (L.map pairT)
section
variable{m:List (Int×Tg)}{L:List Tg}
theorem jC.keys(h:jC m L):(m.map (·.1)).Perm (L.map (·.f)):=by have:=h.perm.map (·.1);rw[List.map_map]at this;exact this
theorem jC.uniq(h:jC m L):bL m:=by unfold bL;rw[h.keys.nodup_iff];exact(jO.1 h.ok.yD).imp Int.ne_of_lt
theorem jC.Yb(h:jC m L):uT m:=by refine⟨h.uniq,fun x hx=>?_⟩;have:=h.keys.mem_iff.1 (gW.2 ⟨x,hx,rfl⟩);obtain⟨t,ht,he⟩:=gW.1 this;have:=h.ok.fZ t ht;omega
theorem jC.len(h:jC m L):m.length=L.length:=by rw[h.perm.length_eq,iP]
theorem jC.get(h:jC m L)(k:Int):a_ m k=cB L k:=by
 cases hf:cB L k with
 |none=>rw[mR];intro hk;obtain⟨t,ht,he⟩:=gW.1 (h.keys.mem_iff.1 hk);exact mU.1 hf t ht he
 |some t=>obtain⟨h1,h2⟩:=cK hf;have:pairT t∈m:=h.perm.mem_iff.2 (gW.2 ⟨t,h1,rfl⟩);have:=eO h.uniq this;rw[<-h2];exact this
theorem jC.sort(h:jC m L):lU m=L.map (·.f):=by
 unfold lU;refine List.Perm.eq_of_pairwise (le:=fun a b=>a<=b) (fun a b _ _ h1 h2=>Int.le_antisymm h1 h2) ?_ ?_ ((List.mergeSort_perm _ _).trans h.keys)
 ·have:=List.pairwise_mergeSort (le:=leI) (fun a b c h1 h2=>by simp[leI]at*;omega) (fun a b=>by simp[leI];omega) (m.map (·.1));exact this.imp (fun h=>by simpa[leI]using h)
 ·exact(jO.1 h.ok.yD).imp Int.le_of_lt
theorem jC.set(h:jC m L){x:Tg}(hi:cB L x.f≠none)(hx:0<=x.f/\x.f<32/\1<=x.w/\x.w<=16):jC (bA m x.f x) (dU x L):=by
 refine⟨h.ok.set hx,?_⟩;rw[xO (by rw[h.get];exact Option.isSome_iff_ne_none.2 hi) h.uniq];have:=h.perm.map (fun p:Int×Tg=>if p.1=x.f then(x.f,x)else p);refine this.trans (.of_eq ?_);unfold dU;rw[List.map_map,List.map_map];refine List.map_congr_left fun t _=>?_;show(if t.f=x.f then(x.f,x)else(t.f,t))=((if t.f=x.f then x else t).f,if t.f=x.f then x else t);by_cases h:t.f=x.f
 ·rw[if_pos h,if_pos h]
 ·rw[if_neg h,if_neg h]
theorem jC.ins(h:jC m L){x:Tg}(hn:cB L x.f=none)(hx:0<=x.f/\x.f<32/\1<=x.w/\x.w<=16):jC (bA m x.f x) (jB x L):=by
 refine⟨h.ok.ins hx hn,?_⟩;have hi:midx m x.f=none:=by have:=iZ m x.f;rw[h.get,hn]at this;simpa using this
 rw[vG x.f x m hi];have h1:(m++[(x.f,x)]).Perm ((x.f,x)::m):=List.perm_append_comm;have h2:=(Bu x L).map pairT;exact h1.trans ((h.perm.cons _).trans h2.symm)
theorem jC.del(h:jC m L)(k:Int):jC (dW m k) (j3 k L):=by refine⟨h.ok.del k,?_⟩;rw[CR h.uniq];refine(h.perm.filter _).trans (.of_eq ?_);unfold j3;rw[List.filter_map];rfl
theorem jC.start:jC [] []:=⟨⟨.nil,by simp⟩,.refl _⟩
end
end
def ab(x:Int):Int:=max x (-x)
def bG(l:bq):Int:=l.foldr (·+·) 0
theorem Fb:bG []=0:=rfl
theorem aV(x:Int)(l:bq):bG (x::l)=x+bG l:=rfl
theorem CS:∀l m:bq,bG (l++m)=bG l+bG m
 |[],m=>by rw[List.nil_append,Fb];omega
 |x::l,m=>by rw[List.cons_append,aV,aV,CS l m];omega
def eF(a T:Int)(W:bq):bq:=W.map fun w=>(a*w).tdiv T
def NH(x:Int):bq->bq
 |[]=>[]
 |q::l=>(q+x)::l
def bV(a:Int)(W:bq):bq:=NH (a-bG (eF a (bG W) W)) (eF a (bG W) W)
theorem JC(x:Int):∀l,(NH x l).length=l.length
 |[]=>rfl
 |_::_=>rfl
theorem tK(a:Int)(W:bq):(bV a W).length=W.length:=by unfold bV eF;rw[JC,iP]
theorem tL(a:Int){W:bq}(h:W≠[]):bG (bV a W)=a:=by
 unfold bV;obtain⟨q,l,e⟩:∃q l,eF a (bG W) W=q::l:=by
  cases W with
  |nil=>exact absurd rfl h
  |cons w W=>exact⟨_,_,rfl⟩
 rw[e,NH,aV,aV];omega
theorem tN(a T:Int)(ha:0<=a)(hT:0<T):∀W:bq,(∀w∈W,0<=w)->(∀q∈eF a T W,0<=q)/\bG (eF a T W)*T<=a*bG W
 |[],_=>⟨(by intro q hq;cases hq),(by simp[eF,bG])⟩
 |w::W,hW=>by
  obtain⟨h1,h2⟩:=tN a T ha hT W fun v hv=>hW v (by simp[hv]);have hw:=hW w (by simp);have hp:0<=a*w:=Int.mul_nonneg ha hw;have hq:0<=(a*w).tdiv T:=Int.tdiv_nonneg hp (Int.le_of_lt hT);have hm:(a*w).tdiv T*T<=a*w:=by rw[Int.tdiv_eq_ediv_of_nonneg hp];exact Int.ediv_mul_le _ (by omega)
  constructor
  ·intro q hq';rcases jc.1 hq' with rfl|h
   ·exact hq
   ·exact h1 q h
  ·show bG ((a*w).tdiv T::eF a T W)*T<=a*bG (w::W);rw[aV,aV,Int.add_mul,Int.mul_add];omega
theorem Q3(a T:Int)(W:bq):eF (-a) T W=(eF a T W).map fun q=>-q:=by unfold eF;rw[List.map_map];refine List.map_congr_left fun w _=>?_;show(-a*w).tdiv T=-((a*w).tdiv T);rw[Int.neg_mul,Int.neg_tdiv]
theorem NI:∀l:bq,bG (l.map fun q=>-q)=-bG l
 |[]=>rfl
 |x::l=>by rw[iD,aV,aV,NI l];omega
theorem Vu(x:Int)(l:bq):NH (-x) (l.map fun q=>-q)=(NH x l).map fun q=>-q:=by
 cases l with
 |nil=>rfl
 |cons q l=>show(-q+-x)::_=-(q+x)::_;rw[show-q+-x=-(q+x)by omega]
theorem Lj(a:Int)(W:bq):bV (-a) W=(bV a W).map fun q=>-q:=by unfold bV;rw[Q3,NI,show-a- -bG (eF a (bG W) W)=-(a-bG (eF a (bG W) W))by omega,Vu]
theorem zJ:∀{W:bq},W≠[]->(∀w∈W,1<=w)->0<bG W
 |[],h,_=>absurd rfl h
 |[w],_,h=>by have:=h w (by simp);rw[aV,Fb];omega
 |w::v::W,_,h=>by have:=h w (by simp);have:=zJ (W:=v::W) (by simp) fun u hu=>h u (by simp[hu]);rw[aV];omega
theorem kM{a:Int}(ha:0<=a){W:bq}(hW:∀w∈W,1<=w):∀q∈bV a W,0<=q:=by
 cases W with
 |nil=>intro q hq;cases hq
 |cons w0 W0=>
  have hT:=zJ (W:=w0::W0) (by simp) hW;generalize hWW:w0::W0=W at*;obtain⟨h1,h2⟩:=tN a (bG W) ha hT W fun w hw=>by have:=hW w hw;omega
  have h3:=Int.le_of_mul_le_mul_right h2 hT;unfold bV;generalize eF a (bG W) W=Q at*;cases Q with
  |nil=>intro q hq;cases hq
  |cons q0 Q0=>
   intro q hq;rcases jc.1 hq with rfl|h
   ·have:=h1 q0 (by simp);omega
   ·exact h1 q (by simp[h])
theorem vK:∀l:bq,(∀q∈l,0<=q)->bG (l.map ab)=bG l
 |[],_=>rfl
 |x::l,h=>by have hx:=h x (by simp);rw[iD,aV,aV,vK l fun q hq=>h q (by simp[hq])];unfold ab;omega
theorem Yc(x:Int):ab (-x)=ab x:=by unfold ab;omega
theorem zK(a:Int){W:bq}(hW:∀w∈W,1<=w):bG ((bV a W).map ab)<=ab a:=by
 by_cases hn:W=[]
 ·subst hn;show(0:Int)<=_;unfold ab;omega
 have key:∀b:Int,0<=b->bG ((bV b W).map ab)<=ab b:=by intro b hb;rw[vK _ (kM hb hW),tL b hn];unfold ab;omega
 by_cases ha:0<=a
 ·exact key a ha
 ·have:=key (-a) (by omega);have e:=Lj (-a) W;rw[Int.neg_neg]at e;rw[e,List.map_map,show(ab∘fun q=>-q)=ab from funext Yc];rw[Yc]at this;exact this
theorem xh(x:Int):0<=ab x:=by unfold ab;omega
theorem vL:∀{l:bq}{x:Int},x∈l->ab x<=bG (l.map ab)
 |y::l,x,h=>by
  rw[iD,aV];have h0:∀l:bq,0<=bG (l.map ab):=fun l=>by
   induction l with
   |nil=>exact Int.le_refl _
   |cons z l ih=>rw[iD,aV];have:=xh z;omega
  rcases jc.1 h with rfl|h
  ·have:=h0 l;omega
  ·have:=vL h;have:=xh y;omega
def lags(L:List Tg):bq:=L.map (·.s)
def wts(L:List Tg):bq:=L.map (·.w)
def Bv(L:List Tg):Int:=bG (lags L)
def Bw(L:List Tg):Int:=bG ((lags L).map ab)
theorem Yd{L:List Tg}{t:Tg}(h:t∈L):ab t.s<=Bw L:=vL (gW.2 ⟨t,h,rfl⟩)
theorem gX(t:Tg)(L:List Tg):Bw (t::L)=ab t.s+Bw L:=rfl
theorem jP(t:Tg)(L:List Tg):Bv (t::L)=t.s+Bv L:=rfl
def yE:List Tg->bq->List Tg
 |t::L,x::l=>⟨t.f,t.w,t.s+x⟩::yE L l
 |L,_=>L
theorem zL(L:List Tg):yE L []=L:=by cases L<;>rfl
theorem sw(t:Tg)(L:List Tg)(x:Int)(l:bq):yE (t::L) (x::l)=⟨t.f,t.w,t.s+x⟩::yE L l:=rfl
theorem Ye:∀(L:List Tg)(l:bq),(yE L l).length=L.length
 |[],_=>by cases‹bq›<;>rfl
 |_::_,[]=>rfl
 |t::L,x::l=>by rw[sw,List.length_cons,Ye L l,List.length_cons]
theorem Ue:∀(L:List Tg)(l:bq),(yE L l).map (fun t=>(t.f,t.w))=L.map fun t=>(t.f,t.w)
 |[],l=>by cases l<;>rfl
 |_::_,[]=>rfl
 |t::L,x::l=>by rw[sw,iD,Ue L l,iD]
theorem NJ:∀(L:List Tg)(l:bq),Bw (yE L l)<=Bw L+bG (l.map ab)
 |L,[]=>by rw[zL];show _<=_+0;omega
 |[],x::l=>by
  show Bw []<=_;have:∀m:bq,0<=bG (m.map ab):=fun m=>by
   induction m with
   |nil=>exact Int.le_refl _
   |cons z m ih=>rw[iD,aV];have:=xh z;omega
  have:=this (x::l);omega
 |t::L,x::l=>by
  rw[sw,gX,gX,iD,aV];have:=NJ L l;show ab (t.s+x)+_<=_;have:ab (t.s+x)<=ab t.s+ab x:=by unfold ab;omega
  omega
theorem Ed.agU{L L':List Tg}(h:Ed L)(e:L'.map (fun t=>(t.f,t.w))=L.map fun t=>(t.f,t.w)):Ed L':=by
 have ef:L'.map (·.f)=L.map (·.f):=by have:=congrArg (List.map Prod.fst) e;rw[List.map_map,List.map_map]at this;exact this
 refine⟨?_,fun t ht=>?_⟩
 ·rw[jO,ef,<-jO];exact h.yD
 ·have:(t.f,t.w)∈L'.map (fun t=>(t.f,t.w)):=gW.2 ⟨t,ht,rfl⟩;rw[e]at this;obtain⟨u,hu,hfw⟩:=gW.1 this;have:=h.fZ u hu;rw[Prod.mk.injEq]at hfw;rw[<-hfw.1,<-hfw.2];exact this
def jD(L:List Tg)(f w:Int):Int×List Tg:=
 if f<0\/32<=f\/w<1\/16<w then(1,L)else if(cB L f).isSome then(7,L)else(0,jB ⟨f,w,0⟩ L)
def ah6(L:List Tg)(f w:Int):Int×List Tg:=
 match cB L f with
 |none=>(6,L)
 |some t=>if w<1\/16<w then(1,L)else(0,dU ⟨f,w,t.s⟩ L)
def j4(L:List Tg)(c s n:Int):Int×List Tg:=
 match cB L c,cB L s with
 |some a,some b=>
  if n<1\/4096<n then(1,L)else if c=s then(0,L)
  else if 1099511627776<a.s+n\/1099511627776<b.s-n\/a.s+n< -1099511627776\/b.s-n< -1099511627776 then(2,L)
  else(0,dU ⟨s,b.w,b.s-n⟩ (dU ⟨c,a.w,a.s+n⟩ L))
 |_,_=>(6,L)
def ou(L:List Tg)(f:Int):(Int×Int)×List Tg:=
 match cB L f with
 |none=>((0,6),L)
 |some t=>((t.s,0),yE (j3 f L) (bV t.s (wts (j3 f L))))
structure qU(N:Nat)(L:List Tg):Prop where
 ok:Ed L
 sm:Bw L<=8192*(N:Int)
theorem qU.start:qU 0 []:=⟨⟨.nil,by simp⟩,Int.le_refl _⟩
theorem qU.le{N M:Nat}{L:List Tg}(h:qU N L)(hm:N<=M):qU M L:=⟨h.ok,by have:=h.sm;omega⟩
theorem qU.lag{N:Nat}{L:List Tg}(h:qU N L){t:Tg}(ht:t∈L):-(8192*(N:Int))<=t.s/\t.s<=8192*(N:Int):=by have h1:=Yd ht;have h2:=h.sm;unfold ab at h1;omega
theorem NK(x:Tg):∀L:List Tg,Bw (jB x L)=ab x.s+Bw L
 |[]=>rfl
 |a::L=>by
  unfold jB;split
  ·rw[gX,NK x L,gX];omega
  ·rfl
theorem NL(x:Tg):∀L:List Tg,Bv (jB x L)=x.s+Bv L
 |[]=>rfl
 |a::L=>by
  unfold jB;split
  ·rw[jP,NL x L,jP];omega
  ·rfl
theorem NM{N:Nat}{L:List Tg}(h:qU N L)(f w:Int):qU N (jD L f w).2:=by
 unfold jD;split
 ·exact h
 ·rename_i hb;split
  ·exact h
  ·rename_i hn;refine⟨h.ok.ins (by refine⟨?_,?_,?_,?_⟩<;>(simp only;omega)) (by simpa using hn),?_⟩;rw[NK];have:=h.sm;show ab 0+_<=_;unfold ab;omega
theorem Vv(L:List Tg)(f w:Int):Bv (jD L f w).2=Bv L:=by
 unfold jD;split
 ·rfl
 ·split
  ·rfl
  ·rw[NL];show(0:Int)+_=_;omega
theorem Fe{x t:Tg}:∀{L:List Tg},(L.map (·.f)).Pairwise (·<·)->t∈L->t.f=x.f->Bw (dU x L)=Bw L-ab t.s+ab x.s/\Bv (dU x L)=Bv L-t.s+x.s
 |[],_,h,_=>absurd h (by simp)
 |a::L,hp,h,hf=>by
  rw[iD,List.pairwise_cons]at hp;by_cases ha:a.f=x.f
  ·have hat:t=a:=by
    rcases jc.1 h with h|h
    ·exact h
    ·have:=hp.1 t.f (gW.2 ⟨t,h,rfl⟩);omega
   subst hat;have hL:dU x L=L:=by unfold dU;rw[List.map_congr_left (g:=id) fun u hu=>?_,List.map_id];rw[if_neg];rfl;intro e;have:=hp.1 u.f (gW.2 ⟨u,hu,rfl⟩);omega
   have:dU x (t::L)=x::L:=by show(if t.f=x.f then x else t)::dU x L=_;rw[if_pos ha,hL]
   rw[this,gX,gX,jP,jP];omega
  ·have hm:t∈L:=by
    rcases jc.1 h with h|h
    ·subst h;exact absurd hf ha
    ·exact h
   obtain⟨h1,h2⟩:=Fe hp.2 hm hf;have:dU x (a::L)=a::dU x L:=by show(if a.f=x.f then x else a)::dU x L=_;rw[if_neg ha]
   rw[this,gX,gX,jP,jP];omega
theorem Ed.Yf{L:List Tg}(h:Ed L):(L.map (·.f)).Pairwise (·<·):=jO.1 h.yD
theorem Ff{N:Nat}{L:List Tg}(h:qU N L)(c s n:Int):qU (N+1) (j4 L c s n).2/\Bv (j4 L c s n).2=Bv L:=by
 have h':=h.le (Nat.le_succ N);unfold j4;cases hc:cB L c with
 |none=>exact⟨h',rfl⟩
 |some a=>
  cases hs:cB L s with
  |none=>exact⟨h',rfl⟩
  |some b=>
   obtain⟨a1,a2⟩:=cK hc;obtain⟨b1,b2⟩:=cK hs;have ra:=h.ok.fZ a a1;have rb:=h.ok.fZ b b1;simp only;split
   ·exact⟨h',rfl⟩
   ·rename_i hn;split
    ·exact⟨h',rfl⟩
    ·rename_i hne;split
     ·exact⟨h',rfl⟩
     ·have hx:Ed (dU ⟨c,a.w,a.s+n⟩ L):=h.ok.set (by refine⟨?_,?_,?_,?_⟩<;>(simp only;omega));have hb2:b∈dU ⟨c,a.w,a.s+n⟩ L:=vJ b1 (by simp only;omega);obtain⟨x1,x2⟩:=Fe (x:=⟨c,a.w,a.s+n⟩) h.ok.Yf a1 a2;obtain⟨y1,y2⟩:=Fe (x:=⟨s,b.w,b.s-n⟩) hx.Yf hb2 b2;refine⟨⟨hx.set (by refine⟨?_,?_,?_,?_⟩<;>(simp only;omega)),?_⟩,?_⟩
      ·rw[y1,x1];have:=h.sm;simp only;unfold ab;omega
      ·rw[y2,x2];simp only;omega
theorem Bz{t:Tg}:∀{L:List Tg},(L.map (·.f)).Pairwise (·<·)->t∈L->Bw (j3 t.f L)=Bw L-ab t.s/\Bv (j3 t.f L)=Bv L-t.s
 |[],_,h=>absurd h (by simp)
 |a::L,hp,h=>by
  rw[iD,List.pairwise_cons]at hp;by_cases ha:a.f=t.f
  ·have hat:t=a:=by
    rcases jc.1 h with h|h
    ·exact h
    ·have:=hp.1 t.f (gW.2 ⟨t,h,rfl⟩);omega
   subst hat;have hL:j3 t.f L=L:=by unfold j3;rw[List.filter_eq_self];intro u hu;have:=hp.1 u.f (gW.2 ⟨u,hu,rfl⟩);simp;omega
   have:j3 t.f (t::L)=L:=by unfold j3 at hL⊢;rw[List.filter_cons_of_neg (by simp),hL]
   rw[this,gX,jP];omega
  ·have hm:t∈L:=by
    rcases jc.1 h with h|h
    ·subst h;exact absurd rfl ha
    ·exact h
   obtain⟨h1,h2⟩:=Bz hp.2 hm;have:j3 t.f (a::L)=a::j3 t.f L:=by unfold j3;rw[List.filter_cons_of_pos (by simpa using ha)]
   rw[this,gX,gX,jP,jP];omega
theorem Uf{L:List Tg}(h:Ed L):∀w∈wts L,1<=w:=by intro w hw;obtain⟨t,ht,rfl⟩:=gW.1 hw;exact(h.fZ t ht).2.2.1
theorem Vw{N:Nat}{L:List Tg}(h:qU N L)(f:Int):qU N (ou L f).2:=by
 unfold ou;cases hf:cB L f with
 |none=>exact h
 |some t=>obtain⟨h1,rfl⟩:=cK hf;simp only;refine⟨(h.ok.del _).agU (Ue _ _),?_⟩;have e1:=NJ (j3 t.f L) (bV t.s (wts (j3 t.f L)));have e2:=zK t.s (Uf (h.ok.del t.f));have e3:=(Bz h.ok.Yf h1).1;have:=h.sm;omega
section
open SP
section
variable{w w':aF}{R:aJ}
def part(p:Int×Int):dw:=[p.1,p.2]
theorem zV(p:Int×Int):(part p).length=2:=rfl
theorem Tryz.partT:bS prog 474 493 2 16:=bS.mk' (z:=.agg #[aC,aC]) underlying474 (by kernel_rfl) rfl (by decide)
theorem mY{l:bO}{a:aY}{n c:Nat}(o:Own w (slc 493 2 a n c (flat part l)::R)){i:Nat}{y:Int×Int}(hy:l[i]?=some y)(hn:0<n):
  ∃g,a=some ⟨g,0,none⟩/\w.cell? ⟨g,i*2,none⟩=some ↑y.1/\w.cell? ⟨g,i*2+1,none⟩=some ↑y.2:=by
 obtain⟨g,h,hc,hf,hg⟩:=o.aG hn;exact⟨g,h,by simpa using hc (i*2+0) _ (aB zV l i 0 y hy (by omega)),hc (i*2+1) _ (aB zV l i 1 y hy (by omega))⟩
theorem drop_cons{α:Type}{l:List α}{i:Nat}{x:α}(h:l[i]?=some x):l.drop i=x::l.drop (i+1):=by obtain⟨h1,h2⟩:=eU.1 h;rw[List.drop_eq_getElem_cons h1,h2]
def PartsAt(S:SP)(a:aY)(l:bO):Prop:=∀(w:aF)(R:aJ),Own w (S::R)->∀(i:Nat)(y:Int×Int),l[i]?=some y->
 ∃g so,a=some ⟨g,so,none⟩/\w.cell? ⟨g,so+i*2,none⟩=some ↑y.1/\w.cell? ⟨g,so+i*2+1,none⟩=some ↑y.2
theorem ry(a:aY)(n c:Nat)(l:bO)(hn:n=l.length):PartsAt (slc 493 2 a n c (flat part l)) a l:=by intro w R o i y hy;have:=(eU.1 hy).1;obtain⟨g,h1,h2,h3⟩:=mY o hy (by omega);exact⟨g,0,h1,by rw[Nat.zero_add];exact h2,by rw[Nat.zero_add];exact h3⟩
end
end
section
open SP
section
variable{α:Type}{f:α->aL}{w w':aF}{l:aJ}{b:Nat}{m:List (Int×α)}{P:Program}{t kt et:TypeId}
def oz(m:List (Int×α))(w:aF)(b:Nat)(k:Int)(born:Nat):Prop:=
 ∃es clock i e,w.heap[b]?=some (.map es clock)/\midx m k=some i/\es[i]?=some e/\e.born=born
theorem jQ(ht:P.underlying t=some (.map kt et))(hk:P.underlying kt=some (.int .i64))(o:Own w (bB f b m::l))(k:Int){u:α}(hu:a_ m k=some u):
  ∃(w':aF)(born:Nat),(Instr.mapEntry t (.map (some b)) (.int .i64 k)).run P w=.ok (.tuple #[f u,(born:Int)]) w'/\oz m w' b k born/\Own w' (bB f b m::l)/\Calm w w':=by
 obtain⟨es,clock,h1,h2,h3,o⟩:=Own.bB.1 o;have hb:=o.blk;have hm:=iZ m k;have hf:=fG (P:=P) hk h1 k w;rw[hu]at hm;obtain⟨i,uS⟩:∃i,midx m k=some i:=Option.isSome_iff_exists.1 (by simpa using hm);obtain⟨h4,e0,h5,h6⟩:=qh (f:=f) k u es.toList m i h1 uS;have h5':es[i]?=some e0:=by simpa using h5
 simp[uS,hu]at hf;have hsame:(es.modify i fun e=>{e with key:=.int .i64 k})=es:=by
  apply Array.ext';rw[Array.toList_modify];refine List.ext_getElem? fun j=>?_;rw[List.getElem?_modify];by_cases hj:i=j
  ·subst hj;rw[h5];obtain⟨ek,ev,eb⟩:=e0;simp only at h6;subst h6;simp
  ·simp only[if_neg hj];cases es.toList[j]?<;>rfl
 refine⟨{w with heap:=w.heap.setIfInBounds b (.map es clock)},e0.born,?_,⟨es,clock,i,e0,(o.lq (.map es clock)).blk,uS,h5',rfl⟩,Own.bB.2 ⟨es,clock,h1,h2,h3,o.lq _⟩,⟨rfl,rfl,rfl⟩⟩
 ·simp[Instr.mapEntry,run_underlying ht,getObj,setObj,Sem.run,hb,dH hk,hf,h5',h6,Instr.keyThatStays,Instr.sameBits,hsame,goInt]
theorem fM(o:Own w (bB f b m::l))(k:Int)(v:α){born:Nat}(hB:oz m w b k born):
  ∃w',(Instr.entryStore t (.map (some b)) (.int .i64 (born:Int)) (f v)).run P w=.ok () w'/\Own w' (bB f b (bA m k v)::l)/\Calm w w':=by
 obtain⟨es,clock,h1,h2,h3,o⟩:=Own.bB.1 o;have hb:=o.blk;obtain⟨es',clock',i,e,hb',uS,he,hborn⟩:=hB;rw[hb]at hb';simp only[Option.some.injEq,Obj.map.injEq]at hb';obtain⟨rfl,rfl⟩:=hb';obtain⟨h4,e0,h5,h6⟩:=qh (f:=f) k v es.toList m i h1 uS;have h5':es[i]?=some e0:=by simpa using h5
 rw[h5']at he;simp only[Option.some.injEq]at he;subst he;have hnd:(es.toList.map (·.born)).Nodup:=by rw[List.Nodup,List.pairwise_map];exact h2.imp fun h=>by omega
 have hfi:es.findIdx? (fun x=>((x.born:Nat):Int)==((e0.born:Nat):Int))=some i:=by rw[Go.WideElems.findIdx_arr];exact Go.WideElems.findIdx_born hnd h5
 have hsame:(es.modify i fun e=>{e with val:=f v})=es.modify i fun e=>{e with key:=.int .i64 k,val:=f v}:=by
  apply Array.ext';rw[Array.toList_modify,Array.toList_modify];refine List.ext_getElem? fun j=>?_;rw[List.getElem?_modify,List.getElem?_modify];by_cases hj:i=j
  ·subst hj;rw[h5];obtain⟨ek,ev,eb⟩:=e0;simp only at h6;subst h6;simp
  ·simp only[if_neg hj]
 refine⟨_,?_,Own.bB.2 ⟨es.modify i fun e=>{e with key:=.int .i64 k,val:=f v},clock,?_,?_,?_,o.lq _⟩,⟨rfl,rfl,rfl⟩⟩
 ·rw[<-hborn];simp[Instr.entryStore,getObj,setObj,Sem.run,hb,asInt,asIntOf,hfi,hsame]
 ·rw[Array.toList_modify];exact h4
 ·rw[Array.toList_modify];exact kJ (fun e=>{e with key:=.int .i64 k,val:=f v}) (fun _=>rfl) i h2
 ·rw[Array.toList_modify];exact kL (fun e=>{e with key:=.int .i64 k,val:=f v}) (fun _=>rfl) i h3
end
end
end Go.Proofs.YtfejhikpfhgbeaaGreatDoor
