import Derived.Lib.SplitLaws
import Derived.Lib.ReplaceLaws
import Derived.Lib.CutLaws
import Derived.Lib.Atoi
import Derived.Lib.SlTrimSet
import Derived.Test.YtfejhikpfhgbeaaGreatDoorMachineIdleA
set_option maxHeartbeats 25600000
set_option maxRecDepth 100000
set_option linter.all false
namespace Go.Proofs.YtfejhikpfhgbeaaGreatDoor
open Go.RowKit
section
open Go.Lib
def hd(b:UInt8):List (List UInt8)->List (List UInt8)
 |[]=>[[b]]
 |p::ps=>(b::p)::ps
def yc(c:UInt8):List UInt8->List (List UInt8)
 |[]=>[[]]
 |b::r=>if b=c then[]::yc c r else hd b (yc c r)
theorem Sr(c:UInt8):∀l,yc c l≠[]
 |[]=>by simp[yc]
 |b::r=>by
  unfold yc;split
  ·simp
  ·cases h:yc c r with
   |nil=>exact absurd h (Sr c r)
   |cons p ps=>simp[hd]
theorem index_self(c:UInt8)(l:List UInt8):index (c::l) [c]=((0:Nat):Int):=by rw[index];simp[List.isPrefixOf]
theorem DF{b c:UInt8}(h:b≠c)(l:List UInt8):index (b::l) [c]=if index l [c]==-1 then-1 else index l [c]+1:=by
 have hp:([c]:List UInt8).isPrefixOf (b::l)=false:=by simp[List.isPrefixOf,Ne.symm h]
 rw[index,hp];simp
theorem PG(c:UInt8)(l:List UInt8)(k:Nat):splitK [c] 0 (k+1) (c::l)=[]::splitK [c] 0 k l:=by
 conv=>lhs;unfold splitK
 rw[index_self];rfl
theorem ME{b c:UInt8}(h:b≠c)(l:List UInt8):∀k,splitK [c] 0 k (b::l)=hd b (splitK [c] 0 k l)
 |0=>rfl
 |k+1=>by
  by_cases hm:index l [c]=-1
  ·have h1:index (b::l) [c]=-1:=by rw[DF h,if_pos (beq_iff_eq.2 hm)]
   unfold splitK;rw[if_pos (beq_iff_eq.2 h1),if_pos (beq_iff_eq.2 hm)];rfl
  ·have hge:=index_ge l [c];obtain⟨j,hj⟩:∃j:Nat,index l [c]=j:=⟨(index l [c]).toNat,by omega⟩;have h1:index (b::l) [c]=((j+1:Nat):Int):=by rw[DF h,if_neg (fun e=>hm (beq_iff_eq.1 e)),hj];omega
   unfold splitK;rw[if_neg (fun e=>by have:=beq_iff_eq.1 e;omega),if_neg (fun e=>by have:=beq_iff_eq.1 e;omega),h1,hj];rfl
theorem yY(c:UInt8):∀l:List UInt8,splitK [c] 0 (l.count c) l=yc c l
 |[]=>rfl
 |b::l=>by
  by_cases hb:b=c
  ·subst hb;rw[List.count_cons_self,PG,yY b l];simp[yc]
  ·rw[List.count_cons_of_ne (by simpa using hb),ME hb,yY c l];simp[yc,hb]
theorem yZ(c:UInt8):∀l:List UInt8,(yc c l).length=l.count c+1
 |[]=>rfl
 |b::l=>by
  have ih:=yZ c l;by_cases hb:b=c
  ·subst hb;rw[List.count_cons_self];simp[yc,ih]
  ·rw[List.count_cons_of_ne (by simpa using hb)];unfold yc;rw[if_neg hb];cases h:yc c l with
   |nil=>exact absurd h (Sr c l)
   |cons p ps=>rw[h]at ih;simpa[hd]using ih
theorem Gy{p:UInt8->Bool}:∀{l:List UInt8}{b:UInt8}{r:List UInt8},l.dropWhile p=b::r->p b=false
 |[],_,_,h=>by simp at h
 |a::l,b,r,h=>by
  by_cases ha:p a=true
  ·rw[List.dropWhile_cons_of_pos ha]at h;exact Gy h
  ·rw[List.dropWhile_cons_of_neg ha,List.cons.injEq]at h;rw[<-h.1];simpa using ha
def pY(b:UInt8):Bool:=decide (48<=b.toNat/\b.toNat<=57)
theorem Zn{b:UInt8}:pY b=true↔48<=b.toNat/\b.toNat<=57:=by unfold pY;exact decide_eq_true_iff
theorem MF{b:UInt8}(h:pY b=true):digitVal b=some (b.toNat-48):=by unfold pY at h;unfold digitVal;rw[if_pos (of_decide_eq_true h)]
theorem MG{b:UInt8}(h:¬pY b=true):digitVal b=none:=by unfold pY at h;unfold digitVal;rw[if_neg (by simpa using h)]
def uK(acc:Nat):List UInt8->Nat
 |[]=>acc
 |b::r=>uK (acc*10+(b.toNat-48)) r
theorem DI:∀(l:List UInt8)(acc:Nat),decFrom acc l=if l.all pY then some (uK acc l)else none
 |[],acc=>rfl
 |b::r,acc=>by
  have ih:=DI r;cases hb:pY b with
  |true=>have hd:=MF hb;rw[List.all_cons,hb,Bool.true_and];show(match digitVal b with|some d=>decFrom (acc*10+d) r|none=>none)=_;rw[hd];exact ih _
  |false=>have hd:=MG (b:=b) (by rw[hb];decide);rw[List.all_cons,hb,Bool.false_and];show(match digitVal b with|some d=>decFrom (acc*10+d) r|none=>none)=_;rw[hd];rfl
def fH(most:Nat)(l:List UInt8):Bool:=decide (1<=l.length)&&decide (l.length<=most)&&!(decide (1<l.length)&&decide (l.head?=some 48))&&l.all pY
def nC(most:Nat)(l:List UInt8):Nat:=if fH most l then uK 0 l else 0
theorem Zo{l:List UInt8}(h:l.all pY=true)(hl:1<=l.length):atoi l=some (uK 0 l:Int):=by
 cases l with
 |nil=>simp at hl
 |cons b r=>
  have hb:pY b=true:=by rw[List.all_cons,Bool.and_eq_true]at h;exact h.1
  have hb':=Zn.1 hb;have h45:(b==45)=false:=beq_eq_false_iff_ne.2 fun e=>by subst e;exact absurd hb' (by decide)
  have h43:(b==43)=false:=beq_eq_false_iff_ne.2 fun e=>by subst e;exact absurd hb' (by decide)
  have e:atoi (b::r)=(decNat (b::r)).map fun(m:Nat)=>(m:Int):=by simp only[atoi,h45,h43,Bool.false_eq_true,if_false]
  rw[e];unfold decNat;rw[DI,if_pos h];rfl
def Su:List UInt8:=[48,49,50,51,52,53,54,55,56,57]
theorem Jc(b:UInt8):Su.contains b=pY b:=by
 have:∀n:Fin 256,Su.contains (UInt8.ofNat n.val)=pY (UInt8.ofNat n.val):=by decide+kernel
 have h:=this ⟨b.toNat,b.toNat_lt⟩;simpa using h
theorem dropWhile_nil{p:UInt8->Bool}:∀l:List UInt8,l.dropWhile p=[]↔l.all p=true
 |[]=>by simp
 |b::l=>by
  by_cases hb:p b=true
  ·rw[List.dropWhile_cons_of_pos hb,dropWhile_nil l];simp[hb]
  ·rw[List.dropWhile_cons_of_neg hb];simp[hb]
theorem Sv(l:List UInt8):trimS l Su=[]↔l.all pY=true:=by
 have hd:(fun x=>Su.contains x)=pY:=funext Jc;unfold trimS trimLeftS trimRightS;rw[hd];constructor
 ·intro h;rw[dropWhile_nil]at h;by_cases ha:l.all pY=true
  ·exact ha
  ·exfalso;have hne:l.reverse.dropWhile pY≠[]:=fun e=>ha (by rw[dropWhile_nil]at e;rwa [List.all_reverse]at e);cases hx:l.reverse.dropWhile pY with
   |nil=>exact hne hx
   |cons b r=>rw[hx,List.all_reverse]at h;have hb:pY b=false:=Gy hx;simp[hb]at h
 ·intro h;have:l.reverse.dropWhile pY=[]:=by rw[dropWhile_nil,List.all_reverse];exact h
  rw[this];rfl
end
def dx(l:qR):ByteArray:=⟨l.toArray⟩
theorem fI(l:qR):(dx l).size=l.length:=rfl
theorem iW(l:qR):(dx l).data.toList=l:=rfl
theorem Gz(s:ByteArray):s.toList.isEmpty=decide (s.data.toList=[]):=by rw[ByteArray.toList_eq];cases s.data.toList<;>rfl
theorem WA(s:ByteArray)(k:Nat)(h:k<s.size):s.data.toList[k]?=some (s[k]'h):=by have hl:s.data.toList.length=s.size:=(Lib.size_eq s).symm;rw[cZ (by omega)];simp;rfl
def viN:aL->Nat
 |.int _ n=>n.toNat
 |_=>0
theorem Zp(s:ByteArray)(l:qR):(s.toList==l)=decide (s.data.toList=l):=by rw[ByteArray.toList_eq,Bool.eq_iff_iff,beq_iff_eq,xM]
def strs(L:List (qR)):dw:=L.map fun x=>Value.string (dx x)
theorem PI(L:List (qR)):(strs L).length=L.length:=iP _
theorem ET(c:UInt8):∀(l:qR),∀p∈yc c l,p.length<=l.length
 |[],p,h=>by simp[yc]at h;simp[h]
 |b::r,p,h=>by
  have ih:=ET c r;unfold yc at h;split at h
  ·rcases jc.1 h with h|h
   ·subst h;simp
   ·have:=ih p h;rw[List.length_cons];omega
  ·cases hs:yc c r with
   |nil=>exact absurd hs (Sr c r)
   |cons q qs=>
    rw[hs]at h ih;rcases jc.1 h with h|h
    ·subst h;have:=ih q (by simp);simp only[List.length_cons];omega
    ·have:=ih p (by simp[h]);rw[List.length_cons];omega
theorem Zq{most:Nat}{l:qR}(h:fH most l=false):nC most l=0:=by unfold nC;rw[if_neg (by rw[h];decide)]
theorem PK{most:Nat}{l:qR}(h:l.length<1):fH most l=false:=by unfold fH;rw[bW (by omega)];rfl
theorem Sw{most:Nat}{l:qR}(h:most<l.length):fH most l=false:=by unfold fH;rw[bW (p:=l.length<=most) (by omega),Bool.and_false];rfl
theorem Sy{most:Nat}{l:qR}(h1:1<l.length)(h:l[0]?=some 48):fH most l=false:=by rw[<-List.head?_eq_getElem?]at h;unfold fH;rw[bz h1,bz h];simp
theorem WB{most:Nat}{l:qR}(h:l.all pY=false):fH most l=false:=by unfold fH;rw[h,Bool.and_false]
theorem Sz{most:Nat}{l:qR}(h1:1<=l.length)(h2:l.length<=most)(h3:¬(1<l.length/\l[0]?=some 48))(h:l.all pY=true):fH most l=true:=by
 rw[<-List.head?_eq_getElem?]at h3;unfold fH;rw[bz h1,bz h2,h];simp only[Bool.and_true,Bool.true_and,Bool.not_eq_true',Bool.and_eq_false_iff,decide_eq_false_iff_not];by_cases h4:1<l.length
 ·exact .inr fun e=>h3 ⟨h4,e⟩
 ·exact .inl h4
theorem WC(s:ByteArray):(Lib.splitB ⟨#[32]⟩ 0 (Lib.countB s ⟨#[32]⟩) s).map Value.string=strs (yc 32 s.data.toList):=by have h:=Lib.splitB_data ⟨#[32]⟩ 0 (Lib.countB s ⟨#[32]⟩) s;have hc:Lib.countB s ⟨#[32]⟩=s.data.toList.count 32:=Lib.count_one 32 s.data.toList;have hk:Lib.splitK [32] 0 (s.data.toList.count 32) s.data.toList=yc 32 s.data.toList:=yY 32 _;rw[hc]at h⊢;have h2:(Lib.splitB ⟨#[32]⟩ 0 (s.data.toList.count 32) s).map (·.data.toList)=yc 32 s.data.toList:=h.trans hk;rw[<-h2];unfold strs;rw[List.map_map];rfl
theorem Qc{a:Int}(ha:0<a){w0:Int}{W:bq}(hW:∀w∈w0::W,1<=w):∃x0 xs,bV a (w0::W)=x0::xs/\1<=x0:=by
 have hT:=zJ (W:=w0::W) (by simp) hW;have hw0:=hW w0 (by simp);obtain⟨h1,h2⟩:=tN a (bG (w0::W)) (by omega) hT W fun w hw=>by have:=hW w (by simp[hw]);omega
 have hp:0<=a*w0:=Int.mul_nonneg (by omega) (by omega);refine⟨_,_,rfl,?_⟩;show 1<=(a*w0).tdiv (bG (w0::W))+(a-((a*w0).tdiv (bG (w0::W))+bG (eF a (bG (w0::W)) W)));have h3:bG W=bG (w0::W)-w0:=by rw[aV];omega
 generalize bG (eF a (bG (w0::W)) W)=q at*;rw[h3]at h2;generalize bG (w0::W)=T at*;have h4:q*T<a*T:=by have:0<a*w0:=Int.mul_pos ha (by omega);rw[Int.mul_sub]at h2;omega
 have:=Int.lt_of_mul_lt_mul_right h4 (by omega);omega
def oh(cs gs:bq)(k:Nat):List Nat:=(List.range k).filter fun i=>decide (gs.getD i 0<cs.getD i 0)
theorem AX(cs gs:bq)(k:Nat):oh cs gs (k+1)=if gs.getD k 0<cs.getD k 0 then oh cs gs k++[k]else oh cs gs k:=by
 unfold oh;rw[List.range_succ,List.filter_append];split
 ·rename_i h;rw[List.filter_cons_of_pos (by simpa using h)];rfl
 ·rename_i h;rw[List.filter_cons_of_neg (by simpa using h)];simp
theorem xB{cs gs:bq}{k i:Nat}(h:i∈oh cs gs k):i<k/\gs.getD i 0<cs.getD i 0:=by unfold oh at h;rw[List.mem_filter,List.mem_range,xM]at h;exact h
theorem abv(cs gs:bq)(k:Nat):(oh cs gs k).length<=k:=by unfold oh;exact Nat.le_trans (List.length_filter_le _ _) (by rw[List.length_range];exact Nat.le_refl _)
theorem abw(cs gs:bq)(k:Nat):(oh cs gs k).Pairwise (·<·):=List.Pairwise.filter _ List.pairwise_lt_range
theorem abx{cs gs:bq}{k:Nat}(h:oh cs gs k=[]){i:Nat}(hi:i<k):¬gs.getD i 0<cs.getD i 0:=fun hlt=>by
 have:i∈oh cs gs k:=by unfold oh;rw[List.mem_filter,List.mem_range,xM];exact⟨hi,hlt⟩
 rw[h]at this;cases this
def om(cs:bq)(s:bq×Int)(p:Nat×Int):bq×Int:=
 (s.1.set p.1 (s.1.getD p.1 0+min p.2 (cs.getD p.1 0-s.1.getD p.1 0)),s.2-min p.2 (cs.getD p.1 0-s.1.getD p.1 0))
def G5(cs ws:bq)(s:bq×Int):bq×Int:=
 ((oh cs s.1 cs.length).zip (bV s.2 ((oh cs s.1 cs.length).map fun i=>ws.getD i 0))).foldl (om cs) s
def sZ(cs ws:bq):Nat->bq×Int->bq×Int
 |0,s=>s
 |n+1,s=>if s.2<=0 then s else if oh cs s.1 cs.length=[]then s else sZ cs ws n (G5 cs ws s)
def qL(a:Int)(ws cs:bq):bq×Int:=sZ cs ws a.toNat (List.replicate cs.length 0,a)
structure mE(cs:bq)(gs:bq):Prop where
 len:gs.length=cs.length
 fZ:∀i,0<=gs.getD i 0/\gs.getD i 0<=cs.getD i 0
theorem Ta(l:bq)(i j:Nat)(v:Int)(h:i<l.length):(l.set i v).getD j 0=if j=i then v else l.getD j 0:=by
 rw[Eb,List.getElem?_set];by_cases e:j=i
 ·subst e;rw[if_pos rfl,if_pos h,if_pos rfl];rfl
 ·rw[if_neg (fun x=>e x.symm),if_neg e,Eb]
theorem Qd:∀(l:bq)(i:Nat)(v:Int),i<l.length->bG (l.set i v)=bG l-l.getD i 0+v
 |[],i,v,h=>by simp at h
 |x::l,0,v,_=>by show bG (v::l)=_;rw[aV,aV];show _=x+bG l-x+v;omega
 |x::l,i+1,v,h=>by show bG (x::l.set i v)=_;rw[aV,aV,Qd l i v (by simpa using h)];show _=x+bG l-l.getD i 0+v;omega
theorem UQ{cs:bq}{s:bq×Int}{p:Nat×Int}(h:mE cs s.1)(hi:p.1<cs.length)(hx:0<=p.2):
  mE cs (om cs s p).1/\bG (om cs s p).1+(om cs s p).2=bG s.1+s.2/\(om cs s p).2<=s.2/\s.2-p.2<=(om cs s p).2:=by
 have hl:=h.len;have hr:=h.fZ p.1;have hm1:min p.2 (cs.getD p.1 0-s.1.getD p.1 0)<=p.2:=Int.min_le_left _ _;have hm2:min p.2 (cs.getD p.1 0-s.1.getD p.1 0)<=cs.getD p.1 0-s.1.getD p.1 0:=Int.min_le_right _ _;have Ny:0<=min p.2 (cs.getD p.1 0-s.1.getD p.1 0):=by rw[Int.le_min];omega
 unfold om;generalize min p.2 (cs.getD p.1 0-s.1.getD p.1 0)=n at*;dsimp only;refine⟨⟨by rw[List.length_set];exact hl,fun j=>?_⟩,?_,by omega,by omega⟩
 ·rw[Ta _ _ _ _ (by omega)];split
  ·rename_i e;subst e;omega
  ·exact h.fZ j
 ·rw[Qd _ _ _ (by omega)];omega
theorem MR{cs:bq}:∀(z:List (Nat×Int))(s:bq×Int),mE cs s.1->(∀p∈z,p.1<cs.length/\0<=p.2)->
  mE cs (z.foldl (om cs) s).1/\bG (z.foldl (om cs) s).1+(z.foldl (om cs) s).2=bG s.1+s.2/\(z.foldl (om cs) s).2<=s.2/\s.2-bG (z.map (·.2))<=(z.foldl (om cs) s).2
 |[],s,h,_=>⟨h,rfl,Int.le_refl _,by show s.2-0<=s.2;omega⟩
 |p::z,s,h,hz=>by obtain⟨h1,h2,h3,h4⟩:=UQ h (hz p (by simp)).1 (hz p (by simp)).2;obtain⟨k1,k2,k3,k4⟩:=MR z (om cs s p) h1 fun q hq=>hz q (by simp[hq]);rw[List.foldl_cons,iD,aV];exact⟨k1,by omega,by omega,by omega⟩
theorem G6:∀(I:List Nat)(X:bq),(∀x∈X,0<=x)->bG ((I.zip X).map (·.2))<=bG X
 |[],X,h=>by
  have:∀X:bq,(∀x∈X,0<=x)->0<=bG X:=fun X=>by
   induction X with
   |nil=>intro _;exact Int.le_refl _
   |cons x X ih=>intro h;rw[aV];have:=ih fun y hy=>h y (by simp[hy]);have:=h x (by simp);omega
  exact this X h
 |_::_,[],_=>Int.le_refl _
 |i::I,x::X,h=>by rw[List.zip_cons_cons,iD,aV,aV];have:=G6 I X fun y hy=>h y (by simp[hy]);show x+_<=_;omega
section
variable{cs ws:bq}{s:bq×Int}(h:mE cs s.1)(hw:∀i,i<cs.length->1<=ws.getD i 0)
include h hw
theorem UR(hs:0<s.2)(k:Nat):let X:=bV s.2 ((oh cs s.1 cs.length).map fun i=>ws.getD i 0)
  let S:=(((oh cs s.1 cs.length).zip X).take k).foldl (om cs) s
  mE cs S.1/\bG S.1+S.2=bG s.1+s.2/\S.2<=s.2/\0<=S.2:=by
 intro X S;have hX:∀x∈X,0<=x:=kM (by omega) fun w hw'=>by obtain⟨i,hi,rfl⟩:=gW.1 hw';exact hw i (xB hi).1
 have hz:∀p∈((oh cs s.1 cs.length).zip X).take k,p.1<cs.length/\0<=p.2:=fun p hp=>by have hp:=List.of_mem_zip (List.mem_of_mem_take hp);exact⟨(xB hp.1).1,hX _ hp.2⟩
 obtain⟨k1,k2,k3,k4⟩:=MR _ s h hz;refine⟨k1,k2,k3,?_⟩;have h1:∀(z:List (Nat×Int))(k:Nat),(∀p∈z,0<=p.2)->bG ((z.take k).map (·.2))<=bG (z.map (·.2)):=fun z=>by
  induction z with
  |nil=>intro k _;rw[List.take_nil];exact Int.le_refl _
  |cons p z ih=>
   intro k hp;cases k with
   |zero=>
    have:0<=bG (z.map (·.2)):=by have:=ih 0 fun q hq=>hp q (by simp[hq]);rw[List.take_zero]at this;exact this
    rw[List.take_zero,iD,aV];have:=hp p (by simp);show 0<=_;omega
   |succ k=>rw[xe,iD,iD,aV,aV];have:=ih k fun q hq=>hp q (by simp[hq]);omega
 have h2:=h1 ((oh cs s.1 cs.length).zip X) k fun p hp=>hX _ (List.of_mem_zip hp).2;have h3:=G6 (oh cs s.1 cs.length) X hX;have h4:bG X<=s.2:=by
  by_cases e:oh cs s.1 cs.length=[]
  ·have:X=[]:=by
    have:X.length=0:=by rw[tK,e];rfl
    exact CO this
   rw[this,Fb];omega
  ·rw[tL s.2 (by simpa using e)];exact Int.le_refl _
 have k5:s.2-bG ((((oh cs s.1 cs.length).zip X).take k).map (·.2))<=S.2:=k4;omega
theorem EW(hs:0<s.2)(hne:oh cs s.1 cs.length≠[]):
  mE cs (G5 cs ws s).1/\bG (G5 cs ws s).1+(G5 cs ws s).2=bG s.1+s.2/\(G5 cs ws s).2<s.2/\0<=(G5 cs ws s).2:=by
 have hk:=UR h hw hs (oh cs s.1 cs.length).length;dsimp only at hk;rw[List.take_of_length_le (by rw[List.length_zip];omega)]at hk;obtain⟨k1,k2,_,k4⟩:=hk;refine⟨k1,k2,?_,k4⟩;unfold G5;obtain⟨i0,I,hI⟩:=List.exists_cons_of_ne_nil hne;have hi0:=xB (show i0∈oh cs s.1 cs.length by rw[hI];simp);have hall:∀w∈(oh cs s.1 cs.length).map fun i=>ws.getD i 0,1<=w:=fun w hw'=>by obtain⟨i,hi,rfl⟩:=gW.1 hw';exact hw i (xB hi).1
 have hmem:∀i∈oh cs s.1 cs.length,i<cs.length:=fun i hi=>(xB hi).1;rw[hI]at hall hmem⊢;rw[iD]at hall⊢;obtain⟨x0,xs,hX,hx0⟩:=Qc hs hall;have hXn:=kM (a:=s.2) (by omega) hall;rw[hX]at hXn⊢;rw[List.zip_cons_cons,List.foldl_cons];obtain⟨q1,_,q3,_⟩:=UQ (p:=(i0,x0)) h hi0.1 (by show 0<=x0;omega);obtain⟨_,_,r3,_⟩:=MR (I.zip xs) (om cs s (i0,x0)) q1 fun p hp=>⟨hmem _ (by simp[(List.of_mem_zip hp).1]),hXn _ (by simp[(List.of_mem_zip hp).2])⟩;have:(om cs s (i0,x0)).2<s.2:=by
  unfold om;dsimp only;have:0<min x0 (cs.getD i0 0-s.1.getD i0 0):=by rw[Int.lt_min];omega
  omega
 omega
end
theorem Ku{cs ws:bq}(hw:∀i,i<cs.length->1<=ws.getD i 0):∀(n m:Nat)(s:bq×Int),mE cs s.1->0<=s.2->s.2<=n->s.2<=m->sZ cs ws n s=sZ cs ws m s
 |0,0,_,_,_,_,_=>rfl
 |0,m+1,s,_,h0,h1,_=>by unfold sZ;rw[if_pos (by simpa using h1)]
 |n+1,0,s,_,h0,_,h1=>by unfold sZ;rw[if_pos (by simpa using h1)]
 |n+1,m+1,s,h,h0,h1,h2=>by
  unfold sZ;by_cases a:s.2<=0
  ·rw[if_pos a,if_pos a]
  ·by_cases b:oh cs s.1 cs.length=[]
   ·rw[if_neg a,if_neg a,if_pos b,if_pos b]
   ·rw[if_neg a,if_neg a,if_neg b,if_neg b];obtain⟨k1,_,k3,k4⟩:=EW h hw (by omega) b;exact Ku hw n m _ k1 k4 (by omega) (by omega)
def Tc(cs ws:bq)(s:bq×Int):bq×Int:=sZ cs ws s.2.toNat s
theorem Td{cs ws:bq}{s:bq×Int}(h:mE cs s.1)(hw:∀i,i<cs.length->1<=ws.getD i 0)(hs:0<s.2)(hne:oh cs s.1 cs.length≠[]):Tc cs ws s=Tc cs ws (G5 cs ws s):=by
 obtain⟨k1,_,k3,k4⟩:=EW h hw hs hne;unfold Tc;obtain⟨n,hn⟩:∃n,s.2.toNat=n+1:=⟨s.2.toNat-1,by omega⟩;rw[hn];have e:sZ cs ws (n+1) s=sZ cs ws n (G5 cs ws s):=by show(if s.2<=0 then s else if oh cs s.1 cs.length=[]then s else sZ cs ws n (G5 cs ws s))=_;rw[if_neg (by omega),if_neg hne]
 rw[e];exact Ku hw _ _ _ k1 k4 (by omega) (by omega)
theorem Qe{cs ws:bq}{s:bq×Int}(h:s.2<=0\/oh cs s.1 cs.length=[]):Tc cs ws s=s:=by
 unfold Tc;cases hn:s.2.toNat with
 |zero=>rfl
 |succ n=>
  unfold sZ;by_cases a:s.2<=0
  ·rw[if_pos a]
  ·rw[if_neg a,if_pos (h.resolve_left a)]
theorem UT{cs ws:bq}(hw:∀i,i<cs.length->1<=ws.getD i 0):∀(n:Nat)(s:bq×Int),mE cs s.1->0<=s.2->s.2<=n->
  mE cs (sZ cs ws n s).1/\bG (sZ cs ws n s).1+(sZ cs ws n s).2=bG s.1+s.2/\0<=(sZ cs ws n s).2/\((sZ cs ws n s).2=0\/oh cs (sZ cs ws n s).1 cs.length=[])
 |0,s,h,h0,h1=>⟨h,rfl,h0,.inl (by show s.2=0;omega)⟩
 |n+1,s,h,h0,h1=>by
  unfold sZ;by_cases a:s.2<=0
  ·rw[if_pos a];exact⟨h,rfl,h0,.inl (by omega)⟩
  ·rw[if_neg a];by_cases b:oh cs s.1 cs.length=[]
   ·rw[if_pos b];exact⟨h,rfl,h0,.inr b⟩
   ·rw[if_neg b];obtain⟨k1,k2,k3,k4⟩:=EW h hw (by omega) b;obtain⟨r1,r2,r3,r4⟩:=UT hw n _ k1 k4 (by omega);exact⟨r1,by omega,r3,r4⟩
theorem Te(n i:Nat):(List.replicate n (0:Int)).getD i 0=0:=by rw[Eb,List.getElem?_replicate];split<;>rfl
theorem mE.zeros{cs:bq}(hc:∀i,0<=cs.getD i 0):mE cs (List.replicate cs.length 0):=
 ⟨List.length_replicate,fun i=>by rw[Te];exact⟨Int.le_refl _,hc i⟩⟩
theorem Qf:∀n:Nat,bG (List.replicate n (0:Int))=0
 |0=>rfl
 |n+1=>by rw[List.replicate_succ,aV,Qf n];rfl
theorem WS:∀{gs cs:bq},gs.length=cs.length->(∀i,i<cs.length->gs.getD i 0=cs.getD i 0)->gs=cs:=fun{gs cs}hl h=>by refine List.ext_getElem hl fun i h1 h2=>?_;have:=h i h2;rw[Eb,Eb,cZ h1,cZ h2]at this;exact this
theorem ZK{a:Int}{ws cs:bq}(ha:0<=a)(hw:∀i,i<cs.length->1<=ws.getD i 0)(hc:∀i,0<=cs.getD i 0):
  mE cs (qL a ws cs).1/\bG (qL a ws cs).1+(qL a ws cs).2=a/\0<=(qL a ws cs).2/\(a<=bG cs->(qL a ws cs).2=0):=by
 obtain⟨h1,h2,h3,h4⟩:=UT (cs:=cs) (ws:=ws) hw a.toNat (List.replicate cs.length 0,a) (mE.zeros hc) ha (by show a<=_;omega);unfold qL;dsimp only at h2;rw[Qf]at h2;generalize sZ cs ws a.toNat (List.replicate cs.length 0,a)=F at*;refine⟨h1,by omega,h3,fun hle=>?_⟩;rcases h4 with h4|h4
 ·exact h4
 ·have:F.1=cs:=WS h1.len fun i hi=>by have:=abx h4 hi;have:=(h1.fZ i).2;omega
  rw[this]at h2;omega
end Go.Proofs.YtfejhikpfhgbeaaGreatDoor
