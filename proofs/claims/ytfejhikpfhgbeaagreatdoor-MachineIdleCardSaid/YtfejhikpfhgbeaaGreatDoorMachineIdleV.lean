import Derived.Deep.RegionWith
import Derived.Test.YtfejhikpfhgbeaaGreatDoorMachineIdleE
import Derived.Test.YtfejhikpfhgbeaaGreatDoorMachineIdleL
import Derived.Test.YtfejhikpfhgbeaaGreatDoorMachineIdleM
import Derived.Test.YtfejhikpfhgbeaaGreatDoorMachineIdleO
import Derived.Test.YtfejhikpfhgbeaaGreatDoorMachineIdleQ
import Derived.Test.YtfejhikpfhgbeaaGreatDoorMachineIdleU
set_option maxHeartbeats 25600000
set_option maxRecDepth 100000
set_option linter.all false
namespace Go.Proofs.YtfejhikpfhgbeaaGreatDoor
open Go.Proofs.Tryz
open Go.RowKit
open SP
structure jW(i:Nat)(o:Ord):Prop where
 pts:lQ o.el
 uniq:bL o.tg
 val:∀f,0<=bK o.tg f/\bK o.tg f<=i*2952069120
 tm:0<=o.tm/\o.tm<=i*2952069120
 low:∀p∈o.el,o.tm<=bK o.tg p.1
 up:∀f,bK o.tg f<=o.tm+2952069120
theorem lQ.sub{l m:bO}(h:lQ l)(hm:m.Sublist l):lQ m:=
 ⟨h.yD.sublist hm,fun p hp=>h.fZ p (hm.subset hp),Nat.le_trans hm.length_le h.len⟩
theorem lQ.nil:lQ []:=⟨.nil,by simp,by simp⟩
theorem lQ.uniq{l:bO}(h:lQ l):bL l:=by unfold bL;show(l.map (·.1)).Pairwise (·≠·);rw[List.pairwise_map];exact h.yD.imp fun h=>by omega
theorem lQ.key{l:bO}(h:lQ l):uT l:=⟨h.uniq,fun x hx=>by have:=h.fZ x hx;omega⟩
theorem lQ.good{l:bO}(h:lQ l):gH (-1) l=false:=
 F7 l (-1) (by rw[List.pairwise_map];exact h.yD) fun p hp=>by have:=h.fZ p hp;omega
theorem jW.start:jW 0 ⟨[],[],0⟩:=⟨lQ.nil,by simp[bL],fun f=>by simp[bK,a_],by simp,by simp,fun f=>by simp[bK,a_]⟩
theorem jW.le{i j:Nat}{o:Ord}(h:jW i o)(hj:i<=j):jW j o:=by
 have hij:(i:Int)<=j:=by omega
 exact⟨h.pts,h.uniq,fun f=>by have:=h.val f;omega,by have:=h.tm;omega,h.low,h.up⟩
theorem jW.vals{i:Nat}{o:Ord}(h:jW i o):∀x∈o.tg,0<=x.2/\x.2<=i*2952069120:=fun x hx=>by rw[<-YS h.uniq hx];exact h.val x.1
theorem jW.ok{i:Nat}{o:Ord}(h:jW i o)(hi:i<=370):rD o:=by
 have hij:(i:Int)<=370:=by omega
 exact⟨h.pts.key,by have:=h.pts.len;omega,h.uniq,fun x hx=>by have:=h.vals x hx;omega,by have:=h.tm;omega⟩
theorem jW.afm{i:Nat}{o:Ord}(h:jW i o){l:bO}(hl:lQ l):jW i (nR o l):=by
 unfold nR;have ht:=h.tm;refine⟨by rw[vZ hl.uniq];exact hl,Dt o.el o.tm l o.tg h.uniq,fun f=>?_,h.tm,fun p hp=>?_,fun f=>?_⟩
 ·dsimp only;rw[um];have:=h.val f;split<;>omega
 ·dsimp only at hp⊢;rw[vZ hl.uniq]at hp;rw[um];split
  ·omega
  ·rename_i hn;cases he:a_ o.el p.1 with
   |none=>exact absurd ⟨gW.2 ⟨p,hp,rfl⟩,he⟩ hn
   |some v=>exact h.low (p.1,v) (jA he)
 ·dsimp only;rw[um];have:=h.up f;split<;>omega
theorem jW.Uz{i:Nat}{o:Ord}(_:jW i o){l:bO}(hl:lQ l):(nR o l).el=l:=by unfold nR;exact vZ hl.uniq
theorem jW.least{i:Nat}{o:Ord}(h:jW i o)(hl:0<=bJ o.el o.tg):bJ o.el o.tg∈o.el.map (·.1):=by
 rcases pW o.el o.tg (fun p hp=>(h.pts.fZ p hp).1)with⟨_,h2⟩|⟨h1,_⟩
 ·omega
 ·exact h1
theorem jW.B_{i:Nat}{o:Ord}(h:jW i o):bJ o.el o.tg<0↔o.el=[]:=by
 rcases pW o.el o.tg (fun p hp=>(h.pts.fZ p hp).1)with⟨h1,h2⟩|⟨h1,_⟩
 ·exact⟨fun _=>h1,fun _=>by omega⟩
 ·obtain⟨p,hp,he⟩:=gW.1 h1;have:=h.pts.fZ p hp;exact⟨fun _=>by omega,fun e=>by rw[e]at hp;cases hp⟩
theorem jW.afn{i:Nat}{o:Ord}(h:jW i o)(hi:i<=370)(aI:Int){f len:Int}(hf:f=bJ o.el o.tg)(hf0:0<=f)(h1:1<=len)(h2:len<=4096):
  ∃wt,a_ o.el f=some wt/\1<=wt/\wt<=16/\(nS aI o f len).1=0/\jW (i+1) (nS aI o f len).2/\(nS aI o f len).2.el=o.el/\
   (∀p∈o.el,bK o.tg f<=bK o.tg p.1)/\o.tm<=bK o.tg f/\
   ∃d_:Int,0<=d_/\d_<=bK o.tg f/\(d_=0/\bK o.tg f<aI\/d_=bK o.tg f)/\(nS aI o f len).2.tm=bK o.tg f-d_/\
    ∀g,bK (nS aI o f len).2.tg g=max ((if g=f then bK o.tg f+cst len wt else bK o.tg g)-d_) 0:=by
 have hij:(i:Int)<=370:=by omega
 have hp0:∀p∈o.el,0<=p.1:=fun p hp=>(h.pts.fZ p hp).1;rcases pW o.el o.tg hp0 with⟨_,he⟩|⟨hmem,hmin⟩
 ·omega
 rw[<-hf]at hmem hmin;obtain⟨wt,hwt⟩:=F8 hmem;have hin:=jA hwt;have hw:=h.pts.fZ _ hin;have hlow:=h.low _ hin;dsimp only at hw hlow;have hg:=h.val f;have ht:=h.tm;have hel:bK o.el f=wt:=by unfold bK;rw[hwt];rfl
 obtain⟨c1,c2⟩:=mW hw.2.2.1 hw.2.2.2 h1 h2;have hfin:pU o.el o.tg f len=(bK o.tg f+cst len wt,0):=by unfold pU mX;rw[hel,if_neg (by unfold lY;omega),if_neg (by omega)]
 have hE:xU o.el o.tg f len=0:=by unfold xU;rw[hwt,hfin];rfl
 have hTm:mZ o.tg o.tm f=bK o.tg f:=by unfold mZ;omega
 have hTg:∀g,bK (g_ o.el o.tg f len) g=if g=f then bK o.tg f+cst len wt else bK o.tg g:=fun g=>by unfold g_;rw[JX,hfin]
 have hlow':∀p∈o.el,bK o.tg f<=bK (g_ o.el o.tg f len) p.1:=fun p hp'=>by
  rw[hTg];split
  ·omega
  ·exact hmin p hp'
 have hBy:l6 o.el o.tg o.tm f len=bK o.tg f:=by
  unfold l6;rw[hTm];rcases pW o.el (g_ o.el o.tg f len) hp0 with⟨he,_⟩|⟨hm2,_⟩
  ·rw[he]at hin;cases hin
  ·obtain⟨q,hq,hqe⟩:=gW.1 hm2;have:=hlow' q hq;rw[hqe]at this;omega
 have hu1:bL (g_ o.el o.tg f len):=h.uniq.bA _ _;refine⟨wt,hwt,hw.2.2.1,hw.2.2.2,?_⟩;unfold nS;rw[if_neg (by rw[hE];simp),hBy,hTm];by_cases hb:bK o.tg f<aI
 ·rw[if_pos hb];refine⟨rfl,⟨h.pts,hu1,fun g=>?_,by show 0<=bK o.tg f/\bK o.tg f<=((i+1:Nat):Int)*2952069120;omega,hlow',fun g=>?_⟩,rfl,hmin,hlow,0,by omega,hg.1,.inl ⟨rfl,hb⟩,by show bK o.tg f=_;omega,fun g=>?_⟩
  ·have:=h.val g;dsimp only;rw[hTg];push_cast;split<;>omega
  ·have:=h.up g;dsimp only;rw[hTg];split<;>omega
  ·have:=h.val g;dsimp only;rw[hTg];split<;>omega
 ·rw[if_neg hb];refine⟨rfl,⟨h.pts,hu1.lower _,fun g=>?_,by show 0<=bK o.tg f-bK o.tg f/\bK o.tg f-bK o.tg f<=((i+1:Nat):Int)*2952069120;omega,fun p hp=>?_,fun g=>?_⟩,rfl,hmin,hlow,bK o.tg f,hg.1,by omega,.inr rfl,rfl,fun g=>?_⟩
  ·have:=h.val g;dsimp only;rw[uk _ hg.1,hTg];push_cast;split<;>omega
  ·have:=hlow' p hp;dsimp only;rw[uk _ hg.1];omega
  ·have:=h.up g;dsimp only;rw[uk _ hg.1,hTg];split<;>omega
  ·dsimp only;rw[uk _ hg.1,hTg]
theorem Du{α β:Type}:∀(l:List α)(m:List β),((l.zip m).map (·.2)).Sublist m
 |[],m=>by simp
 |_::_,[]=>by simp
 |_::l,b::m=>by simpa using Du l m
theorem xu(D:List Tg)(p:Head->Bool)(H:List Head):(Dm D p H).Sublist (bM D):=by unfold Dm;exact(List.filter_sublist.map _).trans (Du _ _)
theorem L9(D:List Tg):(bM D).map (·.1)=D.map (·.f):=by unfold bM;rw[List.map_map];rfl
structure fQ(i m N:Nat)(s:Cq):Prop where
 t:rT i s.R
 aw:0<=s.R.aw/\s.R.aw+s.R.tm<=m*2952069120
 pts:bM s.D=bM s.R.L
 lg:qU N s.D
 sum:Bv s.D=0
 c:jW i s.C
 x:jW i s.X
 nu:bL s.n
 nv:∀y∈s.n,0<=y.2.1/\y.2.1<=m*4096/\0<=y.2.2/\y.2.2<=m*4096
section
variable{i m N:Nat}{s:Cq}
theorem fQ.fl(h:fQ i m N s):s.D.map (·.f)=s.R.L.map (·.f):=by rw[<-L9,<-L9,h.pts]
theorem fQ.len(h:fQ i m N s):s.D.length=s.R.L.length:=by have:=congrArg List.length h.fl;simpa using this
theorem fQ.dpt(h:fQ i m N s):lQ (bM s.D):=OA h.lg.ok
theorem fQ.cnt(h:fQ i m N s)(f:Int):0<=(mJ s.n f).1/\(mJ s.n f).1<=m*4096/\0<=(mJ s.n f).2/\(mJ s.n f).2<=m*4096:=by
 unfold mJ;cases hm:a_ s.n f with
 |none=>show 0<=(0:Int)/\(0:Int)<=_/\0<=(0:Int)/\(0:Int)<=_;omega
 |some v=>exact h.nv _ (jA hm)
theorem Ca{L:List Tg}{k:Int}(h:k∈L.map (·.f)):∃t,cB L k=some t:=by
 cases hf:cB L k with
 |some t=>exact⟨t,rfl⟩
 |none=>obtain⟨t,ht,he⟩:=gW.1 h;exact absurd he (mU.1 hf t ht)
def cq0:Cq:=⟨⟨[],fun _=>0,0,0⟩,[],⟨[],[],0⟩,⟨[],[],0⟩,[]⟩
theorem fQ.start:fQ 0 0 0 cq0:=
 ⟨rT.start,by simp[cq0],rfl,qU.start,rfl,jW.start,jW.start,by simp[bL,cq0],by simp[cq0]⟩
theorem fQ.le{j k M:Nat}(h:fQ i m N s)(hj:i<=j)(hk:m<=k)(hM:N<=M):fQ j k M s:=by
 have hij:(i:Int)<=j:=by omega
 have hmk:(m:Int)<=k:=by omega
 have h2:=h.aw;refine⟨?_,by omega,h.pts,h.lg.le hM,h.sum,h.c.le hj,h.x.le hj,h.nu,fun y hy=>by have:=h.nv y hy;omega⟩;have h3:=h.t.tm;exact⟨h.t.ok,by omega,h.t.act,h.t.old⟩
structure acG(s:Cq):Prop where
 r:s.R.tm<=2952069120
 c:s.C.tm<=2952069120
 x:s.X.tm<=2952069120
end
theorem Gb{L:List Tg}{H:List Head}(h:jh L H=true):H.map (·.f)=L.map (·.f)/\∀x∈H,1<=x.len/\x.len<=4096:=by unfold jh at h;rw[Bt,xM,List.all_eq_true]at h;exact⟨h.1,fun x hx=>by simpa using h.2 x hx⟩
theorem RL{H:List Head}{f:Int}(h:f∈H.map (·.f)):bC H f∈H/\(bC H f).f=f:=by
 unfold bC;cases hf:H.find? (fun h=>h.f==f)with
 |none=>obtain⟨x,hx,he⟩:=gW.1 h;have:=List.find?_eq_none.1 hf x hx;simp[he]at this
 |some x=>exact⟨List.mem_of_find?_eq_some hf,by simpa using List.find?_some hf⟩
theorem Gc{L:List Tg}(h:L≠[]):dD L=((lu L).f,0)/\(lu L).f∈L.map (·.f):=by unfold dD;rw[if_neg h];exact⟨rfl,gW.2 ⟨_,nJ h,rfl⟩⟩
theorem L_{i m N:Nat}{s:Cq}(h:fQ i m N s)(hne:s.R.L≠[])(num den:Int){H:List Head}(_:H.map (·.f)=s.R.L.map (·.f)){C X:Ord}(hC:jW i C)(hX:jW i X)
  (hCe:C.el=Ab s.D H)(hXe:X.el=nT s.D H):
  l9 num den {s with C:=C,X:=X} H (!(nT s.D H).isEmpty)=gu\/
  ∃j why,l9 num den {s with C:=C,X:=X} H (!(nT s.D H).isEmpty)=⟨(lu s.R.L).f,j,why⟩/\j∈s.D.map (·.f)/\0<=j/\
   (why=1/\j=(lu s.R.L).f\/(why=2\/why=3)/\j=bJ C.el C.tg\/why=4/\j=bJ X.el X.tg)/\0<=(lu s.R.L).f:=by
 obtain⟨hs,hk⟩:=Gc hne;have hk0:0<=(lu s.R.L).f:=(h.t.ok.ok.fZ _ (nJ hne)).1;have hkD:(lu s.R.L).f∈s.D.map (·.f):=by rw[h.fl];exact hk
 have hsub:∀(p:Head->Bool)(j:Int),j∈(Dm s.D p H).map (·.1)->j∈s.D.map (·.f)/\0<=j:=fun p j hj=>by obtain⟨y,hy,rfl⟩:=gW.1 hj;have hy':=(xu s.D p H).subset hy;have:=h.dpt.fZ y hy';exact⟨by rw[<-L9];exact gW.2 ⟨y,hy',rfl⟩,this.1⟩
 unfold l9;dsimp only;rw[hs];dsimp only;split
 ·exact .inr ⟨_,_,rfl,hkD,hk0,.inl ⟨rfl,rfl⟩,hk0⟩
 ·split
  ·rename_i hl;have hm:=hC.least hl;have hm':=hm;rw[hCe]at hm';have:=hsub _ _ hm';rw[<-hCe]at this;refine .inr ⟨_,_,rfl,this.1,hl,.inr (.inl ⟨?_,rfl⟩),hk0⟩;split
   ·exact .inl rfl
   ·exact .inr rfl
  ·split
   ·exact .inr ⟨_,_,rfl,hkD,hk0,.inl ⟨rfl,rfl⟩,hk0⟩
   ·split
    ·rename_i hso;have hl:0<=bJ X.el X.tg:=by
      have:¬(bJ X.el X.tg<0):=fun hlt=>by have:=hX.B_.1 hlt;rw[hXe]at this;rw[this]at hso;simp at hso
      omega
     rw[if_pos hl];have hm:=hX.least hl;have hm':=hm;rw[hXe]at hm';have:=hsub _ _ hm';rw[<-hXe]at this;exact .inr ⟨_,_,rfl,this.1,hl,.inr (.inr ⟨rfl,rfl⟩),hk0⟩
    ·exact .inl rfl
theorem YW{L:List Tg}(h:Ed L)(c s n:Int):bM (j4 L c s n).2=bM L:=by
 have hs:∀{M:List Tg}{x a:Tg},Ed M->cB M x.f=some a->x.w=a.w->bM (dU x M)=bM M:=fun{M x a}hM hf hw=>by
  unfold bM dU;rw[List.map_map];refine List.map_congr_left fun t ht=>?_;show((if t.f=x.f then x else t).f,(if t.f=x.f then x else t).w)=(t.f,t.w);split
  ·rename_i e;have:=su hM ht;rw[e,hf]at this;cases this;rw[hw,e]
  ·rfl
 unfold j4;cases hc:cB L c with
 |none=>rfl
 |some a=>
  cases hd:cB L s with
  |none=>rfl
  |some d=>
   dsimp only;obtain⟨ma,rfl⟩:=cK hc;obtain⟨md,rfl⟩:=cK hd;split
   ·rfl
   ·split
    ·rfl
    ·split
     ·rfl
     ·rename_i hne _;dsimp only;have hr:=h.fZ a ma;have h1:Ed (dU ⟨a.f,a.w,a.s+n⟩ L):=h.set (x:=⟨a.f,a.w,a.s+n⟩) ⟨hr.1,hr.2.1,hr.2.2.1,hr.2.2.2⟩;have h2:cB (dU ⟨a.f,a.w,a.s+n⟩ L) d.f=some d:=by rw[<-su h1 (vJ md (x:=⟨a.f,a.w,a.s+n⟩) (Ne.symm hne))]
      rw[hs (x:=⟨d.f,d.w,d.s-n⟩) h1 h2 rfl,hs (x:=⟨a.f,a.w,a.s+n⟩) h hc rfl]
theorem RN{N:Nat}{L:List Tg}(h:qU N L)(hN:N<=1000000){c s n:Int}(hc:c∈L.map (·.f))(hs:s∈L.map (·.f))(h1:1<=n)(h2:n<=4096):(j4 L c s n).1=0:=by
 obtain⟨a,ha⟩:=Ca hc;obtain⟨d,hd⟩:=Ca hs;have b1:=h.lag (cK ha).1;have b2:=h.lag (cK hd).1;have hn:(N:Int)<=1000000:=by omega
 rw[yQ ha hd,if_neg (by omega)];split
 ·rfl
 ·rw[if_neg (by omega)]
def Gd(num den aI:Int)(s:Cq)(C X:Ord)(c:LM)(len:Int):Cq:=
 ⟨(bF aI s.R c.ch len).2,(j4 s.D c.ch c.sv len).2,(gI aI C X c len).2.1,(gI aI C X c len).2.2,yM (j4 s.D c.ch c.sv len).2 (if lD num den s c=true then FP s.n c len else s.n)⟩
theorem bL.afo{α:Type}{m:List (Int×α)}(h:bL m)(p:Int×α->Bool):bL (m.filter p):=by unfold bL at*;exact h.sublist (List.filter_sublist.map _)
theorem fQ.step{i m N:Nat}{s:Cq}(h:fQ i m N s)(hi:i<=299)(hN:N<=1000000)(num den aI:Int){H:List Head}(hf:jh s.R.L H=true)(hne:H≠[]){C X:Ord}{c:LM}
  (hC:nR s.C (Ab s.D H)=C)(hX:nR s.X (nT s.D H)=X)(hc:l9 num den {s with C:=C,X:=X} H (!(nT s.D H).isEmpty)=c):
  jW i C/\jW i X/\C.el=Ab s.D H/\X.el=nT s.D H/\
  (c=gu/\j_ num den aI s H=(gu,0,{s with C:=C,X:=X})/\fQ i m N {s with C:=C,X:=X}\/
   ∃j why len,c=⟨(lu s.R.L).f,j,why⟩/\0<=j/\(bC H j).len=len/\(∃x∈H,x.f=j)/\1<=len/\len<=4096/\(why=1/\j=(lu s.R.L).f\/(why=2\/why=3)/\j=bJ C.el C.tg\/why=4/\j=bJ X.el X.tg)/\j_ num den aI s H=(c,0,Gd num den aI s C X c len)/\
    (bF aI s.R (lu s.R.L).f len).1=0/\(gI aI C X c len).1=0/\(j4 s.D (lu s.R.L).f j len).1=0/\fQ (i+1) (m+1) (N+1) (Gd num den aI s C X c len)/\(aI<=2952069120->acG s->acG (Gd num den aI s C X c len))):=by
 obtain⟨f1,f2⟩:=Gb hf;have hL:s.R.L≠[]:=fun e=>by rw[e]at f1;simp at f1;exact hne f1
 have hl:∀p,lQ (Dm s.D p H):=fun p=>h.dpt.sub (xu _ _ _);have oC:jW i C:=hC▸h.c.afm (hl _);have oX:jW i X:=hX▸h.x.afm (hl _);have eC:C.el=Ab s.D H:=hC▸h.c.Uz (hl _);have eX:X.el=nT s.D H:=hX▸h.x.Uz (hl _);refine⟨oC,oX,eC,eX,?_⟩;have hch:=L_ h hL num den f1 oC oX eC eX;rw[hc]at hch;have hst:j_ num den aI s H=if c=gu then(c,0,{s with C:=C,X:=X})else
   if(bF aI s.R c.ch (bC H c.sv).len).1≠0 then(XV,(bF aI s.R c.ch (bC H c.sv).len).1,s)else
   if(gI aI C X c (bC H c.sv).len).1≠0 then(XV,(gI aI C X c (bC H c.sv).len).1,s)else
   if(j4 s.D c.ch c.sv (bC H c.sv).len).1≠0 then(XV,(j4 s.D c.ch c.sv (bC H c.sv).len).1,s)else(c,0,Gd num den aI s C X c (bC H c.sv).len):=by
  unfold j_;rw[if_neg (by rw[hf];simp),if_neg hne];dsimp only;rw[hC,hX,hc];rfl
 rcases hch with he|⟨j,why,he,hj,hj0,hw,hk0⟩
 ·left;rw[he,if_pos rfl]at hst;exact⟨he,hst,⟨h.t,h.aw,h.pts,h.lg,h.sum,oC,oX,h.nu,h.nv⟩⟩
 ·right;have hjH:j∈H.map (·.f):=by rw[f1,<-h.fl];exact hj
  obtain⟨m1,m2⟩:=RL hjH;have hlen:=f2 _ m1;refine⟨j,why,(bC H j).len,he,hj0,rfl,⟨_,m1,m2⟩,hlen.1,hlen.2,hw,?_⟩;obtain⟨len,hle⟩:=aP ((bC H j).len);rw[hle]at hlen⊢;have hkD:(lu s.R.L).f∈s.D.map (·.f):=by rw[h.fl];exact gW.2 ⟨_,nJ hL,rfl⟩
  obtain⟨q1,q2⟩:=h.t.Rh (by omega) hL hlen.1 hlen.2 aI;have q0:(bF aI s.R (lu s.R.L).f len).1=0:=by rw[q1]
  have qn:=RN h.lg hN hkD hj hlen.1 hlen.2;have qs:(gI aI C X c len).1=0/\jW (i+1) (gI aI C X c len).2.1/\jW (i+1) (gI aI C X c len).2.2/\
    (aI<=2952069120->C.tm<=2952069120->X.tm<=2952069120->(gI aI C X c len).2.1.tm<=2952069120/\(gI aI C X c len).2.2.tm<=2952069120):=by
   rw[he];unfold gI;dsimp only;rcases hw with⟨hw,_⟩|⟨hw,hm⟩|⟨hw,hm⟩
   ·rw[if_neg (by omega),if_neg (by omega)];exact⟨rfl,oC.le (Nat.le_succ i),oX.le (Nat.le_succ i),fun _ h1 h2=>⟨h1,h2⟩⟩
   ·rw[if_pos hw];obtain⟨wt,_,_,_,e0,e1,_,_,_,d_,b0,b1,b2,e2,_⟩:=oC.afn (by omega) aI hm hj0 hlen.1 hlen.2;exact⟨e0,e1,oX.le (Nat.le_succ i),fun h1 h2 h3=>⟨by rw[e2];omega,h3⟩⟩
   ·rw[if_neg (by omega),if_pos hw];obtain⟨wt,_,_,_,e0,e1,_,_,_,d_,b0,b1,b2,e2,_⟩:=oX.afn (by omega) aI hm hj0 hlen.1 hlen.2;exact⟨e0,oC.le (Nat.le_succ i),e1,fun h1 h2 h3=>⟨h2,by rw[e2];omega⟩⟩
  have ag7:c≠gu:=by rw[he];intro e;have:=congrArg LM.sv e;change j=-1 at this;omega
  have hsv:c.sv=j:=by rw[he]
  have hcc:c.ch=(lu s.R.L).f:=by rw[he]
  refine⟨?_,q0,qs.1,qn,?_,?_⟩
  ·have hlen':(bC H c.sv).len=len:=by rw[hsv];exact hle
   rw[hst,if_neg ag7,hlen',hcc,hsv,if_neg (by rw[q0];simp),if_neg (by rw[qs.1];simp),if_neg (by rw[qn];simp)]
  ·unfold Gd;rw[hcc,hsv];have hnv:∀y∈s.n,0<=y.2.1/\y.2.1<=((m+1:Nat):Int)*4096/\0<=y.2.2/\y.2.2<=((m+1:Nat):Int)*4096:=fun y hy=>by have:=h.nv y hy;push_cast;omega
   refine⟨by rw[q1];exact q2,?_,?_,(Ff h.lg _ _ _).1,(Ff h.lg _ _ _).2.trans h.sum,qs.2.1,qs.2.2.1,?_,?_⟩
   ·rw[q1];obtain⟨_,hT,hmx⟩:=h.t.ch (by omega) hL hlen.1 hlen.2;have haw:=h.aw;have hr:=h.t.ok.ok.fZ _ (nJ hL);have hact:=h.t.act _ (nJ hL);have hbr:=EJ hT.ok (zU hL);unfold vU;split
    ·show 0<=s.R.aw/\s.R.aw+max s.R.tm (lu s.R.L).s<=_;push_cast;omega
    ·show 0<=s.R.aw+Nu _/\s.R.aw+Nu _+(max s.R.tm (lu s.R.L).s-Nu _)<=_;push_cast;omega
   ·dsimp only;rw[YW h.lg.ok,h.pts,q1];dsimp only;have e1:bM (EI s.R (lu s.R.L) ((lu s.R.L).s+cst len (lu s.R.L).w)).L=bM s.R.L:=by
     unfold EI dU bM;dsimp only;rw[List.map_map];refine List.map_congr_left fun t ht=>?_;show((if t.f=(lu s.R.L).f then(⟨(lu s.R.L).f,(lu s.R.L).w,(lu s.R.L).s+cst len (lu s.R.L).w⟩:Tg)else t).f,(if t.f=(lu s.R.L).f then(⟨(lu s.R.L).f,(lu s.R.L).w,(lu s.R.L).s+cst len (lu s.R.L).w⟩:Tg)else t).w)=(t.f,t.w);split
     ·rename_i e;rw[h.t.ok.ok.inj ht (nJ hL) e]
     ·rfl
    rw[<-e1];unfold vU;split
    ·rfl
    ·unfold BL bM;dsimp only;rw[List.map_map];rfl
   ·dsimp only;unfold yM;split
    ·exact(h.nu.bA _ _).afo _
    ·exact h.nu.afo _
   ·dsimp only;unfold yM;intro y hy;have hy:=(List.mem_filter.1 hy).1;split at hy
    ·unfold FP at hy;rcases OC hy with hy|rfl
     ·exact hnv y hy
     ·have:=h.cnt c.ch;dsimp only;push_cast;split<;>omega
    ·exact hnv y hy
  ·intro hr hl;have e3:C.tm=s.C.tm:=by rw[<-hC];rfl
   have e4:X.tm=s.X.tm:=by rw[<-hX];rfl
   have:=qs.2.2.2 hr (by rw[e3];exact hl.c) (by rw[e4];exact hl.x);unfold Gd;refine⟨?_,this.1,this.2⟩;dsimp only;rw[hcc,q1];dsimp only;obtain⟨_,hT,hmx⟩:=h.t.ch (by omega) hL hlen.1 hlen.2;have hby:=hT.d_ (zU hL);unfold vU;rw[hby];split
   ·omega
   ·unfold BL;dsimp only;omega
section
variable{w w':aF}{R:aJ}{b rp lp cp xp nb N:Nat}{num den aI:Int}{S:St}{Sp:SP}
theorem aM{x:Addr}{v:aL}(h:Calm w w'):Calm w (w'.setCell x v):=⟨h.os,h.tape,h.output⟩
theorem dB{x:Obj}(h:Calm w w'):Calm w (w'.alloc x):=⟨h.os,h.tape,h.output⟩
theorem lF(h:Calm w w'):Calm w w'.drew:=⟨h.os,h.tape,h.output⟩
def vg(b:Nat)(num den aI:Int)(N:Nat)(s:Cq):SP:=ex fun(p:(Nat×Nat×Nat)×(Nat×Nat))=>st [zF b num den p.1.1 p.1.2.1 p.1.2.2 p.2.1 p.2.2,bU p.1.1 aI s.R,fD p.1.2.1 N s.D,bB pV p.2.2 s.n,ku p.1.2.2 aI s.C,ku p.2.1 aI s.X]
theorem vg.iff{s:Cq}:Own w (vg b num den aI N s::R)↔∃rp lp cp xp nb,Own w (zF b num den rp lp cp xp nb::bU rp aI s.R::fD lp N s.D::bB pV nb s.n::ku cp aI s.C::ku xp aI s.X::R):=by
 constructor
 ·intro o;obtain⟨⟨⟨rp,lp,cp⟩,xp,nb⟩,h⟩:=Own.ex.1 o;exact⟨rp,lp,cp,xp,nb,Own.st.1 h⟩
 ·rintro⟨rp,lp,cp,xp,nb,h⟩;exact Own.ex.2 ⟨((rp,lp,cp),(xp,nb)),Own.st.2 h⟩
theorem Gf{fn:Func}(h:fn.results=#[.cell 4 297,.tmp 5]){tmps:Array aL}{p:Nat}{x y z:Int}{e:Int}(hp:tmps.getD 4 undef=.pointer (some ⟨p,0,none⟩))(he:tmps.getD 5 undef=↑e)
  (o:Own w (aH p 297 [x,y,z]::R)):(results fn tmps).run prog w=.ok (.tuple #[nQ ⟨x,y,z⟩,e]) w:=by
 obtain⟨-,-,c0,c1,c2,-⟩:=o.cs;rw[results_cell_tmp h,hp,he];unfold nQ;go_simp
end
section
variable{w w':aF}{R:aJ}{b rp lp cp xp nb N:Nat}{num den aI:Int}{s:Cq}{Sp:SP}
def OW(b:Nat)(aI:Int)(o:Ord)(R:aJ)(w:aF)(e:Ending)(w':aF):Prop:=
 ∃p,aR (.pointer (some ⟨p,0,none⟩)) (ku p aI o::ku b aI o::R) w e w'
theorem Ak{C:Ord}(o:Own w (ku b aI C::R)):Calls prog 358 #[b] w (OW b aI C R w):=IV o
theorem Al{C:Ord}{a:aY}{n c:Nat}{l:bO}(hn:n=l.length)(hl:lQ l)(o:Own w (slc 493 2 a n c (flat part l)::ku b aI C::R)):
  Calls prog 360 #[b,.slice a n c] w (aR (.int .i64 0) (slc 493 2 a n c (flat part l)::ku b aI (nR C l)::R) w):=
 OM a n c l hn (by have:=hl.len;omega) hl.good o
theorem RO{S:St}{C X:Ord}{k j why len:Int}(h1:(bF aI S k len).1=0)(h2:(gI aI C X ⟨k,j,why⟩ len).1=0)(haw:0<=S.aw/\S.aw<=1152921504606846976)(hC:rD C)(hX:rD X)
  (o:Own w (zF b num den rp lp cp xp nb::bU rp aI S::ku cp aI C::ku xp aI X::R)):
  Calls prog 363 #[b,.agg #[k,j,why],len] w
   (aR (.int .i64 0) (zF b num den rp lp cp xp nb::bU rp aI (bF aI S k len).2::ku cp aI (gI aI C X ⟨k,j,why⟩ len).2.1::ku xp aI (gI aI C X ⟨k,j,why⟩ len).2.2::R) w):=by
 refine(LY ⟨k,j,why⟩ len haw hC hX o).mono fun e w' h=>?_;unfold yP at h;dsimp only at h;rw[if_neg (by rw[h1];simp),h2]at h;exact h
def YX(z:Bool)(n:List (Int×(Int×Int)))(c:LM)(len:Int):List (Int×(Int×Int)):=if z=true then FP n c len else n
theorem aba{i m:Nat}{nu de:Nat}(hI:fQ i m N s)(hi:i<=299)(hm:m<=200000)(hN:N<=1000000)(hnu:nu<4194304)(hde:de<4194304)
  {a:aY}{n c:Nat}{H:List Head}(h1:eH Sp a H)(hn:n=H.length)(hl:n<=32)(hf:jh s.R.L H=true)(hne:H≠[])
  (o:Own w (zF b (nu:Int) (de:Int) rp lp cp xp nb::bU rp aI s.R::fD lp N s.D::bB pV nb s.n::ku cp aI s.C::ku xp aI s.X::Sp::R)):
  Calls prog 347 #[b,.slice a n c] w
   (aR (.tuple #[nQ (j_ (nu:Int) (de:Int) aI s H).1,.int .i64 (j_ (nu:Int) (de:Int) aI s H).2.1]) (vg b (nu:Int) (de:Int) aI (N+1) (j_ (nu:Int) (de:Int) aI s H).2.2::Sp::R) w):=by
 have hn0:¬n=0:=fun h=>hne (CO (by omega));have oA:=(o.alloc (.cells #[aC,aC,aC] 297)).alloc (.cells #[(-1:Int),(-1:Int),(6:Int)] 297);simp only[World.size_alloc]at oA;have hc:=VW (c:=c) h1 hn (by omega) (oA.re [2,3,8,0,1,4,5,6,7]);rw[hf]at hc;have Hn:=az hn;have afp:=az (Gb hf);have HlD:s.D.length=n:=by rw[hI.len,Hn.out,<-iP (f:=fun x=>x.f),<-afp.out.1,iP]
 have hL:s.R.L≠[]:=fun e=>hn0 (by rw[<-HlD,hI.len,e];rfl);have hk:∃h∈H,h.f=(dD s.R.L).1:=by have h2:=(Gc hL).2;rw[(Gc hL).1];rw[<-afp.out.1]at h2;obtain⟨x,hx,e⟩:=gW.1 h2;exact⟨x,hx,e⟩
 have hcn:=hI.cnt (dD s.R.L).1;obtain⟨cr,hcr⟩:=Int.eq_ofNat_of_zero_le hcn.1;obtain⟨cl,hcl⟩:=Int.eq_ofNat_of_zero_le hcn.2.2.1;have hcc:mJ s.n (dD s.R.L).1=((cr:Int),(cl:Int)):=by rw[<-hcr,<-hcl]
 have afq:cr<1099511627776:=by omega
 have hcl':cl<1099511627776:=by omega
 have hso:(!(nT s.D H).isEmpty)=decide (0<(nT s.D H).length):=by cases nT s.D H<;>rfl
 obtain⟨C,hC⟩:=aP (nR s.C (Ab s.D H));obtain⟨X,hX⟩:=aP (nR s.X (nT s.D H));obtain⟨cc,hch⟩:=aP (l9 (nu:Int) (de:Int) {s with C:=C,X:=X} H (!(nT s.D H).isEmpty));obtain⟨oC,oX,eC,eX,hstep⟩:=hI.step hi hN (nu:Int) (de:Int) aI hf hne hC hX hch;rw[hso]at hch;have adL:=fun(w:aF)(b rp cp xp:Nat)(R:aJ)o=>choose_spec (w:=w) (b:=b) (rp:=rp) (cp:=cp) (xp:=xp) (R:=R) (lp:=lp) (nb:=nb) (N:=N) (aI:=aI) (Sp:=Sp) (c:=c) (so:=decide (0<(nT s.D H).length)) (s:={s with C:=C,X:=X}) hnu hde afq hcl' hcc h1 hn hl hk (oC.ok (by omega)) (oX.ok (by omega)) o;rw[hch]at adL;have HC:=az hC;have HX:=az hX;clear hk;obtain⟨k,hk⟩:=aP ((lu s.R.L).f);rw[hk]at hstep;have HS:=az hstep;have HO:=az (And.intro (oC.ok (by omega)) (oX.ok (by omega)));clear hk;have adM:=az adL;clear hcn hcr hcl hcc afq hcl' hso hC hX hch oC oX eC eX hstep adL;have hl:n<=32:=hl;clear hn;go_enter func347,ntmps347;go_wp2_with fail;refine hc.mono ?_;rintro e1 w1⟨rfl,o1,k1⟩;clear hc;obtain⟨-,cl,c0,c1,c2,c3,c4,c5,c6,-⟩:=o1.cs;have oB:=o1.alloc (.cells #[(nu:Int),(de:Int),rp,lp,cp,xp,.map (some nb)] 154);go_wp2;have oBd:=oB.drew.re [2,0,1,3,4,5,6,7,8,9];obtain⟨-,-,-,-,c2',-,c4',c5',-⟩:=(oB.up 1).cs
 go_region_held3(fun w'=>w'.cell? ⟨b,2,none⟩=some (.pointer (some ⟨rp,0,none⟩))/\w'.cell? ⟨b,4,none⟩=some (.pointer (some ⟨cp,0,none⟩))/\w'.cell? ⟨b,5,none⟩=some (.pointer (some ⟨xp,0,none⟩))) (go_keep) (first
  |(go_at_call 357;(with_reducible refine(IW oBd).mono ?_);rintro e2 w2⟨rq,rfl,o2,k2⟩;have x2:=(o2.up 3).cell 2;have x4:=(o2.up 3).cell 4;have x5:=(o2.up 3).cell 5;have o2b:=o2.re [9])
  |(go_at_call 358;(with_reducible refine(Ak o2b).mono ?_);rintro e3 w3⟨cq,rfl,o3,k3⟩;have y2:=(o3.up 5).cell 2;have y4:=(o3.up 5).cell 4;have y5:=(o3.up 5).cell 5;have o3b:=o3.re [11])
  |(go_at_call 358;(with_reducible refine(Ak o3b).mono ?_);rintro e4 w4⟨xq,rfl,o4,k4⟩;have z2:=(o4.up 7).cell 2;have z4:=(o4.up 7).cell 4;have z5:=(o4.up 7).cell 5;have t2:=(o4.up 6).cell 2;have tf:=(o4.up 6).frozen;have tl:=(o4.up 6).aS;have oS:=(o4.up 6).setCell 2 (.pointer (some ⟨rq,0,none⟩));have s2:=(oS.up 7).cell 2;have s4:=(oS.up 7).cell 4;have s5:=(oS.up 7).cell 5;have t4:=oS.cell 4;have sf:=oS.frozen;have sl:=oS.aS;have Nw:=oS.setCell 4 (.pointer (some ⟨cq,0,none⟩));have u2:=(Nw.up 7).cell 2;have u4:=(Nw.up 7).cell 4;have u5:=(Nw.up 7).cell 5;have t5:=Nw.cell 5;have uf:=Nw.frozen;have ul:=Nw.aS;have oS3:=Nw.setCell 5 (.pointer (some ⟨xq,0,none⟩));have v2:=(oS3.up 7).cell 2;have v4:=(oS3.up 7).cell 4;have v5:=(oS3.up 7).cell 5))
 have oT:Own _ (zF w1.heap.size (nu:Int) (de:Int) rq lp cq xq nb::_):=oS3.re [2,4,6] 3;have KK:Calm w w4:=Calm.trans ⟨k1.os,k1.tape,k1.output⟩ (Calm.trans ⟨k2.os,k2.tape,k2.output⟩ (Calm.trans k3 k4));generalize w1.heap.size=tb at*;clear c0 c1 c2 c3 c4 c5 c6 cl oB oBd c2' c4' c5' x2 x4 x5 o2 o2b o3 y2 y4 y5 o3b z2 z4 z5 t2 tf tl s2 s4 s5 t4 sf sl oS Nw u2 u4 u5 t5 uf ul o1 oA o o4 v2 v4 v5;have oU:=oT.re [4,8,5];go_wp2_with fail;refine(LW (c:=c) h1 Hn.out HlD hl oU).mono ?_;rintro e5 w5⟨a1,a2,q1,q2,rfl,o5,k5⟩;have K5:Calm w w5:=KK.trans ⟨k5.os,k5.tape,k5.output⟩;clear KK k5 k1 k2 k3 k4;have hpL:lQ (Ab s.D H):=hI.dpt.sub (xu _ _ _);have hpA:lQ (nT s.D H):=hI.dpt.sub (xu _ _ _);have HpL:=az hpL;have HpA:=az hpA;clear hpL hpA;obtain⟨-,xl,-,-,-,-,x4,-⟩:=(o5.up 5).cs;have hcall:=Al (b:=cq) (aI:=aI) (C:=s.C) (c:=q2) rfl HpL.out (o5.re [1,7,0,2,3,4,5,6]);go_wp2_with fail;refine hcall.mono ?_;rintro e6 w6⟨rfl,o6,k6⟩;clear hcall x4 xl o5;obtain⟨-,yl,-,-,-,-,-,y5,-⟩:=(o6.up 6).cs;have hcall:=Al (b:=xq) (aI:=aI) (C:=s.X) (c:=q1) rfl HpA.out (o6.re [2,7,0,1,3,4,5,6]);go_wp2_with fail;refine hcall.mono ?_;rintro e7 w7⟨rfl,o7,k7⟩;clear hcall y5 yl o6;rw[HC.out,HX.out]at o7;have hcall:=adM.out _ _ _ _ _ _ (o7.re [7,8,5,11,3,1,6,4,9,10,0,2]);go_wp2_with fail;refine hcall.mono ?_;rintro e8 w8⟨rfl,o8,k8⟩;have K8:Calm w w8:=K5.trans (k6.trans (k7.trans k8));clear hcall o7 K5 k6 k7 k8;rcases HS.out with⟨rfl,hst,_⟩|⟨j,why,len,rfl,hj0,hlen,hjH,l1,l2,afr,hst,q1,q2,q3,hI'⟩
 ·have HST:=az hst;clear hst HS adM;have oK:=o8.alloc (.cells #[(-1:Int),(-1:Int),(6:Int)] 297);have t0:=oK.cell (T:=297) (vs:=[(-1:Int),(-1:Int),(6:Int)]) 0;have t1:=oK.cell (T:=297) (vs:=[(-1:Int),(-1:Int),(6:Int)]) 1;have t2:=oK.cell (T:=297) (vs:=[(-1:Int),(-1:Int),(6:Int)]) 2;obtain⟨-,-,i0,i1,i2,-⟩:=Own.cs (T:=297) (vs:=[(-1:Int),(-1:Int),(6:Int)]) (oK.up 9);obtain⟨-,-,n0,n1,n2,n3,n4,n5,n6,-⟩:=(oK.up 1).cs;obtain⟨bf,bl,b0,b1,b2,b3,b4,b5,b6,-⟩:=(oK.up 8).cs;have UA:=(oK.up 8).setCell 0 (nu:Int);have oM1:=UA.setCell 1 (de:Int);have oM2:=oM1.setCell 2 (.pointer (some ⟨rq,0,none⟩));have oM3:=oM2.setCell 3 (.pointer (some ⟨lp,0,none⟩));have oM4:=oM3.setCell 4 (.pointer (some ⟨cq,0,none⟩));have oM5:=oM4.setCell 5 (.pointer (some ⟨xq,0,none⟩));have oM6:=oM5.setCell 6 (.map (some nb));have oM:Own _ (zF b (nu:Int) (de:Int) rq lp cq xq nb::_):=oM6;clear UA oM1 oM2 oM3 oM4 oM5 oM6;obtain⟨-,-,u0,u1,u2,-⟩:=Own.cs (T:=297) (vs:=[(-1:Int),(-1:Int),(6:Int)]) (oM.up 1);obtain⟨zf,zl,z0,z1,z2,-⟩:=Own.cs (T:=297) (vs:=[aC,aC,aC]) (oM.up 10);have oZ0:=Own.setCell (T:=297) (vs:=[aC,aC,aC]) (oM.up 10) 0 (.int .i64 (-1));have oZ1:=Own.setCell (T:=297) (vs:=[(-1:Int),aC,aC]) oZ0 1 (.int .i64 (-1));have oZ2:=Own.setCell (T:=297) (vs:=[(-1:Int),(-1:Int),aC]) oZ1 2 (.int .i64 6);have KM:=aM (x:=⟨b,6,none⟩) (v:=.map (some nb)) (aM (x:=⟨b,5,none⟩) (v:=.pointer (some ⟨xq,0,none⟩)) (aM (x:=⟨b,4,none⟩) (v:=.pointer (some ⟨cq,0,none⟩)) (aM (x:=⟨b,3,none⟩) (v:=.pointer (some ⟨lp,0,none⟩)) (aM (x:=⟨b,2,none⟩) (v:=.pointer (some ⟨rq,0,none⟩)) (aM (x:=⟨b,1,none⟩) (v:=.int .i64 (de:Int)) (aM (x:=⟨b,0,none⟩) (v:=.int .i64 (nu:Int)) (dB (x:=.cells #[(-1:Int),(-1:Int),(6:Int)] 297) K8)))))));have KZ:=aM (x:=⟨w.heap.size,2,none⟩) (v:=.int .i64 6) (aM (x:=⟨w.heap.size,1,none⟩) (v:=.int .i64 (-1)) (aM (x:=⟨w.heap.size,0,none⟩) (v:=.int .i64 (-1)) KM));unfold gu nQ;dsimp only;go_wp2;refine bodyPost_ret (v:=.tuple #[nQ ⟨-1,-1,6⟩,aC]) ?_ rfl ?_
  ·exact Gf (p:=w.heap.size) rfl rfl rfl oZ2
  ·rw[HST.out];have oF:=oZ2.re [0,2,3,10,11,12] 6;have oG:=(fD.le (Nat.le_succ N) (oF.re [2])).re [1,2,0];exact⟨rfl,vg.iff.2 ⟨rq,lp,cq,xq,nb,oG⟩,KZ⟩
 ·have HST:=az hst;clear hst HS adM;obtain⟨ix,hix,hidx⟩:=jF hjH;obtain⟨g,rfl,_⟩:=h1 _ _ (o8.up 6) ix _ hix;have hin:ix<n:=by have:=(eU.1 hix).1;have:=Hn.out;omega
  have oK:=o8.alloc (.cells #[.int .i64 k,j,why] 297);have hcall:=gJ (f:=j) (c:=c) h1 Hn.out (by omega) (oK.re [7]);rw[hidx]at hcall;have HIX:=az hix;have HQ1:=az q1;have HQ2:=az q2;have HQ3:=az q3;have HLEN:=az hlen;have HJH:=az hjH;have HW:=az afr;have HI':=az hI';clear hidx hix q1 q2 q3 hlen hjH afr hI';have jn:(j==-1)=false:=by simp;omega
  have t0:=oK.cell (T:=297) (vs:=[.int .i64 k,j,why]) 0;have t1:=oK.cell (T:=297) (vs:=[.int .i64 k,j,why]) 1;have t2:=oK.cell (T:=297) (vs:=[.int .i64 k,j,why]) 2;obtain⟨-,-,i0,i1,i2,-⟩:=Own.cs (T:=297) (vs:=[(-1:Int),(-1:Int),(6:Int)]) (oK.up 9);unfold nQ;dsimp only;go_wp2_with fail;refine hcall.mono ?_;rintro e9 w9⟨rfl,o9,k9⟩;clear hcall t0 t1 t2 i0 i1 i2 oK o8;obtain⟨g',hg',_,hcell,_⟩:=h1 _ _ o9 ix _ HIX.out;cases hg';rw[HLEN.out]at hcell;obtain⟨-,-,t0,t1,t2,-⟩:=Own.cs (T:=297) (vs:=[.int .i64 k,j,why]) (o9.up 1);have haw:0<=s.R.aw/\s.R.aw<=1152921504606846976:=by have:=hI.aw;have:=hI.t.ok.tm;omega
  have hcall:=RO (num:=(nu:Int)) (den:=(de:Int)) HQ1.out HQ2.out haw HO.out.1 HO.out.2 (o9.re [2,3,6,7]);clear haw;go_wp2_with fail;refine hcall.mono ?_;rintro e10 w10⟨rfl,jN,k10⟩;have K10:Calm w w10:=K8.trans ⟨k10.os.trans k9.os,k10.tape.trans k9.tape,k10.output.trans k9.output⟩;clear K8 k9 k10 hcall hcell t0 t1 t2 o9;obtain⟨S',hS'⟩:=aP ((bF aI s.R k len).2);obtain⟨C',hC'⟩:=aP ((gI aI C X ⟨k,j,why⟩ len).2.1);obtain⟨X',hX'⟩:=aP ((gI aI C X ⟨k,j,why⟩ len).2.2);rw[hS',hC',hX']at jN;have HS':=az hS';have HC':=az hC';have HX':=az hX';clear hS' hC' hX';have Eg:=jN.re [8,6];clear jN;generalize w8.heap.size=cb at*;go_upto_region 19 with fail;go_cut[13] (fun v wc=>v=.bool (lD (nu:Int) (de:Int) s ⟨k,j,why⟩)/\Own wc (zF b (nu:Int) (de:Int) rp lp cp xp nb::fD lp N s.D::zF tb (nu:Int) (de:Int) rq lp cq xq nb::bU rq aI S'::ku cq aI C'::ku xq aI X'::Sp::aH cb 297 [.int .i64 k,j,why]::bB pV nb s.n::aH (w.heap.size+1) 297 [(-1:Int),(-1:Int),(6:Int)]::aH w.heap.size 297 [aC,aC,aC]::R)/\Calm w wc);case first=>
   have t0:=Own.cell (T:=297) (vs:=[.int .i64 k,j,why]) (Eg.up 7) 0;have hlead:=jR k Eg;cases hld:decide (tZ s.D k<0)with
   |false=>
    rw[hld]at hlead;have hcnt:lD (nu:Int) (de:Int) s ⟨k,j,why⟩=false:=by unfold lD;dsimp only;rw[hld];rfl
    have EM:=az hcnt;clear hld hcnt;go_wp2_with fail;refine hlead.mono ?_;rintro e11 w11⟨rfl,Bl,k11⟩;clear hlead;go_wp2;go_meet;exact⟨by rw[EM.out],Bl.re [11,12] 2,K10.trans k11⟩
   |true=>
    rw[hld]at hlead;rcases HW.out with⟨rfl,_⟩|⟨rfl|rfl,_⟩|⟨rfl,_⟩
    ·have hcnt:lD (nu:Int) (de:Int) s ⟨k,j,1⟩=rU (nu:Int) (de:Int) (mJ s.n k):=by unfold lD;dsimp only;rw[hld];rfl
     have EM:=az hcnt;clear hld hcnt;go_wp2_with fail;refine hlead.mono ?_;rintro e11 w11⟨rfl,Bl,k11⟩;clear hlead;have hcn:=hI.cnt k;obtain⟨cr,hcr⟩:=Int.eq_ofNat_of_zero_le hcn.1;obtain⟨cl,hcl⟩:=Int.eq_ofNat_of_zero_le hcn.2.2.1;have hkp:=uj (cr:=cr) (cl:=cl) k hnu hde (by omega) (by omega) (by rw[<-hcr,<-hcl]) (Bl.re [0,8]);rw[<-EM.out]at hkp;clear hcn hcr hcl;obtain⟨-,-,u0,-,u2,-⟩:=Own.cs (T:=297) (vs:=[.int .i64 k,j,(1:Int)]) (Bl.up 7);generalize lD (nu:Int) (de:Int) s ⟨k,j,1⟩=Z at*;go_wp2_with fail;refine hkp.mono ?_;rintro e12 w12⟨rfl,o13,k12⟩;clear hkp;go_wp2;go_meet;exact⟨rfl,o13.re [11,12,0,2,3,4,5,6,7,8,1] 2,K10.trans (k11.trans k12)⟩
    ·have hcnt:lD (nu:Int) (de:Int) s ⟨k,j,2⟩=true:=by unfold lD;dsimp only;rw[hld];rfl
     have EM:=az hcnt;clear hld hcnt;go_wp2_with fail;refine hlead.mono ?_;rintro e11 w11⟨rfl,Bl,k11⟩;clear hlead;have u2:=Own.cell (T:=297) (vs:=[.int .i64 k,j,(2:Int)]) (Bl.up 7) 2;go_wp2;go_meet;exact⟨by rw[EM.out],Bl.re [11,12] 2,K10.trans k11⟩
    ·have hcnt:lD (nu:Int) (de:Int) s ⟨k,j,3⟩=false:=by unfold lD;dsimp only;rw[hld];rfl
     have EM:=az hcnt;clear hld hcnt;go_wp2_with fail;refine hlead.mono ?_;rintro e11 w11⟨rfl,Bl,k11⟩;clear hlead;have u2:=Own.cell (T:=297) (vs:=[.int .i64 k,j,(3:Int)]) (Bl.up 7) 2;go_wp2;go_meet;exact⟨by rw[EM.out],Bl.re [11,12] 2,K10.trans k11⟩
    ·have hcnt:lD (nu:Int) (de:Int) s ⟨k,j,4⟩=false:=by unfold lD;dsimp only;rw[hld];rfl
     have EM:=az hcnt;clear hld hcnt;go_wp2_with fail;refine hlead.mono ?_;rintro e11 w11⟨rfl,Bl,k11⟩;clear hlead;have u2:=Own.cell (T:=297) (vs:=[.int .i64 k,j,(4:Int)]) (Bl.up 7) 2;go_wp2;go_meet;exact⟨by rw[EM.out],Bl.re [11,12] 2,K10.trans k11⟩
  case rest=>
   obtain⟨rfl,Bl,k12⟩:=hcut;clear Eg K10;generalize hZ:lD (nu:Int) (de:Int) s ⟨k,j,why⟩=Z;have HZ:=az hZ;clear hZ;obtain⟨-,cl,-,-,-,c3,-⟩:=Bl.cs;obtain⟨-,-,t0,t1,-⟩:=Own.cs (T:=297) (vs:=[.int .i64 k,j,why]) (Bl.up 7);have hmv:=L8 k j len (by omega) (Bl.drew.re [1]);rw[HQ3.out]at hmv;go_wp2;refine wp_region_tail 9 (by kernel_rfl) (by kernel_rfl) ?_;simp only[xe,List.take_zero,yB,List.drop_zero];repeat still_step
   refine wpStill_nil ?_;go_wp2_with fail;refine hmv.mono ?_;rintro e13 w13⟨rfl,o13,k13⟩;have K13:Calm w w13:=k12.trans ⟨k13.os,k13.tape,k13.output⟩;obtain⟨D',hD'⟩:=aP ((j4 s.D k j len).2);rw[hD']at o13;have HD':=az hD';have hm':(m:Int)<=200000:=by omega
   clear hmv c3 cl t0 t1 k12 k13 Bl hD';obtain⟨-,-,n0,n1,n2,n3,n4,n5,n6,-⟩:=(o13.up 2).cs;obtain⟨bf,bl,b0,b1,b2,b3,b4,b5,b6,-⟩:=(o13.up 1).cs;have UA:=(o13.up 1).setCell 0 (nu:Int);have oM1:=UA.setCell 1 (de:Int);have oM2:=oM1.setCell 2 (.pointer (some ⟨rq,0,none⟩));have oM3:=oM2.setCell 3 (.pointer (some ⟨lp,0,none⟩));have oM4:=oM3.setCell 4 (.pointer (some ⟨cq,0,none⟩));have oM5:=oM4.setCell 5 (.pointer (some ⟨xq,0,none⟩));have oM6:=oM5.setCell 6 (.map (some nb));have oM:Own _ (zF b (nu:Int) (de:Int) rq lp cq xq nb::_):=oM6;clear UA oM1 oM2 oM3 oM4 oM5 oM6;have KM:=aM (x:=⟨b,6,none⟩) (v:=.map (some nb)) (aM (x:=⟨b,5,none⟩) (v:=.pointer (some ⟨xq,0,none⟩)) (aM (x:=⟨b,4,none⟩) (v:=.pointer (some ⟨cq,0,none⟩)) (aM (x:=⟨b,3,none⟩) (v:=.pointer (some ⟨lp,0,none⟩)) (aM (x:=⟨b,2,none⟩) (v:=.pointer (some ⟨rq,0,none⟩)) (aM (x:=⟨b,1,none⟩) (v:=.int .i64 (de:Int)) (aM (x:=⟨b,0,none⟩) (v:=.int .i64 (nu:Int)) K13))))));go_upto_if 127 with fail;go_cut[15] (fun _ wc=>Own wc (zF b (nu:Int) (de:Int) rq lp cq xq nb::fD lp (N+1) D'::bB pV nb (YX Z s.n ⟨k,j,why⟩ len)::bU rq aI S'::ku cq aI C'::ku xq aI X'::Sp::aH cb 297 [.int .i64 k,j,why]::aH w.heap.size 297 [aC,aC,aC]::R)/\Calm w wc);case first=>
    clear HZ;cases Z with
    |false=>have RP:YX false s.n ⟨k,j,why⟩ len=s.n:=rfl;have EM:=az RP;clear RP;go_wp2;go_meet;rw[EM.out];exact⟨oM.re [2,9,0,1,8,3,4,5,6,7,10] 2,KM⟩
    |true=>
     have RP:YX true s.n ⟨k,j,why⟩ len=FP s.n ⟨k,j,why⟩ len:=rfl;have hcb:=hI.cnt k;have hbu:FP s.n ⟨k,j,why⟩ len=bA s.n k ((mJ s.n k).1+len,if k=j then(mJ s.n k).2+len else(mJ s.n k).2):=rfl;rw[hbu]at RP;have hlk:=fun(w:aF)(R:aJ)(o:Own w (bB pV nb s.n::R))=>acB o k;unfold pV at hlk;generalize mJ s.n k=cn at*;obtain⟨cr,cl⟩:=cn;dsimp only at hcb hlk RP;have HLK:=az hlk;clear hlk;have EM:=az RP;have wr:=IntWalk.i64_in (cr+len) (by omega);have wl:=IntWalk.i64_in (cl+len) (by omega);clear RP hbu;obtain⟨-,bl,-,-,-,-,-,-,b6,-⟩:=oM.cs;obtain⟨-,tl,t0,t1,-⟩:=Own.cs (T:=297) (vs:=[.int .i64 k,j,why]) (oM.up 7);go_wp2;refine bY (fun L v wc=>Own wc (Pb (L 7) (L 8) (v 7) 482 [aC,aC] [cr,cl]::zF b (nu:Int) (de:Int) rq lp cq xq nb::fD lp (N+1) D'::zF tb (nu:Int) (de:Int) rq lp cq xq nb::bU rq aI S'::ku cq aI C'::ku xq aI X'::Sp::aH cb 297 [.int .i64 k,j,why]::bB pV nb s.n::aH (w.heap.size+1) 297 [(-1:Int),(-1:Int),(6:Int)]::aH w.heap.size 297 [aC,aC,aC]::R)/\Calm w wc/\ji (fun i=>([some (.pointer (some ⟨b,0,none⟩)),some (.pointer (some ⟨b,0,none⟩)),some (.pointer (some ⟨b,6,none⟩)),some (.map (some nb)),some (.pointer (some ⟨cb,0,none⟩)),some (.int .i64 k),some (.agg #[cr,cl]),none,none]:List (Option aL)).getD i none) L v) (by kernel_rfl) (by kernel_rfl) (by kernel_rfl) ?h0 ?step ?fin;case h0=>exact⟨Pb.no oM.drew,lF KM,ji.no⟩
     case step=>
      refine⟨au.mk rfl ?_,au.mk rfl ?_,au.mk rfl ?_,au.mk rfl ?_,au.mk rfl ?_,au.mk rfl ?_,au.mk rfl ?_,au.mk rfl ?_,au.mk rfl ?_,trivial⟩;all_goals intro L v Gg wc hL hd hA hI K' hK
      all_goals obtain⟨oD,kD,hv⟩:=hI
      all_goals simp[Region.binds]at hd
      all_goals have HV:=az hv
      all_goals clear hv
      ·have OX:=hA.base 0 (by rfl);simp only[o_,pJ,p8]at OX;go_simp;exact hK.out _ _ ⟨oD,kD,HV.out.put 0 dS⟩
      ·have Nz:L 0=true:=by simp[hd]
       have ah8:=hA.gt HV 0 Nz;go_simp;exact hK.out _ _ ⟨oD,kD,HV.out.put 1 dS⟩
      ·have NA:L 1=true:=by simp[hd]
       have ah9:=hA.gt HV 1 NA;go_simp;exact hK.out _ _ ⟨oD,kD,HV.out.put 2 dS⟩
      ·have RQ:L 2=true:=by simp[hd]
       have aia:=hA.gt HV 2 RQ;have u_:=(oD.up 1).cell 6;go_simp;exact hK.out _ _ ⟨oD,kD,HV.out.put 3 dS⟩
      ·have ag8:=hA.base 10 (by rfl);simp only[o_,pJ,rO,p8]at ag8;go_simp;exact hK.out _ _ ⟨oD,kD,HV.out.put 4 dS⟩
      ·have V4:L 4=true:=by simp[hd]
       have aib:=hA.gt HV 4 V4;have u_:=Own.cell (T:=297) (vs:=[.int .i64 k,j,why]) (oD.up 8) 0;go_simp;exact hK.out _ _ ⟨oD,kD,HV.out.put 5 dS⟩
      ·have RU:L 3=true:=by simp[hd]
       have aic:=hA.gt HV 3 RU;have V5:L 5=true:=by simp[hd]
       have aid:=hA.gt HV 5 V5;have u_:=HLK.out _ _ (oD.up 9);go_simp;exact hK.out _ _ ⟨oD,kD,HV.out.put 6 dS⟩
      ·rw[hL]at oD;go_simp;exact hK.out _ _ ⟨Pb.new oD,dB kD,HV.out.put 7 (fun _ h=>by cases h)⟩
      ·have Ma:L 7=true:=by simp[hd]
       have adN:=hA.get 7 Ma;have V6:L 6=true:=by simp[hd]
       have aie:=hA.gt HV 6 V6;rw[Ma,hL]at oD;obtain⟨gN,hgN,oN⟩:=Pb.val oD;rw[hgN]at adN;have hgN:=az hgN;obtain⟨nf_,nl_,n0_,n1_,-⟩:=oN.cs;go_simp;have oY:=(oN.setCell 0 cr).setCell 1 cl;have oQ:=Pb.put (l:=L 7) (v:=v 7) (zs:=[aC,aC]) oY Ma hgN.out;exact hK.out undef _ ⟨oQ,aM (aM kD),HV.out.put 8 (fun _ h=>by cases h)⟩
     case fin=>
      rintro L v wc hall⟨oD,kD,hv⟩;rw[hall 7 (by decide),hall 8 (by decide)]at oD;obtain⟨gN,hgN,oN⟩:=Pb.got oD;clear hv hall oD oM KM;simp only[jV,Act.put,List.setIfInBounds_toArray,List.set_cons_zero,List.set_cons_succ];obtain⟨nf,nl,n0,n1,-⟩:=oN.cs;have oP:=oN.setCell 0 (cr+len:Int);obtain⟨pf,pl,p0,p1,-⟩:=oP.cs;obtain⟨-,-,x0,x1,-⟩:=Own.cs (T:=297) (vs:=[.int .i64 k,j,why]) (oP.up 8);have KP:=aM (x:=⟨gN,0,none⟩) (v:=.int .i64 (cr+len)) kD;clear kD b6 bl t0 t1 tl;by_cases hkj:k=j
      ·have hb:(k==j)=true:=by simpa using hkj
       have RP:=EM.out;rw[if_pos hkj]at RP;have EM:=az RP;clear hkj RP;have oQ:=oP.setCell 1 (cl+len:Int);obtain⟨-,-,q0,q1,-⟩:=oQ.cs;have y0:=Own.cell (T:=297) (vs:=[.int .i64 k,j,why]) (oQ.up 8) 0;obtain⟨-,yl,-,-,-,-,-,-,y6,-⟩:=(oQ.up 1).cs;have KQ:=aM (x:=⟨gN,1,none⟩) (v:=.int .i64 (cl+len)) KP;go_wp2;refine wp_region_tail 7 (by kernel_rfl) (by kernel_rfl) ?_;simp only[xe,List.take_zero,yB,List.drop_zero];repeat still_step
       refine wpStill_nil ?_;go_wp2_with(at_mapUpdate;refine bg (f:=pV) rfl _ _ _ rfl underlying151 underlying3 ((oQ.up 9).drew) k (cr+len,cl+len) rfl rfl rfl ?c1);case c1=>
       intro w5 o5 k5;have K5:=(lF KQ).trans k5;go_wp2;go_meet;rw[EM.out];exact⟨o5.re [1,4,10,2,3,0] 3,K5⟩
      ·have hb:(k==j)=false:=by simpa using hkj
       have RP:=EM.out;rw[if_neg hkj]at RP;have EM:=az RP;clear hkj RP;obtain⟨-,yl,-,-,-,-,-,-,y6,-⟩:=(oP.up 1).cs;go_wp2;refine wp_region_tail 7 (by kernel_rfl) (by kernel_rfl) ?_;simp only[xe,List.take_zero,yB,List.drop_zero];repeat still_step
       refine wpStill_nil ?_;go_wp2_with(at_mapUpdate;refine bg (f:=pV) rfl _ _ _ rfl underlying151 underlying3 ((oP.up 9).drew) k (cr+len,cl) rfl rfl rfl ?c1);case c1=>
       intro w5 o5 k5;have K5:=(lF KP).trans k5;go_wp2;go_meet;rw[EM.out];exact⟨o5.re [1,4,10,2,3,0] 3,K5⟩
   case rest=>
    obtain⟨o14,k14⟩:=hcut;clear KM oM o13 K13;have hu:bL (YX Z s.n ⟨k,j,why⟩ len):=by
     unfold YX FP;split
     ·exact hI.nu.bA _ _
     ·exact hI.nu
    have hrs:=F3 hu o14;clear hu;go_wp2_with fail;refine hrs.mono ?_;rintro e15 w15⟨rfl,o15,k15⟩;clear hrs o14;have K15:=k14.trans k15;clear k14 k15;obtain⟨-,-,x0,x1,x2,-⟩:=Own.cs (T:=297) (vs:=[.int .i64 k,j,why]) (o15.up 7);obtain⟨zf,zl,z0,z1,z2,-⟩:=Own.cs (T:=297) (vs:=[aC,aC,aC]) (o15.up 8);have oZ0:=Own.setCell (T:=297) (vs:=[aC,aC,aC]) (o15.up 8) 0 (.int .i64 k);have oZ1:=Own.setCell (T:=297) (vs:=[.int .i64 k,aC,aC]) oZ0 1 (.int .i64 j);have oZ2:=Own.setCell (T:=297) (vs:=[.int .i64 k,j,aC]) oZ1 2 (.int .i64 why);clear oZ0 oZ1;have KZ:=aM (x:=⟨w.heap.size,2,none⟩) (v:=.int .i64 why) (aM (x:=⟨w.heap.size,1,none⟩) (v:=.int .i64 j) (aM (x:=⟨w.heap.size,0,none⟩) (v:=.int .i64 k) K15));go_wp2;refine bodyPost_ret (v:=.tuple #[nQ ⟨k,j,why⟩,aC]) ?_ rfl ?_
    ·exact Gf (p:=w.heap.size) rfl rfl rfl oZ2
    ·rw[HST.out];have oG:=oZ2.re [0,8] 2;have oH:=oG.re [0,3,1,2,4,5,6];unfold Gd;dsimp only;rw[HS'.out,HC'.out,HX'.out,HD'.out,HZ.out];exact⟨rfl,vg.iff.2 ⟨rq,lp,cq,xq,nb,oH⟩,KZ⟩
structure RV(nu de:Nat):Prop where
 pos:0<nu
 lt:nu<de
 le:de<=1048576
theorem xX{nu de:Nat}(h:RV nu de)(o:Own w R):Calls prog 33 #[.agg #[(nu:Int),(de:Int)]] w (aR (.bool true) R w):=by
 have h1:(0:Int)<(nu:Int):=by have:=h.pos;omega
 have h2:(nu:Int)<(de:Int):=by have:=h.lt;omega
 have h3:(de:Int)<=1048576:=by have:=h.le;omega
 have d1:decide ((0:Int)<(nu:Int))=true:=by simpa using h1
 have d2:decide ((nu:Int)<(de:Int))=true:=by simpa using h2
 have d3:decide ((de:Int)<=1048576)=true:=by simpa using h3
 go_enter func33,ntmps33;go_wp2;go_ret;exact⟨by simp[],o.alloc _|>.drop,⟨rfl,rfl,rfl⟩⟩
theorem Dv(r:Int)(h1:1<=r)(h2:r<=1099511627776)(o:Own w R):
  Calls prog 55 #[.int .i64 r] w fun e w'=>∃b,aR (.tuple #[.pointer (some ⟨b,0,none⟩),.int .i64 0]) (ku b r ⟨[],[],0⟩::R) w e w':=LJ r h1 h2 o
theorem RY{nu de:Nat}(h:RV nu de)(r:Int)(h1:1<=r)(h2:r<=1099511627776)(o:Own w R):
  Calls prog 36 #[.agg #[.int .i64 (nu:Int),.int .i64 (de:Int)],.int .i64 r] w
   fun e w'=>∃b,aR (.tuple #[.pointer (some ⟨b,0,none⟩),.int .i64 0]) (vg b (nu:Int) (de:Int) r 0 cq0::R) w e w':=by
 have hmm:=@run_makeMap prog;have oA:Own _ (aH w.heap.size 30 [.int .i64 (nu:Int),.int .i64 (de:Int)]::R):=o.alloc (.cells #[.int .i64 (nu:Int),.int .i64 (de:Int)] 30);go_enter func36,ntmps36;go_wp2_with fail;refine(Dn r h1 h2 oA).mono ?_;rintro e1 w1⟨rp,rfl,o1,k1⟩;have c0:=(o1.up 1).cell 0;have c1:=(o1.up 1).cell 1;go_wp2_with fail;refine(xX h o1).mono ?_;rintro e2 w2⟨rfl,o2,k2⟩;have K2:Calm w w2:=(dB (Calm.refl w)).trans (k1.trans k2);clear c0 c1;have c0:=(o2.up 1).cell 0;have c1:=(o2.up 1).cell 1;go_upto_region 4 with fail;go_cut[8] (fun v wc=>∃sb lp nb:Nat,v=.pointer (some ⟨sb,0,none⟩)/\Own wc (aH sb 154 [.int .i64 (nu:Int),.int .i64 (de:Int),.pointer (some ⟨rp,0,none⟩),.pointer (some ⟨lp,0,none⟩),.pointer none,.pointer none,.map (some nb)]::fD lp 0 []::bB pV nb []::bU rp r ⟨[],fun _=>0,0,0⟩::R)/\Calm w wc);case first=>
  have oX1:Own w2.drew _:=o2.drew;have V7:Own _ _:=(o2.drew).gF (f:=pV) (α:=Int×Int);have g0:=(V7.up 2).cell 0;have g1:=(V7.up 2).cell 1;go_region_held3(fun w'=>w'.cell? ⟨w.heap.size,0,none⟩=some ↑(nu:Int)/\w'.cell? ⟨w.heap.size,1,none⟩=some ↑(de:Int)) (go_keep) (first|(go_at_call 54;first|(refine(Dh oX1).mono ?_;rintro _ w3⟨lp,rfl,o3,k3⟩;have d0:=(o3.up 2).cell 0;have d1:=(o3.up 2).cell 1;have oY:=o3.gF (f:=pV) (α:=Int×Int);have e0:=(oY.up 3).cell 0;have e1:=(oY.up 3).cell 1)|(refine(Dh V7).mono ?_;rintro _ w3⟨lp,rfl,o3,k3⟩;have d0:=(o3.up 3).cell 0;have d1:=(o3.up 3).cell 1)));all_goals go_wp2
  all_goals go_meet
  ·have oZ:=oY.alloc (.cells #[.int .i64 (nu:Int),.int .i64 (de:Int),.pointer (some ⟨rp,0,none⟩),.pointer (some ⟨lp,0,none⟩),.pointer none,.pointer none,.map (some w3.heap.size)] 154);simp only[World.size_alloc]at oZ;exact⟨w3.heap.size+1,lp,w3.heap.size,rfl,(oZ.re [4,0,2,1,3] 1),dB (dB (K2.trans ((lF (Calm.refl w2)).trans k3)))⟩
  ·have oZ:=o3.alloc (.cells #[.int .i64 (nu:Int),.int .i64 (de:Int),.pointer (some ⟨rp,0,none⟩),.pointer (some ⟨lp,0,none⟩),.pointer none,.pointer none,.map (some w2.heap.size)] 154);exact⟨w3.heap.size,lp,w2.heap.size,rfl,(oZ.re [4,0,1,2,3] 1),dB (K2.trans ((dB (lF (Calm.refl w2))).trans k3))⟩
 case rest=>obtain⟨sb,lp,nb,rfl,oS,kS⟩:=hcut;clear o2 K2 c0 c1 o1 k1 k2 oA;go_wp2_with fail;refine(Dv r h1 h2 oS).mono ?_;rintro e3 w3⟨cp,rfl,o3,k3⟩;have x4:=(o3.up 1).cell 4;have xf:=(o3.up 1).frozen;have xl:=(o3.up 1).aS;have oT:=(o3.up 1).setCell 4 (.pointer (some ⟨cp,0,none⟩));have K3:=aM (x:=⟨sb,4,none⟩) (v:=.pointer (some ⟨cp,0,none⟩)) (kS.trans k3);clear oS kS k3;go_wp2_with fail;refine(Dv r h1 h2 oT).mono ?_;rintro e4 w4⟨xp,rfl,o4,k4⟩;have y5:=(o4.up 1).cell 5;have yf:=(o4.up 1).frozen;have yl:=(o4.up 1).aS;have oU:=(o4.up 1).setCell 5 (.pointer (some ⟨xp,0,none⟩));have K4:=aM (x:=⟨sb,5,none⟩) (v:=.pointer (some ⟨xp,0,none⟩)) (K3.trans k4);clear oT K3 k4;go_wp2;go_ret2;exact⟨sb,rfl,vg.iff.2 ⟨rp,lp,cp,xp,nb,oU.re [0,5,3,4,2,1]⟩,K4⟩
theorem V8(f wt:Int)(h1:gG s.R f wt=0)(h2:(jD s.D f wt).1=0)(o:Own w (vg b num den aI N s::R)):
  Calls prog 344 #[b,f,wt] w (aR (.int .i64 0) (vg b num den aI N {s with R:=pg s.R f wt,D:=(jD s.D f wt).2}::R) w):=by
 obtain⟨rp,lp,cp,xp,nb,o1⟩:=vg.iff.1 o;obtain⟨-,cl,-,-,c2,-⟩:=o1.cs;have hq:=uh f wt (o1.re [1]);unfold vV at hq;rw[if_pos h1,h1]at hq;dsimp only at hq;go_enter func344,ntmps344;go_wp2_with fail;refine hq.mono ?_;rintro e1 w1⟨rfl,o2,k2⟩;clear hq c2 cl o1;obtain⟨-,cl,-,-,-,c3,-⟩:=(o2.up 1).cs;have hq:=LG f wt (o2.re [2]);rw[h2]at hq;go_wp2_with fail;refine hq.mono ?_;rintro e3 w3⟨rfl,o3,k3⟩;go_wp2;go_ret;exact⟨rfl,vg.iff.2 ⟨rp,lp,cp,xp,nb,o3.re [2,1,0]⟩,k2.trans k3⟩
end
section
variable{w w':aF}{R:aJ}{b:Nat}
structure nK where
 mode:Int
 nu:Nat
 de:Nat
 kd:Int
 pk:Int
 pn:Int
 caps:Int×Int×Int
 tries:Int
 win:Int
 qu:Int
 cap:Int
 aI:Int
 bQ:bO
structure nK.Ok(c:nK):Prop where
 m1:1<=c.mode
 m2:c.mode<=3
 al:RV c.nu c.de
 pr:IQ c.kd c.pk c.pn=true
 cp:FC c.caps
 t1:1<=c.tries
 t2:c.tries<=16
 w1:1<=c.win
 w2:c.win<=64
 q1:256<=c.qu
 q2:c.qu<=1048576
 c1:1<=c.cap
 c2:c.cap<=512
 r1:1<=c.aI
 r2:c.aI<=1099511627776
 ra:∀r∈c.bQ,tQ r.1 r.2
 l1:1<=c.bQ.length
 l2:c.bQ.length<=12
def uV(r:Int×Int):dw:=[r.1,r.2]
theorem xw(r:Int×Int):(uV r).length=2:=rfl
def jX(c:nK)(ra:aY)(rc:Nat):dw:=[c.mode,(c.nu:Int),(c.de:Int),c.kd,c.pk,c.pn,c.caps.1,c.caps.2.1,c.caps.2.2,c.tries,c.win,c.qu,c.cap,c.aI,.slice ra c.bQ.length rc]
def wh(c:nK)(ra:aY)(rc:Nat):aL:=.agg #[c.mode,(c.nu:Int),(c.de:Int),c.kd,c.pk,c.pn,c.caps.1,c.caps.2.1,c.caps.2.2,c.tries,c.win,c.qu,c.cap,c.aI,.slice ra c.bQ.length rc]
def jG(a:aY)(c:Nat)(L:bO):SP:=slc 62 2 a L.length c (flat uV L)
def afs(l:aJ)(n:Nat)(w:aF)(_ v8:aL)(wr:aF):Prop:=∃i:Nat,v8=↑(i:Int)/\i<=n/\Own wr l/\Calm w wr
theorem OY{c:nK}{ra:aY}{rc:Nat}(h:c.Ok)(o:Own w (jG ra rc c.bQ::R)):Calls prog 16 #[wh c ra rc] w (aR (.bool true) (jG ra rc c.bQ::R) w):=by
 have d1:decide (1<=c.mode)=true:=decide_eq_true h.m1;have d2:decide (c.mode<=3)=true:=decide_eq_true h.m2;have d3:decide (1<=c.tries)=true:=decide_eq_true h.t1;have d4:decide (c.tries<=16)=true:=decide_eq_true h.t2;have d5:decide (1<=c.win)=true:=decide_eq_true h.w1;have d6:decide (c.win<=64)=true:=decide_eq_true h.w2;have d7:decide (256<=c.qu)=true:=decide_eq_true h.q1;have d8:decide (c.qu<=1048576)=true:=decide_eq_true h.q2;have d9:decide (1<=c.cap)=true:=decide_eq_true h.c1;have d10:decide (c.cap<=512)=true:=decide_eq_true h.c2;have d11:decide (1<=c.aI)=true:=decide_eq_true h.r1;have d12:decide (c.aI<=1099511627776)=true:=decide_eq_true h.r2;have HV1:=az fun(w1:aF)(R1:aJ)(o1:Own w1 R1)=>xX h.al o1;have OZ:=az fun(w1:aF)(R1:aJ)(o1:Own w1 R1)=>Df h.pr o1;have HV3:=az fun(w1:aF)(R1:aJ)(o1:Own w1 R1)=>Da h.cp o1;have HRA:=az h.ra;have hl1:=h.l1;have hl2:=h.l2;obtain⟨mode,nu,de,kd,pk,pn,⟨cp,cb,ct⟩,tries,win,qu,cap,aI,L⟩:=c;unfold wh jG;unfold C9 at HV3;dsimp only at*;clear h;have oA:Own (w.alloc (.cells #[.int .i64 mode,.int .i64 (nu:Int),.int .i64 (de:Int),.int .i64 kd,.int .i64 pk,.int .i64 pn,.int .i64 cp,.int .i64 cb,.int .i64 ct,.int .i64 tries,.int .i64 win,.int .i64 qu,.int .i64 cap,.int .i64 aI,.slice ra L.length rc] 37)) (aH w.heap.size 37 [.int .i64 mode,.int .i64 (nu:Int),.int .i64 (de:Int),.int .i64 kd,.int .i64 pk,.int .i64 pn,.int .i64 cp,.int .i64 cb,.int .i64 ct,.int .i64 tries,.int .i64 win,.int .i64 qu,.int .i64 cap,.int .i64 aI,.slice ra L.length rc]::slc 62 2 ra L.length rc (flat uV L)::R):=o.alloc (.cells #[.int .i64 mode,.int .i64 (nu:Int),.int .i64 (de:Int),.int .i64 kd,.int .i64 pk,.int .i64 pn,.int .i64 cp,.int .i64 cb,.int .i64 ct,.int .i64 tries,.int .i64 win,.int .i64 qu,.int .i64 cap,.int .i64 aI,.slice ra L.length rc] 37);have K0:Calm w (w.alloc (.cells #[.int .i64 mode,.int .i64 (nu:Int),.int .i64 (de:Int),.int .i64 kd,.int .i64 pk,.int .i64 pn,.int .i64 cp,.int .i64 cb,.int .i64 ct,.int .i64 tries,.int .i64 win,.int .i64 qu,.int .i64 cap,.int .i64 aI,.slice ra L.length rc] 37)):=⟨rfl,rfl,rfl⟩;obtain⟨n,hn⟩:∃n,L.length=n:=⟨_,rfl⟩;have HN:=az hn;rw[hn]at oA K0 hl1 hl2⊢;have d13:decide (1<=(n:Int))=true:=decide_eq_true (by omega);have d14:decide ((n:Int)<=12)=true:=decide_eq_true (by omega);clear hn o;have c14:=oA.cell 14;go_enter func16,ntmps16;go_wp2;go_loopw[4,8] (fun v4 v8 wr=>afs (aH w.heap.size 37 [.int .i64 mode,.int .i64 (nu:Int),.int .i64 (de:Int),.int .i64 kd,.int .i64 pk,.int .i64 pn,.int .i64 cp,.int .i64 cb,.int .i64 ct,.int .i64 tries,.int .i64 win,.int .i64 qu,.int .i64 cap,.int .i64 aI,.slice ra n rc]::slc 62 2 ra n rc (flat uV L)::R) n w v4 v8 wr) (fun _ v _=>n-(Lib.intOf v).toNat);case atStart=>exact⟨0,rfl,by omega,oA,K0⟩
 case round=>
  clear oA K0 c14;obtain⟨i,rfl,hi,oR,kR⟩:=hrel;by_cases hil:i<n
  ·obtain⟨r,hr⟩:∃r,L[i]?=some r:=⟨_,List.getElem?_eq_getElem (by rw[HN.out];exact hil)⟩;obtain⟨g,rfl,hc,_,hgl⟩:=(oR.up 1).aG (by omega);have e0:=hc (i*2+0) (.int .i64 r.1) (by rw[aB xw L i 0 r hr (by omega)];rfl);have e1:=hc (i*2+1) (.int .i64 r.2) (by rw[aB xw L i 1 r hr (by omega)];rfl);rw[Nat.add_zero]at e0;have oX:=oR.alloc (.cells #[.int .i64 r.1,.int .i64 r.2] 62);have hv:=vS (HRA.out r (List.mem_of_getElem? hr)) oX;unfold nO at hv;clear hc hr;go_wp2_with fail;refine hv.mono ?_;rintro _ w1⟨rfl,o1,k1⟩;clear hv oX e0 e1;go_wp2;go_roundw;case rel=>exact⟨i+1,by go_num,by omega,o1.drop,(aj kR).trans k1⟩
   case measure=>simp[Lib.intOf];omega
  ·have hin:i=n:=by omega
   subst hin;have q0:=oR.cell 0;have q1:=oR.cell 1;have q2:=oR.cell 2;have q3:=oR.cell 3;have q4:=oR.cell 4;have q5:=oR.cell 5;have hA:=HV1.out _ _ oR;clear hil hi;go_wp2_with fail;refine hA.mono ?_;rintro _ w1⟨rfl,o1,k1⟩;have q3:=o1.cell 3;have q4:=o1.cell 4;have q5:=o1.cell 5;have hB:=OZ.out _ _ o1;clear hA q0 q1 q2;go_wp2_with fail;refine hB.mono ?_;rintro _ w2⟨rfl,o2,k2⟩;have q6:=o2.cell 6;have q7:=o2.cell 7;have q8:=o2.cell 8;have hC:=HV3.out _ _ o2;clear hB;go_wp2_with fail;refine hC.mono ?_;rintro _ w3⟨rfl,o3,k3⟩;have q9:=o3.cell 9;have q10:=o3.cell 10;have q11:=o3.cell 11;have q12:=o3.cell 12;have q13:=o3.cell 13;have q14:=o3.cell 14;clear hC q6 q7 q8;go_wp2;go_ret;exact⟨rfl,o3.drop,((kR.trans k1).trans k2).trans k3⟩
theorem Tryz.recT6:bS prog 48 51 6 48:=bS.mk' underlying48 (z:=.agg #[aC,aC,aC,aC,aC,aC]) (by kernel_rfl) (by kernel_rfl) (by omega)
def Rec.at'(r:Rec)(s:Int):Rec:=⟨s,r.kind,r.gK,r.oJ,r.why,r.value⟩
theorem wm{cs:dw}{slot:Int}{la:aY}{n lc:Nat}{L:List Rec}(r:Rec)(hcs:cs.length=29)(h16:cs[16]?=some (.int .i64 slot))(h28:cs[28]?=some (.slice la n lc))(hn:n<=1000000)
  (o:Own w (aH b 75 cs::slc 51 6 la n lc (flat recC L)::R)):
  Calls prog 69 #[.pointer (some ⟨b,0,none⟩),.agg #[.int .i64 r.slot,.int .i64 r.kind,.int .i64 r.gK,.int .i64 r.oJ,.int .i64 r.why,.int .i64 r.value]] w
   fun e w'=>∃la' lc',aR (.tuple #[]) (aH b 75 (cs.set 28 (.slice la' (n+1) lc'))::slc 51 6 la' (n+1) lc' (flat recC (L++[r.at' slot]))::R) w e w':=by
 obtain⟨r0,r1,r2,r3,r4,r5⟩:=r;dsimp only;have oA:=o.alloc (.cells #[.int .i64 r0,.int .i64 r1,.int .i64 r2,.int .i64 r3,.int .i64 r4,.int .i64 r5] 51);have c16:=Own.cell o 16 h16;have c28:=Own.cell o 28 h28;have cf:=o.frozen;have cl:=o.aS;have oB:=Own.setCell (T:=51) (vs:=[.int .i64 r0,.int .i64 r1,.int .i64 r2,.int .i64 r3,.int .i64 r4,.int .i64 r5]) oA 0 (.int .i64 slot);have oC:Own _ (aH w.heap.size 51 [.int .i64 slot,.int .i64 r1,.int .i64 r2,.int .i64 r3,.int .i64 r4,.int .i64 r5]::aH b 75 cs::slc 51 6 la n lc (flat recC L)::R):=oB;go_enter func69,ntmps69;go_upto_region 2 with fail;have oD:Own (w.alloc (.cells #[.int .i64 slot,.int .i64 r1,.int .i64 r2,.int .i64 r3,.int .i64 r4,.int .i64 r5] 51)) (aH w.heap.size 51 [.int .i64 slot,.int .i64 r1,.int .i64 r2,.int .i64 r3,.int .i64 r4,.int .i64 r5]::aH b 75 cs::slc 51 6 la n lc (flat recC L)::R):=o.alloc (.cells #[.int .i64 slot,.int .i64 r1,.int .i64 r2,.int .i64 r3,.int .i64 r4,.int .i64 r5] 51);have K1:=aj (x:=.cells #[.int .i64 slot,.int .i64 r1,.int .i64 r2,.int .i64 r3,.int .i64 r4,.int .i64 r5] 51) (Calm.refl w);generalize hw1:w.alloc (.cells #[.int .i64 slot,.int .i64 r1,.int .i64 r2,.int .i64 r3,.int .i64 r4,.int .i64 r5] 51)=w1 at*;generalize w.heap.size=kb at*;clear oA oB oC c16 c28 cf cl hw1 o;have p0:=oD.cell 0;have p1:=oD.cell 1;have p2:=oD.cell 2;have p3:=oD.cell 3;have p4:=oD.cell 4;have p5:=oD.cell 5;have c28:=Own.cell (oD.up 1) 28 h28;have cf:=(oD.up 1).frozen;have cl:=(oD.up 1).aS;have pl:=oD.aS;have oX:Own (w1.drew.alloc (.cells #[.int .i64 slot,.int .i64 r1,.int .i64 r2,.int .i64 r3,.int .i64 r4,.int .i64 r5] 51)) (aH w1.heap.size 51 (recC ⟨slot,r1,r2,r3,r4,r5⟩)::_):=oD.drew.alloc (.cells #[.int .i64 slot,.int .i64 r1,.int .i64 r2,.int .i64 r3,.int .i64 r4,.int .i64 r5] 51);have hone:∀u∈recC ⟨slot,r1,r2,r3,r4,r5⟩,u.oneCell'=true:=by intro u hu;simp only[recC,List.mem_cons,List.not_mem_nil,or_false]at hu;rcases hu with rfl|rfl|rfl|rfl|rfl|rfl<;>rfl
 have hnw:=Own.news (T:=51) (vs:=recC ⟨slot,r1,r2,r3,r4,r5⟩) oX
 go_region_law(first
  |(refine gD rfl _ _ rfl Tryz.recT6 rfl (oX.up 3) rfl ⟨_,_,rfl,rfl,hone,.inr ⟨_,rfl,hnw⟩⟩ (by unfold maxLen;omega) (by omega) ?_;intro a2 c2 w5 o5 k5;have z28:=Own.cell (o5.up 3) 28 h28;have zf:=(o5.up 3).frozen;have zl:=(o5.up 3).aS))
 all_goals
  have KF:=ay (x:=⟨b,28,none⟩) (v:=.slice a2 (n+1) c2) ((aj (aD K1)).trans k5);have oF:=((o5.up 3).setCell 28 (.slice a2 (n+1) c2)).re [2,3] 2;clear hnw oX o5 k5 z28 zf zl;go_wp2;go_end0;refine⟨a2,c2,rfl,?_,KF⟩;rw[aO,show flat recC [(⟨r0,r1,r2,r3,r4,r5⟩:Rec).at' slot]=recC ⟨slot,r1,r2,r3,r4,r5⟩from List.append_nil _];exact oF
end
section
variable{w w':aF}{R:aJ}{b rp ab:Nat}{aI:Int}{s:Iw}{m:List (Int×Acc)}
def eu(a:Acc):aL:=.agg #[a.1,a.2.1,a.2.2]
theorem Tryz.zeroIw(w:aF):(zeroValue 333).run prog w=.ok (.agg #[aC,aC,aC]) w:=by kernel_rfl
theorem Dy(o:Own w (bB eu ab m::R))(k:Int):
  (Instr.lookup 157 (.map (some ab)) (.int .i64 k) false).run prog w=.ok (eu (cu m k)) w:=by
 rw[bI underlying157 underlying3 Tryz.zeroIw o k false];unfold cu;cases a_ m k<;>rfl
abbrev uW(b rp ab:Nat):SP:=aH b 159 [rp,.map (some ab)]
def wu(b:Nat)(aI:Int)(s:Iw):SP:=ex fun(p:Nat×Nat)=>st [uW b p.1 p.2,bU p.1 aI s.R,bB eu p.2 s.m]
theorem wu.iff:Own w (wu b aI s::R)↔∃rp ab,Own w (uW b rp ab::bU rp aI s.R::bB eu ab s.m::R):=by
 constructor
 ·intro o;obtain⟨⟨rp,ab⟩,h⟩:=Own.ex.1 o;exact⟨rp,ab,Own.st.1 h⟩
 ·rintro⟨rp,ab,h⟩;exact Own.ex.2 ⟨(rp,ab),Own.st.2 h⟩
def iw0:Iw:=⟨⟨[],fun _=>0,0,0⟩,[]⟩
theorem R_(r:Int)(h1:1<=r)(h2:r<=1099511627776)(o:Own w R):
  Calls prog 37 #[.int .i64 r] w fun e w'=>∃b,aR (.tuple #[.pointer (some ⟨b,0,none⟩),.int .i64 0]) (wu b r iw0::R) w e w':=by
 have hmm:=@run_makeMap prog;go_enter func37,ntmps37;go_wp2_with fail;refine(Dn r h1 h2 o).mono ?_;rintro e1 w1⟨rp,rfl,o1,k1⟩;have oX:=o1.gF (f:=eu) (α:=Acc);have oY:=oX.alloc (.cells #[.pointer (some ⟨rp,0,none⟩),.map (some w1.heap.size)] 159);simp only[World.size_alloc]at oY;go_wp2;go_ret2;exact⟨w1.heap.size+1,rfl,wu.iff.2 ⟨rp,w1.heap.size,oY.re [0,2,1]⟩,dB (dB k1)⟩
def Sa(x y:Int):Bool:=decide (0<=x)&&decide (x<=1099511627776)&&decide (0<=y)&&decide (y<=1099511627776)
theorem Mg(x y:Int)(w:aF):Calls prog 181 #[x,y] w (bN (.bool (Sa x y)) w):=by
 go_enter func181,ntmps181;go_wp2
 ·go_ret;exact⟨congrArg (fun z=>Ending.returned (.bool z)) (by unfold Sa;simp[*]),rfl⟩
 all_goals go_ret
 all_goals exact⟨congrArg (fun z=>Ending.returned (.bool z)) (by symm;unfold Sa;simp only[Bool.and_eq_false_iff,decide_eq_false_iff_not];omega),rfl⟩
def wz(s:Iw)(f wt x y:Int):Int×Iw:=
 if Sa x y=false then(1,s)else if gG s.R f wt=0 then(0,⟨pg s.R f wt,bA s.m f (0,x,y)⟩)else(gG s.R f wt,s)
theorem Pj(f wt x y:Int)(o:Own w (wu b aI s::R)):
  Calls prog 414 #[b,f,wt,x,y] w (aR (.int .i64 (wz s f wt x y).1) (wu b aI (wz s f wt x y).2::R) w):=by
 have hb:=Mg x y w;unfold wz;cases hbb:Sa x y with
 |false=>rw[hbb]at hb;rw[if_pos rfl];go_enter func414,ntmps414;go_wp2_with fail;refine hb.mono ?_;rintro e1 w1⟨rfl,rfl⟩;go_wp2;go_ret;exact⟨rfl,o,Calm.refl _⟩
 |true=>
  rw[hbb]at hb;rw[if_neg (by simp)];obtain⟨rp,ab,o1⟩:=wu.iff.1 o;obtain⟨-,cl,c0,-⟩:=o1.cs;have hq:=uh f wt (o1.re [1]);unfold vV at hq;clear hbb;by_cases hj:gG s.R f wt=0
  ·rw[if_pos hj,hj]at hq;rw[if_pos hj];dsimp only at hq;clear hj;go_enter func414,ntmps414;go_wp2_with fail;refine hb.mono ?_;rintro e1 w1⟨rfl,rfl⟩;go_wp2_with fail;refine hq.mono ?_;rintro e2 w2⟨rfl,o2,k2⟩;clear hq c0 cl;obtain⟨-,cl,-,c1,-⟩:=(o2.up 1).cs;obtain⟨w3,hr3,o3,k3⟩:=jg (P:=prog) (f:=eu) underlying157 underlying3 (o2.re [2]) f (0,x,y);unfold eu at hr3;go_wp2;go_ret;exact⟨rfl,wu.iff.2 ⟨rp,ab,o3.re [2,1,0]⟩,k2.trans k3⟩
  ·rw[if_neg hj]at hq⊢;have hn:(gG s.R f wt==0)=false:=by simpa using hj
   dsimp only at hq;generalize gG s.R f wt=J at*;clear hj;go_enter func414,ntmps414;go_wp2_with fail;refine hb.mono ?_;rintro e1 w1⟨rfl,rfl⟩;go_wp2_with fail;refine hq.mono ?_;rintro e2 w2⟨rfl,o2,k2⟩;clear hq c0 cl;go_wp2;go_ret;exact⟨rfl,wu.iff.2 ⟨rp,ab,o2.re [1,0]⟩,k2⟩
end
structure lM where
 ch:vD
 sd:sH
 rv:jw
 nx:Int
 IB:Int
inductive zG where
 |fair (N:Nat) (s:Cq)
 |bD (s:Iw)
 |timed (r:I4) (M:List (Int×rV))
structure aX where
 cfg:nK
 mode:Int
 slot:Int
 time:Int
 stop:Bool
 lost:Int
 tab:yV
 rules:List Ru
 Q:List xP
 S:List lM
 jy:vE
 dY:List iA
 aZ:zG
 act:bq
 log:List Rec
 ss:List Nat
 qs:List Nat
def iN(p:Nat)(s:lM):SP:=ex fun(x:Nat×Nat×Nat)=>st [aH p 181 [x.1,x.2.1,x.2.2,s.nx,s.IB],pR x.1 s.ch,dP x.2.1 s.sd,eY x.2.2 s.rv]
def mK(k:Nat)(x:Int×rV):SP:=aH k 269 (qW x.2)
def dR(b:Nat)(c:nK)(v:aL):zG->SP
 |.fair N s=>ex fun(p:Nat)=>st [pu (v=.iface 116 (.agg #[p])),vg p (c.nu:Int) (c.de:Int) c.aI N s]
 |.bD s=>ex fun(p:Nat)=>st [pu (v=.iface 121 (.agg #[p])),wu p c.aI s]
 |.timed r M=>ex fun(x:Nat×Nat×Nat×List Nat)=>st [pu (v=.iface 125 (.pointer (some ⟨x.1,0,none⟩))/\x.2.2.2.length=M.length),
   aH x.1 128 [x.2.1,.map (some x.2.2.1),b],dX x.2.1 r,bB pv x.2.2.1 (List.zipWith (fun k(y:Int×rV)=>(y.1,k)) x.2.2.2 M),st (List.zipWith mK x.2.2.2 M)]
def En(c:nK)(mode:Int):zG:=if mode=1 then .fair 0 cq0 else if mode=2 then .bD iw0 else .timed ⟨c.qu,[],false⟩ []
section
variable{w w':aF}{R:aJ}{b:Nat}
theorem ad1(c:nK):En c 1=.fair 0 cq0:=rfl
theorem ad2(c:nK):En c 2=.bD iw0:=rfl
theorem ad3(c:nK):En c 3=.timed ⟨c.qu,[],false⟩ []:=rfl
theorem PL{c:nK}{ra:aY}{rc:Nat}{cs:dw}{mode:Int}(hc:c.Ok)(hm:mode=1\/mode=2\/mode=3)(hcs:∀(i:Nat)(v:aL),(jX c ra rc)[i]?=some v->cs[i]?=some v)(o:Own w (aH b 75 cs::R)):
  Calls prog 20 #[b,mode] w
   fun e w'=>∃v,aR v (aH b 75 cs::dR b c v (En c mode)::R) w e w':=by
 have c1:=Own.cell o 1 (hcs 1 _ rfl);have c2:=Own.cell o 2 (hcs 2 _ rfl);have c11:=Own.cell o 11 (hcs 11 _ rfl);have c13:=Own.cell o 13 (hcs 13 _ rfl);rcases hm with rfl|rfl|rfl
 ·rw[ad1];have hq:=fun(w1:aF)(o1:Own w1 (aH b 75 cs::R))=>RY hc.al c.aI hc.r1 hc.r2 o1;have hN:=hq _ o.drew;clear hc;go_enter func20,ntmps20;go_upto_region 3 with fail
  go_region_held3(fun w'=>w'.cell? ⟨b,1,none⟩=some ↑(c.nu:Int)/\w'.cell? ⟨b,2,none⟩=some ↑(c.de:Int)/\w'.cell? ⟨b,13,none⟩=some ↑c.aI) (go_keep) (first
   |(go_at_call 36;(with_reducible refine Calls.mono hN ?_);rintro _ w1⟨p,rfl,o1,k1⟩;have y1:=Own.cell (o1.up 1) 1 (hcs 1 _ rfl);have y2:=Own.cell (o1.up 1) 2 (hcs 2 _ rfl);have y13:=Own.cell (o1.up 1) 13 (hcs 13 _ rfl)))
  have oF:=o1.swap;clear hN hq o1 o;go_wp2;go_ret;refine⟨_,rfl,(show Own _ (dR b c _ (.fair 0 cq0)::aH b 75 cs::R)from Own.ex.2 ⟨p,Own.st.2 (Own.pu.2 ⟨rfl,oF.swap⟩)⟩).swap,(aD (Calm.refl w)).trans k1⟩
 ·rw[ad2];have hN:=R_ c.aI hc.r1 hc.r2 o;clear hc;go_enter func20,ntmps20;go_wp2_with fail;refine hN.mono ?_;rintro _ w1⟨p,rfl,o1,k1⟩;go_wp2;go_ret;exact⟨_,rfl,(show Own _ (dR b c _ (.bD iw0)::aH b 75 cs::R)from Own.ex.2 ⟨p,Own.st.2 (Own.pu.2 ⟨rfl,o1⟩)⟩).swap,k1⟩
 ·rw[ad3];have hN:=O6 hc.q1 hc.q2 o;have hmm:=@run_makeMap prog;clear hc;go_enter func20,ntmps20;go_wp2_with fail;refine hN.mono ?_;rintro _ w1⟨p,rfl,o1,k1⟩;have o2:Own (w1.alloc (.map #[] 0)) (bB pv w1.heap.size ([]:List (Int×Nat))::_):=Own.gF o1;have o3:=o2.alloc (.cells #[p,.map (some w1.heap.size),b] 128);rw[World.size_alloc]at o3;go_wp2;go_ret;have o4:Own _ (st (List.zipWith mK [] [])::aH (w1.heap.size+1) 128 [p,.map (some w1.heap.size),b]::bB pv w1.heap.size ([]:List (Int×Nat))::dX p ⟨c.qu,[],false⟩::aH b 75 cs::R):=Own.st.2 o3;exact⟨_,rfl,(show Own _ (dR b c _ (.timed ⟨c.qu,[],false⟩ [])::aH b 75 cs::R)from Own.ex.2 ⟨(w1.heap.size+1,p,w1.heap.size,[]),Own.st.2 (Own.pu.2 ⟨⟨rfl,rfl⟩,o4.re [1,3,2,0]⟩)⟩).swap,aj (aj k1)⟩
end
section
variable{w w':aF}{R:aJ}{b rp lp cp xp N M:Nat}{num den aI:Int}{P S:SP}{s:Cq}{g:KqG}
def wH(s:Cq)(f wt:Int):Int×Cq:=if gG s.R f wt=0 then(0,{s with R:=pg s.R f wt,D:=(jD s.D f wt).2})else(gG s.R f wt,s)
def acL(o:Ord)(f:Int):Ord:=⟨dW o.el f,dW o.tg f,o.tm⟩
def rW(s:Cq)(f:Int):(Int×Int)×Cq:=
 if cB s.R.L f=none then((0,6),s)
 else(((ou s.D f).1.1,0),⟨(gm s.R f).2,(ou s.D f).2,acL s.C f,acL s.X f,yM (ou s.D f).2 s.n⟩)
end
section
variable{w w':aF}{R:aJ}{b rp lp cp xp nb N:Nat}{num den aI:Int}{s:Cq}
theorem PW(f wt:Int)(h2:gG s.R f wt=0->(jD s.D f wt).1=0)(o:Own w (vg b num den aI N s::R)):
  Calls prog 344 #[b,f,wt] w (aR (.int .i64 (wH s f wt).1) (vg b num den aI N (wH s f wt).2::R) w):=by
 unfold wH;by_cases h1:gG s.R f wt=0
 ·rw[if_pos h1];exact V8 f wt h1 (h2 h1) o
 ·rw[if_neg h1];obtain⟨rp,lp,cp,xp,nb,o1⟩:=vg.iff.1 o;obtain⟨-,cl,-,-,c2,-⟩:=o1.cs;have hq:=uh f wt (o1.re [1]);unfold vV at hq;rw[if_neg h1]at hq;have hne:(gG s.R f wt==0)=false:=by simpa using h1
  dsimp only at hq⊢;obtain⟨E,hE⟩:=aP (gG s.R f wt);rw[hE]at hq hne⊢;clear h1 h2 hE;go_enter func344,ntmps344;go_wp2_with fail;refine hq.mono ?_;rintro e1 w1⟨rfl,o2,k2⟩;clear hq;go_wp2;go_ret;exact⟨rfl,vg.iff.2 ⟨rp,lp,cp,xp,nb,o2.re [1,0]⟩,k2⟩
theorem MN(f:Int)(hN:(N:Int)<=1000000000000)(hu:bL s.n)(o:Own w (vg b num den aI N s::R)):
  Calls prog 345 #[b,f] w (aR (.tuple #[.int .i64 (rW s f).1.1,.int .i64 (rW s f).1.2]) (vg b num den aI N (rW s f).2::R) w):=by
 obtain⟨rp,lp,cp,xp,nb,o1⟩:=vg.iff.1 o;obtain⟨-,cl,-,-,c2,-⟩:=o1.cs;have hq:=xV f (o1.re [1]);unfold rW;cases hf:cB s.R.L f with
 |none=>
  have e2:gm s.R f=(6,s.R):=by unfold gm;rw[hf]
  rw[e2]at hq;rw[if_pos rfl];clear hf e2;go_enter func345,ntmps345;go_wp2_with fail;refine hq.mono ?_;rintro e1 w1⟨rfl,o2,k2⟩;go_wp2;go_ret2;exact⟨rfl,vg.iff.2 ⟨rp,lp,cp,xp,nb,o2.re [1,0]⟩,k2⟩
 |some t=>
  have e2:gm s.R f=(0,lC s.R f t.s):=by unfold gm;rw[hf]
  rw[if_neg (by simp),e2];rw[e2]at hq;dsimp only at hq;clear hf e2;go_enter func345,ntmps345;go_wp2_with fail;refine hq.mono ?_;rintro e1 w1⟨rfl,o2,k2⟩;clear hq c2 cl o1;have c3:=(o2.up 1).cell 3;have hl:=IZ f hN (o2.re [2]);go_wp2_with fail;refine hl.mono ?_;rintro e2 w2⟨rfl,o3,k3⟩;have c4:=(o3.up 2).cell 4;have hc:=Dk f (o3.re [4]);clear hl c3;go_wp2_with fail;refine hc.mono ?_;rintro e3 w3⟨rfl,o4,k4⟩;have c5:=(o4.up 3).cell 5;have hx:=Dk f (o4.re [5]);clear hc c4;go_wp2_with fail;refine hx.mono ?_;rintro e4 w4⟨rfl,o5,k5⟩;have hr:=F3 hu (o5.re [4,2,5]);clear hx c5;go_wp2_with fail;refine hr.mono ?_;rintro e5 w5⟨rfl,o6,k6⟩;go_wp2;go_ret2;exact⟨rfl,vg.iff.2 ⟨rp,lp,cp,xp,nb,o6.re [0,5,1,2,4,3]⟩,k2.trans (k3.trans (k4.trans (k5.trans k6)))⟩
end
section
variable{i m N:Nat}{s:Cq}
def acM(s:Cq)(f w:Int):Cq:={s with R:=pg s.R f w,D:=(jD s.D f w).2}
theorem fQ.join(h:fQ i m N s){f w:Int}(he:gG s.R f w=0):(jD s.D f w).1=0/\fQ i m N (acM s f w):=by
 obtain⟨_,hn,h1,h2,h3,h4⟩:=h.t.ok.join he;have hD:cB s.D f=none:=mU.2 fun t ht e=>by have:f∈s.D.map (·.f):=gW.2 ⟨t,ht,e⟩;rw[h.fl]at this;obtain⟨u,hu⟩:=Ca this;rw[hn]at hu;cases hu
 have hj:jD s.D f w=(0,jB ⟨f,w,0⟩ s.D):=by unfold jD;rw[if_neg (by omega),hD];rfl
 have hpt:∀(x:Tg)(L:List Tg),bM (jB x L)=bM (jB ⟨x.f,x.w,0⟩ (L.map fun t=>⟨t.f,t.w,0⟩)):=fun x L=>by
  induction L with
  |nil=>rfl
  |cons t L ih=>
   unfold jB;rw[iD];show bM (if t.f<x.f then t::jB x L else x::t::L)=bM (if t.f<x.f then⟨t.f,t.w,0⟩::jB ⟨x.f,x.w,0⟩ (L.map fun t=>⟨t.f,t.w,0⟩)else⟨x.f,x.w,0⟩::⟨t.f,t.w,0⟩::L.map fun t=>⟨t.f,t.w,0⟩);split
   ·show(t.f,t.w)::bM (jB x L)=(t.f,t.w)::bM _;rw[ih]
   ·show(x.f,x.w)::(t.f,t.w)::bM L=(x.f,x.w)::(t.f,t.w)::bM _;congr 2;unfold bM;rw[List.map_map];rfl
 have hmp:∀{L M:List Tg},bM L=bM M->(L.map fun t=>(⟨t.f,t.w,0⟩:Tg))=M.map fun t=>⟨t.f,t.w,0⟩:=fun{L M}e=>by
  have:=congrArg (List.map fun p:Int×Int=>(⟨p.1,p.2,0⟩:Tg)) e;unfold bM at this
  rwa [List.map_map,List.map_map]at this
 refine⟨by rw[hj],h.t.pg he,h.aw,?_,?_,?_,h.c,h.x,h.nu,h.nv⟩
 ·unfold acM pg;dsimp only;rw[hj];dsimp only;rw[hpt,hpt ⟨f,w,max s.R.tm (s.R.old f)⟩,hmp h.pts]
 ·exact NM h.lg f w
 ·exact(Vv s.D f w).trans h.sum
theorem fQ.wH(h:fQ i m N s)(f wt:Int):fQ i m N (wH s f wt).2:=by
 unfold Go.Proofs.YtfejhikpfhgbeaaGreatDoor.wH;by_cases he:gG s.R f wt=0
 ·rw[if_pos he];exact(h.join he).2
 ·rw[if_neg he];exact h
theorem SN(h:fQ i m N s)(f wt:Int):gG s.R f wt=0->(jD s.D f wt).1=0:=fun he=>(h.join he).1
end
section
variable{W w w':aF}{R:aJ}{b N:Nat}{Sp:SP}
theorem Tryz.headT:bS prog 290 294 3 24:=bS.mk' (z:=.agg #[aC,aC,.bool false]) underlying290 (by kernel_rfl) rfl (by decide)
end
end Go.Proofs.YtfejhikpfhgbeaaGreatDoor
