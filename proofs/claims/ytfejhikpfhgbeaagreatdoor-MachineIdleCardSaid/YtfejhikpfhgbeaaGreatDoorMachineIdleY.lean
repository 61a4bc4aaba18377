import Derived.Test.YtfejhikpfhgbeaaGreatDoorMachineIdleV
set_option maxHeartbeats 25600000
set_option maxRecDepth 100000
set_option linter.all false
namespace Go.Proofs.YtfejhikpfhgbeaaGreatDoor
open Go.Proofs.Tryz
open Go.RowKit
open SP
section
variable{w w':aF}{R:aJ}{b rp ab:Nat}{aI:Int}{s:Iw}{m:List (Int×Acc)}
theorem zg(x:Int)(w:aF):Calls prog 431 #[x] w (fun e w'=>e=.returned (.bool false)/\w=w'):=by go_enter func431,ntmps431;go_wp2;go_ret;simp
theorem GN(x:Int)(w:aF):Calls prog 246 #[x] w (fun e w'=>e=.returned (.bool false)/\w=w'):=by go_enter func246,ntmps246;go_wp2;go_ret;simp
theorem GQ(x y:Int)(w:aF):Calls prog 428 #[x,y] w (bN (.int .i64 (gT x y)) w):=by
 by_cases h1:x<y
 ·have e:gT x y=-1:=if_pos h1;rw[e];clear e;go_enter func428,ntmps428;go_wp2_with(go_at_call 431;refine(zg _ _).mono ?_;rintro e w'⟨rfl,rfl⟩);go_ret;exact⟨rfl,rfl⟩
 ·by_cases h2:y<x
  ·have e:gT x y=1:=by unfold gT;rw[if_neg h1,if_pos h2]
   rw[e];clear e;go_enter func428,ntmps428;go_wp2_with(go_at_call 431;refine(zg _ _).mono ?_;rintro e w'⟨rfl,rfl⟩);go_ret;exact⟨rfl,rfl⟩
  ·have e:gT x y=0:=by unfold gT;rw[if_neg h1,if_neg h2]
   rw[e];clear e;go_enter func428,ntmps428;go_wp2_with(go_at_call 431;refine(zg _ _).mono ?_;rintro e w'⟨rfl,rfl⟩);go_ret;exact⟨rfl,rfl⟩
theorem GR(x y:Int)(w:aF):Calls prog 191 #[x,y] w (bN (.int .i64 (gT x y)) w):=by
 by_cases h1:x<y
 ·have e:gT x y=-1:=if_pos h1;rw[e];clear e;go_enter func191,ntmps191;go_wp2_with(go_at_call 246;refine(GN _ _).mono ?_;rintro e w'⟨rfl,rfl⟩);go_ret;exact⟨rfl,rfl⟩
 ·by_cases h2:y<x
  ·have e:gT x y=1:=by unfold gT;rw[if_neg h1,if_pos h2]
   rw[e];clear e;go_enter func191,ntmps191;go_wp2_with(go_at_call 246;refine(GN _ _).mono ?_;rintro e w'⟨rfl,rfl⟩);go_ret;exact⟨rfl,rfl⟩
  ·have e:gT x y=0:=by unfold gT;rw[if_neg h1,if_neg h2]
   rw[e];clear e;go_enter func191,ntmps191;go_wp2_with(go_at_call 246;refine(GN _ _).mono ?_;rintro e w'⟨rfl,rfl⟩);go_ret;exact⟨rfl,rfl⟩
theorem WL(x wt:Int)(h1:-1099511627776<=x)(h2:x<=1099511627776)(h3:1<=wt)(h4:wt<=16)(w:aF):
  Calls prog 429 #[x,wt] w (bN (.tuple #[(x*iG wt:Int),aC]) w):=by
 have hw:=tY wt w;rw[show decide (1<=wt/\wt<=16)=true from by simp;omega]at hw;obtain⟨u1,u2⟩:=ru h3 h4;have m1:x*iG wt<=1099511627776*720720:=by
  by_cases h0:0<=x
  ·exact Int.mul_le_mul h2 u2 (by omega) (by omega)
  ·have:=Int.mul_nonneg (show 0<=-x by omega) (show 0<=iG wt by omega);rw[Int.neg_mul]at this;omega
 have m2:-(1099511627776*720720)<=x*iG wt:=by
  by_cases h0:0<=x
  ·have:=Int.mul_nonneg h0 (show 0<=iG wt by omega);omega
  ·have:=Int.mul_le_mul (show-x<=1099511627776 by omega) u2 (by omega) (by omega);rw[Int.neg_mul]at this;omega
 have e1:Int.tdiv 720720 wt=iG wt:=rfl;obtain⟨z,hz⟩:=aP (x*iG wt);rw[hz]at m1 m2⊢;generalize iG wt=u at*;have hz:¬wt=0:=by omega
 have d1:=bW (show¬(x< -1099511627776)by omega);have d2:=bW (show¬(1099511627776<x)by omega);go_enter func429,ntmps429;go_wp2_with fail;refine hw.mono ?_;rintro e1 w1⟨rfl,rfl⟩;go_wp2;go_ret2;exact⟨rfl,rfl⟩
def DT(w w':aF):Prop:=∃(q:Nat)(os:Array Obj),w'=Go.Sort.grow (w.drewN q) os
theorem DT.refl(w:aF):DT w w:=⟨0,#[],by rw[Go.Sort.grow_empty];rfl⟩
theorem WM(w:aF)(p q:Nat):(w.drewN p).drewN q=w.drewN (p+q):=by unfold World.drewN;simp[Nat.add_assoc]
theorem DT.trans{a b c:aF}(h:DT a b)(k:DT b c):DT a c:=by obtain⟨p,os,rfl⟩:=h;obtain⟨q,os',rfl⟩:=k;refine⟨p+q,os++os',?_⟩;rw[<-Go.Sort.grow_grow,<-WM];rfl
theorem DT.alloc{a b:aF}(h:DT a b)(x:Obj):DT a (b.alloc x):=h.trans ⟨0,#[x],by rw[Go.Sort.alloc_eq_grow];rfl⟩
theorem DT.drew{a b:aF}(h:DT a b):DT a b.drew:=h.trans ⟨1,#[],by rw[Go.Sort.grow_empty];rfl⟩
theorem DT.calm(h:DT w w'):Calm w w':=by obtain⟨p,os,rfl⟩:=h;exact⟨rfl,rfl,rfl⟩
theorem Own.grw{l:aJ}(o:Own w l)(h:DT w w'):Own w' l:=by obtain⟨p,os,rfl⟩:=h;obtain⟨σ,hs,hw⟩:=o;refine⟨σ,hs,fun k x hk=>?_⟩;have h1:=hw k x hk;show(w.heap++os)[k]?=some x;rw[Array.getElem?_append_left (Ns.1 h1).1];exact h1
def PX(v:aL)(w:aF)(e:Ending)(w':aF):Prop:=e=.returned v/\DT w w'
def Zz(m:List (Int×Acc)):Prop:=∀f,-1099511627776<=(cu m f).1/\(cu m f).1<=1099511627776
theorem abr{x wt st:Int}(h1:-1099511627776<=x)(h2:x<=1099511627776)(h3:1<=wt)(h4:wt<=16)(h5:0<=st)(h6:st<=1099511627776):
  -9223372036854775808<=st-x*iG wt/\st-x*iG wt<=9223372036854775807:=by
 obtain⟨u1,u2⟩:=ru h3 h4;have m1:x*iG wt<=1099511627776*720720:=by
  by_cases h0:0<=x
  ·exact Int.mul_le_mul h2 u2 (by omega) (by omega)
  ·have:=Int.mul_nonneg (show 0<=-x by omega) (show 0<=iG wt by omega);rw[Int.neg_mul]at this;omega
 have m2:-(1099511627776*720720)<=x*iG wt:=by
  by_cases h0:0<=x
  ·have:=Int.mul_nonneg h0 (show 0<=iG wt by omega);omega
  ·have:=Int.mul_le_mul (show-x<=1099511627776 by omega) u2 (by omega) (by omega);rw[Int.neg_mul]at this;omega
 omega
theorem Tryz.fieldI(x y z:aL)(w:aF):(Instr.field 333 (.agg #[x,y,z]) 0).run prog w=.ok x w/\(Instr.field 333 (.agg #[x,y,z]) 1).run prog w=.ok y w/\(Instr.field 333 (.agg #[x,y,z]) 2).run prog w=.ok z w:=⟨by kernel_rfl,by kernel_rfl,by kernel_rfl⟩
theorem PY{t:Tg}(hm:Zz m)(h3:1<=t.w)(h4:t.w<=16)(h5:0<=t.s)(h6:t.s<=1099511627776)(o:Own w (uW b rp ab::bB eu ab m::R)):
  Calls prog 421 #[b,iL t] w (PX (.int .i64 (Eh m t)) w):=by
 have hrg:=abr (hm t.f).1 (hm t.f).2 h3 h4 h5 h6;have hnm:=fun w=>WL (cu m t.f).1 t.w (hm t.f).1 (hm t.f).2 h3 h4 w;obtain⟨-,cl,-,c1,-⟩:=o.cs;have oA:=(o.alloc (.cells #[t.f,t.w,t.s] 484)).drew;have hlk:=Dy (oA.up 2) t.f;unfold iL Eh;unfold eu at hlk;obtain⟨f,wt,st⟩:=t;dsimp only at*;generalize cu m f=A at*;obtain⟨x,x1,x2⟩:=A;dsimp only at*;generalize x*iG wt=z at*;have hf0:=fun w=>(Tryz.fieldI (.int .i64 x) (.int .i64 x1) (.int .i64 x2) w).1;go_enter func421,ntmps421;go_wp2;refine wp_region_tail 15 (by kernel_rfl) (by kernel_rfl) ?_;simp only[xe,List.take_zero,yB,List.drop_zero];repeat still_step
 still_call (bN.still (hnm _))
 repeat still_step
 refine wpStill_nil ?_;go_wp2;go_ret;exact⟨rfl,((DT.refl w).alloc _).drew⟩
theorem DU(t:Tg)(w:aF):Calls prog 422 #[iL t] w (PX (.int .i64 t.s) w):=by unfold iL;go_enter func422,ntmps422;go_wp2;go_ret;exact⟨rfl,(DT.refl w).alloc _⟩
end
section
variable{w w':aF}{R:aJ}{b rp ab kb:Nat}{m:List (Int×Acc)}
structure TgR(t:Tg):Prop where
 w1:1<=t.w
 w2:t.w<=16
 s1:0<=t.s
 s2:t.s<=1099511627776
abbrev abt(b:Nat):aL:=.func (.func 421) #[b] #[]
abbrev ad7:aL:=.func (.func 422) #[] #[]
abbrev Jj(kb:Nat)(kv:aL):SP:=aH kb 529 [kv]
theorem iX{g:Nat}{t:Tg}(o:Own w (aH g 484 (dA t)::R)):w.cell? ⟨g,0,none⟩=some ↑t.f/\w.cell? ⟨g,1,none⟩=some ↑t.w/\w.cell? ⟨g,2,none⟩=some ↑t.s:=⟨o.cell 0,o.cell 1,o.cell 2⟩
theorem PZ{x y:Tg}(hm:Zz m)(hx:TgR x)(hy:TgR y)(o:Own w (Jj kb (abt b)::uW b rp ab::bB eu ab m::R)):
  Calls prog 427 #[iL x,iL y,kb] w (PX (.int .i64 (orZ (gT (Eh m x) (Eh m y)) (gT x.f y.f))) w):=by
 have oA:Own ((w.alloc (.cells (dA x).toArray 484)).alloc (.cells (dA y).toArray 484)) (aH (w.heap.size+1) 484 (dA y)::aH w.heap.size 484 (dA x)::Jj kb (abt b)::uW b rp ab::bB eu ab m::R):=by have:=(o.alloc (.cells (dA x).toArray 484)).alloc (.cells (dA y).toArray 484);simp only[World.size_alloc]at this;exact this
 have oD:=oA.drew;obtain⟨y0,y1,y2⟩:=iX oA;obtain⟨x0,x1,x2⟩:=iX (oA.up 1);obtain⟨-,kl,k0,-⟩:=o.cs;have hcx:=PY hm hx.w1 hx.w2 hx.s1 hx.s2 (oD.re [3,4]);have hcy:=fun(w2:aF)(o:Own w2 (aH (w.heap.size+1) 484 (dA y)::aH w.heap.size 484 (dA x)::Jj kb (abt b)::uW b rp ab::bB eu ab m::R))=>PY hm hy.w1 hy.w2 hy.s1 hy.s2 (o.re [3,4]);generalize Eh m x=X at*;generalize Eh m y=Y at*;obtain⟨f,wt,st⟩:=x;obtain⟨f2,wt2,st2⟩:=y;unfold iL at*;unfold dA at hcx;dsimp only at*;go_enter func427,ntmps427;go_wp2
 go_region_held3(fun w'=>(w'.cell? ⟨kb,0,none⟩=some (abt b)/\w'.cell? ⟨w.heap.size,0,none⟩=some ↑f/\w'.cell? ⟨w.heap.size,1,none⟩=some ↑wt/\w'.cell? ⟨w.heap.size,2,none⟩=some ↑st)/\w'.cell? ⟨w.heap.size+1,0,none⟩=some ↑f2/\w'.cell? ⟨w.heap.size+1,1,none⟩=some ↑wt2/\w'.cell? ⟨w.heap.size+1,2,none⟩=some ↑st2) (go_keep) (first
  |(go_at_call 421;(with_reducible refine hcx.mono ?_);rintro e1 w2⟨rfl,g1⟩;have o2:=oD.grw g1;obtain⟨p0,p1,p2⟩:=iX o2;obtain⟨q0,q1,q2⟩:=iX (o2.up 1);have r0:=(o2.up 2).cell 0;have ad8:=hcy _ o2)
  |(go_at_call 421;(with_reducible refine ad8.mono ?_);rintro e1 w3⟨rfl,g2⟩;have o3:=o2.grw g2;obtain⟨u0,u1,u2⟩:=iX o3;obtain⟨v0,v1,v2⟩:=iX (o3.up 1);have z0:=(o3.up 2).cell 0)
  |(go_at_call 428;(with_reducible refine(GQ _ _ _).mono ?_);rintro e1 w4⟨rfl,rfl⟩)
  |(go_at_call 191;(with_reducible refine(GR _ _ _).mono ?_);rintro e1 w5⟨rfl,rfl⟩)
  |(go_at_call 401;(refine(LQ w3.heap.size (gT X Y) (gT f f2) _ ?_ ?_).mono ?_);(go_simp);(go_simp);rintro e1 w6⟨rfl,rfl⟩))
 go_wp2;go_ret;exact⟨rfl,(((((DT.refl w).alloc _).alloc _).drew.trans g1).trans g2).alloc _⟩
theorem P5{x y:Tg}(o:Own w (Jj kb ad7::R)):
  Calls prog 427 #[iL x,iL y,kb] w (PX (.int .i64 (orZ (gT (x.s) (y.s)) (gT x.f y.f))) w):=by
 have oA:Own ((w.alloc (.cells (dA x).toArray 484)).alloc (.cells (dA y).toArray 484)) (aH (w.heap.size+1) 484 (dA y)::aH w.heap.size 484 (dA x)::Jj kb ad7::R):=by have:=(o.alloc (.cells (dA x).toArray 484)).alloc (.cells (dA y).toArray 484);simp only[World.size_alloc]at this;exact this
 have oD:=oA.drew;obtain⟨y0,y1,y2⟩:=iX oA;obtain⟨x0,x1,x2⟩:=iX (oA.up 1);obtain⟨-,kl,k0,-⟩:=o.cs;have hcx:=DU x;have hcy:=DU y;obtain⟨f,wt,st⟩:=x;obtain⟨f2,wt2,st2⟩:=y;unfold iL at*
 skip
 dsimp only at*;go_enter func427,ntmps427;go_wp2
 go_region_held3(fun w'=>(w'.cell? ⟨kb,0,none⟩=some (ad7)/\w'.cell? ⟨w.heap.size,0,none⟩=some ↑f/\w'.cell? ⟨w.heap.size,1,none⟩=some ↑wt/\w'.cell? ⟨w.heap.size,2,none⟩=some ↑st)/\w'.cell? ⟨w.heap.size+1,0,none⟩=some ↑f2/\w'.cell? ⟨w.heap.size+1,1,none⟩=some ↑wt2/\w'.cell? ⟨w.heap.size+1,2,none⟩=some ↑st2) (go_keep) (first
  |(go_at_call 422;(with_reducible refine(hcx _).mono ?_);rintro e1 w2⟨rfl,g1⟩;have o2:=oD.grw g1;obtain⟨p0,p1,p2⟩:=iX o2;obtain⟨q0,q1,q2⟩:=iX (o2.up 1);have r0:=(o2.up 2).cell 0;have ad8:=hcy w2)
  |(go_at_call 422;(with_reducible refine ad8.mono ?_);rintro e1 w3⟨rfl,g2⟩;have o3:=o2.grw g2;obtain⟨u0,u1,u2⟩:=iX o3;obtain⟨v0,v1,v2⟩:=iX (o3.up 1);have z0:=(o3.up 2).cell 0)
  |(go_at_call 428;(with_reducible refine(GQ _ _ _).mono ?_);rintro e1 w4⟨rfl,rfl⟩)
  |(go_at_call 191;(with_reducible refine(GR _ _ _).mono ?_);rintro e1 w5⟨rfl,rfl⟩)
  |(go_at_call 401;(refine(LQ w3.heap.size (gT st st2) (gT f f2) _ ?_ ?_).mono ?_);(go_simp);(go_simp);rintro e1 w6⟨rfl,rfl⟩))
 go_wp2;go_ret;exact⟨rfl,(((((DT.refl w).alloc _).alloc _).drew.trans g1).trans g2).alloc _⟩
end
section
open Go.RowKit Go.Shelf Go.Lib Go.Sort
abbrev Sub(L:List Tg):Type:={t:Tg//t∈L}
theorem Ko{L:List Tg}[Inhabited (Sub L)](d:Array (Sub L)):(flatK (fun x:Sub L=>dA x.1) 3 d).toList=flat dA (d.toList.map (·.1)):=by
 apply List.ext_getElem?;intro t;by_cases ht:t<d.size*3
 ·have hi:t/3<d.size:=by omega
  have h1:(flatK (fun x:Sub L=>dA x.1) 3 d).toList[t]?=some ((flatK (fun x:Sub L=>dA x.1) 3 d)[t]!):=by rw[Array.getElem?_toList,getElem!_pos (flatK (fun x:Sub L=>dA x.1) 3 d) t (by simpa using ht)];exact Array.getElem?_eq_getElem _
  have h0:(d.toList.map (·.1))[t/3]?=some d[t/3]!.1:=by rw[kI,Array.getElem?_toList,getElem!_pos d (t/3) hi,Array.getElem?_eq_getElem hi];rfl
  have h2:=aB iQ (d.toList.map (·.1)) (t/3) (t%3) d[t/3]!.1 h0 (Nat.mod_lt _ (by omega));rw[h1,get_flatK _ _ _ _ ht];rw[show t/3*3+t%3=t from by omega]at h2;rw[h2];have h3:t%3<(dA d[t/3]!.1).length:=by rw[iQ];exact Nat.mod_lt _ (by omega)
  rw[cZ h3,getElem!_pos (dA d[t/3]!.1) (t%3) h3]
 ·rw[QY (by simp;omega),QY (by rw[aN iQ];simp;omega)]
def WN(key:Tg->Int)(x y:Tg):Int:=orZ (gT (key x) (key y)) (gT x.f y.f)
theorem wI(key:Tg->Int){L:List Tg}(x y:Sub L):ltOf (fun a b:Sub L=>WN key a.1 b.1) x y=I6 key x.1 y.1:=by unfold ltOf WN orZ gT I6;rw[decide_eq_decide];by_cases h1:key x.1<key y.1<;>by_cases h2:key y.1<key x.1<;>by_cases h3:x.1.f<y.1.f<;>by_cases h4:y.1.f<x.1.f<;>simp[h1,h2,h3,h4]<;>omega
theorem ahl(key:Tg->Int)(L:List Tg):SWO (ltOf (fun a b:Sub L=>WN key a.1 b.1)) where
 irrefl x:=by rw[wI];exact Gl key x.1
 trans x y z h1 h2:=by rw[wI]at*;exact Ce h1 h2
 ntrans x y z h1 h2:=by rw[wI]at*;unfold I6 at*;simp only[decide_eq_false_iff_not]at*;omega
theorem afK{l1 l2:List Tg}(hp:l1.Perm l2)(h:l2.Pairwise (fun a b=>a.f<b.f)):l1.Pairwise (fun a b=>a.f≠b.f):=
 hp.symm.pairwise (h.imp fun hab=>by omega) fun hab=>hab.symm
theorem WO{key:Tg->Int}{L:List Tg}(h:L.Pairwise (fun a b=>a.f<b.f)):
  (L.attach.mergeSort fun x y:Sub L=>!(ltOf (fun a b:Sub L=>WN key a.1 b.1)) y x).map (·.1)=uB key L:=by
 have hperm:((L.attach.mergeSort fun x y:Sub L=>!(ltOf (fun a b:Sub L=>WN key a.1 b.1)) y x).map (·.1)).Perm L:=by
  have:=(List.mergeSort_perm L.attach (fun x y:Sub L=>!(ltOf (fun a b:Sub L=>WN key a.1 b.1)) y x)).map (·.1)
  rwa [List.attach_map_subtype_val]at this
 refine J7 (key:=key) (hperm.trans (xx key L).symm) ?_ (Dx h);have hne:=afK hperm h;rw[List.pairwise_map]at hne⊢
 have hs:=List.pairwise_mergeSort (le:=fun x y:Sub L=>!(ltOf (fun a b:Sub L=>WN key a.1 b.1)) y x) (fun a b c h1 h2=>by
   rw[Bool.not_eq_true']at*;rw[wI]at*;unfold I6 at*;simp only[decide_eq_false_iff_not]at*
   omega) (fun a b=>by
   rw[Bool.or_eq_true,Bool.not_eq_true',Bool.not_eq_true',wI,wI];unfold I6;simp only[decide_eq_false_iff_not]
   omega) L.attach
 refine(hs.and hne).imp fun{a b}hab=>?_;obtain⟨h1,h2⟩:=hab;rw[Bool.not_eq_true',wI]at h1;exact Y2 (fun e=>h2 e.symm) (by rw[h1];simp)
section
variable{W w w':aF}{R:aJ}{b rp ab kb:Nat}{m:List (Int×Acc)}
theorem Own.MP{g:Nat}{xs sp:dw}{F:Array aL}{n:Nat}{os:Array Obj}{T:TypeId}(o:Own w (SP.blk g (.cells (xs++sp).toArray T (0,0))::R))(hF:F.size=xs.length):
  Own (grow (putRow id (Sort.ahead w n) g 0 F) os) (SP.blk g (.cells (F.toList++sp).toArray T (0,0))::R):=by
 have hb:=o.blk;have hlt:=o.lt;refine o.put ?_ (fun k hk hk2=>?_)
 ·have h1:(grow (putRow id (Sort.ahead w n) g 0 F) os).heap[g]?=(putRow id (Sort.ahead w n) g 0 F).heap[g]?:=by unfold grow;show((putRow id (Sort.ahead w n) g 0 F).heap++os)[g]?=_;rw[Array.getElem?_append_left (by simpa[putRow,mapBlock,Sort.ahead]using hlt)]
  rw[h1];show(w.heap.modify g (onCells (putCells id 0 F)))[g]?=_;rw[Array.getElem?_modify,if_pos rfl,hb];simp only[Option.map_some,onCells];congr 2;apply Array.ext_getElem?;intro k;simp only[putCells,Array.getElem?_mapIdx,o_,Nat.zero_le,true_and,Nat.zero_add,Nat.sub_zero,id];by_cases hk:k<F.size
  ·rw[List.getElem?_append_left (by omega),List.getElem?_append_left (by simpa using hk),cZ (by omega)];simp[hk]
  ·rw[List.getElem?_append_right (by omega),List.getElem?_append_right (by simp;omega),hF];simp[hF▸hk,hF]
 ·unfold grow;show((putRow id (Sort.ahead w n) g 0 F).heap++os)[k]?=_;rw[Array.getElem?_append_left (by simpa[putRow,mapBlock,Sort.ahead]using hk2)];show(w.heap.modify g (onCells (putCells id 0 F)))[k]?=_;rw[Array.getElem?_modify,if_neg (fun h=>hk h.symm)]
theorem SS{key:Tg->Int}{a:aY}{n c:Nat}{L:List Tg}{B:SP}(hok:L.Pairwise (fun a b=>a.f<b.f))(hne:L≠[])(hn:n=L.length)(hn2:n<=1000000)
  (hcmp:∀(w:aF)(R':aJ),Own w (B::R')->∀x∈L,∀y∈L,Calls prog 427 #[iL x,iL y,kb] w (PX (.int .i64 (WN key x y)) w))
  (o:Own w (slc 484 3 a n c (flat dA L)::B::R)):
  Calls prog 426 #[.slice a n c,.func (.func 427) #[] #[kb]] w (aR (.tuple #[]) (slc 484 3 a n c (flat dA (uB key L))::B::R) w):=by
 subst hn;rcases Own.slc.1 o with⟨rfl,hz,rfl,hx,o1⟩|⟨g,sp,rfl,h1,h2,h3,h4,o1⟩
 ·exact absurd (CO hz) hne
 ·obtain⟨t0,ht0⟩:=List.exists_mem_of_ne_nil L hne
  haveI:Inhabited (Sub L):=⟨⟨t0,ht0⟩⟩
  have eg:∀args w,(callFunc 427 args).run prog w=.ok (.enter 427 args) w:=enters_of func427 (by kernel_rfl) rfl;have hat:(L.attach.toArray.toList.map (·.1))=L:=by rw[List.toList_toArray,List.attach_map_subtype_val]
  have hsz0:L.attach.toArray.size=L.length:=by simp
  have hH:HoldsK (fun x:Sub L=>dA x.1) 3 w g 0 L.attach.toArray:=by
   intro t ht;have ht2:t<L.length*3:=by simpa using ht
   have hget:(flatK (fun x:Sub L=>dA x.1) 3 L.attach.toArray)[t]?=some ((flatK (fun x:Sub L=>dA x.1) 3 L.attach.toArray)[t]!):=by rw[getElem!_pos _ t ht];exact Array.getElem?_eq_getElem ht
   rw[<-Array.getElem?_toList,Ko,hat]at hget;refine⟨?_,?_⟩
   ·rw[Nat.zero_add];exact Own.cell (T:=484) (vs:=flat dA L++sp) o1 t (by rw[List.getElem?_append_left (eU.1 hget).1];exact hget)
   ·exact Own.frozen (T:=484) (vs:=flat dA L++sp) o1 _
  have ad9:CmpLays prog 427 #[kb] (fun x:Sub L=>dA x.1) 3 (fun x y:Sub L=>WN key x.1 y.1) g 0 L.attach.toArray.size w:=by
   intro m os dk hdk x y;have hsz:(flatK (fun x:Sub L=>dA x.1) 3 dk).size=(flat dA L).length:=by rw[size_flatK,aN iQ,hdk,hsz0]
   have oS:=Own.MP (F:=flatK (fun x:Sub L=>dA x.1) 3 dk) (n:=m) (os:=os) o1 hsz;exact(hcmp _ _ oS.drop x.1 x.2 y.1 y.2).mono fun e w' h=>h
  have hcon:=AnyQ.slices_SortFunc_total (P:=prog) Tryz.sortT 3 isAgg484 sizeOf484 (fun x:Sub L=>dA x.1) (fun _=>rfl) (fun x v hv=>by simp[dA]at hv;rcases hv with rfl|rfl|rfl<;>rfl) (fun x y:Sub L=>WN key x.1 y.1) (ahl key L) 427 #[kb] g 0 c L.attach.toArray w eg ad9 hH o1.lt (by rw[hsz0];omega)
   (fun x y h1 h2=>by
    rw[wI]at h1 h2;have hf:x.1.f=y.1.f:=by unfold I6 at h1 h2;simp only[decide_eq_false_iff_not]at h1 h2;omega
    refine Subtype.ext ?_;obtain⟨i,hi⟩:=List.getElem?_of_mem x.2;obtain⟨j,hj⟩:=List.getElem?_of_mem y.2;obtain⟨i1,i2⟩:=eU.1 hi;obtain⟨j1,j2⟩:=eU.1 hj;rcases Nat.lt_trichotomy i j with hlt|rfl|hlt
    ·have:=List.pairwise_iff_getElem.1 hok i j i1 j1 hlt;rw[i2,j2]at this;omega
    ·rw[<-i2,<-j2]
    ·have:=List.pairwise_iff_getElem.1 hok j i j1 i1 hlt
     rw[i2,j2]at this;omega)
  rw[hsz0]at hcon;change Calls prog 426 _ _ _ at hcon;refine hcon.mono ?_;rintro e w'⟨rfl,n,os,rfl⟩;have E9:=WO (key:=key) hok;have hsz:(flatK (fun x:Sub L=>dA x.1) 3 (L.attach.toArray.toList.mergeSort fun x y:Sub L=>!(ltOf (fun x y:Sub L=>WN key x.1 y.1)) y x).toArray).size=(flat dA L).length:=by rw[size_flatK,aN iQ,List.size_toArray,List.length_mergeSort];simp
  have o2:=Own.MP (F:=flatK (fun x:Sub L=>dA x.1) 3 (L.attach.toArray.toList.mergeSort fun x y:Sub L=>!(ltOf (fun x y:Sub L=>WN key x.1 y.1)) y x).toArray) (n:=n) (os:=os) o1 hsz;rw[Ko,List.toList_toArray,List.toList_toArray,E9]at o2;refine⟨rfl,Own.slc.2 (.inr ⟨g,sp,rfl,h1,h2,by rw[aN iQ,Av],h4,o2⟩),⟨rfl,rfl,rfl⟩⟩
end
end
section
variable{W w w':aF}{R:aJ}{b rp ab kb:Nat}{m:List (Int×Acc)}
theorem ZA{e:TypeId}{size:Nat}{a:aY}{n c:Nat}{xs:dw}(h1:∀u∈xs,u.oneCell'=true)(o:Own w (slc e size a n c xs::R)):qX w (.slice a n c) size n xs:=by
 have hl:=o.fA.1;refine⟨a,c,rfl,hl,h1,?_⟩;rcases Own.slc.1 o with⟨_,h,_⟩|⟨g,sp,rfl,_,_,_,_,o1⟩
 ·exact .inl h
 ·refine .inr ⟨_,rfl,fun j u hu=>?_⟩;have hadd:(⟨g,0,none⟩:Addr).add j=⟨g,j,none⟩:=by unfold Addr.add;split<;>simp_all
  rw[hadd];exact Own.cell o1 j (by rw[List.getElem?_append_left (eU.1 hu).1];exact hu)
theorem ZB(S:List Tg):∀u∈flat dA S,u.oneCell'=true:=by intro u hu;obtain⟨s,_,hs⟩:=List.mem_flatMap.1 hu;unfold dA at hs;simp at hs;rcases hs with rfl|rfl|rfl<;>rfl
theorem MQ{a:aY}{n c:Nat}{S:List Tg}(hn:n<=1000)(o:Own w (slc 484 3 a n c (flat dA S)::R)):
  Calls prog 425 #[.slice a n c] w fun e w'=>∃a' c',aR (.slice a' n c') (slc 484 3 a' n c' (flat dA S)::slc 484 3 a n c (flat dA S)::R) w e w':=by
 have hnil:=fun(w:aF)(a:aY)(n c:Nat)=>Lib.run_eql_slice_nil w 496 484 a n c 0 0 underlying496;rcases Own.slc.1 o with⟨rfl,rfl,rfl,hS,o1⟩|⟨g,sp,rfl,h1,h2,h3,h4,o1⟩
 ·have o2:=Own.bH (e:=484) (size:=3) o;rw[<-hS]at o2;clear hS;go_enter func425,ntmps425;go_wp2;go_ret;exact⟨none,0,rfl,o2,Calm.refl w⟩
 ·clear o1 h1 h2 h3 h4 sp;have oZ:=sG (e:=484) (size:=3) (o.alloc (.cells #[] 484));have hsrc:=ZA (ZB S) (oZ.up 1);go_enter func425,ntmps425;go_wp2_with(at_builtin;refine aQ rfl _ _ rfl Tryz.tagT rfl oZ rfl hsrc (by unfold maxLen;omega) (by omega) ?k1);case k1=>intro a' c' w6 o6 k6;go_wp2;go_ret;exact⟨a',c',rfl,o6,⟨k6.os,k6.tape,k6.output⟩⟩
theorem Tryz.intIw:bS prog 22 3 1 8:=bS.mk' underlying22 (z:=.int .i64 0) (by kernel_rfl) (by kernel_rfl) (by omega)
def P6(L:List Tg):dw:=(L.map (·.f)).map (Value.int .i64)
theorem ZC(L:List Tg)(i:Nat)(t:Tg)(h:L[i]?=some t):P6 (L.take (i+1))=P6 (L.take i)++[.int .i64 t.f]:=by unfold P6;rw[tH,h];simp
def ZE(M:List Tg)(a1:aY)(c1:Nat)(B:SP)(R:aJ)(w:aF)(v5 v15:aL)(wr:aF):Prop:=
 ∃(i:Nat)(a5:aY)(c5:Nat),v15=↑(i:Int)/\i<=M.length/\v5=.slice a5 i c5/\
  Own wr (slc 3 1 a5 i c5 (P6 (M.take i))::slc 484 3 a1 M.length c1 (flat dA M)::B::R)/\Calm w wr
def SV(M:List Tg)(a:aY)(n c:Nat)(L:List Tg)(Q:SP)(R:aJ)(w:aF)(e:Ending)(w':aF):Prop:=
 ∃(a':aY)(c':Nat),aR (.slice a' n c') (slc 3 1 a' n c' (P6 M)::slc 484 3 a n c (flat dA L)::Q::R) w e w'
theorem DW{key:Tg->Int}{fn:Nat}{bs:Array aL}{a:aY}{n c:Nat}{L:List Tg}{Q:SP}(hok:L.Pairwise (fun a b=>a.f<b.f))(hne:L≠[])(hn:n=L.length)(hn2:n<=1000)
  (hcmp:∀(kb:Nat)(w:aF)(R':aJ),Own w (Jj kb (.func (.func fn) bs #[])::Q::R')->∀x∈L,∀y∈L,Calls prog 427 #[iL x,iL y,kb] w (PX (.int .i64 (WN key x y)) w))
  (o:Own w (slc 484 3 a n c (flat dA L)::Q::R)):
  Calls prog 420 #[.slice a n c,.func (.func fn) bs #[]] w (SV (uB key L) a n c L Q R w):=by
 have oA:Own (w.alloc (.cells #[.func (.func fn) bs #[]] 529)) (Jj w.heap.size (.func (.func fn) bs #[])::slc 484 3 a n c (flat dA L)::Q::R):=o.alloc _;have hcl:=MQ hn2 (oA.re [1]);have HN:=az hn;have hM:=Av key L;obtain⟨M,hMM⟩:=aP (uB key L);rw[hMM]at hM;have HM:=az hM;have HMM:=az hMM;rw[hMM];clear hn hM hMM;go_enter func420,ntmps420;go_wp2_with fail;refine hcl.mono ?_;rintro e1 w1⟨a1,c1,rfl,o1,k1⟩;clear hcl;have oS:Own w1 (slc 484 3 a1 n c1 (flat dA L)::st [Jj w.heap.size (.func (.func fn) bs #[]),Q]::slc 484 3 a n c (flat dA L)::R):=Own.swap (Own.st.2 (o1.re [2,3,0,1]));have hsr:=SS (key:=key) (kb:=w.heap.size) (c:=c1) hok hne HN.out (by omega) (fun w R' o=>hcmp _ w R' (Own.st.1 o)) oS;rw[HMM.out]at hsr;generalize w.heap.size=kb at*;have b0:=Own.cell (T:=529) (vs:=[.func (.func fn) bs #[]]) (o1.up 2) 0;go_wp2_with fail;refine hsr.mono ?_;rintro e2 w2⟨rfl,o2,k2⟩;have hnM:n=M.length:=by rw[HN.out,HM.out]
 have hT:ZE M a1 c1 (st [Jj kb (.func (.func fn) bs #[]),Q]) (slc 484 3 a n c (flat dA L)::R) w (.slice none 0 0) (.int .i64 0) w2:=⟨0,none,0,rfl,Nat.zero_le _,rfl,Own.bH (by rw[<-hnM];exact o2),(dB (Calm.refl w)).trans (k1.trans k2)⟩;have HNM:=az hnM;clear hsr oS o1 o2 k1 k2 oA o b0 hnM;go_wp2;go_loopw[5,15] (fun v5 v15 wr=>ZE M a1 c1 (st [Jj kb (.func (.func fn) bs #[]),Q]) (slc 484 3 a n c (flat dA L)::R) w v5 v15 wr) (fun _ v _=>n-(Lib.intOf v).toNat);case atStart=>exact hT
 case round=>
  clear hT;obtain⟨i,a5,c5,rfl,hi,rfl,oR,kR⟩:=hrel;by_cases hlt:i<n
  ·obtain⟨t,ht⟩:∃t,M[i]?=some t:=⟨_,cZ (by have:=HNM.out;omega)⟩;obtain⟨g,rfl,hc,_,hgl⟩:=(oR.up 1).aG (by have:=HNM.out;omega);have d0:=hc (i*3+0) _ (aB iQ M i 0 t ht (by omega));rw[Nat.add_zero]at d0;have d1:=hc (i*3+1) _ (aB iQ M i 1 t ht (by omega));have d2:=hc (i*3+2) _ (aB iQ M i 2 t ht (by omega));change wr.cell? ⟨g,i*3,none⟩=some ↑t.f at d0;change wr.cell? ⟨g,i*3+1,none⟩=some ↑t.w at d1;change wr.cell? ⟨g,i*3+2,none⟩=some ↑t.s at d2;clear hc;have HSN:=az (ZC M i t ht);have aiF:(n:Int)<=1000:=by omega
   have oA:=(oR.alloc (.cells #[t.f,t.w,t.s] 484)).drop;have oB:=oA.alloc (.cells #[t.f] 3);simp only[World.size_alloc]at oB;clear ht;go_wp2_with(at_builtin;refine aU rfl _ _ rfl Tryz.intIw rfl (oB.up 1) ⟨wr.heap.size+1,0,none⟩ 1 1 [t.f] rfl rfl ?c1 ?c2 ?c3 ?c4 ?c5);case c1=>exact Own.news (T:=3) oB
   case c2=>intro u hu;simp at hu;rcases hu with rfl;rfl
   case c3=>unfold maxLen;omega
   case c4=>omega
   case c5=>
   intro a6 c6 w6 o6 k6;go_wp2;go_roundw;case rel=>exact⟨i+1,a6,c6,by go_num,by have:=HNM.out;omega,rfl,by rw[HSN.out];exact o6.re [1] 1,kR.trans ⟨k6.os,k6.tape,k6.output⟩⟩
   case measure=>simp[Lib.intOf];omega
  ·have hin:i=n:=by have:=HNM.out;omega
   subst hin;have hnM:=HNM.out;rw[hnM,List.take_length]at oR;rw[<-hnM]at oR;clear hnM;go_wp2;go_ret;exact⟨a5,c5,rfl,(Own.st.1 (oR.re [2])).re [0,3,2,4,1] 2,kR⟩
end
section
variable{W w w':aF}{R:aJ}{b rp ab:Nat}{m:List (Int×Acc)}
theorem DT.drewN(w:aF)(n:Nat):DT w (w.drewN n):=⟨n,#[],by rw[Go.Sort.grow_empty]⟩
def P7(m:List (Int×Acc)):Prop:=∀f,(-1099511627776<=(cu m f).1/\(cu m f).1<=1099511627776)/\(0<=(cu m f).2.1/\(cu m f).2.1<=1099511627776)/\(0<=(cu m f).2.2/\(cu m f).2.2<=1099511627776)
theorem P7.lag(h:P7 m):Zz m:=fun f=>(h f).1
theorem GU{k j len:Int}(hm:P7 m)(h0:0<=len)(h1:len<=4096)(o:Own w (uW b rp ab::bB eu ab m::R)):
  Calls prog 423 #[b,k,j,len] w (PX (.bool (Pg m k j len)) w):=by
 have hlk:=fun n=>Dy ((o.drewN n).up 1) k;have hlj:=fun n=>Dy ((o.drewN n).up 1) j;obtain⟨-,cl,-,c1,-⟩:=o.cs;have hk:=hm k;have hj:=hm j;unfold Pg;unfold eu at hlk hlj;generalize cu m k=A at*;generalize cu m j=B at*;obtain⟨x,y,z⟩:=A;obtain⟨x2,y2,z2⟩:=B;dsimp only at*;have f0:=fun w=>(Tryz.fieldI (.int .i64 x) (.int .i64 y) (.int .i64 z) w).1;have f1:=fun w=>(Tryz.fieldI (.int .i64 x) (.int .i64 y) (.int .i64 z) w).2.1;have g0:=fun w=>(Tryz.fieldI (.int .i64 x2) (.int .i64 y2) (.int .i64 z2) w).1;have g2:=fun w=>(Tryz.fieldI (.int .i64 x2) (.int .i64 y2) (.int .i64 z2) w).2.2;by_cases hkj:k=j
 ·have e:(k==j)=true:=by simpa using hkj
  have e2:decide (k=j)=true:=by simpa using hkj
  rw[e2];clear hkj e2;go_enter func423,ntmps423;go_wp2;go_quiet(fail);go_wp2;go_ret;exact⟨rfl,DT.drewN w _⟩
 ·have e:(k==j)=false:=by simpa using hkj
  have e2:decide (k=j)=false:=by simpa using hkj
  rw[e2];clear hkj e2;cases d1:decide (x+len<=y)with
  |false=>go_enter func423,ntmps423;go_wp2;go_quiet(fail);go_wp2;go_ret;exact⟨rfl,DT.drewN w _⟩
  |true=>obtain⟨D,hD⟩:=aP (decide (-z2<=x2-len));rw[hD];go_enter func423,ntmps423;go_wp2;go_quiet(fail);go_wp2;go_ret;exact⟨rfl,DT.drewN w _⟩
end
section
variable{W w w':aF}{R:aJ}{b rp ab:Nat}{m:List (Int×Acc)}{aI:Int}{S S':St}
theorem ZF{fn:Func}(h:fn.results=#[.cell 8 297,.tmp 9]){tmps:Array aL}{p:Nat}{x y z:Int}{e:Int}(hp:tmps.getD 8 undef=.pointer (some ⟨p,0,none⟩))(he:tmps.getD 9 undef=↑e)
  (o:Own w (aH p 297 [x,y,z]::R)):(results fn tmps).run prog w=.ok (.tuple #[nQ ⟨x,y,z⟩,e]) w:=by
 obtain⟨-,-,c0,c1,c2,-⟩:=o.cs;rw[results_cell_tmp h,hp,he];unfold nQ;go_simp
abbrev wJ(p:Nat)(x y z:Int):SP:=aH p 297 [x,y,z]
theorem GV{p:Nat}{x y z:Int}(o:Own w (wJ p 0 0 0::R)):Own (((w.setCell ⟨p,0,none⟩ x).setCell ⟨p,1,none⟩ y).setCell ⟨p,2,none⟩ z) (wJ p x y z::R):=
 Own.setCell (T:=297) (vs:=[x,y,aC]) (Own.setCell (T:=297) (vs:=[x,aC,aC]) (Own.setCell (T:=297) (vs:=[aC,aC,aC]) o 0 (.int .i64 x)) 1 (.int .i64 y)) 2 (.int .i64 z)
theorem WQ{k len:Int}(haw:0<=S.aw/\S.aw<=1152921504606846976)(hc:bF aI S k len=(0,S'))(o:Own w (uW b rp ab::bU rp aI S::bB eu ab m::R)):
  Calls prog 424 #[b,k,k,len] w (aR (.tuple #[nQ ⟨k,k,1⟩,aC]) (uW b rp ab::bU rp aI S'::bB eu ab m::R) w):=by
 have oA:Own (w.alloc (.cells #[aC,aC,aC] 297)) (wJ w.heap.size 0 0 0::uW b rp ab::bU rp aI S::bB eu ab m::R):=o.alloc _;obtain⟨-,cl,c0,-⟩:=(oA.up 1).cs;have hq:=qD k len haw (oA.re [2]);rw[hc]at hq;clear hc;go_enter func424,ntmps424;go_wp2_with fail;refine hq.mono ?_;rintro e1 w1⟨rfl,o1,k1⟩;clear hq;obtain⟨zf,zl,z0,z1,z2,-⟩:=Own.cs (T:=297) (vs:=[aC,aC,aC]) (o1.up 1);have o5:=GV (x:=k) (y:=k) (z:=1) (o1.up 1);go_wp2;refine bodyPost_ret (v:=.tuple #[nQ ⟨k,k,1⟩,aC]) ?_ rfl ?_
 ·exact ZF (p:=w.heap.size) rfl rfl rfl o5
 ·exact⟨rfl,(o5.drop).re [1,0],⟨k1.os,k1.tape,k1.output⟩⟩
abbrev rJ(p:Nat)(x y z:Int):SP:=aH p 333 [x,y,z]
def afL(w0:aF)(b rp ab:Nat)(aI:Int)(S':St)(m:List (Int×Acc))(A D:Acc)(R:aJ)(w:aF)(v11 v12:aL)(wc:aF):Prop:=
 ∃p q:Nat,v11=.pointer (some ⟨p,0,none⟩)/\v12=.pointer (some ⟨q,0,none⟩)/\
  Own wc (rJ p A.1 A.2.1 A.2.2::rJ q D.1 D.2.1 D.2.2::bU rp aI S'::wJ w0.heap.size 0 0 0::uW b rp ab::bB eu ab m::R)/\Calm w wc
def P8(c s:Int)(a d:Acc)(x y:Int)(m:List (Int×Acc))(L:Nat->Bool):List (Int×Acc):=
 if L 17 then bA (bA m c (x,a.2.1,a.2.2)) s (y,d.2.1,d.2.2)else if L 14 then bA m c (x,a.2.1,a.2.2)else m
def afM(b rp p q ab:Nat)(c s:Int)(a d:Acc)(x y:Int)(m:List (Int×Acc))(R:aJ)(w:aF)(L:Nat->Bool)(v:Nat->aL)(wc:aF):Prop:=
 Own wc (bB eu ab (P8 c s a d x y m L)::rJ q y d.2.1 d.2.2::rJ p x a.2.1 a.2.2::uW b rp ab::R)/\Calm w wc/\
 ((L 0=true->v 0=.pointer (some ⟨b,0,none⟩))/\(L 1=true->v 1=.pointer (some ⟨b,0,none⟩))/\(L 2=true->v 2=.pointer (some ⟨b,1,none⟩))/\(L 3=true->v 3=.map (some ab))/\
 (L 4=true->v 4=↑c)/\(L 5=true->v 5=.pointer (some ⟨b,0,none⟩))/\(L 6=true->v 6=.pointer (some ⟨b,0,none⟩))/\(L 7=true->v 7=.pointer (some ⟨b,1,none⟩))/\
 (L 8=true->v 8=.map (some ab))/\(L 9=true->v 9=↑s)/\(L 10=true->v 10=.agg #[x,a.2.1,a.2.2])/\(L 11=true->v 11=.agg #[y,d.2.1,d.2.2]))/\
 (L 12=true->∃born:Nat,v 12=.tuple #[eu a,(born:Int)]/\(L 13=true->v 13=↑(born:Int))/\(L 14=false->oz m wc ab c born))/\
 (L 15=true->∃born:Nat,v 15=.tuple #[eu d,(born:Int)]/\(L 16=true->v 16=↑(born:Int))/\(L 17=false->oz (bA m c (x,a.2.1,a.2.2)) wc ab s born))/\
 (L 13=true->L 12=true)/\(L 14=true->L 13=true)/\(L 15=true->L 14=true)/\(L 16=true->L 15=true)/\(L 17=true->L 16=true)
theorem SX{k j len:Int}(hkj:k≠j)(h0:0<=len)(h1:len<=4096)(haw:0<=S.aw/\S.aw<=1152921504606846976)(hc:bF aI S k len=(0,S')){A D:Acc}(hk:a_ m k=some A)(hj:a_ m j=some D)
  (hA:-1099511627776<=A.1/\A.1<=1099511627776)(hD:-1099511627776<=D.1/\D.1<=1099511627776)(o:Own w (uW b rp ab::bU rp aI S::bB eu ab m::R)):
  Calls prog 424 #[b,k,j,len] w (aR (.tuple #[nQ ⟨k,j,5⟩,aC]) (uW b rp ab::bU rp aI S'::bB eu ab (bA (bA m k (Cf A len)) j (Cf D (-len)))::R) w):=by
 have oA:Own (w.alloc (.cells #[aC,aC,aC] 297)) (wJ w.heap.size 0 0 0::uW b rp ab::bU rp aI S::bB eu ab m::R):=o.alloc _;obtain⟨-,cl,c0,-⟩:=(oA.up 1).cs;have hq:=qD k len haw (oA.re [2]);rw[hc]at hq;clear hc;have e:(k==j)=false:=by simpa using hkj
 have hAO:cu m k=A:=by unfold cu;rw[hk];rfl
 have hDO:cu m j=D:=by unfold cu;rw[hj];rfl
 have HK:=az hk;have HJ:=az hj;have HKJ:=az hkj;clear hk hj hkj;go_enter func424,ntmps424;go_wp2_with fail;refine hq.mono ?_;rintro e1 w1⟨rfl,o1,k1⟩;clear hq;obtain⟨-,xl,-,x1,-⟩:=(o1.up 2).cs;have hlk:=fun(w:aF)(R:aJ)(o:Own w (bB eu ab m::R))=>Dy o k;have hlj:=fun(w:aF)(R:aJ)(o:Own w (bB eu ab m::R))=>Dy o j;rw[hAO]at hlk;rw[hDO]at hlj;unfold eu at hlk hlj;obtain⟨a1,a2,a3⟩:=A;obtain⟨d1,d2,d3⟩:=D;dsimp only at hlk hlj hA hD;have HLK:=az hlk;have HLJ:=az hlj;clear hlk hlj hAO hDO;have K1:Calm w w1:=(dB (Calm.refl w)).trans k1;go_upto_region 6 with fail;go_cut[11,12] (fun v11 v12 wc=>afL w b rp ab aI S' m (a1,a2,a3) (d1,d2,d3) R w v11 v12 wc);case first=>
  refine bY (fun L v wc=>Own wc (Pb (L 12) (L 14) (v 12) 333 [aC,aC,aC] [a1,a2,a3]::Pb (L 13) (L 15) (v 13) 333 [aC,aC,aC] [d1,d2,d3]::bU rp aI S'::wJ w.heap.size 0 0 0::uW b rp ab::bB eu ab m::R)/\Calm w wc/\ji (fun i=>([some (.pointer (some ⟨b,0,none⟩)),some (.pointer (some ⟨b,0,none⟩)),some (.pointer (some ⟨b,1,none⟩)),some (.map (some ab)),some (.int .i64 k),some (.agg #[a1,a2,a3]),some (.pointer (some ⟨b,0,none⟩)),some (.pointer (some ⟨b,0,none⟩)),some (.pointer (some ⟨b,1,none⟩)),some (.map (some ab)),some (.int .i64 j),some (.agg #[d1,d2,d3]),none,none,none,none]:List (Option aL)).getD i none) L v) (by kernel_rfl) (by kernel_rfl) (by kernel_rfl) ?h0 ?step ?fin;case h0=>exact⟨(Pb.no (Pb.no o1.drew)),lF K1,ji.no⟩
  case step=>
   refine⟨au.mk rfl ?_,au.mk rfl ?_,au.mk rfl ?_,au.mk rfl ?_,au.mk rfl ?_,au.mk rfl ?_,au.mk rfl ?_,au.mk rfl ?_,au.mk rfl ?_,au.mk rfl ?_,au.mk rfl ?_,au.mk rfl ?_,au.mk rfl ?_,au.mk rfl ?_,au.mk rfl ?_,au.mk rfl ?_,trivial⟩;all_goals intro L v Gg wc hL hd hA hI K' hK
   all_goals obtain⟨oD,kD,hv⟩:=hI
   all_goals simp[Region.binds]at hd
   all_goals have HV:=az hv
   all_goals clear hv
   ·have OX:=hA.base 0 (by rfl);simp only[o_,pJ,rO,p8]at OX;go_simp;exact hK.out _ _ ⟨oD,kD,HV.out.put 0 dS⟩
   ·have Nz:L 0=true:=by simp[hd]
    have aiG:=hA.gt HV 0 Nz;go_simp;exact hK.out _ _ ⟨oD,kD,HV.out.put 1 dS⟩
   ·have NA:L 1=true:=by simp[hd]
    have aiH:=hA.gt HV 1 NA;go_simp;exact hK.out _ _ ⟨oD,kD,HV.out.put 2 dS⟩
   ·have RQ:L 2=true:=by simp[hd]
    have aiI:=hA.gt HV 2 RQ;have u_:=(oD.up 4).cell 1;go_simp;exact hK.out _ _ ⟨oD,kD,HV.out.put 3 dS⟩
   ·have c1_:=hA.base 1 (by rfl);simp only[o_,pJ,rO,p8]at c1_;go_simp;exact hK.out _ _ ⟨oD,kD,HV.out.put 4 dS⟩
   ·have RU:L 3=true:=by simp[hd]
    have aiJ:=hA.gt HV 3 RU;have V4:L 4=true:=by simp[hd]
    have aiK:=hA.gt HV 4 V4;have u_:=HLK.out _ _ (oD.up 5);go_simp;exact hK.out _ _ ⟨oD,kD,HV.out.put 5 dS⟩
   ·have OX:=hA.base 0 (by rfl);simp only[o_,pJ,rO,p8]at OX;go_simp;exact hK.out _ _ ⟨oD,kD,HV.out.put 6 dS⟩
   ·have V6:L 6=true:=by simp[hd]
    have aiL:=hA.gt HV 6 V6;go_simp;exact hK.out _ _ ⟨oD,kD,HV.out.put 7 dS⟩
   ·have Ma:L 7=true:=by simp[hd]
    have aiM:=hA.gt HV 7 Ma;go_simp;exact hK.out _ _ ⟨oD,kD,HV.out.put 8 dS⟩
   ·have UN:L 8=true:=by simp[hd]
    have aiN:=hA.gt HV 8 UN;have u_:=(oD.up 4).cell 1;go_simp;exact hK.out _ _ ⟨oD,kD,HV.out.put 9 dS⟩
   ·have c2_:=hA.base 2 (by rfl);simp only[o_,pJ,rO,p8]at c2_;go_simp;exact hK.out _ _ ⟨oD,kD,HV.out.put 10 dS⟩
   ·have XW:L 9=true:=by simp[hd]
    have aiO:=hA.gt HV 9 XW;have zh:L 10=true:=by simp[hd]
    have aiP:=hA.gt HV 10 zh;have u_:=HLJ.out _ _ (oD.up 5);go_simp;exact hK.out _ _ ⟨oD,kD,HV.out.put 11 dS⟩
   ·rw[hL]at oD;go_simp;exact hK.out _ _ ⟨Pb.new oD,dB kD,HV.out.put 12 (fun _ h=>by cases h)⟩
   ·have oD:=oD.swap;rw[hL]at oD;go_simp;exact hK.out _ _ ⟨(Pb.new oD).swap,dB kD,HV.out.put 13 (fun _ h=>by cases h)⟩
   ·have GX:L 12=true:=by simp[hd]
    have ahm:=hA.get 12 GX;have V5:L 5=true:=by simp[hd]
    have aiQ:=hA.gt HV 5 V5;rw[GX,hL]at oD;obtain⟨gN,hgN,oN⟩:=Pb.val oD;rw[hgN]at ahm;have hgN:=az hgN;obtain⟨nf_,nl_,n0_,n1_,n2_,-⟩:=oN.cs;go_simp;have oY:=((oN.setCell 0 a1).setCell 1 a2).setCell 2 a3;have oQ:=Pb.put (l:=L 12) (v:=v 12) (zs:=[aC,aC,aC]) oY GX hgN.out;exact hK.out undef _ ⟨oQ,aM (aM (aM kD)),HV.out.put 14 (fun _ h=>by cases h)⟩
   ·have SY:L 13=true:=by simp[hd]
    have aea:=hA.get 13 SY;have ZG:L 11=true:=by simp[hd]
    have aiR:=hA.gt HV 11 ZG;have oD:=oD.swap;rw[SY,hL]at oD;obtain⟨gN,hgN,oN⟩:=Pb.val oD;rw[hgN]at aea;have hgN:=az hgN;obtain⟨nf_,nl_,n0_,n1_,n2_,-⟩:=oN.cs;go_simp;have oY:=((oN.setCell 0 d1).setCell 1 d2).setCell 2 d3;have oQ:=Pb.put (l:=L 13) (v:=v 13) (zs:=[aC,aC,aC]) oY SY hgN.out;exact hK.out undef _ ⟨oQ.swap,aM (aM (aM kD)),HV.out.put 15 (fun _ h=>by cases h)⟩
  case fin=>rintro L v wc hall⟨oD,kD,hv⟩;rw[hall 12 (by decide),hall 14 (by decide)]at oD;obtain⟨gN,hgN,oN⟩:=Pb.got oD;have oN:=oN.swap;rw[hall 13 (by decide),hall 15 (by decide)]at oN;obtain⟨gM,hgM,oM⟩:=Pb.got oN;clear hv hall oD oN;simp only[jV,Act.put,List.setIfInBounds_toArray,List.set_cons_zero,List.set_cons_succ];go_wp2;go_meet;exact⟨gN,gM,hgN,hgM,oM.swap,kD⟩
 case rest=>
  obtain⟨p,q,rfl,rfl,oE,kE⟩:=hcut;clear o1 k1 K1 x1 xl oA c0 cl o;dsimp only at oE;obtain⟨xf,xl,x0,-⟩:=oE.cs;have w1_:=IntWalk.i64_in (a1+len) (by omega);have w2_:=IntWalk.i64_in (d1-len) (by omega);have oE1:=oE.setCell 0 (a1+len:Int);obtain⟨yf,yl,y0,-⟩:=(oE1.up 1).cs;have oE2:=(oE1.up 1).setCell 0 (d1-len:Int);obtain⟨-,-,z0,z1,z2,-⟩:=oE2.cs;obtain⟨-,-,t0,t1,t2,-⟩:=(oE2.up 1).cs;obtain⟨-,bl,-,b1,-⟩:=(oE2.up 4).cs;have K2:=aM (x:=⟨q,0,none⟩) (v:=.int .i64 (d1-len)) (aM (x:=⟨p,0,none⟩) (v:=.int .i64 (a1+len)) kE);go_upto_region 9 with fail;obtain⟨x,hx⟩:=aP (a1+len);obtain⟨y,hy⟩:=aP (d1-len);rw[hx,hy]at oE2 K2⊢;have oB:Own _ (bB eu ab m::rJ q y d2 d3::rJ p x a2 a3::uW b rp ab::bU rp aI S'::wJ w.heap.size 0 0 0::R):=oE2.drew.re [5,0,1,4];have kB:=lF K2;have hgd:a_ (bA m k (x,a2,a3)) j=some (d1,d2,d3):=by rw[r_,if_neg (fun h=>HKJ.out h.symm)];exact HJ.out
  have HX:=az hx;have HY:=az hy;generalize hR2:(bU rp aI S'::wJ w.heap.size 0 0 0::R)=R2 at*;clear x0 xf xl y0 yf yl z0 z1 z2 t0 t1 t2 b1 bl oE oE1 oE2 K2 kE hx hy w1_ w2_;refine bY (fun L v wc=>afM b rp p q ab k j (a1,a2,a3) (d1,d2,d3) x y m R2 w L v wc) (by kernel_rfl) (by kernel_rfl) (by kernel_rfl) ?h0 ?step ?fin;case h0=>
   have F:∀{p:Prop},false=true->p:=fun h=>(zH h).elim
   skip
   exact⟨oB,kB,⟨F,F,F,F,F,F,F,F,F,F,F,F⟩,F,F,F,F,F,F,F⟩
  case step=>
   refine⟨au.mk rfl ?_,au.mk rfl ?_,au.mk rfl ?_,au.mk rfl ?_,au.mk rfl ?_,au.mk rfl ?_,au.mk rfl ?_,au.mk rfl ?_,au.mk rfl ?_,au.mk rfl ?_,au.mk rfl ?_,au.mk rfl ?_,au.mk rfl ?_,au.mk rfl ?_,au.mk rfl ?_,au.mk rfl ?_,au.mk rfl ?_,au.mk rfl ?_,trivial⟩;all_goals intro L v ac wc hL hd hA hI K' hK
   all_goals obtain⟨oD,kD,⟨f0,f1,f2,f3,f4,f5,f6,f7,f8,f9,f10,f11⟩,e12,e15,uu,uw,uy,sO,uz⟩:=hI
   all_goals simp[Region.binds]at hd
   ·have c0:=hA.base 0 (by rfl);simp only[o_,pJ,p8]at c0;go_simp;exact hK.out _ _ ⟨oD,kD,⟨fun _=>rfl,f1,f2,f3,f4,f5,f6,f7,f8,f9,f10,f11⟩,e12,e15,uu,uw,uy,sO,uz⟩
   ·have c0:=(hA.get 0 hd).trans (f0 hd);go_simp;exact hK.out _ _ ⟨oD,kD,⟨f0,fun _=>rfl,f2,f3,f4,f5,f6,f7,f8,f9,f10,f11⟩,e12,e15,uu,uw,uy,sO,uz⟩
   ·have c0:=(hA.get 1 hd).trans (f1 hd);go_simp;exact hK.out _ _ ⟨oD,kD,⟨f0,f1,fun _=>rfl,f3,f4,f5,f6,f7,f8,f9,f10,f11⟩,e12,e15,uu,uw,uy,sO,uz⟩
   ·have c0:=(hA.get 2 hd).trans (f2 hd);have cc:=(oD.up 3).cell 1;go_simp;exact hK.out _ _ ⟨oD,kD,⟨f0,f1,f2,fun _=>rfl,f4,f5,f6,f7,f8,f9,f10,f11⟩,e12,e15,uu,uw,uy,sO,uz⟩
   ·have c0:=hA.base 1 (by rfl);simp only[o_,pJ,rO,p8]at c0;go_simp;exact hK.out _ _ ⟨oD,kD,⟨f0,f1,f2,f3,fun _=>rfl,f5,f6,f7,f8,f9,f10,f11⟩,e12,e15,uu,uw,uy,sO,uz⟩
   ·have c0:=hA.base 0 (by rfl);simp only[o_,pJ,p8]at c0;go_simp;exact hK.out _ _ ⟨oD,kD,⟨f0,f1,f2,f3,f4,fun _=>rfl,f6,f7,f8,f9,f10,f11⟩,e12,e15,uu,uw,uy,sO,uz⟩
   ·have c0:=(hA.get 5 hd).trans (f5 hd);go_simp;exact hK.out _ _ ⟨oD,kD,⟨f0,f1,f2,f3,f4,f5,fun _=>rfl,f7,f8,f9,f10,f11⟩,e12,e15,uu,uw,uy,sO,uz⟩
   ·have c0:=(hA.get 6 hd).trans (f6 hd);go_simp;exact hK.out _ _ ⟨oD,kD,⟨f0,f1,f2,f3,f4,f5,f6,fun _=>rfl,f8,f9,f10,f11⟩,e12,e15,uu,uw,uy,sO,uz⟩
   ·have c0:=(hA.get 7 hd).trans (f7 hd);have cc:=(oD.up 3).cell 1;go_simp;exact hK.out _ _ ⟨oD,kD,⟨f0,f1,f2,f3,f4,f5,f6,f7,fun _=>rfl,f9,f10,f11⟩,e12,e15,uu,uw,uy,sO,uz⟩
   ·have c0:=hA.base 2 (by rfl);simp only[o_,pJ,rO,p8]at c0;go_simp;exact hK.out _ _ ⟨oD,kD,⟨f0,f1,f2,f3,f4,f5,f6,f7,f8,fun _=>rfl,f10,f11⟩,e12,e15,uu,uw,uy,sO,uz⟩
   ·have c0:=hA.base 11 (by rfl);simp only[o_,pJ,rO,p8]at c0;obtain⟨-,-,cc,cc1,cc2,-⟩:=(oD.up 2).cs;go_simp;exact hK.out _ _ ⟨oD,kD,⟨f0,f1,f2,f3,f4,f5,f6,f7,f8,f9,fun _=>rfl,f11⟩,e12,e15,uu,uw,uy,sO,uz⟩
   ·have c0:=hA.base 12 (by rfl);simp only[o_,pJ,rO,p8]at c0;obtain⟨-,-,cc,cc1,cc2,-⟩:=(oD.up 1).cs;go_simp;exact hK.out _ _ ⟨oD,kD,⟨f0,f1,f2,f3,f4,f5,f6,f7,f8,f9,f10,fun _=>rfl⟩,e12,e15,uu,uw,uy,sO,uz⟩
   ·have c0:=(hA.get 3 hd.1).trans (f3 hd.1);have c4:=(hA.get 4 hd.2.1).trans (f4 hd.2.1);have n13:L 13=false:=by cases h:L 13 with|false=>rfl|true=>rw[uu h]at hL;cases hL
    have n14:L 14=false:=by cases h:L 14 with|false=>rfl|true=>rw[uw h]at n13;cases n13
    have n15:L 15=false:=by cases h:L 15 with|false=>rfl|true=>rw[uy h]at n14;cases n14
    have n16:L 16=false:=by cases h:L 16 with|false=>rfl|true=>rw[sO h]at n15;cases n15
    have n17:L 17=false:=by cases h:L 17 with|false=>rfl|true=>rw[uz h]at n16;cases n16
    have eM:P8 k j (a1,a2,a3) (d1,d2,d3) x y m L=m:=by unfold P8;rw[n17,n14];rfl
    rw[eM]at oD;obtain⟨w2,born,hr,hB,o2,k2⟩:=jQ underlying157 underlying3 oD k HK.out;have o3:Own w2 (bB eu ab (P8 k j (a1,a2,a3) (d1,d2,d3) x y m L)::rJ q y d2 d3::rJ p x a2 a3::uW b rp ab::R2):=by rw[eM];exact o2
    go_simp;exact hK.out _ _ ⟨o3,kD.trans k2,⟨f0,f1,f2,f3,f4,f5,f6,f7,f8,f9,f10,f11⟩,fun _=>⟨born,rfl,fun h=>(zH (n13.symm.trans h)).elim,fun _=>hB⟩,fun h=>(zH (n15.symm.trans h)).elim,fun h=>rfl,uw,uy,sO,uz⟩
   ·obtain⟨born,h12,EK,hB⟩:=e12 hd;have c0:=(hA.get 12 hd).trans h12;go_simp;exact hK.out _ _ ⟨oD,kD,⟨f0,f1,f2,f3,f4,f5,f6,f7,f8,f9,f10,f11⟩,fun _=>⟨born,h12,fun _=>rfl,hB⟩,e15,fun _=>hd,fun h=>rfl,uy,sO,uz⟩
   ·obtain⟨born,h12,EK,hB⟩:=e12 hd.2.2.2.1;have c0:=(hA.get 3 hd.1).trans (f3 hd.1);have c1':=(hA.get 13 hd.2.1).trans (EK hd.2.1);have c2:=(hA.get 10 hd.2.2.1).trans (f10 hd.2.2.1);have adK:=hd.2.1;have n15:L 15=false:=by cases h:L 15 with|false=>rfl|true=>rw[uy h]at hL;cases hL
    have n16:L 16=false:=by cases h:L 16 with|false=>rfl|true=>rw[sO h]at n15;cases n15
    have n17:L 17=false:=by cases h:L 17 with|false=>rfl|true=>rw[uz h]at n16;cases n16
    have eM:P8 k j (a1,a2,a3) (d1,d2,d3) x y m L=m:=by unfold P8;rw[n17,hL];rfl
    rw[eM]at oD;obtain⟨w2,hr,o2,k2⟩:=fM (P:=prog) (t:=157) oD k (x,a2,a3) (hB hL);have o3:Own w2 (bB eu ab (P8 k j (a1,a2,a3) (d1,d2,d3) x y m (dI L 14))::rJ q y d2 d3::rJ p x a2 a3::uW b rp ab::R2):=by
     have:P8 k j (a1,a2,a3) (d1,d2,d3) x y m (dI L 14)=bA m k (x,a2,a3):=by unfold P8;rw[show dI L 14 17=L 17 from rfl,n17];rfl
     rw[this];exact o2
    have hr':(Instr.entryStore 157 (.map (some ab)) (.int .i64 (born:Int)) (.agg #[.int .i64 x,a2,a3])).run prog wc=.ok () w2:=hr;go_simp;exact hK.out undef _ ⟨o3,kD.trans k2,⟨f0,f1,f2,f3,f4,f5,f6,f7,f8,f9,f10,f11⟩,fun h=>⟨born,h12,EK,fun h=>(zH h.symm).elim⟩,fun h=>(zH (n15.symm.trans h)).elim,uu,fun _=>adK,fun h=>rfl,sO,uz⟩
   ·have c0:=(hA.get 8 hd.1).trans (f8 hd.1);have c4:=(hA.get 9 hd.2.1).trans (f9 hd.2.1);have J2:=hd.2.2.1;have n16:L 16=false:=by cases h:L 16 with|false=>rfl|true=>rw[sO h]at hL;cases hL
    have n17:L 17=false:=by cases h:L 17 with|false=>rfl|true=>rw[uz h]at n16;cases n16
    have eM:P8 k j (a1,a2,a3) (d1,d2,d3) x y m L=bA m k (x,a2,a3):=by unfold P8;rw[n17,J2];rfl
    rw[eM]at oD;obtain⟨w2,born,hr,hB,o2,k2⟩:=jQ underlying157 underlying3 oD j hgd;have o3:Own w2 (bB eu ab (P8 k j (a1,a2,a3) (d1,d2,d3) x y m L)::rJ q y d2 d3::rJ p x a2 a3::uW b rp ab::R2):=by rw[eM];exact o2
    have RJ:∃born:Nat,v 12=.tuple #[eu (a1,a2,a3),(born:Int)]/\(L 13=true->v 13=↑(born:Int))/\(L 14=false->oz m w2 ab k born):=by obtain⟨b0,h1,h2,_⟩:=e12 (uu (uw J2));exact⟨b0,h1,h2,fun h=>(by rw[J2]at h;cases h)⟩
    go_simp;exact hK.out _ _ ⟨o3,kD.trans k2,⟨f0,f1,f2,f3,f4,f5,f6,f7,f8,f9,f10,f11⟩,fun _=>RJ,fun _=>⟨born,rfl,fun h=>(zH (n16.symm.trans h)).elim,fun _=>hB⟩,uu,uw,fun _=>J2,fun h=>rfl,uz⟩
   ·obtain⟨born,h12,EK,hB⟩:=e15 hd;have c0:=(hA.get 15 hd).trans h12;go_simp;exact hK.out _ _ ⟨oD,kD,⟨f0,f1,f2,f3,f4,f5,f6,f7,f8,f9,f10,f11⟩,e12,fun _=>⟨born,h12,fun _=>rfl,hB⟩,uu,uw,uy,fun _=>hd,fun h=>rfl⟩
   ·obtain⟨born,h12,EK,hB⟩:=e15 hd.2.2.2.1;have c0:=(hA.get 8 hd.1).trans (f8 hd.1);have c1':=(hA.get 16 hd.2.1).trans (EK hd.2.1);have c2:=(hA.get 11 hd.2.2.1).trans (f11 hd.2.2.1);have YU:=hd.2.1;have J2:=uy (sO YU);have eM:P8 k j (a1,a2,a3) (d1,d2,d3) x y m L=bA m k (x,a2,a3):=by unfold P8;rw[hL,J2];rfl
    rw[eM]at oD;obtain⟨w2,hr,o2,k2⟩:=fM (P:=prog) (t:=157) oD j (y,d2,d3) (hB hL);have o3:Own w2 (bB eu ab (P8 k j (a1,a2,a3) (d1,d2,d3) x y m (dI L 17))::rJ q y d2 d3::rJ p x a2 a3::uW b rp ab::R2):=o2;have hr':(Instr.entryStore 157 (.map (some ab)) (.int .i64 (born:Int)) (.agg #[.int .i64 y,d2,d3])).run prog wc=.ok () w2:=hr;have RJ:∃born:Nat,v 12=.tuple #[eu (a1,a2,a3),(born:Int)]/\(L 13=true->v 13=↑(born:Int))/\(L 14=false->oz m w2 ab k born):=by obtain⟨b0,h1,h2,_⟩:=e12 (uu (uw J2));exact⟨b0,h1,h2,fun h=>(by rw[J2]at h;cases h)⟩
    go_simp;exact hK.out undef _ ⟨o3,kD.trans k2,⟨f0,f1,f2,f3,f4,f5,f6,f7,f8,f9,f10,f11⟩,fun _=>RJ,fun h=>⟨born,h12,EK,fun h=>(zH h.symm).elim⟩,uu,uw,uy,sO,fun _=>YU⟩
  case fin=>
   rintro L v wc hall⟨oD,kD,_⟩;have eM:P8 k j (a1,a2,a3) (d1,d2,d3) x y m L=bA (bA m k (x,a2,a3)) j (y,d2,d3):=by unfold P8;rw[hall 17 (by decide)];rfl
   rw[eM,<-hR2]at oD;clear hall oB kB hR2;have oF:=oD.re [5,3,4,0,1,2];obtain⟨zf,zl,z0,z1,z2,-⟩:=Own.cs (T:=297) (vs:=[aC,aC,aC]) oF;have o5:=GV (x:=k) (y:=j) (z:=5) oF;simp only[jV,Act.put,List.setIfInBounds_toArray,List.set_cons_zero,List.set_cons_succ];go_wp2;refine bodyPost_ret (v:=.tuple #[nQ ⟨k,j,5⟩,aC]) ?_ rfl ?_
   ·exact ZF (p:=w.heap.size) rfl rfl rfl o5
   ·refine⟨rfl,?_,aM (aM (aM kD))⟩;rw[show Cf (a1,a2,a3) len=(x,a2,a3)from by unfold Cf;dsimp only;rw[HX.out],show Cf (d1,d2,d3) (-len)=(y,d2,d3)from by unfold Cf;dsimp only;rw[<-HY.out,Int.sub_eq_add_neg]];exact(o5.drop).re [3,4] 2
end
section
variable{W w w':aF}{R:aJ}
theorem S9(h:Head)(t:Tg)(o:Own w R):
  Calls prog 419 #[JP h,iL t] w (aR (.bool (qE h t)) R w):=by
 unfold JP iL;by_cases h1:h.f=t.f
 ·by_cases h2:1<=h.len
  ·by_cases h3:h.len<=4096
   ·have e:qE h t=true:=by simp[qE,h1,h2,h3]
    rw[e];clear e;go_enter func419,ntmps419;go_wp2;go_ret;exact⟨rfl,((o.alloc _).drop.alloc _).drop,⟨rfl,rfl,rfl⟩⟩
   ·have e:qE h t=false:=by simp[qE,h3]
    rw[e];clear e;go_enter func419,ntmps419;go_wp2;go_ret;exact⟨rfl,((o.alloc _).drop.alloc _).drop,⟨rfl,rfl,rfl⟩⟩
  ·have e:qE h t=false:=by simp[qE,h2]
   rw[e];clear e;go_enter func419,ntmps419;go_wp2;go_ret;exact⟨rfl,((o.alloc _).drop.alloc _).drop,⟨rfl,rfl,rfl⟩⟩
 ·have e:qE h t=false:=by simp[qE,h1]
  have hb:(h.f==t.f)=false:=by simpa using h1
  rw[e];clear e;go_enter func419,ntmps419;go_wp2;go_ret;exact⟨rfl,((o.alloc _).drop.alloc _).drop,⟨rfl,rfl,rfl⟩⟩
theorem Er{S1 S2:SP}{a a':aY}{n c n' c':Nat}{H:List Head}{L:List Tg}(h1:eH S1 a H)(h2:BC S2 a' L)(hn:n=H.length)(hn':n'=L.length)(hl:n<=1000)(o:Own w (S1::S2::R)):
  Calls prog 371 #[.slice a n c,.slice a' n' c',.func (.func 419) #[] #[]] w (aR (.bool (ko H L)) (S1::S2::R) w):=by
 obtain⟨X,hX⟩:=aP (ko H L);rw[hX];by_cases hne:n=n'
 ·subst hne;have hT:LP S1 S2 H L R w (.int .i64 0) w:=⟨0,rfl,by omega,rfl,o,Calm.refl w⟩;have Hn:=az hn;have Hn':=az hn';have HX:=az hX;clear hn hX hn';go_enter func371,ntmps371;go_wp2;go_loopw[17] (fun v wr=>LP S1 S2 H L R w v wr) (fun v _=>n-(Lib.intOf v).toNat);case atStart=>exact hT
  case round=>
   clear hT;obtain⟨i,rfl,hi,hid,oR,kR⟩:=hrel;have HI:=az hid;clear hid;by_cases hlt:i<n
   ·obtain⟨h,hh⟩:∃h,H[i]?=some h:=⟨_,cZ (by have:=Hn.out;omega)⟩;obtain⟨t,ht⟩:∃t,L[i]?=some t:=⟨_,cZ (by have:=Hn'.out;omega)⟩;obtain⟨g,rfl,d0,d1,d2⟩:=h1 _ _ oR i _ hh;obtain⟨g',so,rfl,e0,e1,e2⟩:=h2 _ _ (oR.up 1) i _ ht;have HST:=az (FW hh ht);have oA:=(oR.alloc (.cells #[h.f,h.len,.bool h.good] 294)).drop;obtain⟨g2,so2,hq,f0,f1,f2⟩:=h2 _ _ (oA.up 1) i _ ht;cases hq;have oB:=((oR.alloc (.cells #[h.f,h.len,.bool h.good] 294)).drop.alloc (.cells #[t.f,t.w,t.s] 484)).drop;have hc:=S9 h t oB;clear hh ht;by_cases he:qE h t=true
    ·rw[he]at hc;have hv:ko H L=ko (H.drop (i+1)) (L.drop (i+1)):=by rw[HI.out,HST.out,he];rfl
     have HV:=az hv;clear he hv;go_wp2_with fail;refine hc.mono ?_;rintro e1 w1⟨rfl,o1,k1⟩;clear hc;go_wp2;go_roundw;case rel=>exact⟨i+1,by go_num,by have:=Hn.out;omega,HV.out,o1,Calm.trans kR ⟨k1.os,k1.tape,k1.output⟩⟩
     case measure=>simp[Lib.intOf];omega
    ·rw[Bool.not_eq_true]at he;rw[he]at hc;have hv:X=false:=by rw[<-HX.out,HI.out,HST.out,he];rfl
     have HV:=az hv;clear he hv;go_wp2_with fail;refine hc.mono ?_;rintro e1 w1⟨rfl,o1,k1⟩;clear hc;go_wp2;go_ret;exact⟨by rw[HV.out];rfl,o1,Calm.trans kR ⟨k1.os,k1.tape,k1.output⟩⟩
   ·have hn:=Hn.out;have hn':=Hn'.out;have hv:X=true:=by rw[<-HX.out,HI.out,List.drop_eq_nil_of_le (by omega),List.drop_eq_nil_of_le (by omega)];rfl
    have HV:=az hv;clear hv hn hn';go_wp2;go_ret;exact⟨by rw[HV.out];rfl,oR,kR⟩
 ·have hv:X=false:=by rw[<-hX];exact BU (by omega)
  have HV:=az hv;clear hv hX hn hn';go_enter func371,ntmps371;go_wp2;go_ret;exact⟨by rw[HV.out];rfl,o,Calm.refl w⟩
def xI(H:List Head):bO:=H.foldl (fun m h=>if h.good then bA m h.f h.len else m) []
theorem Kq(H:List Head)(h:Head):xI (H++[h])=if h.good then bA (xI H) h.f h.len else xI H:=by unfold xI;rw[List.foldl_append];rfl
theorem WR{H:List Head}{i:Nat}{h:Head}(e:H[i]?=some h):xI (H.take (i+1))=if h.good then bA (xI (H.take i)) h.f h.len else xI (H.take i):=by rw[tH,e];exact Kq _ _
theorem P9(H:List Head)(h:Head)(f:Int)(hn:∀x∈H,x.f≠h.f):bC (H++[h]) f=if f=h.f then h else bC H f:=by
 unfold bC;rw[List.find?_append];by_cases e:f=h.f
 ·subst e;have:H.find? (fun x=>x.f==h.f)=none:=List.find?_eq_none.2 fun x hx=>by simpa using hn x hx
  rw[this,if_pos rfl,Option.none_or,List.find?_cons_of_pos (by simp)];rfl
 ·have:[h].find? (fun x=>x.f==f)=none:=List.find?_eq_none.2 fun x hx=>by rw[List.mem_singleton]at hx;subst hx;simpa using fun e2=>e e2.symm
  rw[this,if_neg e,Option.or_none]
theorem Kr{H:List Head}(f:Int)(hp:H.Pairwise (fun a b=>a.f<b.f)):∀i:Nat,i<=H.length->a_ (xI (H.take i)) f=if(bC (H.take i) f).good=true then some (bC (H.take i) f).len else none
 |0,_=>rfl
 |i+1,hi=>by
  obtain⟨h,hh⟩:∃h,H[i]?=some h:=⟨_,cZ (by omega)⟩;obtain⟨hi1,hi2⟩:=eU.1 hh;have ih:=Kr f hp i (by omega);have hn:∀x∈H.take i,x.f≠h.f:=fun x hx=>by obtain⟨q,hq⟩:=List.getElem?_of_mem hx;obtain⟨q1,q2⟩:=eU.1 hq;rw[rZ]at q1;have:=List.pairwise_iff_getElem.1 hp q i (by omega) hi1 (by omega);rw[List.getElem_take]at q2;rw[q2,hi2]at this;omega
  have hst:H.take (i+1)=H.take i++[h]:=by rw[tH,hh];rfl
  rw[hst,Kq,P9 _ h f hn];cases hg:h.good with
  |true=>
   rw[if_pos rfl,r_];by_cases e:f=h.f
   ·rw[if_pos e,if_pos e,hg,if_pos rfl]
   ·rw[if_neg e,if_neg e,ih]
  |false=>
   rw[if_neg (by simp)];by_cases e:f=h.f
   ·rw[if_pos e,hg,if_neg (by simp),ih];have:bC (H.take i) f=⟨0,0,false⟩:=by unfold bC;rw[List.find?_eq_none.2 fun x hx=>by simpa using fun e2=>hn x hx (e2.trans e)];rfl
    rw[this];rfl
   ·rw[if_neg e,ih]
theorem ZH{H:List Head}(f:Int)(hp:H.Pairwise (fun a b=>a.f<b.f)):a_ (xI H) f=if(bC H f).good=true then some (bC H f).len else none:=by
 have:=Kr f hp H.length (Nat.le_refl _)
 rwa [List.take_length]at this
theorem P_{ok:Tg->Tg->Bool}{js:List Tg}:∀{ks:List Tg}{i y:Nat}{k j:Tg},ks[i]?=some k->(∀k'∈ks.take i,∀j'∈js,ok k' j'=false)->js[y]?=some j->(∀j'∈js.take y,ok k j'=false)->ok k j=true->Aw ok js ks=some (k,j)
 |[],i,y,k,j,h,_,_,_,_=>by simp at h
 |x::ks,0,y,k,j,h,_,hj,hy,ho=>by
  simp at h;subst h;have hf:js.find? (ok x)=some j:=by rw[List.find?_eq_some_iff_append];obtain⟨y1,y2⟩:=eU.1 hj;refine⟨ho,js.take y,js.drop (y+1),?_,fun a ha=>by rw[hy a ha];rfl⟩;rw[<-y2,<-List.drop_eq_getElem_cons y1,List.take_append_drop]
  unfold Aw;rw[hf]
 |x::ks,i+1,y,k,j,h,hk,hj,hy,ho=>by
  have hf:js.find? (ok x)=none:=List.find?_eq_none.2 fun a ha=>by rw[hk x (by simp) a ha];simp
  unfold Aw;rw[hf];exact P_ (ks:=ks) (by simpa using h) (fun k' hk'=>hk k' (by simp[hk'])) hj hy ho
theorem Kt{ok:Tg->Tg->Bool}{js:List Tg}:∀{ks:List Tg},(∀k'∈ks,∀j'∈js,ok k' j'=false)->Aw ok js ks=none
 |[],_=>rfl
 |x::ks,hk=>by
  have hf:js.find? (ok x)=none:=List.find?_eq_none.2 fun a ha=>by rw[hk x (by simp) a ha];simp
  unfold Aw;rw[hf];exact Kt fun k' hk'=>hk k' (by simp[hk'])
theorem Ct{α:Type}{l:List α}{i:Nat}{x:α}(h:l[i]?=some x){p:α->Prop}(h1:∀y∈l.take i,p y)(h2:p x):∀y∈l.take (i+1),p y:=fun y hy=>by
 rw[tH,h]at hy;rcases List.mem_append.1 hy with hy|hy
 ·exact h1 y hy
 ·simp at hy;subst hy;exact h2
end
section
variable{W w w':aF}{R:aJ}{b rp ab:Nat}{aI:Int}{s:Iw}{Sp:SP}
structure ZI(aI:Int)(s:Iw):Prop where
 ok:ED s.R.L
 aw:0<=s.R.aw/\s.R.aw<=1152921504606846976
 acc:P7 s.m
 ks:∀t∈s.R.L,∃a,a_ s.m t.f=some a
 ch:∀t∈s.R.L,∀len:Int,1<=len->len<=4096->(bF aI s.R t.f len).1=0
theorem Tryz.zeroIntI(w:aF):(zeroValue 3).run prog w=.ok (.int .i64 0) w:=by kernel_rfl
theorem abu{lb:Nat}{M:bO}(o:Own w (bB (Value.int .i64) lb M::R))(k:Int):
  (Instr.lookup 222 (.map (some lb)) (.int .i64 k) true).run prog w=.ok (match a_ M k with|some l=>.tuple #[l,.bool true]|none=>.tuple #[aC,.bool false]) w:=by
 rw[bI underlying222 underlying3 Tryz.zeroIntI o k true];cases a_ M k<;>rfl
theorem st2{A B:SP}{l:aJ}(o:Own w (A::B::l)):Own w (st [A,B]::l):=(Own.st (m:=[A,B])).2 o
theorem un2{A B:SP}{l:aJ}(o:Own w (st [A,B]::l)):Own w (A::B::l):=(Own.st (m:=[A,B])).1 o
theorem S_{m:List (Int×Acc)}{S S':St}{k j len:Int}(h:k=j)(haw:0<=S.aw/\S.aw<=1152921504606846976)(hc:bF aI S k len=(0,S'))(o:Own w (uW b rp ab::bU rp aI S::bB eu ab m::R)):
  Calls prog 424 #[b,k,j,len] w (aR (.tuple #[nQ ⟨k,k,1⟩,aC]) (uW b rp ab::bU rp aI S'::bB eu ab m::R) w):=by
 subst h;exact WQ haw hc o
def acN(n:Nat)(lb:Nat)(H:List Head)(P:aJ)(w:aF)(v:aL)(wr:aF):Prop:=
 ∃i:Nat,v=↑(i:Int)/\i<=n/\Own wr (bB (Value.int .i64) lb (xI (H.take i))::Sp::P)/\Calm w wr
def acO(n:Nat)(ok:Tg->Tg->Bool)(KS JS:List Tg)(P:aJ)(w:aF)(v:aL)(wr:aF):Prop:=
 ∃i:Nat,v=↑(i:Int)/\i<=n/\(∀k'∈KS.take i,∀j'∈JS,ok k' j'=false)/\Own wr P/\Calm w wr
def acP(n:Nat)(ok:Tg->Bool)(JS:List Tg)(P:aJ)(w:aF)(v:aL)(wr:aF):Prop:=
 ∃i:Nat,v=↑(i:Int)/\i<=n/\(∀j'∈JS.take i,ok j'=false)/\Own wr P/\Calm w wr
theorem UO{L:List Tg}{i:Nat}{t:Tg}(h:L[i]?=some t):(P6 L)[i]?=some ↑t.f:=by unfold P6;rw[kI,kI,h];rfl
theorem Qa{a:aY}{n c:Nat}{H:List Head}(hs:ZI aI s)(h1:eH Sp a H)(hn:n=H.length)(hf:jh s.R.L H=true)(hne:H≠[])(o:Own w (wu b aI s::Sp::R)):
  Calls prog 416 #[.pointer (some ⟨b,0,none⟩),.slice a n c] w
   (aR (.tuple #[nQ (pz aI s H).1,.int .i64 (pz aI s H).2.1]) (wu b aI (pz aI s H).2.2::Sp::R) w):=by
 obtain⟨rp,ab,o1⟩:=wu.iff.1 o;obtain⟨f1,f2⟩:=Y5 hf;have hLl:s.R.L.length=n:=by have:=congrArg List.length f1;simp only[iP]at this;omega
 have hL32:s.R.L.length<=32:=hs.ok.len;have aeb:s.R.L≠[]:=fun e=>by rw[e]at hLl;simp at hLl;exact hne (CO (by omega))
 have hn1:1<=n:=by have:s.R.L.length≠0:=fun e=>aeb (CO e);omega
 have hn32:n<=32:=by omega
 have oA:Own (w.alloc (.cells #[aC,aC,aC] 297)) (wJ w.heap.size 0 0 0::uW b rp ab::bU rp aI s.R::bB eu ab s.m::Sp::R):=o1.alloc _;obtain⟨-,cl,c0,-⟩:=(oA.up 1).cs;have hst:=Y6 (aI:=aI) hf hne;obtain⟨RS,hRS⟩:=aP (pz aI s H);rw[hRS]at hst⊢;clear hRS;have HST:=az hst;have HN:=az hn;have HNE:=az hne;have GY:=az hLl;clear hst hn hne hLl;go_enter func416,ntmps416;go_wp2_with fail;refine(l_ (oA.re [2])).mono ?_;rintro e1 w1⟨a',c',rfl,o2,k1⟩;have he:=Er (c:=c) (n':=s.R.L.length) (c':=c') h1 (qm a' s.R.L.length c' s.R.L rfl) HN.out rfl (by omega) (o2.re [5,0]);rw[FV,hf]at he;have HF:=az hf;clear hf;go_wp2_with fail;refine he.mono ?_;rintro e2 w2⟨rfl,o3,k2⟩;clear he c0 cl;have K2:Calm w w2:=(dB (Calm.refl w)).trans (k1.trans k2);have hmm:=@run_makeMap prog;have oM:=o3.gF (f:=Value.int .i64) (α:=Int);have hn0:((n:Int)==0)=false:=by simpa using(by omega:¬(n:Int)=0)
 have hT:acN (Sp:=Sp) n w2.heap.size H (slc 484 3 a' s.R.L.length c' (flat dA s.R.L)::bU rp aI s.R::wJ w.heap.size 0 0 0::uW b rp ab::bB eu ab s.m::R) w (.int .i64 0) (w2.alloc (.map #[] 0)):=⟨0,rfl,Nat.zero_le _,oM,dB K2⟩;clear oM o3 o2 k1 k2 K2 oA o o1;go_wp2;go_loopw[38] (fun v wr=>acN (Sp:=Sp) n w2.heap.size H (slc 484 3 a' s.R.L.length c' (flat dA s.R.L)::bU rp aI s.R::wJ w.heap.size 0 0 0::uW b rp ab::bB eu ab s.m::R) w v wr) (fun v _=>n-(Lib.intOf v).toNat);case atStart=>exact hT
 case round=>
  clear hT hmm;obtain⟨i,rfl,hi,oR,kR⟩:=hrel;by_cases hlt:i<n
  ·obtain⟨h,hh⟩:∃h,H[i]?=some h:=⟨_,cZ (by have:=HN.out;omega)⟩;obtain⟨g,rfl,d0,d1,d2⟩:=h1 _ _ (oR.up 1) i _ hh;have HSN:=az (WR hh);have oH:=(oR.alloc (.cells #[h.f,h.len,.bool h.good] 294)).drop;obtain⟨w5,VE,o5,k5⟩:=jg (P:=prog) (f:=Value.int .i64) underlying222 underlying3 oH h.f h.len;clear hh;obtain⟨gd,hgd⟩:=aP h.good;rw[hgd]at d2 oH VE k5;have HG:=az hgd;clear hgd;cases gd with
   |true=>
    go_wp2;go_roundw;case rel=>exact⟨i+1,by go_num,by omega,by rw[HSN.out,HG.out,if_pos rfl];exact o5,kR.trans ⟨k5.os,k5.tape,k5.output⟩⟩
    case measure=>simp[Lib.intOf];omega
   |false=>
    clear VE o5 k5;go_wp2;go_roundw;case rel=>exact⟨i+1,by go_num,by omega,by rw[HSN.out,HG.out,if_neg (by simp)];exact oH,kR.trans ⟨rfl,rfl,rfl⟩⟩
    case measure=>simp[Lib.intOf];omega
  ·have hin:n=i:=by omega
   subst hin;rw[List.take_of_length_le (by have:=HN.out;omega)]at oR;clear hi hlt;have Iz:=fun f=>ZH (H:=H) f (by rw[<-List.pairwise_map (f:=Head.f) (R:=fun a b=>a<b),f1,List.pairwise_map];exact hs.ok.yD);obtain⟨lb,hlb⟩:=aP w2.heap.size;rw[hlb]at oR⊢;clear hlb;have oS:Own wr (slc 484 3 a' s.R.L.length c' (flat dA s.R.L)::st [uW b rp ab,bB eu ab s.m]::bB (Value.int .i64) lb (xI H)::Sp::bU rp aI s.R::wJ w.heap.size 0 0 0::R):=(st2 (oR.re [5,6])).re [3];have hTg:∀t∈s.R.L,TgR t:=fun t ht=>by have:=hs.ok.fZ t ht;exact⟨this.2.2.1,this.2.2.2.1,this.2.2.2.2.1,this.2.2.2.2.2⟩
   have hsv:=DW (key:=Eh s.m) (fn:=421) (bs:=#[.pointer (some ⟨b,0,none⟩)]) (c:=c') (Q:=st [uW b rp ab,bB eu ab s.m]) hs.ok.yD aeb rfl (by omega)
    (fun kb w R' o x hx y hy=>PZ hs.acc.lag (hTg x hx) (hTg y hy) ((un2 (o.re [1])).re [2])) oS
   clear oS;go_wp2_with fail;refine hsv.mono ?_;rintro e4 w4⟨a4,c4,rfl,o4,k4⟩;have hss:=DW (key:=(·.s)) (fn:=422) (bs:=#[]) (c:=c') (Q:=st [uW b rp ab,bB eu ab s.m]) hs.ok.yD aeb rfl (by omega)
    (fun kb w R' o x hx y hy=>P5 o) (o4.re [1,2])
   clear hsv o4;go_wp2_with fail;refine hss.mono ?_;rintro e6 w6⟨a6,c6,rfl,o6,k6⟩;have oP:Own w6 (uW b rp ab::bB eu ab s.m::slc 3 1 a6 s.R.L.length c6 (P6 (uB (·.s) s.R.L))::slc 3 1 a4 s.R.L.length c4 (P6 (uB (Eh s.m) s.R.L))::bB (Value.int .i64) lb (xI H)::slc 484 3 a' s.R.L.length c' (flat dA s.R.L)::Sp::bU rp aI s.R::wJ w.heap.size 0 0 0::R):=(un2 (o6.re [2])).re [0,1,2,4,5,3];have K6:=kR.trans (k4.trans k6);clear hss o6 k4 k6 kR oR;have hst:=HST.out;obtain⟨KS,hKS⟩:=aP (uB (·.s) s.R.L);obtain⟨JS,hJS⟩:=aP (uB (Eh s.m) s.R.L);have hKl:KS.length=s.R.L.length:=by rw[<-hKS,Av]
   have ZJ:JS.length=s.R.L.length:=by rw[<-hJS,Av]
   have hKm:∀t∈KS,t∈s.R.L:=fun t ht=>by rw[<-hKS]at ht;exact Gj.1 ht
   have hJm:∀t∈JS,t∈s.R.L:=fun t ht=>by rw[<-hJS]at ht;exact Gj.1 ht
   rw[hKS,hJS]at oP hst;have HKL:=az hKl;have HJL:=az ZJ;clear HST hKS hJS hKl ZJ;have HST:=az hst;have HLG:=az Iz;clear hst Iz;have hT:acO s.R.L.length (Y3 s.m H) KS JS (uW b rp ab::bB eu ab s.m::slc 3 1 a6 s.R.L.length c6 (P6 KS)::slc 3 1 a4 s.R.L.length c4 (P6 JS)::bB (Value.int .i64) lb (xI H)::slc 484 3 a' s.R.L.length c' (flat dA s.R.L)::Sp::bU rp aI s.R::wJ w.heap.size 0 0 0::R) w (.int .i64 0) w6:=⟨0,rfl,Nat.zero_le _,by simp,oP,K6⟩;clear oP K6;go_wp2;go_loopw[57] (fun v wr=>acO s.R.L.length (Y3 s.m H) KS JS (uW b rp ab::bB eu ab s.m::slc 3 1 a6 s.R.L.length c6 (P6 KS)::slc 3 1 a4 s.R.L.length c4 (P6 JS)::bB (Value.int .i64) lb (xI H)::slc 484 3 a' s.R.L.length c' (flat dA s.R.L)::Sp::bU rp aI s.R::wJ w.heap.size 0 0 0::R) w v wr) (fun v _=>s.R.L.length-(Lib.intOf v).toNat);case atStart=>exact hT
   case round=>
    clear hT;obtain⟨i,rfl,hi,hno,oR,kR⟩:=hrel;by_cases hlt:i<s.R.L.length
    ·obtain⟨k,hk⟩:∃k,KS[i]?=some k:=⟨_,cZ (by have:=HKL.out;omega)⟩;obtain⟨gk,rfl,hck,_,hkl⟩:=(oR.up 2).aG (by omega);have dk:=hck i _ (UO hk);have HK:=az hk;have HNO:=az hno;clear hck hk hno;have hT:acP s.R.L.length (Y3 s.m H k) JS (uW b rp ab::bB eu ab s.m::slc 3 1 (some ⟨gk,0,none⟩) s.R.L.length c6 (P6 KS)::slc 3 1 a4 s.R.L.length c4 (P6 JS)::bB (Value.int .i64) lb (xI H)::slc 484 3 a' s.R.L.length c' (flat dA s.R.L)::Sp::bU rp aI s.R::wJ w.heap.size 0 0 0::R) w (.int .i64 0) wr:=⟨0,rfl,Nat.zero_le _,by simp,oR,kR⟩;clear oR kR;go_wp2;go_loopw[63] (fun v wr=>acP s.R.L.length (Y3 s.m H k) JS (uW b rp ab::bB eu ab s.m::slc 3 1 (some ⟨gk,0,none⟩) s.R.L.length c6 (P6 KS)::slc 3 1 a4 s.R.L.length c4 (P6 JS)::bB (Value.int .i64) lb (xI H)::slc 484 3 a' s.R.L.length c' (flat dA s.R.L)::Sp::bU rp aI s.R::wJ w.heap.size 0 0 0::R) w v wr) (fun v _=>s.R.L.length-(Lib.intOf v).toNat);case atStart=>exact hT
     case round=>
      clear hT dk hkl;obtain⟨y,rfl,hy,hny,oR,kR⟩:=hrel;by_cases hlty:y<s.R.L.length
      ·obtain⟨j,hj⟩:∃j,JS[y]?=some j:=⟨_,cZ (by have:=HJL.out;omega)⟩;obtain⟨gj,rfl,hcj,_,hjl⟩:=(oR.up 3).aG (by omega);have dj:=hcj y _ (UO hj);have HJ:=az hj;have HNY:=az hny;clear hcj hj hny;have hlk:=abu (oR.up 4) j.f;rw[HLG.out]at hlk;obtain⟨x,hx⟩:=aP (bC H j.f);rw[hx]at hlk;have HX:=az hx;clear hx;cases hg:x.good with
       |false=>
        rw[hg,if_neg (by simp)]at hlk;have hok:Y3 s.m H k j=false:=by unfold Y3;rw[HX.out,hg];rfl
        have OH:=az hok;clear hok hg;go_wp2;go_roundw;case rel=>exact⟨y+1,by go_num,by omega,Ct HJ.out HNY.out OH.out,oR,kR⟩
        case measure=>simp[Lib.intOf];omega
       |true=>
        rw[hg,if_pos rfl]at hlk;obtain⟨x',hx',_,hxe⟩:=Ph (H:=H) (j:=j.f) (by rw[HX.out];exact hg);rw[HX.out]at hxe;subst hxe;have hxl:=f2 x hx';have hp:=GU (k:=k.f) (j:=j.f) (len:=x.len) hs.acc (by omega) hxl.2 oR;have hok:Y3 s.m H k j=Pg s.m k.f j.f x.len:=by unfold Y3;rw[HX.out,hg];rfl
        obtain⟨P,hP⟩:=aP (Pg s.m k.f j.f x.len);rw[hP]at hp hok;have OH:=az hok;clear hok hP hg hx';cases P with
        |false=>
         go_wp2_with fail;refine hp.mono ?_;rintro e7 w7⟨rfl,g7⟩;have o7:=oR.grw g7;go_wp2;go_roundw;case rel=>exact⟨y+1,by go_num,by omega,Ct HJ.out HNY.out OH.out,o7,kR.trans g7.calm⟩
         case measure=>simp[Lib.intOf];omega
        |true=>
         have acQ:=P_ HK.out HNO.out HJ.out HNY.out OH.out;have hrs:=HST.out;rw[acQ]at hrs;dsimp only at hrs;rw[HX.out]at hrs;have hkL:=hKm k (mH HK.out);have hjL:=hJm j (mH HJ.out);have hc0:=hs.ch k hkL x.len hxl.1 hxl.2;rw[if_neg (by rw[hc0];simp)]at hrs;obtain⟨S',hS'⟩:=aP ((bF aI s.R k.f x.len).2);have hc:bF aI s.R k.f x.len=(0,S'):=Prod.ext hc0 hS';rw[hS']at hrs;have HC:=az hc;clear hc hc0 hS' acQ;go_wp2_with fail;refine hp.mono ?_;rintro e7 w7⟨rfl,g7⟩;have o7:=oR.grw g7;clear hp hlk;by_cases hkj:k.f=j.f
         ·rw[if_pos hkj]at hrs;have HRS:=az hrs;have hsv:=S_ hkj hs.aw HC.out (o7.re [0,7,1]);unfold nQ at hsv;clear hrs hkj;go_wp2_with fail;refine hsv.mono ?_;rintro e8 w8⟨rfl,o8,k8⟩;clear hsv;obtain⟨zf,zl,z0,z1,z2,-⟩:=Own.cs (T:=297) (vs:=[aC,aC,aC]) (o8.up 8);have oC:=GV (x:=k.f) (y:=k.f) (z:=1) (o8.up 8);go_wp2;refine bodyPost_ret (v:=.tuple #[nQ ⟨k.f,k.f,1⟩,aC]) ?_ rfl ?_
          ·exact Gf (p:=w.heap.size) rfl rfl rfl oC
          ·rw[HRS.out];exact⟨rfl,wu.iff.2 ⟨rp,ab,oC.re [0,4,5,6,7] 5⟩,aM (aM (aM ((kR.trans g7.calm).trans k8)))⟩
         ·rw[if_neg hkj]at hrs;have HRS:=az hrs;obtain⟨A,hA⟩:=hs.ks k hkL;obtain⟨D,hD⟩:=hs.ks j hjL;have hAO:cu s.m k.f=A:=by unfold cu;rw[hA];rfl
          have hDO:cu s.m j.f=D:=by unfold cu;rw[hD];rfl
          have hsv:=SX (len:=x.len) hkj (by omega) hxl.2 hs.aw HC.out hA hD (by rw[<-hAO];exact(hs.acc k.f).1) (by rw[<-hDO];exact(hs.acc j.f).1) (o7.re [0,7,1]);rw[<-hAO,<-hDO]at hsv;unfold nQ at hsv;clear hrs hkj hA hD hAO hDO;go_wp2_with fail;refine hsv.mono ?_;rintro e8 w8⟨rfl,o8,k8⟩;clear hsv;obtain⟨zf,zl,z0,z1,z2,-⟩:=Own.cs (T:=297) (vs:=[aC,aC,aC]) (o8.up 8);have oC:=GV (x:=k.f) (y:=j.f) (z:=5) (o8.up 8);go_wp2;refine bodyPost_ret (v:=.tuple #[nQ ⟨k.f,j.f,5⟩,aC]) ?_ rfl ?_
          ·exact Gf (p:=w.heap.size) rfl rfl rfl oC
          ·rw[HRS.out];exact⟨rfl,wu.iff.2 ⟨rp,ab,oC.re [0,4,5,6,7] 5⟩,aM (aM (aM ((kR.trans g7.calm).trans k8)))⟩
      ·have hyn:y=s.R.L.length:=by omega
       rw[List.take_of_length_le (by have:=HJL.out;omega)]at hny;subst hyn;have HNY:=az hny;clear hny;go_wp2;go_roundw;case rel=>exact⟨i+1,by go_num,by omega,Ct HK.out HNO.out HNY.out,oR,kR⟩
       case measure=>simp[Lib.intOf];omega
    ·have hin:i=s.R.L.length:=by omega
     rw[List.take_of_length_le (by have:=HKL.out;omega)]at hno;subst hin;have hrs:=HST.out;rw[Kt hno]at hrs;dsimp only at hrs;have HRS:=az hrs;clear hrs hno;obtain⟨zf,zl,z0,z1,z2,-⟩:=Own.cs (T:=297) (vs:=[aC,aC,aC]) (oR.up 8);have oC:=GV (x:=-1) (y:=-1) (z:=6) (oR.up 8);go_wp2;refine bodyPost_ret (v:=.tuple #[nQ ⟨-1,-1,6⟩,aC]) ?_ rfl ?_
     ·exact Gf (p:=w.heap.size) rfl rfl rfl oC
     ·rw[HRS.out];exact⟨rfl,wu.iff.2 ⟨rp,ab,oC.re [1,8,2,0,3,4,5,6]|>fun q=>q.re [0,1,2]|>.re [3,4,5,6,7] 5⟩,aM (aM (aM kR))⟩
end
section
variable{i:Nat}{s:Iw}{H:List Head}{aI:Int}{m:List (Int×Acc)}
def n_(a:Acc):Prop:=-a.2.2<=a.1/\a.1<=a.2.1/\0<=a.2.1/\a.2.1<=1099511627776/\0<=a.2.2/\a.2.2<=1099511627776
structure Qb(i:Nat)(s:Iw):Prop where
 tb:TB i s.R
 acc:∀f,n_ (cu s.m f)
 ks:∀t∈s.R.L,∃a,a_ s.m t.f=some a
theorem Qb.afN(h:Qb i s):P7 s.m:=fun f=>by have:=h.acc f;unfold n_ at this;omega
theorem Qb.ok(h:Qb i s)(hi:i<=371)(aI:Int):ZI aI s:=
 ⟨h.tb.ok.ok,⟨h.tb.aw0,by have:=h.tb.aw1;omega⟩,h.afN,h.ks,fun t ht len l1 l2=>(h.tb.Rh hi ht l1 l2 aI).1⟩
theorem xA(m:List (Int×Acc))(k f:Int)(a:Acc):cu (bA m k a) f=if f=k then a else cu m f:=by unfold cu;rw[r_];split<;>rfl
end
section
variable{w w':aF}{R:aJ}{b pr:Nat}{aI at_:Int}{O:List Tg}{P Sp:SP}{S:St}{m:List (Int×Acc)}{s:Iw}
theorem GZ(o:Own w (wu b aI s::R)):
  Calls prog 407 #[b] w (bN (.int .i64 s.R.aw) w):=by
 obtain⟨rp,ab,o1⟩:=wu.iff.1 o;have c0:=o1.cell 0;have hq:=uZ (o1.re [1]);go_enter func407,ntmps407;go_wp2_with fail;refine hq.mono ?_;rintro e1 w1⟨rfl,rfl⟩;go_wp2;go_ret;exact⟨rfl,rfl⟩
end
section
variable{N:Nat}{s:Iw}{O:List Tg}{m:List (Int×Acc)}
def mM(had:Int)(m:List (Int×Acc))(t:Tg):Int:=if 0<had then(cu m t.f).2.1-(cu m t.f).1 else(cu m t.f).2.2+(cu m t.f).1
def ZL(sg:Int)(m:List (Int×Acc))(p:Tg×Int):List (Int×Acc):=bA m p.1.f (Cf (cu m p.1.f) (sg*p.2))
def wK(sg:Int)(z:List (Tg×Int))(m:List (Int×Acc)):List (Int×Acc):=z.foldl (ZL sg) m
def Kv(had:Int):Int:=if had<0 then-1 else 1
def ZM(had:Int)(m1:List (Int×Acc))(L:List Tg):bq:=(qL (Kv had*had) (L.map (·.w)) (L.map (mM had m1))).1
def ZN(had:Int)(m1:List (Int×Acc))(L:List Tg):List (Int×Acc):=wK (Kv had) (L.zip (ZM had m1 L)) m1
def nD(s:Iw)(f:Int):(Int×Int)×Iw:=
 if cB s.R.L f=none then((0,6),s)
 else(((cu s.m f).1,0),⟨(gm s.R f).2,ZN (cu s.m f).1 (dW s.m f) (gm s.R f).2.L⟩)
theorem MS(had:Int):Kv had*had=max had (-had):=by
 unfold Kv;split
 ·rw[Int.neg_one_mul];omega
 ·rw[Int.one_mul];omega
theorem WT(hu:bL m)(f g:Int):cu (dW m f) g=if g=f then(0,0,0)else cu m g:=by unfold cu;rw[JB hu];split<;>rfl
theorem WU(hu:bL m)(k:Int)(a:Acc):bL (bA m k a):=by
 unfold bL at*;rw[sj];split
 ·exact hu
 ·rename_i h;rw[List.nodup_append];refine⟨hu,by simp,fun x hx y hy e=>?_⟩;rw[List.mem_singleton]at hy;subst hy;subst e;exact h hx
theorem Kw(x:Tg):∀L:List Tg,(jB x L).Perm (x::L)
 |[]=>.refl _
 |t::L=>by
  unfold jB;split
  ·exact((Kw x L).cons t).trans (.swap x t L)
  ·exact .refl _
theorem Ky{sg:Int}:∀{L:List Tg}{G:bq}{m:List (Int×Acc)}(_:L.Pairwise fun a b=>a.f<b.f)(f:Int),(∀t∈L,t.f≠f)->cu (wK sg (L.zip G) m) f=cu m f
 |[],G,m,_,f,_=>rfl
 |_::_,[],m,_,f,_=>rfl
 |t::L,g::G,m,hL,f,h=>by rw[List.pairwise_cons]at hL;show cu (wK sg (L.zip G) (ZL sg m (t,g))) f=_;rw[Ky hL.2 f fun u hu=>h u (by simp[hu])];unfold ZL;rw[xA,if_neg (fun e=>h t (by simp) e.symm)]
theorem uN{g h:Tg->Int}:∀L:List Tg,bG (L.map fun t=>g t+h t)=bG (L.map g)+bG (L.map h)
 |[]=>rfl
 |t::L=>by rw[iD,iD,iD,aV,aV,aV,uN L];omega
theorem getD_map{g:Tg->Int}{L:List Tg}{i:Nat}{t:Tg}(h:L[i]?=some t):(L.map g).getD i 0=g t:=by rw[Eb,kI,h];rfl
theorem UU{S:St}{f:Int}{t:Tg}(hf:cB S.L f=some t):gm S f=(0,lC S f t.s)/\(lC S f t.s).L=j3 f S.L:=by
 refine⟨by unfold gm;rw[hf],?_⟩;unfold lC;split
 ·rename_i hz;exact hz.symm
 ·rfl
theorem G7(hm:∀f,n_ (cu m f))(had:Int)(t:Tg):0<=mM had m t/\mM had m t<=2199023255552:=by have:=hm t.f;unfold n_ at this;unfold mM;split<;>omega
theorem WV(hm:∀f,n_ (cu m f))(had:Int)(L:List Tg)(i:Nat):0<=(L.map (mM had m)).getD i 0:=by
 by_cases hi:i<L.length
 ·rw[getD_map (cZ hi)];exact(G7 hm had _).1
 ·rw[Eb,QY (by rw[iP];omega)];exact Int.le_refl _
theorem aby{L:List Tg}(h:∀t∈L,1<=t.w){i:Nat}(hi:i<L.length):1<=(L.map (·.w)).getD i 0:=by rw[getD_map (g:=(·.w)) (cZ hi)];exact h _ (List.getElem_mem hi)
theorem TB.leave{S:St}{i:Nat}(h:TB i S){f:Int}{t:Tg}(hf:cB S.L f=some t):TB i (lC S f t.s):=by
 have hok:=h.ok.leave hf;have ht:=(cK hf).1;have hts:=h.act t ht;unfold lC at*;split
 ·rename_i hz;rw[if_pos hz]at hok;exact⟨hok,by simp,by show(0:Int)<=_;omega,fun g=>by show(0:Int)<=_;omega,h.aw0,h.aw1⟩
 ·rename_i hz;rw[if_neg hz]at hok;refine⟨hok,fun u hu=>h.act u (X_.1 hu).1,h.tm,fun g=>?_,h.aw0,h.aw1⟩;show(if g=f then t.s else S.old g)<=_;have:=h.old g;split<;>omega
theorem zm{g:Tg->Int}:∀{L:List Tg},(∀t∈L,0<=g t)->0<=bG (L.map g)
 |[],_=>Int.le_refl _
 |t::L,h=>by rw[iD,aV];have:=zm (L:=L) fun u hu=>h u (by simp[hu]);have:=h t (by simp);omega
section
variable{L:List Tg}{had:Int}{m1:List (Int×Acc)}(hm:∀f,n_ (cu m1 f))(hL:ED L)
include hm hL
theorem acR:mE (L.map (mM had m1)) (ZM had m1 L)/\(ZM had m1 L).length=L.length/\(bG (L.map fun t=>(cu m1 t.f).1)=-had->bG (ZM had m1 L)=Kv had*had):=by
 have ha:0<=Kv had*had:=by rw[MS];omega
 have hlen:(L.map (mM had m1)).length=L.length:=iP _;obtain⟨h1,h2,h3,h4⟩:=ZK (a:=Kv had*had) (ws:=L.map (·.w)) (cs:=L.map (mM had m1)) ha (fun i hi=>aby (fun t ht=>(hL.fZ t ht).2.2.1) (by rw[hlen]at hi;exact hi)) (WV hm had L);refine⟨h1,by rw[<-hlen];exact h1.len,fun hs=>?_⟩;have hcap:Kv had*had<=bG (L.map (mM had m1)):=by
  rw[MS];by_cases hp:0<had
  ·have e:bG (L.map fun t=>mM had m1 t+(cu m1 t.f).1)=bG (L.map (mM had m1))+bG (L.map fun t=>(cu m1 t.f).1):=uN L;have:0<=bG (L.map fun t=>mM had m1 t+(cu m1 t.f).1):=zm fun t _=>by have:=hm t.f;unfold n_ at this;unfold mM;rw[if_pos hp];omega
   omega
  ·have e:bG (L.map (mM had m1))=bG (L.map fun t=>(cu m1 t.f).2.2)+bG (L.map fun t=>(cu m1 t.f).1):=by rw[<-uN];congr 1;refine List.map_congr_left fun t _=>?_;unfold mM;rw[if_neg hp]
   have:0<=bG (L.map fun t=>(cu m1 t.f).2.2):=zm fun t _=>by have:=hm t.f;unfold n_ at this;omega
   omega
 have:=h4 hcap;unfold ZM;omega
end
end
end Go.Proofs.YtfejhikpfhgbeaaGreatDoor
