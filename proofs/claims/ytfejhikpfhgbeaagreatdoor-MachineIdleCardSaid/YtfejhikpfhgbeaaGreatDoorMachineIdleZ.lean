import Derived.Test.YtfejhikpfhgbeaaGreatDoorMachineIdleX
import Derived.Test.YtfejhikpfhgbeaaGreatDoorMachineIdleY
set_option maxHeartbeats 25600000
set_option maxRecDepth 100000
set_option linter.all false
namespace Go.Proofs.YtfejhikpfhgbeaaGreatDoor
open Go.Proofs.Tryz
open Go.RowKit
open SP
section
variable{w w':aF}{R:aJ}{b N:Nat}{num den aI:Int}{s:Cq}
def dz(p:Nat):aL:=.agg #[p]
theorem Jh(f:jd)(h2:gG s.R f.id f.wt=0->(jD s.D f.id f.wt).1=0)(o:Own w (vg b num den aI N s::R)):
  Calls prog 339 #[dz b,lN f] w (aR (.tuple #[]) (vg b num den aI N (wH s f.id f.wt).2::R) w):=by
 have oA:Own _ (aH _ 116 [b]::_):=o.alloc (.cells #[b] 116);have oB:Own _ (aH _ 167 [f.id,f.fU,f.wt,f.pk,f.eG,f.lag,f.lead]::_):=oA.alloc (.cells #[f.id,f.fU,f.wt,f.pk,f.eG,f.lag,f.lead] 167);rw[World.size_alloc]at oB;have kB:=aj (x:=.cells #[f.id,f.fU,f.wt,f.pk,f.eG,f.lag,f.lead] 167) (aj (x:=.cells #[b] 116) (Calm.refl w));have hJ:=PW f.id f.wt h2 (oB.up 2);unfold dz lN;clear oA h2 o;go_enter func339,ntmps339;go_wp2_with fail;refine hJ.mono ?_;rintro _ w2⟨rfl,o2,k2⟩;go_wp2;go_end0;exact⟨rfl,o2.re [1,2,0] 2|>fun h=>h,kB.trans k2⟩
theorem GM(f:Int)(hN:(N:Int)<=1000000000000)(hu:bL s.n)(o:Own w (vg b num den aI N s::R)):
  Calls prog 340 #[dz b,f] w (aR (.int .i64 (rW s f).1.1) (vg b num den aI N (rW s f).2::R) w):=by
 have oA:Own _ (aH _ 116 [b]::_):=o.alloc (.cells #[b] 116);have kA:=aj (x:=.cells #[b] 116) (Calm.refl w);have hJ:=MN f hN hu (oA.up 1);unfold dz;clear hu o;generalize rW s f=y at*;go_enter func340,ntmps340;go_wp2_with fail;refine hJ.mono ?_;rintro _ w2⟨rfl,o2,k2⟩;go_wp2;go_ret;exact⟨rfl,o2.re [1] 1,kA.trans k2⟩
theorem SQ(o:Own w (vg b num den aI N s::R)):Calls prog 346 #[b] w (bN (.int .i64 s.R.aw) w):=by obtain⟨rp,lp,cp,xp,nb,o1⟩:=vg.iff.1 o;have c2:=o1.cell 2;have hq:=uZ (o1.re [1]);go_enter func346,ntmps346;go_wp2_with fail;refine hq.mono ?_;rintro e1 w1⟨rfl,rfl⟩;go_wp2;go_ret;exact⟨rfl,rfl⟩
theorem MO(o:Own w (vg b num den aI N s::R)):Calls prog 341 #[dz b] w (aR (.int .i64 s.R.aw) (vg b num den aI N s::R) w):=by have oA:Own _ (aH _ 116 [b]::_):=o.alloc (.cells #[b] 116);have kA:=aj (x:=.cells #[b] 116) (Calm.refl w);have hJ:=SQ (oA.up 1);unfold dz;clear o;go_enter func341,ntmps341;go_wp2_with fail;refine hJ.mono ?_;rintro e1 w1⟨rfl,rfl⟩;go_wp2;go_ret;exact⟨rfl,oA.drop,kA⟩
theorem yw{w:aF}{R:aJ}{fn:Func}{p e:Nat}{pb:Nat}{c:LM}{er:Int}(h:fn.results=#[.cell p 297,.tmp e])(tmps:Array aL)(hp:tmps.getD p undef=.pointer (some ⟨pb,0,none⟩))(he:tmps.getD e undef=↑er)
  (o:Own w (aH pb 297 [c.ch,c.sv,c.why]::R)):(results fn tmps).run prog w=.ok (.tuple #[nQ c,er]) w:=by
 obtain⟨-,-,g0,g1,g2,-⟩:=o.cs;rw[results_cell_tmp h,hp,he];unfold nQ;go_simp;all_goals rfl
theorem Ji{nu de:Nat}{Sp:SP}{a:aY}{n c:Nat}{H:List Head}(hI:fQ N N N s)(hN:N<=299)(hA:RV nu de)(h1:eH Sp a H)(hn:n=H.length)(hl:n<=32)(hf:jh s.R.L H=true)(hne:H≠[])
  (o:Own w (vg b (nu:Int) (de:Int) aI N s::Sp::R)):
  Calls prog 342 #[dz b,.slice a n c] w
   (aR (.tuple #[nQ (j_ (nu:Int) (de:Int) aI s H).1,.int .i64 (j_ (nu:Int) (de:Int) aI s H).2.1]) (vg b (nu:Int) (de:Int) aI (N+1) (j_ (nu:Int) (de:Int) aI s H).2.2::Sp::R) w):=by
 have oA:Own _ (aH _ 116 [b]::_):=o.alloc (.cells #[b] 116);have kA:=aj (x:=.cells #[b] 116) (Calm.refl w);have oB:Own _ (aH _ 297 [aC,aC,aC]::_):=oA.alloc (.cells #[aC,aC,aC] 297);rw[World.size_alloc]at oB;have kB:=aj (x:=.cells #[aC,aC,aC] 297) kA;obtain⟨rp,lp,cp,xp,nb,o1⟩:=vg.iff.1 (oB.up 2);have hl1:=hA.lt;have hl2:=hA.le;have hJ:=aba (c:=c) (aI:=aI) hI hN (by omega) (by omega) (by omega) (by omega) h1 hn hl hf hne (o1.re [0,1,2,3,4,5,8]);generalize j_ (nu:Int) (de:Int) aI s H=y at*;unfold nQ at hJ;unfold dz;have c0:=(oB.up 1).cell 0;clear o o1 hI hA hf hne oA hn hl h1 hN hl1 hl2;go_enter func342,ntmps342;go_wp2_with fail;refine hJ.mono ?_;rintro _ w2⟨rfl,o2,k2⟩;obtain⟨xf,xl,x0,x1,x2,-⟩:=(o2.up 2).cs;go_wp2
 (try simp only[Exit.inBlock,Exit.then])
 have oE:=((((o2.up 2).setCell 0 y.1.ch).setCell 1 y.1.sv).setCell 2 y.1.why);refine bodyPost_ret (v:=.tuple #[nQ y.1,y.2.1]) ?_ rfl ⟨rfl,oE.re [0,3] 2,ay (ay (ay (kB.trans k2)))⟩;exact yw rfl _ rfl rfl oE
end
section
variable{m m1:List (Int×Acc)}{L:List Tg}{had:Int}
theorem WW{sg:Int}{G:bq}{k:Nat}{t:Tg}{g:Int}(ht:L[k]?=some t)(hg:G[k]?=some g):
  wK sg ((L.zip G).take (k+1)) m=bA (wK sg ((L.zip G).take k) m) t.f (Cf (cu (wK sg ((L.zip G).take k) m) t.f) (sg*g)):=by
 have:(L.zip G)[k]?=some (t,g):=by rw[List.getElem?_zip_eq_some];exact⟨ht,hg⟩
 unfold wK;rw[tH,this,List.foldl_append];rfl
theorem WX{sg:Int}{G:bq}(hL:L.Pairwise fun a b=>a.f<b.f){k:Nat}{t:Tg}(ht:L[k]?=some t):cu (wK sg ((L.zip G).take k) m) t.f=cu m t.f:=by
 have e:(L.zip G).take k=(L.take k).zip (G.take k):=List.take_zipWith;rw[e];refine Ky (hL.sublist (List.take_sublist _ _)) t.f fun u hu e=>?_;obtain⟨q,hq⟩:=List.getElem?_of_mem hu;rw[List.getElem?_take]at hq;split at hq
 ·obtain⟨h1,h2⟩:=eU.1 ht;obtain⟨h3,h4⟩:=eU.1 hq;have:=List.pairwise_iff_getElem.1 hL q k h3 h1 (by omega);rw[h2,h4]at this;omega
 ·cases hq
theorem aec(hm:∀f,n_ (cu m1 f))(hL:ED L){k:Nat}(hk:k<L.length):∃g,(ZM had m1 L)[k]?=some g/\0<=g/\g<=2199023255552/\(had=0->g=0):=by
 obtain⟨h1,h2,_⟩:=acR (had:=had) hm hL;obtain⟨g,hg⟩:∃g,(ZM had m1 L)[k]?=some g:=⟨_,cZ (by omega)⟩;obtain⟨t,ht⟩:∃t,L[k]?=some t:=⟨_,cZ hk⟩;have hr:=h1.fZ k;rw[getD_map ht,Eb,hg]at hr;have hr0:0<=g:=hr.1;have hr1:g<=mM had m1 t:=hr.2;have hc:=(G7 hm had t).2;refine⟨g,hg,hr0,by omega,fun h0=>?_⟩;have:ZM had m1 L=List.replicate (L.map (mM had m1)).length 0:=by subst h0;rfl
 rw[this,List.getElem?_replicate]at hg;split at hg
 ·exact(Option.some.inj hg).symm
 ·cases hg
theorem ZO{G:bq}(h:G.length=L.length):(L.zip G).take L.length=L.zip G:=List.take_of_length_le (by rw[List.length_zip];omega)
theorem WY{k:Nat}{t:Tg}(ht:L[k]?=some t)(had:Int)(m:List (Int×Acc)):iB ((L.take (k+1)).map (mM had m))=iB ((L.take k).map (mM had m))++[.int .i64 (mM had m t)]:=by rw[tH,ht,tJ];unfold iB;rw[tJ];rfl
theorem ZP{k:Nat}{t:Tg}(ht:L[k]?=some t):flat part (bM (L.take (k+1)))=flat part (bM (L.take k))++[.int .i64 t.f,.int .i64 t.w]:=by unfold bM;rw[tH,ht,tJ,aO];rfl
theorem abz(h:ED L):lQ (bM L):=by
 refine⟨?_,fun p hp=>?_,?_⟩
 ·unfold bM;rw[List.pairwise_map];exact h.yD
 ·unfold bM at hp;obtain⟨t,ht,rfl⟩:=gW.1 hp;have:=h.fZ t ht;exact⟨this.1,this.2.1,this.2.2.1,this.2.2.2.1⟩
 ·rw[lJ];exact h.len
theorem aed(L:List Tg):(bM L).map (·.2)=L.map (·.w):=by unfold bM;rw[List.map_map];rfl
theorem ZQ(hm:∀f,n_ (cu m f))(had:Int)(L:List Tg)(i:Nat):0<=(L.map (mM had m)).getD i 0/\(L.map (mM had m)).getD i 0<=2199023255552:=by
 by_cases hi:i<L.length
 ·rw[getD_map (cZ hi)];exact G7 hm had _
 ·rw[Eb,QY (by rw[iP];omega)];exact⟨Int.le_refl _,by decide⟩
end
section
variable{w w':aF}{R:aJ}{b rp ab N:Nat}{aI:Int}{O:List Tg}{s:Iw}{m:List (Int×Acc)}
theorem Tryz.i64tW:bS prog 79 2 1 8:=bS.mk' underlying79 (z:=.int .i64 0) (by kernel_rfl) (by kernel_rfl) (by omega)
def LwP(b rp ab:Nat)(aI:Int)(S2:St)(at_:aY)(tc:Nat)(had:Int)(m1:List (Int×Acc))(R:aJ)(w:aF)(v9 v10 v49:aL)(wr:aF):Prop:=
 ∃(k:Nat)(a9 QZ:aY)(c9 c10:Nat),v49=↑(k:Int)/\v9=.slice a9 k c9/\v10=.slice QZ k c10/\k<=S2.L.length/\
  Own wr (slc 493 2 a9 k c9 (flat part (bM (S2.L.take k)))::slc 2 1 QZ k c10 (iB ((S2.L.take k).map (mM had m1)))::slc 484 3 at_ S2.L.length tc (flat dA S2.L)::uW b rp ab::bB eu ab m1::bU rp aI S2::R)/\Calm w wr
def LwG(b rp ab:Nat)(aI:Int)(S2:St)(ax:aY)(cx:Nat)(a9:aY)(c9:Nat)(sg:Int)(G:bq)(m1:List (Int×Acc))(R:aJ)(w:aF)(v99:aL)(wr:aF):Prop:=
 ∃k:Nat,v99=↑(k:Int)/\k<=S2.L.length/\
  Own wr (slc 2 1 ax S2.L.length cx (iB G)::slc 493 2 a9 S2.L.length c9 (flat part (bM S2.L))::uW b rp ab::bB eu ab (wK sg ((S2.L.zip G).take k) m1)::bU rp aI S2::R)/\Calm w wr
theorem afT{had g:Int}(h0:0<=g)(h1:g<=2199023255552):-2199023255552<=Kv had*g/\Kv had*g<=2199023255552:=by
 unfold Kv;split
 ·rw[Int.neg_one_mul];omega
 ·rw[Int.one_mul];omega
end
section
variable{N:Nat}{s:Iw}{O:List Tg}{m:List (Int×Acc)}
structure MV(N:Nat)(s:Iw):Prop where
 tb:TB N s.R
 acc:∀f,n_ (cu s.m f)
 un:bL s.m
 ks:(s.m.map (·.1)).Perm (s.R.L.map (·.f))
 sum:bG (s.R.L.map fun t=>(cu s.m t.f).1)=0
theorem MV.start:MV 0 iw0:=⟨TB.start,fun f=>by rw[show cu iw0.m f=(0,0,0)from rfl];unfold n_;decide,List.nodup_nil,.refl _,rfl⟩
theorem MV.get(h:MV N s){t:Tg}(ht:t∈s.R.L):∃a,a_ s.m t.f=some a:=by have:t.f∈s.m.map (·.1):=h.ks.mem_iff.2 (gW.2 ⟨t,ht,rfl⟩);obtain⟨x,hx,e⟩:=gW.1 this;exact⟨x.2,by rw[<-e];exact eO h.un hx⟩
theorem MV.inv(h:MV N s):Qb N s:=⟨h.tb,h.acc,fun _ ht=>h.get ht⟩
theorem MV.ok(h:MV N s)(hN:N<=371)(aI:Int):ZI aI s:=h.inv.ok hN aI
theorem MV.join(h:MV N s){f wt x y:Int}(he:gG s.R f wt=0)(hb:Sa x y=true):MV N ⟨pg s.R f wt,bA s.m f (0,x,y)⟩:=by
 have hno:=(h.tb.ok.join he).2.1;have hnf:∀t∈s.R.L,t.f≠f:=mU.1 hno;have hnm:f∉s.m.map (·.1):=fun hm=>by obtain⟨t,ht,e⟩:=gW.1 (h.ks.mem_iff.1 hm);exact hnf t ht e
 have hp:=Kw ⟨f,wt,max s.R.tm (s.R.old f)⟩ s.R.L;refine⟨h.tb.join he,fun g=>?_,WU h.un _ _,?_,?_⟩
 ·dsimp only;rw[xA];split
  ·unfold Sa at hb;simp only[Bt,xM]at hb;unfold n_;dsimp only;omega
  ·exact h.acc g
 ·dsimp only;rw[sj,if_neg hnm];have h1:(s.m.map (·.1)++[f]).Perm (f::s.m.map (·.1)):=List.perm_append_comm (l₁:=s.m.map (·.1)) (l₂:=[f]);exact(h1.trans (h.ks.cons f)).trans (hp.map (fun t:Tg=>t.f)).symm
 ·dsimp only;rw[VS ((show(pg s.R f wt).L.Perm _ from hp).map _),iD,aV,xA,if_pos rfl];have:s.R.L.map (fun t=>(cu (bA s.m f (0,x,y)) t.f).1)=s.R.L.map fun t=>(cu s.m t.f).1:=List.map_congr_left fun t ht=>by show(cu (bA s.m f (0,x,y)) t.f).1=_;rw[xA,if_neg (hnf t ht)]
  rw[this,h.sum];rfl
theorem MV.wz(h:MV N s)(f wt x y:Int):MV N (wz s f wt x y).2:=by
 unfold Go.Proofs.YtfejhikpfhgbeaaGreatDoor.wz;split
 ·exact h
 ·rename_i hb;split
  ·rename_i he;exact h.join he (by simpa using hb)
  ·exact h
end
section
variable{w w':aF}{R:aJ}{b rp ab N:Nat}{aI:Int}{s:Iw}{m:List (Int×Acc)}
theorem Jk(f:Int)(hI:MV N s)(o:Own w (wu b aI s::R)):
  Calls prog 415 #[b,f] w (aR (.tuple #[.int .i64 (nD s f).1.1,.int .i64 (nD s f).1.2]) (wu b aI (nD s f).2::R) w):=by
 obtain⟨rp,ab,o1⟩:=wu.iff.1 o;have c0:=o1.cell 0;have hq:=xV f (o1.re [1]);cases hf:cB s.R.L f with
 |none=>
  have e:nD s f=((0,6),s):=by unfold nD;rw[if_pos hf]
  have e2:gm s.R f=(6,s.R):=by unfold gm;rw[hf]
  rw[e];rw[e2]at hq;clear e e2 hf;go_enter func415,ntmps415;go_wp2_with fail;refine hq.mono ?_;rintro e1 w1⟨rfl,o2,k2⟩;go_wp2;go_ret2;exact⟨rfl,wu.iff.2 ⟨rp,ab,o2.re [1,0]⟩,k2⟩
 |some t=>
  have e:nD s f=(((cu s.m f).1,0),⟨(gm s.R f).2,ZN (cu s.m f).1 (dW s.m f) (gm s.R f).2.L⟩):=by unfold nD;rw[if_neg (by rw[hf];simp)]
  obtain⟨S2,hS2⟩:=aP ((gm s.R f).2);have hr:=hI.tb.leave hf;have hr1:lC s.R f t.s=S2:=by rw[<-hS2,(UU hf).1]
  rw[hr1]at hr;obtain⟨er,her⟩:=aP ((gm s.R f).1);have e2:gm s.R f=(er,S2):=by rw[<-hS2,<-her]
  have he0:er=0:=by have:=(UU hf).1;rw[e2]at this;exact congrArg Prod.fst this
  subst he0;rw[e2]at e hq;rw[e];dsimp only at hq⊢;have hm1:∀g,n_ (cu (dW s.m f) g):=fun g=>by
   rw[WT hI.un];split
   ·unfold n_;decide
   ·exact hI.acc g
  have hmf:=hI.acc f;unfold n_ at hmf;have OH:=az hr.ok.ok;have ae9:S2.L.length<=32:=hr.ok.ok.len;have Ro:=az hm1;obtain⟨had,h1,h2⟩:∃A B,cu s.m f=(A,B):=⟨_,_,rfl⟩;obtain⟨mo,le⟩:=h1;have afU:-1099511627776<=had/\had<=1099511627776:=by rw[h2]at hmf;dsimp only at hmf;omega
  have afV:=az afU;have hlk:∀(w:aF)(R:aJ),Own w (bB eu ab s.m::R)->(Instr.lookup 157 (.map (some ab)) (.int .i64 f) false).run prog w=.ok (.agg #[had,mo,le]) w:=fun w R o=>by have:=Dy o f;rw[h2]at this;exact this
  have HLK:=az hlk;rw[h2];dsimp only;clear hlk e e2 hf hI hm1 hr hr1 hS2 her hmf h2 afU;go_enter func415,ntmps415;go_wp2_with fail;refine hq.mono ?_;rintro e1 w1⟨rfl,o2,k2⟩;clear hq c0;have oo:=o2.re [1,2];obtain⟨-,-,c0,c1,-⟩:=oo.cs;have hlk:=HLK.out _ _ (oo.up 1);have hfi:=fun w=>(Tryz.fieldI (.int .i64 had) (.int .i64 mo) (.int .i64 le) w).1;go_wp2_with(first|fail|(at_delete;refine dL rfl _ _ rfl underlying157 underlying3 (oo.up 1) f rfl rfl ?c2));case c2=>
  intro w2 o3 k3;obtain⟨m1,hm1⟩:=aP (dW s.m f);rw[hm1]at o3 Ro;have HMD:=az hm1;clear hlk c1 c0 hm1 HLK oo o2 hfi;have o4:Own w2 (uW b rp ab::bB eu ab m1::bU rp aI S2::R):=o3.re [1,0];have K2:=k2.trans k3;obtain⟨-,hcl,c0,-⟩:=o4.cs;clear o3 k2 k3;have HSG:=az (show Kv had=if decide (had<0)=true then-1 else 1 from by unfold Kv;by_cases h:had<0<;>simp[h]);obtain⟨Z,hZ⟩:=aP (decide (had<0));rw[hZ]at HSG;go_upto_if 42 with fail;go_cut[8] (fun v wc=>v=↑(Kv had:Int)/\wc=w2);case first=>
   cases Z with
   |true=>go_wp2;go_meet;exact⟨by rw[HSG.out];rfl,rfl⟩
   |false=>go_wp2;go_meet;exact⟨by rw[HSG.out];rfl,rfl⟩
  case rest=>
   obtain⟨rfl,rfl⟩:=hcut;clear HSG hZ;go_wp2_with fail;refine(l_ (o4.re [2])).mono ?_;rintro e5 w5⟨at_,tc,rfl,o5,k5⟩;have hT:LwP b rp ab aI S2 at_ tc had m1 R w (.slice none 0 0) (.slice none 0 0) (.int .i64 0) w5:=⟨0,none,none,0,0,rfl,rfl,rfl,Nat.zero_le _,Own.bH (Own.bH (o5.re [0,2,3])),K2.trans k5⟩;clear o5 k5 o4 K2 c0 hcl;go_wp2;go_loopw[9,10,49] (fun v9 v10 v49 wr=>LwP b rp ab aI S2 at_ tc had m1 R w v9 v10 v49 wr) (fun _ _ v _=>S2.L.length-(pM v).toNat);case atStart=>exact hT
   case round=>
    clear hT;obtain⟨k,a9,QZ,c9,c10,rfl,rfl,rfl,hk,oR,kR⟩:=hrel;by_cases hlt:k<S2.L.length
    ·obtain⟨t',ht⟩:∃t,S2.L[k]?=some t:=⟨_,cZ hlt⟩;have HPV:=az (ZP ht);have hcv:=WY ht had m1;have HIN:=Ro.out t'.f;have Kz:mM had m1 t'=if 0<had then(cu m1 t'.f).2.1-(cu m1 t'.f).1 else(cu m1 t'.f).2.2+(cu m1 t'.f).1:=rfl;have G8:∀(w:aF)(R:aJ),Own w (bB eu ab m1::R)->(Instr.lookup 157 (.map (some ab)) (.int .i64 t'.f) false).run prog w=.ok (eu (cu m1 t'.f)) w:=fun w R o=>Dy o t'.f;obtain⟨g,so,rfl,t0,t1,t2⟩:=qm at_ S2.L.length tc S2.L rfl _ _ (oR.up 2) k _ ht;have oP:=oR.alloc (.cells #[t'.f,t'.w,t'.s] 484);clear ht;obtain⟨y1,y2,y3,y4,y5,y6⟩:=HIN;generalize cu m1 t'.f=cn at*;obtain⟨q1,q2,q3⟩:=cn;unfold eu at G8;dsimp only at*;have wA:=IntWalk.i64_in (q2-q1) (by omega);have wB:=IntWalk.i64_in (q3+q1) (by omega);have LH:k<=32:=by omega
     clear y1 y2 y3 y4 y5 y6;have p0:=oP.cell (T:=484) (vs:=[t'.f,t'.w,t'.s]) 0;have p1:=oP.cell (T:=484) (vs:=[t'.f,t'.w,t'.s]) 1;have pl:=oP.aS (T:=484) (vs:=[t'.f,t'.w,t'.s]);obtain⟨-,bl,-,b1,-⟩:=(oP.up 4).cs;have oPA:=oP.alloc (.cells #[aC,aC,aC] 333);have p0a:=(oPA.up 1).cell (T:=484) (vs:=[t'.f,t'.w,t'.s]) 0;have b1a:=(oPA.up 5).cell 1;have hlk:=G8 _ _ (oP.drew.up 5);have hlk2:=G8 _ _ ((oP.alloc (.cells #[aC,aC,aC] 333)).drew.up 6);have HL0:=az G8;clear G8;go_upto_region 14 with fail;go_cut[13] (fun v wc=>v=.pointer (some ⟨wr.heap.size+1,0,none⟩)/\wc=((wr.alloc (.cells #[t'.f,t'.w,t'.s] 484)).alloc (.cells #[q1,q2,q3] 333)).drew);case first=>
      go_region_law(fail);all_goals go_wp2
      all_goals go_meet
      all_goals exact⟨rfl,rfl⟩
     case rest=>
      obtain⟨rfl,rfl⟩:=hcut;have oQ:Own ((wr.alloc (.cells #[t'.f,t'.w,t'.s] 484)).alloc (.cells #[q1,q2,q3] 333)).drew (aH (wr.heap.size+1) 333 [q1,q2,q3]::aH wr.heap.size 484 [t'.f,t'.w,t'.s]::slc 493 2 a9 k c9 (flat part (bM (S2.L.take k)))::slc 2 1 QZ k c10 (iB ((S2.L.take k).map (mM had m1)))::slc 484 3 (some ⟨g,so,none⟩) S2.L.length tc (flat dA S2.L)::uW b rp ab::bB eu ab m1::bU rp aI S2::R):=by have:=(oP.alloc (.cells #[q1,q2,q3] 333)).drew;rw[World.size_alloc]at this;exact this
      have KQ:Calm w ((wr.alloc (.cells #[t'.f,t'.w,t'.s] 484)).alloc (.cells #[q1,q2,q3] 333)).drew:=⟨kR.os,kR.tape,kR.output⟩;obtain⟨tb,htb⟩:=aP wr.heap.size;rw[htb]at oQ⊢;obtain⟨wq,hwq⟩:=aP (((wr.alloc (.cells #[t'.f,t'.w,t'.s] 484)).alloc (.cells #[q1,q2,q3] 333)).drew);rw[hwq]at oQ KQ⊢;clear hwq htb oP oPA oR kR p0 p1 pl b1 bl p0a b1a hlk hlk2 HL0 t0 t1 t2;have p0:=(oQ.up 1).cell (T:=484) (vs:=[t'.f,t'.w,t'.s]) 0;have p1:=(oQ.up 1).cell (T:=484) (vs:=[t'.f,t'.w,t'.s]) 1;have oX:=oQ.alloc (.cells #[t'.f,t'.w] 493);go_wp2_with(at_builtin;refine aU rfl _ _ rfl Tryz.partT rfl (oX.up 3) ⟨wq.heap.size,0,none⟩ 1 1 [t'.f,t'.w] rfl rfl (Own.news (T:=493) (vs:=[t'.f,t'.w]) oX) (by intro u hu;simp at hu;rcases hu with rfl|rfl<;>rfl) (by unfold maxLen;omega) (by omega) ?k2);case k2=>
      intro a5 c5 w5 o5 k5;rw[<-HPV.out]at o5;have o6:=o5.re [1] 1;have K5:=KQ.trans k5.al;have e0:=(o6.up 1).cell (T:=333) (vs:=[q1,q2,q3]) 0;have e1:=(o6.up 1).cell (T:=333) (vs:=[q1,q2,q3]) 1;have e2:=(o6.up 1).cell (T:=333) (vs:=[q1,q2,q3]) 2;clear o5 k5 oQ KQ oX p0 p1;obtain⟨Z,hZ⟩:=aP (decide (0<had));cases Z with
      |true=>
       have hp:0<had:=by simpa using hZ
       rw[if_pos hp]at Kz;rw[Kz]at hcv;simp only[List.map_take]at hcv;have HCV:=az hcv;clear hcv Kz hp;have oY:=o6.alloc (.cells #[(q2-q1:Int)] 2);go_wp2_with(at_builtin;refine aU rfl _ _ rfl Tryz.i64tW rfl (oY.up 4) ⟨w5.heap.size,0,none⟩ 1 1 [(q2-q1:Int)] rfl rfl (Own.news (T:=2) (vs:=[(q2-q1:Int)]) oY) (by intro u hu;simp at hu;rcases hu with rfl;rfl) (by unfold maxLen;omega) (by omega) ?k3);case k3=>
       intro a7 c7 w7 o7 k7;rw[<-HCV.out]at o7;go_wp2;go_roundw;case rel=>exact⟨k+1,a5,a7,c5,c7,by go_num,rfl,rfl,by omega,by rw[List.map_take];exact(o7.re [1,3,4] 3).re [1,0],K5.trans k7.al⟩
       case measure=>simp[pM];omega
      |false=>
       have hp:¬0<had:=by simpa using hZ
       rw[if_neg hp]at Kz;rw[Kz]at hcv;simp only[List.map_take]at hcv;have HCV:=az hcv;clear hcv Kz hp;have oY:=o6.alloc (.cells #[(q3+q1:Int)] 2);go_wp2_with(at_builtin;refine aU rfl _ _ rfl Tryz.i64tW rfl (oY.up 4) ⟨w5.heap.size,0,none⟩ 1 1 [(q3+q1:Int)] rfl rfl (Own.news (T:=2) (vs:=[(q3+q1:Int)]) oY) (by intro u hu;simp at hu;rcases hu with rfl;rfl) (by unfold maxLen;omega) (by omega) ?k3);case k3=>
       intro a7 c7 w7 o7 k7;rw[<-HCV.out]at o7;go_wp2;go_roundw;case rel=>exact⟨k+1,a5,a7,c5,c7,by go_num,rfl,rfl,by omega,by rw[List.map_take];exact(o7.re [1,3,4] 3).re [1,0],K5.trans k7.al⟩
       case measure=>simp[pM];omega
    ·have hkn:k=S2.L.length:=by omega
     subst hkn;rw[List.take_length]at oR;have hmx:=MS had;have hrf:=Qi (a:=Kv had*had) (l:=bM S2.L) (cs:=S2.L.map (mM had m1)) (n:=S2.L.length) (pc:=c9) (cc:=c10) (by rw[hmx];omega) (by rw[hmx];have:=afV.out;omega) (abz OH.out) (lJ S2.L).symm (iP _).symm (ZQ Ro.out had S2.L) oR;rw[aed]at hrf;have wn:=IntWalk.i64_in (Kv had*had) (by rw[hmx];have:=afV.out;omega);unfold UW at hrf;have hgv:(qL (Kv had*had) (S2.L.map (·.w)) (S2.L.map (mM had m1))).1=ZM had m1 S2.L:=rfl;rw[hgv]at hrf;obtain⟨rr,hrr⟩:=aP ((qL (Kv had*had) (S2.L.map (·.w)) (S2.L.map (mM had m1))).2);rw[hrr]at hrf;have HG1:=az (fun k hk=>aec (had:=had) (k:=k) Ro.out OH.out hk);have HGL:=az (acR (had:=had) Ro.out OH.out).2.1;have HHN:=az (show ZN had m1 S2.L=wK (Kv had) (S2.L.zip (ZM had m1 S2.L)) m1 from rfl);have HSL:=az (fun(g:Int)(h0:0<=g)(h1:g<=2199023255552)=>afT (had:=had) h0 h1);obtain⟨G,hG⟩:=aP (ZM had m1 S2.L);rw[hG]at hrf HG1 HGL HHN;obtain⟨sg,hsg⟩:=aP (Kv had);rw[hsg]at HHN HSL wn hrf⊢;clear hmx hgv hrr hG hsg hlt hk;go_wp2_with fail;refine hrf.mono ?_;rintro e7 w7⟨ax,cx,rfl,o7,k7⟩;clear hrf;have hT:LwG b rp ab aI S2 ax cx a9 c9 sg G m1 R w (.int .i64 0) w7:=⟨0,rfl,Nat.zero_le _,(o7.re [2,3] 2),kR.trans k7⟩;clear o7 k7 kR oR wn;go_wp2;go_loopw[99] (fun v99 wr=>LwG b rp ab aI S2 ax cx a9 c9 sg G m1 R w v99 wr) (fun v _=>S2.L.length-(pM v).toNat);case atStart=>exact hT
     case round=>
      clear hT;obtain⟨k,rfl,hk,oR,kR⟩:=hrel;by_cases hlt:k<S2.L.length
      ·obtain⟨t',ht⟩:∃t,S2.L[k]?=some t:=⟨_,cZ hlt⟩;obtain⟨g,hg,hg0,hg1,hgz⟩:=HG1.out k hlt;have hac:=WX (m:=m1) (sg:=sg) (G:=G) OH.out.yD ht;have hgt:=WW (m:=m1) (sg:=sg) ht hg;have hIN:=Ro.out t'.f;have hsl:=HSL.out g hg0 hg1;obtain⟨mk,hmk⟩:=aP (wK sg ((S2.L.zip G).take k) m1);rw[hmk]at hac hgt oR;rw[<-hac]at hIN;clear hac hmk hgz hg0 hg1;have G8:∀(w:aF)(R:aJ),Own w (bB eu ab mk::R)->(Instr.lookup 157 (.map (some ab)) (.int .i64 t'.f) false).run prog w=.ok (eu (cu mk t'.f)) w:=fun w R o=>Dy o t'.f;obtain⟨gx,rfl,hcx,_,_⟩:=oR.aG (by omega);have d0:=hcx k _ (qM hg);obtain⟨gp,rfl,d1,d2⟩:=mY (oR.up 1) (i:=k) (y:=(t'.f,t'.w)) (by unfold bM;rw[kI,ht];rfl) (by omega);dsimp only at d1 d2;have c1:=(oR.up 2).cell 1;unfold n_ at hIN;unfold Cf at hgt;have hpt:(bM S2.L)[k]?=some (t'.f,t'.w):=by unfold bM;rw[kI,ht];rfl
       have V_:=az hpt;clear hcx ht hg hpt;generalize cu mk t'.f=cn at*;obtain⟨q1,q2,q3⟩:=cn;unfold eu at G8;dsimp only at*;obtain⟨y,hy⟩:=aP (sg*g);rw[hy]at hgt hsl;have wA:=IntWalk.i64_in y (by omega);have wB:=IntWalk.i64_in (q1+y) (by omega);have HGT:=az hgt;have lbl:=(oR.up 2).aS;have aho:gp<wr.heap.size:=World.block_lt_of_cell? _ _ d1;have oA:=oR.alloc (.cells #[aC,aC,aC] 333);have c1a:=(oA.up 3).cell 1;have hlk:=G8 _ _ (oR.drew.up 3);have hlk2:=G8 _ _ (oA.drew.up 4);obtain⟨gp2,aeg,f1,f2⟩:=mY (oA.up 2) (i:=k) (y:=(t'.f,t'.w)) V_.out (by omega);cases aeg;dsimp only at f1 f2;have HL0:=az G8;clear G8;go_upto_region 24 with fail;go_cut[19] (fun v wc=>v=.pointer (some ⟨wr.heap.size,0,none⟩)/\wc=(wr.alloc (.cells #[q1,q2,q3] 333)).drew);case first=>
        go_region_law(fail);all_goals go_wp2
        all_goals go_meet
        all_goals exact⟨rfl,rfl⟩
       case rest=>
        obtain⟨rfl,rfl⟩:=hcut;have oQ:=(oR.alloc (.cells #[q1,q2,q3] 333)).drew;have KQ:Calm w (wr.alloc (.cells #[q1,q2,q3] 333)).drew:=⟨kR.os,kR.tape,kR.output⟩;obtain⟨tb,htb⟩:=aP wr.heap.size;rw[htb]at oQ⊢;obtain⟨wq,hwq⟩:=aP ((wr.alloc (.cells #[q1,q2,q3] 333)).drew);rw[hwq]at oQ KQ⊢;clear hwq htb oA oR kR c1 c1a d0 d1 d2 f1 f2 hlk hlk2 aho lbl HL0;have e0:=oQ.cell (T:=333) (vs:=[q1,q2,q3]) 0;have ef:=oQ.frozen (T:=333) (vs:=[q1,q2,q3]);have el:=oQ.aS (T:=333) (vs:=[q1,q2,q3]);have oS:Own (wq.setCell ⟨tb,0,none⟩ (q1+y:Int)) (aH tb 333 [(q1+y:Int),q2,q3]::_):=oQ.setCell (T:=333) (vs:=[q1,q2,q3]) 0 (.int .i64 (q1+y));have KS:=aM (x:=⟨tb,0,none⟩) (v:=.int .i64 (q1+y)) KQ;go_upto_region 26 with fail;obtain⟨wS,hwS⟩:=aP (wq.setCell ⟨tb,0,none⟩ (q1+y:Int));rw[hwS]at oS KS⊢;clear hwS oQ KQ e0 ef el;have e0:=oS.cell (T:=333) (vs:=[(q1+y:Int),q2,q3]) 0;have e1:=oS.cell (T:=333) (vs:=[(q1+y:Int),q2,q3]) 1;have e2:=oS.cell (T:=333) (vs:=[(q1+y:Int),q2,q3]) 2;have c1:=(oS.up 3).cell 1;obtain⟨gp2,aeg,f1,f2⟩:=mY (oS.up 2) (i:=k) (y:=(t'.f,t'.w)) V_.out (by omega);cases aeg;dsimp only at f1 f2;refine wp_region_tail 10 (by kernel_rfl) (by kernel_rfl) ?_;simp only[xe,List.take_zero,yB,List.drop_zero];repeat still_step
        refine wpStill_nil ?_;go_wp2_with(at_mapUpdate;refine bg (f:=eu) rfl _ _ _ rfl underlying157 underlying3 ((oS.up 4).drew) t'.f (q1+y,q2,q3) rfl rfl rfl ?_);intro w4 o4 k4;go_wp2;go_roundw;case rel=>exact⟨k+1,by go_num,by omega,by rw[HGT.out];exact(o4.re [1] 1).re [1,2,3,0],KS.trans ⟨k4.os,k4.tape,k4.output⟩⟩
        case measure=>simp[pM];omega
      ·have hkn:k=S2.L.length:=by omega
       rw[hkn,ZO HGL.out]at oR;clear hkn;go_wp2;go_ret2;refine⟨rfl,wu.iff.2 ⟨rp,ab,?_⟩,kR⟩;dsimp only;rw[HMD.out,HHN.out];exact(oR.re [0,1] 2).re [0,2,1]
end
section
variable{w w':aF}{R:aJ}{b N:Nat}{aI:Int}{s:Iw}{O:List Tg}
theorem G9(f:jd)(o:Own w (wu b aI s::R)):
  Calls prog 409 #[dz b,lN f] w (aR (.tuple #[]) (wu b aI (wz s f.id f.wt f.lag f.lead).2::R) w):=by
 have oA:Own _ (aH _ 121 [b]::_):=o.alloc (.cells #[b] 121);have oB:Own _ (aH _ 167 [f.id,f.fU,f.wt,f.pk,f.eG,f.lag,f.lead]::_):=oA.alloc (.cells #[f.id,f.fU,f.wt,f.pk,f.eG,f.lag,f.lead] 167);rw[World.size_alloc]at oB;have kB:=aj (x:=.cells #[f.id,f.fU,f.wt,f.pk,f.eG,f.lag,f.lead] 167) (aj (x:=.cells #[b] 121) (Calm.refl w));have hJ:=Pj f.id f.wt f.lag f.lead (oB.up 2);unfold dz lN;clear oA o;go_enter func409,ntmps409;go_wp2_with fail;refine hJ.mono ?_;rintro _ w2⟨rfl,o2,k2⟩;go_wp2;go_end0;exact⟨rfl,o2.re [1,2,0] 2|>fun h=>h,kB.trans k2⟩
theorem Es(f:Int)(hI:MV N s)(o:Own w (wu b aI s::R)):
  Calls prog 410 #[dz b,f] w (aR (.int .i64 (nD s f).1.1) (wu b aI (nD s f).2::R) w):=by
 have oA:Own _ (aH _ 121 [b]::_):=o.alloc (.cells #[b] 121);have kA:=aj (x:=.cells #[b] 121) (Calm.refl w);have hJ:=Jk f hI (oA.up 1);unfold dz;clear hI o;generalize nD s f=y at*;go_enter func410,ntmps410;go_wp2_with fail;refine hJ.mono ?_;rintro _ w2⟨rfl,o2,k2⟩;go_wp2;go_ret;exact⟨rfl,o2.re [1] 1,kA.trans k2⟩
theorem Jl(o:Own w (wu b aI s::R)):Calls prog 411 #[dz b] w (aR (.int .i64 s.R.aw) (wu b aI s::R) w):=by have oA:Own _ (aH _ 121 [b]::_):=o.alloc (.cells #[b] 121);have kA:=aj (x:=.cells #[b] 121) (Calm.refl w);have hJ:=GZ (oA.up 1);unfold dz;clear o;go_enter func411,ntmps411;go_wp2_with fail;refine hJ.mono ?_;rintro e1 w1⟨rfl,rfl⟩;go_wp2;go_ret;exact⟨rfl,oA.drop,kA⟩
theorem G_{Sp:SP}{a:aY}{n c:Nat}{H:List Head}(hs:ZI aI s)(h1:eH Sp a H)(hn:n=H.length)(hf:jh s.R.L H=true)(hne:H≠[])
  (o:Own w (wu b aI s::Sp::R)):
  Calls prog 412 #[dz b,.slice a n c] w
   (aR (.tuple #[nQ (pz aI s H).1,.int .i64 (pz aI s H).2.1]) (wu b aI (pz aI s H).2.2::Sp::R) w):=by
 have oA:Own _ (aH _ 121 [b]::_):=o.alloc (.cells #[b] 121);have kA:=aj (x:=.cells #[b] 121) (Calm.refl w);have oB:Own _ (aH _ 297 [aC,aC,aC]::_):=oA.alloc (.cells #[aC,aC,aC] 297);rw[World.size_alloc]at oB;have kB:=aj (x:=.cells #[aC,aC,aC] 297) kA;have hJ:=Qa (c:=c) hs h1 hn hf hne (oB.re [2,3]);generalize pz aI s H=y at*;unfold nQ at hJ;unfold dz;have c0:=(oB.up 1).cell 0;clear o hs hf hne oA hn h1;go_enter func412,ntmps412;go_wp2_with fail;refine hJ.mono ?_;rintro _ w2⟨rfl,o2,k2⟩;obtain⟨xf,xl,x0,x1,x2,-⟩:=(o2.up 2).cs;go_wp2
 (try simp only[Exit.inBlock,Exit.then])
 have oE:=((((o2.up 2).setCell 0 y.1.ch).setCell 1 y.1.sv).setCell 2 y.1.why);refine bodyPost_ret (v:=.tuple #[nQ y.1,y.2.1]) ?_ rfl ⟨rfl,oE.re [0,3] 2,ay (ay (ay (kB.trans k2)))⟩;exact yw rfl _ rfl rfl oE
end
section
variable{w w':aF}{R:aJ}{b:Nat}{m:aX}
def rX(x:Int):dw:=[x]
theorem He(x:Int):(rX x).length=1:=rfl
theorem Z0(L:bq):∀u∈flat rX L,u.oneCell'=true:=by intro u hu;obtain⟨s,_,hs⟩:=List.mem_flatMap.1 hu;simp only[rX,jc,xN,or_false]at hs;subst hs;rfl
theorem Hf:∀L:bq,flat rX L=L.map (Value.int .i64)
 |[]=>rfl
 |x::L=>by rw[iD,<-Hf L];rfl
theorem Qk{a:aY}{n c i:Nat}{L:bq}(hn:n=L.length)(hi:i<n)(hl:n<=100000)(o:Own w (slc 3 1 a n c (flat rX L)::R)):
  Calls prog 132 #[.slice a n c,(i:Int),((i:Int)+1:Int)] w
   (aR (.slice a (n-1) c) (slc 3 1 a (n-1) c (flat rX (L.eraseIdx i))::R) w):=by
 obtain⟨m,rfl⟩:∃m,n=i+1+m:=⟨n-(i+1),by omega⟩;rw[show i+1+m-1=i+m by omega];obtain⟨g,rfl,hc,hf,hgl⟩:=o.aG (by omega);have hnc:=o.fA.2.1;have hcm:=o.fA;have hsplit:flat rX L=flat rX (L.take i)++flat rX (L.drop i):=by rw[<-aO,List.take_append_drop]
 have htl:(flat rX (L.take i)).length=i:=by rw[aN He,rZ,Nat.min_eq_left (by omega),Nat.mul_one]
 have oC:Own w (slc 3 1 (some ⟨g,0,none⟩) i c (flat rX (L.take i))::R):=by rw[hsplit]at o;exact Own.lW o (by omega) (by rw[htl,Nat.mul_one])
 have oD:=oC.drew;have hsrc:∀(ad:aY)(c':Nat),(ad=some ⟨g,(i+1),none⟩\/m=0)->qX w.drew (.slice ad m c') 1 m (flat rX (L.drop (i+1))):=fun ad c' had=>
  ⟨ad,c',rfl,by rw[aN He,List.length_drop,<-hn];omega,Z0 _,by
   rcases had with rfl|h0
   ·right;refine⟨_,rfl,fun j u hu=>?_⟩;have hadd:(⟨g,(i+1),none⟩:Addr).add j=⟨g,(i+1)+j,none⟩:=by unfold Addr.add;split<;>simp_all
    rw[hadd];refine hc ((i+1)+j) u ?_;have h2:flat rX L=flat rX (L.take (i+1))++flat rX (L.drop (i+1)):=by rw[<-aO,List.take_append_drop]
    have h3:(flat rX (L.take (i+1))).length=(i+1):=by rw[aN He,rZ,Nat.min_eq_left (by omega),Nat.mul_one]
    rw[h2,List.getElem?_append_right (by omega),h3,show(i+1)+j-(i+1)=j by omega];exact hu
   ·exact .inl h0⟩
 have HS:=az hsrc;have HE:=az (show flat rX (L.take i)++flat rX (L.drop (i+1))=flat rX (L.eraseIdx i)by rw[<-aO,List.eraseIdx_eq_take_drop_succ]);have hb1:(i:Int)<=(c:Int):=by omega
 have hb2:(i:Int)+1<=(c:Int):=by omega
 have hb5:(i:Int)<=(i:Int)+1:=by omega
 have hb6:0<=(i:Int)+1:=by omega
 have hb7:(i:Int)+1<=(i:Int)+1+(m:Int):=by omega
 have hb3:i<=c:=by omega
 have hb4:i+1<=c:=by omega
 have hne:((i:Int)==(i:Int)+1)=false:=by simpa using(by omega:¬(i:Int)=(i:Int)+1)
 clear hsrc hsplit htl hc hf hn o oC hcm;go_enter func132,ntmps132;by_cases hc1:c=i+1
 ·have hm0:m=0:=by omega
  subst hm0;subst hc1;go_upto_region 5 with fail;go_region_law(first|(refine gY rfl _ _ rfl Tryz.intTk rfl oD rfl (HS.out _ _ (.inr rfl)) (by omega) ?_;intro w5 o5 k5));have o6:Own w5 (slc 3 1 (some ⟨g,0,none⟩) i (i+1) (flat rX (L.eraseIdx i))::R):=by rw[<-HE.out];exact o5
  obtain⟨w6,hcl,o7,k7⟩:=fB 0 Tryz.intTk Tryz.intTZ rfl O1 o6 (m:=1) (c:=1) (by omega);rw[Nat.mul_one]at hcl;go_wp2;go_ret;exact⟨rfl,o7,(aD (Calm.refl w)).trans (k5.trans k7)⟩
 ·have hx:=HS.out (some ⟨g,(i+1),none⟩) (c-(i+1)) (.inl rfl);go_upto_region 5 with fail;go_region_law(first|(refine gY rfl _ _ rfl Tryz.intTk rfl oD ?hxx hx (by omega) ?hkk;(case hxx=>go_simp);intro w5 o5 k5));have o6:Own w5 (slc 3 1 (some ⟨g,0,none⟩) (i+m) c (flat rX (L.eraseIdx i))::R):=by rw[<-HE.out];exact o5
  obtain⟨w6,hcl,o7,k7⟩:=fB 0 Tryz.intTk Tryz.intTZ rfl O1 o6 (m:=i+1+m-(i+m)) (c:=c-(i+m)) (by omega);rw[Nat.mul_one]at hcl;go_wp2;go_ret;exact⟨rfl,o7,(aD (Calm.refl w)).trans (k5.trans k7)⟩
theorem MW{a:aY}{c i:Nat}{L:bq}(hi:i<L.length)(hl:L.length<=100000)(o:Own w (bZ a c L::R)):
  Calls prog 132 #[.slice a L.length c,(i:Int),((i:Int)+1:Int)] w
   (aR (.slice a (L.length-1) c) (bZ a c (L.eraseIdx i)::R) w):=by
 have h:=Qk (L:=L) rfl hi hl (R:=R) (w:=w) (a:=a) (c:=c) (by rw[Hf];exact o);rw[Hf]at h;have hle:(L.eraseIdx i).length=L.length-1:=List.length_eraseIdx_of_lt hi;refine h.mono ?_;rintro e w2⟨h1,h2,h3⟩;refine⟨h1,?_,h3⟩;unfold bZ;rw[hle];exact h2
end
end Go.Proofs.YtfejhikpfhgbeaaGreatDoor
