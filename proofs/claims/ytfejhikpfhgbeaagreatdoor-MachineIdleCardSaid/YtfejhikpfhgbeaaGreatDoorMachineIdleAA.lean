import Derived.Test.YtfejhikpfhgbeaaGreatDoorMachineIdleX
set_option maxHeartbeats 25600000
set_option maxRecDepth 100000
set_option linter.all false
namespace Go.Proofs.YtfejhikpfhgbeaaGreatDoor
open Go.Proofs.Tryz
open Go.RowKit
open SP
section
variable{w w':aF}{R:aJ}{b x1 rb mb:Nat}{r:I4}{ks:List Nat}{M:List (Int×rV)}
def mF(ks:List Nat)(M:List (Int×rV)):List (Int×Nat):=List.zipWith (fun k(y:Int×rV)=>(y.1,k)) ks M
def Et(x1 rb mb b:Nat):SP:=aH x1 128 [rb,.map (some mb),b]
def lvT(r:I4)(M':List (Int×rV))(id:Int):I4:=if M'.any (fun y=>y.2.id==id)then r else leaveD r (yR r.O id).toNat
theorem Cv:∀(ks:List Nat)(M:List (Int×rV)),ks.length=M.length->(mF ks M).map (·.1)=M.map (·.1)
 |[],[],_=>rfl
 |k::ks,y::M,h=>by show y.1::(mF ks M).map (·.1)=y.1::M.map (·.1);rw[Cv ks M (by simpa using h)]
 |[],_::_,h=>by simp at h
 |_::_,[],h=>by simp at h
theorem KH(hl:ks.length=M.length)(hu:bL M):bL (mF ks M):=by unfold bL;rw[Cv ks M hl];exact hu
theorem Hg{i k:Nat}{y:Int×rV}(h1:ks[i]?=some k)(h2:M[i]?=some y):(mF ks M)[i]?=some (y.1,k):=by unfold mF;rw[List.getElem?_zipWith,h1,h2]
theorem UY{α:Type}:∀{m:List (Int×α)}{i:Nat}{k:Int}{v:α},bL m->m[i]?=some (k,v)->dW m k=m.eraseIdx i
 |[],i,k,v,_,h=>by simp at h
 |(k',v')::m,0,k,v,hu,h=>by simp at h;obtain⟨rfl,rfl⟩:=h;unfold dW;rw[if_pos rfl];rfl
 |(k',v')::m,i+1,k,v,hu,h=>by
  have h':m[i]?=some (k,v):=by simpa using h
  have hu':bL m:=by unfold bL at hu⊢;rw[iD,List.nodup_cons]at hu;exact hu.2
  have hne:¬k=k':=fun he=>by unfold bL at hu;rw[iD,List.nodup_cons]at hu;exact hu.1 (gW.2 ⟨(k,v),mH h',he⟩)
  unfold dW;rw[if_neg hne,UY hu' h'];rfl
theorem Own.afW{i k:Nat}{y:Int×rV}(h1:ks[i]?=some k)(h2:M[i]?=some y)(o:Own w (SP.st (List.zipWith mK ks M)::R)):w.cell? ⟨k,0,none⟩=some ↑y.2.id/\k<w.heap.size:=by
 have hz:(List.zipWith mK ks M)[i]?=some (mK k y):=by rw[List.getElem?_zipWith,h1,h2]
 have o1:=Own.focus hz o;have oC:Own w (aH k 269 (qW y.2)::_):=o1;exact⟨Own.cell oC 0 rfl,oC.aS⟩
def acV(ib mb:Nat)(Z:List (Int×Nat))(M':List (Int×rV))(id:Int)(l:aJ)(w:aF)(_:aL)(wr:aF):Prop:=
 ∃(S:Int->Bool)(cur:Option Int),(∀(i:Nat)(x:Int×rV),M'[i]?=some x->S x.1=true->x.2.id≠id)/\Own wr (fZ pv mb ib Z S cur::l)/\Calm w wr
theorem Eu{i:Nat}{f:Int}{s:rV}(hl:ks.length=M.length)(hu:bL M)(hi:M[i]?=some (f,s))(hr:∀j,yR r.O s.id=j->0<=j/\j.toNat<r.O.length)(hrl:r.O.length<=100)
  (o:Own w (Et x1 rb mb b::dX rb r::bB pv mb (mF ks M)::st (List.zipWith mK ks M)::R)):
  Calls prog 447 #[x1,f] w
   (aR (.int .i64 0) (Et x1 rb mb b::dX rb (lvT r (M.eraseIdx i) s.id)::bB pv mb (mF (ks.eraseIdx i) (M.eraseIdx i))::st (List.zipWith mK (ks.eraseIdx i) (M.eraseIdx i))::R) w):=by
 obtain⟨k,hk⟩:∃k,ks[i]?=some k:=⟨_,cZ (by rw[hl];exact(eU.1 hi).1)⟩;have hzu:=KH hl hu;have hzi:=Hg hk hi;have E9:=eO hzu (mH hzi);have hmd:=UY hzu hzi;have hze:(mF ks M).eraseIdx i=mF (ks.eraseIdx i) (M.eraseIdx i):=xC _ ks M i hl;have hzs:(List.zipWith mK ks M).eraseIdx i=List.zipWith mK (ks.eraseIdx i) (M.eraseIdx i):=xC _ ks M i hl;rw[hze]at hmd;have hz:(List.zipWith mK ks M)[i]?=some (mK k (f,s)):=by rw[List.getElem?_zipWith,hk,hi]
 have oF:=Own.focus hz (o.up 3);rw[hzs]at oF;dsimp only at E9;have hle:(ks.eraseIdx i).length=(M.eraseIdx i).length:=by rw[List.length_eraseIdx,List.length_eraseIdx,hl]
 have hue:bL (M.eraseIdx i):=by unfold bL at hu⊢;exact hu.sublist ((List.eraseIdx_sublist M i).map _)
 generalize M.eraseIdx i=M' at*;generalize ks.eraseIdx i=ks' at*;have oG:Own w (aH k 269 (qW s)::st (List.zipWith mK ks' M')::Et x1 rb mb b::dX rb r::bB pv mb (mF ks M)::R):=oF;generalize mF ks M=Z at*;have oT:Own w (aH x1 128 [rb,.map (some mb),b]::aH k 269 (qW s)::st (List.zipWith mK ks' M')::dX rb r::bB pv mb Z::R):=oG.up 2;obtain⟨-,cl,-,c1,-⟩:=oT.cs;have hlk:=(bI (P:=prog) underlying126 underlying3 (fun w=>show(zeroValue 547).run prog w=.ok (.pointer none) w by kernel_rfl) (oT.up 4) f false);rw[E9]at hlk;have hlk2:(Instr.lookup 126 (.map (some mb)) (.int .i64 f) false).run prog w=.ok (.pointer (some ⟨k,0,none⟩)) w:=hlk;have HMD:=az hmd;have HHR:=az hr;have HL:=az hle;have HU:=az hue;clear hlk E9 hmd hr hle hue hzi hzu hz oF oG hi hk hl hu hze hzs o;go_enter func447,ntmps447;go_wp2_with(first|fail|(at_delete;refine dL rfl _ _ rfl underlying126 underlying3 (oT.up 4) f rfl rfl ?c2));case c2=>
 intro w2 o3 k3;rw[HMD.out]at o3;have oU:Own w2 (bB pv mb (mF ks' M')::aH x1 128 [rb,.map (some mb),b]::aH k 269 (qW s)::st (List.zipWith mK ks' M')::dX rb r::R):=o3;obtain⟨-,dl,-,d1,-⟩:=(oU.up 1).cs;have BH:=KH HL.out HU.out;obtain⟨w5,VE,o9,k9⟩:=gL (P:=prog) underlying126 oU;have K5:=k3.trans k9;have hT:∀v,acV w2.heap.size mb (mF ks' M') M' s.id (aH x1 128 [rb,.map (some mb),b]::aH k 269 (qW s)::st (List.zipWith mK ks' M')::dX rb r::R) w v w5:=fun v=>⟨fun _=>false,none,(fun _ _ _ hc=>by cases hc),o9,K5⟩;clear o9 k9 o3 c1 cl hlk2 oT k3 K5;go_wp2;go_loopw[7] (fun v wr=>acV w2.heap.size mb (mF ks' M') M' s.id (aH x1 128 [rb,.map (some mb),b]::aH k 269 (qW s)::st (List.zipWith mK ks' M')::dX rb r::R) w v wr) (fun _ wr=>iE wr mb w2.heap.size);case atStart=>exact hT _
 case round=>
  clear hT VE d1 dl oU;obtain⟨S,cur,hno,oR,kR⟩:=hrel;rcases iM (P:=prog) 0 BH oR with⟨hd,hrn⟩|⟨x,w6,hx,hS,hrn,jN,k10⟩
  ·have hF:=az (show M'.any (fun y=>y.2.id==s.id)=false from by
    rw[List.any_eq_false];intro y hy hc;obtain⟨j,hj,rfl⟩:=List.getElem_of_mem hy;refine hno j M'[j] (cZ hj) ?_ (by simpa using hc);obtain⟨kj,hkj⟩:∃kj,ks'[j]?=some kj:=⟨_,cZ (by rw[HL.out];exact hj)⟩
    exact hd (M'[j].1,kj) (mH (Hg hkj (cZ hj))))
   have oD:=oR.lV;obtain⟨j,hj⟩:=aP (yR r.O s.id);obtain⟨j0,jl⟩:=HHR.out j hj;obtain⟨jn,rfl⟩:∃n:Nat,j=(n:Int):=⟨j.toNat,by omega⟩;have hLv:=Qn hj (by simpa using jl) hrl (oD.drew.up 4);have HJ:=az hj;obtain⟨-,zl,z0,-⟩:=(oD.up 1).cs;have zk:=(oD.up 2).cell 0;change World.cell? _ ⟨k,0,none⟩=some ↑s.id at zk;have zkl:=(oD.up 2).aS;clear hno hj oR hd;go_upto_region 8 with fail
   go_region_held3(fun w'=>w'.cell? ⟨x1,0,none⟩=some (.pointer (some ⟨rb,0,none⟩))/\w'.cell? ⟨k,0,none⟩=some ↑s.id) (go_keep) (first
    |(go_at_call 450;(with_reducible refine Calls.mono hLv ?_);rintro _ w8⟨rfl,o8,k8⟩;have y0:=(o8.up 2).cell 0;have y1:=(o8.up 3).cell 0;change World.cell? w8 ⟨x1,0,none⟩=some (.pointer (some ⟨rb,0,none⟩))at y0;change World.cell? w8 ⟨k,0,none⟩=some ↑s.id at y1))
   have KF:=(aD kR).trans k8;go_wp2;go_ret;refine⟨rfl,?_,KF⟩;have e1:lvT r M' s.id=leaveD r jn:=by unfold lvT;rw[hF.out,if_neg (by decide),HJ.out];rfl
   rw[e1];exact o8.re [2,0,1,4,3]|>fun oo=>oo.re [0,1,2,3]|>fun oo=>(oo.up 4).drop.re [0,1,2,3]
  ·obtain⟨q,hq⟩:=List.getElem?_of_mem hx;have PO:=(eU.1 hq).1;have hzl:(mF ks' M').length=M'.length:=by unfold mF;rw[List.length_zipWith,HL.out,Nat.min_self]
   obtain⟨kq,hkq⟩:∃kq,ks'[q]?=some kq:=⟨_,cZ (by rw[HL.out];omega)⟩;obtain⟨y,hy⟩:∃y,M'[q]?=some y:=⟨_,cZ (by omega)⟩;have hxe:x=(y.1,kq):=by have h1:=Hg hkq hy;rw[hq]at h1;exact Option.some.inj h1
   have hmv:=eO BH hx;have hen:=gP (P:=prog) BH jN hmv;have hM:=az (qi hx hS);subst hxe;dsimp only at hS hmv hen jN hM hrn;obtain⟨q0,ql⟩:=Own.afW hkq hy (jN.up 3);unfold pv at hen;have zk:=(jN.up 2).cell 0;change World.cell? _ ⟨k,0,none⟩=some ↑s.id at zk;have zkl:=(jN.up 2).aS;have hL1:=az oR.iE;have hL2:=az jN.iE;by_cases hv:y.2.id=s.id
   ·have hF:=az (show M'.any (fun y=>y.2.id==s.id)=true from by
     rw[List.any_eq_true]
     exact⟨y,mH hy,by simpa using hv⟩)
    have oD:=jN.lV;have hb:(y.2.id==s.id)=true:=by simpa using hv
    clear hno hx hS hmv hv hq PO hzl hkq hy;go_upto_region 6 with fail;go_quiet(fail);go_wp2;go_ret;refine⟨rfl,?_,(kR.trans k10).dn _⟩;have e1:lvT r M' s.id=r:=by unfold lvT;rw[hF.out,if_pos rfl]
    rw[e1];exact((oD.up 2).drop.re [1,3,0,2]).drewN _
   ·have hN:=az (show∀(i:Nat)(z:Int×rV),M'[i]?=some z->(S z.1||z.1==y.1)=true->z.2.id≠s.id from fun i z hz hc=>by
     rcases(by simpa using hc:S z.1=true\/z.1=y.1)with h1|h2
     ·exact hno i z hz h1
     ·have hzy:z=y:=by have e1:=eO HU.out (mH hz);have e2:=eO HU.out (mH hy);rw[h2,e2]at e1;obtain⟨z1,z2⟩:=z;obtain⟨y1,y2⟩:=y;simp at e1 h2;rw[h2,e1]
      rw[hzy];exact hv)
    have hb:(y.2.id==s.id)=false:=by simpa using hv
    clear hno hx hS hmv hv hq PO hzl hkq hy;go_upto_region 6 with fail;go_quiet(fail);go_wp2;go_roundw;case rel=>exact⟨_,_,hN.out,jN.drewN _,(kR.trans k10).dn _⟩
    case measure=>show iE w6 mb w2.heap.size<_;rw[hL2.out,hL1.out];exact hM.out
end
section
variable{w w':aF}{R:aJ}{b x1 rb mb tb:Nat}{r:I4}{ks:List Nat}{M:List (Int×rV)}{T:yV}
theorem KI{α:Type}:∀{m:List (Int×α)}{k:Int}{v:α},k∉m.map (·.1)->bA m k v=m++[(k,v)]
 |[],k,v,_=>rfl
 |(k',v')::m,k,v,h=>by rw[iD,jc,not_or]at h;unfold bA;rw[if_neg h.1,KI h.2];rfl
theorem Z6{k:Nat}{y:Int×rV}(h:ks.length=M.length):mF (ks++[k]) (M++[y])=mF ks M++[(y.1,k)]:=by unfold mF;rw[List.zipWith_append h];rfl
theorem Ho{cs:dw}{f:jd}{s:rV}(h20:cs[20]?=some (.pointer (some ⟨tb,0,none⟩)))(hT:T.Ok)(hs:WI T.S f.fU=some s)(hl:ks.length=M.length)(hno:f.id∉M.map (·.1))
  (hi:0<=s.id/\s.id<16)(hw:1<=s.wt/\s.wt<=16)(hq:256<=r.q/\r.q<=1048576)(hrl:r.O.length<=100)
  (o:Own w (Et x1 rb mb b::dX rb r::bB pv mb (mF ks M)::st (List.zipWith mK ks M)::aH b 75 cs::dM tb T::R)):
  Calls prog 446 #[x1,lN f] w
   (fun e w'=>∃k,aR (.tuple #[]) (Et x1 rb mb b::dX rb (Au r s.id s.wt).2::bB pv mb (mF (ks++[k]) (M++[(f.id,s)]))::st (List.zipWith mK (ks++[k]) (M++[(f.id,s)]))::aH b 75 cs::dM tb T::R) w e w'):=by
 obtain⟨fid,fst,wt,pk,eG,lag,lead⟩:=f;dsimp only at hs hno⊢;have HZ:∀k,mF (ks++[k]) (M++[(fid,s)])=bA (mF ks M) fid k:=fun k=>by rw[Z6 hl,KI (by rw[Cv ks M hl];exact hno)]
 have HZ2:∀k,List.zipWith mK (ks++[k]) (M++[(fid,s)])=List.zipWith mK ks M++[mK k (fid,s)]:=fun k=>by rw[List.zipWith_append hl];rfl
 have HZ:=az HZ;have HZ2:=az HZ2;have hv:WJ T.S fst=.tuple #[.agg (qW s).toArray,.bool true]:=by unfold WJ;rw[hs]
 have oA:Own (w.alloc (.cells #[fid,fst,wt,pk,eG,lag,lead] 167)) (aH w.heap.size 167 [fid,fst,wt,pk,eG,lag,lead]::Et x1 rb mb b::dX rb r::bB pv mb (mF ks M)::st (List.zipWith mK ks M)::aH b 75 cs::dM tb T::R):=o.alloc (.cells #[fid,fst,wt,pk,eG,lag,lead] 167);have K0:=aj (x:=.cells #[fid,fst,wt,pk,eG,lag,lead] 167) (Calm.refl w);show Calls _ _ #[_,.agg #[fid,fst,wt,pk,eG,lag,lead]] w _;generalize mF ks M=Z at*;generalize List.zipWith mK ks M=ZS at*;clear hno hl hs o;obtain⟨s0,s1,s2,s3⟩:=s;dsimp only at hi hw;unfold qW at hv;dsimp only at hv;unfold Et at oA;go_enter func446,ntmps446;go_upto_region 1 with fail;generalize w.alloc (.cells #[fid,fst,wt,pk,eG,lag,lead] 167)=w0 at*;generalize w.heap.size=kf at*;have f1:=oA.cell 1;change World.cell? _ ⟨kf,1,none⟩=some ↑fst at f1;obtain⟨-,-,-,-,m2,-⟩:=Own.cs (vs:=_::_::.pointer (some ⟨b,0,none⟩)::_) (oA.up 1);have m20:=Own.cell (oA.up 5) 20 h20;have oP:Own (w0.alloc (.cells #[aC,.string ⟨#[]⟩,aC,aC] 269)).drew (aH w0.heap.size 269 [aC,.string ⟨#[]⟩,aC,aC]::_):=oA.alloc (.cells #[aC,.string ⟨#[]⟩,aC,aC] 269);have hS1:=uM fst hT (oA.drew.up 6);have hS2:=uM fst hT (oP.up 7);rw[hv]at hS1 hS2;have al:=oA.aS;have tl:=(oA.up 1).aS;have bl:=(oA.up 5).aS;go_cut[4,5] (fun v4 _ wc=>∃kp:Nat,v4=.pointer (some ⟨kp,0,none⟩)/\Own wc (aH kp 269 [s0,.string s1,s2,s3]::aH kf 167 [fid,fst,wt,pk,eG,lag,lead]::aH x1 128 [rb,.map (some mb),b]::dX rb r::bB pv mb Z::st ZS::aH b 75 cs::dM tb T::R)/\Calm w wc);case first=>
  go_region_with(first
   |(go_at_call 153;(with_reducible refine Calls.mono hS1 ?_);rintro _ w8⟨rfl,oA8,k8⟩)
   |(go_at_call 153;(with_reducible refine Calls.mono hS2 ?_);rintro _ w8⟨rfl,oB8,k8⟩;have y0:=(oB8.up 1).cell 0;have y1:=(oB8.up 1).cell 1;have y2:=(oB8.up 1).cell 2;have y3:=(oB8.up 1).cell 3;have xf:=(oB8.up 1).frozen;have xl:=(oB8.up 1).aS))
  all_goals go_wp2
  all_goals go_meet
  all_goals first
   |exact⟨_,rfl,(oA8.alloc (.cells #[s0,.string s1,s2,s3] 269)).re [0,2,3,4,5,6,7],aj ((aD K0).trans k8)⟩
   |exact⟨_,rfl,(((((oB8.up 1).setCell 0 s0).setCell 1 (.string s1)).setCell 2 s2).setCell 3 s3).re [0,2,3,4,5,6,7],ay (ay (ay (ay ((aD (aj K0)).trans k8))))⟩
 case rest=>
  obtain⟨kp,rfl,oS,kS⟩:=hcut;clear hS1 hS2 oA oP K0 f1 m2 m20 al tl bl;obtain⟨-,pl,p0,-,p2,-⟩:=oS.cs;obtain⟨-,ql,q0,-⟩:=(oS.up 2).cs;have hJ:=R7 (wt:=s2) hi hw hq hrl (oS.drew.up 3);obtain⟨jr,hjr⟩:=aP (Au r s0 s2);have HJR:=az hjr;rw[hjr]at hJ;clear hjr hi hw hq hrl hT hv;go_upto_region 2 with fail
  go_region_held3(fun w'=>w'.cell? ⟨kp,0,none⟩=some ↑s0/\w'.cell? ⟨kp,2,none⟩=some ↑s2/\w'.cell? ⟨x1,0,none⟩=some (.pointer (some ⟨rb,0,none⟩))) (go_keep) (first
   |(go_at_call 449;(with_reducible refine Calls.mono hJ ?_);rintro _ w9⟨rfl,o9,k9⟩;have y0:=(o9.up 1).cell 0;have y2:=(o9.up 1).cell 2;have z0:=(o9.up 3).cell 0;change World.cell? w9 ⟨kp,0,none⟩=some ↑s0 at y0;change World.cell? w9 ⟨kp,2,none⟩=some ↑s2 at y2;change World.cell? w9 ⟨x1,0,none⟩=some (.pointer (some ⟨rb,0,none⟩))at z0))
  have K9:=(aD kS).trans k9;have oT:Own w9 (aH x1 128 [rb,.map (some mb),b]::dX rb jr.2::bB pv mb Z::st ZS::aH b 75 cs::dM tb T::aH kp 269 [s0,.string s1,s2,s3]::aH kf 167 [fid,fst,wt,pk,eG,lag,lead]::R):=o9.re [3,0,4,5,6,7,1,2];clear hJ oS kS o9 k9 p0 p2 q0 pl ql y0 y2 z0;obtain⟨-,tl,-,t1,-⟩:=oT.cs;have g0:=(oT.up 7).cell 0;change World.cell? _ ⟨kf,0,none⟩=some ↑fid at g0;have gl:=(oT.up 7).aS;go_upto_region 3 with fail;refine wp_region_tail 6 (by kernel_rfl) (by kernel_rfl) ?_;simp only[xe,List.take_zero,yB,List.drop_zero];repeat still_step
  refine wpStill_nil ?_;have oM:=(oT.drew.up 2);go_wp2_with(at_mapUpdate;refine bg (f:=pv) rfl _ _ _ rfl underlying126 underlying3 oM fid kp rfl rfl rfl ?c1);case c1=>
  intro wa oa ka;go_wp2;go_end0;have oB:=oa.re [1,2,0,3,6,4,5];have oC:Own wa (mK kp (fid,⟨s0,s1,s2,s3⟩)::st ZS::_):=oB.re [4,3];have oD:=(Own.BB oC).re [6,1,2,3,0] 1;refine⟨kp,rfl,?_,(aD K9).trans ka⟩;rw[HZ.out,HZ2.out];show Own wa (Et x1 rb mb b::dX rb (Au r s0 s2).2::_);rw[HJR.out];exact oD
end
end Go.Proofs.YtfejhikpfhgbeaaGreatDoor
