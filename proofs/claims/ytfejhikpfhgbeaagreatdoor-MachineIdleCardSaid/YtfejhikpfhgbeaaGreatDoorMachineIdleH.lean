import Derived.Test.YtfejhikpfhgbeaaGreatDoorMachineIdleA
set_option maxHeartbeats 25600000
set_option maxRecDepth 100000
set_option linter.all false
namespace Go.Proofs.YtfejhikpfhgbeaaGreatDoor
open Go.Proofs.Tryz
open Go.RowKit
open SP
def Ac(k:IntKind)(w:aF)(a:aY)(len cap:Nat)(zs:bq):Prop:=
 (a=none/\len=0/\cap=0/\zs=[])\/
 ∃x,a=some x/\len<=cap/\cap<=maxLen/\zs.length=cap/\(∀i,i<zs.length->w.cell? (x.add i)=some (.int k (zs.getD i 0)))/\∀n∈zs,(Lit.int k n).wf=true
theorem Ac.at{k:IntKind}{w:aF}{a:aY}{len cap:Nat}{zs:bq}(h:Ac k w a len cap zs){i:Nat}(hi:i<len):
  ∃sb so x,a=some ⟨sb,so,none⟩/\w.cell? ⟨sb,so+i,none⟩=some (.int k x):=by
 rcases h with⟨_,h,_⟩|⟨⟨sb,so,sp⟩,rfl,h1,_,h2,hc,_⟩
 ·omega
 ·cases sp with
  |none=>
   have h3:=hc i (by omega);have e:(⟨sb,so,none⟩:Addr).add i=⟨sb,so+i,none⟩:=by unfold Addr.add;split<;>simp_all
   rw[e]at h3;exact⟨sb,so,_,rfl,h3⟩
  |some s=>have h3:=hc 0 (by omega);have e:(⟨sb,so,some s⟩:Addr).add 0=⟨sb,so,some s⟩:=rfl;rw[e]at h3;unfold World.cell? at h3;split at h3<;>simp at h3
def Ch(W:aF)(b N:Nat):SP:=ex fun(p:aY×Nat×Nat×bq×Int)=>st [pu (Ac .i64 W p.1 p.2.1 p.2.2.1 p.2.2.2.1/\0<=p.2.2.2.2/\p.2.2.2.2<=N),aH b 58 [.slice p.1 p.2.1 p.2.2.1,p.2.2.2.2]]
theorem Ch.open{W w:aF}{b N:Nat}{R:aJ}(o:Own w (Ch W b N::R)):
  ∃a len cap zs at_,Ac .i64 W a len cap zs/\0<=at_/\at_<=(N:Int)/\Own w (aH b 58 [.slice a len cap,.int .i64 at_]::R):=by
 obtain⟨⟨a,len,cap,zs,at_⟩,h⟩:=Own.ex.1 o;obtain⟨⟨h1,h2,h3⟩,h4⟩:=Own.pu.1 (Own.st.1 h);exact⟨a,len,cap,zs,at_,h1,h2,h3,h4⟩
theorem Ch.shut{W w:aF}{b N:Nat}{R:aJ}{a:aY}{len cap:Nat}{zs:bq}{at_:Int}(h1:Ac .i64 W a len cap zs)(h2:0<=at_)(h3:at_<=(N:Int))
  (o:Own w (aH b 58 [.slice a len cap,at_]::R)):Own w (Ch W b N::R):=
 Own.ex.2 ⟨⟨a,len,cap,zs,at_⟩,Own.st.2 (Own.pu.2 ⟨⟨h1,h2,h3⟩,o⟩)⟩
def Ad(W:aF)(b N:Nat)(n:Int)(R:aJ)(w:aF)(e:Ending)(w':aF):Prop:=
 ∃x:Int,0<=x/\x<n/\e=.returned (.int .i64 x)/\Own w' (Ch W b (N+1)::old W::R)/\Calm w w'
theorem FT{x n:Int}(h:1<=n):-n<x.tmod n/\x.tmod n<n:=by have h1:=Int.natAbs_tmod x n;have h2:=Nat.mod_lt x.natAbs (show 0<n.natAbs by omega);omega
theorem BQ(W:aF)(b N:Nat)(n:Int)(R:aJ)(w:aF)(hn:1<=n)(hn2:n<=4611686018427387904)(hN:(N:Int)<=1000000000000)
  (o:Own w (Ch W b N::old W::R)):
  Calls prog 15 #[b,n] w (Ad W b N n R w):=by
 obtain⟨a,len,cap,zs,at_,hrow,h0,h1,o1⟩:=Ch.open o;obtain⟨hf,-,c0,c1,-⟩:=o1.cs;have hd0:n≠0:=by omega
 have fin:∀(m:Nat)(x:Int),0<=x->x<n->Ad W b N n R w (.returned (.int .i64 x)) ((w.drewN m).setCell ⟨b,1,none⟩ (at_+1:Int)):=by intro m x hx1 hx2;exact⟨x,hx1,hx2,rfl,Ch.shut hrow (by omega) (by omega) ((o1.drewN m).setCell 1 _),⟨rfl,rfl,rfl⟩⟩
 have hl:(len:Int)<=9223372036854775807:=by
  rcases hrow with⟨_,rfl,_⟩|⟨_,_,h,h',_⟩
  ·omega
  ·unfold maxLen at h';omega
 have hlc:len<=cap:=by rcases hrow with⟨_,rfl,rfl,_⟩|⟨_,_,h,h',_⟩<;>omega
 by_cases hlt:at_<(len:Int)
 ·obtain⟨sb,so,x,rfl,hx⟩:=hrow.at (i:=at_.toNat) (by omega);have hx':=o1.swap.swap.drop;have hc:=o1.drop.r9 hx;have hr:=FT (x:=x) hn;go_enter func15,ntmps15;go_wp2;go_quiet(fail);go_wp2;go_quiet(fail);go_wp2;all_goals go_ret
  ·exact fin _ _ (by omega) (by omega)
  ·exact fin _ _ (by omega) (by omega)
 ·have hr1:=Int.emod_nonneg (7*at_+3) hd0;have hr2:=Int.emod_lt_of_pos (7*at_+3) (show 0<n by omega);go_enter func15,ntmps15;go_wp2;go_quiet(fail);go_wp2;go_ret;exact fin _ _ hr1 hr2
theorem OL{W w:aF}{R:aJ}(a:aY)(len cap:Nat)(zs:bq)(hz:Ac .i64 W a len cap zs)(o:Own w R):
  Calls prog 5 #[.slice a len cap] w fun e w'=>∃b,e=.returned (.pointer (some ⟨b,0,none⟩))/\Own w' (Ch W b 0::R)/\Calm w w':=by
 go_enter func5,ntmps5;go_wp2;go_ret;exact⟨_,rfl,Ch.shut hz (Int.le_refl _) (by simp) (o.alloc (.cells #[.slice a len cap,aC] 58)),⟨rfl,rfl,rfl⟩⟩
end Go.Proofs.YtfejhikpfhgbeaaGreatDoor
