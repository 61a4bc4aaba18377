import Derived.Test.YtfejhikpfhgbeaaGreatDoorRows
import Derived.Test.YtfejhikpfhgbeaaGreatDoorTie
import Derived.Test.YtfejhikpfhgbeaaGreatDoorCards
import Derived.Test.YtfejhikpfhgbeaaGreatDoorMachineIdleAM
import Derived.Lib.LaidU8T
import Derived.Lib.LaidU8
import Derived.Test.YtfejhikpfhgbeaaGreatDoorMachineIdleU
import Derived.WalkKit
import Derived.ProofKit
import Derived.PinnedBridge
import Derived.Lay
import Derived.SevenTiedAt
import Derived.OpenShut
import Derived.ShutString
import Derived.ChangeOld
import Derived.Below
import Derived.Deep.DeepHandedRow
import Derived.Test.YtfejhikpfhgbeaaGreatDoorMachineIdleC1
import Derived.Test.YtfejhikpfhgbeaaGreatDoorMachineIdleC2
import Derived.Test.YtfejhikpfhgbeaaGreatDoorMachineIdleC3
import Derived.Test.YtfejhikpfhgbeaaGreatDoorMachineIdleC4
import Derived.Test.YtfejhikpfhgbeaaGreatDoorMachineIdleC5
import Derived.Test.YtfejhikpfhgbeaaGreatDoorMachineIdleC6
import Derived.Test.YtfejhikpfhgbeaaGreatDoorMachineIdleC7
set_option maxHeartbeats 25600000
set_option maxRecDepth 100000
namespace Go.Proofs.YtfejhikpfhgbeaaGreatDoor.machineIdle
open Go.Shelf Go.Lib Go.Proofs
open Go.ChangeShapes Go.WideShapes Go.ChangeAt Go.RowKit
open Go.ChangeMaps (open_string shut_string)
set_option linter.unusedVariables false
theorem own:ownKnob Tryz.prog.godebug=none:=by kernel_rfl
theorem contract(H:Type)(enc:TypeId×Value->H)(W:World)(base:Nat)(args:Array Value)(ds gs:List (DataW H))(before:List MemPlace)
  (hval0:∀(j:Nat)t v,Tryz.f4.params[j]?=some t->args[j]?=some v->Value.okWide Tryz.prog W .any base t v)
  (hW:DataW.Whole enc Tryz.prog Tryz.f4.params.toList Rows.machineIdleSpec.vars false W args.toList ds gs before)
  (hL:laidMetH Tryz.prog Rows.machineIdleRow.laid W)(hsh:W.ShapedOpen Tryz.prog):
  Calls Tryz.prog 4 args W fun e W'=>∃v,e=.returned v/\Rows.machineIdleSpec.post enc Tryz.prog Tryz.f4 false true false false W args v W':=by
 have hval:∀(j:Nat)t v,Tryz.f4.params[j]?=some t->args[j]?=some v->Value.okWide Tryz.prog W .any base t v:=hval0;have hW':=hW;obtain⟨p,q,hA0,hV,rfl,hfz,hnd⟩:=hW;have hA:DataW.TrodAll enc Tryz.prog W 0 (fun _=>true) true Tryz.f4.params.toList args.toList ds p:=hA0;rw[Tryz.params4]at hA hval;obtain⟨v0,vs0,d0,ds0,p0,q0,hargs,rfl,rfl,h0,r0⟩:=trodAll_cons hA;obtain⟨rfl,rfl,rfl⟩:=trodAll_nil r0;obtain rfl:args=#[v0]:=by cases args;simp_all
 obtain⟨rfl,rfl⟩:=trodVars_none hV;obtain⟨a0,XP,cap0,rfl⟩:=okWide_slice Tryz.underlying22 (hval 0 22 v0 rfl rfl);have k0:=h0;have lt0:∀x∈p0,x.block<W.heap.size:=by obtain⟨m,hm⟩:=k0;exact DataW.trod_lt m _ _ _ hm
 obtain⟨z0,w0⟩:∃zs,Ac .i64 W a0 XP cap0 zs:=by
  obtain⟨fuel,hf⟩:=h0;rcases open_ints Tryz.underlying22 Tryz.underlying3 (by kernel_rfl) hf with⟨hcs,_⟩|⟨x,l,c,zs,hcs,_,hl,hm,hz,_,hcell,hwz⟩
  ·simp[Value.cells]at hcs;obtain⟨rfl,rfl,rfl⟩:=hcs;exact⟨[],.inl ⟨rfl,rfl,rfl,rfl⟩⟩
  ·simp[Value.cells]at hcs;obtain⟨rfl,rfl,rfl⟩:=hcs;exact⟨zs,.inr ⟨_,rfl,hl,hm,by simpa using hz,hcell,hwz⟩⟩
 rw[MakeChecks.laidMetH_plain _ _ _ (by kernel_rfl)]at hL;have hF:VarReads Tryz.prog W "unicode/utf8.first" firstData:=by have h:=Lib.laidMet.reads hL (.tail _ (.tail _ (.tail _ (.tail _ (.tail _ (.tail _ (.head _)))))));rw[show Rows.laid_unicode_utf8_first=firstData from Pinned.utf8First_eq]at h;exact h
 have hR:VarReads Tryz.prog W "unicode/utf8.acceptRanges" acceptData:=by have h:=Lib.laidMet.reads hL (.tail _ (.tail _ (.tail _ (.head _))));rw[show(Rows.laid_unicode_utf8_acceptRanges:DataW Unit)=acceptData by kernel_rfl]at h;exact h
 have Qq:kF W:=utf8Tabs_of_readsT (U8Types.of260 {Tryz.laysMap with}) ⟨by kernel_rfl,by kernel_rfl,by kernel_rfl,by kernel_rfl,by kernel_rfl,by kernel_rfl,by kernel_rfl⟩ hF hR;have ah4:AU W:=Iy hsh;clear hA0 hval0;have hwk:=Bi a0 XP cap0 z0 W w0 Qq ah4;refine hwk.mono fun e W'⟨he,bel⟩=>?_;subst he;exact⟨_,rfl,_,_,_,[],_,[],hW',trodAll_mk1 (shut_bool Tryz.underlying4 _),(trodAll_cons_mk (Below.trod laidOut (by kernel_rfl) (of_decide_eq_true (by kernel_rfl)) k0 bel lt0) trodAll_mk0),rfl,bel.frame _,fun h=>by cases h⟩
theorem lifted(os:Os)(started:os.Started)(H:Type)(enc:TypeId×Value->H)(F:Stop.Interp):
  ReturnsInHanded {} Tryz.checked os 4 .any ((OpenSpec.ofChange Rows.machineIdleSpec).preRow enc Tryz.prog Tryz.f4 Rows.machineIdleRow.domain false Rows.machineIdleRow.laid) (((OpenSpec.ofChange Rows.machineIdleSpec).at F).post enc Tryz.prog Tryz.f4 false true false false):=by
 have hx:=aaQ (o:=DataW.whole enc Tryz.prog ((World.laidAll Tryz.prog os Rows.machineIdleRow.laid).forCall (fun _ _=>0) ⟨#[],#[.slice none 0 0],[]⟩).memory Tryz.f4.params.toList Rows.machineIdleSpec.vars false #[.slice none 0 0].toList 8) (by kernel_rfl);refine returnsInHanded_of_row (C:=Tryz.checked) (s:=OpenSpec.ofChange Rows.machineIdleSpec) own started (by kernel_rfl) Tryz.func4
  (zD (enc:=enc) (C:=Tryz.checked) false (World.laidAll Tryz.prog os Rows.machineIdleRow.laid) #[.slice none 0 0] (World.laidAll_os _ _ _)
   (World.shaped_of_ZipB (by kernel_rfl) (by kernel_rfl)) (by kernel_rfl)
   (OpenSpec.preRow_of_cond 8 hx (by kernel_rfl) (fun k hk=>by cases hk) (by kernel_rfl)
    (by rw[MakeChecks.laidMetH_plain _ _ _ (by kernel_rfl)];exact laidMet_laidAll _ (by kernel_rfl) (by kernel_rfl)))) ?_
 intro W base args ds gs before hval hW _ hcond _ hL hsh _;exact contract H enc W base args ds gs before hval hW hL hsh
theorem closed:joinedFacts Tryz.pinned.checked.prog 4 Tryz.f4 (OpenSpec.ofChange Rows.machineIdleSpec).bare Rows.machineIdleRow=true:=by unfold joinedFacts;simp only[Bool.and_eq_true];exact⟨⟨⟨⟨⟨⟨⟨⟨⟨⟨⟨⟨⟨⟨⟨⟨⟨⟨⟨⟨⟨⟨⟨⟨⟨⟨⟨⟨⟨⟨⟨by kernel_rfl,laidOut⟩,aeQ⟩,by kernel_rfl⟩,by kernel_rfl⟩,by kernel_rfl⟩,by kernel_rfl⟩,by kernel_rfl⟩,by kernel_rfl⟩,agO⟩,agP⟩,agQ⟩,agN⟩,by kernel_rfl⟩,by kernel_rfl⟩,by kernel_rfl⟩,by kernel_rfl⟩,by kernel_rfl⟩,by kernel_rfl⟩,by kernel_rfl⟩,by kernel_rfl⟩,by kernel_rfl⟩,ah3⟩,by kernel_rfl⟩,agS⟩,agR⟩,by kernel_rfl⟩,by kernel_rfl⟩,by kernel_rfl⟩,by kernel_rfl⟩,by kernel_rfl⟩,by kernel_rfl⟩
theorem over:Rows.machineIdleRow.holds Tryz.pinned (OpenSpec.ofChange Rows.machineIdleSpec):=
 OpenClaim.holds_of_cond 4 Tryz.f4 rfl rfl rfl rfl rfl rfl rfl ⟨rfl,rfl,rfl,rfl,rfl⟩ rfl rfl rfl rfl rfl (by kernel_rfl) Tryz.func4 closed
  (of_decide_eq_true (by kernel_rfl)) (by unfold Func.isWrapper;first|(rw[if_pos (by decide+kernel)];kernel_rfl)|(rw[if_neg (by decide+kernel)];exact⟨rfl,rfl⟩))
  (fun os started H enc _ F=>by rw[OpenClaim.pre_eq_preRow];exact lifted os started H enc F)
end Go.Proofs.YtfejhikpfhgbeaaGreatDoor.machineIdle
