/-
  MachineIdle returns true for every list of choices: whatever the mode, the packet waits in every slot whose channel is announced to be bad, and it is sent as soon as the channel is announced to be good.
  The statement is the given card: what the listed variables hold is tied to the program's text; no other condition.
-/
import Derived.Test.YtfejhikpfhgbeaaGreatDoorMachineIdleOver
import Derived.Test.YtfejhikpfhgbeaaGreatDoorMachineIdleP1
import Derived.Test.YtfejhikpfhgbeaaGreatDoorMachineIdleP2
set_option maxHeartbeats 25600000
set_option maxRecDepth 100000
namespace Go.Proofs.YtfejhikpfhgbeaaGreatDoor.machineIdle
open Go.Shelf Go.Lib Go.Proofs
open Go.ChangeShapes Go.WideShapes Go.ChangeAt Go.RowKit
open Go.ChangeMaps (open_string shut_string)
set_option linter.unusedVariables false
theorem proved:Rows.MachineIdleCardSaid:=
 Claim7.holds_tied_plain_at .later [] [.data,.data,.data,.data,.sentinel,.sentinel,.pinned] true (true,"20258fb08bcc47b687a257942fd4f815638e007c2aaaca371d4e619c79be5df7") true over (fun _ h=>by cases h) ah5 (fun _ h=>by cases h) machineIdle_row_tie rfl ⟨rfl,rfl⟩ aeR rfl
  (fun f fn hf hfn=>by
   obtain rfl:f=4:=Option.some.inj ((show Tryz.prog.funcNamed "airshare/airsharelaw29.MachineIdle"=some 4 by kernel_rfl).symm.trans hf)|>.symm;obtain rfl:fn=Tryz.f4:=(Option.some.inj (Tryz.func4.symm.trans hfn)).symm
   exact⟨aeS,fun j t ht=>by
    rw[Tryz.params4]at ht;have hm:t∈[22]:=by have h:=Array.mem_of_getElem? ht;simp at h⊢;first|omega|grind
    have hall:([22].all fun u=>!Tryz.prog.wantsStandIn u)=true:=by kernel_rfl
    exact(show Tryz.prog.wantsStandIn t=false by simpa using List.all_eq_true.1 hall t hm)⟩)
  aeT
#print axioms proved
end Go.Proofs.YtfejhikpfhgbeaaGreatDoor.machineIdle
