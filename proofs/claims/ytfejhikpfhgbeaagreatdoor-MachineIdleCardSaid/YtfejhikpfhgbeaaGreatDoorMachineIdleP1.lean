import Derived.Test.YtfejhikpfhgbeaaGreatDoorRows
import Derived.Test.YtfejhikpfhgbeaaGreatDoorTie
import Derived.Test.YtfejhikpfhgbeaaGreatDoorCards
import Derived.WalkKit
import Derived.ProofKit
import Derived.Lay
import Derived.JoinedCond
import Derived.SevenTiedAt
set_option maxHeartbeats 25600000
set_option maxRecDepth 100000
namespace Go.Proofs.YtfejhikpfhgbeaaGreatDoor.machineIdle
open Go.Proofs
theorem ah5:Rows.machineIdleRow.wfByText (OpenSpec.ofChange Rows.machineIdleSpec)=true:=by kernel_rfl
theorem aeR:Tryz.prog.mainIs=some ((true,"20258fb08bcc47b687a257942fd4f815638e007c2aaaca371d4e619c79be5df7").1,(true,"20258fb08bcc47b687a257942fd4f815638e007c2aaaca371d4e619c79be5df7").2.toList):=by kernel_rfl
theorem aeS:true=Tryz.prog.looks []:=by kernel_rfl
end Go.Proofs.YtfejhikpfhgbeaaGreatDoor.machineIdle
