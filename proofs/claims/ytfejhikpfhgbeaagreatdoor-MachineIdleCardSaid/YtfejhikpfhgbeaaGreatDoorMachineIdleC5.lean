import Derived.Test.YtfejhikpfhgbeaaGreatDoorRows
import Derived.Test.YtfejhikpfhgbeaaGreatDoorTie
import Derived.Test.YtfejhikpfhgbeaaGreatDoorCards
import Derived.WalkKit
import Derived.ProofKit
import Derived.Lay
import Derived.JoinedCond
set_option maxHeartbeats 25600000
set_option maxRecDepth 100000
namespace Go.Proofs.YtfejhikpfhgbeaaGreatDoor.machineIdle
open Go.Proofs
theorem agQ:(Rows.machineIdleRow.recurses==Tryz.prog.recurses 4)=true:=by kernel_rfl
end Go.Proofs.YtfejhikpfhgbeaaGreatDoor.machineIdle
