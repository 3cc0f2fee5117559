/- The order of evaluation. -/
import Derived.Test.YtpggidmbnjfmaaaGreatDoorEe
import Derived.Test.YtpggidmbnjfmaaaGreatDoorProg
namespace Go.Proofs.YtpggidmbnjfmaaaGreatDoor
open Go.Proofs E
theorem mix : Tryz.prog.follows .mixedOrders = true := by kernel_rfl
end Go.Proofs.YtpggidmbnjfmaaaGreatDoor
