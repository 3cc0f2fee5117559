/- The order of evaluation. -/
import Derived.Test.YtpggidmbnjfmaaaDoorEe
import Derived.Test.YtpggidmbnjfmaaaDoorProg
namespace Go.Proofs.YtpggidmbnjfmaaaDoor
open Go.Proofs E
theorem mix : Tryd.prog.follows .mixedOrders = true := by kernel_rfl
end Go.Proofs.YtpggidmbnjfmaaaDoor
