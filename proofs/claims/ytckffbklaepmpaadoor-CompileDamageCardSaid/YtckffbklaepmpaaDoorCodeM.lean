/- The order of evaluation. -/
import Derived.Test.YtckffbklaepmpaaDoorEe
import Derived.Test.YtckffbklaepmpaaDoorProg
namespace Go.Proofs.YtckffbklaepmpaaDoor
open Go.Proofs E
theorem mix : Tryd.prog.follows .mixedOrders = true := by kernel_rfl
end Go.Proofs.YtckffbklaepmpaaDoor
