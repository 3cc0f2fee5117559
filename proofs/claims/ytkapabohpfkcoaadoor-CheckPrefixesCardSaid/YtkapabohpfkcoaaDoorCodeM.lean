/- The order of evaluation. -/
import Derived.Test.YtkapabohpfkcoaaDoorEe
import Derived.Test.YtkapabohpfkcoaaDoorProg
namespace Go.Proofs.YtkapabohpfkcoaaDoor
open Go.Proofs E
theorem mix : Tryd.prog.follows .mixedOrders = true := by kernel_rfl
end Go.Proofs.YtkapabohpfkcoaaDoor
