/- All of the seat's code. -/
import Derived.Test.YtkapabohpfkcoaaDoorCode0
namespace Go.Proofs.YtkapabohpfkcoaaDoor
open Go.Proofs E
theorem mix : Tryd.prog.follows .mixedOrders = true := by kernel_rfl
end Go.Proofs.YtkapabohpfkcoaaDoor
