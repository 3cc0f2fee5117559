/- The order of evaluation. -/
import Derived.Test.YtoepkeppgfbplaaDoorEe
import Derived.Test.YtoepkeppgfbplaaDoorProg
namespace Go.Proofs.YtoepkeppgfbplaaDoor
open Go.Proofs E
theorem mix : Tryd.prog.follows .mixedOrders = true := by kernel_rfl
end Go.Proofs.YtoepkeppgfbplaaDoor
