/- The order of evaluation. -/
import Derived.Test.YtmlpmdccfmmpoaaGreatEe
import Derived.Test.YtmlpmdccfmmpoaaGreatProg
namespace Go.Proofs.YtmlpmdccfmmpoaaGreat
open Go.Proofs E
theorem mix : Tryz.prog.follows .mixedOrders = true := by kernel_rfl
end Go.Proofs.YtmlpmdccfmmpoaaGreat
