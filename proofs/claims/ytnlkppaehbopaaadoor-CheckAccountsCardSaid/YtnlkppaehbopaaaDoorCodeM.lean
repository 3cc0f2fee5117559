/- The order of evaluation. -/
import Derived.Test.YtnlkppaehbopaaaDoorEe
import Derived.Test.YtnlkppaehbopaaaDoorProg
namespace Go.Proofs.YtnlkppaehbopaaaDoor
open Go.Proofs E
theorem mix : Tryd.prog.follows .mixedOrders = true := by kernel_rfl
end Go.Proofs.YtnlkppaehbopaaaDoor
