/- Integers of any length: the reference's sums, differences and products of limbs. -/
import Derived.Test.YtmlpmdccfmmpoaaGreatIn4
set_option linter.unusedSimpArgs false
set_option linter.unusedVariables false
set_option maxHeartbeats 2000000
set_option maxRecDepth 8000
namespace Go.Proofs.YtmlpmdccfmmpoaaGreat
open E

end Go.Proofs.YtmlpmdccfmmpoaaGreat
