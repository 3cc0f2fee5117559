/- Walks of chapter 34's reference: run. -/
import Derived.Test.YtmlpmdccfmmpoaaGreatRfa
set_option linter.unusedSimpArgs false
set_option linter.unusedVariables false
set_option maxHeartbeats 2000000
set_option maxRecDepth 8000
namespace Go.Proofs.YtmlpmdccfmmpoaaGreat
open E

end Go.Proofs.YtmlpmdccfmmpoaaGreat
