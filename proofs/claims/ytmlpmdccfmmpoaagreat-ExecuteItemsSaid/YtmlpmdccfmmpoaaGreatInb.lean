/- Quotients of integers: the reference's. -/
import Derived.Test.YtmlpmdccfmmpoaaGreatIna
import Derived.Test.YtmlpmdccfmmpoaaGreatIn6
set_option linter.unusedSimpArgs false
set_option linter.unusedVariables false
set_option maxHeartbeats 2000000
set_option maxRecDepth 8000
namespace Go.Proofs.YtmlpmdccfmmpoaaGreat
open E

def qE (z : Int) : List (List T) := lE .i64 (lims b4 z.natAbs)
theorem iV4 (z : Int) : iV b4 .i64 z = .agg [.t (.bool (nB z)), .t (.sl (qE z))] := rfl
def sC (n d : Int) : List T := [.bool (nB n), .sl (qE n), .bool (nB d), .sl (qE d)]
def sV (n d : Int) : V := .agg [.t (.bool (nB n)), .t (.sl (qE n)), .t (.bool (nB d)), .t (.sl (qE d))]
end Go.Proofs.YtmlpmdccfmmpoaaGreat
