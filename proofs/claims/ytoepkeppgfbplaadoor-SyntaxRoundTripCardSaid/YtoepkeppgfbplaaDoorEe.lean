/- The engine: laid variables in code. -/
import Derived.Test.YtoepkeppgfbplaaDoorEd
namespace Go.Proofs.YtoepkeppgfbplaaDoor
namespace E
def laidTp (b : Nat) : V := .tp ((laidE b).getD []) 0
end E
end Go.Proofs.YtoepkeppgfbplaaDoor
