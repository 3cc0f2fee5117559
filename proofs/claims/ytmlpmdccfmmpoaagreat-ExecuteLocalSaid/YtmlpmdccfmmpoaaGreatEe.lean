/- The engine: laid variables in code. -/
import Derived.Test.YtmlpmdccfmmpoaaGreatEd
namespace Go.Proofs.YtmlpmdccfmmpoaaGreat
namespace E
def Wi (b:Nat):V:=.tp ((Oj b).getD []) 0
end E
end Go.Proofs.YtmlpmdccfmmpoaaGreat
