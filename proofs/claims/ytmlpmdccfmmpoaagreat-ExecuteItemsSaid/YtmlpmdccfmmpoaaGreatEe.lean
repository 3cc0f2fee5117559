/- The engine: laid variables in code. -/
import Derived.Test.YtmlpmdccfmmpoaaGreatEd
namespace Go.Proofs.YtmlpmdccfmmpoaaGreat
namespace E
end E
end Go.Proofs.YtmlpmdccfmmpoaaGreat
