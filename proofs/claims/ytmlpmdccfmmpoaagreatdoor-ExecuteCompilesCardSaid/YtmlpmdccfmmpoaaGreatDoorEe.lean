/- The engine: laid variables in code. -/
import Derived.Test.YtmlpmdccfmmpoaaGreatDoorEd
namespace Go.Proofs.YtmlpmdccfmmpoaaGreatDoor
namespace E
def T8 (b:Nat):V:=.tp ((P9 b).getD []) 0
end E
end Go.Proofs.YtmlpmdccfmmpoaaGreatDoor
