/- The engine: laid variables in code. -/
import Derived.Test.YtmlpmdccfmmpoaaGreatDoorEd
namespace Go.Proofs.YtmlpmdccfmmpoaaGreatDoor
namespace E
def Tu (b:Nat):V:=.tp ((Pr b).getD []) 0
end E
end Go.Proofs.YtmlpmdccfmmpoaaGreatDoor
