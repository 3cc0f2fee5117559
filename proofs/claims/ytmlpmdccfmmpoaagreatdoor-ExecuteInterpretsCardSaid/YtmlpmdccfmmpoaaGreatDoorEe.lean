/- The engine: laid variables in code. -/
import Derived.Test.YtmlpmdccfmmpoaaGreatDoorEd
namespace Go.Proofs.YtmlpmdccfmmpoaaGreatDoor
namespace E
def Ti (b:Nat):V:=.tp ((Ph b).getD []) 0
end E
end Go.Proofs.YtmlpmdccfmmpoaaGreatDoor
