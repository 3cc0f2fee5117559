/- The engine: laid variables in code. -/
import Derived.Test.YtmlpmdccfmmpoaaGreatDoorEd
namespace Go.Proofs.YtmlpmdccfmmpoaaGreatDoor
namespace E
def Qi (b:Nat):V:=.tp ((N2 b).getD []) 0
end E
end Go.Proofs.YtmlpmdccfmmpoaaGreatDoor
