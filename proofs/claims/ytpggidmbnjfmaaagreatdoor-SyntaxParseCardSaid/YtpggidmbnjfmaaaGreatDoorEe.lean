/- The engine: laid variables in code. -/
import Derived.Test.YtpggidmbnjfmaaaGreatDoorEd
namespace Go.Proofs.YtpggidmbnjfmaaaGreatDoor
namespace E
def laidTp (b : Nat) : V := .tp ((laidE b).getD []) 0
end E
end Go.Proofs.YtpggidmbnjfmaaaGreatDoor
