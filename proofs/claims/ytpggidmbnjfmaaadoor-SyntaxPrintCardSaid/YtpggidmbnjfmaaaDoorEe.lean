/- The engine: laid variables in code. -/
import Derived.Test.YtpggidmbnjfmaaaDoorEd
namespace Go.Proofs.YtpggidmbnjfmaaaDoor
namespace E
def laidTp (b : Nat) : V := .tp ((laidE b).getD []) 0
end E
end Go.Proofs.YtpggidmbnjfmaaaDoor
