/- All of the seat's code. -/
import Derived.Test.YthfnaaeddlnckaaCode0
import Derived.Test.YthfnaaeddlnckaaCode1
import Derived.Test.YthfnaaeddlnckaaCode2
import Derived.Test.YthfnaaeddlnckaaCode3
namespace Go.Proofs.Ythfnaaeddlnckaa
open Go.Proofs E
theorem mix : Try.prog.follows .mixedOrders = true := by kernel_rfl
end Go.Proofs.Ythfnaaeddlnckaa
