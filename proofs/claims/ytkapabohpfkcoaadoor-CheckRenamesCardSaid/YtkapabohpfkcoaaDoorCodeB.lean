/- A part of the seat's code. -/
import Derived.Test.YtkapabohpfkcoaaDoorCodeM
import Derived.Test.YtkapabohpfkcoaaDoorCodeB0
import Derived.Test.YtkapabohpfkcoaaDoorCodeB1
