/- The rest of the seat's code. -/
import Derived.Test.YtkapabohpfkcoaaDoorCode
import Derived.Test.YtkapabohpfkcoaaDoorCodeB0
import Derived.Test.YtkapabohpfkcoaaDoorCodeB1
import Derived.Test.YtkapabohpfkcoaaDoorCodeB2
