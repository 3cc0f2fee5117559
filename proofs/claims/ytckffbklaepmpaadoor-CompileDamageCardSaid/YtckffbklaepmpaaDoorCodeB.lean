/- A part of the seat's code. -/
import Derived.Test.YtckffbklaepmpaaDoorCodeM
import Derived.Test.YtckffbklaepmpaaDoorCodeB0
import Derived.Test.YtckffbklaepmpaaDoorCodeB1
