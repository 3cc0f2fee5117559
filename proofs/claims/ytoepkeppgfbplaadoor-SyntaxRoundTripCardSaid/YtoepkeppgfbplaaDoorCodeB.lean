/- A part of the seat's code. -/
import Derived.Test.YtoepkeppgfbplaaDoorCodeM
import Derived.Test.YtoepkeppgfbplaaDoorCodeB0
