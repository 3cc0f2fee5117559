/- The seat's code. -/
import Derived.Test.YtmlpmdccfmmpoaaGreatDoorCodeB0
import Derived.Test.YtmlpmdccfmmpoaaGreatDoorCodeB1
import Derived.Test.YtmlpmdccfmmpoaaGreatDoorCodeB2

