/- The seat's code. -/
import Derived.Test.YtmlpmdccfmmpoaaGreatCodeB0
import Derived.Test.YtmlpmdccfmmpoaaGreatCodeB1

