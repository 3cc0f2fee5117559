/- A part of the seat's code. -/
import Derived.Test.YtmlpmdccfmmpoaaGreatCodeM
import Derived.Test.YtmlpmdccfmmpoaaGreatCodeB
