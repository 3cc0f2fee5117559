/- A part of the seat's code. -/
import Derived.Test.YtnlkppaehbopaaaDoorCodeM
import Derived.Test.YtnlkppaehbopaaaDoorCodeB0
import Derived.Test.YtnlkppaehbopaaaDoorCodeB1
