/- A part of the seat's code. -/
import Derived.Test.YtpggidmbnjfmaaaDoorCodeM
import Derived.Test.YtpggidmbnjfmaaaDoorCodeE0
