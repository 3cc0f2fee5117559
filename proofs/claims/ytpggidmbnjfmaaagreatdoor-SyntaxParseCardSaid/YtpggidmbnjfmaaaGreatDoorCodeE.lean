/- A part of the seat's code. -/
import Derived.Test.YtpggidmbnjfmaaaGreatDoorCodeM
import Derived.Test.YtpggidmbnjfmaaaGreatDoorCodeB
