/- What a statement has is fit to be judged by the reference. -/
import Derived.Test.YtpggidmbnjfmaaaGreatDoorShP
import Derived.Test.YtpggidmbnjfmaaaGreatDoorSyf
set_option linter.unusedSimpArgs false
set_option linter.unusedVariables false
namespace Go.Proofs.YtpggidmbnjfmaaaGreatDoor
open E
theorem Stm.ok_of {s : Stm} (h : s.wf) : s.ok := ⟨by simpa [inL, maxLen] using h.2.2.1, Xp.ok_of h.2.2.2⟩
theorem Rul.ok_of {r : Rul} (h : r.wf) : r.ok := ⟨by simpa [inL, maxLen] using h.1, fun s hs => Stm.ok_of (h.2.2 s hs)⟩
end Go.Proofs.YtpggidmbnjfmaaaGreatDoor
