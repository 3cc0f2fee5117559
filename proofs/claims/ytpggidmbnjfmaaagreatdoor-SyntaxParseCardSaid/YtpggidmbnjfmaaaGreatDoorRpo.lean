/- Chapter 32: the texts of the reference's operators. -/
import Derived.Test.YtpggidmbnjfmaaaGreatDoorPpm
import Derived.Test.YtpggidmbnjfmaaaGreatDoorCodeD
set_option linter.unusedSimpArgs false
set_option linter.unusedVariables false
set_option maxHeartbeats 4000000
set_option maxRecDepth 8000
namespace Go.Proofs.YtpggidmbnjfmaaaGreatDoor
open E

def opN (k : Int) : List UInt8 := if k = 4 then sAbs else if k = 5 then sShare else if k = 10 then sMin else if k = 11 then sMax else if k = 21 then sBal else if k = 22 then sPart else opX k
theorem w_roperator (k : Int) (h : k = 4 ∨ k = 5 ∨ (7 ≤ k ∧ k ≤ 19) ∨ k = 21 ∨ k = 22) : Pure Tryz.prog 144 [vI k] (vS (opN k)) := by
 have h' : k = 4 ∨ k = 5 ∨ k = 7 ∨ k = 8 ∨ k = 9 ∨ k = 10 ∨ k = 11 ∨ k = 12 ∨ k = 13 ∨ k = 14 ∨ k = 15 ∨ k = 16 ∨ k = 17 ∨ k = 18 ∨ k = 19 ∨ k = 21 ∨ k = 22 := by omega
 rcases h' with rfl | rfl | rfl | rfl | rfl | rfl | rfl | rfl | rfl | rfl | rfl | rfl | rfl | rfl | rfl | rfl | rfl
 all_goals
  (refine Pure.of_code mix Tryz.call144 k_144 (by simp) (fun hB => ?_); (try simp at hB); (try simp -implicitDefEqProofs [qc_144]))
  (try simp -implicitDefEqProofs)
  try rfl

end Go.Proofs.YtpggidmbnjfmaaaGreatDoor
