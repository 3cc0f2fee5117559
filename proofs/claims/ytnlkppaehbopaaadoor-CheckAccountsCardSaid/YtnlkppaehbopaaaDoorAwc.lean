/- Chapter 33: the law CheckTypes: the example, the walk. -/
import Derived.Test.YtnlkppaehbopaaaDoorTyp
import Derived.Test.YtnlkppaehbopaaaDoorSyg
set_option linter.unusedSimpArgs false
set_option linter.unusedVariables false
set_option maxHeartbeats 4000000
set_option maxRecDepth 8000
namespace Go.Proofs.YtnlkppaehbopaaaDoor
open E

def xA : Xp := .mk 2 0 0 0 [97] []
def xB : Xp := .mk 14 0 0 0 [] [xA, xA]
theorem w_awake : Pure Tryd.prog 7 [] (vB true) := by
  have ca : xA.cnt ≤ 100000 := by decide
  have cb : xB.cnt ≤ 100000 := by decide
  have o1 := w_own32 xA ca
  have o2 := w_own32 xB cb
  have t1 := w_Type xA [] false ca (by decide)
  have t2 := w_Type xB [[97]] false cb (by decide)
  have e1 : typR xA (fun s => decide (s ∈ ([] : List (List UInt8)))) false = (0, 17) := by decide
  have e2 : typR xB (fun s => decide (s ∈ [[97]])) false = (2, 0) := by decide
  rw [e1] at t1
  rw [e2] at t2
  simp only [xA, xB, Xp.v, Xp.c_mk, List.map, vSL] at o1 o2 t1 t2
  (refine Pure.of_code mix Tryd.call7 k_7 (by simp) (fun hB => ?_); (try simp at hB); (try simp -implicitDefEqProofs [c_tallystonelaw33_awake_7]))
  ((try simp at o1); (try simp at o2); (try simp at t1); (try simp at t2); (try simp -implicitDefEqProofs); repeat' first | ((first | with_reducible refine gdK_em (fun hc => ?_) (fun hc => ?_) | with_reducible refine cdK_em (fun hc => ?_) (fun hc => ?_) | with_reducible refine pickK_em (fun hc => ?_) (fun hc => ?_)) <;> (have hc' := hc; (try simp at hc'); simp -implicitDefEqProofs [hc, hc'])) | (with_reducible apply callK_pure <;> first | (simp only [eras, era, eras_map]; first | with_reducible exact o1 | with_reducible exact o2 | with_reducible exact t1 | with_reducible exact t2 | simpa using o1 | simpa using o2 | simpa using t1 | simpa using t2) | (simp -implicitDefEqProofs)))
end Go.Proofs.YtnlkppaehbopaaaDoor
