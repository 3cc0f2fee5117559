/- Chapter 34: the table of operations. -/
import Derived.Test.YtckffbklaepmpaaDoorCodeB
import Derived.Test.YtckffbklaepmpaaDoorApi
set_option linter.unusedSimpArgs false
set_option linter.unusedVariables false
set_option maxHeartbeats 2000000
set_option maxRecDepth 20000
namespace Go.Proofs.YtckffbklaepmpaaDoor
open E

def opTab : List (List UInt8 × Int × Int × Int) := [
  ([], 0, 0, 0),
  ([112, 117, 115, 104], 0, 1, 1),
  ([108, 111, 97, 100], 0, 1, 1),
  ([98, 97, 108, 97, 110, 99, 101], 0, 1, 2),
  ([112, 97, 114, 116, 110, 101, 114], 0, 1, 2),
  ([110, 101, 103], 1, 1, 0),
  ([97, 98, 115], 1, 1, 0),
  ([115, 104, 97, 114, 101], 1, 1, 0),
  ([110, 111, 116], 1, 1, 0),
  ([112, 101, 114], 1, 1, 1),
  ([97, 100, 100], 2, 1, 0),
  ([115, 117, 98], 2, 1, 0),
  ([109, 117, 108], 2, 1, 0),
  ([109, 105, 110], 2, 1, 0),
  ([109, 97, 120], 2, 1, 0),
  ([97, 110, 100], 2, 1, 0),
  ([111, 114], 2, 1, 0),
  ([108, 101, 115, 115], 2, 1, 0),
  ([108, 101, 115, 115, 101, 113, 117, 97, 108], 2, 1, 0),
  ([101, 113, 117, 97, 108], 2, 1, 0),
  ([110, 111, 116, 101, 113, 117, 97, 108], 2, 1, 0),
  ([103, 114, 101, 97, 116, 101, 114, 101, 113, 117, 97, 108], 2, 1, 0),
  ([103, 114, 101, 97, 116, 101, 114], 2, 1, 0),
  ([115, 116, 111, 114, 101], 1, 0, 1),
  ([114, 101, 113, 117, 105, 114, 101], 1, 0, 0),
  ([112, 111, 115, 116], 1, 0, 1),
  ([116, 111], 0, 0, 1)]
def rowC (r : List UInt8 × Int × Int × Int) : List T := [.str r.1, tI r.2.1, tI r.2.2.1, tI r.2.2.2]
def tabC : List T := opTab.flatMap rowC

theorem w_tab : Pure Tryd.prog 19 [] (.agg (tabC.map .t)) := by
  (refine Pure.of_code mix Tryd.call19 k_19 (by simp) (fun hB => ?_); (try simp at hB); (try simp -implicitDefEqProofs [c_compile_operations_19]))
  ((try simp -implicitDefEqProofs [tabC, opTab, rowC]); repeat' first | ((first | with_reducible refine gdK_em (fun hc => ?_) (fun hc => ?_) | with_reducible refine cdK_em (fun hc => ?_) (fun hc => ?_) | with_reducible refine pickK_em (fun hc => ?_) (fun hc => ?_)) <;> (have hc' := hc; (try simp at hc'); simp -implicitDefEqProofs [hc, hc', tabC, opTab, rowC])))
end Go.Proofs.YtckffbklaepmpaaDoor
