/- Chapter 35: the top of the stack is taken. -/
import Derived.Test.YtmlpmdccfmmpoaaGreatExF
set_option linter.unusedSimpArgs false
set_option linter.unusedVariables false
set_option maxHeartbeats 4000000
set_option maxRecDepth 8000
namespace Go.Proofs.YtmlpmdccfmmpoaaGreat
open E

theorem w_pop (sb kb n : Nat) (B : List Bx) (hU : ∀ m, LeBs B.length m B B) (cs : List V) (v : Int) (h1 : B[sb]? = some (.cells [.bw kb (n + 1)])) (h2 : B[kb]? = some (.buf 3 1 cs)) (h3 : cs[n]? = some (vI v)) (hn : n + 1 ≤ 1000000) :
  FnS Tryz.prog 47 [.ptr sb 0] ⟨B, []⟩ (vI v) ⟨B.set sb (.cells [.bw kb n]), []⟩ := by
 have hkb := lt_of_get h2
 have hcn := lt_of_get h3
 have e1 : IntKind.i64.wrap (n : Int) = (n : Int) := i64w (by omega)
 have j3 : n + 1 ≤ cs.length := by omega
 have j1 : (n : Int) < (n : Int) + 1 := by omega
 have j2 : (n : Int) ≤ (n : Int) + 1 := by omega
 have h3' : ∀ h, cs[n]'h = vI v := fun h => by rw [List.getElem?_eq_getElem h] at h3; exact Option.some.inj h3
 have hfin : LeBs B.length 0 (B.set sb (.cells [.bw kb n])) (B.set sb (.cells [.bw kb n])) := LeBs.set (show E.leB B.length 0 (.cells _) (.cells _) from ⟨LeL_refl _, by simp [okNs, okN]; exact hkb⟩) sb (hU 0)
 (refine FnS.of_code mix Tryz.call47 k_47 (by simp) (fun hB => ?_); (try simp at hB); (try simp -implicitDefEqProofs [c_execute_machine__runS1_47]))
 ((try simp -implicitDefEqProofs [h1, h2, h3, h3', e1, j1, j2, j3, hcn, hfin]); repeat' first | ((with_reducible first | apply gdK_em | apply cdK_em | apply pickK_em) <;> (intro hc; have hc' := hc; (try simp at hc'); simp -implicitDefEqProofs [hc, hc', h1, h2, h3, h3', e1, j1, j2, j3, hcn, hfin])))
end Go.Proofs.YtmlpmdccfmmpoaaGreat
