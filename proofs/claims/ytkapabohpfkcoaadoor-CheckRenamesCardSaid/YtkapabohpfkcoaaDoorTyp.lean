/- Chapter 33: check.settle. -/
import Derived.Test.YtkapabohpfkcoaaDoorExr
set_option linter.unusedSimpArgs false
set_option linter.unusedVariables false
set_option maxHeartbeats 4000000
set_option maxRecDepth 8000
namespace Go.Proofs.YtkapabohpfkcoaaDoor
open E

theorem w_settle0 (b : Nat) (B : List Bx) (hle : ∀ n m, B.length ≤ n → LeBs n m B B) : FnS Tryd.prog 52 [.ptr b 0, .t .nili] ⟨B, []⟩ (.tup []) ⟨B, []⟩ := by
  have h0 := hle B.length 0 (Nat.le_refl _)
  (refine FnS.of_code mix Tryd.call52 k_52 (by simp) (fun hB => ?_); (try simp at hB); (try simp -implicitDefEqProofs [c_check_settle_52]))
  ((try simp -implicitDefEqProofs [h0]); repeat' first | ((first | with_reducible refine gdK_em (fun hc => ?_) (fun hc => ?_) | with_reducible refine cdK_em (fun hc => ?_) (fun hc => ?_) | with_reducible refine pickK_em (fun hc => ?_) (fun hc => ?_)) <;> (have hc' := hc; (try simp at hc'); simp -implicitDefEqProofs [hc, hc', h0])))
theorem w_settle1 (b : Nat) (B : List Bx) (e0 e : Int) (hb : B[b]? = some (.cells [vI e0])) (hle : ∀ n m, B.length ≤ n → LeBs n m (B.set b (.cells [vI e])) (B.set b (.cells [vI e]))) : FnS Tryd.prog 52 [.ptr b 0, mistV e] ⟨B, []⟩ (.tup []) ⟨B.set b (.cells [vI e]), []⟩ := by
  have h0 := hle B.length 0 (Nat.le_refl _)
  unfold mistV
  (refine FnS.of_code mix Tryd.call52 k_52 (by simp) (fun hB => ?_); (try simp at hB); (try simp -implicitDefEqProofs [c_check_settle_52]))
  ((try simp -implicitDefEqProofs [h0, hb]); repeat' first | ((first | with_reducible refine gdK_em (fun hc => ?_) (fun hc => ?_) | with_reducible refine cdK_em (fun hc => ?_) (fun hc => ?_) | with_reducible refine pickK_em (fun hc => ?_) (fun hc => ?_)) <;> (have hc' := hc; (try simp at hc'); simp -implicitDefEqProofs [hc, hc', h0, hb])))
end Go.Proofs.YtkapabohpfkcoaaDoor
