/- Chapter 33: what the laws begin with: the example, few, the program's own program, Check. -/
import Derived.Test.YtnlkppaehbopaaaDoorRul
import Derived.Test.YtnlkppaehbopaaaDoorPrg
import Derived.Test.YtnlkppaehbopaaaDoorAwc
import Derived.Test.YtnlkppaehbopaaaDoorSyg
set_option linter.unusedSimpArgs false
set_option linter.unusedVariables false
set_option maxHeartbeats 4000000
set_option maxRecDepth 8000
namespace Go.Proofs.YtnlkppaehbopaaaDoor
open E

theorem w_few (p : List Rul) (l : List Account) : Pure Tryd.prog 12 [Rul.l p, Account.l l] (vB (fewB p && decide (l.length ≤ 210))) := by
  have hf := w_Few p
  by_cases h1 : fewB p = true
  · rw [h1] at hf ⊢
    have h2 : decide (l.length ≤ 210) = decide ((l.length : Int) ≤ 210) := by rw [decide_eq_decide]; omega
    rw [h2]
    (refine Pure.of_code mix Tryd.call12 k_12 (by simp) (fun hB => ?_); (try simp at hB); (try simp -implicitDefEqProofs [c_tallystonelaw33_few_12]))
    ((try simp at hf); (try simp -implicitDefEqProofs); repeat' first | ((first | with_reducible refine gdK_em (fun hc => ?_) (fun hc => ?_) | with_reducible refine cdK_em (fun hc => ?_) (fun hc => ?_) | with_reducible refine pickK_em (fun hc => ?_) (fun hc => ?_)) <;> (have hc' := hc; (try simp at hc'); simp -implicitDefEqProofs [hc, hc'])) | (with_reducible apply callK_pure <;> first | (simp only [eras, era, eras_map]; first | with_reducible exact hf | simpa using hf) | (simp -implicitDefEqProofs)))
  · rw [Bool.not_eq_true] at h1
    rw [h1] at hf ⊢
    (refine Pure.of_code mix Tryd.call12 k_12 (by simp) (fun hB => ?_); (try simp at hB); (try simp -implicitDefEqProofs [c_tallystonelaw33_few_12]))
    ((try simp at hf); (try simp -implicitDefEqProofs); repeat' first | ((first | with_reducible refine gdK_em (fun hc => ?_) (fun hc => ?_) | with_reducible refine cdK_em (fun hc => ?_) (fun hc => ?_) | with_reducible refine pickK_em (fun hc => ?_) (fun hc => ?_)) <;> (have hc' := hc; (try simp at hc'); simp -implicitDefEqProofs [hc, hc'])) | (with_reducible apply callK_pure <;> first | (simp only [eras, era, eras_map]; first | with_reducible exact hf | simpa using hf) | (simp -implicitDefEqProofs)))
theorem few_of {p : List Rul} (h : fewB p = true) : p.length ≤ 50 ∧ (∀ r ∈ p, r.stmts.length ≤ 40) ∧ (∀ r ∈ p, ∀ s ∈ r.stmts, s.ex.cnt ≤ 200) ∧ ∀ r ∈ p, ∀ s ∈ r.stmts, s.name.length ≤ 100 := by
  unfold fewB fewR fewS at h
  simp only [Bool.and_eq_true, List.all_eq_true, decide_eq_true_eq] at h
  exact ⟨h.2, fun r hr => (h.1 r hr).1.2, fun r hr s hs => ((h.1 r hr).2 s hs).2, fun r hr s hs => ((h.1 r hr).2 s hs).1⟩
theorem w_progOf {p : List Rul} (h : fewB p = true) : Pure Tryd.prog 14 [Rul.l p] (Rul.l p) := by
  obtain ⟨a, b, c, _⟩ := few_of h
  exact w_prog32 p (by omega) (fun r hr => by have := b r hr; omega) (fun r hr s hs => by have := c r hr s hs; omega)
theorem w_CheckOf {p : List Rul} {l : List Account} (h : fewB p = true) (hl : l.length ≤ 210) : Pure Tryd.prog 13 [Rul.l p, Account.l l] (.tup [vI (chkR p l).1, vI (chkR p l).2]) := by
  obtain ⟨a, b, c, _⟩ := few_of h
  exact w_Check p l (fun r hr s hs => by have := c r hr s hs; omega) (by omega)
end Go.Proofs.YtnlkppaehbopaaaDoor
