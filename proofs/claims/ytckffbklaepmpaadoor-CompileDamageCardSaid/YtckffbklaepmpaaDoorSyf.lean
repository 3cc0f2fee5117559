/- Chapter 32: the reference's Valid and Few. -/
import Derived.Test.YtckffbklaepmpaaDoorSye
set_option linter.unusedSimpArgs false
set_option linter.unusedVariables false
set_option maxHeartbeats 4000000
set_option maxRecDepth 8000
namespace Go.Proofs.YtckffbklaepmpaaDoor
open E

def Stm.ok (s : Stm) : Prop := s.name.length ≤ maxLen ∧ s.ex.ok
def Rul.ok (r : Rul) : Prop := r.name.length ≤ maxLen ∧ ∀ s ∈ r.stmts, s.ok
theorem nameB_nil : nameB [] = false := rfl
theorem shd_eq (k a : Int) (n : List UInt8) : shdB k a n = !(decide (k < 1) || decide (3 < k) || ((k == 1) != (n != [])) || ((k == 1) && !nameB n) || ((k == 3) && !acB a) || ((k != 3) && (a != 0))) := by
  unfold shdB
  by_cases h1 : k = 1
  · subst h1
    cases n with
    | nil => rw [nameB_nil]; simp
    | cons c n => cases nameB (c :: n) <;> simp [bne]
  by_cases h2 : k = 2
  · subst h2
    cases n with
    | nil => simp [bne]
    | cons c n => simp [bne]
  by_cases h3 : k = 3
  · subst h3
    cases n with
    | nil => cases acB a <;> simp
    | cons c n => cases acB a <;> simp [bne]
  · rw [if_neg h1, if_neg h2, if_neg h3]
    have : decide (k < 1) = true ∨ decide (3 < k) = true := by simp; omega
    rcases this with h | h <;> rw [h] <;> simp
end Go.Proofs.YtckffbklaepmpaaDoor
