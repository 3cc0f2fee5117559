/- Chapter 32: the reference's proper. -/
import Derived.Test.YtckffbklaepmpaaDoorSyc
set_option linter.unusedSimpArgs false
set_option linter.unusedVariables false
set_option maxHeartbeats 4000000
set_option maxRecDepth 8000
namespace Go.Proofs.YtckffbklaepmpaaDoor
open E

namespace Xp
mutual
/-- All names are short enough to be. -/
def ok : Xp → Prop
  | .mk _ _ _ _ n xs => n.length ≤ maxLen ∧ oks xs
def oks : List Xp → Prop
  | [] => True
  | x :: ys => ok x ∧ oks ys
end
theorem oks_mem : ∀ (l : List Xp), oks l → ∀ x ∈ l, ok x
  | [], _, x, h => by cases h
  | y :: l, h, x, hx => by
    rw [oks] at h
    rcases List.mem_cons.1 hx with rfl | hx
    · exact h.1
    · exact oks_mem l h.2 x hx
theorem props_get {l : List Xp} {k : Nat} {x : Xp} (hx : l[k]? = some x) : props (l.take (k + 1)) = (props (l.take k) && x.prop) := by
  rw [take_next hx]
  generalize l.take k = m
  induction m with
  | nil => simp [props]
  | cons y m ih => simp only [List.cons_append, props, ih, Bool.and_assoc]
theorem props_take {l : List Xp} {k : Nat} (h : props (l.take k) = false) : props l = false := by
  induction l generalizing k with
  | nil => simp [props] at h
  | cons y l ih =>
    cases k with
    | zero => simp [props] at h
    | succ k =>
      simp only [List.take_succ_cons, props] at h ⊢
      cases hy : y.prop
      · simp
      · rw [hy] at h; simpa using ih (by simpa using h)
end Xp
end Go.Proofs.YtckffbklaepmpaaDoor
