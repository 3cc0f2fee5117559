/- Chapter 34: the plain law of the operations. -/
import Derived.Test.YtckffbklaepmpaaDoorOp
set_option linter.unusedSimpArgs false
set_option linter.unusedVariables false
namespace Go.Proofs.YtckffbklaepmpaaDoor
open E

theorem qW_eq {x : Int} (hx : amtB x = true) (h0 : x ≠ 0) : qW x = 1000000000000 / max x (-x) ∧ 0 ≤ 1000000000000 / max x (-x) ∧ 1000000000000 / max x (-x) ≤ 1000000000000 := by
  have h := amt_in hx
  have hm : 0 < max x (-x) := by omega
  have h1 : 0 ≤ 1000000000000 / max x (-x) := Int.ediv_nonneg (by decide) (by omega)
  have h2 : 1000000000000 / max x (-x) ≤ 1000000000000 := Int.ediv_le_self _ (by decide)
  refine ⟨?_, h1, h2⟩
  unfold qW
  rw [absW_eq hx, Int.tdiv_eq_ediv_of_nonneg (by decide), wrap64 (by omega) (by omega)]

theorem mul_le_M {x y : Int} (h0 : x ≠ 0) (h : max y (-y) ≤ 1000000000000 / max x (-x)) : -1000000000000 ≤ x * y ∧ x * y ≤ 1000000000000 := by
  have hm : 0 < max x (-x) := by omega
  have h1 : max y (-y) * max x (-x) ≤ 1000000000000 := Int.le_trans (Int.mul_le_mul_of_nonneg_right h (by omega)) (Int.ediv_mul_le _ (by omega))
  have h2 : x * y ≤ max y (-y) * max x (-x) ∧ -(x * y) ≤ max y (-y) * max x (-x) := by
    rcases (by omega : 0 ≤ x ∨ x < 0) with hx | hx <;> rcases (by omega : 0 ≤ y ∨ y < 0) with hy | hy
    · rw [show max y (-y) = y from by omega, show max x (-x) = x from by omega, Int.mul_comm y x]
      have := Int.mul_nonneg hx hy
      omega
    · rw [show max y (-y) = -y from by omega, show max x (-x) = x from by omega, Int.neg_mul, Int.mul_comm y x]
      have := Int.mul_nonneg hx (show 0 ≤ -y from by omega)
      rw [Int.mul_neg] at this
      omega
    · rw [show max y (-y) = y from by omega, show max x (-x) = -x from by omega, Int.mul_neg, Int.mul_comm y x]
      have := Int.mul_nonneg (show 0 ≤ -x from by omega) hy
      rw [Int.neg_mul] at this
      omega
    · rw [show max y (-y) = -y from by omega, show max x (-x) = -x from by omega, Int.neg_mul_neg, Int.mul_comm y x]
      have := Int.mul_nonneg (show 0 ≤ -x from by omega) (show 0 ≤ -y from by omega)
      rw [Int.neg_mul_neg] at this
      omega
  omega

theorem amt_of {x : Int} (h1 : -1000000000000 ≤ x) (h2 : x ≤ 1000000000000) : amtB x = true := by simp [amtB, h1, h2]
theorem finO_zero : finO 0 = (0, true) := by decide

theorem mulC_eq {x y : Int} (hx : amtB x = true) (hy : amtB y = true) : mulC x y = mulR x y := by
  unfold mulC mulR
  by_cases h0 : x = 0
  · subst h0
    rw [if_pos rfl, if_pos rfl, Int.zero_mul, wrap64 (by decide) (by decide), finO_zero]
  rw [if_neg h0, if_neg h0]
  obtain ⟨hq, hq1, hq2⟩ := qW_eq hx h0
  by_cases h1 : y = 0
  · subst h1
    rw [if_pos rfl, if_neg (by rw [absW_eq (by decide), hq]; omega), Int.mul_zero, wrap64 (by decide) (by decide), finO_zero]
  rw [if_neg h1]
  by_cases h2 : qW x < absW y
  · rw [if_pos h2, if_pos h2]
  · rw [if_neg h2, if_neg h2]
    rw [hq, absW_eq hy] at h2
    have := mul_le_M h0 (by omega : max y (-y) ≤ _)
    rw [wrap64 (by omega) (by omega)]
    unfold finO
    rw [if_pos (amt_of this.1 this.2)]

theorem op_eq (op a x y : Int) : opC op a x y = opR op a x y := by
  unfold opC opR opG
  by_cases hx : amtB x = true
  · rw [if_pos hx, if_pos hx]
    by_cases hy : amtB y = true
    · rw [if_pos hy, if_pos hy, mulC_eq hx hy]
    · rw [if_neg hy, if_neg hy]
  · rw [if_neg hx, if_neg hx]
end Go.Proofs.YtckffbklaepmpaaDoor
