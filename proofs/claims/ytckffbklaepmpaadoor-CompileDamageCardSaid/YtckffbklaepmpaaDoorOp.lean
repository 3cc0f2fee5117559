/- Walks of chapter 34: amounts, products, operations. -/
import Derived.Test.YtckffbklaepmpaaDoorCodeB
import Derived.Test.YtckffbklaepmpaaDoorApi
set_option linter.unusedSimpArgs false
set_option linter.unusedVariables false
set_option maxHeartbeats 1000000
set_option maxRecDepth 8000
namespace Go.Proofs.YtckffbklaepmpaaDoor
open E

def amtB (n : Int) : Bool := decide (-1000000000000 ≤ n) && decide (n ≤ 1000000000000)
def tru (b : Bool) : Int := if b then 1 else 0
def finO (n : Int) : Int × Bool := if amtB n = true then (n, true) else (0, false)
def absW (x : Int) : Int := max x (IntKind.i64.wrap (-x))
def qW (x : Int) : Int := IntKind.i64.wrap (Int.tdiv 1000000000000 (absW x))
def mulC (x y : Int) : Int × Bool := if x = 0 then (0, true) else if y = 0 then (0, true) else if qW x < absW y then (0, false) else (IntKind.i64.wrap (x * y), true)
def mulR (x y : Int) : Int × Bool := if x = 0 then finO (IntKind.i64.wrap (x * y)) else if qW x < absW y then (0, false) else finO (IntKind.i64.wrap (x * y))
def perW (x a : Int) : Int := IntKind.i64.wrap ((IntKind.i64.wrap (IntKind.i64.wrap (2 * absW x) + a)).tdiv (IntKind.i64.wrap (2 * a)))
def opG (mul : Int → Int → Int × Bool) (op a x y : Int) : Int × Bool :=
  if amtB x = true then if amtB y = true then
    if op = 5 then finO (IntKind.i64.wrap (-x)) else if op = 6 then finO (absW x) else if op = 8 then finO (tru (x == 0))
    else if op = 9 then if a < 1 then (0, false) else if amtB a = true then finO (if x < 0 then IntKind.i64.wrap (-(perW x a)) else perW x a) else (0, false)
    else if op = 10 then finO (IntKind.i64.wrap (x + y)) else if op = 11 then finO (IntKind.i64.wrap (x - y)) else if op = 12 then mul x y
    else if op = 13 then finO (min x y) else if op = 14 then finO (max x y)
    else if op = 15 then finO (tru (x != 0 && y != 0)) else if op = 16 then finO (tru (x != 0 || y != 0))
    else if op = 17 then finO (tru (decide (x < y))) else if op = 18 then finO (tru (decide (x ≤ y))) else if op = 19 then finO (tru (x == y))
    else if op = 20 then finO (tru (x != y)) else if op = 21 then finO (tru (decide (y ≤ x))) else if op = 22 then finO (tru (decide (y < x)))
    else (0, false)
  else (0, false) else (0, false)
abbrev opC := opG mulC
abbrev opR := opG mulR
def vO (r : Int × Bool) : V := .tup [vI r.1, vB r.2]

theorem w_amt (n : Int) : Pure Tryd.prog 35 [vI n] (vB (amtB n)) := by
  unfold amtB
  (refine Pure.of_code mix Tryd.call35 k_35 (by simp) (fun hB => ?_); (try simp at hB); (try simp -implicitDefEqProofs [c_compile_amount_35]))
  ((try simp -implicitDefEqProofs); repeat' first | ((first | with_reducible refine gdK_em (fun hc => ?_) (fun hc => ?_) | with_reducible refine cdK_em (fun hc => ?_) (fun hc => ?_) | with_reducible refine pickK_em (fun hc => ?_) (fun hc => ?_)) <;> (have hc' := hc; (try simp at hc'); simp -implicitDefEqProofs [hc, hc'])))
theorem w_tru (b : Bool) : Pure Tryd.prog 36 [vB b] (vI (tru b)) := by
  cases b <;> unfold tru
  · (refine Pure.of_code mix Tryd.call36 k_36 (by simp) (fun hB => ?_); (try simp at hB); (try simp -implicitDefEqProofs [c_compile_truth_36]))
    ((try simp -implicitDefEqProofs); repeat' first | ((first | with_reducible refine gdK_em (fun hc => ?_) (fun hc => ?_) | with_reducible refine cdK_em (fun hc => ?_) (fun hc => ?_) | with_reducible refine pickK_em (fun hc => ?_) (fun hc => ?_)) <;> (have hc' := hc; (try simp at hc'); simp -implicitDefEqProofs [hc, hc'])))
  · (refine Pure.of_code mix Tryd.call36 k_36 (by simp) (fun hB => ?_); (try simp at hB); (try simp -implicitDefEqProofs [c_compile_truth_36]))
    ((try simp -implicitDefEqProofs); repeat' first | ((first | with_reducible refine gdK_em (fun hc => ?_) (fun hc => ?_) | with_reducible refine cdK_em (fun hc => ?_) (fun hc => ?_) | with_reducible refine pickK_em (fun hc => ?_) (fun hc => ?_)) <;> (have hc' := hc; (try simp at hc'); simp -implicitDefEqProofs [hc, hc'])))
theorem amt_in {x : Int} (h : amtB x = true) : -1000000000000 ≤ x ∧ x ≤ 1000000000000 := by simpa [amtB] using h
theorem absW_eq {x : Int} (h : amtB x = true) : absW x = max x (-x) := by
  have := amt_in h
  unfold absW
  rw [wrap64 (by omega) (by omega)]

theorem w_prod (x y : Int) (hx : amtB x = true) : Pure Tryd.prog 37 [vI x, vI y] (vO (mulC x y)) := by
  have h0 : x ≠ 0 → ¬ absW x = 0 := by rw [absW_eq hx]; omega
  unfold mulC qW
  unfold absW at *
  (refine Pure.of_code mix Tryd.call37 k_37 (by simp) (fun hB => ?_); (try simp at hB); (try simp -implicitDefEqProofs [c_compile_product_37]))
  ((try simp -implicitDefEqProofs [vO]); repeat' first | ((first | with_reducible refine gdK_em (fun hc => ?_) (fun hc => ?_) | with_reducible refine cdK_em (fun hc => ?_) (fun hc => ?_) | with_reducible refine pickK_em (fun hc => ?_) (fun hc => ?_)) <;> (have hc' := hc; (try simp at hc'); simp -implicitDefEqProofs [hc, hc', vO])))
  all_goals (refine ⟨h0 (by assumption), ?_⟩; ((try simp -implicitDefEqProofs [vO]); repeat' first | ((first | with_reducible refine gdK_em (fun hc => ?_) (fun hc => ?_) | with_reducible refine cdK_em (fun hc => ?_) (fun hc => ?_) | with_reducible refine pickK_em (fun hc => ?_) (fun hc => ?_)) <;> (have hc' := hc; (try simp at hc'); simp -implicitDefEqProofs [hc, hc', vO]))))
  all_goals grind

theorem w_op (op a x y : Int) : Pure Tryd.prog 22 [vI op, vI a, vI x, vI y] (vO (opC op a x y)) := by
  unfold opC opG finO
  cases hx : amtB x
  · (refine Pure.of_code mix Tryd.call22 k_22 (by simp) (fun hB => ?_); (try simp at hB); (try simp -implicitDefEqProofs [c_compile_Operate_22, vO]))
    ((try simp -implicitDefEqProofs [vO, hx]); repeat' first | ((first | with_reducible refine gdK_em (fun hc => ?_) (fun hc => ?_) | with_reducible refine cdK_em (fun hc => ?_) (fun hc => ?_) | with_reducible refine pickK_em (fun hc => ?_) (fun hc => ?_)) <;> (have hc' := hc; (try simp at hc'); simp -implicitDefEqProofs [hc, hc', vO, hx])) | (with_reducible apply callK_pure <;> first | (simp only [eras, era, eras_map]; first | with_reducible exact (w_amt _) | simpa using (w_amt _)) | (simp -implicitDefEqProofs [vO, hx])))
  cases hy : amtB y
  · (refine Pure.of_code mix Tryd.call22 k_22 (by simp) (fun hB => ?_); (try simp at hB); (try simp -implicitDefEqProofs [c_compile_Operate_22, vO]))
    ((try simp -implicitDefEqProofs [vO, hx, hy]); repeat' first | ((first | with_reducible refine gdK_em (fun hc => ?_) (fun hc => ?_) | with_reducible refine cdK_em (fun hc => ?_) (fun hc => ?_) | with_reducible refine pickK_em (fun hc => ?_) (fun hc => ?_)) <;> (have hc' := hc; (try simp at hc'); simp -implicitDefEqProofs [hc, hc', vO, hx, hy])) | (with_reducible apply callK_pure <;> first | (simp only [eras, era, eras_map]; first | with_reducible exact (w_amt _) | simpa using (w_amt _)) | (simp -implicitDefEqProofs [vO, hx, hy])))
  unfold perW absW
  (refine Pure.of_code mix Tryd.call22 k_22 (by simp) (fun hB => ?_); (try simp at hB); (try simp -implicitDefEqProofs [c_compile_Operate_22, vO]))
  ((try simp -implicitDefEqProofs [vO, hx, hy]); repeat' first | ((first | with_reducible refine gdK_em (fun hc => ?_) (fun hc => ?_) | with_reducible refine cdK_em (fun hc => ?_) (fun hc => ?_) | with_reducible refine pickK_em (fun hc => ?_) (fun hc => ?_)) <;> (have hc' := hc; (try simp at hc'); simp -implicitDefEqProofs [hc, hc', vO, hx, hy])) | (with_reducible apply callK_pure <;> first | (simp only [eras, era, eras_map]; first | with_reducible exact (w_amt _) | with_reducible exact (w_tru _) | with_reducible exact (w_prod _ _ hx) | simpa using (w_amt _) | simpa using (w_tru _) | simpa using (w_prod _ _ hx)) | (simp -implicitDefEqProofs [vO, hx, hy])))
  all_goals
    have g1 : ¬ a < 1 := by omega
    have g2 : amtB a = true := by assumption
    refine ⟨by have := amt_in g2; rw [wrap64 (by omega) (by omega)]; omega, ?_⟩
    rcases Int.lt_or_le x 0 with g3 | g3
    · ((try simp -implicitDefEqProofs [vO, hx, hy, g1, g2, g3]); repeat' first | ((first | with_reducible refine gdK_em (fun hc => ?_) (fun hc => ?_) | with_reducible refine cdK_em (fun hc => ?_) (fun hc => ?_) | with_reducible refine pickK_em (fun hc => ?_) (fun hc => ?_)) <;> (have hc' := hc; (try simp at hc'); simp -implicitDefEqProofs [hc, hc', vO, hx, hy, g1, g2, g3])) | (with_reducible apply callK_pure <;> first | (simp only [eras, era, eras_map]; first | with_reducible exact (w_amt _) | simpa using (w_amt _)) | (simp -implicitDefEqProofs [vO, hx, hy, g1, g2, g3])))
    · have g4 : ¬ x < 0 := by omega
      ((try simp -implicitDefEqProofs [vO, hx, hy, g1, g2, g4]); repeat' first | ((first | with_reducible refine gdK_em (fun hc => ?_) (fun hc => ?_) | with_reducible refine cdK_em (fun hc => ?_) (fun hc => ?_) | with_reducible refine pickK_em (fun hc => ?_) (fun hc => ?_)) <;> (have hc' := hc; (try simp at hc'); simp -implicitDefEqProofs [hc, hc', vO, hx, hy, g1, g2, g4])) | (with_reducible apply callK_pure <;> first | (simp only [eras, era, eras_map]; first | with_reducible exact (w_amt _) | simpa using (w_amt _)) | (simp -implicitDefEqProofs [vO, hx, hy, g1, g2, g4])))

theorem amtB_zero : amtB 0 = true := by decide
end Go.Proofs.YtckffbklaepmpaaDoor
