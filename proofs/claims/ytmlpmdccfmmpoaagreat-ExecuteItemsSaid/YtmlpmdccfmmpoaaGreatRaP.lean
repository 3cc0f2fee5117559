/- Rounded quotients: plain. -/
import Derived.Test.YtmlpmdccfmmpoaaGreatInP
namespace Go.Proofs.YtmlpmdccfmmpoaaGreat
def rnd (a : Int) (q : Nat) : Int := if a < 0 then -(((2 * a.natAbs + q) / (2 * q) : Nat) : Int) else (((2 * a.natAbs + q) / (2 * q) : Nat) : Int)
theorem rnd_scaled {a : Int} {q g : Nat} (hg : 0 < g) : rnd (a * g) (q * g) = rnd a q := by
 have e : (2 * (a * g).natAbs + q * g) / (2 * (q * g)) = (2 * a.natAbs + q) / (2 * q) := by
  rw [Int.natAbs_mul, Int.natAbs_natCast, ← Nat.mul_assoc, ← Nat.mul_assoc, ← Nat.add_mul, Nat.mul_div_mul_right _ _ hg]
 unfold rnd
 rw [e]
 have hs : a * g < 0 ↔ a < 0 := by
  constructor
  ·intro h
   rcases Int.lt_or_le a 0 with h1 | h1
   ·exact h1
   ·have := Int.mul_nonneg h1 (Int.natCast_nonneg g); omega
  ·intro h
   exact Int.mul_neg_of_neg_of_pos h (by omega)
 by_cases h : a < 0
 ·rw [if_pos h, if_pos (hs.2 h)]
 ·rw [if_neg h, if_neg (fun x => h (hs.1 x))]
def lowN (a : Int) (q : Nat) : Int := a.tdiv (Nat.gcd a.natAbs q)
def lowD (a : Int) (q : Nat) : Nat := q / Nat.gcd a.natAbs q
theorem low_gcd {a : Int} {q : Nat} (hq : 0 < q) : 0 < Nat.gcd a.natAbs q := Nat.gcd_pos_of_pos_right _ hq
theorem low_num {a : Int} {q : Nat} : lowN a q * (Nat.gcd a.natAbs q : Nat) = a := by
 unfold lowN
 apply Int.tdiv_mul_cancel
 exact Int.ofNat_dvd_left.2 (Nat.gcd_dvd_left _ _)
theorem low_den {a : Int} {q : Nat} : lowD a q * Nat.gcd a.natAbs q = q := Nat.div_mul_cancel (Nat.gcd_dvd_right _ _)
theorem low_pos {a : Int} {q : Nat} (hq : 0 < q) : 0 < lowD a q := Nat.div_pos (Nat.le_of_dvd hq (Nat.gcd_dvd_right _ _)) (low_gcd hq)
theorem low_le {a : Int} {q : Nat} : lowD a q ≤ q := Nat.div_le_self _ _
theorem rnd_low {a : Int} {q : Nat} (hq : 0 < q) : rnd (lowN a q) (lowD a q) = rnd a q := by
 rw [← rnd_scaled (low_gcd (a := a) hq), low_num, low_den]
theorem low_abs {a : Int} {q : Nat} (hq : 0 < q) : (lowN a q).natAbs ≤ a.natAbs := by
 have h := congrArg Int.natAbs (low_num (a := a) (q := q))
 rw [Int.natAbs_mul, Int.natAbs_natCast] at h
 rw [← h]
 exact Nat.le_mul_of_pos_right _ (low_gcd hq)
theorem rnd_abs {a : Int} {q : Nat} (hq : 0 < q) : (rnd a q).natAbs ≤ a.natAbs + 1 := by
 have h : (2 * a.natAbs + q) / (2 * q) ≤ a.natAbs + 1 := by
  rw [Nat.div_le_iff_le_mul_add_pred (by omega)]
  have : 2 * q * (a.natAbs + 1) = 2 * (q * a.natAbs) + 2 * q := by rw [Nat.mul_add, Nat.mul_assoc]; omega
  have h2 : 1 * a.natAbs ≤ q * a.natAbs := Nat.mul_le_mul_right _ hq
  omega
 unfold rnd
 generalize (2 * a.natAbs + q) / (2 * q) = z at *
 split <;> omega
theorem rnd_tdiv {a : Int} {q : Nat} : (2 * a + (if a < 0 then -(q : Int) else q)).tdiv (2 * q) = rnd a q := by
 unfold rnd
 by_cases h : a < 0
 ·rw [if_pos h, if_pos h]
  have e : 2 * a + -(q : Int) = -((2 * a.natAbs + q : Nat) : Int) := by omega
  rw [e, Int.neg_tdiv]
  congr 1
 ·rw [if_neg h, if_neg h]
  have e : 2 * a + (q : Int) = ((2 * a.natAbs + q : Nat) : Int) := by omega
  rw [e]
  rfl
end Go.Proofs.YtmlpmdccfmmpoaaGreat
